/-
  No cell of these rows narrows 'for every input' (looked for: loops, veiled, ifaces, maps, wideKeys, modest, calm, conditions, laid).
  DERIVED. THE GIVEN ROWS OF THIS SEAT. 4 by the template 'for every input the law returns true; each argument reads behind the call as it read before'; 0 by the template 'total and deterministic' (their statements: YticjdhgokemdlaaGreatTotals.lean).
  GIVEN WITH THE SEED: the statements are not yours to turn. If you find one false, say at which input.
  Laid BY PROGRAM, IN A SANDBOX (cutbox-rows.mjs): the forced cells as the released guide's own fill.sh prints them over the translation 22acc53f30d53ad0… (all of the seat's roots in one cut). By AI agents, Wed Nov 11 2026. No macro, syntax, notation, axiom, sorry.
-/
import Derived.Test.YticjdhgokemdlaaGreatChecked
import GoSem.Claim
import GoSem.ClaimJoined
import GoSem.ClaimMapViews
import Derived.JoinedTies
import Derived.KernelRfl
namespace Go.Proofs.YticjdhgokemdlaaGreat
/- THE CELL 'sum', in the pinned program and in every row, IS THE sha256 OF THE DUMP (.gsa) THAT YticjdhgokemdlaaGreatProg.lean LOADS. Nothing in Lean hashes anything: it is a label: what it is worth is what the hold of that sum in a sandbox is worth. -/
noncomputable def Tryz.pinned : Pinned := { name := "yticjdhgokemdlaagreat", sum := "22acc53f30d53ad060cc8044dad4faa07a01e29ad3821b5ae866487838775570", checked := Tryz.checked }
namespace Rows
def none {H : Type} : Left H := { results := [], args := [] }

/-- 'umpiragelaw6.MostTakes': WHATEVER THE INPUT: true; the input reads as it did. -/
def mostTakesSpec : ChangeSpec := { name := "mostTakes", fn := fun _ => fun
  | [d1, d2, d3, d4, d5, d6] => { results := [.lit (.bool true)], args := [d1, d2, d3, d4, d5, d6] }
  | _ => none }
def mostTakesRow : OpenClaim := { program := "yticjdhgokemdlaagreat", sum := "22acc53f30d53ad060cc8044dad4faa07a01e29ad3821b5ae866487838775570", func := "umpirage/umpiragelaw6.MostTakes", spec := "mostTakes", unfollowed := true, recurses := true, apart := false }
def MostTakesSaid : Prop := mostTakesRow.holds Tryz.pinned (OpenSpec.ofChange mostTakesSpec)

/-- ITS FALSE NEIGHBOUR: 'it returns false'. Refute it at one input. -/
def mostTakesWrong : ChangeSpec := { name := "mostTakes", fn := fun _ => fun
  | [d1, d2, d3, d4, d5, d6] => { results := [.lit (.bool false)], args := [d1, d2, d3, d4, d5, d6] }
  | _ => none }
def MostTakesWrongFalsely : Prop := mostTakesRow.holds Tryz.pinned (OpenSpec.ofChange mostTakesWrong)

/-- 'umpiragelaw6.MostWeak': WHATEVER THE INPUT: true; the input reads as it did. -/
def mostWeakSpec : ChangeSpec := { name := "mostWeak", fn := fun _ => fun
  | [d1, d2, d3, d4, d5, d6, d7] => { results := [.lit (.bool true)], args := [d1, d2, d3, d4, d5, d6, d7] }
  | _ => none }
def mostWeakRow : OpenClaim := { program := "yticjdhgokemdlaagreat", sum := "22acc53f30d53ad060cc8044dad4faa07a01e29ad3821b5ae866487838775570", func := "umpirage/umpiragelaw6.MostWeak", spec := "mostWeak", unfollowed := true, recurses := true, apart := false }
def MostWeakSaid : Prop := mostWeakRow.holds Tryz.pinned (OpenSpec.ofChange mostWeakSpec)

/-- ITS FALSE NEIGHBOUR: 'it returns false'. Refute it at one input. -/
def mostWeakWrong : ChangeSpec := { name := "mostWeak", fn := fun _ => fun
  | [d1, d2, d3, d4, d5, d6, d7] => { results := [.lit (.bool false)], args := [d1, d2, d3, d4, d5, d6, d7] }
  | _ => none }
def MostWeakWrongFalsely : Prop := mostWeakRow.holds Tryz.pinned (OpenSpec.ofChange mostWeakWrong)

/-- 'umpiragelaw6.MostTwice': WHATEVER THE INPUT: true; the input reads as it did. -/
def mostTwiceSpec : ChangeSpec := { name := "mostTwice", fn := fun _ => fun
  | [d1, d2, d3, d4] => { results := [.lit (.bool true)], args := [d1, d2, d3, d4] }
  | _ => none }
def mostTwiceRow : OpenClaim := { program := "yticjdhgokemdlaagreat", sum := "22acc53f30d53ad060cc8044dad4faa07a01e29ad3821b5ae866487838775570", func := "umpirage/umpiragelaw6.MostTwice", spec := "mostTwice", unfollowed := true, recurses := true, apart := false }
def MostTwiceSaid : Prop := mostTwiceRow.holds Tryz.pinned (OpenSpec.ofChange mostTwiceSpec)

/-- ITS FALSE NEIGHBOUR: 'it returns false'. Refute it at one input. -/
def mostTwiceWrong : ChangeSpec := { name := "mostTwice", fn := fun _ => fun
  | [d1, d2, d3, d4] => { results := [.lit (.bool false)], args := [d1, d2, d3, d4] }
  | _ => none }
def MostTwiceWrongFalsely : Prop := mostTwiceRow.holds Tryz.pinned (OpenSpec.ofChange mostTwiceWrong)

/-- 'umpiragelaw6.MostTrue': WHATEVER THE INPUT: true; the input reads as it did. -/
def mostTrueSpec : ChangeSpec := { name := "mostTrue", fn := fun _ => fun
  | [d1, d2, d3, d4] => { results := [.lit (.bool true)], args := [d1, d2, d3, d4] }
  | _ => none }
def mostTrueRow : OpenClaim := { program := "yticjdhgokemdlaagreat", sum := "22acc53f30d53ad060cc8044dad4faa07a01e29ad3821b5ae866487838775570", func := "umpirage/umpiragelaw6.MostTrue", spec := "mostTrue", unfollowed := true, recurses := true, apart := false }
def MostTrueSaid : Prop := mostTrueRow.holds Tryz.pinned (OpenSpec.ofChange mostTrueSpec)

/-- ITS FALSE NEIGHBOUR: 'it returns false'. Refute it at one input. -/
def mostTrueWrong : ChangeSpec := { name := "mostTrue", fn := fun _ => fun
  | [d1, d2, d3, d4] => { results := [.lit (.bool false)], args := [d1, d2, d3, d4] }
  | _ => none }
def MostTrueWrongFalsely : Prop := mostTrueRow.holds Tryz.pinned (OpenSpec.ofChange mostTrueWrong)

/- THE SECOND FORM. 'bulk': how many values and letters a reading holds, each counted each time it is reached (what is shared counts as often as it is met; a slice's spare places count too). A statement '..UptoSaid' is the law's where the arguments, and the package variables that the reading takes, are together of bulk at most 1048576: NARROWER than '..Said'. Prove '..Said' where nothing that the law and all that it calls make is longer than what came in: it says more and counts as full. Else prove '..UptoSaid'. A law counts once. -/
mutual
def uptoBulk {H : Type} : DataW H → Nat
  | .lit (.string bytes) => bytes.length + 1
  | .lit _ => 1
  | .nil => 1
  | .ptr d => uptoBulk d + 1
  | .slice elems spare => uptoBulkAll elems + uptoBulkAll spare + 1
  | .agg parts => uptoBulkAll parts + 1
  | .iface _ d => uptoBulk d + 1
  | .map entries => uptoBulkEntries entries + 1
  | .held _ => 1
def uptoBulkAll {H : Type} : List (DataW H) → Nat
  | [] => 0
  | d :: r => uptoBulk d + uptoBulkAll r
def uptoBulkEntries {H : Type} : List (Lit × DataW H) → Nat
  | [] => 0
  | x :: r => uptoBulkEntry x + uptoBulkEntries r
def uptoBulkEntry {H : Type} : Lit × DataW H → Nat
  | (.string bytes, d) => bytes.length + uptoBulk d + 1
  | (_, d) => uptoBulk d + 1
 end
def uptoSmall : (H : Type) → List (DataW H) → Bool := fun _ ds => decide (uptoBulkAll ds ≤ 1048576)
def OpenSpec.upto (s : _root_.Go.ChangeSpec) : _root_.Go.OpenSpec := { _root_.Go.OpenSpec.ofChange s with cond := some uptoSmall }

/-- 'umpiragelaw6.MostTakes', WHERE WHAT IT READS IS OF BULK AT MOST 1048576: true; the input reads as it did. -/
def mostTakesUptoRow : OpenClaim := { program := "yticjdhgokemdlaagreat", sum := "22acc53f30d53ad060cc8044dad4faa07a01e29ad3821b5ae866487838775570", func := "umpirage/umpiragelaw6.MostTakes", spec := "mostTakes", unfollowed := true, recurses := true, apart := false, narrowed := true }
def MostTakesUptoSaid : Prop := mostTakesUptoRow.holds Tryz.pinned (OpenSpec.upto mostTakesSpec)

/-- 'umpiragelaw6.MostWeak', WHERE WHAT IT READS IS OF BULK AT MOST 1048576: true; the input reads as it did. -/
def mostWeakUptoRow : OpenClaim := { program := "yticjdhgokemdlaagreat", sum := "22acc53f30d53ad060cc8044dad4faa07a01e29ad3821b5ae866487838775570", func := "umpirage/umpiragelaw6.MostWeak", spec := "mostWeak", unfollowed := true, recurses := true, apart := false, narrowed := true }
def MostWeakUptoSaid : Prop := mostWeakUptoRow.holds Tryz.pinned (OpenSpec.upto mostWeakSpec)

/-- 'umpiragelaw6.MostTwice', WHERE WHAT IT READS IS OF BULK AT MOST 1048576: true; the input reads as it did. -/
def mostTwiceUptoRow : OpenClaim := { program := "yticjdhgokemdlaagreat", sum := "22acc53f30d53ad060cc8044dad4faa07a01e29ad3821b5ae866487838775570", func := "umpirage/umpiragelaw6.MostTwice", spec := "mostTwice", unfollowed := true, recurses := true, apart := false, narrowed := true }
def MostTwiceUptoSaid : Prop := mostTwiceUptoRow.holds Tryz.pinned (OpenSpec.upto mostTwiceSpec)

/-- 'umpiragelaw6.MostTrue', WHERE WHAT IT READS IS OF BULK AT MOST 1048576: true; the input reads as it did. -/
def mostTrueUptoRow : OpenClaim := { program := "yticjdhgokemdlaagreat", sum := "22acc53f30d53ad060cc8044dad4faa07a01e29ad3821b5ae866487838775570", func := "umpirage/umpiragelaw6.MostTrue", spec := "mostTrue", unfollowed := true, recurses := true, apart := false, narrowed := true }
def MostTrueUptoSaid : Prop := mostTrueUptoRow.holds Tryz.pinned (OpenSpec.upto mostTrueSpec)

end Rows
end Go.Proofs.YticjdhgokemdlaaGreat
