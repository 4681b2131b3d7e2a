/-
  No cell of these rows narrows 'for every input' (looked for: loops, veiled, ifaces, maps, wideKeys, modest, calm, conditions, laid).
  DERIVED. THE GIVEN ROWS OF THIS SEAT. 5 by the template 'for every input the law returns true; each argument reads behind the call as it read before'; 0 by the template 'total and deterministic' (their statements: YtnfclphlpdbbpaaTotals.lean).
  GIVEN WITH THE SEED: the statements are not yours to turn. If you find one false, say at which input.
  Laid BY PROGRAM, IN A SANDBOX (cutbox-rows.mjs): the forced cells as the released guide's own fill.sh prints them over the translation f7ce9581a1577b75… (all of the seat's roots in one cut). By AI agents, Wed Nov 11 2026. No macro, syntax, notation, axiom, sorry.
-/
import Derived.Test.YtnfclphlpdbbpaaChecked
import GoSem.Claim
import GoSem.ClaimJoined
import GoSem.ClaimMapViews
import Derived.JoinedTies
import Derived.KernelRfl
namespace Go.Proofs.Ytnfclphlpdbbpaa
/- THE CELL 'sum', in the pinned program and in every row, IS THE sha256 OF THE DUMP (.gsa) THAT YtnfclphlpdbbpaaProg.lean LOADS. Nothing in Lean hashes anything: it is a label: what it is worth is what the hold of that sum in a sandbox is worth. -/
noncomputable def Try.pinned : Pinned := { name := "ytnfclphlpdbbpaa", sum := "f7ce9581a1577b75e9b408d16f46c04ccfe8bd5d4733beb26c9dd594a631e1c0", checked := Try.checked }
namespace Rows
def none {H : Type} : Left H := { results := [], args := [] }

/-- 'umpiragelaw6.TimesTrue': WHATEVER THE INPUT: true; the input reads as it did. -/
def timesTrueSpec : ChangeSpec := { name := "timesTrue", fn := fun _ => fun
  | [d1, d2, d3] => { results := [.lit (.bool true)], args := [d1, d2, d3] }
  | _ => none }
def timesTrueRow : OpenClaim := { program := "ytnfclphlpdbbpaa", sum := "f7ce9581a1577b75e9b408d16f46c04ccfe8bd5d4733beb26c9dd594a631e1c0", func := "umpirage/umpiragelaw6.TimesTrue", spec := "timesTrue", recurses := true, apart := false }
def TimesTrueSaid : Prop := timesTrueRow.holds Try.pinned (OpenSpec.ofChange timesTrueSpec)

/-- ITS FALSE NEIGHBOUR: 'it returns false'. Refute it at one input. -/
def timesTrueWrong : ChangeSpec := { name := "timesTrue", fn := fun _ => fun
  | [d1, d2, d3] => { results := [.lit (.bool false)], args := [d1, d2, d3] }
  | _ => none }
def TimesTrueWrongFalsely : Prop := timesTrueRow.holds Try.pinned (OpenSpec.ofChange timesTrueWrong)

/-- 'umpiragelaw6.TimesLeast': WHATEVER THE INPUT: true; the input reads as it did. -/
def timesLeastSpec : ChangeSpec := { name := "timesLeast", fn := fun _ => fun
  | [d1, d2] => { results := [.lit (.bool true)], args := [d1, d2] }
  | _ => none }
def timesLeastRow : OpenClaim := { program := "ytnfclphlpdbbpaa", sum := "f7ce9581a1577b75e9b408d16f46c04ccfe8bd5d4733beb26c9dd594a631e1c0", func := "umpirage/umpiragelaw6.TimesLeast", spec := "timesLeast", recurses := true, apart := false }
def TimesLeastSaid : Prop := timesLeastRow.holds Try.pinned (OpenSpec.ofChange timesLeastSpec)

/-- ITS FALSE NEIGHBOUR: 'it returns false'. Refute it at one input. -/
def timesLeastWrong : ChangeSpec := { name := "timesLeast", fn := fun _ => fun
  | [d1, d2] => { results := [.lit (.bool false)], args := [d1, d2] }
  | _ => none }
def TimesLeastWrongFalsely : Prop := timesLeastRow.holds Try.pinned (OpenSpec.ofChange timesLeastWrong)

/-- 'umpiragelaw6.TimesMore': WHATEVER THE INPUT: true; the input reads as it did. -/
def timesMoreSpec : ChangeSpec := { name := "timesMore", fn := fun _ => fun
  | [d1, d2, d3, d4] => { results := [.lit (.bool true)], args := [d1, d2, d3, d4] }
  | _ => none }
def timesMoreRow : OpenClaim := { program := "ytnfclphlpdbbpaa", sum := "f7ce9581a1577b75e9b408d16f46c04ccfe8bd5d4733beb26c9dd594a631e1c0", func := "umpirage/umpiragelaw6.TimesMore", spec := "timesMore", recurses := true, apart := false }
def TimesMoreSaid : Prop := timesMoreRow.holds Try.pinned (OpenSpec.ofChange timesMoreSpec)

/-- ITS FALSE NEIGHBOUR: 'it returns false'. Refute it at one input. -/
def timesMoreWrong : ChangeSpec := { name := "timesMore", fn := fun _ => fun
  | [d1, d2, d3, d4] => { results := [.lit (.bool false)], args := [d1, d2, d3, d4] }
  | _ => none }
def TimesMoreWrongFalsely : Prop := timesMoreRow.holds Try.pinned (OpenSpec.ofChange timesMoreWrong)

/-- 'umpiragelaw6.TimesSays': WHATEVER THE INPUT: true; the input reads as it did. -/
def timesSaysSpec : ChangeSpec := { name := "timesSays", fn := fun _ => fun
  | [d1, d2, d3] => { results := [.lit (.bool true)], args := [d1, d2, d3] }
  | _ => none }
def timesSaysRow : OpenClaim := { program := "ytnfclphlpdbbpaa", sum := "f7ce9581a1577b75e9b408d16f46c04ccfe8bd5d4733beb26c9dd594a631e1c0", func := "umpirage/umpiragelaw6.TimesSays", spec := "timesSays", unfollowed := true, recurses := true, apart := false }
def TimesSaysSaid : Prop := timesSaysRow.holds Try.pinned (OpenSpec.ofChange timesSaysSpec)

/-- ITS FALSE NEIGHBOUR: 'it returns false'. Refute it at one input. -/
def timesSaysWrong : ChangeSpec := { name := "timesSays", fn := fun _ => fun
  | [d1, d2, d3] => { results := [.lit (.bool false)], args := [d1, d2, d3] }
  | _ => none }
def TimesSaysWrongFalsely : Prop := timesSaysRow.holds Try.pinned (OpenSpec.ofChange timesSaysWrong)

/-- 'umpiragelaw6.TimesBelow': WHATEVER THE INPUT: true; the input reads as it did. -/
def timesBelowSpec : ChangeSpec := { name := "timesBelow", fn := fun _ => fun
  | [d1, d2, d3] => { results := [.lit (.bool true)], args := [d1, d2, d3] }
  | _ => none }
def timesBelowRow : OpenClaim := { program := "ytnfclphlpdbbpaa", sum := "f7ce9581a1577b75e9b408d16f46c04ccfe8bd5d4733beb26c9dd594a631e1c0", func := "umpirage/umpiragelaw6.TimesBelow", spec := "timesBelow", unfollowed := true, recurses := true, apart := false }
def TimesBelowSaid : Prop := timesBelowRow.holds Try.pinned (OpenSpec.ofChange timesBelowSpec)

/-- ITS FALSE NEIGHBOUR: 'it returns false'. Refute it at one input. -/
def timesBelowWrong : ChangeSpec := { name := "timesBelow", fn := fun _ => fun
  | [d1, d2, d3] => { results := [.lit (.bool false)], args := [d1, d2, d3] }
  | _ => none }
def TimesBelowWrongFalsely : Prop := timesBelowRow.holds Try.pinned (OpenSpec.ofChange timesBelowWrong)

/- THE SECOND FORM. 'bulk': how many values and letters a reading holds, each counted each time it is reached (what is shared counts as often as it is met; a slice's spare places count too). A statement '..UptoSaid' is the law's where the arguments, and the package variables that the reading takes, are together of bulk at most 1048576: NARROWER than '..Said'. Prove '..Said' where nothing that the law and all that it calls make is longer than what came in: it says more and counts as full. Else prove '..UptoSaid'. A law counts once. -/
mutual
def uptoBulk {H : Type} : DataW H → Nat
  | .lit (.string bytes) => bytes.length + 1
  | .lit _ => 1
  | .nil => 1
  | .ptr d => uptoBulk d + 1
  | .slice elems spare => uptoBulkAll elems + uptoBulkAll spare + 1
  | .agg parts => uptoBulkAll parts + 1
  | .iface _ d => uptoBulk d + 1
  | .map entries => uptoBulkEntries entries + 1
  | .held _ => 1
def uptoBulkAll {H : Type} : List (DataW H) → Nat
  | [] => 0
  | d :: r => uptoBulk d + uptoBulkAll r
def uptoBulkEntries {H : Type} : List (Lit × DataW H) → Nat
  | [] => 0
  | x :: r => uptoBulkEntry x + uptoBulkEntries r
def uptoBulkEntry {H : Type} : Lit × DataW H → Nat
  | (.string bytes, d) => bytes.length + uptoBulk d + 1
  | (_, d) => uptoBulk d + 1
 end
def uptoSmall : (H : Type) → List (DataW H) → Bool := fun _ ds => decide (uptoBulkAll ds ≤ 1048576)
def OpenSpec.upto (s : _root_.Go.ChangeSpec) : _root_.Go.OpenSpec := { _root_.Go.OpenSpec.ofChange s with cond := some uptoSmall }

/-- 'umpiragelaw6.TimesTrue', WHERE WHAT IT READS IS OF BULK AT MOST 1048576: true; the input reads as it did. -/
def timesTrueUptoRow : OpenClaim := { program := "ytnfclphlpdbbpaa", sum := "f7ce9581a1577b75e9b408d16f46c04ccfe8bd5d4733beb26c9dd594a631e1c0", func := "umpirage/umpiragelaw6.TimesTrue", spec := "timesTrue", recurses := true, apart := false, narrowed := true }
def TimesTrueUptoSaid : Prop := timesTrueUptoRow.holds Try.pinned (OpenSpec.upto timesTrueSpec)

/-- 'umpiragelaw6.TimesLeast', WHERE WHAT IT READS IS OF BULK AT MOST 1048576: true; the input reads as it did. -/
def timesLeastUptoRow : OpenClaim := { program := "ytnfclphlpdbbpaa", sum := "f7ce9581a1577b75e9b408d16f46c04ccfe8bd5d4733beb26c9dd594a631e1c0", func := "umpirage/umpiragelaw6.TimesLeast", spec := "timesLeast", recurses := true, apart := false, narrowed := true }
def TimesLeastUptoSaid : Prop := timesLeastUptoRow.holds Try.pinned (OpenSpec.upto timesLeastSpec)

/-- 'umpiragelaw6.TimesMore', WHERE WHAT IT READS IS OF BULK AT MOST 1048576: true; the input reads as it did. -/
def timesMoreUptoRow : OpenClaim := { program := "ytnfclphlpdbbpaa", sum := "f7ce9581a1577b75e9b408d16f46c04ccfe8bd5d4733beb26c9dd594a631e1c0", func := "umpirage/umpiragelaw6.TimesMore", spec := "timesMore", recurses := true, apart := false, narrowed := true }
def TimesMoreUptoSaid : Prop := timesMoreUptoRow.holds Try.pinned (OpenSpec.upto timesMoreSpec)

/-- 'umpiragelaw6.TimesSays', WHERE WHAT IT READS IS OF BULK AT MOST 1048576: true; the input reads as it did. -/
def timesSaysUptoRow : OpenClaim := { program := "ytnfclphlpdbbpaa", sum := "f7ce9581a1577b75e9b408d16f46c04ccfe8bd5d4733beb26c9dd594a631e1c0", func := "umpirage/umpiragelaw6.TimesSays", spec := "timesSays", unfollowed := true, recurses := true, apart := false, narrowed := true }
def TimesSaysUptoSaid : Prop := timesSaysUptoRow.holds Try.pinned (OpenSpec.upto timesSaysSpec)

/-- 'umpiragelaw6.TimesBelow', WHERE WHAT IT READS IS OF BULK AT MOST 1048576: true; the input reads as it did. -/
def timesBelowUptoRow : OpenClaim := { program := "ytnfclphlpdbbpaa", sum := "f7ce9581a1577b75e9b408d16f46c04ccfe8bd5d4733beb26c9dd594a631e1c0", func := "umpirage/umpiragelaw6.TimesBelow", spec := "timesBelow", unfollowed := true, recurses := true, apart := false, narrowed := true }
def TimesBelowUptoSaid : Prop := timesBelowUptoRow.holds Try.pinned (OpenSpec.upto timesBelowSpec)

end Rows
end Go.Proofs.Ytnfclphlpdbbpaa
