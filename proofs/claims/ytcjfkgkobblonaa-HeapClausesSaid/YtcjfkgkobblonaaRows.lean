/-
  No cell of these rows narrows 'for every input' (looked for: loops, veiled, ifaces, maps, wideKeys, modest, calm, conditions, laid).
  DERIVED. THE GIVEN ROWS OF THIS SEAT. 5 by the template 'for every input the law returns true; each argument reads behind the call as it read before'; 0 by the template 'total and deterministic' (their statements: YtcjfkgkobblonaaTotals.lean).
  GIVEN WITH THE SEED: the statements are not yours to turn. If you find one false, say at which input.
  Laid BY PROGRAM, IN A SANDBOX (cutbox-rows.mjs): the forced cells as the released guide's own fill.sh prints them over the translation 33c1d7189ad16dad… (all of the seat's roots in one cut). By AI agents, Wed Nov 11 2026. No macro, syntax, notation, axiom, sorry.
-/
import Derived.Test.YtcjfkgkobblonaaChecked
import GoSem.Claim
import GoSem.ClaimJoined
import GoSem.ClaimMapViews
import Derived.JoinedTies
import Derived.KernelRfl
namespace Go.Proofs.Ytcjfkgkobblonaa
/- THE CELL 'sum', in the pinned program and in every row, IS THE sha256 OF THE DUMP (.gsa) THAT YtcjfkgkobblonaaProg.lean LOADS. Nothing in Lean hashes anything: it is a label: what it is worth is what the hold of that sum in a sandbox is worth. -/
noncomputable def Try.pinned : Pinned := { name := "ytcjfkgkobblonaa", sum := "33c1d7189ad16dad772afe5d561917d27ac23753878fd1537ad8f6d067c62f3d", checked := Try.checked }
namespace Rows
def none {H : Type} : Left H := { results := [], args := [] }

/-- 'umpiragelaw6.HeapTidied': WHATEVER THE INPUT: true; the input reads as it did. -/
def heapTidiedSpec : ChangeSpec := { name := "heapTidied", fn := fun _ => fun
  | [d1, d2] => { results := [.lit (.bool true)], args := [d1, d2] }
  | _ => none }
def heapTidiedRow : OpenClaim := { program := "ytcjfkgkobblonaa", sum := "33c1d7189ad16dad772afe5d561917d27ac23753878fd1537ad8f6d067c62f3d", func := "umpirage/umpiragelaw6.HeapTidied", spec := "heapTidied", unfollowed := true, recurses := true, plainKeys := false, apart := false }
def HeapTidiedSaid : Prop := heapTidiedRow.holds Try.pinned (OpenSpec.ofChange heapTidiedSpec)

/-- ITS FALSE NEIGHBOUR: 'it returns false'. Refute it at one input. -/
def heapTidiedWrong : ChangeSpec := { name := "heapTidied", fn := fun _ => fun
  | [d1, d2] => { results := [.lit (.bool false)], args := [d1, d2] }
  | _ => none }
def HeapTidiedWrongFalsely : Prop := heapTidiedRow.holds Try.pinned (OpenSpec.ofChange heapTidiedWrong)

/-- 'umpiragelaw6.HeapAdds': WHATEVER THE INPUT: true; the input reads as it did. -/
def heapAddsSpec : ChangeSpec := { name := "heapAdds", fn := fun _ => fun
  | [d1, d2, d3, d4] => { results := [.lit (.bool true)], args := [d1, d2, d3, d4] }
  | _ => none }
def heapAddsRow : OpenClaim := { program := "ytcjfkgkobblonaa", sum := "33c1d7189ad16dad772afe5d561917d27ac23753878fd1537ad8f6d067c62f3d", func := "umpirage/umpiragelaw6.HeapAdds", spec := "heapAdds", unfollowed := true, recurses := true, plainKeys := false, apart := false }
def HeapAddsSaid : Prop := heapAddsRow.holds Try.pinned (OpenSpec.ofChange heapAddsSpec)

/-- ITS FALSE NEIGHBOUR: 'it returns false'. Refute it at one input. -/
def heapAddsWrong : ChangeSpec := { name := "heapAdds", fn := fun _ => fun
  | [d1, d2, d3, d4] => { results := [.lit (.bool false)], args := [d1, d2, d3, d4] }
  | _ => none }
def HeapAddsWrongFalsely : Prop := heapAddsRow.holds Try.pinned (OpenSpec.ofChange heapAddsWrong)

/-- 'umpiragelaw6.HeapSays': WHATEVER THE INPUT: true; the input reads as it did. -/
def heapSaysSpec : ChangeSpec := { name := "heapSays", fn := fun _ => fun
  | [d1, d2, d3, d4, d5] => { results := [.lit (.bool true)], args := [d1, d2, d3, d4, d5] }
  | _ => none }
def heapSaysRow : OpenClaim := { program := "ytcjfkgkobblonaa", sum := "33c1d7189ad16dad772afe5d561917d27ac23753878fd1537ad8f6d067c62f3d", func := "umpirage/umpiragelaw6.HeapSays", spec := "heapSays", unfollowed := true, recurses := true, plainKeys := false, apart := false }
def HeapSaysSaid : Prop := heapSaysRow.holds Try.pinned (OpenSpec.ofChange heapSaysSpec)

/-- ITS FALSE NEIGHBOUR: 'it returns false'. Refute it at one input. -/
def heapSaysWrong : ChangeSpec := { name := "heapSays", fn := fun _ => fun
  | [d1, d2, d3, d4, d5] => { results := [.lit (.bool false)], args := [d1, d2, d3, d4, d5] }
  | _ => none }
def HeapSaysWrongFalsely : Prop := heapSaysRow.holds Try.pinned (OpenSpec.ofChange heapSaysWrong)

/-- 'umpiragelaw6.HeapCuts': WHATEVER THE INPUT: true; the input reads as it did. -/
def heapCutsSpec : ChangeSpec := { name := "heapCuts", fn := fun _ => fun
  | [d1, d2, d3, d4] => { results := [.lit (.bool true)], args := [d1, d2, d3, d4] }
  | _ => none }
def heapCutsRow : OpenClaim := { program := "ytcjfkgkobblonaa", sum := "33c1d7189ad16dad772afe5d561917d27ac23753878fd1537ad8f6d067c62f3d", func := "umpirage/umpiragelaw6.HeapCuts", spec := "heapCuts", unfollowed := true, recurses := true, plainKeys := false, apart := false }
def HeapCutsSaid : Prop := heapCutsRow.holds Try.pinned (OpenSpec.ofChange heapCutsSpec)

/-- ITS FALSE NEIGHBOUR: 'it returns false'. Refute it at one input. -/
def heapCutsWrong : ChangeSpec := { name := "heapCuts", fn := fun _ => fun
  | [d1, d2, d3, d4] => { results := [.lit (.bool false)], args := [d1, d2, d3, d4] }
  | _ => none }
def HeapCutsWrongFalsely : Prop := heapCutsRow.holds Try.pinned (OpenSpec.ofChange heapCutsWrong)

/-- 'umpiragelaw6.HeapClauses': WHATEVER THE INPUT: true; the input reads as it did. -/
def heapClausesSpec : ChangeSpec := { name := "heapClauses", fn := fun _ => fun
  | [d1, d2] => { results := [.lit (.bool true)], args := [d1, d2] }
  | _ => none }
def heapClausesRow : OpenClaim := { program := "ytcjfkgkobblonaa", sum := "33c1d7189ad16dad772afe5d561917d27ac23753878fd1537ad8f6d067c62f3d", func := "umpirage/umpiragelaw6.HeapClauses", spec := "heapClauses", unfollowed := true, recurses := true, plainKeys := false, apart := false }
def HeapClausesSaid : Prop := heapClausesRow.holds Try.pinned (OpenSpec.ofChange heapClausesSpec)

/-- ITS FALSE NEIGHBOUR: 'it returns false'. Refute it at one input. -/
def heapClausesWrong : ChangeSpec := { name := "heapClauses", fn := fun _ => fun
  | [d1, d2] => { results := [.lit (.bool false)], args := [d1, d2] }
  | _ => none }
def HeapClausesWrongFalsely : Prop := heapClausesRow.holds Try.pinned (OpenSpec.ofChange heapClausesWrong)

/- THE SECOND FORM. 'bulk': how many values and letters a reading holds, each counted each time it is reached (what is shared counts as often as it is met; a slice's spare places count too). A statement '..UptoSaid' is the law's where the arguments, and the package variables that the reading takes, are together of bulk at most 1048576: NARROWER than '..Said'. Prove '..Said' where nothing that the law and all that it calls make is longer than what came in: it says more and counts as full. Else prove '..UptoSaid'. A law counts once. -/
mutual
def uptoBulk {H : Type} : DataW H → Nat
  | .lit (.string bytes) => bytes.length + 1
  | .lit _ => 1
  | .nil => 1
  | .ptr d => uptoBulk d + 1
  | .slice elems spare => uptoBulkAll elems + uptoBulkAll spare + 1
  | .agg parts => uptoBulkAll parts + 1
  | .iface _ d => uptoBulk d + 1
  | .map entries => uptoBulkEntries entries + 1
  | .held _ => 1
def uptoBulkAll {H : Type} : List (DataW H) → Nat
  | [] => 0
  | d :: r => uptoBulk d + uptoBulkAll r
def uptoBulkEntries {H : Type} : List (Lit × DataW H) → Nat
  | [] => 0
  | x :: r => uptoBulkEntry x + uptoBulkEntries r
def uptoBulkEntry {H : Type} : Lit × DataW H → Nat
  | (.string bytes, d) => bytes.length + uptoBulk d + 1
  | (_, d) => uptoBulk d + 1
 end
def uptoSmall : (H : Type) → List (DataW H) → Bool := fun _ ds => decide (uptoBulkAll ds ≤ 1048576)
def OpenSpec.upto (s : _root_.Go.ChangeSpec) : _root_.Go.OpenSpec := { _root_.Go.OpenSpec.ofChange s with cond := some uptoSmall }

/-- 'umpiragelaw6.HeapTidied', WHERE WHAT IT READS IS OF BULK AT MOST 1048576: true; the input reads as it did. -/
def heapTidiedUptoRow : OpenClaim := { program := "ytcjfkgkobblonaa", sum := "33c1d7189ad16dad772afe5d561917d27ac23753878fd1537ad8f6d067c62f3d", func := "umpirage/umpiragelaw6.HeapTidied", spec := "heapTidied", unfollowed := true, recurses := true, plainKeys := false, apart := false, narrowed := true }
def HeapTidiedUptoSaid : Prop := heapTidiedUptoRow.holds Try.pinned (OpenSpec.upto heapTidiedSpec)

/-- 'umpiragelaw6.HeapAdds', WHERE WHAT IT READS IS OF BULK AT MOST 1048576: true; the input reads as it did. -/
def heapAddsUptoRow : OpenClaim := { program := "ytcjfkgkobblonaa", sum := "33c1d7189ad16dad772afe5d561917d27ac23753878fd1537ad8f6d067c62f3d", func := "umpirage/umpiragelaw6.HeapAdds", spec := "heapAdds", unfollowed := true, recurses := true, plainKeys := false, apart := false, narrowed := true }
def HeapAddsUptoSaid : Prop := heapAddsUptoRow.holds Try.pinned (OpenSpec.upto heapAddsSpec)

/-- 'umpiragelaw6.HeapSays', WHERE WHAT IT READS IS OF BULK AT MOST 1048576: true; the input reads as it did. -/
def heapSaysUptoRow : OpenClaim := { program := "ytcjfkgkobblonaa", sum := "33c1d7189ad16dad772afe5d561917d27ac23753878fd1537ad8f6d067c62f3d", func := "umpirage/umpiragelaw6.HeapSays", spec := "heapSays", unfollowed := true, recurses := true, plainKeys := false, apart := false, narrowed := true }
def HeapSaysUptoSaid : Prop := heapSaysUptoRow.holds Try.pinned (OpenSpec.upto heapSaysSpec)

/-- 'umpiragelaw6.HeapCuts', WHERE WHAT IT READS IS OF BULK AT MOST 1048576: true; the input reads as it did. -/
def heapCutsUptoRow : OpenClaim := { program := "ytcjfkgkobblonaa", sum := "33c1d7189ad16dad772afe5d561917d27ac23753878fd1537ad8f6d067c62f3d", func := "umpirage/umpiragelaw6.HeapCuts", spec := "heapCuts", unfollowed := true, recurses := true, plainKeys := false, apart := false, narrowed := true }
def HeapCutsUptoSaid : Prop := heapCutsUptoRow.holds Try.pinned (OpenSpec.upto heapCutsSpec)

/-- 'umpiragelaw6.HeapClauses', WHERE WHAT IT READS IS OF BULK AT MOST 1048576: true; the input reads as it did. -/
def heapClausesUptoRow : OpenClaim := { program := "ytcjfkgkobblonaa", sum := "33c1d7189ad16dad772afe5d561917d27ac23753878fd1537ad8f6d067c62f3d", func := "umpirage/umpiragelaw6.HeapClauses", spec := "heapClauses", unfollowed := true, recurses := true, plainKeys := false, apart := false, narrowed := true }
def HeapClausesUptoSaid : Prop := heapClausesUptoRow.holds Try.pinned (OpenSpec.upto heapClausesSpec)

end Rows
end Go.Proofs.Ytcjfkgkobblonaa
