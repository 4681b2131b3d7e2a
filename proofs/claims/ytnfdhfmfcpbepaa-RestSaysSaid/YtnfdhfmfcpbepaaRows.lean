/-
  No cell of these rows narrows 'for every input' (looked for: loops, veiled, ifaces, maps, wideKeys, modest, calm, conditions, laid).
  DERIVED. THE GIVEN ROWS OF THIS SEAT. 6 by the template 'for every input the law returns true; each argument reads behind the call as it read before'; 0 by the template 'total and deterministic' (their statements: YtnfdhfmfcpbepaaTotals.lean).
  GIVEN WITH THE SEED: the statements are not yours to turn. If you find one false, say at which input.
  Laid BY PROGRAM, IN A SANDBOX (cutbox-rows.mjs): the forced cells as the released guide's own fill.sh prints them over the translation 2e762e18a697b7ae… (all of the seat's roots in one cut). By AI agents, Wed Nov 11 2026. No macro, syntax, notation, axiom, sorry.
-/
import Derived.Test.YtnfdhfmfcpbepaaChecked
import GoSem.Claim
import GoSem.ClaimJoined
import GoSem.ClaimMapViews
import Derived.JoinedTies
import Derived.KernelRfl
namespace Go.Proofs.Ytnfdhfmfcpbepaa
/- THE CELL 'sum', in the pinned program and in every row, IS THE sha256 OF THE DUMP (.gsa) THAT YtnfdhfmfcpbepaaProg.lean LOADS. Nothing in Lean hashes anything: it is a label: what it is worth is what the hold of that sum in a sandbox is worth. -/
noncomputable def Try.pinned : Pinned := { name := "ytnfdhfmfcpbepaa", sum := "2e762e18a697b7aec9a1bebf185c14ba6881bddefb3e59b6c6400a535da4a9d9", checked := Try.checked }
namespace Rows
def none {H : Type} : Left H := { results := [], args := [] }

/-- 'umpiragelaw6.RestSays': WHATEVER THE INPUT: true; the input reads as it did. -/
def restSaysSpec : ChangeSpec := { name := "restSays", fn := fun _ => fun
  | [d1, d2, d3] => { results := [.lit (.bool true)], args := [d1, d2, d3] }
  | _ => none }
def restSaysRow : OpenClaim := { program := "ytnfdhfmfcpbepaa", sum := "2e762e18a697b7aec9a1bebf185c14ba6881bddefb3e59b6c6400a535da4a9d9", func := "umpirage/umpiragelaw6.RestSays", spec := "restSays", unfollowed := true, recurses := true, apart := false }
def RestSaysSaid : Prop := restSaysRow.holds Try.pinned (OpenSpec.ofChange restSaysSpec)

/-- ITS FALSE NEIGHBOUR: 'it returns false'. Refute it at one input. -/
def restSaysWrong : ChangeSpec := { name := "restSays", fn := fun _ => fun
  | [d1, d2, d3] => { results := [.lit (.bool false)], args := [d1, d2, d3] }
  | _ => none }
def RestSaysWrongFalsely : Prop := restSaysRow.holds Try.pinned (OpenSpec.ofChange restSaysWrong)

/-- 'umpiragelaw6.RestSolves': WHATEVER THE INPUT: true; the input reads as it did. -/
def restSolvesSpec : ChangeSpec := { name := "restSolves", fn := fun _ => fun
  | [d1, d2, d3] => { results := [.lit (.bool true)], args := [d1, d2, d3] }
  | _ => none }
def restSolvesRow : OpenClaim := { program := "ytnfdhfmfcpbepaa", sum := "2e762e18a697b7aec9a1bebf185c14ba6881bddefb3e59b6c6400a535da4a9d9", func := "umpirage/umpiragelaw6.RestSolves", spec := "restSolves", unfollowed := true, recurses := true, apart := false }
def RestSolvesSaid : Prop := restSolvesRow.holds Try.pinned (OpenSpec.ofChange restSolvesSpec)

/-- ITS FALSE NEIGHBOUR: 'it returns false'. Refute it at one input. -/
def restSolvesWrong : ChangeSpec := { name := "restSolves", fn := fun _ => fun
  | [d1, d2, d3] => { results := [.lit (.bool false)], args := [d1, d2, d3] }
  | _ => none }
def RestSolvesWrongFalsely : Prop := restSolvesRow.holds Try.pinned (OpenSpec.ofChange restSolvesWrong)

/-- 'umpiragelaw6.RestIn': WHATEVER THE INPUT: true; the input reads as it did. -/
def restInSpec : ChangeSpec := { name := "restIn", fn := fun _ => fun
  | [d1, d2, d3] => { results := [.lit (.bool true)], args := [d1, d2, d3] }
  | _ => none }
def restInRow : OpenClaim := { program := "ytnfdhfmfcpbepaa", sum := "2e762e18a697b7aec9a1bebf185c14ba6881bddefb3e59b6c6400a535da4a9d9", func := "umpirage/umpiragelaw6.RestIn", spec := "restIn", unfollowed := true, recurses := true, apart := false }
def RestInSaid : Prop := restInRow.holds Try.pinned (OpenSpec.ofChange restInSpec)

/-- ITS FALSE NEIGHBOUR: 'it returns false'. Refute it at one input. -/
def restInWrong : ChangeSpec := { name := "restIn", fn := fun _ => fun
  | [d1, d2, d3] => { results := [.lit (.bool false)], args := [d1, d2, d3] }
  | _ => none }
def RestInWrongFalsely : Prop := restInRow.holds Try.pinned (OpenSpec.ofChange restInWrong)

/-- 'umpiragelaw6.RestLine': WHATEVER THE INPUT: true; the input reads as it did. -/
def restLineSpec : ChangeSpec := { name := "restLine", fn := fun _ => fun
  | [d1, d2, d3] => { results := [.lit (.bool true)], args := [d1, d2, d3] }
  | _ => none }
def restLineRow : OpenClaim := { program := "ytnfdhfmfcpbepaa", sum := "2e762e18a697b7aec9a1bebf185c14ba6881bddefb3e59b6c6400a535da4a9d9", func := "umpirage/umpiragelaw6.RestLine", spec := "restLine", unfollowed := true, recurses := true, apart := false }
def RestLineSaid : Prop := restLineRow.holds Try.pinned (OpenSpec.ofChange restLineSpec)

/-- ITS FALSE NEIGHBOUR: 'it returns false'. Refute it at one input. -/
def restLineWrong : ChangeSpec := { name := "restLine", fn := fun _ => fun
  | [d1, d2, d3] => { results := [.lit (.bool false)], args := [d1, d2, d3] }
  | _ => none }
def RestLineWrongFalsely : Prop := restLineRow.holds Try.pinned (OpenSpec.ofChange restLineWrong)

/-- 'umpiragelaw6.RestPairs': WHATEVER THE INPUT: true; the input reads as it did. -/
def restPairsSpec : ChangeSpec := { name := "restPairs", fn := fun _ => fun
  | [d] => { results := [.lit (.bool true)], args := [d] }
  | _ => none }
def restPairsRow : OpenClaim := { program := "ytnfdhfmfcpbepaa", sum := "2e762e18a697b7aec9a1bebf185c14ba6881bddefb3e59b6c6400a535da4a9d9", func := "umpirage/umpiragelaw6.RestPairs", spec := "restPairs", unfollowed := true, recurses := true, apart := false }
def RestPairsSaid : Prop := restPairsRow.holds Try.pinned (OpenSpec.ofChange restPairsSpec)

/-- ITS FALSE NEIGHBOUR: 'it returns false'. Refute it at one input. -/
def restPairsWrong : ChangeSpec := { name := "restPairs", fn := fun _ => fun
  | [d] => { results := [.lit (.bool false)], args := [d] }
  | _ => none }
def RestPairsWrongFalsely : Prop := restPairsRow.holds Try.pinned (OpenSpec.ofChange restPairsWrong)

/-- 'umpiragelaw6.RestSolved': WHATEVER THE INPUT: true; the input reads as it did. -/
def restSolvedSpec : ChangeSpec := { name := "restSolved", fn := fun _ => fun
  | [d1, d2, d3, d4] => { results := [.lit (.bool true)], args := [d1, d2, d3, d4] }
  | _ => none }
def restSolvedRow : OpenClaim := { program := "ytnfdhfmfcpbepaa", sum := "2e762e18a697b7aec9a1bebf185c14ba6881bddefb3e59b6c6400a535da4a9d9", func := "umpirage/umpiragelaw6.RestSolved", spec := "restSolved", unfollowed := true, recurses := true, apart := false }
def RestSolvedSaid : Prop := restSolvedRow.holds Try.pinned (OpenSpec.ofChange restSolvedSpec)

/-- ITS FALSE NEIGHBOUR: 'it returns false'. Refute it at one input. -/
def restSolvedWrong : ChangeSpec := { name := "restSolved", fn := fun _ => fun
  | [d1, d2, d3, d4] => { results := [.lit (.bool false)], args := [d1, d2, d3, d4] }
  | _ => none }
def RestSolvedWrongFalsely : Prop := restSolvedRow.holds Try.pinned (OpenSpec.ofChange restSolvedWrong)

/- THE SECOND FORM. 'bulk': how many values and letters a reading holds, each counted each time it is reached (what is shared counts as often as it is met; a slice's spare places count too). A statement '..UptoSaid' is the law's where the arguments, and the package variables that the reading takes, are together of bulk at most 1048576: NARROWER than '..Said'. Prove '..Said' where nothing that the law and all that it calls make is longer than what came in: it says more and counts as full. Else prove '..UptoSaid'. A law counts once. -/
mutual
def uptoBulk {H : Type} : DataW H → Nat
  | .lit (.string bytes) => bytes.length + 1
  | .lit _ => 1
  | .nil => 1
  | .ptr d => uptoBulk d + 1
  | .slice elems spare => uptoBulkAll elems + uptoBulkAll spare + 1
  | .agg parts => uptoBulkAll parts + 1
  | .iface _ d => uptoBulk d + 1
  | .map entries => uptoBulkEntries entries + 1
  | .held _ => 1
def uptoBulkAll {H : Type} : List (DataW H) → Nat
  | [] => 0
  | d :: r => uptoBulk d + uptoBulkAll r
def uptoBulkEntries {H : Type} : List (Lit × DataW H) → Nat
  | [] => 0
  | x :: r => uptoBulkEntry x + uptoBulkEntries r
def uptoBulkEntry {H : Type} : Lit × DataW H → Nat
  | (.string bytes, d) => bytes.length + uptoBulk d + 1
  | (_, d) => uptoBulk d + 1
 end
def uptoSmall : (H : Type) → List (DataW H) → Bool := fun _ ds => decide (uptoBulkAll ds ≤ 1048576)
def OpenSpec.upto (s : _root_.Go.ChangeSpec) : _root_.Go.OpenSpec := { _root_.Go.OpenSpec.ofChange s with cond := some uptoSmall }

/-- 'umpiragelaw6.RestSays', WHERE WHAT IT READS IS OF BULK AT MOST 1048576: true; the input reads as it did. -/
def restSaysUptoRow : OpenClaim := { program := "ytnfdhfmfcpbepaa", sum := "2e762e18a697b7aec9a1bebf185c14ba6881bddefb3e59b6c6400a535da4a9d9", func := "umpirage/umpiragelaw6.RestSays", spec := "restSays", unfollowed := true, recurses := true, apart := false, narrowed := true }
def RestSaysUptoSaid : Prop := restSaysUptoRow.holds Try.pinned (OpenSpec.upto restSaysSpec)

/-- 'umpiragelaw6.RestSolves', WHERE WHAT IT READS IS OF BULK AT MOST 1048576: true; the input reads as it did. -/
def restSolvesUptoRow : OpenClaim := { program := "ytnfdhfmfcpbepaa", sum := "2e762e18a697b7aec9a1bebf185c14ba6881bddefb3e59b6c6400a535da4a9d9", func := "umpirage/umpiragelaw6.RestSolves", spec := "restSolves", unfollowed := true, recurses := true, apart := false, narrowed := true }
def RestSolvesUptoSaid : Prop := restSolvesUptoRow.holds Try.pinned (OpenSpec.upto restSolvesSpec)

/-- 'umpiragelaw6.RestIn', WHERE WHAT IT READS IS OF BULK AT MOST 1048576: true; the input reads as it did. -/
def restInUptoRow : OpenClaim := { program := "ytnfdhfmfcpbepaa", sum := "2e762e18a697b7aec9a1bebf185c14ba6881bddefb3e59b6c6400a535da4a9d9", func := "umpirage/umpiragelaw6.RestIn", spec := "restIn", unfollowed := true, recurses := true, apart := false, narrowed := true }
def RestInUptoSaid : Prop := restInUptoRow.holds Try.pinned (OpenSpec.upto restInSpec)

/-- 'umpiragelaw6.RestLine', WHERE WHAT IT READS IS OF BULK AT MOST 1048576: true; the input reads as it did. -/
def restLineUptoRow : OpenClaim := { program := "ytnfdhfmfcpbepaa", sum := "2e762e18a697b7aec9a1bebf185c14ba6881bddefb3e59b6c6400a535da4a9d9", func := "umpirage/umpiragelaw6.RestLine", spec := "restLine", unfollowed := true, recurses := true, apart := false, narrowed := true }
def RestLineUptoSaid : Prop := restLineUptoRow.holds Try.pinned (OpenSpec.upto restLineSpec)

/-- 'umpiragelaw6.RestPairs', WHERE WHAT IT READS IS OF BULK AT MOST 1048576: true; the input reads as it did. -/
def restPairsUptoRow : OpenClaim := { program := "ytnfdhfmfcpbepaa", sum := "2e762e18a697b7aec9a1bebf185c14ba6881bddefb3e59b6c6400a535da4a9d9", func := "umpirage/umpiragelaw6.RestPairs", spec := "restPairs", unfollowed := true, recurses := true, apart := false, narrowed := true }
def RestPairsUptoSaid : Prop := restPairsUptoRow.holds Try.pinned (OpenSpec.upto restPairsSpec)

/-- 'umpiragelaw6.RestSolved', WHERE WHAT IT READS IS OF BULK AT MOST 1048576: true; the input reads as it did. -/
def restSolvedUptoRow : OpenClaim := { program := "ytnfdhfmfcpbepaa", sum := "2e762e18a697b7aec9a1bebf185c14ba6881bddefb3e59b6c6400a535da4a9d9", func := "umpirage/umpiragelaw6.RestSolved", spec := "restSolved", unfollowed := true, recurses := true, apart := false, narrowed := true }
def RestSolvedUptoSaid : Prop := restSolvedUptoRow.holds Try.pinned (OpenSpec.upto restSolvedSpec)

end Rows
end Go.Proofs.Ytnfdhfmfcpbepaa
