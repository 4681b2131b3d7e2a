/-
  No cell of these rows narrows 'for every input' (looked for: loops, veiled, ifaces, maps, wideKeys, modest, calm, conditions, laid).
  DERIVED. THE GIVEN ROWS OF THIS SEAT. 5 by the template 'for every input the law returns true; each argument reads behind the call as it read before'; 0 by the template 'total and deterministic' (their statements: YtldfekaodgfgmaaTotals.lean).
  GIVEN WITH THE SEED: the statements are not yours to turn. If you find one false, say at which input.
  Laid BY PROGRAM, IN A SANDBOX (cutbox-rows.mjs): the forced cells as the released guide's own fill.sh prints them over the translation cce22c4fcd65fab9… (all of the seat's roots in one cut). By AI agents, Wed Nov 11 2026. No macro, syntax, notation, axiom, sorry.
-/
import Derived.Test.YtldfekaodgfgmaaChecked
import GoSem.Claim
import GoSem.ClaimJoined
import GoSem.ClaimMapViews
import Derived.JoinedTies
import Derived.KernelRfl
namespace Go.Proofs.Ytldfekaodgfgmaa
/- THE CELL 'sum', in the pinned program and in every row, IS THE sha256 OF THE DUMP (.gsa) THAT YtldfekaodgfgmaaProg.lean LOADS. Nothing in Lean hashes anything: it is a label: what it is worth is what the hold of that sum in a sandbox is worth. -/
noncomputable def Try.pinned : Pinned := { name := "ytldfekaodgfgmaa", sum := "cce22c4fcd65fab9cbff5a52776e4b057255cbebb0582b1f9b346b69395704e0", checked := Try.checked }
namespace Rows
def none {H : Type} : Left H := { results := [], args := [] }

/-- 'umpiragelaw6.WordsSays': WHATEVER THE INPUT: true; the input reads as it did. -/
def wordsSaysSpec : ChangeSpec := { name := "wordsSays", fn := fun _ => fun
  | [d1, d2, d3, d4] => { results := [.lit (.bool true)], args := [d1, d2, d3, d4] }
  | _ => none }
def wordsSaysRow : OpenClaim := { program := "ytldfekaodgfgmaa", sum := "cce22c4fcd65fab9cbff5a52776e4b057255cbebb0582b1f9b346b69395704e0", func := "umpirage/umpiragelaw6.WordsSays", spec := "wordsSays", apart := false }
def WordsSaysSaid : Prop := wordsSaysRow.holds Try.pinned (OpenSpec.ofChange wordsSaysSpec)

/-- ITS FALSE NEIGHBOUR: 'it returns false'. Refute it at one input. -/
def wordsSaysWrong : ChangeSpec := { name := "wordsSays", fn := fun _ => fun
  | [d1, d2, d3, d4] => { results := [.lit (.bool false)], args := [d1, d2, d3, d4] }
  | _ => none }
def WordsSaysWrongFalsely : Prop := wordsSaysRow.holds Try.pinned (OpenSpec.ofChange wordsSaysWrong)

/-- 'umpiragelaw6.WordsBits': WHATEVER THE INPUT: true; the input reads as it did. -/
def wordsBitsSpec : ChangeSpec := { name := "wordsBits", fn := fun _ => fun
  | [d1, d2, d3] => { results := [.lit (.bool true)], args := [d1, d2, d3] }
  | _ => none }
def wordsBitsRow : OpenClaim := { program := "ytldfekaodgfgmaa", sum := "cce22c4fcd65fab9cbff5a52776e4b057255cbebb0582b1f9b346b69395704e0", func := "umpirage/umpiragelaw6.WordsBits", spec := "wordsBits", apart := false }
def WordsBitsSaid : Prop := wordsBitsRow.holds Try.pinned (OpenSpec.ofChange wordsBitsSpec)

/-- ITS FALSE NEIGHBOUR: 'it returns false'. Refute it at one input. -/
def wordsBitsWrong : ChangeSpec := { name := "wordsBits", fn := fun _ => fun
  | [d1, d2, d3] => { results := [.lit (.bool false)], args := [d1, d2, d3] }
  | _ => none }
def WordsBitsWrongFalsely : Prop := wordsBitsRow.holds Try.pinned (OpenSpec.ofChange wordsBitsWrong)

/-- 'umpiragelaw6.WordsRing': WHATEVER THE INPUT: true; the input reads as it did. -/
def wordsRingSpec : ChangeSpec := { name := "wordsRing", fn := fun _ => fun
  | [d1, d2, d3, d4] => { results := [.lit (.bool true)], args := [d1, d2, d3, d4] }
  | _ => none }
def wordsRingRow : OpenClaim := { program := "ytldfekaodgfgmaa", sum := "cce22c4fcd65fab9cbff5a52776e4b057255cbebb0582b1f9b346b69395704e0", func := "umpirage/umpiragelaw6.WordsRing", spec := "wordsRing", apart := false }
def WordsRingSaid : Prop := wordsRingRow.holds Try.pinned (OpenSpec.ofChange wordsRingSpec)

/-- ITS FALSE NEIGHBOUR: 'it returns false'. Refute it at one input. -/
def wordsRingWrong : ChangeSpec := { name := "wordsRing", fn := fun _ => fun
  | [d1, d2, d3, d4] => { results := [.lit (.bool false)], args := [d1, d2, d3, d4] }
  | _ => none }
def WordsRingWrongFalsely : Prop := wordsRingRow.holds Try.pinned (OpenSpec.ofChange wordsRingWrong)

/-- 'umpiragelaw6.WordsLogic': WHATEVER THE INPUT: true; the input reads as it did. -/
def wordsLogicSpec : ChangeSpec := { name := "wordsLogic", fn := fun _ => fun
  | [d1, d2, d3] => { results := [.lit (.bool true)], args := [d1, d2, d3] }
  | _ => none }
def wordsLogicRow : OpenClaim := { program := "ytldfekaodgfgmaa", sum := "cce22c4fcd65fab9cbff5a52776e4b057255cbebb0582b1f9b346b69395704e0", func := "umpirage/umpiragelaw6.WordsLogic", spec := "wordsLogic", apart := false }
def WordsLogicSaid : Prop := wordsLogicRow.holds Try.pinned (OpenSpec.ofChange wordsLogicSpec)

/-- ITS FALSE NEIGHBOUR: 'it returns false'. Refute it at one input. -/
def wordsLogicWrong : ChangeSpec := { name := "wordsLogic", fn := fun _ => fun
  | [d1, d2, d3] => { results := [.lit (.bool false)], args := [d1, d2, d3] }
  | _ => none }
def WordsLogicWrongFalsely : Prop := wordsLogicRow.holds Try.pinned (OpenSpec.ofChange wordsLogicWrong)

/-- 'umpiragelaw6.WordsMean': WHATEVER THE INPUT: true; the input reads as it did. -/
def wordsMeanSpec : ChangeSpec := { name := "wordsMean", fn := fun _ => fun
  | [d1, d2, d3, d4, d5] => { results := [.lit (.bool true)], args := [d1, d2, d3, d4, d5] }
  | _ => none }
def wordsMeanRow : OpenClaim := { program := "ytldfekaodgfgmaa", sum := "cce22c4fcd65fab9cbff5a52776e4b057255cbebb0582b1f9b346b69395704e0", func := "umpirage/umpiragelaw6.WordsMean", spec := "wordsMean", unfollowed := true, recurses := true, apart := false }
def WordsMeanSaid : Prop := wordsMeanRow.holds Try.pinned (OpenSpec.ofChange wordsMeanSpec)

/-- ITS FALSE NEIGHBOUR: 'it returns false'. Refute it at one input. -/
def wordsMeanWrong : ChangeSpec := { name := "wordsMean", fn := fun _ => fun
  | [d1, d2, d3, d4, d5] => { results := [.lit (.bool false)], args := [d1, d2, d3, d4, d5] }
  | _ => none }
def WordsMeanWrongFalsely : Prop := wordsMeanRow.holds Try.pinned (OpenSpec.ofChange wordsMeanWrong)

/- THE SECOND FORM. 'bulk': how many values and letters a reading holds, each counted each time it is reached (what is shared counts as often as it is met; a slice's spare places count too). A statement '..UptoSaid' is the law's where the arguments, and the package variables that the reading takes, are together of bulk at most 1048576: NARROWER than '..Said'. Prove '..Said' where nothing that the law and all that it calls make is longer than what came in: it says more and counts as full. Else prove '..UptoSaid'. A law counts once. -/
mutual
def uptoBulk {H : Type} : DataW H → Nat
  | .lit (.string bytes) => bytes.length + 1
  | .lit _ => 1
  | .nil => 1
  | .ptr d => uptoBulk d + 1
  | .slice elems spare => uptoBulkAll elems + uptoBulkAll spare + 1
  | .agg parts => uptoBulkAll parts + 1
  | .iface _ d => uptoBulk d + 1
  | .map entries => uptoBulkEntries entries + 1
  | .held _ => 1
def uptoBulkAll {H : Type} : List (DataW H) → Nat
  | [] => 0
  | d :: r => uptoBulk d + uptoBulkAll r
def uptoBulkEntries {H : Type} : List (Lit × DataW H) → Nat
  | [] => 0
  | x :: r => uptoBulkEntry x + uptoBulkEntries r
def uptoBulkEntry {H : Type} : Lit × DataW H → Nat
  | (.string bytes, d) => bytes.length + uptoBulk d + 1
  | (_, d) => uptoBulk d + 1
 end
def uptoSmall : (H : Type) → List (DataW H) → Bool := fun _ ds => decide (uptoBulkAll ds ≤ 1048576)
def OpenSpec.upto (s : _root_.Go.ChangeSpec) : _root_.Go.OpenSpec := { _root_.Go.OpenSpec.ofChange s with cond := some uptoSmall }

/-- 'umpiragelaw6.WordsSays', WHERE WHAT IT READS IS OF BULK AT MOST 1048576: true; the input reads as it did. -/
def wordsSaysUptoRow : OpenClaim := { program := "ytldfekaodgfgmaa", sum := "cce22c4fcd65fab9cbff5a52776e4b057255cbebb0582b1f9b346b69395704e0", func := "umpirage/umpiragelaw6.WordsSays", spec := "wordsSays", apart := false, narrowed := true }
def WordsSaysUptoSaid : Prop := wordsSaysUptoRow.holds Try.pinned (OpenSpec.upto wordsSaysSpec)

/-- 'umpiragelaw6.WordsBits', WHERE WHAT IT READS IS OF BULK AT MOST 1048576: true; the input reads as it did. -/
def wordsBitsUptoRow : OpenClaim := { program := "ytldfekaodgfgmaa", sum := "cce22c4fcd65fab9cbff5a52776e4b057255cbebb0582b1f9b346b69395704e0", func := "umpirage/umpiragelaw6.WordsBits", spec := "wordsBits", apart := false, narrowed := true }
def WordsBitsUptoSaid : Prop := wordsBitsUptoRow.holds Try.pinned (OpenSpec.upto wordsBitsSpec)

/-- 'umpiragelaw6.WordsRing', WHERE WHAT IT READS IS OF BULK AT MOST 1048576: true; the input reads as it did. -/
def wordsRingUptoRow : OpenClaim := { program := "ytldfekaodgfgmaa", sum := "cce22c4fcd65fab9cbff5a52776e4b057255cbebb0582b1f9b346b69395704e0", func := "umpirage/umpiragelaw6.WordsRing", spec := "wordsRing", apart := false, narrowed := true }
def WordsRingUptoSaid : Prop := wordsRingUptoRow.holds Try.pinned (OpenSpec.upto wordsRingSpec)

/-- 'umpiragelaw6.WordsLogic', WHERE WHAT IT READS IS OF BULK AT MOST 1048576: true; the input reads as it did. -/
def wordsLogicUptoRow : OpenClaim := { program := "ytldfekaodgfgmaa", sum := "cce22c4fcd65fab9cbff5a52776e4b057255cbebb0582b1f9b346b69395704e0", func := "umpirage/umpiragelaw6.WordsLogic", spec := "wordsLogic", apart := false, narrowed := true }
def WordsLogicUptoSaid : Prop := wordsLogicUptoRow.holds Try.pinned (OpenSpec.upto wordsLogicSpec)

/-- 'umpiragelaw6.WordsMean', WHERE WHAT IT READS IS OF BULK AT MOST 1048576: true; the input reads as it did. -/
def wordsMeanUptoRow : OpenClaim := { program := "ytldfekaodgfgmaa", sum := "cce22c4fcd65fab9cbff5a52776e4b057255cbebb0582b1f9b346b69395704e0", func := "umpirage/umpiragelaw6.WordsMean", spec := "wordsMean", unfollowed := true, recurses := true, apart := false, narrowed := true }
def WordsMeanUptoSaid : Prop := wordsMeanUptoRow.holds Try.pinned (OpenSpec.upto wordsMeanSpec)

end Rows
end Go.Proofs.Ytldfekaodgfgmaa
