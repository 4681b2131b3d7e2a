/-
  No cell of these rows narrows 'for every input' (looked for: loops, veiled, ifaces, maps, wideKeys, modest, calm, conditions, laid).
  DERIVED. THE GIVEN ROWS OF THIS SEAT. 4 by the template 'for every input the law returns true; each argument reads behind the call as it read before'; 0 by the template 'total and deterministic' (their statements: YteigjcdcmgjdeaaTotals.lean).
  GIVEN WITH THE SEED: the statements are not yours to turn. If you find one false, say at which input.
  Laid BY PROGRAM, IN A SANDBOX (cutbox-rows.mjs): the forced cells as the released guide's own fill.sh prints them over the translation 8bc9f4ffd272d1a6… (all of the seat's roots in one cut). By AI agents, Wed Nov 11 2026. No macro, syntax, notation, axiom, sorry.
-/
import Derived.Test.YteigjcdcmgjdeaaChecked
import GoSem.Claim
import GoSem.ClaimJoined
import GoSem.ClaimMapViews
import Derived.JoinedTies
import Derived.KernelRfl
namespace Go.Proofs.Yteigjcdcmgjdeaa
/- THE CELL 'sum', in the pinned program and in every row, IS THE sha256 OF THE DUMP (.gsa) THAT YteigjcdcmgjdeaaProg.lean LOADS. Nothing in Lean hashes anything: it is a label: what it is worth is what the hold of that sum in a sandbox is worth. -/
noncomputable def Try.pinned : Pinned := { name := "yteigjcdcmgjdeaa", sum := "8bc9f4ffd272d1a682e6a9ce693a28e184d280c9aaa2da0252efd03212b175b9", checked := Try.checked }
namespace Rows
def none {H : Type} : Left H := { results := [], args := [] }

/-- 'umpiragelaw6.SpanSays': WHATEVER THE INPUT: true; the input reads as it did. -/
def spanSaysSpec : ChangeSpec := { name := "spanSays", fn := fun _ => fun
  | [d1, d2] => { results := [.lit (.bool true)], args := [d1, d2] }
  | _ => none }
def spanSaysRow : OpenClaim := { program := "yteigjcdcmgjdeaa", sum := "8bc9f4ffd272d1a682e6a9ce693a28e184d280c9aaa2da0252efd03212b175b9", func := "umpirage/umpiragelaw6.SpanSays", spec := "spanSays", unfollowed := true, recurses := true, apart := false }
def SpanSaysSaid : Prop := spanSaysRow.holds Try.pinned (OpenSpec.ofChange spanSaysSpec)

/-- ITS FALSE NEIGHBOUR: 'it returns false'. Refute it at one input. -/
def spanSaysWrong : ChangeSpec := { name := "spanSays", fn := fun _ => fun
  | [d1, d2] => { results := [.lit (.bool false)], args := [d1, d2] }
  | _ => none }
def SpanSaysWrongFalsely : Prop := spanSaysRow.holds Try.pinned (OpenSpec.ofChange spanSaysWrong)

/-- 'umpiragelaw6.SpanKeeps': WHATEVER THE INPUT: true; the input reads as it did. -/
def spanKeepsSpec : ChangeSpec := { name := "spanKeeps", fn := fun _ => fun
  | [d1, d2, d3] => { results := [.lit (.bool true)], args := [d1, d2, d3] }
  | _ => none }
def spanKeepsRow : OpenClaim := { program := "yteigjcdcmgjdeaa", sum := "8bc9f4ffd272d1a682e6a9ce693a28e184d280c9aaa2da0252efd03212b175b9", func := "umpirage/umpiragelaw6.SpanKeeps", spec := "spanKeeps", unfollowed := true, recurses := true, apart := false }
def SpanKeepsSaid : Prop := spanKeepsRow.holds Try.pinned (OpenSpec.ofChange spanKeepsSpec)

/-- ITS FALSE NEIGHBOUR: 'it returns false'. Refute it at one input. -/
def spanKeepsWrong : ChangeSpec := { name := "spanKeeps", fn := fun _ => fun
  | [d1, d2, d3] => { results := [.lit (.bool false)], args := [d1, d2, d3] }
  | _ => none }
def SpanKeepsWrongFalsely : Prop := spanKeepsRow.holds Try.pinned (OpenSpec.ofChange spanKeepsWrong)

/-- 'umpiragelaw6.SpanWithin': WHATEVER THE INPUT: true; the input reads as it did. -/
def spanWithinSpec : ChangeSpec := { name := "spanWithin", fn := fun _ => fun
  | [d1, d2] => { results := [.lit (.bool true)], args := [d1, d2] }
  | _ => none }
def spanWithinRow : OpenClaim := { program := "yteigjcdcmgjdeaa", sum := "8bc9f4ffd272d1a682e6a9ce693a28e184d280c9aaa2da0252efd03212b175b9", func := "umpirage/umpiragelaw6.SpanWithin", spec := "spanWithin", unfollowed := true, recurses := true, apart := false }
def SpanWithinSaid : Prop := spanWithinRow.holds Try.pinned (OpenSpec.ofChange spanWithinSpec)

/-- ITS FALSE NEIGHBOUR: 'it returns false'. Refute it at one input. -/
def spanWithinWrong : ChangeSpec := { name := "spanWithin", fn := fun _ => fun
  | [d1, d2] => { results := [.lit (.bool false)], args := [d1, d2] }
  | _ => none }
def SpanWithinWrongFalsely : Prop := spanWithinRow.holds Try.pinned (OpenSpec.ofChange spanWithinWrong)

/-- 'umpiragelaw6.SpanMore': WHATEVER THE INPUT: true; the input reads as it did. -/
def spanMoreSpec : ChangeSpec := { name := "spanMore", fn := fun _ => fun
  | [d1, d2, d3, d4] => { results := [.lit (.bool true)], args := [d1, d2, d3, d4] }
  | _ => none }
def spanMoreRow : OpenClaim := { program := "yteigjcdcmgjdeaa", sum := "8bc9f4ffd272d1a682e6a9ce693a28e184d280c9aaa2da0252efd03212b175b9", func := "umpirage/umpiragelaw6.SpanMore", spec := "spanMore", unfollowed := true, recurses := true, apart := false }
def SpanMoreSaid : Prop := spanMoreRow.holds Try.pinned (OpenSpec.ofChange spanMoreSpec)

/-- ITS FALSE NEIGHBOUR: 'it returns false'. Refute it at one input. -/
def spanMoreWrong : ChangeSpec := { name := "spanMore", fn := fun _ => fun
  | [d1, d2, d3, d4] => { results := [.lit (.bool false)], args := [d1, d2, d3, d4] }
  | _ => none }
def SpanMoreWrongFalsely : Prop := spanMoreRow.holds Try.pinned (OpenSpec.ofChange spanMoreWrong)

/- THE SECOND FORM. 'bulk': how many values and letters a reading holds, each counted each time it is reached (what is shared counts as often as it is met; a slice's spare places count too). A statement '..UptoSaid' is the law's where the arguments, and the package variables that the reading takes, are together of bulk at most 1048576: NARROWER than '..Said'. Prove '..Said' where nothing that the law and all that it calls make is longer than what came in: it says more and counts as full. Else prove '..UptoSaid'. A law counts once. -/
mutual
def uptoBulk {H : Type} : DataW H → Nat
  | .lit (.string bytes) => bytes.length + 1
  | .lit _ => 1
  | .nil => 1
  | .ptr d => uptoBulk d + 1
  | .slice elems spare => uptoBulkAll elems + uptoBulkAll spare + 1
  | .agg parts => uptoBulkAll parts + 1
  | .iface _ d => uptoBulk d + 1
  | .map entries => uptoBulkEntries entries + 1
  | .held _ => 1
def uptoBulkAll {H : Type} : List (DataW H) → Nat
  | [] => 0
  | d :: r => uptoBulk d + uptoBulkAll r
def uptoBulkEntries {H : Type} : List (Lit × DataW H) → Nat
  | [] => 0
  | x :: r => uptoBulkEntry x + uptoBulkEntries r
def uptoBulkEntry {H : Type} : Lit × DataW H → Nat
  | (.string bytes, d) => bytes.length + uptoBulk d + 1
  | (_, d) => uptoBulk d + 1
 end
def uptoSmall : (H : Type) → List (DataW H) → Bool := fun _ ds => decide (uptoBulkAll ds ≤ 1048576)
def OpenSpec.upto (s : _root_.Go.ChangeSpec) : _root_.Go.OpenSpec := { _root_.Go.OpenSpec.ofChange s with cond := some uptoSmall }

/-- 'umpiragelaw6.SpanSays', WHERE WHAT IT READS IS OF BULK AT MOST 1048576: true; the input reads as it did. -/
def spanSaysUptoRow : OpenClaim := { program := "yteigjcdcmgjdeaa", sum := "8bc9f4ffd272d1a682e6a9ce693a28e184d280c9aaa2da0252efd03212b175b9", func := "umpirage/umpiragelaw6.SpanSays", spec := "spanSays", unfollowed := true, recurses := true, apart := false, narrowed := true }
def SpanSaysUptoSaid : Prop := spanSaysUptoRow.holds Try.pinned (OpenSpec.upto spanSaysSpec)

/-- 'umpiragelaw6.SpanKeeps', WHERE WHAT IT READS IS OF BULK AT MOST 1048576: true; the input reads as it did. -/
def spanKeepsUptoRow : OpenClaim := { program := "yteigjcdcmgjdeaa", sum := "8bc9f4ffd272d1a682e6a9ce693a28e184d280c9aaa2da0252efd03212b175b9", func := "umpirage/umpiragelaw6.SpanKeeps", spec := "spanKeeps", unfollowed := true, recurses := true, apart := false, narrowed := true }
def SpanKeepsUptoSaid : Prop := spanKeepsUptoRow.holds Try.pinned (OpenSpec.upto spanKeepsSpec)

/-- 'umpiragelaw6.SpanWithin', WHERE WHAT IT READS IS OF BULK AT MOST 1048576: true; the input reads as it did. -/
def spanWithinUptoRow : OpenClaim := { program := "yteigjcdcmgjdeaa", sum := "8bc9f4ffd272d1a682e6a9ce693a28e184d280c9aaa2da0252efd03212b175b9", func := "umpirage/umpiragelaw6.SpanWithin", spec := "spanWithin", unfollowed := true, recurses := true, apart := false, narrowed := true }
def SpanWithinUptoSaid : Prop := spanWithinUptoRow.holds Try.pinned (OpenSpec.upto spanWithinSpec)

/-- 'umpiragelaw6.SpanMore', WHERE WHAT IT READS IS OF BULK AT MOST 1048576: true; the input reads as it did. -/
def spanMoreUptoRow : OpenClaim := { program := "yteigjcdcmgjdeaa", sum := "8bc9f4ffd272d1a682e6a9ce693a28e184d280c9aaa2da0252efd03212b175b9", func := "umpirage/umpiragelaw6.SpanMore", spec := "spanMore", unfollowed := true, recurses := true, apart := false, narrowed := true }
def SpanMoreUptoSaid : Prop := spanMoreUptoRow.holds Try.pinned (OpenSpec.upto spanMoreSpec)

end Rows
end Go.Proofs.Yteigjcdcmgjdeaa
