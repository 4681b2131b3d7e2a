/-
  No cell of these rows narrows 'for every input' (looked for: loops, veiled, ifaces, maps, wideKeys, modest, calm, conditions, laid).
  DERIVED. THE GIVEN ROWS OF THIS SEAT. 3 by the template 'for every input the law returns true; each argument reads behind the call as it read before'; 0 by the template 'total and deterministic' (their statements: YtobpninhnmmpeaaGreatTotals.lean).
  GIVEN WITH THE SEED: the statements are not yours to turn. If you find one false, say at which input.
  Laid BY PROGRAM, IN A SANDBOX (cutbox-rows.mjs): the forced cells as the released guide's own fill.sh prints them over the translation d95264f2ec28da0f… (all of the seat's roots in one cut). By AI agents, Wed Nov 11 2026. No macro, syntax, notation, axiom, sorry.
-/
import Derived.Test.YtobpninhnmmpeaaGreatChecked
import GoSem.Claim
import GoSem.ClaimJoined
import GoSem.ClaimMapViews
import Derived.JoinedTies
import Derived.KernelRfl
namespace Go.Proofs.YtobpninhnmmpeaaGreat
/- THE CELL 'sum', in the pinned program and in every row, IS THE sha256 OF THE DUMP (.gsa) THAT YtobpninhnmmpeaaGreatProg.lean LOADS. Nothing in Lean hashes anything: it is a label: what it is worth is what the hold of that sum in a sandbox is worth. -/
noncomputable def Tryz.pinned : Pinned := { name := "ytobpninhnmmpeaagreat", sum := "d95264f2ec28da0f5ee8c24e447ea65017874d5fa6f51a51836f21d08b57a5fa", checked := Tryz.checked }
namespace Rows
def none {H : Type} : Left H := { results := [], args := [] }

/-- 'umpiragelaw6.AwayBacks': WHATEVER THE INPUT: true; the input reads as it did. -/
def awayBacksSpec : ChangeSpec := { name := "awayBacks", fn := fun _ => fun
  | [d1, d2, d3, d4] => { results := [.lit (.bool true)], args := [d1, d2, d3, d4] }
  | _ => none }
def awayBacksRow : OpenClaim := { program := "ytobpninhnmmpeaagreat", sum := "d95264f2ec28da0f5ee8c24e447ea65017874d5fa6f51a51836f21d08b57a5fa", func := "umpirage/umpiragelaw6.AwayBacks", spec := "awayBacks", unfollowed := true, recurses := true, apart := false }
def AwayBacksSaid : Prop := awayBacksRow.holds Tryz.pinned (OpenSpec.ofChange awayBacksSpec)

/-- ITS FALSE NEIGHBOUR: 'it returns false'. Refute it at one input. -/
def awayBacksWrong : ChangeSpec := { name := "awayBacks", fn := fun _ => fun
  | [d1, d2, d3, d4] => { results := [.lit (.bool false)], args := [d1, d2, d3, d4] }
  | _ => none }
def AwayBacksWrongFalsely : Prop := awayBacksRow.holds Tryz.pinned (OpenSpec.ofChange awayBacksWrong)

/-- 'umpiragelaw6.AwayDown': WHATEVER THE INPUT: true; the input reads as it did. -/
def awayDownSpec : ChangeSpec := { name := "awayDown", fn := fun _ => fun
  | [d1, d2, d3, d4] => { results := [.lit (.bool true)], args := [d1, d2, d3, d4] }
  | _ => none }
def awayDownRow : OpenClaim := { program := "ytobpninhnmmpeaagreat", sum := "d95264f2ec28da0f5ee8c24e447ea65017874d5fa6f51a51836f21d08b57a5fa", func := "umpirage/umpiragelaw6.AwayDown", spec := "awayDown", unfollowed := true, recurses := true, apart := false }
def AwayDownSaid : Prop := awayDownRow.holds Tryz.pinned (OpenSpec.ofChange awayDownSpec)

/-- ITS FALSE NEIGHBOUR: 'it returns false'. Refute it at one input. -/
def awayDownWrong : ChangeSpec := { name := "awayDown", fn := fun _ => fun
  | [d1, d2, d3, d4] => { results := [.lit (.bool false)], args := [d1, d2, d3, d4] }
  | _ => none }
def AwayDownWrongFalsely : Prop := awayDownRow.holds Tryz.pinned (OpenSpec.ofChange awayDownWrong)

/-- 'umpiragelaw6.AwayUp': WHATEVER THE INPUT: true; the input reads as it did. -/
def awayUpSpec : ChangeSpec := { name := "awayUp", fn := fun _ => fun
  | [d1, d2, d3, d4] => { results := [.lit (.bool true)], args := [d1, d2, d3, d4] }
  | _ => none }
def awayUpRow : OpenClaim := { program := "ytobpninhnmmpeaagreat", sum := "d95264f2ec28da0f5ee8c24e447ea65017874d5fa6f51a51836f21d08b57a5fa", func := "umpirage/umpiragelaw6.AwayUp", spec := "awayUp", unfollowed := true, recurses := true, apart := false }
def AwayUpSaid : Prop := awayUpRow.holds Tryz.pinned (OpenSpec.ofChange awayUpSpec)

/-- ITS FALSE NEIGHBOUR: 'it returns false'. Refute it at one input. -/
def awayUpWrong : ChangeSpec := { name := "awayUp", fn := fun _ => fun
  | [d1, d2, d3, d4] => { results := [.lit (.bool false)], args := [d1, d2, d3, d4] }
  | _ => none }
def AwayUpWrongFalsely : Prop := awayUpRow.holds Tryz.pinned (OpenSpec.ofChange awayUpWrong)

/- THE SECOND FORM. 'bulk': how many values and letters a reading holds, each counted each time it is reached (what is shared counts as often as it is met; a slice's spare places count too). A statement '..UptoSaid' is the law's where the arguments, and the package variables that the reading takes, are together of bulk at most 1048576: NARROWER than '..Said'. Prove '..Said' where nothing that the law and all that it calls make is longer than what came in: it says more and counts as full. Else prove '..UptoSaid'. A law counts once. -/
mutual
def uptoBulk {H : Type} : DataW H → Nat
  | .lit (.string bytes) => bytes.length + 1
  | .lit _ => 1
  | .nil => 1
  | .ptr d => uptoBulk d + 1
  | .slice elems spare => uptoBulkAll elems + uptoBulkAll spare + 1
  | .agg parts => uptoBulkAll parts + 1
  | .iface _ d => uptoBulk d + 1
  | .map entries => uptoBulkEntries entries + 1
  | .held _ => 1
def uptoBulkAll {H : Type} : List (DataW H) → Nat
  | [] => 0
  | d :: r => uptoBulk d + uptoBulkAll r
def uptoBulkEntries {H : Type} : List (Lit × DataW H) → Nat
  | [] => 0
  | x :: r => uptoBulkEntry x + uptoBulkEntries r
def uptoBulkEntry {H : Type} : Lit × DataW H → Nat
  | (.string bytes, d) => bytes.length + uptoBulk d + 1
  | (_, d) => uptoBulk d + 1
 end
def uptoSmall : (H : Type) → List (DataW H) → Bool := fun _ ds => decide (uptoBulkAll ds ≤ 1048576)
def OpenSpec.upto (s : _root_.Go.ChangeSpec) : _root_.Go.OpenSpec := { _root_.Go.OpenSpec.ofChange s with cond := some uptoSmall }

/-- 'umpiragelaw6.AwayBacks', WHERE WHAT IT READS IS OF BULK AT MOST 1048576: true; the input reads as it did. -/
def awayBacksUptoRow : OpenClaim := { program := "ytobpninhnmmpeaagreat", sum := "d95264f2ec28da0f5ee8c24e447ea65017874d5fa6f51a51836f21d08b57a5fa", func := "umpirage/umpiragelaw6.AwayBacks", spec := "awayBacks", unfollowed := true, recurses := true, apart := false, narrowed := true }
def AwayBacksUptoSaid : Prop := awayBacksUptoRow.holds Tryz.pinned (OpenSpec.upto awayBacksSpec)

/-- 'umpiragelaw6.AwayDown', WHERE WHAT IT READS IS OF BULK AT MOST 1048576: true; the input reads as it did. -/
def awayDownUptoRow : OpenClaim := { program := "ytobpninhnmmpeaagreat", sum := "d95264f2ec28da0f5ee8c24e447ea65017874d5fa6f51a51836f21d08b57a5fa", func := "umpirage/umpiragelaw6.AwayDown", spec := "awayDown", unfollowed := true, recurses := true, apart := false, narrowed := true }
def AwayDownUptoSaid : Prop := awayDownUptoRow.holds Tryz.pinned (OpenSpec.upto awayDownSpec)

/-- 'umpiragelaw6.AwayUp', WHERE WHAT IT READS IS OF BULK AT MOST 1048576: true; the input reads as it did. -/
def awayUpUptoRow : OpenClaim := { program := "ytobpninhnmmpeaagreat", sum := "d95264f2ec28da0f5ee8c24e447ea65017874d5fa6f51a51836f21d08b57a5fa", func := "umpirage/umpiragelaw6.AwayUp", spec := "awayUp", unfollowed := true, recurses := true, apart := false, narrowed := true }
def AwayUpUptoSaid : Prop := awayUpUptoRow.holds Tryz.pinned (OpenSpec.upto awayUpSpec)

end Rows
end Go.Proofs.YtobpninhnmmpeaaGreat
