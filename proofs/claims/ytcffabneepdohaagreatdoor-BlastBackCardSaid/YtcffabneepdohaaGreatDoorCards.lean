/-
  DERIVED. GIVEN WITH THE SEED: THE CARDS: each row of YtcffabneepdohaaGreatDoorRows.lean that lists a variable, with what it lists TIED to the program's text (the seventh form; the later family's looks); each row that meets fmt, with fmt's text TOLD by the authors' own Lean function (tested against real Go, not proved from fmt's source: count such statements apart). THE CARD IS WHAT COUNTS. Prove the row's statement (the work); the ties are given (YtcffabneepdohaaGreatDoorTie.lean); close each card by the builder's one call (the guide's Derived/Test/ToyasCard.lean, 'card_holds'). Laid BY PROGRAM, IN A SANDBOX (cutbox-door.mjs). By AI agents, Wed Nov 11 2026. No macro, syntax, notation, axiom, sorry.
-/
import Derived.Test.YtcffabneepdohaaGreatDoorRows
import GoSem.ClaimSeven
namespace Go.Proofs.YtcffabneepdohaaGreatDoor
namespace Rows

/-- THE TIED CARD OF 'umpiragelaw6.BlastMeans'. -/
def blastMeansCard : Claim7 := { stood := { row := blastMeansRow, standIns := [], harness := (true, "b3223f989f937b82cdaa13576dfebedd8fbe6ca67ef28a8e777b9863086478f8"), looks := false }, kinds := [], alts := [], laidByText := true, laidKinds := [.data, .data, .data], laidTests := true, laidLooks := .later }
def BlastMeansCardSaid : Prop := Claim7.holds Tryz.pinned (.plain (OpenSpec.ofChange blastMeansSpec)) blastMeansCard

/-- THE TIED CARD OF 'umpiragelaw6.BlastBack'. -/
def blastBackCard : Claim7 := { stood := { row := blastBackRow, standIns := [], harness := (true, "b3223f989f937b82cdaa13576dfebedd8fbe6ca67ef28a8e777b9863086478f8"), looks := false }, kinds := [], alts := [], laidByText := true, laidKinds := [.data, .data, .data], laidTests := true, laidLooks := .later }
def BlastBackCardSaid : Prop := Claim7.holds Tryz.pinned (.plain (OpenSpec.ofChange blastBackSpec)) blastBackCard

/-- THE SECOND FORM's CARD OF 'umpiragelaw6.BlastMeans'. -/
def blastMeansUptoCard : Claim7 := { stood := { row := blastMeansUptoRow, standIns := [], harness := (true, "b3223f989f937b82cdaa13576dfebedd8fbe6ca67ef28a8e777b9863086478f8"), looks := false }, kinds := [], alts := [], laidByText := true, laidKinds := [.data, .data, .data], laidTests := true, laidLooks := .later }
def BlastMeansUptoCardSaid : Prop := Claim7.holds Tryz.pinned (.plain (OpenSpec.upto blastMeansSpec)) blastMeansUptoCard

/-- THE SECOND FORM's CARD OF 'umpiragelaw6.BlastBack'. -/
def blastBackUptoCard : Claim7 := { stood := { row := blastBackUptoRow, standIns := [], harness := (true, "b3223f989f937b82cdaa13576dfebedd8fbe6ca67ef28a8e777b9863086478f8"), looks := false }, kinds := [], alts := [], laidByText := true, laidKinds := [.data, .data, .data], laidTests := true, laidLooks := .later }
def BlastBackUptoCardSaid : Prop := Claim7.holds Tryz.pinned (.plain (OpenSpec.upto blastBackSpec)) blastBackUptoCard
end Rows
end Go.Proofs.YtcffabneepdohaaGreatDoor
