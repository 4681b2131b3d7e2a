/-
  DERIVED. GIVEN WITH THE SEED: THE CARDS: each row of YtcjplcpngagalaaGreatDoorRows.lean that lists a variable, with what it lists TIED to the program's text (the seventh form; the later family's looks); each row that meets fmt, with fmt's text TOLD by the authors' own Lean function (tested against real Go, not proved from fmt's source: count such statements apart). THE CARD IS WHAT COUNTS. Prove the row's statement (the work); the ties are given (YtcjplcpngagalaaGreatDoorTie.lean); close each card by the builder's one call (the guide's Derived/Test/ToyasCard.lean, 'card_holds'). Laid BY PROGRAM, IN A SANDBOX (cutbox-door.mjs). By AI agents, Wed Nov 11 2026. No macro, syntax, notation, axiom, sorry.
-/
import Derived.Test.YtcjplcpngagalaaGreatDoorRows
import GoSem.ClaimSeven
namespace Go.Proofs.YtcjplcpngagalaaGreatDoor
namespace Rows

/-- THE TIED CARD OF 'umpiragelaw6.BlastDowns'. -/
def blastDownsCard : Claim7 := { stood := { row := blastDownsRow, standIns := [], harness := (true, "74482ffcc261ef325b003001847cc9cdf023286cd54763482ee4606b7e927f14"), looks := false }, kinds := [], alts := [], laidByText := true, laidKinds := [.data, .data, .data], laidTests := true, laidLooks := .later }
def BlastDownsCardSaid : Prop := Claim7.holds Tryz.pinned (.plain (OpenSpec.ofChange blastDownsSpec)) blastDownsCard

/-- THE TIED CARD OF 'umpiragelaw6.BlastUps'. -/
def blastUpsCard : Claim7 := { stood := { row := blastUpsRow, standIns := [], harness := (true, "74482ffcc261ef325b003001847cc9cdf023286cd54763482ee4606b7e927f14"), looks := false }, kinds := [], alts := [], laidByText := true, laidKinds := [.data, .data, .data], laidTests := true, laidLooks := .later }
def BlastUpsCardSaid : Prop := Claim7.holds Tryz.pinned (.plain (OpenSpec.ofChange blastUpsSpec)) blastUpsCard

/-- THE TIED CARD OF 'umpiragelaw6.BlastForm'. -/
def blastFormCard : Claim7 := { stood := { row := blastFormRow, standIns := [], harness := (true, "74482ffcc261ef325b003001847cc9cdf023286cd54763482ee4606b7e927f14"), looks := false }, kinds := [], alts := [], laidByText := true, laidKinds := [.data, .data, .data], laidTests := true, laidLooks := .later }
def BlastFormCardSaid : Prop := Claim7.holds Tryz.pinned (.plain (OpenSpec.ofChange blastFormSpec)) blastFormCard

/-- THE SECOND FORM's CARD OF 'umpiragelaw6.BlastDowns'. -/
def blastDownsUptoCard : Claim7 := { stood := { row := blastDownsUptoRow, standIns := [], harness := (true, "74482ffcc261ef325b003001847cc9cdf023286cd54763482ee4606b7e927f14"), looks := false }, kinds := [], alts := [], laidByText := true, laidKinds := [.data, .data, .data], laidTests := true, laidLooks := .later }
def BlastDownsUptoCardSaid : Prop := Claim7.holds Tryz.pinned (.plain (OpenSpec.upto blastDownsSpec)) blastDownsUptoCard

/-- THE SECOND FORM's CARD OF 'umpiragelaw6.BlastUps'. -/
def blastUpsUptoCard : Claim7 := { stood := { row := blastUpsUptoRow, standIns := [], harness := (true, "74482ffcc261ef325b003001847cc9cdf023286cd54763482ee4606b7e927f14"), looks := false }, kinds := [], alts := [], laidByText := true, laidKinds := [.data, .data, .data], laidTests := true, laidLooks := .later }
def BlastUpsUptoCardSaid : Prop := Claim7.holds Tryz.pinned (.plain (OpenSpec.upto blastUpsSpec)) blastUpsUptoCard

/-- THE SECOND FORM's CARD OF 'umpiragelaw6.BlastForm'. -/
def blastFormUptoCard : Claim7 := { stood := { row := blastFormUptoRow, standIns := [], harness := (true, "74482ffcc261ef325b003001847cc9cdf023286cd54763482ee4606b7e927f14"), looks := false }, kinds := [], alts := [], laidByText := true, laidKinds := [.data, .data, .data], laidTests := true, laidLooks := .later }
def BlastFormUptoCardSaid : Prop := Claim7.holds Tryz.pinned (.plain (OpenSpec.upto blastFormSpec)) blastFormUptoCard
end Rows
end Go.Proofs.YtcjplcpngagalaaGreatDoor
