/-
  DERIVED. GIVEN WITH THE SEED: THE CARDS: each row of YtcjplcpngagalaaDoorRows.lean that lists a variable, with what it lists TIED to the program's text (the seventh form; the later family's looks); each row that meets fmt, with fmt's text TOLD by the authors' own Lean function (tested against real Go, not proved from fmt's source: count such statements apart). THE CARD IS WHAT COUNTS. Prove the row's statement (the work); the ties are given (YtcjplcpngagalaaDoorTie.lean); close each card by the builder's one call (the guide's Derived/Test/ToyasCard.lean, 'card_holds'). Laid BY PROGRAM, IN A SANDBOX (cutbox-door.mjs). By AI agents, Wed Nov 11 2026. No macro, syntax, notation, axiom, sorry.
-/
import Derived.Test.YtcjplcpngagalaaDoorRows
import GoSem.ClaimSeven
namespace Go.Proofs.YtcjplcpngagalaaDoor
namespace Rows

/-- THE TIED CARD OF 'umpiragelaw6.BlastRound'. -/
def blastRoundCard : Claim7 := { stood := { row := blastRoundRow, standIns := [], harness := (true, "5843cae7d3f23074ef3ada7a35987e7def0119c0a6efba6ebbd582eb73fdc3b6"), looks := false }, kinds := [], alts := [], laidByText := true, laidKinds := [.data, .data, .data], laidTests := true, laidLooks := .later }
def BlastRoundCardSaid : Prop := Claim7.holds Tryd.pinned (.plain (OpenSpec.ofChange blastRoundSpec)) blastRoundCard

/-- THE TIED CARD OF 'umpiragelaw6.BlastNone'. -/
def blastNoneCard : Claim7 := { stood := { row := blastNoneRow, standIns := [], harness := (true, "5843cae7d3f23074ef3ada7a35987e7def0119c0a6efba6ebbd582eb73fdc3b6"), looks := false }, kinds := [], alts := [], laidByText := true, laidKinds := [.data, .data, .data], laidTests := true, laidLooks := .later }
def BlastNoneCardSaid : Prop := Claim7.holds Tryd.pinned (.plain (OpenSpec.ofChange blastNoneSpec)) blastNoneCard

/-- THE SECOND FORM's CARD OF 'umpiragelaw6.BlastRound'. -/
def blastRoundUptoCard : Claim7 := { stood := { row := blastRoundUptoRow, standIns := [], harness := (true, "5843cae7d3f23074ef3ada7a35987e7def0119c0a6efba6ebbd582eb73fdc3b6"), looks := false }, kinds := [], alts := [], laidByText := true, laidKinds := [.data, .data, .data], laidTests := true, laidLooks := .later }
def BlastRoundUptoCardSaid : Prop := Claim7.holds Tryd.pinned (.plain (OpenSpec.upto blastRoundSpec)) blastRoundUptoCard

/-- THE SECOND FORM's CARD OF 'umpiragelaw6.BlastNone'. -/
def blastNoneUptoCard : Claim7 := { stood := { row := blastNoneUptoRow, standIns := [], harness := (true, "5843cae7d3f23074ef3ada7a35987e7def0119c0a6efba6ebbd582eb73fdc3b6"), looks := false }, kinds := [], alts := [], laidByText := true, laidKinds := [.data, .data, .data], laidTests := true, laidLooks := .later }
def BlastNoneUptoCardSaid : Prop := Claim7.holds Tryd.pinned (.plain (OpenSpec.upto blastNoneSpec)) blastNoneUptoCard
end Rows
end Go.Proofs.YtcjplcpngagalaaDoor
