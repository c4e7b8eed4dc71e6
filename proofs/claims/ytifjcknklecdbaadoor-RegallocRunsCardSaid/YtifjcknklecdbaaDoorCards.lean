/-
  DERIVED. GIVEN WITH THE SEED: THE CARDS: each row of YtifjcknklecdbaaDoorRows.lean that lists a variable, with what it lists TIED to the program's text (the seventh form; the later family's looks); each row that meets fmt, with fmt's text TOLD by the authors' own Lean function (tested against real Go, not proved from fmt's source: count such statements apart). THE CARD IS WHAT COUNTS. Prove the row's statement (the work); the ties are given (YtifjcknklecdbaaDoorTie.lean); close each card by the builder's one call (the guide's Derived/Test/ToyasCard.lean, 'card_holds'). Laid BY PROGRAM, IN A SANDBOX (cutbox-door.mjs). By AI agents, Wed Nov 11 2026. No macro, syntax, notation, axiom, sorry.
-/
import Derived.Test.YtifjcknklecdbaaDoorRows
import GoSem.ClaimSeven
namespace Go.Proofs.YtifjcknklecdbaaDoor
namespace Rows

/-- THE TIED CARD OF 'ontimelaw20.RegallocRuns'. -/
def regallocRunsCard : Claim7 := { stood := { row := regallocRunsRow, standIns := [], harness := (true, "9ae3a8f4431b60f76739cd8224b72bbd147404516817376abda1d6dc2a7ac76b"), looks := false }, kinds := [], alts := [], laidByText := true, laidKinds := [.data], laidTests := true, laidLooks := .later }
def RegallocRunsCardSaid : Prop := Claim7.holds Tryd.pinned (.plain (OpenSpec.ofChange regallocRunsSpec)) regallocRunsCard

/-- THE SECOND FORM's CARD OF 'ontimelaw20.RegallocRuns'. -/
def regallocRunsUptoCard : Claim7 := { stood := { row := regallocRunsUptoRow, standIns := [], harness := (true, "9ae3a8f4431b60f76739cd8224b72bbd147404516817376abda1d6dc2a7ac76b"), looks := false }, kinds := [], alts := [], laidByText := true, laidKinds := [.data], laidTests := true, laidLooks := .later }
def RegallocRunsUptoCardSaid : Prop := Claim7.holds Tryd.pinned (.plain (OpenSpec.upto regallocRunsSpec)) regallocRunsUptoCard
end Rows
end Go.Proofs.YtifjcknklecdbaaDoor
