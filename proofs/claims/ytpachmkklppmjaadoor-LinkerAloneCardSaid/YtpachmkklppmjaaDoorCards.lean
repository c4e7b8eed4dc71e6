/-
  DERIVED. GIVEN WITH THE SEED: THE CARDS: each row of YtpachmkklppmjaaDoorRows.lean that lists a variable, with what it lists TIED to the program's text (the seventh form; the later family's looks); each row that meets fmt, with fmt's text TOLD by the authors' own Lean function (tested against real Go, not proved from fmt's source: count such statements apart). THE CARD IS WHAT COUNTS. Prove the row's statement (the work); the ties are given (YtpachmkklppmjaaDoorTie.lean); close each card by the builder's one call (the guide's Derived/Test/ToyasCard.lean, 'card_holds'). Laid BY PROGRAM, IN A SANDBOX (cutbox-door.mjs). By AI agents, Wed Nov 11 2026. No macro, syntax, notation, axiom, sorry.
-/
import Derived.Test.YtpachmkklppmjaaDoorRows
import GoSem.ClaimSeven
namespace Go.Proofs.YtpachmkklppmjaaDoor
namespace Rows

/-- THE TIED CARD OF 'ontimelaw22.LinkerAlone'. -/
def linkerAloneCard : Claim7 := { stood := { row := linkerAloneRow, standIns := [], harness := (true, "c8f554f717db0c08c76f8e0b8737dabbda0725d02b91fd975c87eed81b71fba9"), looks := false }, kinds := [], alts := [], laidByText := true, laidKinds := [.data, .data], laidTests := true, laidLooks := .later }
def LinkerAloneCardSaid : Prop := Claim7.holds Tryd.pinned (.plain (OpenSpec.ofChange linkerAloneSpec)) linkerAloneCard

/-- THE SECOND FORM's CARD OF 'ontimelaw22.LinkerAlone'. -/
def linkerAloneUptoCard : Claim7 := { stood := { row := linkerAloneUptoRow, standIns := [], harness := (true, "c8f554f717db0c08c76f8e0b8737dabbda0725d02b91fd975c87eed81b71fba9"), looks := false }, kinds := [], alts := [], laidByText := true, laidKinds := [.data, .data], laidTests := true, laidLooks := .later }
def LinkerAloneUptoCardSaid : Prop := Claim7.holds Tryd.pinned (.plain (OpenSpec.upto linkerAloneSpec)) linkerAloneUptoCard
end Rows
end Go.Proofs.YtpachmkklppmjaaDoor
