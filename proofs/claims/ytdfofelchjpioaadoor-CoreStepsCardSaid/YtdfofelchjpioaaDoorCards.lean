/-
  DERIVED. GIVEN WITH THE SEED: THE CARDS: each row of YtdfofelchjpioaaDoorRows.lean that lists a variable, with what it lists TIED to the program's text (the seventh form; the later family's looks); each row that meets fmt, with fmt's text TOLD by the authors' own Lean function (tested against real Go, not proved from fmt's source: count such statements apart). THE CARD IS WHAT COUNTS. Prove the row's statement (the work); the ties are given (YtdfofelchjpioaaDoorTie.lean); close each card by the builder's one call (the guide's Derived/Test/ToyasCard.lean, 'card_holds'). Laid BY PROGRAM, IN A SANDBOX (cutbox-door.mjs). By AI agents, Wed Nov 11 2026. No macro, syntax, notation, axiom, sorry.
-/
import Derived.Test.YtdfofelchjpioaaDoorRows
import GoSem.ClaimSeven
namespace Go.Proofs.YtdfofelchjpioaaDoor
namespace Rows

/-- THE TIED CARD OF 'ontimelaw09.CoreSteps'. -/
def coreStepsCard : Claim7 := { stood := { row := coreStepsRow, standIns := [], harness := (true, "ca6d318060e6be5c3181035cd7ba0ea1b54573a388232e0b66876f628b558138"), looks := false }, kinds := [], alts := [], laidByText := true, laidKinds := [.data, .data], laidTests := true, laidLooks := .later }
def CoreStepsCardSaid : Prop := Claim7.holds Tryd.pinned (.plain (OpenSpec.ofChange coreStepsSpec)) coreStepsCard

/-- THE SECOND FORM's CARD OF 'ontimelaw09.CoreSteps'. -/
def coreStepsUptoCard : Claim7 := { stood := { row := coreStepsUptoRow, standIns := [], harness := (true, "ca6d318060e6be5c3181035cd7ba0ea1b54573a388232e0b66876f628b558138"), looks := false }, kinds := [], alts := [], laidByText := true, laidKinds := [.data, .data], laidTests := true, laidLooks := .later }
def CoreStepsUptoCardSaid : Prop := Claim7.holds Tryd.pinned (.plain (OpenSpec.upto coreStepsSpec)) coreStepsUptoCard
end Rows
end Go.Proofs.YtdfofelchjpioaaDoor
