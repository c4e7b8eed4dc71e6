/-
  DERIVED. GIVEN WITH THE SEED: THE CARDS: each row of YtkcfbonchhidlaaGreatDoorRows.lean that lists a variable, with what it lists TIED to the program's text (the seventh form; the later family's looks); each row that meets fmt, with fmt's text TOLD by the authors' own Lean function (tested against real Go, not proved from fmt's source: count such statements apart). THE CARD IS WHAT COUNTS. Prove the row's statement (the work); the ties are given (YtkcfbonchhidlaaGreatDoorTie.lean); close each card by the builder's one call (the guide's Derived/Test/ToyasCard.lean, 'card_holds'). Laid BY PROGRAM, IN A SANDBOX (cutbox-door.mjs). By AI agents, Wed Nov 11 2026. No macro, syntax, notation, axiom, sorry.
-/
import Derived.Test.YtkcfbonchhidlaaGreatDoorRows
import GoSem.ClaimSeven
namespace Go.Proofs.YtkcfbonchhidlaaGreatDoor
namespace Rows

/-- THE TIED CARD OF 'ontimelaw21.CodegenConstant'. -/
def codegenConstantCard : Claim7 := { stood := { row := codegenConstantRow, standIns := [], harness := (true, "79f9a13c6010cde7f00e37a643196ed5ccdbca9afa9e999faba63f2d70413b4f"), looks := false }, kinds := [], alts := [], laidByText := true, laidKinds := [.data, .data, .data], laidTests := true, laidLooks := .later }
def CodegenConstantCardSaid : Prop := Claim7.holds Tryz.pinned (.plain (OpenSpec.ofChange codegenConstantSpec)) codegenConstantCard

/-- THE SECOND FORM's CARD OF 'ontimelaw21.CodegenConstant'. -/
def codegenConstantUptoCard : Claim7 := { stood := { row := codegenConstantUptoRow, standIns := [], harness := (true, "79f9a13c6010cde7f00e37a643196ed5ccdbca9afa9e999faba63f2d70413b4f"), looks := false }, kinds := [], alts := [], laidByText := true, laidKinds := [.data, .data, .data], laidTests := true, laidLooks := .later }
def CodegenConstantUptoCardSaid : Prop := Claim7.holds Tryz.pinned (.plain (OpenSpec.upto codegenConstantSpec)) codegenConstantUptoCard
end Rows
end Go.Proofs.YtkcfbonchhidlaaGreatDoor
