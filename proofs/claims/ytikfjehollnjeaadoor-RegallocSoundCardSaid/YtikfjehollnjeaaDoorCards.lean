/-
  DERIVED. GIVEN WITH THE SEED: THE CARDS: each row of YtikfjehollnjeaaDoorRows.lean that lists a variable, with what it lists TIED to the program's text (the seventh form; the later family's looks); each row that meets fmt, with fmt's text TOLD by the authors' own Lean function (tested against real Go, not proved from fmt's source: count such statements apart). THE CARD IS WHAT COUNTS. Prove the row's statement (the work); the ties are given (YtikfjehollnjeaaDoorTie.lean); close each card by the builder's one call (the guide's Derived/Test/ToyasCard.lean, 'card_holds'). Laid BY PROGRAM, IN A SANDBOX (cutbox-door.mjs). By AI agents, Wed Nov 11 2026. No macro, syntax, notation, axiom, sorry.
-/
import Derived.Test.YtikfjehollnjeaaDoorRows
import GoSem.ClaimSeven
namespace Go.Proofs.YtikfjehollnjeaaDoor
namespace Rows

/-- THE TIED CARD OF 'ontimelaw20.RegallocAllocates'. -/
def regallocAllocatesCard : Claim7 := { stood := { row := regallocAllocatesRow, standIns := [], harness := (true, "5c669f7b8ee3137a27fa5e2bf787553d158716567c2b2baf12cfcb7c2694fdd1"), looks := false }, kinds := [], alts := [], laidByText := true, laidKinds := [.data], laidTests := true, laidLooks := .later }
def RegallocAllocatesCardSaid : Prop := Claim7.holds Tryd.pinned (.plain (OpenSpec.ofChange regallocAllocatesSpec)) regallocAllocatesCard

/-- THE TIED CARD OF 'ontimelaw20.RegallocSound'. -/
def regallocSoundCard : Claim7 := { stood := { row := regallocSoundRow, standIns := [], harness := (true, "5c669f7b8ee3137a27fa5e2bf787553d158716567c2b2baf12cfcb7c2694fdd1"), looks := false }, kinds := [], alts := [], laidByText := true, laidKinds := [.data], laidTests := true, laidLooks := .later }
def RegallocSoundCardSaid : Prop := Claim7.holds Tryd.pinned (.plain (OpenSpec.ofChange regallocSoundSpec)) regallocSoundCard

/-- THE TIED CARD OF 'ontimelaw20.RegallocRuns'. -/
def regallocRunsCard : Claim7 := { stood := { row := regallocRunsRow, standIns := [], harness := (true, "5c669f7b8ee3137a27fa5e2bf787553d158716567c2b2baf12cfcb7c2694fdd1"), looks := false }, kinds := [], alts := [], laidByText := true, laidKinds := [.data], laidTests := true, laidLooks := .later }
def RegallocRunsCardSaid : Prop := Claim7.holds Tryd.pinned (.plain (OpenSpec.ofChange regallocRunsSpec)) regallocRunsCard

/-- THE SECOND FORM's CARD OF 'ontimelaw20.RegallocAllocates'. -/
def regallocAllocatesUptoCard : Claim7 := { stood := { row := regallocAllocatesUptoRow, standIns := [], harness := (true, "5c669f7b8ee3137a27fa5e2bf787553d158716567c2b2baf12cfcb7c2694fdd1"), looks := false }, kinds := [], alts := [], laidByText := true, laidKinds := [.data], laidTests := true, laidLooks := .later }
def RegallocAllocatesUptoCardSaid : Prop := Claim7.holds Tryd.pinned (.plain (OpenSpec.upto regallocAllocatesSpec)) regallocAllocatesUptoCard

/-- THE SECOND FORM's CARD OF 'ontimelaw20.RegallocSound'. -/
def regallocSoundUptoCard : Claim7 := { stood := { row := regallocSoundUptoRow, standIns := [], harness := (true, "5c669f7b8ee3137a27fa5e2bf787553d158716567c2b2baf12cfcb7c2694fdd1"), looks := false }, kinds := [], alts := [], laidByText := true, laidKinds := [.data], laidTests := true, laidLooks := .later }
def RegallocSoundUptoCardSaid : Prop := Claim7.holds Tryd.pinned (.plain (OpenSpec.upto regallocSoundSpec)) regallocSoundUptoCard

/-- THE SECOND FORM's CARD OF 'ontimelaw20.RegallocRuns'. -/
def regallocRunsUptoCard : Claim7 := { stood := { row := regallocRunsUptoRow, standIns := [], harness := (true, "5c669f7b8ee3137a27fa5e2bf787553d158716567c2b2baf12cfcb7c2694fdd1"), looks := false }, kinds := [], alts := [], laidByText := true, laidKinds := [.data], laidTests := true, laidLooks := .later }
def RegallocRunsUptoCardSaid : Prop := Claim7.holds Tryd.pinned (.plain (OpenSpec.upto regallocRunsSpec)) regallocRunsUptoCard
end Rows
end Go.Proofs.YtikfjehollnjeaaDoor
