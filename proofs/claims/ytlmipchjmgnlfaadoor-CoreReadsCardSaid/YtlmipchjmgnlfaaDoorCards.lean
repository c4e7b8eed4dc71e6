/-
  DERIVED. GIVEN WITH THE SEED: THE CARDS: each row of YtlmipchjmgnlfaaDoorRows.lean that lists a variable, with what it lists TIED to the program's text (the seventh form; the later family's looks); each row that meets fmt, with fmt's text TOLD by the authors' own Lean function (tested against real Go, not proved from fmt's source: count such statements apart). THE CARD IS WHAT COUNTS. Prove the row's statement (the work); the ties are given (YtlmipchjmgnlfaaDoorTie.lean); close each card by the builder's one call (the guide's Derived/Test/ToyasCard.lean, 'card_holds'). Laid BY PROGRAM, IN A SANDBOX (cutbox-door.mjs). By AI agents, Wed Nov 11 2026. No macro, syntax, notation, axiom, sorry.
-/
import Derived.Test.YtlmipchjmgnlfaaDoorRows
import GoSem.ClaimSeven
namespace Go.Proofs.YtlmipchjmgnlfaaDoor
namespace Rows

/-- THE TIED CARD OF 'ontimelaw09.CoreSteps'. -/
def coreStepsCard : Claim7 := { stood := { row := coreStepsRow, standIns := [], harness := (true, "6038e63abc72dcbc14140c26000a8ca02111cd7b796fa8b801c9f99793717d31"), looks := false }, kinds := [], alts := [], laidByText := true, laidKinds := [.data, .data], laidTests := true, laidLooks := .later }
def CoreStepsCardSaid : Prop := Claim7.holds Tryd.pinned (.plain (OpenSpec.ofChange coreStepsSpec)) coreStepsCard

/-- THE TIED CARD OF 'ontimelaw09.CoreRuns'. -/
def coreRunsCard : Claim7 := { stood := { row := coreRunsRow, standIns := [], harness := (true, "6038e63abc72dcbc14140c26000a8ca02111cd7b796fa8b801c9f99793717d31"), looks := false }, kinds := [], alts := [], laidByText := true, laidKinds := [.data, .data], laidTests := true, laidLooks := .later }
def CoreRunsCardSaid : Prop := Claim7.holds Tryd.pinned (.plain (OpenSpec.ofChange coreRunsSpec)) coreRunsCard

/-- THE TIED CARD OF 'ontimelaw09.CoreFits'. -/
def coreFitsCard : Claim7 := { stood := { row := coreFitsRow, standIns := [], harness := (true, "6038e63abc72dcbc14140c26000a8ca02111cd7b796fa8b801c9f99793717d31"), looks := false }, kinds := [], alts := [], laidByText := true, laidKinds := [.data, .data], laidTests := true, laidLooks := .later }
def CoreFitsCardSaid : Prop := Claim7.holds Tryd.pinned (.plain (OpenSpec.ofChange coreFitsSpec)) coreFitsCard

/-- THE TIED CARD OF 'ontimelaw09.CoreFuel'. -/
def coreFuelCard : Claim7 := { stood := { row := coreFuelRow, standIns := [], harness := (true, "6038e63abc72dcbc14140c26000a8ca02111cd7b796fa8b801c9f99793717d31"), looks := false }, kinds := [], alts := [], laidByText := true, laidKinds := [.data, .data], laidTests := true, laidLooks := .later }
def CoreFuelCardSaid : Prop := Claim7.holds Tryd.pinned (.plain (OpenSpec.ofChange coreFuelSpec)) coreFuelCard

/-- THE TIED CARD OF 'ontimelaw09.CoreNone'. -/
def coreNoneCard : Claim7 := { stood := { row := coreNoneRow, standIns := [], harness := (true, "6038e63abc72dcbc14140c26000a8ca02111cd7b796fa8b801c9f99793717d31"), looks := false }, kinds := [], alts := [], laidByText := true, laidKinds := [.data, .data], laidTests := true, laidLooks := .later }
def CoreNoneCardSaid : Prop := Claim7.holds Tryd.pinned (.plain (OpenSpec.ofChange coreNoneSpec)) coreNoneCard

/-- THE TIED CARD OF 'ontimelaw09.CoreWrites'. -/
def coreWritesCard : Claim7 := { stood := { row := coreWritesRow, standIns := [], harness := (true, "6038e63abc72dcbc14140c26000a8ca02111cd7b796fa8b801c9f99793717d31"), looks := false }, kinds := [], alts := [], laidByText := true, laidKinds := [.data, .data], laidTests := true, laidLooks := .later }
def CoreWritesCardSaid : Prop := Claim7.holds Tryd.pinned (.plain (OpenSpec.ofChange coreWritesSpec)) coreWritesCard

/-- THE TIED CARD OF 'ontimelaw09.CoreReads'. -/
def coreReadsCard : Claim7 := { stood := { row := coreReadsRow, standIns := [], harness := (true, "6038e63abc72dcbc14140c26000a8ca02111cd7b796fa8b801c9f99793717d31"), looks := false }, kinds := [], alts := [], laidByText := true, laidKinds := [.data, .data], laidTests := true, laidLooks := .later }
def CoreReadsCardSaid : Prop := Claim7.holds Tryd.pinned (.plain (OpenSpec.ofChange coreReadsSpec)) coreReadsCard

/-- THE SECOND FORM's CARD OF 'ontimelaw09.CoreSteps'. -/
def coreStepsUptoCard : Claim7 := { stood := { row := coreStepsUptoRow, standIns := [], harness := (true, "6038e63abc72dcbc14140c26000a8ca02111cd7b796fa8b801c9f99793717d31"), looks := false }, kinds := [], alts := [], laidByText := true, laidKinds := [.data, .data], laidTests := true, laidLooks := .later }
def CoreStepsUptoCardSaid : Prop := Claim7.holds Tryd.pinned (.plain (OpenSpec.upto coreStepsSpec)) coreStepsUptoCard

/-- THE SECOND FORM's CARD OF 'ontimelaw09.CoreRuns'. -/
def coreRunsUptoCard : Claim7 := { stood := { row := coreRunsUptoRow, standIns := [], harness := (true, "6038e63abc72dcbc14140c26000a8ca02111cd7b796fa8b801c9f99793717d31"), looks := false }, kinds := [], alts := [], laidByText := true, laidKinds := [.data, .data], laidTests := true, laidLooks := .later }
def CoreRunsUptoCardSaid : Prop := Claim7.holds Tryd.pinned (.plain (OpenSpec.upto coreRunsSpec)) coreRunsUptoCard

/-- THE SECOND FORM's CARD OF 'ontimelaw09.CoreFits'. -/
def coreFitsUptoCard : Claim7 := { stood := { row := coreFitsUptoRow, standIns := [], harness := (true, "6038e63abc72dcbc14140c26000a8ca02111cd7b796fa8b801c9f99793717d31"), looks := false }, kinds := [], alts := [], laidByText := true, laidKinds := [.data, .data], laidTests := true, laidLooks := .later }
def CoreFitsUptoCardSaid : Prop := Claim7.holds Tryd.pinned (.plain (OpenSpec.upto coreFitsSpec)) coreFitsUptoCard

/-- THE SECOND FORM's CARD OF 'ontimelaw09.CoreFuel'. -/
def coreFuelUptoCard : Claim7 := { stood := { row := coreFuelUptoRow, standIns := [], harness := (true, "6038e63abc72dcbc14140c26000a8ca02111cd7b796fa8b801c9f99793717d31"), looks := false }, kinds := [], alts := [], laidByText := true, laidKinds := [.data, .data], laidTests := true, laidLooks := .later }
def CoreFuelUptoCardSaid : Prop := Claim7.holds Tryd.pinned (.plain (OpenSpec.upto coreFuelSpec)) coreFuelUptoCard

/-- THE SECOND FORM's CARD OF 'ontimelaw09.CoreNone'. -/
def coreNoneUptoCard : Claim7 := { stood := { row := coreNoneUptoRow, standIns := [], harness := (true, "6038e63abc72dcbc14140c26000a8ca02111cd7b796fa8b801c9f99793717d31"), looks := false }, kinds := [], alts := [], laidByText := true, laidKinds := [.data, .data], laidTests := true, laidLooks := .later }
def CoreNoneUptoCardSaid : Prop := Claim7.holds Tryd.pinned (.plain (OpenSpec.upto coreNoneSpec)) coreNoneUptoCard

/-- THE SECOND FORM's CARD OF 'ontimelaw09.CoreWrites'. -/
def coreWritesUptoCard : Claim7 := { stood := { row := coreWritesUptoRow, standIns := [], harness := (true, "6038e63abc72dcbc14140c26000a8ca02111cd7b796fa8b801c9f99793717d31"), looks := false }, kinds := [], alts := [], laidByText := true, laidKinds := [.data, .data], laidTests := true, laidLooks := .later }
def CoreWritesUptoCardSaid : Prop := Claim7.holds Tryd.pinned (.plain (OpenSpec.upto coreWritesSpec)) coreWritesUptoCard

/-- THE SECOND FORM's CARD OF 'ontimelaw09.CoreReads'. -/
def coreReadsUptoCard : Claim7 := { stood := { row := coreReadsUptoRow, standIns := [], harness := (true, "6038e63abc72dcbc14140c26000a8ca02111cd7b796fa8b801c9f99793717d31"), looks := false }, kinds := [], alts := [], laidByText := true, laidKinds := [.data, .data], laidTests := true, laidLooks := .later }
def CoreReadsUptoCardSaid : Prop := Claim7.holds Tryd.pinned (.plain (OpenSpec.upto coreReadsSpec)) coreReadsUptoCard
end Rows
end Go.Proofs.YtlmipchjmgnlfaaDoor
