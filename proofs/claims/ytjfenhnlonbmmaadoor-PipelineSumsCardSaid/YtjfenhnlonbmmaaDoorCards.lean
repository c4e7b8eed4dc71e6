/-
  DERIVED. GIVEN WITH THE SEED: THE CARDS: each row of YtjfenhnlonbmmaaDoorRows.lean that lists a variable, with what it lists TIED to the program's text (the seventh form; the later family's looks); each row that meets fmt, with fmt's text TOLD by the authors' own Lean function (tested against real Go, not proved from fmt's source: count such statements apart). THE CARD IS WHAT COUNTS. Prove the row's statement (the work); the ties are given (YtjfenhnlonbmmaaDoorTie.lean); close each card by the builder's one call (the guide's Derived/Test/ToyasCard.lean, 'card_holds'). Laid BY PROGRAM, IN A SANDBOX (cutbox-door.mjs). By AI agents, Wed Nov 11 2026. No macro, syntax, notation, axiom, sorry.
-/
import Derived.Test.YtjfenhnlonbmmaaDoorRows
import GoSem.ClaimSeven
namespace Go.Proofs.YtjfenhnlonbmmaaDoor
namespace Rows

/-- THE TIED CARD OF 'ontimelaw08.PipelineStates'. -/
def pipelineStatesCard : Claim7 := { stood := { row := pipelineStatesRow, standIns := [], harness := (true, "b77a0f8915a70c8d3f22a2abd688547d4735dbc80986aff7b804fa77ff8b4da2"), looks := false }, kinds := [], alts := [], laidByText := true, laidKinds := [.data], laidTests := true, laidLooks := .later }
def PipelineStatesCardSaid : Prop := Claim7.holds Tryd.pinned (.plain (OpenSpec.ofChange pipelineStatesSpec)) pipelineStatesCard

/-- THE TIED CARD OF 'ontimelaw08.PipelineSums'. -/
def pipelineSumsCard : Claim7 := { stood := { row := pipelineSumsRow, standIns := [], harness := (true, "b77a0f8915a70c8d3f22a2abd688547d4735dbc80986aff7b804fa77ff8b4da2"), looks := false }, kinds := [], alts := [], laidByText := true, laidKinds := [.data], laidTests := true, laidLooks := .later }
def PipelineSumsCardSaid : Prop := Claim7.holds Tryd.pinned (.plain (OpenSpec.ofChange pipelineSumsSpec)) pipelineSumsCard

/-- THE TIED CARD OF 'ontimelaw08.PipelineDivides'. -/
def pipelineDividesCard : Claim7 := { stood := { row := pipelineDividesRow, standIns := [], harness := (true, "b77a0f8915a70c8d3f22a2abd688547d4735dbc80986aff7b804fa77ff8b4da2"), looks := false }, kinds := [], alts := [], laidByText := true, laidKinds := [.data], laidTests := true, laidLooks := .later }
def PipelineDividesCardSaid : Prop := Claim7.holds Tryd.pinned (.plain (OpenSpec.ofChange pipelineDividesSpec)) pipelineDividesCard

/-- THE TIED CARD OF 'ontimelaw08.PipelineStarts'. -/
def pipelineStartsCard : Claim7 := { stood := { row := pipelineStartsRow, standIns := [], harness := (true, "b77a0f8915a70c8d3f22a2abd688547d4735dbc80986aff7b804fa77ff8b4da2"), looks := false }, kinds := [], alts := [], laidByText := true, laidKinds := [.data], laidTests := true, laidLooks := .later }
def PipelineStartsCardSaid : Prop := Claim7.holds Tryd.pinned (.plain (OpenSpec.ofChange pipelineStartsSpec)) pipelineStartsCard

/-- THE TIED CARD OF 'ontimelaw08.PipelineReads'. -/
def pipelineReadsCard : Claim7 := { stood := { row := pipelineReadsRow, standIns := [], harness := (true, "b77a0f8915a70c8d3f22a2abd688547d4735dbc80986aff7b804fa77ff8b4da2"), looks := false }, kinds := [], alts := [], laidByText := true, laidKinds := [.data], laidTests := true, laidLooks := .later }
def PipelineReadsCardSaid : Prop := Claim7.holds Tryd.pinned (.plain (OpenSpec.ofChange pipelineReadsSpec)) pipelineReadsCard

/-- THE TIED CARD OF 'ontimelaw08.PipelineCycles'. -/
def pipelineCyclesCard : Claim7 := { stood := { row := pipelineCyclesRow, standIns := [], harness := (true, "b77a0f8915a70c8d3f22a2abd688547d4735dbc80986aff7b804fa77ff8b4da2"), looks := false }, kinds := [], alts := [], laidByText := true, laidKinds := [.data], laidTests := true, laidLooks := .later }
def PipelineCyclesCardSaid : Prop := Claim7.holds Tryd.pinned (.plain (OpenSpec.ofChange pipelineCyclesSpec)) pipelineCyclesCard

/-- THE TIED CARD OF 'ontimelaw08.PipelineExtremes'. -/
def pipelineExtremesCard : Claim7 := { stood := { row := pipelineExtremesRow, standIns := [], harness := (true, "b77a0f8915a70c8d3f22a2abd688547d4735dbc80986aff7b804fa77ff8b4da2"), looks := false }, kinds := [], alts := [], laidByText := true, laidKinds := [.data], laidTests := true, laidLooks := .later }
def PipelineExtremesCardSaid : Prop := Claim7.holds Tryd.pinned (.plain (OpenSpec.ofChange pipelineExtremesSpec)) pipelineExtremesCard

/-- THE TIED CARD OF 'ontimelaw08.PipelineBounds'. -/
def pipelineBoundsCard : Claim7 := { stood := { row := pipelineBoundsRow, standIns := [], harness := (true, "b77a0f8915a70c8d3f22a2abd688547d4735dbc80986aff7b804fa77ff8b4da2"), looks := false }, kinds := [], alts := [], laidByText := true, laidKinds := [.data], laidTests := true, laidLooks := .later }
def PipelineBoundsCardSaid : Prop := Claim7.holds Tryd.pinned (.plain (OpenSpec.ofChange pipelineBoundsSpec)) pipelineBoundsCard

/-- THE SECOND FORM's CARD OF 'ontimelaw08.PipelineStates'. -/
def pipelineStatesUptoCard : Claim7 := { stood := { row := pipelineStatesUptoRow, standIns := [], harness := (true, "b77a0f8915a70c8d3f22a2abd688547d4735dbc80986aff7b804fa77ff8b4da2"), looks := false }, kinds := [], alts := [], laidByText := true, laidKinds := [.data], laidTests := true, laidLooks := .later }
def PipelineStatesUptoCardSaid : Prop := Claim7.holds Tryd.pinned (.plain (OpenSpec.upto pipelineStatesSpec)) pipelineStatesUptoCard

/-- THE SECOND FORM's CARD OF 'ontimelaw08.PipelineSums'. -/
def pipelineSumsUptoCard : Claim7 := { stood := { row := pipelineSumsUptoRow, standIns := [], harness := (true, "b77a0f8915a70c8d3f22a2abd688547d4735dbc80986aff7b804fa77ff8b4da2"), looks := false }, kinds := [], alts := [], laidByText := true, laidKinds := [.data], laidTests := true, laidLooks := .later }
def PipelineSumsUptoCardSaid : Prop := Claim7.holds Tryd.pinned (.plain (OpenSpec.upto pipelineSumsSpec)) pipelineSumsUptoCard

/-- THE SECOND FORM's CARD OF 'ontimelaw08.PipelineDivides'. -/
def pipelineDividesUptoCard : Claim7 := { stood := { row := pipelineDividesUptoRow, standIns := [], harness := (true, "b77a0f8915a70c8d3f22a2abd688547d4735dbc80986aff7b804fa77ff8b4da2"), looks := false }, kinds := [], alts := [], laidByText := true, laidKinds := [.data], laidTests := true, laidLooks := .later }
def PipelineDividesUptoCardSaid : Prop := Claim7.holds Tryd.pinned (.plain (OpenSpec.upto pipelineDividesSpec)) pipelineDividesUptoCard

/-- THE SECOND FORM's CARD OF 'ontimelaw08.PipelineStarts'. -/
def pipelineStartsUptoCard : Claim7 := { stood := { row := pipelineStartsUptoRow, standIns := [], harness := (true, "b77a0f8915a70c8d3f22a2abd688547d4735dbc80986aff7b804fa77ff8b4da2"), looks := false }, kinds := [], alts := [], laidByText := true, laidKinds := [.data], laidTests := true, laidLooks := .later }
def PipelineStartsUptoCardSaid : Prop := Claim7.holds Tryd.pinned (.plain (OpenSpec.upto pipelineStartsSpec)) pipelineStartsUptoCard

/-- THE SECOND FORM's CARD OF 'ontimelaw08.PipelineReads'. -/
def pipelineReadsUptoCard : Claim7 := { stood := { row := pipelineReadsUptoRow, standIns := [], harness := (true, "b77a0f8915a70c8d3f22a2abd688547d4735dbc80986aff7b804fa77ff8b4da2"), looks := false }, kinds := [], alts := [], laidByText := true, laidKinds := [.data], laidTests := true, laidLooks := .later }
def PipelineReadsUptoCardSaid : Prop := Claim7.holds Tryd.pinned (.plain (OpenSpec.upto pipelineReadsSpec)) pipelineReadsUptoCard

/-- THE SECOND FORM's CARD OF 'ontimelaw08.PipelineCycles'. -/
def pipelineCyclesUptoCard : Claim7 := { stood := { row := pipelineCyclesUptoRow, standIns := [], harness := (true, "b77a0f8915a70c8d3f22a2abd688547d4735dbc80986aff7b804fa77ff8b4da2"), looks := false }, kinds := [], alts := [], laidByText := true, laidKinds := [.data], laidTests := true, laidLooks := .later }
def PipelineCyclesUptoCardSaid : Prop := Claim7.holds Tryd.pinned (.plain (OpenSpec.upto pipelineCyclesSpec)) pipelineCyclesUptoCard

/-- THE SECOND FORM's CARD OF 'ontimelaw08.PipelineExtremes'. -/
def pipelineExtremesUptoCard : Claim7 := { stood := { row := pipelineExtremesUptoRow, standIns := [], harness := (true, "b77a0f8915a70c8d3f22a2abd688547d4735dbc80986aff7b804fa77ff8b4da2"), looks := false }, kinds := [], alts := [], laidByText := true, laidKinds := [.data], laidTests := true, laidLooks := .later }
def PipelineExtremesUptoCardSaid : Prop := Claim7.holds Tryd.pinned (.plain (OpenSpec.upto pipelineExtremesSpec)) pipelineExtremesUptoCard

/-- THE SECOND FORM's CARD OF 'ontimelaw08.PipelineBounds'. -/
def pipelineBoundsUptoCard : Claim7 := { stood := { row := pipelineBoundsUptoRow, standIns := [], harness := (true, "b77a0f8915a70c8d3f22a2abd688547d4735dbc80986aff7b804fa77ff8b4da2"), looks := false }, kinds := [], alts := [], laidByText := true, laidKinds := [.data], laidTests := true, laidLooks := .later }
def PipelineBoundsUptoCardSaid : Prop := Claim7.holds Tryd.pinned (.plain (OpenSpec.upto pipelineBoundsSpec)) pipelineBoundsUptoCard
end Rows
end Go.Proofs.YtjfenhnlonbmmaaDoor
