/-
  DERIVED. GIVEN WITH THE SEED: THE CARDS: each row of YtlajdcikhbocdaaDoorRows.lean that lists a variable, with what it lists TIED to the program's text (the seventh form; the later family's looks); each row that meets fmt, with fmt's text TOLD by the authors' own Lean function (tested against real Go, not proved from fmt's source: count such statements apart). THE CARD IS WHAT COUNTS. Prove the row's statement (the work); the ties are given (YtlajdcikhbocdaaDoorTie.lean); close each card by the builder's one call (the guide's Derived/Test/ToyasCard.lean, 'card_holds'). Laid BY PROGRAM, IN A SANDBOX (cutbox-door.mjs). By AI agents, Wed Nov 11 2026. No macro, syntax, notation, axiom, sorry.
-/
import Derived.Test.YtlajdcikhbocdaaDoorRows
import GoSem.ClaimSeven
namespace Go.Proofs.YtlajdcikhbocdaaDoor
namespace Rows

/-- THE TIED CARD OF 'ontimelaw21.CodegenValid'. -/
def codegenValidCard : Claim7 := { stood := { row := codegenValidRow, standIns := [], harness := (true, "4b5b32c25c3e4a265eb4f1ca37007b3f3bff45c76630dff70706e1f8b0bf86de"), looks := false }, kinds := [], alts := [], laidByText := true, laidKinds := [.data, .data], laidTests := true, laidLooks := .later }
def CodegenValidCardSaid : Prop := Claim7.holds Tryd.pinned (.plain (OpenSpec.ofChange codegenValidSpec)) codegenValidCard

/-- THE TIED CARD OF 'ontimelaw21.CodegenTells'. -/
def codegenTellsCard : Claim7 := { stood := { row := codegenTellsRow, standIns := [], harness := (true, "4b5b32c25c3e4a265eb4f1ca37007b3f3bff45c76630dff70706e1f8b0bf86de"), looks := false }, kinds := [], alts := [], laidByText := true, laidKinds := [.data, .data], laidTests := true, laidLooks := .later }
def CodegenTellsCardSaid : Prop := Claim7.holds Tryd.pinned (.plain (OpenSpec.ofChange codegenTellsSpec)) codegenTellsCard

/-- THE TIED CARD OF 'ontimelaw21.CodegenLayout'. -/
def codegenLayoutCard : Claim7 := { stood := { row := codegenLayoutRow, standIns := [], harness := (true, "4b5b32c25c3e4a265eb4f1ca37007b3f3bff45c76630dff70706e1f8b0bf86de"), looks := false }, kinds := [], alts := [], laidByText := true, laidKinds := [.data, .data], laidTests := true, laidLooks := .later }
def CodegenLayoutCardSaid : Prop := Claim7.holds Tryd.pinned (.plain (OpenSpec.ofChange codegenLayoutSpec)) codegenLayoutCard

/-- THE TIED CARD OF 'ontimelaw21.CodegenCounts'. -/
def codegenCountsCard : Claim7 := { stood := { row := codegenCountsRow, standIns := [], harness := (true, "4b5b32c25c3e4a265eb4f1ca37007b3f3bff45c76630dff70706e1f8b0bf86de"), looks := false }, kinds := [], alts := [], laidByText := true, laidKinds := [.data, .data], laidTests := true, laidLooks := .later }
def CodegenCountsCardSaid : Prop := Claim7.holds Tryd.pinned (.plain (OpenSpec.ofChange codegenCountsSpec)) codegenCountsCard

/-- THE TIED CARD OF 'ontimelaw21.CodegenErrors'. -/
def codegenErrorsCard : Claim7 := { stood := { row := codegenErrorsRow, standIns := [], harness := (true, "4b5b32c25c3e4a265eb4f1ca37007b3f3bff45c76630dff70706e1f8b0bf86de"), looks := false }, kinds := [], alts := [], laidByText := true, laidKinds := [.data, .data], laidTests := true, laidLooks := .later }
def CodegenErrorsCardSaid : Prop := Claim7.holds Tryd.pinned (.plain (OpenSpec.ofChange codegenErrorsSpec)) codegenErrorsCard

/-- THE TIED CARD OF 'ontimelaw21.CodegenCounters'. -/
def codegenCountersCard : Claim7 := { stood := { row := codegenCountersRow, standIns := [], harness := (true, "4b5b32c25c3e4a265eb4f1ca37007b3f3bff45c76630dff70706e1f8b0bf86de"), looks := false }, kinds := [], alts := [], laidByText := true, laidKinds := [.data, .data], laidTests := true, laidLooks := .later }
def CodegenCountersCardSaid : Prop := Claim7.holds Tryd.pinned (.plain (OpenSpec.ofChange codegenCountersSpec)) codegenCountersCard

/-- THE SECOND FORM's CARD OF 'ontimelaw21.CodegenValid'. -/
def codegenValidUptoCard : Claim7 := { stood := { row := codegenValidUptoRow, standIns := [], harness := (true, "4b5b32c25c3e4a265eb4f1ca37007b3f3bff45c76630dff70706e1f8b0bf86de"), looks := false }, kinds := [], alts := [], laidByText := true, laidKinds := [.data, .data], laidTests := true, laidLooks := .later }
def CodegenValidUptoCardSaid : Prop := Claim7.holds Tryd.pinned (.plain (OpenSpec.upto codegenValidSpec)) codegenValidUptoCard

/-- THE SECOND FORM's CARD OF 'ontimelaw21.CodegenTells'. -/
def codegenTellsUptoCard : Claim7 := { stood := { row := codegenTellsUptoRow, standIns := [], harness := (true, "4b5b32c25c3e4a265eb4f1ca37007b3f3bff45c76630dff70706e1f8b0bf86de"), looks := false }, kinds := [], alts := [], laidByText := true, laidKinds := [.data, .data], laidTests := true, laidLooks := .later }
def CodegenTellsUptoCardSaid : Prop := Claim7.holds Tryd.pinned (.plain (OpenSpec.upto codegenTellsSpec)) codegenTellsUptoCard

/-- THE SECOND FORM's CARD OF 'ontimelaw21.CodegenLayout'. -/
def codegenLayoutUptoCard : Claim7 := { stood := { row := codegenLayoutUptoRow, standIns := [], harness := (true, "4b5b32c25c3e4a265eb4f1ca37007b3f3bff45c76630dff70706e1f8b0bf86de"), looks := false }, kinds := [], alts := [], laidByText := true, laidKinds := [.data, .data], laidTests := true, laidLooks := .later }
def CodegenLayoutUptoCardSaid : Prop := Claim7.holds Tryd.pinned (.plain (OpenSpec.upto codegenLayoutSpec)) codegenLayoutUptoCard

/-- THE SECOND FORM's CARD OF 'ontimelaw21.CodegenCounts'. -/
def codegenCountsUptoCard : Claim7 := { stood := { row := codegenCountsUptoRow, standIns := [], harness := (true, "4b5b32c25c3e4a265eb4f1ca37007b3f3bff45c76630dff70706e1f8b0bf86de"), looks := false }, kinds := [], alts := [], laidByText := true, laidKinds := [.data, .data], laidTests := true, laidLooks := .later }
def CodegenCountsUptoCardSaid : Prop := Claim7.holds Tryd.pinned (.plain (OpenSpec.upto codegenCountsSpec)) codegenCountsUptoCard

/-- THE SECOND FORM's CARD OF 'ontimelaw21.CodegenErrors'. -/
def codegenErrorsUptoCard : Claim7 := { stood := { row := codegenErrorsUptoRow, standIns := [], harness := (true, "4b5b32c25c3e4a265eb4f1ca37007b3f3bff45c76630dff70706e1f8b0bf86de"), looks := false }, kinds := [], alts := [], laidByText := true, laidKinds := [.data, .data], laidTests := true, laidLooks := .later }
def CodegenErrorsUptoCardSaid : Prop := Claim7.holds Tryd.pinned (.plain (OpenSpec.upto codegenErrorsSpec)) codegenErrorsUptoCard

/-- THE SECOND FORM's CARD OF 'ontimelaw21.CodegenCounters'. -/
def codegenCountersUptoCard : Claim7 := { stood := { row := codegenCountersUptoRow, standIns := [], harness := (true, "4b5b32c25c3e4a265eb4f1ca37007b3f3bff45c76630dff70706e1f8b0bf86de"), looks := false }, kinds := [], alts := [], laidByText := true, laidKinds := [.data, .data], laidTests := true, laidLooks := .later }
def CodegenCountersUptoCardSaid : Prop := Claim7.holds Tryd.pinned (.plain (OpenSpec.upto codegenCountersSpec)) codegenCountersUptoCard
end Rows
end Go.Proofs.YtlajdcikhbocdaaDoor
