/-
  DERIVED. GIVEN WITH THE SEED: THE CARDS: each row of YtankanmggeimkaaDoorRows.lean that lists a variable, with what it lists TIED to the program's text (the seventh form; the later family's looks); each row that meets fmt, with fmt's text TOLD by the authors' own Lean function (tested against real Go, not proved from fmt's source: count such statements apart). THE CARD IS WHAT COUNTS. Prove the row's statement (the work); the ties are given (YtankanmggeimkaaDoorTie.lean); close each card by the builder's one call (the guide's Derived/Test/ToyasCard.lean, 'card_holds'). Laid BY PROGRAM, IN A SANDBOX (cutbox-door.mjs). By AI agents, Wed Nov 11 2026. No macro, syntax, notation, axiom, sorry.
-/
import Derived.Test.YtankanmggeimkaaDoorRows
import GoSem.ClaimSeven
namespace Go.Proofs.YtankanmggeimkaaDoor
namespace Rows

/-- THE TIED CARD OF 'ontimelaw04.IsaValid'. -/
def isaValidCard : Claim7 := { stood := { row := isaValidRow, standIns := [], harness := (true, "3f7065c4a9c01cb9d9d9b2f4dc21c19227e4315c081284c49656a8beddc3072b"), looks := false }, kinds := [], alts := [], laidByText := true, laidKinds := [.data], laidTests := true, laidLooks := .later }
def IsaValidCardSaid : Prop := Claim7.holds Tryd.pinned (.plain (OpenSpec.ofChange isaValidSpec)) isaValidCard

/-- THE TIED CARD OF 'ontimelaw04.IsaDecodes'. -/
def isaDecodesCard : Claim7 := { stood := { row := isaDecodesRow, standIns := [], harness := (true, "3f7065c4a9c01cb9d9d9b2f4dc21c19227e4315c081284c49656a8beddc3072b"), looks := false }, kinds := [], alts := [], laidByText := true, laidKinds := [.data], laidTests := true, laidLooks := .later }
def IsaDecodesCardSaid : Prop := Claim7.holds Tryd.pinned (.plain (OpenSpec.ofChange isaDecodesSpec)) isaDecodesCard

/-- THE TIED CARD OF 'ontimelaw04.IsaRound'. -/
def isaRoundCard : Claim7 := { stood := { row := isaRoundRow, standIns := [], harness := (true, "3f7065c4a9c01cb9d9d9b2f4dc21c19227e4315c081284c49656a8beddc3072b"), looks := false }, kinds := [], alts := [], laidByText := true, laidKinds := [.data], laidTests := true, laidLooks := .later }
def IsaRoundCardSaid : Prop := Claim7.holds Tryd.pinned (.plain (OpenSpec.ofChange isaRoundSpec)) isaRoundCard

/-- THE TIED CARD OF 'ontimelaw04.IsaWords'. -/
def isaWordsCard : Claim7 := { stood := { row := isaWordsRow, standIns := [], harness := (true, "3f7065c4a9c01cb9d9d9b2f4dc21c19227e4315c081284c49656a8beddc3072b"), looks := false }, kinds := [], alts := [], laidByText := true, laidKinds := [.data], laidTests := true, laidLooks := .later }
def IsaWordsCardSaid : Prop := Claim7.holds Tryd.pinned (.plain (OpenSpec.ofChange isaWordsSpec)) isaWordsCard

/-- THE TIED CARD OF 'ontimelaw04.IsaDistinct'. -/
def isaDistinctCard : Claim7 := { stood := { row := isaDistinctRow, standIns := [], harness := (true, "3f7065c4a9c01cb9d9d9b2f4dc21c19227e4315c081284c49656a8beddc3072b"), looks := false }, kinds := [], alts := [], laidByText := true, laidKinds := [.data], laidTests := true, laidLooks := .later }
def IsaDistinctCardSaid : Prop := Claim7.holds Tryd.pinned (.plain (OpenSpec.ofChange isaDistinctSpec)) isaDistinctCard

/-- THE TIED CARD OF 'ontimelaw04.IsaTargets'. -/
def isaTargetsCard : Claim7 := { stood := { row := isaTargetsRow, standIns := [], harness := (true, "3f7065c4a9c01cb9d9d9b2f4dc21c19227e4315c081284c49656a8beddc3072b"), looks := false }, kinds := [], alts := [], laidByText := true, laidKinds := [.data], laidTests := true, laidLooks := .later }
def IsaTargetsCardSaid : Prop := Claim7.holds Tryd.pinned (.plain (OpenSpec.ofChange isaTargetsSpec)) isaTargetsCard

/-- THE TIED CARD OF 'ontimelaw04.IsaNames'. -/
def isaNamesCard : Claim7 := { stood := { row := isaNamesRow, standIns := [], harness := (true, "3f7065c4a9c01cb9d9d9b2f4dc21c19227e4315c081284c49656a8beddc3072b"), looks := false }, kinds := [], alts := [], laidByText := true, laidKinds := [.data], laidTests := true, laidLooks := .later }
def IsaNamesCardSaid : Prop := Claim7.holds Tryd.pinned (.plain (OpenSpec.ofChange isaNamesSpec)) isaNamesCard

/-- THE TIED CARD OF 'ontimelaw04.IsaAccesses'. -/
def isaAccessesCard : Claim7 := { stood := { row := isaAccessesRow, standIns := [], harness := (true, "3f7065c4a9c01cb9d9d9b2f4dc21c19227e4315c081284c49656a8beddc3072b"), looks := false }, kinds := [], alts := [], laidByText := true, laidKinds := [.data], laidTests := true, laidLooks := .later }
def IsaAccessesCardSaid : Prop := Claim7.holds Tryd.pinned (.plain (OpenSpec.ofChange isaAccessesSpec)) isaAccessesCard

/-- THE TIED CARD OF 'ontimelaw04.IsaRegisters'. -/
def isaRegistersCard : Claim7 := { stood := { row := isaRegistersRow, standIns := [], harness := (true, "3f7065c4a9c01cb9d9d9b2f4dc21c19227e4315c081284c49656a8beddc3072b"), looks := false }, kinds := [], alts := [], laidByText := true, laidKinds := [.data], laidTests := true, laidLooks := .later }
def IsaRegistersCardSaid : Prop := Claim7.holds Tryd.pinned (.plain (OpenSpec.ofChange isaRegistersSpec)) isaRegistersCard

/-- THE SECOND FORM's CARD OF 'ontimelaw04.IsaValid'. -/
def isaValidUptoCard : Claim7 := { stood := { row := isaValidUptoRow, standIns := [], harness := (true, "3f7065c4a9c01cb9d9d9b2f4dc21c19227e4315c081284c49656a8beddc3072b"), looks := false }, kinds := [], alts := [], laidByText := true, laidKinds := [.data], laidTests := true, laidLooks := .later }
def IsaValidUptoCardSaid : Prop := Claim7.holds Tryd.pinned (.plain (OpenSpec.upto isaValidSpec)) isaValidUptoCard

/-- THE SECOND FORM's CARD OF 'ontimelaw04.IsaDecodes'. -/
def isaDecodesUptoCard : Claim7 := { stood := { row := isaDecodesUptoRow, standIns := [], harness := (true, "3f7065c4a9c01cb9d9d9b2f4dc21c19227e4315c081284c49656a8beddc3072b"), looks := false }, kinds := [], alts := [], laidByText := true, laidKinds := [.data], laidTests := true, laidLooks := .later }
def IsaDecodesUptoCardSaid : Prop := Claim7.holds Tryd.pinned (.plain (OpenSpec.upto isaDecodesSpec)) isaDecodesUptoCard

/-- THE SECOND FORM's CARD OF 'ontimelaw04.IsaRound'. -/
def isaRoundUptoCard : Claim7 := { stood := { row := isaRoundUptoRow, standIns := [], harness := (true, "3f7065c4a9c01cb9d9d9b2f4dc21c19227e4315c081284c49656a8beddc3072b"), looks := false }, kinds := [], alts := [], laidByText := true, laidKinds := [.data], laidTests := true, laidLooks := .later }
def IsaRoundUptoCardSaid : Prop := Claim7.holds Tryd.pinned (.plain (OpenSpec.upto isaRoundSpec)) isaRoundUptoCard

/-- THE SECOND FORM's CARD OF 'ontimelaw04.IsaWords'. -/
def isaWordsUptoCard : Claim7 := { stood := { row := isaWordsUptoRow, standIns := [], harness := (true, "3f7065c4a9c01cb9d9d9b2f4dc21c19227e4315c081284c49656a8beddc3072b"), looks := false }, kinds := [], alts := [], laidByText := true, laidKinds := [.data], laidTests := true, laidLooks := .later }
def IsaWordsUptoCardSaid : Prop := Claim7.holds Tryd.pinned (.plain (OpenSpec.upto isaWordsSpec)) isaWordsUptoCard

/-- THE SECOND FORM's CARD OF 'ontimelaw04.IsaDistinct'. -/
def isaDistinctUptoCard : Claim7 := { stood := { row := isaDistinctUptoRow, standIns := [], harness := (true, "3f7065c4a9c01cb9d9d9b2f4dc21c19227e4315c081284c49656a8beddc3072b"), looks := false }, kinds := [], alts := [], laidByText := true, laidKinds := [.data], laidTests := true, laidLooks := .later }
def IsaDistinctUptoCardSaid : Prop := Claim7.holds Tryd.pinned (.plain (OpenSpec.upto isaDistinctSpec)) isaDistinctUptoCard

/-- THE SECOND FORM's CARD OF 'ontimelaw04.IsaTargets'. -/
def isaTargetsUptoCard : Claim7 := { stood := { row := isaTargetsUptoRow, standIns := [], harness := (true, "3f7065c4a9c01cb9d9d9b2f4dc21c19227e4315c081284c49656a8beddc3072b"), looks := false }, kinds := [], alts := [], laidByText := true, laidKinds := [.data], laidTests := true, laidLooks := .later }
def IsaTargetsUptoCardSaid : Prop := Claim7.holds Tryd.pinned (.plain (OpenSpec.upto isaTargetsSpec)) isaTargetsUptoCard

/-- THE SECOND FORM's CARD OF 'ontimelaw04.IsaNames'. -/
def isaNamesUptoCard : Claim7 := { stood := { row := isaNamesUptoRow, standIns := [], harness := (true, "3f7065c4a9c01cb9d9d9b2f4dc21c19227e4315c081284c49656a8beddc3072b"), looks := false }, kinds := [], alts := [], laidByText := true, laidKinds := [.data], laidTests := true, laidLooks := .later }
def IsaNamesUptoCardSaid : Prop := Claim7.holds Tryd.pinned (.plain (OpenSpec.upto isaNamesSpec)) isaNamesUptoCard

/-- THE SECOND FORM's CARD OF 'ontimelaw04.IsaAccesses'. -/
def isaAccessesUptoCard : Claim7 := { stood := { row := isaAccessesUptoRow, standIns := [], harness := (true, "3f7065c4a9c01cb9d9d9b2f4dc21c19227e4315c081284c49656a8beddc3072b"), looks := false }, kinds := [], alts := [], laidByText := true, laidKinds := [.data], laidTests := true, laidLooks := .later }
def IsaAccessesUptoCardSaid : Prop := Claim7.holds Tryd.pinned (.plain (OpenSpec.upto isaAccessesSpec)) isaAccessesUptoCard

/-- THE SECOND FORM's CARD OF 'ontimelaw04.IsaRegisters'. -/
def isaRegistersUptoCard : Claim7 := { stood := { row := isaRegistersUptoRow, standIns := [], harness := (true, "3f7065c4a9c01cb9d9d9b2f4dc21c19227e4315c081284c49656a8beddc3072b"), looks := false }, kinds := [], alts := [], laidByText := true, laidKinds := [.data], laidTests := true, laidLooks := .later }
def IsaRegistersUptoCardSaid : Prop := Claim7.holds Tryd.pinned (.plain (OpenSpec.upto isaRegistersSpec)) isaRegistersUptoCard
end Rows
end Go.Proofs.YtankanmggeimkaaDoor
