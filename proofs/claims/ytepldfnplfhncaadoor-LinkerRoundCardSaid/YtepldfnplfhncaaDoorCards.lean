/-
  DERIVED. GIVEN WITH THE SEED: THE CARDS: each row of YtepldfnplfhncaaDoorRows.lean that lists a variable, with what it lists TIED to the program's text (the seventh form; the later family's looks); each row that meets fmt, with fmt's text TOLD by the authors' own Lean function (tested against real Go, not proved from fmt's source: count such statements apart). THE CARD IS WHAT COUNTS. Prove the row's statement (the work); the ties are given (YtepldfnplfhncaaDoorTie.lean); close each card by the builder's one call (the guide's Derived/Test/ToyasCard.lean, 'card_holds'). Laid BY PROGRAM, IN A SANDBOX (cutbox-door.mjs). By AI agents, Wed Nov 11 2026. No macro, syntax, notation, axiom, sorry.
-/
import Derived.Test.YtepldfnplfhncaaDoorRows
import GoSem.ClaimSeven
namespace Go.Proofs.YtepldfnplfhncaaDoor
namespace Rows

/-- THE TIED CARD OF 'ontimelaw22.LinkerChecks'. -/
def linkerChecksCard : Claim7 := { stood := { row := linkerChecksRow, standIns := [], harness := (true, "b1415e7dfcc1479674267753a2382291830634fbdcaf943d1c3ee70dfd31e293"), looks := false }, kinds := [], alts := [], laidByText := true, laidKinds := [.data], laidTests := true, laidLooks := .later }
def LinkerChecksCardSaid : Prop := Claim7.holds Tryd.pinned (.plain (OpenSpec.ofChange linkerChecksSpec)) linkerChecksCard

/-- THE TIED CARD OF 'ontimelaw22.LinkerRound'. -/
def linkerRoundCard : Claim7 := { stood := { row := linkerRoundRow, standIns := [], harness := (true, "b1415e7dfcc1479674267753a2382291830634fbdcaf943d1c3ee70dfd31e293"), looks := false }, kinds := [], alts := [], laidByText := true, laidKinds := [.data], laidTests := true, laidLooks := .later }
def LinkerRoundCardSaid : Prop := Claim7.holds Tryd.pinned (.plain (OpenSpec.ofChange linkerRoundSpec)) linkerRoundCard

/-- THE TIED CARD OF 'ontimelaw22.LinkerAny'. -/
def linkerAnyCard : Claim7 := { stood := { row := linkerAnyRow, standIns := [], harness := (true, "b1415e7dfcc1479674267753a2382291830634fbdcaf943d1c3ee70dfd31e293"), looks := false }, kinds := [], alts := [], laidByText := true, laidKinds := [.data], laidTests := true, laidLooks := .later }
def LinkerAnyCardSaid : Prop := Claim7.holds Tryd.pinned (.plain (OpenSpec.ofChange linkerAnySpec)) linkerAnyCard

/-- THE TIED CARD OF 'ontimelaw22.LinkerCuts'. -/
def linkerCutsCard : Claim7 := { stood := { row := linkerCutsRow, standIns := [], harness := (true, "b1415e7dfcc1479674267753a2382291830634fbdcaf943d1c3ee70dfd31e293"), looks := false }, kinds := [], alts := [], laidByText := true, laidKinds := [.data], laidTests := true, laidLooks := .later }
def LinkerCutsCardSaid : Prop := Claim7.holds Tryd.pinned (.plain (OpenSpec.ofChange linkerCutsSpec)) linkerCutsCard

/-- THE TIED CARD OF 'ontimelaw22.LinkerAlone'. -/
def linkerAloneCard : Claim7 := { stood := { row := linkerAloneRow, standIns := [], harness := (true, "b1415e7dfcc1479674267753a2382291830634fbdcaf943d1c3ee70dfd31e293"), looks := false }, kinds := [], alts := [], laidByText := true, laidKinds := [.data, .data], laidTests := true, laidLooks := .later }
def LinkerAloneCardSaid : Prop := Claim7.holds Tryd.pinned (.plain (OpenSpec.ofChange linkerAloneSpec)) linkerAloneCard

/-- THE SECOND FORM's CARD OF 'ontimelaw22.LinkerChecks'. -/
def linkerChecksUptoCard : Claim7 := { stood := { row := linkerChecksUptoRow, standIns := [], harness := (true, "b1415e7dfcc1479674267753a2382291830634fbdcaf943d1c3ee70dfd31e293"), looks := false }, kinds := [], alts := [], laidByText := true, laidKinds := [.data], laidTests := true, laidLooks := .later }
def LinkerChecksUptoCardSaid : Prop := Claim7.holds Tryd.pinned (.plain (OpenSpec.upto linkerChecksSpec)) linkerChecksUptoCard

/-- THE SECOND FORM's CARD OF 'ontimelaw22.LinkerRound'. -/
def linkerRoundUptoCard : Claim7 := { stood := { row := linkerRoundUptoRow, standIns := [], harness := (true, "b1415e7dfcc1479674267753a2382291830634fbdcaf943d1c3ee70dfd31e293"), looks := false }, kinds := [], alts := [], laidByText := true, laidKinds := [.data], laidTests := true, laidLooks := .later }
def LinkerRoundUptoCardSaid : Prop := Claim7.holds Tryd.pinned (.plain (OpenSpec.upto linkerRoundSpec)) linkerRoundUptoCard

/-- THE SECOND FORM's CARD OF 'ontimelaw22.LinkerAny'. -/
def linkerAnyUptoCard : Claim7 := { stood := { row := linkerAnyUptoRow, standIns := [], harness := (true, "b1415e7dfcc1479674267753a2382291830634fbdcaf943d1c3ee70dfd31e293"), looks := false }, kinds := [], alts := [], laidByText := true, laidKinds := [.data], laidTests := true, laidLooks := .later }
def LinkerAnyUptoCardSaid : Prop := Claim7.holds Tryd.pinned (.plain (OpenSpec.upto linkerAnySpec)) linkerAnyUptoCard

/-- THE SECOND FORM's CARD OF 'ontimelaw22.LinkerCuts'. -/
def linkerCutsUptoCard : Claim7 := { stood := { row := linkerCutsUptoRow, standIns := [], harness := (true, "b1415e7dfcc1479674267753a2382291830634fbdcaf943d1c3ee70dfd31e293"), looks := false }, kinds := [], alts := [], laidByText := true, laidKinds := [.data], laidTests := true, laidLooks := .later }
def LinkerCutsUptoCardSaid : Prop := Claim7.holds Tryd.pinned (.plain (OpenSpec.upto linkerCutsSpec)) linkerCutsUptoCard

/-- THE SECOND FORM's CARD OF 'ontimelaw22.LinkerAlone'. -/
def linkerAloneUptoCard : Claim7 := { stood := { row := linkerAloneUptoRow, standIns := [], harness := (true, "b1415e7dfcc1479674267753a2382291830634fbdcaf943d1c3ee70dfd31e293"), looks := false }, kinds := [], alts := [], laidByText := true, laidKinds := [.data, .data], laidTests := true, laidLooks := .later }
def LinkerAloneUptoCardSaid : Prop := Claim7.holds Tryd.pinned (.plain (OpenSpec.upto linkerAloneSpec)) linkerAloneUptoCard
end Rows
end Go.Proofs.YtepldfnplfhncaaDoor
