/-
  NARROWER THAN 'FOR EVERY INPUT', by the rows' own cells (each row's printed sentence says how): IsaValid: laid · IsaDecodes: laid · IsaRound: laid · IsaWords: laid · IsaDistinct: laid · IsaTargets: laid · IsaNames: laid · IsaAccesses: laid · IsaRegisters: laid.
  DERIVED. THE GIVEN ROWS OF THIS SEAT. 9 by the template 'for every input the law returns true; each argument reads behind the call as it read before'; 0 by the template 'total and deterministic' (their statements: YtankanmggeimkaaDoorTotals.lean).
  GIVEN WITH THE SEED: the statements are not yours to turn. If you find one false, say at which input.
  Laid BY PROGRAM, IN A SANDBOX (cutbox-rows.mjs): the forced cells as the released guide's own fill.sh prints them over the translation 2dec721c7e221023… (all of the seat's roots in one cut). By AI agents, Wed Nov 11 2026. No macro, syntax, notation, axiom, sorry.
-/
import Derived.Test.YtankanmggeimkaaDoorChecked
import GoSem.Claim
import GoSem.ClaimJoined
import GoSem.ClaimMapViews
import Derived.JoinedTies
import Derived.KernelRfl
namespace Go.Proofs.YtankanmggeimkaaDoor
/- THE CELL 'sum', in the pinned program and in every row, IS THE sha256 OF THE DUMP (.gsa) THAT YtankanmggeimkaaDoorProg.lean LOADS. Nothing in Lean hashes anything: it is a label: what it is worth is what the hold of that sum in a sandbox is worth. -/
noncomputable def Tryd.pinned : Pinned := { name := "ytankanmggeimkaadoor", sum := "2dec721c7e2210237bbef8fd9b171ce421dd941e2f3eba2bad34aac49e0dc8b4", checked := Tryd.checked }
namespace Rows
def none {H : Type} : Left H := { results := [], args := [] }

/- WHAT THE LISTED PACKAGE-LEVEL VARIABLES READ AS WHEN THE CALL BEGINS. Each datum BY PROGRAM (the guide's laid-datum.mjs) off the statement by which the dump's own 'gosem.cut.vars' lays the variable. In a bare row this is a premise. The card (YtankanmggeimkaaDoorCards.lean) ties it to the program's text. -/
def laid_ontime_isa_formats {H : Type} : DataW H := .agg [.agg [.lit (.string [110, 111, 112]), .lit (.string []), .lit (.string []), .lit (.bool false), .lit (.int .i64 0), .lit (.int .i64 0)], .agg [.lit (.string [104, 97, 108, 116]), .lit (.string []), .lit (.string []), .lit (.bool false), .lit (.int .i64 0), .lit (.int .i64 0)], .agg [.lit (.string [97, 100, 100]), .lit (.string [65, 66, 67]), .lit (.string [66, 67]), .lit (.bool true), .lit (.int .i64 0), .lit (.int .i64 0)], .agg [.lit (.string [115, 117, 98]), .lit (.string [65, 66, 67]), .lit (.string [66, 67]), .lit (.bool true), .lit (.int .i64 0), .lit (.int .i64 0)], .agg [.lit (.string [109, 117, 108]), .lit (.string [65, 66, 67]), .lit (.string [66, 67]), .lit (.bool true), .lit (.int .i64 0), .lit (.int .i64 0)], .agg [.lit (.string [100, 105, 118]), .lit (.string [65, 66, 67]), .lit (.string [66, 67]), .lit (.bool true), .lit (.int .i64 0), .lit (.int .i64 0)], .agg [.lit (.string [109, 111, 100]), .lit (.string [65, 66, 67]), .lit (.string [66, 67]), .lit (.bool true), .lit (.int .i64 0), .lit (.int .i64 0)], .agg [.lit (.string [97, 110, 100]), .lit (.string [65, 66, 67]), .lit (.string [66, 67]), .lit (.bool true), .lit (.int .i64 0), .lit (.int .i64 0)], .agg [.lit (.string [111, 114]), .lit (.string [65, 66, 67]), .lit (.string [66, 67]), .lit (.bool true), .lit (.int .i64 0), .lit (.int .i64 0)], .agg [.lit (.string [120, 111, 114]), .lit (.string [65, 66, 67]), .lit (.string [66, 67]), .lit (.bool true), .lit (.int .i64 0), .lit (.int .i64 0)], .agg [.lit (.string [115, 104, 108]), .lit (.string [65, 66, 67]), .lit (.string [66, 67]), .lit (.bool true), .lit (.int .i64 0), .lit (.int .i64 0)], .agg [.lit (.string [115, 104, 114]), .lit (.string [65, 66, 67]), .lit (.string [66, 67]), .lit (.bool true), .lit (.int .i64 0), .lit (.int .i64 0)], .agg [.lit (.string [101, 113]), .lit (.string [65, 66, 67]), .lit (.string [66, 67]), .lit (.bool true), .lit (.int .i64 0), .lit (.int .i64 0)], .agg [.lit (.string [108, 116]), .lit (.string [65, 66, 67]), .lit (.string [66, 67]), .lit (.bool true), .lit (.int .i64 0), .lit (.int .i64 0)], .agg [.lit (.string [108, 105]), .lit (.string [65, 73]), .lit (.string []), .lit (.bool true), .lit (.int .i64 (-131072)), .lit (.int .i64 131071)], .agg [.lit (.string [97, 100, 100, 105]), .lit (.string [65, 66, 73]), .lit (.string [66]), .lit (.bool true), .lit (.int .i64 (-131072)), .lit (.int .i64 131071)], .agg [.lit (.string [115, 104, 108, 105]), .lit (.string [65, 66, 73]), .lit (.string [66]), .lit (.bool true), .lit (.int .i64 0), .lit (.int .i64 31)], .agg [.lit (.string [111, 114, 105]), .lit (.string [65, 66, 73]), .lit (.string [66]), .lit (.bool true), .lit (.int .i64 0), .lit (.int .i64 16383)], .agg [.lit (.string [108, 100]), .lit (.string [65, 66, 73]), .lit (.string [66]), .lit (.bool true), .lit (.int .i64 (-131072)), .lit (.int .i64 131071)], .agg [.lit (.string [115, 116]), .lit (.string [65, 66, 73]), .lit (.string [65, 66]), .lit (.bool false), .lit (.int .i64 (-131072)), .lit (.int .i64 131071)], .agg [.lit (.string [108, 100, 115]), .lit (.string [65, 66, 73]), .lit (.string [66]), .lit (.bool true), .lit (.int .i64 (-131072)), .lit (.int .i64 131071)], .agg [.lit (.string [115, 116, 115]), .lit (.string [65, 66, 73]), .lit (.string [65, 66]), .lit (.bool false), .lit (.int .i64 (-131072)), .lit (.int .i64 131071)], .agg [.lit (.string [98, 101, 113, 122]), .lit (.string [65, 73]), .lit (.string [65]), .lit (.bool false), .lit (.int .i64 (-131072)), .lit (.int .i64 131071)], .agg [.lit (.string [98, 110, 101, 122]), .lit (.string [65, 73]), .lit (.string [65]), .lit (.bool false), .lit (.int .i64 (-131072)), .lit (.int .i64 131071)], .agg [.lit (.string [106, 109, 112]), .lit (.string [73]), .lit (.string []), .lit (.bool false), .lit (.int .i64 (-131072)), .lit (.int .i64 131071)], .agg [.lit (.string [98, 111, 117, 110, 100]), .lit (.string [65, 73]), .lit (.string [65]), .lit (.bool false), .lit (.int .i64 1), .lit (.int .i64 131071)], .agg [.lit (.string [105, 110]), .lit (.string [65, 73]), .lit (.string []), .lit (.bool true), .lit (.int .i64 0), .lit (.int .i64 7)], .agg [.lit (.string [111, 117, 116]), .lit (.string [65, 73]), .lit (.string [65]), .lit (.bool false), .lit (.int .i64 0), .lit (.int .i64 7)], .agg [.lit (.string [108, 111, 99, 107]), .lit (.string [73]), .lit (.string []), .lit (.bool false), .lit (.int .i64 0), .lit (.int .i64 3)], .agg [.lit (.string [117, 110, 108, 111, 99, 107]), .lit (.string [73]), .lit (.string []), .lit (.bool false), .lit (.int .i64 0), .lit (.int .i64 3)]]

/-- 'ontimelaw04.IsaValid': WHATEVER THE INPUT: true; the input reads as it did. -/
def isaValidSpec : ChangeSpec := { name := "isaValid", fn := fun _ => fun
  | [d] => { results := [.lit (.bool true)], args := [d] }
  | _ => none }
def isaValidRow : OpenClaim := { program := "ytankanmggeimkaadoor", sum := "2dec721c7e2210237bbef8fd9b171ce421dd941e2f3eba2bad34aac49e0dc8b4", func := "ontime/ontimelaw04.IsaValid", spec := "isaValid", inPlace := ["internal/bytealg.IndexByteString"], named := ["ontime/isa.formats"], apart := false, laid := [("ontime/isa.formats", laid_ontime_isa_formats)] }
def IsaValidSaid : Prop := isaValidRow.holds Tryd.pinned (OpenSpec.ofChange isaValidSpec)

/-- ITS FALSE NEIGHBOUR: 'it returns false'. Refute it at one input. -/
def isaValidWrong : ChangeSpec := { name := "isaValid", fn := fun _ => fun
  | [d] => { results := [.lit (.bool false)], args := [d] }
  | _ => none }
def IsaValidWrongFalsely : Prop := isaValidRow.holds Tryd.pinned (OpenSpec.ofChange isaValidWrong)

/-- 'ontimelaw04.IsaDecodes': WHATEVER THE INPUT: true; the input reads as it did. -/
def isaDecodesSpec : ChangeSpec := { name := "isaDecodes", fn := fun _ => fun
  | [d] => { results := [.lit (.bool true)], args := [d] }
  | _ => none }
def isaDecodesRow : OpenClaim := { program := "ytankanmggeimkaadoor", sum := "2dec721c7e2210237bbef8fd9b171ce421dd941e2f3eba2bad34aac49e0dc8b4", func := "ontime/ontimelaw04.IsaDecodes", spec := "isaDecodes", inPlace := ["internal/bytealg.IndexByteString"], named := ["ontime/isa.formats"], apart := false, laid := [("ontime/isa.formats", laid_ontime_isa_formats)] }
def IsaDecodesSaid : Prop := isaDecodesRow.holds Tryd.pinned (OpenSpec.ofChange isaDecodesSpec)

/-- ITS FALSE NEIGHBOUR: 'it returns false'. Refute it at one input. -/
def isaDecodesWrong : ChangeSpec := { name := "isaDecodes", fn := fun _ => fun
  | [d] => { results := [.lit (.bool false)], args := [d] }
  | _ => none }
def IsaDecodesWrongFalsely : Prop := isaDecodesRow.holds Tryd.pinned (OpenSpec.ofChange isaDecodesWrong)

/-- 'ontimelaw04.IsaRound': WHATEVER THE INPUT: true; the input reads as it did. -/
def isaRoundSpec : ChangeSpec := { name := "isaRound", fn := fun _ => fun
  | [d] => { results := [.lit (.bool true)], args := [d] }
  | _ => none }
def isaRoundRow : OpenClaim := { program := "ytankanmggeimkaadoor", sum := "2dec721c7e2210237bbef8fd9b171ce421dd941e2f3eba2bad34aac49e0dc8b4", func := "ontime/ontimelaw04.IsaRound", spec := "isaRound", inPlace := ["internal/bytealg.IndexByteString"], named := ["ontime/isa.formats"], apart := false, laid := [("ontime/isa.formats", laid_ontime_isa_formats)] }
def IsaRoundSaid : Prop := isaRoundRow.holds Tryd.pinned (OpenSpec.ofChange isaRoundSpec)

/-- ITS FALSE NEIGHBOUR: 'it returns false'. Refute it at one input. -/
def isaRoundWrong : ChangeSpec := { name := "isaRound", fn := fun _ => fun
  | [d] => { results := [.lit (.bool false)], args := [d] }
  | _ => none }
def IsaRoundWrongFalsely : Prop := isaRoundRow.holds Tryd.pinned (OpenSpec.ofChange isaRoundWrong)

/-- 'ontimelaw04.IsaWords': WHATEVER THE INPUT: true; the input reads as it did. -/
def isaWordsSpec : ChangeSpec := { name := "isaWords", fn := fun _ => fun
  | [d] => { results := [.lit (.bool true)], args := [d] }
  | _ => none }
def isaWordsRow : OpenClaim := { program := "ytankanmggeimkaadoor", sum := "2dec721c7e2210237bbef8fd9b171ce421dd941e2f3eba2bad34aac49e0dc8b4", func := "ontime/ontimelaw04.IsaWords", spec := "isaWords", inPlace := ["internal/bytealg.IndexByteString"], named := ["ontime/isa.formats"], apart := false, laid := [("ontime/isa.formats", laid_ontime_isa_formats)] }
def IsaWordsSaid : Prop := isaWordsRow.holds Tryd.pinned (OpenSpec.ofChange isaWordsSpec)

/-- ITS FALSE NEIGHBOUR: 'it returns false'. Refute it at one input. -/
def isaWordsWrong : ChangeSpec := { name := "isaWords", fn := fun _ => fun
  | [d] => { results := [.lit (.bool false)], args := [d] }
  | _ => none }
def IsaWordsWrongFalsely : Prop := isaWordsRow.holds Tryd.pinned (OpenSpec.ofChange isaWordsWrong)

/-- 'ontimelaw04.IsaDistinct': WHATEVER THE INPUT: true; the input reads as it did. -/
def isaDistinctSpec : ChangeSpec := { name := "isaDistinct", fn := fun _ => fun
  | [d1, d2] => { results := [.lit (.bool true)], args := [d1, d2] }
  | _ => none }
def isaDistinctRow : OpenClaim := { program := "ytankanmggeimkaadoor", sum := "2dec721c7e2210237bbef8fd9b171ce421dd941e2f3eba2bad34aac49e0dc8b4", func := "ontime/ontimelaw04.IsaDistinct", spec := "isaDistinct", inPlace := ["internal/bytealg.IndexByteString"], named := ["ontime/isa.formats"], apart := false, laid := [("ontime/isa.formats", laid_ontime_isa_formats)] }
def IsaDistinctSaid : Prop := isaDistinctRow.holds Tryd.pinned (OpenSpec.ofChange isaDistinctSpec)

/-- ITS FALSE NEIGHBOUR: 'it returns false'. Refute it at one input. -/
def isaDistinctWrong : ChangeSpec := { name := "isaDistinct", fn := fun _ => fun
  | [d1, d2] => { results := [.lit (.bool false)], args := [d1, d2] }
  | _ => none }
def IsaDistinctWrongFalsely : Prop := isaDistinctRow.holds Tryd.pinned (OpenSpec.ofChange isaDistinctWrong)

/-- 'ontimelaw04.IsaTargets': WHATEVER THE INPUT: true; the input reads as it did. -/
def isaTargetsSpec : ChangeSpec := { name := "isaTargets", fn := fun _ => fun
  | [d1, d2, d3] => { results := [.lit (.bool true)], args := [d1, d2, d3] }
  | _ => none }
def isaTargetsRow : OpenClaim := { program := "ytankanmggeimkaadoor", sum := "2dec721c7e2210237bbef8fd9b171ce421dd941e2f3eba2bad34aac49e0dc8b4", func := "ontime/ontimelaw04.IsaTargets", spec := "isaTargets", inPlace := ["internal/bytealg.IndexByteString"], named := ["ontime/isa.formats"], apart := false, laid := [("ontime/isa.formats", laid_ontime_isa_formats)] }
def IsaTargetsSaid : Prop := isaTargetsRow.holds Tryd.pinned (OpenSpec.ofChange isaTargetsSpec)

/-- ITS FALSE NEIGHBOUR: 'it returns false'. Refute it at one input. -/
def isaTargetsWrong : ChangeSpec := { name := "isaTargets", fn := fun _ => fun
  | [d1, d2, d3] => { results := [.lit (.bool false)], args := [d1, d2, d3] }
  | _ => none }
def IsaTargetsWrongFalsely : Prop := isaTargetsRow.holds Tryd.pinned (OpenSpec.ofChange isaTargetsWrong)

/-- 'ontimelaw04.IsaNames': WHATEVER THE INPUT: true; the input reads as it did. -/
def isaNamesSpec : ChangeSpec := { name := "isaNames", fn := fun _ => fun
  | [d1, d2] => { results := [.lit (.bool true)], args := [d1, d2] }
  | _ => none }
def isaNamesRow : OpenClaim := { program := "ytankanmggeimkaadoor", sum := "2dec721c7e2210237bbef8fd9b171ce421dd941e2f3eba2bad34aac49e0dc8b4", func := "ontime/ontimelaw04.IsaNames", spec := "isaNames", inPlace := ["internal/bytealg.IndexByteString"], named := ["ontime/isa.formats"], apart := false, laid := [("ontime/isa.formats", laid_ontime_isa_formats)] }
def IsaNamesSaid : Prop := isaNamesRow.holds Tryd.pinned (OpenSpec.ofChange isaNamesSpec)

/-- ITS FALSE NEIGHBOUR: 'it returns false'. Refute it at one input. -/
def isaNamesWrong : ChangeSpec := { name := "isaNames", fn := fun _ => fun
  | [d1, d2] => { results := [.lit (.bool false)], args := [d1, d2] }
  | _ => none }
def IsaNamesWrongFalsely : Prop := isaNamesRow.holds Tryd.pinned (OpenSpec.ofChange isaNamesWrong)

/-- 'ontimelaw04.IsaAccesses': WHATEVER THE INPUT: true; the input reads as it did. -/
def isaAccessesSpec : ChangeSpec := { name := "isaAccesses", fn := fun _ => fun
  | [d] => { results := [.lit (.bool true)], args := [d] }
  | _ => none }
def isaAccessesRow : OpenClaim := { program := "ytankanmggeimkaadoor", sum := "2dec721c7e2210237bbef8fd9b171ce421dd941e2f3eba2bad34aac49e0dc8b4", func := "ontime/ontimelaw04.IsaAccesses", spec := "isaAccesses", inPlace := ["internal/bytealg.IndexByteString"], recurses := true, named := ["ontime/isa.formats"], apart := false, laid := [("ontime/isa.formats", laid_ontime_isa_formats)] }
def IsaAccessesSaid : Prop := isaAccessesRow.holds Tryd.pinned (OpenSpec.ofChange isaAccessesSpec)

/-- ITS FALSE NEIGHBOUR: 'it returns false'. Refute it at one input. -/
def isaAccessesWrong : ChangeSpec := { name := "isaAccesses", fn := fun _ => fun
  | [d] => { results := [.lit (.bool false)], args := [d] }
  | _ => none }
def IsaAccessesWrongFalsely : Prop := isaAccessesRow.holds Tryd.pinned (OpenSpec.ofChange isaAccessesWrong)

/-- 'ontimelaw04.IsaRegisters': WHATEVER THE INPUT: true; the input reads as it did. -/
def isaRegistersSpec : ChangeSpec := { name := "isaRegisters", fn := fun _ => fun
  | [d] => { results := [.lit (.bool true)], args := [d] }
  | _ => none }
def isaRegistersRow : OpenClaim := { program := "ytankanmggeimkaadoor", sum := "2dec721c7e2210237bbef8fd9b171ce421dd941e2f3eba2bad34aac49e0dc8b4", func := "ontime/ontimelaw04.IsaRegisters", spec := "isaRegisters", inPlace := ["internal/bytealg.IndexByteString"], recurses := true, named := ["ontime/isa.formats"], apart := false, laid := [("ontime/isa.formats", laid_ontime_isa_formats)] }
def IsaRegistersSaid : Prop := isaRegistersRow.holds Tryd.pinned (OpenSpec.ofChange isaRegistersSpec)

/-- ITS FALSE NEIGHBOUR: 'it returns false'. Refute it at one input. -/
def isaRegistersWrong : ChangeSpec := { name := "isaRegisters", fn := fun _ => fun
  | [d] => { results := [.lit (.bool false)], args := [d] }
  | _ => none }
def IsaRegistersWrongFalsely : Prop := isaRegistersRow.holds Tryd.pinned (OpenSpec.ofChange isaRegistersWrong)

/- THE SECOND FORM. 'bulk': how many values and letters a reading holds, each counted each time it is reached (what is shared counts as often as it is met; a slice's spare places count too). A statement '..UptoSaid' is the law's where the arguments, and the package variables that the reading takes, are together of bulk at most 1048576: NARROWER than '..Said'. Prove '..Said' where nothing that the law and all that it calls make is longer than what came in: it says more and counts as full. Else prove '..UptoSaid'. A law counts once. -/
mutual
def uptoBulk {H : Type} : DataW H → Nat
  | .lit (.string bytes) => bytes.length + 1
  | .lit _ => 1
  | .nil => 1
  | .ptr d => uptoBulk d + 1
  | .slice elems spare => uptoBulkAll elems + uptoBulkAll spare + 1
  | .agg parts => uptoBulkAll parts + 1
  | .iface _ d => uptoBulk d + 1
  | .map entries => uptoBulkEntries entries + 1
  | .held _ => 1
def uptoBulkAll {H : Type} : List (DataW H) → Nat
  | [] => 0
  | d :: r => uptoBulk d + uptoBulkAll r
def uptoBulkEntries {H : Type} : List (Lit × DataW H) → Nat
  | [] => 0
  | x :: r => uptoBulkEntry x + uptoBulkEntries r
def uptoBulkEntry {H : Type} : Lit × DataW H → Nat
  | (.string bytes, d) => bytes.length + uptoBulk d + 1
  | (_, d) => uptoBulk d + 1
 end
def uptoSmall : (H : Type) → List (DataW H) → Bool := fun _ ds => decide (uptoBulkAll ds ≤ 1048576)
def OpenSpec.upto (s : _root_.Go.ChangeSpec) : _root_.Go.OpenSpec := { _root_.Go.OpenSpec.ofChange s with cond := some uptoSmall }

/-- 'ontimelaw04.IsaValid', WHERE WHAT IT READS IS OF BULK AT MOST 1048576: true; the input reads as it did. -/
def isaValidUptoRow : OpenClaim := { program := "ytankanmggeimkaadoor", sum := "2dec721c7e2210237bbef8fd9b171ce421dd941e2f3eba2bad34aac49e0dc8b4", func := "ontime/ontimelaw04.IsaValid", spec := "isaValid", inPlace := ["internal/bytealg.IndexByteString"], named := ["ontime/isa.formats"], apart := false, laid := [("ontime/isa.formats", laid_ontime_isa_formats)], narrowed := true }
def IsaValidUptoSaid : Prop := isaValidUptoRow.holds Tryd.pinned (OpenSpec.upto isaValidSpec)

/-- 'ontimelaw04.IsaDecodes', WHERE WHAT IT READS IS OF BULK AT MOST 1048576: true; the input reads as it did. -/
def isaDecodesUptoRow : OpenClaim := { program := "ytankanmggeimkaadoor", sum := "2dec721c7e2210237bbef8fd9b171ce421dd941e2f3eba2bad34aac49e0dc8b4", func := "ontime/ontimelaw04.IsaDecodes", spec := "isaDecodes", inPlace := ["internal/bytealg.IndexByteString"], named := ["ontime/isa.formats"], apart := false, laid := [("ontime/isa.formats", laid_ontime_isa_formats)], narrowed := true }
def IsaDecodesUptoSaid : Prop := isaDecodesUptoRow.holds Tryd.pinned (OpenSpec.upto isaDecodesSpec)

/-- 'ontimelaw04.IsaRound', WHERE WHAT IT READS IS OF BULK AT MOST 1048576: true; the input reads as it did. -/
def isaRoundUptoRow : OpenClaim := { program := "ytankanmggeimkaadoor", sum := "2dec721c7e2210237bbef8fd9b171ce421dd941e2f3eba2bad34aac49e0dc8b4", func := "ontime/ontimelaw04.IsaRound", spec := "isaRound", inPlace := ["internal/bytealg.IndexByteString"], named := ["ontime/isa.formats"], apart := false, laid := [("ontime/isa.formats", laid_ontime_isa_formats)], narrowed := true }
def IsaRoundUptoSaid : Prop := isaRoundUptoRow.holds Tryd.pinned (OpenSpec.upto isaRoundSpec)

/-- 'ontimelaw04.IsaWords', WHERE WHAT IT READS IS OF BULK AT MOST 1048576: true; the input reads as it did. -/
def isaWordsUptoRow : OpenClaim := { program := "ytankanmggeimkaadoor", sum := "2dec721c7e2210237bbef8fd9b171ce421dd941e2f3eba2bad34aac49e0dc8b4", func := "ontime/ontimelaw04.IsaWords", spec := "isaWords", inPlace := ["internal/bytealg.IndexByteString"], named := ["ontime/isa.formats"], apart := false, laid := [("ontime/isa.formats", laid_ontime_isa_formats)], narrowed := true }
def IsaWordsUptoSaid : Prop := isaWordsUptoRow.holds Tryd.pinned (OpenSpec.upto isaWordsSpec)

/-- 'ontimelaw04.IsaDistinct', WHERE WHAT IT READS IS OF BULK AT MOST 1048576: true; the input reads as it did. -/
def isaDistinctUptoRow : OpenClaim := { program := "ytankanmggeimkaadoor", sum := "2dec721c7e2210237bbef8fd9b171ce421dd941e2f3eba2bad34aac49e0dc8b4", func := "ontime/ontimelaw04.IsaDistinct", spec := "isaDistinct", inPlace := ["internal/bytealg.IndexByteString"], named := ["ontime/isa.formats"], apart := false, laid := [("ontime/isa.formats", laid_ontime_isa_formats)], narrowed := true }
def IsaDistinctUptoSaid : Prop := isaDistinctUptoRow.holds Tryd.pinned (OpenSpec.upto isaDistinctSpec)

/-- 'ontimelaw04.IsaTargets', WHERE WHAT IT READS IS OF BULK AT MOST 1048576: true; the input reads as it did. -/
def isaTargetsUptoRow : OpenClaim := { program := "ytankanmggeimkaadoor", sum := "2dec721c7e2210237bbef8fd9b171ce421dd941e2f3eba2bad34aac49e0dc8b4", func := "ontime/ontimelaw04.IsaTargets", spec := "isaTargets", inPlace := ["internal/bytealg.IndexByteString"], named := ["ontime/isa.formats"], apart := false, laid := [("ontime/isa.formats", laid_ontime_isa_formats)], narrowed := true }
def IsaTargetsUptoSaid : Prop := isaTargetsUptoRow.holds Tryd.pinned (OpenSpec.upto isaTargetsSpec)

/-- 'ontimelaw04.IsaNames', WHERE WHAT IT READS IS OF BULK AT MOST 1048576: true; the input reads as it did. -/
def isaNamesUptoRow : OpenClaim := { program := "ytankanmggeimkaadoor", sum := "2dec721c7e2210237bbef8fd9b171ce421dd941e2f3eba2bad34aac49e0dc8b4", func := "ontime/ontimelaw04.IsaNames", spec := "isaNames", inPlace := ["internal/bytealg.IndexByteString"], named := ["ontime/isa.formats"], apart := false, laid := [("ontime/isa.formats", laid_ontime_isa_formats)], narrowed := true }
def IsaNamesUptoSaid : Prop := isaNamesUptoRow.holds Tryd.pinned (OpenSpec.upto isaNamesSpec)

/-- 'ontimelaw04.IsaAccesses', WHERE WHAT IT READS IS OF BULK AT MOST 1048576: true; the input reads as it did. -/
def isaAccessesUptoRow : OpenClaim := { program := "ytankanmggeimkaadoor", sum := "2dec721c7e2210237bbef8fd9b171ce421dd941e2f3eba2bad34aac49e0dc8b4", func := "ontime/ontimelaw04.IsaAccesses", spec := "isaAccesses", inPlace := ["internal/bytealg.IndexByteString"], recurses := true, named := ["ontime/isa.formats"], apart := false, laid := [("ontime/isa.formats", laid_ontime_isa_formats)], narrowed := true }
def IsaAccessesUptoSaid : Prop := isaAccessesUptoRow.holds Tryd.pinned (OpenSpec.upto isaAccessesSpec)

/-- 'ontimelaw04.IsaRegisters', WHERE WHAT IT READS IS OF BULK AT MOST 1048576: true; the input reads as it did. -/
def isaRegistersUptoRow : OpenClaim := { program := "ytankanmggeimkaadoor", sum := "2dec721c7e2210237bbef8fd9b171ce421dd941e2f3eba2bad34aac49e0dc8b4", func := "ontime/ontimelaw04.IsaRegisters", spec := "isaRegisters", inPlace := ["internal/bytealg.IndexByteString"], recurses := true, named := ["ontime/isa.formats"], apart := false, laid := [("ontime/isa.formats", laid_ontime_isa_formats)], narrowed := true }
def IsaRegistersUptoSaid : Prop := isaRegistersUptoRow.holds Tryd.pinned (OpenSpec.upto isaRegistersSpec)

end Rows
end Go.Proofs.YtankanmggeimkaaDoor
