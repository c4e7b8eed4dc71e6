/-
  NARROWER THAN 'FOR EVERY INPUT', by the rows' own cells (each row's printed sentence says how): CoreSteps: laid · CoreRuns: laid · CoreFits: laid · CoreFuel: laid · CoreNone: laid · CoreWrites: laid · CoreReads: laid.
  DERIVED. THE GIVEN ROWS OF THIS SEAT. 7 by the template 'for every input the law returns true; each argument reads behind the call as it read before'; 0 by the template 'total and deterministic' (their statements: YtlmipchjmgnlfaaDoorTotals.lean).
  GIVEN WITH THE SEED: the statements are not yours to turn. If you find one false, say at which input.
  Laid BY PROGRAM, IN A SANDBOX (cutbox-rows.mjs): the forced cells as the released guide's own fill.sh prints them over the translation 294c7200eb6de438… (all of the seat's roots in one cut). By AI agents, Wed Nov 11 2026. No macro, syntax, notation, axiom, sorry.
-/
import Derived.Test.YtlmipchjmgnlfaaDoorChecked
import GoSem.Claim
import GoSem.ClaimJoined
import GoSem.ClaimMapViews
import Derived.JoinedTies
import Derived.KernelRfl
namespace Go.Proofs.YtlmipchjmgnlfaaDoor
/- THE CELL 'sum', in the pinned program and in every row, IS THE sha256 OF THE DUMP (.gsa) THAT YtlmipchjmgnlfaaDoorProg.lean LOADS. Nothing in Lean hashes anything: it is a label: what it is worth is what the hold of that sum in a sandbox is worth. -/
noncomputable def Tryd.pinned : Pinned := { name := "ytlmipchjmgnlfaadoor", sum := "294c7200eb6de4389ccf59ca4d4dd2d1104a38a6ec082cdb830300774132fc26", checked := Tryd.checked }
namespace Rows
def none {H : Type} : Left H := { results := [], args := [] }

/- WHAT THE LISTED PACKAGE-LEVEL VARIABLES READ AS WHEN THE CALL BEGINS. Each datum BY PROGRAM (the guide's laid-datum.mjs) off the statement by which the dump's own 'gosem.cut.vars' lays the variable. In a bare row this is a premise. The card (YtlmipchjmgnlfaaDoorCards.lean) ties it to the program's text. -/
def laid_ontime_isa_formats {H : Type} : DataW H := .agg [.agg [.lit (.string [110, 111, 112]), .lit (.string []), .lit (.string []), .lit (.bool false), .lit (.int .i64 0), .lit (.int .i64 0)], .agg [.lit (.string [104, 97, 108, 116]), .lit (.string []), .lit (.string []), .lit (.bool false), .lit (.int .i64 0), .lit (.int .i64 0)], .agg [.lit (.string [97, 100, 100]), .lit (.string [65, 66, 67]), .lit (.string [66, 67]), .lit (.bool true), .lit (.int .i64 0), .lit (.int .i64 0)], .agg [.lit (.string [115, 117, 98]), .lit (.string [65, 66, 67]), .lit (.string [66, 67]), .lit (.bool true), .lit (.int .i64 0), .lit (.int .i64 0)], .agg [.lit (.string [109, 117, 108]), .lit (.string [65, 66, 67]), .lit (.string [66, 67]), .lit (.bool true), .lit (.int .i64 0), .lit (.int .i64 0)], .agg [.lit (.string [100, 105, 118]), .lit (.string [65, 66, 67]), .lit (.string [66, 67]), .lit (.bool true), .lit (.int .i64 0), .lit (.int .i64 0)], .agg [.lit (.string [109, 111, 100]), .lit (.string [65, 66, 67]), .lit (.string [66, 67]), .lit (.bool true), .lit (.int .i64 0), .lit (.int .i64 0)], .agg [.lit (.string [97, 110, 100]), .lit (.string [65, 66, 67]), .lit (.string [66, 67]), .lit (.bool true), .lit (.int .i64 0), .lit (.int .i64 0)], .agg [.lit (.string [111, 114]), .lit (.string [65, 66, 67]), .lit (.string [66, 67]), .lit (.bool true), .lit (.int .i64 0), .lit (.int .i64 0)], .agg [.lit (.string [120, 111, 114]), .lit (.string [65, 66, 67]), .lit (.string [66, 67]), .lit (.bool true), .lit (.int .i64 0), .lit (.int .i64 0)], .agg [.lit (.string [115, 104, 108]), .lit (.string [65, 66, 67]), .lit (.string [66, 67]), .lit (.bool true), .lit (.int .i64 0), .lit (.int .i64 0)], .agg [.lit (.string [115, 104, 114]), .lit (.string [65, 66, 67]), .lit (.string [66, 67]), .lit (.bool true), .lit (.int .i64 0), .lit (.int .i64 0)], .agg [.lit (.string [101, 113]), .lit (.string [65, 66, 67]), .lit (.string [66, 67]), .lit (.bool true), .lit (.int .i64 0), .lit (.int .i64 0)], .agg [.lit (.string [108, 116]), .lit (.string [65, 66, 67]), .lit (.string [66, 67]), .lit (.bool true), .lit (.int .i64 0), .lit (.int .i64 0)], .agg [.lit (.string [108, 105]), .lit (.string [65, 73]), .lit (.string []), .lit (.bool true), .lit (.int .i64 (-131072)), .lit (.int .i64 131071)], .agg [.lit (.string [97, 100, 100, 105]), .lit (.string [65, 66, 73]), .lit (.string [66]), .lit (.bool true), .lit (.int .i64 (-131072)), .lit (.int .i64 131071)], .agg [.lit (.string [115, 104, 108, 105]), .lit (.string [65, 66, 73]), .lit (.string [66]), .lit (.bool true), .lit (.int .i64 0), .lit (.int .i64 31)], .agg [.lit (.string [111, 114, 105]), .lit (.string [65, 66, 73]), .lit (.string [66]), .lit (.bool true), .lit (.int .i64 0), .lit (.int .i64 16383)], .agg [.lit (.string [108, 100]), .lit (.string [65, 66, 73]), .lit (.string [66]), .lit (.bool true), .lit (.int .i64 (-131072)), .lit (.int .i64 131071)], .agg [.lit (.string [115, 116]), .lit (.string [65, 66, 73]), .lit (.string [65, 66]), .lit (.bool false), .lit (.int .i64 (-131072)), .lit (.int .i64 131071)], .agg [.lit (.string [108, 100, 115]), .lit (.string [65, 66, 73]), .lit (.string [66]), .lit (.bool true), .lit (.int .i64 (-131072)), .lit (.int .i64 131071)], .agg [.lit (.string [115, 116, 115]), .lit (.string [65, 66, 73]), .lit (.string [65, 66]), .lit (.bool false), .lit (.int .i64 (-131072)), .lit (.int .i64 131071)], .agg [.lit (.string [98, 101, 113, 122]), .lit (.string [65, 73]), .lit (.string [65]), .lit (.bool false), .lit (.int .i64 (-131072)), .lit (.int .i64 131071)], .agg [.lit (.string [98, 110, 101, 122]), .lit (.string [65, 73]), .lit (.string [65]), .lit (.bool false), .lit (.int .i64 (-131072)), .lit (.int .i64 131071)], .agg [.lit (.string [106, 109, 112]), .lit (.string [73]), .lit (.string []), .lit (.bool false), .lit (.int .i64 (-131072)), .lit (.int .i64 131071)], .agg [.lit (.string [98, 111, 117, 110, 100]), .lit (.string [65, 73]), .lit (.string [65]), .lit (.bool false), .lit (.int .i64 1), .lit (.int .i64 131071)], .agg [.lit (.string [105, 110]), .lit (.string [65, 73]), .lit (.string []), .lit (.bool true), .lit (.int .i64 0), .lit (.int .i64 7)], .agg [.lit (.string [111, 117, 116]), .lit (.string [65, 73]), .lit (.string [65]), .lit (.bool false), .lit (.int .i64 0), .lit (.int .i64 7)], .agg [.lit (.string [108, 111, 99, 107]), .lit (.string [73]), .lit (.string []), .lit (.bool false), .lit (.int .i64 0), .lit (.int .i64 3)], .agg [.lit (.string [117, 110, 108, 111, 99, 107]), .lit (.string [73]), .lit (.string []), .lit (.bool false), .lit (.int .i64 0), .lit (.int .i64 3)]]
def laid_ontime_core_operators {H : Type} : DataW H := .agg [.lit (.int .u8 0), .lit (.int .u8 0), .lit (.int .u8 6), .lit (.int .u8 7), .lit (.int .u8 8), .lit (.int .u8 9), .lit (.int .u8 10), .lit (.int .u8 11), .lit (.int .u8 12), .lit (.int .u8 13), .lit (.int .u8 14), .lit (.int .u8 15), .lit (.int .u8 16), .lit (.int .u8 18), .lit (.int .u8 0), .lit (.int .u8 0), .lit (.int .u8 0), .lit (.int .u8 0), .lit (.int .u8 0), .lit (.int .u8 0), .lit (.int .u8 0), .lit (.int .u8 0), .lit (.int .u8 0), .lit (.int .u8 0), .lit (.int .u8 0), .lit (.int .u8 0), .lit (.int .u8 0), .lit (.int .u8 0), .lit (.int .u8 0), .lit (.int .u8 0)]

/-- 'ontimelaw09.CoreSteps': WHATEVER THE INPUT: true; the input reads as it did. -/
def coreStepsSpec : ChangeSpec := { name := "coreSteps", fn := fun _ => fun
  | [d1, d2, d3, d4, d5] => { results := [.lit (.bool true)], args := [d1, d2, d3, d4, d5] }
  | _ => none }
def coreStepsRow : OpenClaim := { program := "ytlmipchjmgnlfaadoor", sum := "294c7200eb6de4389ccf59ca4d4dd2d1104a38a6ec082cdb830300774132fc26", func := "ontime/ontimelaw09.CoreSteps", spec := "coreSteps", inPlace := ["internal/bytealg.IndexByteString"], unfollowed := true, recurses := true, named := ["ontime/isa.formats", "ontime/core.operators"], apart := false, laid := [("ontime/isa.formats", laid_ontime_isa_formats), ("ontime/core.operators", laid_ontime_core_operators)] }
def CoreStepsSaid : Prop := coreStepsRow.holds Tryd.pinned (OpenSpec.ofChange coreStepsSpec)

/-- ITS FALSE NEIGHBOUR: 'it returns false'. Refute it at one input. -/
def coreStepsWrong : ChangeSpec := { name := "coreSteps", fn := fun _ => fun
  | [d1, d2, d3, d4, d5] => { results := [.lit (.bool false)], args := [d1, d2, d3, d4, d5] }
  | _ => none }
def CoreStepsWrongFalsely : Prop := coreStepsRow.holds Tryd.pinned (OpenSpec.ofChange coreStepsWrong)

/-- 'ontimelaw09.CoreRuns': WHATEVER THE INPUT: true; the input reads as it did. -/
def coreRunsSpec : ChangeSpec := { name := "coreRuns", fn := fun _ => fun
  | [d1, d2, d3, d4, d5] => { results := [.lit (.bool true)], args := [d1, d2, d3, d4, d5] }
  | _ => none }
def coreRunsRow : OpenClaim := { program := "ytlmipchjmgnlfaadoor", sum := "294c7200eb6de4389ccf59ca4d4dd2d1104a38a6ec082cdb830300774132fc26", func := "ontime/ontimelaw09.CoreRuns", spec := "coreRuns", inPlace := ["internal/bytealg.IndexByteString"], unfollowed := true, recurses := true, named := ["ontime/isa.formats", "ontime/core.operators"], apart := false, laid := [("ontime/isa.formats", laid_ontime_isa_formats), ("ontime/core.operators", laid_ontime_core_operators)] }
def CoreRunsSaid : Prop := coreRunsRow.holds Tryd.pinned (OpenSpec.ofChange coreRunsSpec)

/-- ITS FALSE NEIGHBOUR: 'it returns false'. Refute it at one input. -/
def coreRunsWrong : ChangeSpec := { name := "coreRuns", fn := fun _ => fun
  | [d1, d2, d3, d4, d5] => { results := [.lit (.bool false)], args := [d1, d2, d3, d4, d5] }
  | _ => none }
def CoreRunsWrongFalsely : Prop := coreRunsRow.holds Tryd.pinned (OpenSpec.ofChange coreRunsWrong)

/-- 'ontimelaw09.CoreFits': WHATEVER THE INPUT: true; the input reads as it did. -/
def coreFitsSpec : ChangeSpec := { name := "coreFits", fn := fun _ => fun
  | [d1, d2, d3] => { results := [.lit (.bool true)], args := [d1, d2, d3] }
  | _ => none }
def coreFitsRow : OpenClaim := { program := "ytlmipchjmgnlfaadoor", sum := "294c7200eb6de4389ccf59ca4d4dd2d1104a38a6ec082cdb830300774132fc26", func := "ontime/ontimelaw09.CoreFits", spec := "coreFits", inPlace := ["internal/bytealg.IndexByteString"], unfollowed := true, recurses := true, named := ["ontime/isa.formats", "ontime/core.operators"], apart := false, laid := [("ontime/isa.formats", laid_ontime_isa_formats), ("ontime/core.operators", laid_ontime_core_operators)] }
def CoreFitsSaid : Prop := coreFitsRow.holds Tryd.pinned (OpenSpec.ofChange coreFitsSpec)

/-- ITS FALSE NEIGHBOUR: 'it returns false'. Refute it at one input. -/
def coreFitsWrong : ChangeSpec := { name := "coreFits", fn := fun _ => fun
  | [d1, d2, d3] => { results := [.lit (.bool false)], args := [d1, d2, d3] }
  | _ => none }
def CoreFitsWrongFalsely : Prop := coreFitsRow.holds Tryd.pinned (OpenSpec.ofChange coreFitsWrong)

/-- 'ontimelaw09.CoreFuel': WHATEVER THE INPUT: true; the input reads as it did. -/
def coreFuelSpec : ChangeSpec := { name := "coreFuel", fn := fun _ => fun
  | [d1, d2, d3, d4, d5, d6] => { results := [.lit (.bool true)], args := [d1, d2, d3, d4, d5, d6] }
  | _ => none }
def coreFuelRow : OpenClaim := { program := "ytlmipchjmgnlfaadoor", sum := "294c7200eb6de4389ccf59ca4d4dd2d1104a38a6ec082cdb830300774132fc26", func := "ontime/ontimelaw09.CoreFuel", spec := "coreFuel", inPlace := ["internal/bytealg.IndexByteString"], unfollowed := true, recurses := true, named := ["ontime/isa.formats", "ontime/core.operators"], apart := false, laid := [("ontime/isa.formats", laid_ontime_isa_formats), ("ontime/core.operators", laid_ontime_core_operators)] }
def CoreFuelSaid : Prop := coreFuelRow.holds Tryd.pinned (OpenSpec.ofChange coreFuelSpec)

/-- ITS FALSE NEIGHBOUR: 'it returns false'. Refute it at one input. -/
def coreFuelWrong : ChangeSpec := { name := "coreFuel", fn := fun _ => fun
  | [d1, d2, d3, d4, d5, d6] => { results := [.lit (.bool false)], args := [d1, d2, d3, d4, d5, d6] }
  | _ => none }
def CoreFuelWrongFalsely : Prop := coreFuelRow.holds Tryd.pinned (OpenSpec.ofChange coreFuelWrong)

/-- 'ontimelaw09.CoreNone': WHATEVER THE INPUT: true; the input reads as it did. -/
def coreNoneSpec : ChangeSpec := { name := "coreNone", fn := fun _ => fun
  | [d1, d2, d3] => { results := [.lit (.bool true)], args := [d1, d2, d3] }
  | _ => none }
def coreNoneRow : OpenClaim := { program := "ytlmipchjmgnlfaadoor", sum := "294c7200eb6de4389ccf59ca4d4dd2d1104a38a6ec082cdb830300774132fc26", func := "ontime/ontimelaw09.CoreNone", spec := "coreNone", inPlace := ["internal/bytealg.IndexByteString"], unfollowed := true, recurses := true, named := ["ontime/isa.formats", "ontime/core.operators"], apart := false, laid := [("ontime/isa.formats", laid_ontime_isa_formats), ("ontime/core.operators", laid_ontime_core_operators)] }
def CoreNoneSaid : Prop := coreNoneRow.holds Tryd.pinned (OpenSpec.ofChange coreNoneSpec)

/-- ITS FALSE NEIGHBOUR: 'it returns false'. Refute it at one input. -/
def coreNoneWrong : ChangeSpec := { name := "coreNone", fn := fun _ => fun
  | [d1, d2, d3] => { results := [.lit (.bool false)], args := [d1, d2, d3] }
  | _ => none }
def CoreNoneWrongFalsely : Prop := coreNoneRow.holds Tryd.pinned (OpenSpec.ofChange coreNoneWrong)

/-- 'ontimelaw09.CoreWrites': WHATEVER THE INPUT: true; the input reads as it did. -/
def coreWritesSpec : ChangeSpec := { name := "coreWrites", fn := fun _ => fun
  | [d1, d2, d3, d4] => { results := [.lit (.bool true)], args := [d1, d2, d3, d4] }
  | _ => none }
def coreWritesRow : OpenClaim := { program := "ytlmipchjmgnlfaadoor", sum := "294c7200eb6de4389ccf59ca4d4dd2d1104a38a6ec082cdb830300774132fc26", func := "ontime/ontimelaw09.CoreWrites", spec := "coreWrites", inPlace := ["internal/bytealg.IndexByteString"], unfollowed := true, recurses := true, named := ["ontime/isa.formats", "ontime/core.operators"], apart := false, laid := [("ontime/isa.formats", laid_ontime_isa_formats), ("ontime/core.operators", laid_ontime_core_operators)] }
def CoreWritesSaid : Prop := coreWritesRow.holds Tryd.pinned (OpenSpec.ofChange coreWritesSpec)

/-- ITS FALSE NEIGHBOUR: 'it returns false'. Refute it at one input. -/
def coreWritesWrong : ChangeSpec := { name := "coreWrites", fn := fun _ => fun
  | [d1, d2, d3, d4] => { results := [.lit (.bool false)], args := [d1, d2, d3, d4] }
  | _ => none }
def CoreWritesWrongFalsely : Prop := coreWritesRow.holds Tryd.pinned (OpenSpec.ofChange coreWritesWrong)

/-- 'ontimelaw09.CoreReads': WHATEVER THE INPUT: true; the input reads as it did. -/
def coreReadsSpec : ChangeSpec := { name := "coreReads", fn := fun _ => fun
  | [d1, d2, d3, d4, d5] => { results := [.lit (.bool true)], args := [d1, d2, d3, d4, d5] }
  | _ => none }
def coreReadsRow : OpenClaim := { program := "ytlmipchjmgnlfaadoor", sum := "294c7200eb6de4389ccf59ca4d4dd2d1104a38a6ec082cdb830300774132fc26", func := "ontime/ontimelaw09.CoreReads", spec := "coreReads", inPlace := ["internal/bytealg.IndexByteString"], unfollowed := true, recurses := true, named := ["ontime/isa.formats", "ontime/core.operators"], apart := false, laid := [("ontime/isa.formats", laid_ontime_isa_formats), ("ontime/core.operators", laid_ontime_core_operators)] }
def CoreReadsSaid : Prop := coreReadsRow.holds Tryd.pinned (OpenSpec.ofChange coreReadsSpec)

/-- ITS FALSE NEIGHBOUR: 'it returns false'. Refute it at one input. -/
def coreReadsWrong : ChangeSpec := { name := "coreReads", fn := fun _ => fun
  | [d1, d2, d3, d4, d5] => { results := [.lit (.bool false)], args := [d1, d2, d3, d4, d5] }
  | _ => none }
def CoreReadsWrongFalsely : Prop := coreReadsRow.holds Tryd.pinned (OpenSpec.ofChange coreReadsWrong)

/- THE SECOND FORM. 'bulk': how many values and letters a reading holds, each counted each time it is reached (what is shared counts as often as it is met; a slice's spare places count too). A statement '..UptoSaid' is the law's where the arguments, and the package variables that the reading takes, are together of bulk at most 1048576: NARROWER than '..Said'. Prove '..Said' where nothing that the law and all that it calls make is longer than what came in: it says more and counts as full. Else prove '..UptoSaid'. A law counts once. -/
mutual
def uptoBulk {H : Type} : DataW H → Nat
  | .lit (.string bytes) => bytes.length + 1
  | .lit _ => 1
  | .nil => 1
  | .ptr d => uptoBulk d + 1
  | .slice elems spare => uptoBulkAll elems + uptoBulkAll spare + 1
  | .agg parts => uptoBulkAll parts + 1
  | .iface _ d => uptoBulk d + 1
  | .map entries => uptoBulkEntries entries + 1
  | .held _ => 1
def uptoBulkAll {H : Type} : List (DataW H) → Nat
  | [] => 0
  | d :: r => uptoBulk d + uptoBulkAll r
def uptoBulkEntries {H : Type} : List (Lit × DataW H) → Nat
  | [] => 0
  | x :: r => uptoBulkEntry x + uptoBulkEntries r
def uptoBulkEntry {H : Type} : Lit × DataW H → Nat
  | (.string bytes, d) => bytes.length + uptoBulk d + 1
  | (_, d) => uptoBulk d + 1
 end
def uptoSmall : (H : Type) → List (DataW H) → Bool := fun _ ds => decide (uptoBulkAll ds ≤ 1048576)
def OpenSpec.upto (s : _root_.Go.ChangeSpec) : _root_.Go.OpenSpec := { _root_.Go.OpenSpec.ofChange s with cond := some uptoSmall }

/-- 'ontimelaw09.CoreSteps', WHERE WHAT IT READS IS OF BULK AT MOST 1048576: true; the input reads as it did. -/
def coreStepsUptoRow : OpenClaim := { program := "ytlmipchjmgnlfaadoor", sum := "294c7200eb6de4389ccf59ca4d4dd2d1104a38a6ec082cdb830300774132fc26", func := "ontime/ontimelaw09.CoreSteps", spec := "coreSteps", inPlace := ["internal/bytealg.IndexByteString"], unfollowed := true, recurses := true, named := ["ontime/isa.formats", "ontime/core.operators"], apart := false, laid := [("ontime/isa.formats", laid_ontime_isa_formats), ("ontime/core.operators", laid_ontime_core_operators)], narrowed := true }
def CoreStepsUptoSaid : Prop := coreStepsUptoRow.holds Tryd.pinned (OpenSpec.upto coreStepsSpec)

/-- 'ontimelaw09.CoreRuns', WHERE WHAT IT READS IS OF BULK AT MOST 1048576: true; the input reads as it did. -/
def coreRunsUptoRow : OpenClaim := { program := "ytlmipchjmgnlfaadoor", sum := "294c7200eb6de4389ccf59ca4d4dd2d1104a38a6ec082cdb830300774132fc26", func := "ontime/ontimelaw09.CoreRuns", spec := "coreRuns", inPlace := ["internal/bytealg.IndexByteString"], unfollowed := true, recurses := true, named := ["ontime/isa.formats", "ontime/core.operators"], apart := false, laid := [("ontime/isa.formats", laid_ontime_isa_formats), ("ontime/core.operators", laid_ontime_core_operators)], narrowed := true }
def CoreRunsUptoSaid : Prop := coreRunsUptoRow.holds Tryd.pinned (OpenSpec.upto coreRunsSpec)

/-- 'ontimelaw09.CoreFits', WHERE WHAT IT READS IS OF BULK AT MOST 1048576: true; the input reads as it did. -/
def coreFitsUptoRow : OpenClaim := { program := "ytlmipchjmgnlfaadoor", sum := "294c7200eb6de4389ccf59ca4d4dd2d1104a38a6ec082cdb830300774132fc26", func := "ontime/ontimelaw09.CoreFits", spec := "coreFits", inPlace := ["internal/bytealg.IndexByteString"], unfollowed := true, recurses := true, named := ["ontime/isa.formats", "ontime/core.operators"], apart := false, laid := [("ontime/isa.formats", laid_ontime_isa_formats), ("ontime/core.operators", laid_ontime_core_operators)], narrowed := true }
def CoreFitsUptoSaid : Prop := coreFitsUptoRow.holds Tryd.pinned (OpenSpec.upto coreFitsSpec)

/-- 'ontimelaw09.CoreFuel', WHERE WHAT IT READS IS OF BULK AT MOST 1048576: true; the input reads as it did. -/
def coreFuelUptoRow : OpenClaim := { program := "ytlmipchjmgnlfaadoor", sum := "294c7200eb6de4389ccf59ca4d4dd2d1104a38a6ec082cdb830300774132fc26", func := "ontime/ontimelaw09.CoreFuel", spec := "coreFuel", inPlace := ["internal/bytealg.IndexByteString"], unfollowed := true, recurses := true, named := ["ontime/isa.formats", "ontime/core.operators"], apart := false, laid := [("ontime/isa.formats", laid_ontime_isa_formats), ("ontime/core.operators", laid_ontime_core_operators)], narrowed := true }
def CoreFuelUptoSaid : Prop := coreFuelUptoRow.holds Tryd.pinned (OpenSpec.upto coreFuelSpec)

/-- 'ontimelaw09.CoreNone', WHERE WHAT IT READS IS OF BULK AT MOST 1048576: true; the input reads as it did. -/
def coreNoneUptoRow : OpenClaim := { program := "ytlmipchjmgnlfaadoor", sum := "294c7200eb6de4389ccf59ca4d4dd2d1104a38a6ec082cdb830300774132fc26", func := "ontime/ontimelaw09.CoreNone", spec := "coreNone", inPlace := ["internal/bytealg.IndexByteString"], unfollowed := true, recurses := true, named := ["ontime/isa.formats", "ontime/core.operators"], apart := false, laid := [("ontime/isa.formats", laid_ontime_isa_formats), ("ontime/core.operators", laid_ontime_core_operators)], narrowed := true }
def CoreNoneUptoSaid : Prop := coreNoneUptoRow.holds Tryd.pinned (OpenSpec.upto coreNoneSpec)

/-- 'ontimelaw09.CoreWrites', WHERE WHAT IT READS IS OF BULK AT MOST 1048576: true; the input reads as it did. -/
def coreWritesUptoRow : OpenClaim := { program := "ytlmipchjmgnlfaadoor", sum := "294c7200eb6de4389ccf59ca4d4dd2d1104a38a6ec082cdb830300774132fc26", func := "ontime/ontimelaw09.CoreWrites", spec := "coreWrites", inPlace := ["internal/bytealg.IndexByteString"], unfollowed := true, recurses := true, named := ["ontime/isa.formats", "ontime/core.operators"], apart := false, laid := [("ontime/isa.formats", laid_ontime_isa_formats), ("ontime/core.operators", laid_ontime_core_operators)], narrowed := true }
def CoreWritesUptoSaid : Prop := coreWritesUptoRow.holds Tryd.pinned (OpenSpec.upto coreWritesSpec)

/-- 'ontimelaw09.CoreReads', WHERE WHAT IT READS IS OF BULK AT MOST 1048576: true; the input reads as it did. -/
def coreReadsUptoRow : OpenClaim := { program := "ytlmipchjmgnlfaadoor", sum := "294c7200eb6de4389ccf59ca4d4dd2d1104a38a6ec082cdb830300774132fc26", func := "ontime/ontimelaw09.CoreReads", spec := "coreReads", inPlace := ["internal/bytealg.IndexByteString"], unfollowed := true, recurses := true, named := ["ontime/isa.formats", "ontime/core.operators"], apart := false, laid := [("ontime/isa.formats", laid_ontime_isa_formats), ("ontime/core.operators", laid_ontime_core_operators)], narrowed := true }
def CoreReadsUptoSaid : Prop := coreReadsUptoRow.holds Tryd.pinned (OpenSpec.upto coreReadsSpec)

end Rows
end Go.Proofs.YtlmipchjmgnlfaaDoor
