/-
  NARROWER THAN 'FOR EVERY INPUT', by the rows' own cells (each row's printed sentence says how): PipelineStates: laid · PipelineSums: laid · PipelineDivides: laid · PipelineStarts: laid · PipelineReads: laid · PipelineCycles: laid · PipelineExtremes: laid · PipelineBounds: laid.
  DERIVED. THE GIVEN ROWS OF THIS SEAT. 8 by the template 'for every input the law returns true; each argument reads behind the call as it read before'; 0 by the template 'total and deterministic' (their statements: YtjfenhnlonbmmaaDoorTotals.lean).
  GIVEN WITH THE SEED: the statements are not yours to turn. If you find one false, say at which input.
  Laid BY PROGRAM, IN A SANDBOX (cutbox-rows.mjs): the forced cells as the released guide's own fill.sh prints them over the translation c2caa0b0a06d616e… (all of the seat's roots in one cut). By AI agents, Wed Nov 11 2026. No macro, syntax, notation, axiom, sorry.
-/
import Derived.Test.YtjfenhnlonbmmaaDoorChecked
import GoSem.Claim
import GoSem.ClaimJoined
import GoSem.ClaimMapViews
import Derived.JoinedTies
import Derived.KernelRfl
namespace Go.Proofs.YtjfenhnlonbmmaaDoor
/- THE CELL 'sum', in the pinned program and in every row, IS THE sha256 OF THE DUMP (.gsa) THAT YtjfenhnlonbmmaaDoorProg.lean LOADS. Nothing in Lean hashes anything: it is a label: what it is worth is what the hold of that sum in a sandbox is worth. -/
noncomputable def Tryd.pinned : Pinned := { name := "ytjfenhnlonbmmaadoor", sum := "c2caa0b0a06d616e378af2dfddba2bedefe6659bcf58bd19986e6cf9c318f34a", checked := Tryd.checked }
namespace Rows
def none {H : Type} : Left H := { results := [], args := [] }

/- WHAT THE LISTED PACKAGE-LEVEL VARIABLES READ AS WHEN THE CALL BEGINS. Each datum BY PROGRAM (the guide's laid-datum.mjs) off the statement by which the dump's own 'gosem.cut.vars' lays the variable. In a bare row this is a premise. The card (YtjfenhnlonbmmaaDoorCards.lean) ties it to the program's text. -/
def laid_ontime_isa_formats {H : Type} : DataW H := .agg [.agg [.lit (.string [110, 111, 112]), .lit (.string []), .lit (.string []), .lit (.bool false), .lit (.int .i64 0), .lit (.int .i64 0)], .agg [.lit (.string [104, 97, 108, 116]), .lit (.string []), .lit (.string []), .lit (.bool false), .lit (.int .i64 0), .lit (.int .i64 0)], .agg [.lit (.string [97, 100, 100]), .lit (.string [65, 66, 67]), .lit (.string [66, 67]), .lit (.bool true), .lit (.int .i64 0), .lit (.int .i64 0)], .agg [.lit (.string [115, 117, 98]), .lit (.string [65, 66, 67]), .lit (.string [66, 67]), .lit (.bool true), .lit (.int .i64 0), .lit (.int .i64 0)], .agg [.lit (.string [109, 117, 108]), .lit (.string [65, 66, 67]), .lit (.string [66, 67]), .lit (.bool true), .lit (.int .i64 0), .lit (.int .i64 0)], .agg [.lit (.string [100, 105, 118]), .lit (.string [65, 66, 67]), .lit (.string [66, 67]), .lit (.bool true), .lit (.int .i64 0), .lit (.int .i64 0)], .agg [.lit (.string [109, 111, 100]), .lit (.string [65, 66, 67]), .lit (.string [66, 67]), .lit (.bool true), .lit (.int .i64 0), .lit (.int .i64 0)], .agg [.lit (.string [97, 110, 100]), .lit (.string [65, 66, 67]), .lit (.string [66, 67]), .lit (.bool true), .lit (.int .i64 0), .lit (.int .i64 0)], .agg [.lit (.string [111, 114]), .lit (.string [65, 66, 67]), .lit (.string [66, 67]), .lit (.bool true), .lit (.int .i64 0), .lit (.int .i64 0)], .agg [.lit (.string [120, 111, 114]), .lit (.string [65, 66, 67]), .lit (.string [66, 67]), .lit (.bool true), .lit (.int .i64 0), .lit (.int .i64 0)], .agg [.lit (.string [115, 104, 108]), .lit (.string [65, 66, 67]), .lit (.string [66, 67]), .lit (.bool true), .lit (.int .i64 0), .lit (.int .i64 0)], .agg [.lit (.string [115, 104, 114]), .lit (.string [65, 66, 67]), .lit (.string [66, 67]), .lit (.bool true), .lit (.int .i64 0), .lit (.int .i64 0)], .agg [.lit (.string [101, 113]), .lit (.string [65, 66, 67]), .lit (.string [66, 67]), .lit (.bool true), .lit (.int .i64 0), .lit (.int .i64 0)], .agg [.lit (.string [108, 116]), .lit (.string [65, 66, 67]), .lit (.string [66, 67]), .lit (.bool true), .lit (.int .i64 0), .lit (.int .i64 0)], .agg [.lit (.string [108, 105]), .lit (.string [65, 73]), .lit (.string []), .lit (.bool true), .lit (.int .i64 (-131072)), .lit (.int .i64 131071)], .agg [.lit (.string [97, 100, 100, 105]), .lit (.string [65, 66, 73]), .lit (.string [66]), .lit (.bool true), .lit (.int .i64 (-131072)), .lit (.int .i64 131071)], .agg [.lit (.string [115, 104, 108, 105]), .lit (.string [65, 66, 73]), .lit (.string [66]), .lit (.bool true), .lit (.int .i64 0), .lit (.int .i64 31)], .agg [.lit (.string [111, 114, 105]), .lit (.string [65, 66, 73]), .lit (.string [66]), .lit (.bool true), .lit (.int .i64 0), .lit (.int .i64 16383)], .agg [.lit (.string [108, 100]), .lit (.string [65, 66, 73]), .lit (.string [66]), .lit (.bool true), .lit (.int .i64 (-131072)), .lit (.int .i64 131071)], .agg [.lit (.string [115, 116]), .lit (.string [65, 66, 73]), .lit (.string [65, 66]), .lit (.bool false), .lit (.int .i64 (-131072)), .lit (.int .i64 131071)], .agg [.lit (.string [108, 100, 115]), .lit (.string [65, 66, 73]), .lit (.string [66]), .lit (.bool true), .lit (.int .i64 (-131072)), .lit (.int .i64 131071)], .agg [.lit (.string [115, 116, 115]), .lit (.string [65, 66, 73]), .lit (.string [65, 66]), .lit (.bool false), .lit (.int .i64 (-131072)), .lit (.int .i64 131071)], .agg [.lit (.string [98, 101, 113, 122]), .lit (.string [65, 73]), .lit (.string [65]), .lit (.bool false), .lit (.int .i64 (-131072)), .lit (.int .i64 131071)], .agg [.lit (.string [98, 110, 101, 122]), .lit (.string [65, 73]), .lit (.string [65]), .lit (.bool false), .lit (.int .i64 (-131072)), .lit (.int .i64 131071)], .agg [.lit (.string [106, 109, 112]), .lit (.string [73]), .lit (.string []), .lit (.bool false), .lit (.int .i64 (-131072)), .lit (.int .i64 131071)], .agg [.lit (.string [98, 111, 117, 110, 100]), .lit (.string [65, 73]), .lit (.string [65]), .lit (.bool false), .lit (.int .i64 1), .lit (.int .i64 131071)], .agg [.lit (.string [105, 110]), .lit (.string [65, 73]), .lit (.string []), .lit (.bool true), .lit (.int .i64 0), .lit (.int .i64 7)], .agg [.lit (.string [111, 117, 116]), .lit (.string [65, 73]), .lit (.string [65]), .lit (.bool false), .lit (.int .i64 0), .lit (.int .i64 7)], .agg [.lit (.string [108, 111, 99, 107]), .lit (.string [73]), .lit (.string []), .lit (.bool false), .lit (.int .i64 0), .lit (.int .i64 3)], .agg [.lit (.string [117, 110, 108, 111, 99, 107]), .lit (.string [73]), .lit (.string []), .lit (.bool false), .lit (.int .i64 0), .lit (.int .i64 3)]]

/-- 'ontimelaw08.PipelineStates': WHATEVER THE INPUT: true; the input reads as it did. -/
def pipelineStatesSpec : ChangeSpec := { name := "pipelineStates", fn := fun _ => fun
  | [d1, d2, d3] => { results := [.lit (.bool true)], args := [d1, d2, d3] }
  | _ => none }
def pipelineStatesRow : OpenClaim := { program := "ytjfenhnlonbmmaadoor", sum := "c2caa0b0a06d616e378af2dfddba2bedefe6659bcf58bd19986e6cf9c318f34a", func := "ontime/ontimelaw08.PipelineStates", spec := "pipelineStates", inPlace := ["internal/bytealg.IndexByteString"], recurses := true, named := ["ontime/isa.formats"], apart := false, laid := [("ontime/isa.formats", laid_ontime_isa_formats)] }
def PipelineStatesSaid : Prop := pipelineStatesRow.holds Tryd.pinned (OpenSpec.ofChange pipelineStatesSpec)

/-- ITS FALSE NEIGHBOUR: 'it returns false'. Refute it at one input. -/
def pipelineStatesWrong : ChangeSpec := { name := "pipelineStates", fn := fun _ => fun
  | [d1, d2, d3] => { results := [.lit (.bool false)], args := [d1, d2, d3] }
  | _ => none }
def PipelineStatesWrongFalsely : Prop := pipelineStatesRow.holds Tryd.pinned (OpenSpec.ofChange pipelineStatesWrong)

/-- 'ontimelaw08.PipelineSums': WHATEVER THE INPUT: true; the input reads as it did. -/
def pipelineSumsSpec : ChangeSpec := { name := "pipelineSums", fn := fun _ => fun
  | [d1, d2, d3] => { results := [.lit (.bool true)], args := [d1, d2, d3] }
  | _ => none }
def pipelineSumsRow : OpenClaim := { program := "ytjfenhnlonbmmaadoor", sum := "c2caa0b0a06d616e378af2dfddba2bedefe6659bcf58bd19986e6cf9c318f34a", func := "ontime/ontimelaw08.PipelineSums", spec := "pipelineSums", inPlace := ["internal/bytealg.IndexByteString"], recurses := true, named := ["ontime/isa.formats"], apart := false, laid := [("ontime/isa.formats", laid_ontime_isa_formats)] }
def PipelineSumsSaid : Prop := pipelineSumsRow.holds Tryd.pinned (OpenSpec.ofChange pipelineSumsSpec)

/-- ITS FALSE NEIGHBOUR: 'it returns false'. Refute it at one input. -/
def pipelineSumsWrong : ChangeSpec := { name := "pipelineSums", fn := fun _ => fun
  | [d1, d2, d3] => { results := [.lit (.bool false)], args := [d1, d2, d3] }
  | _ => none }
def PipelineSumsWrongFalsely : Prop := pipelineSumsRow.holds Tryd.pinned (OpenSpec.ofChange pipelineSumsWrong)

/-- 'ontimelaw08.PipelineDivides': WHATEVER THE INPUT: true; the input reads as it did. -/
def pipelineDividesSpec : ChangeSpec := { name := "pipelineDivides", fn := fun _ => fun
  | [d1, d2, d3, d4] => { results := [.lit (.bool true)], args := [d1, d2, d3, d4] }
  | _ => none }
def pipelineDividesRow : OpenClaim := { program := "ytjfenhnlonbmmaadoor", sum := "c2caa0b0a06d616e378af2dfddba2bedefe6659bcf58bd19986e6cf9c318f34a", func := "ontime/ontimelaw08.PipelineDivides", spec := "pipelineDivides", inPlace := ["internal/bytealg.IndexByteString"], recurses := true, named := ["ontime/isa.formats"], apart := false, laid := [("ontime/isa.formats", laid_ontime_isa_formats)] }
def PipelineDividesSaid : Prop := pipelineDividesRow.holds Tryd.pinned (OpenSpec.ofChange pipelineDividesSpec)

/-- ITS FALSE NEIGHBOUR: 'it returns false'. Refute it at one input. -/
def pipelineDividesWrong : ChangeSpec := { name := "pipelineDivides", fn := fun _ => fun
  | [d1, d2, d3, d4] => { results := [.lit (.bool false)], args := [d1, d2, d3, d4] }
  | _ => none }
def PipelineDividesWrongFalsely : Prop := pipelineDividesRow.holds Tryd.pinned (OpenSpec.ofChange pipelineDividesWrong)

/-- 'ontimelaw08.PipelineStarts': WHATEVER THE INPUT: true; the input reads as it did. -/
def pipelineStartsSpec : ChangeSpec := { name := "pipelineStarts", fn := fun _ => fun
  | [d1, d2, d3, d4] => { results := [.lit (.bool true)], args := [d1, d2, d3, d4] }
  | _ => none }
def pipelineStartsRow : OpenClaim := { program := "ytjfenhnlonbmmaadoor", sum := "c2caa0b0a06d616e378af2dfddba2bedefe6659bcf58bd19986e6cf9c318f34a", func := "ontime/ontimelaw08.PipelineStarts", spec := "pipelineStarts", inPlace := ["internal/bytealg.IndexByteString"], recurses := true, named := ["ontime/isa.formats"], apart := false, laid := [("ontime/isa.formats", laid_ontime_isa_formats)] }
def PipelineStartsSaid : Prop := pipelineStartsRow.holds Tryd.pinned (OpenSpec.ofChange pipelineStartsSpec)

/-- ITS FALSE NEIGHBOUR: 'it returns false'. Refute it at one input. -/
def pipelineStartsWrong : ChangeSpec := { name := "pipelineStarts", fn := fun _ => fun
  | [d1, d2, d3, d4] => { results := [.lit (.bool false)], args := [d1, d2, d3, d4] }
  | _ => none }
def PipelineStartsWrongFalsely : Prop := pipelineStartsRow.holds Tryd.pinned (OpenSpec.ofChange pipelineStartsWrong)

/-- 'ontimelaw08.PipelineReads': WHATEVER THE INPUT: true; the input reads as it did. -/
def pipelineReadsSpec : ChangeSpec := { name := "pipelineReads", fn := fun _ => fun
  | [d1, d2] => { results := [.lit (.bool true)], args := [d1, d2] }
  | _ => none }
def pipelineReadsRow : OpenClaim := { program := "ytjfenhnlonbmmaadoor", sum := "c2caa0b0a06d616e378af2dfddba2bedefe6659bcf58bd19986e6cf9c318f34a", func := "ontime/ontimelaw08.PipelineReads", spec := "pipelineReads", inPlace := ["internal/bytealg.IndexByteString"], recurses := true, named := ["ontime/isa.formats"], apart := false, laid := [("ontime/isa.formats", laid_ontime_isa_formats)] }
def PipelineReadsSaid : Prop := pipelineReadsRow.holds Tryd.pinned (OpenSpec.ofChange pipelineReadsSpec)

/-- ITS FALSE NEIGHBOUR: 'it returns false'. Refute it at one input. -/
def pipelineReadsWrong : ChangeSpec := { name := "pipelineReads", fn := fun _ => fun
  | [d1, d2] => { results := [.lit (.bool false)], args := [d1, d2] }
  | _ => none }
def PipelineReadsWrongFalsely : Prop := pipelineReadsRow.holds Tryd.pinned (OpenSpec.ofChange pipelineReadsWrong)

/-- 'ontimelaw08.PipelineCycles': WHATEVER THE INPUT: true; the input reads as it did. -/
def pipelineCyclesSpec : ChangeSpec := { name := "pipelineCycles", fn := fun _ => fun
  | [d1, d2, d3, d4] => { results := [.lit (.bool true)], args := [d1, d2, d3, d4] }
  | _ => none }
def pipelineCyclesRow : OpenClaim := { program := "ytjfenhnlonbmmaadoor", sum := "c2caa0b0a06d616e378af2dfddba2bedefe6659bcf58bd19986e6cf9c318f34a", func := "ontime/ontimelaw08.PipelineCycles", spec := "pipelineCycles", inPlace := ["internal/bytealg.IndexByteString"], recurses := true, named := ["ontime/isa.formats"], apart := false, laid := [("ontime/isa.formats", laid_ontime_isa_formats)] }
def PipelineCyclesSaid : Prop := pipelineCyclesRow.holds Tryd.pinned (OpenSpec.ofChange pipelineCyclesSpec)

/-- ITS FALSE NEIGHBOUR: 'it returns false'. Refute it at one input. -/
def pipelineCyclesWrong : ChangeSpec := { name := "pipelineCycles", fn := fun _ => fun
  | [d1, d2, d3, d4] => { results := [.lit (.bool false)], args := [d1, d2, d3, d4] }
  | _ => none }
def PipelineCyclesWrongFalsely : Prop := pipelineCyclesRow.holds Tryd.pinned (OpenSpec.ofChange pipelineCyclesWrong)

/-- 'ontimelaw08.PipelineExtremes': WHATEVER THE INPUT: true; the input reads as it did. -/
def pipelineExtremesSpec : ChangeSpec := { name := "pipelineExtremes", fn := fun _ => fun
  | [d1, d2] => { results := [.lit (.bool true)], args := [d1, d2] }
  | _ => none }
def pipelineExtremesRow : OpenClaim := { program := "ytjfenhnlonbmmaadoor", sum := "c2caa0b0a06d616e378af2dfddba2bedefe6659bcf58bd19986e6cf9c318f34a", func := "ontime/ontimelaw08.PipelineExtremes", spec := "pipelineExtremes", inPlace := ["internal/bytealg.IndexByteString"], recurses := true, named := ["ontime/isa.formats"], apart := false, laid := [("ontime/isa.formats", laid_ontime_isa_formats)] }
def PipelineExtremesSaid : Prop := pipelineExtremesRow.holds Tryd.pinned (OpenSpec.ofChange pipelineExtremesSpec)

/-- ITS FALSE NEIGHBOUR: 'it returns false'. Refute it at one input. -/
def pipelineExtremesWrong : ChangeSpec := { name := "pipelineExtremes", fn := fun _ => fun
  | [d1, d2] => { results := [.lit (.bool false)], args := [d1, d2] }
  | _ => none }
def PipelineExtremesWrongFalsely : Prop := pipelineExtremesRow.holds Tryd.pinned (OpenSpec.ofChange pipelineExtremesWrong)

/-- 'ontimelaw08.PipelineBounds': WHATEVER THE INPUT: true; the input reads as it did. -/
def pipelineBoundsSpec : ChangeSpec := { name := "pipelineBounds", fn := fun _ => fun
  | [d1, d2, d3] => { results := [.lit (.bool true)], args := [d1, d2, d3] }
  | _ => none }
def pipelineBoundsRow : OpenClaim := { program := "ytjfenhnlonbmmaadoor", sum := "c2caa0b0a06d616e378af2dfddba2bedefe6659bcf58bd19986e6cf9c318f34a", func := "ontime/ontimelaw08.PipelineBounds", spec := "pipelineBounds", inPlace := ["internal/bytealg.IndexByteString"], recurses := true, named := ["ontime/isa.formats"], apart := false, laid := [("ontime/isa.formats", laid_ontime_isa_formats)] }
def PipelineBoundsSaid : Prop := pipelineBoundsRow.holds Tryd.pinned (OpenSpec.ofChange pipelineBoundsSpec)

/-- ITS FALSE NEIGHBOUR: 'it returns false'. Refute it at one input. -/
def pipelineBoundsWrong : ChangeSpec := { name := "pipelineBounds", fn := fun _ => fun
  | [d1, d2, d3] => { results := [.lit (.bool false)], args := [d1, d2, d3] }
  | _ => none }
def PipelineBoundsWrongFalsely : Prop := pipelineBoundsRow.holds Tryd.pinned (OpenSpec.ofChange pipelineBoundsWrong)

/- THE SECOND FORM. 'bulk': how many values and letters a reading holds, each counted each time it is reached (what is shared counts as often as it is met; a slice's spare places count too). A statement '..UptoSaid' is the law's where the arguments, and the package variables that the reading takes, are together of bulk at most 1048576: NARROWER than '..Said'. Prove '..Said' where nothing that the law and all that it calls make is longer than what came in: it says more and counts as full. Else prove '..UptoSaid'. A law counts once. -/
mutual
def uptoBulk {H : Type} : DataW H → Nat
  | .lit (.string bytes) => bytes.length + 1
  | .lit _ => 1
  | .nil => 1
  | .ptr d => uptoBulk d + 1
  | .slice elems spare => uptoBulkAll elems + uptoBulkAll spare + 1
  | .agg parts => uptoBulkAll parts + 1
  | .iface _ d => uptoBulk d + 1
  | .map entries => uptoBulkEntries entries + 1
  | .held _ => 1
def uptoBulkAll {H : Type} : List (DataW H) → Nat
  | [] => 0
  | d :: r => uptoBulk d + uptoBulkAll r
def uptoBulkEntries {H : Type} : List (Lit × DataW H) → Nat
  | [] => 0
  | x :: r => uptoBulkEntry x + uptoBulkEntries r
def uptoBulkEntry {H : Type} : Lit × DataW H → Nat
  | (.string bytes, d) => bytes.length + uptoBulk d + 1
  | (_, d) => uptoBulk d + 1
 end
def uptoSmall : (H : Type) → List (DataW H) → Bool := fun _ ds => decide (uptoBulkAll ds ≤ 1048576)
def OpenSpec.upto (s : _root_.Go.ChangeSpec) : _root_.Go.OpenSpec := { _root_.Go.OpenSpec.ofChange s with cond := some uptoSmall }

/-- 'ontimelaw08.PipelineStates', WHERE WHAT IT READS IS OF BULK AT MOST 1048576: true; the input reads as it did. -/
def pipelineStatesUptoRow : OpenClaim := { program := "ytjfenhnlonbmmaadoor", sum := "c2caa0b0a06d616e378af2dfddba2bedefe6659bcf58bd19986e6cf9c318f34a", func := "ontime/ontimelaw08.PipelineStates", spec := "pipelineStates", inPlace := ["internal/bytealg.IndexByteString"], recurses := true, named := ["ontime/isa.formats"], apart := false, laid := [("ontime/isa.formats", laid_ontime_isa_formats)], narrowed := true }
def PipelineStatesUptoSaid : Prop := pipelineStatesUptoRow.holds Tryd.pinned (OpenSpec.upto pipelineStatesSpec)

/-- 'ontimelaw08.PipelineSums', WHERE WHAT IT READS IS OF BULK AT MOST 1048576: true; the input reads as it did. -/
def pipelineSumsUptoRow : OpenClaim := { program := "ytjfenhnlonbmmaadoor", sum := "c2caa0b0a06d616e378af2dfddba2bedefe6659bcf58bd19986e6cf9c318f34a", func := "ontime/ontimelaw08.PipelineSums", spec := "pipelineSums", inPlace := ["internal/bytealg.IndexByteString"], recurses := true, named := ["ontime/isa.formats"], apart := false, laid := [("ontime/isa.formats", laid_ontime_isa_formats)], narrowed := true }
def PipelineSumsUptoSaid : Prop := pipelineSumsUptoRow.holds Tryd.pinned (OpenSpec.upto pipelineSumsSpec)

/-- 'ontimelaw08.PipelineDivides', WHERE WHAT IT READS IS OF BULK AT MOST 1048576: true; the input reads as it did. -/
def pipelineDividesUptoRow : OpenClaim := { program := "ytjfenhnlonbmmaadoor", sum := "c2caa0b0a06d616e378af2dfddba2bedefe6659bcf58bd19986e6cf9c318f34a", func := "ontime/ontimelaw08.PipelineDivides", spec := "pipelineDivides", inPlace := ["internal/bytealg.IndexByteString"], recurses := true, named := ["ontime/isa.formats"], apart := false, laid := [("ontime/isa.formats", laid_ontime_isa_formats)], narrowed := true }
def PipelineDividesUptoSaid : Prop := pipelineDividesUptoRow.holds Tryd.pinned (OpenSpec.upto pipelineDividesSpec)

/-- 'ontimelaw08.PipelineStarts', WHERE WHAT IT READS IS OF BULK AT MOST 1048576: true; the input reads as it did. -/
def pipelineStartsUptoRow : OpenClaim := { program := "ytjfenhnlonbmmaadoor", sum := "c2caa0b0a06d616e378af2dfddba2bedefe6659bcf58bd19986e6cf9c318f34a", func := "ontime/ontimelaw08.PipelineStarts", spec := "pipelineStarts", inPlace := ["internal/bytealg.IndexByteString"], recurses := true, named := ["ontime/isa.formats"], apart := false, laid := [("ontime/isa.formats", laid_ontime_isa_formats)], narrowed := true }
def PipelineStartsUptoSaid : Prop := pipelineStartsUptoRow.holds Tryd.pinned (OpenSpec.upto pipelineStartsSpec)

/-- 'ontimelaw08.PipelineReads', WHERE WHAT IT READS IS OF BULK AT MOST 1048576: true; the input reads as it did. -/
def pipelineReadsUptoRow : OpenClaim := { program := "ytjfenhnlonbmmaadoor", sum := "c2caa0b0a06d616e378af2dfddba2bedefe6659bcf58bd19986e6cf9c318f34a", func := "ontime/ontimelaw08.PipelineReads", spec := "pipelineReads", inPlace := ["internal/bytealg.IndexByteString"], recurses := true, named := ["ontime/isa.formats"], apart := false, laid := [("ontime/isa.formats", laid_ontime_isa_formats)], narrowed := true }
def PipelineReadsUptoSaid : Prop := pipelineReadsUptoRow.holds Tryd.pinned (OpenSpec.upto pipelineReadsSpec)

/-- 'ontimelaw08.PipelineCycles', WHERE WHAT IT READS IS OF BULK AT MOST 1048576: true; the input reads as it did. -/
def pipelineCyclesUptoRow : OpenClaim := { program := "ytjfenhnlonbmmaadoor", sum := "c2caa0b0a06d616e378af2dfddba2bedefe6659bcf58bd19986e6cf9c318f34a", func := "ontime/ontimelaw08.PipelineCycles", spec := "pipelineCycles", inPlace := ["internal/bytealg.IndexByteString"], recurses := true, named := ["ontime/isa.formats"], apart := false, laid := [("ontime/isa.formats", laid_ontime_isa_formats)], narrowed := true }
def PipelineCyclesUptoSaid : Prop := pipelineCyclesUptoRow.holds Tryd.pinned (OpenSpec.upto pipelineCyclesSpec)

/-- 'ontimelaw08.PipelineExtremes', WHERE WHAT IT READS IS OF BULK AT MOST 1048576: true; the input reads as it did. -/
def pipelineExtremesUptoRow : OpenClaim := { program := "ytjfenhnlonbmmaadoor", sum := "c2caa0b0a06d616e378af2dfddba2bedefe6659bcf58bd19986e6cf9c318f34a", func := "ontime/ontimelaw08.PipelineExtremes", spec := "pipelineExtremes", inPlace := ["internal/bytealg.IndexByteString"], recurses := true, named := ["ontime/isa.formats"], apart := false, laid := [("ontime/isa.formats", laid_ontime_isa_formats)], narrowed := true }
def PipelineExtremesUptoSaid : Prop := pipelineExtremesUptoRow.holds Tryd.pinned (OpenSpec.upto pipelineExtremesSpec)

/-- 'ontimelaw08.PipelineBounds', WHERE WHAT IT READS IS OF BULK AT MOST 1048576: true; the input reads as it did. -/
def pipelineBoundsUptoRow : OpenClaim := { program := "ytjfenhnlonbmmaadoor", sum := "c2caa0b0a06d616e378af2dfddba2bedefe6659bcf58bd19986e6cf9c318f34a", func := "ontime/ontimelaw08.PipelineBounds", spec := "pipelineBounds", inPlace := ["internal/bytealg.IndexByteString"], recurses := true, named := ["ontime/isa.formats"], apart := false, laid := [("ontime/isa.formats", laid_ontime_isa_formats)], narrowed := true }
def PipelineBoundsUptoSaid : Prop := pipelineBoundsUptoRow.holds Tryd.pinned (OpenSpec.upto pipelineBoundsSpec)

end Rows
end Go.Proofs.YtjfenhnlonbmmaaDoor
