import Derived.Test.YtdfofelchjpioaaDoorBase
import Derived.Sort.OwnSortedInts
import Derived.Lib.LazyBuf
import Derived.Lib.RowBridge
set_option linter.unusedVariables false
set_option linter.unusedSimpArgs false
namespace Go.Proofs.YtdfofelchjpioaaDoor
open Go.RowKit Go.Sort Go.Lib

def SlI (base : Nat) (w : World) (v : Value) (xs : List Int) : Prop :=
  (xs = [] ∧ ∃ a cap, v = .slice a 0 cap) ∨
  (xs ≠ [] ∧ ∃ g cap, v = .slice (some ⟨g, 0, none⟩) xs.length cap ∧ base ≤ g ∧ g < w.heap.size ∧ ∀ j, j < xs.length → w.cell? ⟨g, j, none⟩ = some (.int .i64 (xs.getD j 0)))

end Go.Proofs.YtdfofelchjpioaaDoor
