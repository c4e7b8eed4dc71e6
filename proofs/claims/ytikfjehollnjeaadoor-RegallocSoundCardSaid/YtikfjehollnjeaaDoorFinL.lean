/- Layer 20: the listed variable, and a world for the witnesses. -/
import Derived.Test.YtikfjehollnjeaaDoorLivX
set_option linter.unusedVariables false
set_option linter.unusedSimpArgs false
set_option maxRecDepth 20000
namespace Go.Proofs.YtikfjehollnjeaaDoor
open Go.Joins Go.ChangeShapes Go.WideShapes Go.ChangeAt Go.RowKit Go.Deep

theorem tabz_flat : flatD 2 (Rows.laid_math_bits_deBruijn64tab (H := Unit)) = (List.range 64).map fun j => .int .u8 (Lib.deBruijn64tab.getD j 0) := by kernel_rfl
theorem tabz_of_laid {w : World} {nm : String} {rest : List (String × DataW Unit)} (hg : Tryd.prog.globalNamed nm = some 0) (h : laidMet Tryd.prog ((nm, Rows.laid_math_bits_deBruijn64tab) :: rest) w) : TabZ w := by
  obtain ⟨et, fr, hc⟩ := cells_of_head (g := 0) (t := 121) 2 hg (by kernel_rfl) (by kernel_rfl) h
  rw [tabz_flat] at hc
  refine ⟨?_, fun i hi => ?_⟩
  · rcases Nat.lt_or_ge 0 w.heap.size with h | h
    · exact h
    · rw [Array.getElem?_eq_none (by omega)] at hc; cases hc
  · unfold World.cell?
    rw [hc]
    simp [hi]
/-- A block that holds these cells. -/
def layObj (cs : Array Value) : Obj → Obj
  | .cells _ t frozen => .cells cs t frozen
  | o => o
/-- A world for the witnesses: the settled one, the table holding what its initialiser lays. -/
noncomputable def laidWorld20 (os : Os) : World :=
  { World.holding Tryd.prog os ⟨#[], #[], []⟩ with heap := (World.holding Tryd.prog os ⟨#[], #[], []⟩).heap.modify 0 (layObj (flatD 2 (Rows.laid_math_bits_deBruijn64tab (H := Unit))).toArray) }
end Go.Proofs.YtikfjehollnjeaaDoor
