/- The law RegallocColors. -/
import Derived.Test.YtikfjehollnjeaaDoorRegJ
set_option linter.unusedVariables false
set_option linter.unusedSimpArgs false
namespace Go.Proofs.YtikfjehollnjeaaDoor
open Go.RowKit

/-- ref.Color, whatever the number of colors. -/
theorem refcolor_any (v : Value) (e : List (List Int)) (c : Int) (w : World) (h : RdR w v e) (hm : RowsMax e 100000) (hn : e.length ≤ 1000) (hcb : c ≤ 1000) :
    Calls Tryd.prog 29 #[v, .int .i64 c] w fun r w' => ∃ V, r = .returned V ∧ w'.ownsRow w.heap.size 3 1 V e.length ((colorG e.length (adjG e) (max c 0)).map (Value.int .i64)) ∧ Below w.heap.size w w' := by
  by_cases hc : c < 0
  · have := refcolor_neg v e c w h hm hn hc hcb
    rw [show max c 0 = 0 by omega]; exact this
  · have := refcolor_pos v e c w h hm hn (by omega) hcb
    rw [show max c 0 = c by omega]; exact this
theorem own_rdI {w : World} {base : Nat} {v : Value} {n : Nat} {xs : List Int} (h : w.ownsRow base 3 1 v n (xs.map (Value.int .i64))) : RdI w v xs := by
  have hn : n = xs.length := by have := h.1; simp at this; omega
  subst hn
  exact RdI.of_own h

end Go.Proofs.YtikfjehollnjeaaDoor
