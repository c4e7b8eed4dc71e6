/- Results that lie in memory. -/
import Derived.Test.YtpachmkklppmjaaDoorBase
namespace Go.Proofs.YtpachmkklppmjaaDoor
open Go.RowKit

/-- A result that is a struct of five cells, stored whole just before the return. -/
theorem run_result5 {P : Program} {fn : Func} {p u : Tmp} {ty : TypeId} (hr : fn.results = #[.cell p ty, .tmp u]) (hag : ∀ w : World, (isAgg ty).run P w = .ok true w) (hsz : ∀ w : World, (sizeOf ty).run P w = .ok 5 w)
    {tmps : Array Value} {w1 : World} {B : Nat} (v0 v1 v2 v3 v4 r : Value) (hp : tmps.getD p undef = .pointer (some ⟨B, 0, none⟩)) (hu : tmps.getD u undef = r)
    (h0 : w1.cell? ⟨B, 0, none⟩ ≠ none) (h1 : w1.cell? ⟨B, 1, none⟩ ≠ none) (h2 : w1.cell? ⟨B, 2, none⟩ ≠ none) (h3 : w1.cell? ⟨B, 3, none⟩ ≠ none) (h4 : w1.cell? ⟨B, 4, none⟩ ≠ none) :
    (results fn tmps).run P (((((w1.setCell ⟨B, 0, none⟩ v0).setCell ⟨B, 1, none⟩ v1).setCell ⟨B, 2, none⟩ v2).setCell ⟨B, 3, none⟩ v3).setCell ⟨B, 4, none⟩ v4) =
      .ok (.tuple #[.agg #[v0, v1, v2, v3, v4], r]) (((((w1.setCell ⟨B, 0, none⟩ v0).setCell ⟨B, 1, none⟩ v1).setCell ⟨B, 2, none⟩ v2).setCell ⟨B, 3, none⟩ v3).setCell ⟨B, 4, none⟩ v4) := by
  have s : ∀ (w : World) (i j : Nat) (x : Value), i ≠ j → (w.setCell ⟨B, i, none⟩ x).cell? ⟨B, j, none⟩ = w.cell? ⟨B, j, none⟩ := fun w i j x hij => World.cell?_setCell_other _ _ _ _ (by intro e; injection e with _ e2; exact hij e2)
  have t : ∀ (w : World) (i : Nat) (x : Value), w.cell? ⟨B, i, none⟩ ≠ none → (w.setCell ⟨B, i, none⟩ x).cell? ⟨B, i, none⟩ = some x := fun w i x h => by
    obtain ⟨y, hy⟩ := Option.ne_none_iff_exists'.1 h
    exact World.cell?_setCell_same _ _ _ hy
  have hl : ∀ (j : Nat) (v : Value), [v0, v1, v2, v3, v4][j]? = some v → (((((w1.setCell ⟨B, 0, none⟩ v0).setCell ⟨B, 1, none⟩ v1).setCell ⟨B, 2, none⟩ v2).setCell ⟨B, 3, none⟩ v3).setCell ⟨B, 4, none⟩ v4).cell? ((⟨B, 0, none⟩ : Addr).add j) = some v := by
    intro j v hj
    match j, hj with
    | 0, hj => obtain rfl : v0 = v := by simpa using hj
               show World.cell? _ ⟨B, 0, none⟩ = _
               rw [s _ 4 0 _ (by omega), s _ 3 0 _ (by omega), s _ 2 0 _ (by omega), s _ 1 0 _ (by omega), t _ 0 _ h0]
    | 1, hj => obtain rfl : v1 = v := by simpa using hj
               show World.cell? _ ⟨B, 1, none⟩ = _
               rw [s _ 4 1 _ (by omega), s _ 3 1 _ (by omega), s _ 2 1 _ (by omega), t _ 1 _ (by rw [s _ 0 1 _ (by omega)]; exact h1)]
    | 2, hj => obtain rfl : v2 = v := by simpa using hj
               show World.cell? _ ⟨B, 2, none⟩ = _
               rw [s _ 4 2 _ (by omega), s _ 3 2 _ (by omega), t _ 2 _ (by rw [s _ 1 2 _ (by omega), s _ 0 2 _ (by omega)]; exact h2)]
    | 3, hj => obtain rfl : v3 = v := by simpa using hj
               show World.cell? _ ⟨B, 3, none⟩ = _
               rw [s _ 4 3 _ (by omega), t _ 3 _ (by rw [s _ 2 3 _ (by omega), s _ 1 3 _ (by omega), s _ 0 3 _ (by omega)]; exact h3)]
    | 4, hj => obtain rfl : v4 = v := by simpa using hj
               show World.cell? _ ⟨B, 4, none⟩ = _
               rw [t _ 4 _ (by rw [s _ 3 4 _ (by omega), s _ 2 4 _ (by omega), s _ 1 4 _ (by omega), s _ 0 4 _ (by omega)]; exact h4)]
    | j + 5, hj => simp at hj
  rw [results_cell_tmp hr, hp, hu]
  simp only [asAddr, loadVar, Sem.run_bind, Sem.run_pure, Result.andThen, hag, hsz, if_true]
  have e := run_loadCells_list (P := P) _ ⟨B, 0, none⟩ [v0, v1, v2, v3, v4] hl
  simp only [List.length_cons, List.length_nil] at e
  simp [e]

end Go.Proofs.YtpachmkklppmjaaDoor
