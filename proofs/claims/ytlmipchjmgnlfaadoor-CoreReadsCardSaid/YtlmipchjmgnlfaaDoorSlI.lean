/- slices.Sort and slices.Compact on a slice of integers that the call itself has made. -/
import Derived.Test.YtlmipchjmgnlfaaDoorBase
import Derived.Sort.OwnSortedInts
import Derived.Lib.LazyBuf
import Derived.Lib.RowBridge
set_option linter.unusedVariables false
set_option linter.unusedSimpArgs false
namespace Go.Proofs.YtlmipchjmgnlfaaDoor
open Go.RowKit Go.Sort Go.Lib

/-- A slice that reads as these integers, in a block from base on. -/
def SlI (base : Nat) (w : World) (v : Value) (xs : List Int) : Prop :=
  (xs = [] ∧ ∃ a cap, v = .slice a 0 cap) ∨
  (xs ≠ [] ∧ ∃ g cap, v = .slice (some ⟨g, 0, none⟩) xs.length cap ∧ base ≤ g ∧ g < w.heap.size ∧ ∀ j, j < xs.length → w.cell? ⟨g, j, none⟩ = some (.int .i64 (xs.getD j 0)))

def sortI (xs : List Int) : List Int := xs.mergeSort fun x y => decide (x ≤ y)

theorem sort_own (base : Nat) (w : World) (v : Value) (xs : List Int) (hown : w.ownsRow base 3 1 v xs.length (xs.map (Value.int .i64))) (hB : base ≤ w.heap.size) (hl : xs.length ≤ 1000) :
    Calls Tryd.prog 38 #[v] w fun e w' => e = .returned (.tuple #[]) ∧ w'.ownsRow base 3 1 v xs.length ((sortI xs).map (Value.int .i64)) ∧ Below base w w' := by
  have hs : (sortI xs).length = xs.length := by simp [sortI]
  rcases hown.2 with ⟨rfl, hn⟩ | ⟨g, cap, cur, rfl, hg, hh, hnc, hcap, hcs, htk⟩
  · have hx : xs = [] := List.length_eq_zero_iff.1 hn
    subst hx
    refine (Tryd.slices_Sort_int_none none 0 w).mono ?_
    rintro e w' ⟨rfl, rfl⟩
    exact ⟨rfl, ⟨by simp [sortI], .inl ⟨rfl, rfl⟩⟩, Below.refl _ _⟩
  · have hH : Holds (Value.int .i64) w g 0 xs.toArray := holds_of_blockI hh (by simpa using htk)
    have hgl : g < w.heap.size := (Array.getElem?_eq_some_iff.1 hh).1
    refine (Tryd.slices_Sort_int g 0 cap xs w hH hgl (by omega)).mono ?_
    rintro e w' ⟨rfl, n, os, rfl⟩
    refine ⟨rfl, ownsRow_sortedI hs hg hh hnc hcap hcs, ?_⟩
    exact (Below.refl base w).grown (grownBy_sortedI _) hB (fun k hk => by cases hk; exact hg)

theorem compact_own (base : Nat) (w : World) (v : Value) (xs : List Int) (hown : w.ownsRow base 3 1 v xs.length (xs.map (Value.int .i64))) (hl : xs.length ≤ 1000) :
    Calls Tryd.prog 39 #[v] w fun e w' => ∃ v', e = .returned v' ∧ SlI base w' v' (Lib.compact xs) ∧ Below base w w' := by
  rcases hown.2 with ⟨rfl, hn⟩ | ⟨g, cap, cur, rfl, hg, hh, hnc, hcap, hcs, htk⟩
  · have hx : xs = [] := List.length_eq_zero_iff.1 hn
    subst hx
    refine (Tryd.slices_Compact_int_empty none 0 w).mono ?_
    rintro e w' ⟨rfl, rfl⟩
    exact ⟨_, rfl, .inl ⟨rfl, _, _, rfl⟩, Below.refl _ _⟩
  · have hgl : g < w.heap.size := (Array.getElem?_eq_some_iff.1 hh).1
    have hc : ∀ j, j < xs.length → w.cell? ⟨g, 0 + j, none⟩ = some (.int .i64 (xs.getD j 0)) := by
      intro j hj
      have h1 : (cur.toList.take (xs.length * 1))[j]? = (xs.map (Value.int .i64))[j]? := by rw [htk]
      rw [Nat.mul_one, List.getElem?_take, if_pos hj] at h1
      simp only [World.cell?, hh, Option.isSome_none, Bool.false_eq_true, if_false, Nat.zero_add]
      rw [← Array.getElem?_toList, h1]
      simp [List.getElem?_eq_getElem hj, List.getD_eq_getElem?_getD]
    have hf : ∀ j, j < xs.length → w.frozen? ⟨g, 0 + j, none⟩ = false := by
      intro j hj
      simp [World.frozen?, hh]
    refine (Tryd.slices_Compact_int_cells g 0 xs.length cap xs w (Nat.le_refl _) (by omega) hnc hc hf).mono ?_
    rintro e w' ⟨rfl, q, rfl⟩
    rw [List.take_length]
    refine ⟨_, rfl, ?_, below_setCells hg _ _ _ (below_drewN (Below.refl _ _) q)⟩
    by_cases hx : Lib.compact xs = []
    · exact .inl ⟨hx, _, _, by rw [hx]; rfl⟩
    · have hcl : (Lib.compact xs).length ≤ xs.length := compact_length_le xs
      refine .inr ⟨hx, g, cap, rfl, hg, ?_, ?_⟩
      · have := (below_setCells (a := w.drewN q) hg ((Lib.compact xs ++ List.replicate (xs.length - (Lib.compact xs).length) 0).map (Value.int .i64)) 0 (w.drewN q) (Below.refl _ _)).size
        exact Nat.lt_of_lt_of_le hgl this
      · intro j hj
        have hin := World.cell?_setCells_in g ((Lib.compact xs ++ List.replicate (xs.length - (Lib.compact xs).length) 0).map (Value.int .i64)) 0 (w.drewN q)
          (fun i hi => by
            have := hc i (by simp at hi; omega)
            show (w.cell? _).isSome = true
            rw [this]; rfl) j (by simp; omega)
        rw [Nat.zero_add] at hin
        rw [hin]
        simp only [List.map_append, List.getD_eq_getElem?_getD, List.getElem?_eq_getElem hj, Option.getD_some]
        rw [List.getElem_append_left (by simpa using hj)]
        simp

end Go.Proofs.YtlmipchjmgnlfaaDoor
