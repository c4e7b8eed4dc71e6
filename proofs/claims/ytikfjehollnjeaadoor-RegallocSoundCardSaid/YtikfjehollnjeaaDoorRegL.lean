/- The law RegallocProper. -/
import Derived.Test.YtikfjehollnjeaaDoorRegK
import Derived.Maps.OwnSet
set_option linter.unusedVariables false
set_option linter.unusedSimpArgs false
namespace Go.Proofs.YtikfjehollnjeaaDoor
open Go.RowKit Go.Maps Go.WideMaps

/-- The colors that the first j nodes have, of those that are adjacent to a. -/
def keysJ (A : Nat → Nat → Bool) (l : List Int) (a j : Nat) : List Lit := ((List.range j).filter (fun b => A a b && decide (0 ≤ l.getD b (-1)))).map (fun b => Lit.int .i64 (l.getD b (-1)))
def Sj {H : Type} (A : Nat → Nat → Bool) (l : List Int) (a j : Nat) : DataW H := setOf (.lit (.bool true)) (keysJ A l a j)
theorem Sj_zero {H : Type} (A : Nat → Nat → Bool) (l : List Int) (a : Nat) : Sj (H := H) A l a 0 = .map [] := by simp [Sj, keysJ, setOf]
theorem keysJ_next (A : Nat → Nat → Bool) (l : List Int) (a j : Nat) : keysJ A l a (j+1) = if A a j = true ∧ 0 ≤ l.getD j (-1) then keysJ A l a j ++ [.int .i64 (l.getD j (-1))] else keysJ A l a j := by
  unfold keysJ
  rw [List.range_succ, List.filter_append, List.map_append]
  by_cases h : A a j = true ∧ 0 ≤ l.getD j (-1)
  · rw [if_pos h, List.filter_cons_of_pos (by simpa using h)]; rfl
  · rw [if_neg h, List.filter_cons_of_neg (by simpa using h)]; simp
theorem Sj_put {H : Type} (A : Nat → Nat → Bool) (l : List Int) (a j : Nat) (h : A a j = true) (h0 : 0 ≤ l.getD j (-1)) : Sj (H := H) A l a (j+1) = (Sj A l a j).put (.int .i64 (l.getD j (-1))) (.lit (.bool true)) := by
  unfold Sj; rw [keysJ_next, if_pos ⟨h, h0⟩, setOf_snoc]
theorem Sj_same {H : Type} (A : Nat → Nat → Bool) (l : List Int) (a j : Nat) (h : ¬ (A a j = true ∧ 0 ≤ l.getD j (-1))) : Sj (H := H) A l a (j+1) = Sj A l a j := by
  unfold Sj; rw [keysJ_next, if_neg h]
theorem keysJ_key (A : Nat → Nat → Bool) (l : List Int) (a j : Nat) : ∀ x ∈ keysJ A l a j, WideAt.IsKeyLit x := by
  intro x hx
  unfold keysJ at hx
  obtain ⟨b, _, rfl⟩ := List.mem_map.1 hx
  trivial
theorem addKey_mem : ∀ (xs L : List Lit) (x : Lit), (x ∈ L ∨ x ∈ xs) → x ∈ xs.foldl addKey L
  | [], L, x, h => by simpa using h
  | y :: ys, L, x, h => by
    refine addKey_mem ys (addKey L y) x ?_
    unfold addKey
    rcases h with h | h
    · left; split
      · exact h
      · exact List.mem_append_left _ h
    · rcases List.mem_cons.1 h with rfl | h
      · left; split
        · rename_i h1
          obtain ⟨z, hz, hs⟩ := List.any_eq_true.1 h1
          have : z = x := Classical.byContradiction fun hne => by rw [sameKey_ne hne] at hs; cases hs
          exact this ▸ hz
        · simp
      · exact .inr h
theorem size_full {H : Type} (A : Nat → Nat → Bool) (l : List Int) (n a K : Nat) (h : ∀ c : Nat, (c : Int) < K → ∃ b, b < n ∧ A a b = true ∧ l.getD b (-1) = (c : Int)) : K ≤ Maps.size (Sj (H := H) A l a n) := by
  unfold Sj
  rw [size_setOf _ _ (keysJ_key A l a n)]
  haveI : DecidableEq Lit := fun _ _ => Classical.propDecidable _
  have h1 := len_le_of_sub ((List.range K).map (fun c : Nat => Lit.int .i64 (c : Int))) ((keysJ A l a n).foldl addKey []) ?_ ?_
  · simpa using h1
  · rw [List.Nodup, List.pairwise_map]
    exact List.nodup_range.imp fun h e => h (by injection e with _ e; omega)
  · intro x hx
    obtain ⟨c, hc, rfl⟩ := List.mem_map.1 hx
    obtain ⟨b, hb, hA, hv⟩ := h c (by have := List.mem_range.1 hc; omega)
    refine addKey_mem _ _ _ (.inr ?_)
    unfold keysJ
    exact List.mem_map.2 ⟨b, List.mem_filter.2 ⟨List.mem_range.2 hb, by rw [hA, hv]; simp⟩, by rw [hv]⟩
theorem lawI : Keyed Tryd.prog 3 := int_keyed Tryd.underlying3
theorem key_i (x : Int) (h : -9223372036854775808 ≤ x ∧ x ≤ 9223372036854775807) : keyOf Tryd.prog 3 (.int .i64 x) = some (.int .i64 x) := by
  refine keyOf_int_mk Tryd.underlying3 ?_
  simp [Lit.wf, IntKind.min, IntKind.max, IntKind.bits, IntKind.signed]; omega

end Go.Proofs.YtikfjehollnjeaaDoor
