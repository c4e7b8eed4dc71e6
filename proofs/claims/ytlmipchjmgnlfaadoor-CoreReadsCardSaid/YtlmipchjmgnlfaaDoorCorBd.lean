/- A run splits at a fuel: what CoreFuel says, in plain words. -/
import Derived.Test.YtlmipchjmgnlfaaDoorCorT
set_option linter.unusedVariables false
set_option linter.unusedSimpArgs false
namespace Go.Proofs.YtlmipchjmgnlfaaDoor
open Go.RowKit

theorem ariE_13 (n : Nat) (y : Int) : ariE n y ≠ 13 := by
  unfold ariE
  split <;> decide
set_option maxHeartbeats 2000000 in
theorem stepI_err13 {lk : Int} {n a b c : Nat} {i : Int} {s : St} {mem : List Int} {inp er : Int} : stepI lk n a b c i s mem inp = .error er → er ≠ 13 := by
  unfold stepI
  simp only
  repeat' (with_reducible refine ite_err (fun _ => ?_) (fun _ => ?_))
  all_goals intro h
  all_goals first
    | (with_reducible exact (ok_err h).elim)
    | (have h2 := err_inj h; rw [← h2]; exact ariE_13 _ _)
    | (have := err_inj h; omega)
theorem stepP_err13 {im : Im} {t : Int} {s : St} {mem : List Int} {inp : Int → Int} {er : Int} (h : stepP im t s mem inp = .error er) : er ≠ 13 := by
  unfold stepP at h
  split at h
  · cases h; decide
  · simp only at h
    split at h
    · cases h; decide
    · split at h
      · cases h; decide
      · split at h
        · rename_i e hs
          cases h
          exact stepI_err13 hs
        · cases h
section
variable {σ : Type} {im : Im} {t : Int} {inp : σ → Int → Int} {nxt : σ → Int → σ}
theorem cstep_err13 {c : Cf σ} {er : Int} (h : cstep im t inp nxt c = .error er) : er ≠ 13 := by
  unfold cstep at h
  split at h
  · rename_i e hs
    cases h
    exact stepP_err13 hs
  · cases h

/-- A run that does not end for want of fuel is the same with more. -/
theorem runP_more : ∀ (k : Nat) (c : Cf σ) (fuel : Nat), k ≤ fuel → (runP im t inp nxt k c).2.2 ≠ 13 → runP im t inp nxt fuel c = runP im t inp nxt k c
  | 0, c, fuel, _, h => by
    cases hh : c.s.halted
    · rw [runP_fuel hh] at h
      exact absurd rfl h
    · rw [runP_halted hh, runP_halted hh]
  | k + 1, c, fuel, hk, h => by
    cases hh : c.s.halted
    · obtain ⟨f, rfl⟩ : ∃ f, fuel = f + 1 := ⟨fuel - 1, by omega⟩
      cases hs : cstep im t inp nxt c with
      | error er => rw [runP_err hh hs, runP_err hh hs]
      | ok c' =>
        rw [runP_ok hh hs] at h
        rw [runP_ok hh hs, runP_ok hh hs, runP_more k c' f (by omega) h]
    · rw [runP_halted hh, runP_halted hh]
/-- One that ends for want of fuel goes on with the rest. -/
theorem runP_split : ∀ (k : Nat) (c : Cf σ) (fuel : Nat), k ≤ fuel → (runP im t inp nxt k c).2.2 = 13 →
    runP im t inp nxt fuel c = ((runP im t inp nxt (fuel - k) (runP im t inp nxt k c).1).1, (runP im t inp nxt k c).2.1 + (runP im t inp nxt (fuel - k) (runP im t inp nxt k c).1).2.1, (runP im t inp nxt (fuel - k) (runP im t inp nxt k c).1).2.2)
  | 0, c, fuel, _, h => by
    cases hh : c.s.halted
    · rw [runP_fuel hh]
      simp
    · rw [runP_halted hh] at h
      cases h
  | k + 1, c, fuel, hk, h => by
    cases hh : c.s.halted
    · obtain ⟨f, rfl⟩ : ∃ f, fuel = f + 1 := ⟨fuel - 1, by omega⟩
      cases hs : cstep im t inp nxt c with
      | error er =>
        rw [runP_err hh hs] at h
        exact absurd h (cstep_err13 hs)
      | ok c' =>
        rw [runP_ok hh hs] at h
        have ih := runP_split k c' f (by omega) h
        rw [runP_ok hh hs, runP_ok hh hs, ih]
        simp only [show f + 1 - (k + 1) = f - k by omega]
        simp only [Prod.mk.injEq, true_and, and_true]
        omega
    · rw [runP_halted hh] at h
      cases h

/-- The outputs so far stand ahead of the others. -/
theorem cstep_out (c : Cf σ) (pre : List (Int × Int)) : cstep im t inp nxt { c with out := pre ++ c.out } = match cstep im t inp nxt c with
    | .error er => .error er
    | .ok c' => .ok { c' with out := pre ++ c'.out } := by
  unfold cstep
  simp only
  cases stepP im t c.s c.mem (inp c.p) with
  | error er => rfl
  | ok x =>
    obtain ⟨f, s', m'⟩ := x
    simp only
    by_cases h27 : f.n = 27 <;> simp [h27]
theorem runP_out (pre : List (Int × Int)) : ∀ (fuel : Nat) (c : Cf σ), runP im t inp nxt fuel { c with out := pre ++ c.out } =
    ({ (runP im t inp nxt fuel c).1 with out := pre ++ (runP im t inp nxt fuel c).1.out }, (runP im t inp nxt fuel c).2.1, (runP im t inp nxt fuel c).2.2)
  | 0, c => by
    cases hh : c.s.halted
    · rw [runP_fuel hh, runP_fuel (c := { c with out := pre ++ c.out }) hh]
    · rw [runP_halted hh, runP_halted (c := { c with out := pre ++ c.out }) hh]
  | k + 1, c => by
    cases hh : c.s.halted
    · have h1 := cstep_out (im := im) (t := t) (inp := inp) (nxt := nxt) c pre
      cases hs : cstep im t inp nxt c with
      | error er =>
        rw [hs] at h1
        rw [runP_err hh hs, runP_err (c := { c with out := pre ++ c.out }) hh h1]
      | ok c' =>
        rw [hs] at h1
        rw [runP_ok hh hs, runP_ok (c := { c with out := pre ++ c.out }) hh h1, runP_out pre k c']
    · rw [runP_halted hh, runP_halted (c := { c with out := pre ++ c.out }) hh]
/-- A run's configuration with its outputs put away. -/
def Cf.fresh (c : Cf σ) : Cf σ := { c with out := [] }
theorem runP_fresh (fuel : Nat) (c : Cf σ) : runP im t inp nxt fuel c =
    ({ (runP im t inp nxt fuel c.fresh).1 with out := c.out ++ (runP im t inp nxt fuel c.fresh).1.out }, (runP im t inp nxt fuel c.fresh).2.1, (runP im t inp nxt fuel c.fresh).2.2) := by
  have h := runP_out (im := im) (t := t) (inp := inp) (nxt := nxt) c.out fuel c.fresh
  have e : { c.fresh with out := c.out ++ c.fresh.out } = c := by cases c; simp [Cf.fresh]
  rw [e] at h
  exact h
end

end Go.Proofs.YtlmipchjmgnlfaaDoor
