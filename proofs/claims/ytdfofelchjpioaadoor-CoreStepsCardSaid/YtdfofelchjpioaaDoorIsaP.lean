import Derived.Test.YtdfofelchjpioaaDoorIsaC
set_option linter.unusedVariables false
set_option linter.unusedSimpArgs false
namespace Go.Proofs.YtdfofelchjpioaaDoor
open Go.RowKit

theorem imm_bd : ∀ (n : Nat), n < 30 → -131072 ≤ flo n ∧ fhi n ≤ 131071 := by
  intro n hn
  have h : ∀ k : Fin 30, -131072 ≤ flo k ∧ fhi k ≤ 131071 := by decide
  exact h ⟨n, hn⟩

theorem vld_bd {n : Nat} {a b c i : Int} (h : vld n a b c i = true) : n < 30 ∧ 0 ≤ a ∧ a ≤ 15 ∧ 0 ≤ b ∧ b ≤ 15 ∧ 0 ≤ c ∧ c ≤ 15 ∧ -131072 ≤ i ∧ i ≤ 131071 := by
  obtain ⟨hn, ha, hb, hc, hi⟩ := vld_parts h
  have hm := imm_bd n hn
  refine ⟨hn, ha.1, ?_, hb.1, ?_, hc.1, ?_, ?_, ?_⟩
  · have := ha.2; split at this <;> omega
  · have := hb.2; split at this <;> omega
  · have := hc.2; split at this <;> omega
  · have := hi.1; split at this <;> omega
  · have := hi.2; split at this <;> omega

theorem fmt_kinds : ∀ (n : Nat), n < 30 → (uC n = true → uB n = true) ∧ (uB n = true → uA n = true) ∧ (uI n = true → uC n = false) := by
  intro n hn
  have h : ∀ k : Fin 30, (uC k = true → uB k = true) ∧ (uB k = true → uA k = true) ∧ (uI k = true → uC k = false) := by decide
  exact h ⟨n, hn⟩

end Go.Proofs.YtdfofelchjpioaaDoor
