import Derived.Test.YtkcfbonchhidlaaGreatDoorIsaC
set_option linter.unusedVariables false
set_option linter.unusedSimpArgs false
namespace Go.Proofs.YtkcfbonchhidlaaGreatDoor
open Go.RowKit

theorem imm_bd : ∀ (n : Nat), n < 30 → -131072 ≤ flo n ∧ fhi n ≤ 131071 := by
  intro n hn
  have h : ∀ k : Fin 30, -131072 ≤ flo k ∧ fhi k ≤ 131071 := by decide
  exact h ⟨n, hn⟩

theorem vld_bd {n : Nat} {a b c i : Int} (h : vld n a b c i = true) : n < 30 ∧ 0 ≤ a ∧ a ≤ 15 ∧ 0 ≤ b ∧ b ≤ 15 ∧ 0 ≤ c ∧ c ≤ 15 ∧ -131072 ≤ i ∧ i ≤ 131071 := by
  obtain ⟨hn, ha, hb, hc, hi⟩ := vld_parts h
  have hm := imm_bd n hn
  refine ⟨hn, ha.1, ?_, hb.1, ?_, hc.1, ?_, ?_, ?_⟩
  · have := ha.2; split at this <;> omega
  · have := hb.2; split at this <;> omega
  · have := hc.2; split at this <;> omega
  · have := hi.1; split at this <;> omega
  · have := hi.2; split at this <;> omega

theorem encW_bd {n : Nat} {a b c i : Int} (h : vld n a b c i = true) : 0 ≤ encW n a b c i ∧ encW n a b c i < 4294967296 := by
  have := vld_bd h
  unfold encW
  omega

theorem fmt_kinds : ∀ (n : Nat), n < 30 → (uC n = true → uB n = true) ∧ (uB n = true → uA n = true) ∧ (uI n = true → uC n = false) := by
  intro n hn
  have h : ∀ k : Fin 30, (uC k = true → uB k = true) ∧ (uB k = true → uA k = true) ∧ (uI k = true → uC k = false) := by decide
  exact h ⟨n, hn⟩

theorem dec_enc {n : Nat} {a b c i : Int} (h : vld n a b c i = true) :
    dN (encW n a b c i) = n ∧ dA (encW n a b c i) = a ∧ dB (encW n a b c i) = b ∧ dC (encW n a b c i) = c ∧ dI (encW n a b c i) = i := by
  have hb := vld_bd h
  obtain ⟨hn, pa, pb, pc, pi⟩ := vld_parts h
  obtain ⟨k1, k2, k3⟩ := fmt_kinds n hn
  have hci : c = 0 ∨ i = 0 := by
    cases u : uI n
    · simp [u] at pi; omega
    · have uc := k3 u; simp [uc] at pc; omega
  have e : dN (encW n a b c i) = n := by unfold dN encW; omega
  refine ⟨e, ?_, ?_, ?_, ?_⟩
  · unfold dA; rw [e]
    cases u : uA n
    · simp [u] at pa ⊢; omega
    · simp only [if_true]; unfold wA encW; omega
  · unfold dB; rw [e]
    cases u : uB n
    · simp [u] at pb ⊢; omega
    · simp only [if_true]; unfold wB encW; omega
  · unfold dC; rw [e]
    cases u : uC n
    · simp [u] at pc ⊢; omega
    · simp only [if_true]
      have ui : uI n = false := by
        cases ui : uI n
        · rfl
        · have := k3 ui; simp [u] at this
      simp [ui] at pi
      unfold wC encW; omega
  · unfold dI; rw [e]
    cases u : uI n
    · simp [u] at pi ⊢; omega
    · have uc := k3 u
      simp [uc] at pc
      simp only [if_true]; unfold wI encW
      split <;> omega

end Go.Proofs.YtkcfbonchhidlaaGreatDoor
