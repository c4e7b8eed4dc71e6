/- Encodings and their instructions: plain arithmetic. -/
import Derived.Test.YtpachmkklppmjaaDoorIsaC
set_option linter.unusedVariables false
set_option linter.unusedSimpArgs false
namespace Go.Proofs.YtpachmkklppmjaaDoor
open Go.RowKit

/-- The immediate operands of every format fit into 18 bits. -/
theorem imm_bd : ∀ (n : Nat), n < 30 → -131072 ≤ flo n ∧ fhi n ≤ 131071 := by
  intro n hn
  have h : ∀ k : Fin 30, -131072 ≤ flo k ∧ fhi k ≤ 131071 := by decide
  exact h ⟨n, hn⟩

/-- The bounds of a valid instruction. -/
theorem vld_bd {n : Nat} {a b c i : Int} (h : vld n a b c i = true) : n < 30 ∧ 0 ≤ a ∧ a ≤ 15 ∧ 0 ≤ b ∧ b ≤ 15 ∧ 0 ≤ c ∧ c ≤ 15 ∧ -131072 ≤ i ∧ i ≤ 131071 := by
  obtain ⟨hn, ha, hb, hc, hi⟩ := vld_parts h
  have hm := imm_bd n hn
  refine ⟨hn, ha.1, ?_, hb.1, ?_, hc.1, ?_, ?_, ?_⟩
  · have := ha.2; split at this <;> omega
  · have := hb.2; split at this <;> omega
  · have := hc.2; split at this <;> omega
  · have := hi.1; split at this <;> omega
  · have := hi.2; split at this <;> omega

theorem encW_bd {n : Nat} {a b c i : Int} (h : vld n a b c i = true) : 0 ≤ encW n a b c i ∧ encW n a b c i < 4294967296 := by
  have := vld_bd h
  unfold encW
  omega

/-- The formats: an instruction with an immediate operand has no C; one with B has A; one with C has B. -/
theorem fmt_kinds : ∀ (n : Nat), n < 30 → (uC n = true → uB n = true) ∧ (uB n = true → uA n = true) ∧ (uI n = true → uC n = false) := by
  intro n hn
  have h : ∀ k : Fin 30, (uC k = true → uB k = true) ∧ (uB k = true → uA k = true) ∧ (uI k = true → uC k = false) := by decide
  exact h ⟨n, hn⟩

/-- Decoding an encoding gives the operands back. -/
theorem dec_enc {n : Nat} {a b c i : Int} (h : vld n a b c i = true) :
    dN (encW n a b c i) = n ∧ dA (encW n a b c i) = a ∧ dB (encW n a b c i) = b ∧ dC (encW n a b c i) = c ∧ dI (encW n a b c i) = i := by
  have hb := vld_bd h
  obtain ⟨hn, pa, pb, pc, pi⟩ := vld_parts h
  obtain ⟨k1, k2, k3⟩ := fmt_kinds n hn
  have hci : c = 0 ∨ i = 0 := by
    cases u : uI n
    · simp [u] at pi; omega
    · have uc := k3 u; simp [uc] at pc; omega
  have e : dN (encW n a b c i) = n := by unfold dN encW; omega
  refine ⟨e, ?_, ?_, ?_, ?_⟩
  · unfold dA; rw [e]
    cases u : uA n
    · simp [u] at pa ⊢; omega
    · simp only [if_true]; unfold wA encW; omega
  · unfold dB; rw [e]
    cases u : uB n
    · simp [u] at pb ⊢; omega
    · simp only [if_true]; unfold wB encW; omega
  · unfold dC; rw [e]
    cases u : uC n
    · simp [u] at pc ⊢; omega
    · simp only [if_true]
      have ui : uI n = false := by
        cases ui : uI n
        · rfl
        · have := k3 ui; simp [u] at this
      simp [ui] at pi
      unfold wC encW; omega
  · unfold dI; rw [e]
    cases u : uI n
    · simp [u] at pi ⊢; omega
    · have uc := k3 u
      simp [uc] at pc
      simp only [if_true]; unfold wI encW
      split <;> omega

theorem decV_enc {n : Nat} {a b c i : Int} (h : vld n a b c i = true) : decV (encW n a b c i) = .tuple #[.agg #[.int .u8 n, .int .i64 a, .int .i64 b, .int .i64 c, .int .i64 i], .int .i64 0] := by
  obtain ⟨e0, e1, e2, e3, e4⟩ := dec_enc h
  unfold decV
  rw [e0, e1, e2, e3, e4]
  unfold decR
  rw [if_pos ⟨h, rfl⟩]

/-- Different valid instructions have different encodings. -/
theorem enc_inj {n : Nat} {a b c i : Int} {n' : Nat} {a' b' c' i' : Int} (h : vld n a b c i = true) (h' : vld n' a' b' c' i' = true) (e : encW n a b c i = encW n' a' b' c' i') : n = n' ∧ a = a' ∧ b = b' ∧ c = c' ∧ i = i' := by
  obtain ⟨e0, e1, e2, e3, e4⟩ := dec_enc h
  obtain ⟨f0, f1, f2, f3, f4⟩ := dec_enc h'
  rw [e] at e0 e1 e2 e3 e4
  exact ⟨e0.symm.trans f0, e1.symm.trans f1, e2.symm.trans f2, e3.symm.trans f3, e4.symm.trans f4⟩

end Go.Proofs.YtpachmkklppmjaaDoor
