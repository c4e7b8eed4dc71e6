import Derived.Test.YtdfofelchjpioaaDoorIsaJ
set_option linter.unusedVariables false
set_option linter.unusedSimpArgs false
namespace Go.Proofs.YtdfofelchjpioaaDoor
open Go.RowKit

def dOk (x : Int) : Prop := vld (dN x) (dA x) (dB x) (dC x) (dI x) = true ∧ encW (dN x) (dA x) (dB x) (dC x) (dI x) = x

theorem dec_any_A (x : Int) (hx0 : 0 ≤ x) (hx1 : x < 4294967296) :
    (vld (dN x) (wA x) (dB x) (dC x) (dI x) = true ∧ encW (dN x) (wA x) (dB x) (dC x) (dI x) = x) ↔ dOk x := by
  unfold dOk
  cases hu : uA (dN x)
  · have hd : dA x = 0 := by simp [dA, hu]
    constructor
    · intro h
      have hp := vld_parts h.1
      simp [hu] at hp
      have e : wA x = 0 := by omega
      rw [e] at h
      rw [hd]
      exact h
    · intro h
      have e : wA x = 0 := by
        have hp := vld_parts h.1
        have hk := fmt_kinds (dN x) hp.1
        have hub : uB (dN x) = false := by
          cases hb : uB (dN x)
          · rfl
          · have := hk.2.1 hb; simp [hu] at this
        have huc : uC (dN x) = false := by
          cases hc : uC (dN x)
          · rfl
          · have := hk.1 hc; simp [hub] at this
        have h2 := h.2
        have eb : dB x = 0 := by simp [dB, hub]
        have ec : dC x = 0 := by simp [dC, huc]
        rw [hd, eb, ec] at h2
        unfold encW at h2
        unfold wA
        omega
      rw [e]
      rw [hd] at h
      exact h
  · have hd : dA x = wA x := by simp [dA, hu]
    rw [hd]

def rdecV (x : Int) : Value := rdecR x (dN x) (wA x) (dB x) (dC x) (dI x)
theorem rdecV_ok {x : Int} (hx0 : 0 ≤ x) (hx1 : x < 4294967296) (h : dOk x) : rdecV x = .tuple #[.agg #[.int .u8 (dN x), .int .i64 (dA x), .int .i64 (dB x), .int .i64 (dC x), .int .i64 (dI x)], .bool true] := by
  have h' := (dec_any_A x hx0 hx1).2 h
  have e : wA x = dA x := by
    cases hu : uA (dN x)
    · have hp := vld_parts h'.1
      simp [hu] at hp
      simp [dA, hu]
      omega
    · simp [dA, hu]
  unfold rdecV rdecR
  rw [if_pos h', e]
theorem rdecV_no {x : Int} (hx0 : 0 ≤ x) (hx1 : x < 4294967296) (h : ¬ dOk x) : rdecV x = .tuple #[.agg #[.int .u8 0, .int .i64 0, .int .i64 0, .int .i64 0, .int .i64 0], .bool false] := by
  unfold rdecV rdecR
  rw [if_neg (fun h' => h ((dec_any_A x hx0 hx1).1 h'))]
theorem rdecode_any (x : Int) (w : World) (hx0 : 0 ≤ x) (hx1 : x < 4294967296) :
    Calls Tryd.prog 19 #[.int .u32 x] w fun e w' => e = .returned (rdecV x) ∧ Below w.heap.size w w' := by
  by_cases hop : 30 ≤ x / 67108864
  · have e : rdecV x = .tuple #[.agg #[.int .u8 0, .int .i64 0, .int .i64 0, .int .i64 0, .int .i64 0], .bool false] := by
      unfold rdecV rdecR
      rw [if_neg]
      intro ⟨h, _⟩
      have := (vld_parts h).1
      unfold dN at this
      omega
    rw [e]
    exact rdecode_big x w hx0 hx1 hop
  · have hn : dN x < 30 := by unfold dN; omega
    have hop' : x / 67108864 = (dN x : Nat) := by unfold dN; omega
    have hl := lohi (dN x) hn
    unfold rdecV
    rcases shape (dN x) hn with ⟨h, h1, h2, h3, h4⟩ | ⟨h, h1, h2, h3, h4⟩ | ⟨h, h1, h2, h3, h4⟩ | ⟨h, h1, h2, h3, h4⟩ | ⟨h, h1, h2, h3, h4⟩
    all_goals simp only [dB, dC, dI, h1, h2, h3, h4, if_true, if_false, Bool.false_eq_true]
    · exact rdecode_none x _ _ rfl (wA_bd x) (by simp [rlo, h4]) (by simp [rhi, h4]) w hx0 hx1 hop' hn (by simp only [rfS, h1, h2, h3, if_true, if_false, Bool.false_eq_true])
    · exact rdecode_abc x _ _ _ _ rfl (wA_bd x) rfl (wB_bd x) rfl (wC_bd x) (by simp [rlo, h4]) (by simp [rhi, h4]) w hx0 hx1 hop' hn (by simp only [rfS, h1, h2, h3, if_true, if_false, Bool.false_eq_true])
    · by_cases hi : 131072 ≤ x % 262144
      · simp only [wI, hi, if_true]
        exact rdecode_ai1 x _ _ _ rfl (wA_bd x) rfl (by omega) (by omega) _ _ (by simp [rlo, h4]) (by simp [rhi, h4]) hl w hx0 hx1 hop' hn (by simp only [rfS, h1, h2, h3, if_true, if_false, Bool.false_eq_true])
      · simp only [wI, hi, if_false]
        exact rdecode_ai0 x _ _ _ rfl (wA_bd x) rfl (by omega) _ _ (by simp [rlo, h4]) (by simp [rhi, h4]) hl w hx0 hx1 hop' hn (by simp only [rfS, h1, h2, h3, if_true, if_false, Bool.false_eq_true])
    · by_cases hi : 131072 ≤ x % 262144
      · simp only [wI, hi, if_true]
        exact rdecode_abi1 x _ _ _ _ rfl (wA_bd x) rfl (wB_bd x) rfl (by omega) (by omega) _ _ (by simp [rlo, h4]) (by simp [rhi, h4]) hl w hx0 hx1 hop' hn (by simp only [rfS, h1, h2, h3, if_true, if_false, Bool.false_eq_true])
      · simp only [wI, hi, if_false]
        exact rdecode_abi0 x _ _ _ _ rfl (wA_bd x) rfl (wB_bd x) rfl (by omega) _ _ (by simp [rlo, h4]) (by simp [rhi, h4]) hl w hx0 hx1 hop' hn (by simp only [rfS, h1, h2, h3, if_true, if_false, Bool.false_eq_true])
    · by_cases hi : 131072 ≤ x % 262144
      · simp only [wI, hi, if_true]
        exact rdecode_i1 x _ _ _ rfl (wA_bd x) rfl (by omega) (by omega) _ _ (by simp [rlo, h4]) (by simp [rhi, h4]) hl w hx0 hx1 hop' hn (by simp only [rfS, h1, h2, h3, if_true, if_false, Bool.false_eq_true])
      · simp only [wI, hi, if_false]
        exact rdecode_i0 x _ _ _ rfl (wA_bd x) rfl (by omega) _ _ (by simp [rlo, h4]) (by simp [rhi, h4]) hl w hx0 hx1 hop' hn (by simp only [rfS, h1, h2, h3, if_true, if_false, Bool.false_eq_true])

end Go.Proofs.YtdfofelchjpioaaDoor
