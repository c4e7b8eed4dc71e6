import Derived.Test.YtdfofelchjpioaaDoorIsaG
set_option linter.unusedVariables false
set_option linter.unusedSimpArgs false
namespace Go.Proofs.YtdfofelchjpioaaDoor
open Go.RowKit

theorem vldS_reg (ua ub uc ui : Bool) (lo hi a b c i : Int) : vldS ua ub uc ui lo hi a b c i = (regB a ua && regB b ub && regB c uc && decide ((if ui then lo else 0) ≤ i ∧ i ≤ if ui then hi else 0)) := by
  rw [Bool.eq_iff_iff]
  simp only [vldS, regB, Bool.and_eq_true, decide_eq_true_eq, and_assoc]

theorem refValid_big (n : Nat) (a b c i : Int) (w : World) (hn : 30 ≤ n) :
    Calls Tryd.prog 32 #[.agg #[.int .u8 n, .int .i64 a, .int .i64 b, .int .i64 c, .int .i64 i]] w fun e w' => e = .returned (.bool false) ∧ Below w.heap.size w w' := by
  go_enter Tryd.func32, Tryd.ntmps32
  go_wp2_with fail
  refine (format_big n _ hn).mono ?_
  rintro e w1 ⟨rfl, rfl⟩
  go_wp2_with fail
  go_ret
  exact ⟨rfl, (Below.refl _ _).alloc (Nat.le_refl _) _⟩

set_option maxHeartbeats 400000 in
theorem refValid_none (n : Nat) (a b c i : Int) (w : World) (hn : n < 30) (hs : rfS n = ⟨#[]⟩) (hlo : rlo n = 1) (hhi : rhi n = 0) :
    Calls Tryd.prog 32 #[.agg #[.int .u8 n, .int .i64 a, .int .i64 b, .int .i64 c, .int .i64 i]] w fun e w' => e = .returned (.bool (vldS false false false false 0 0 a b c i)) ∧ Below w.heap.size w w' := by
  have hva := vldS_reg false false false false 0 0 a b c i
  have H := Lib.hid hva
  clear hva
  go_enter Tryd.func32, Tryd.ntmps32
  go_wp2_with fail
  refine (format_any n _ hn).mono ?_
  rintro e w1 ⟨rfl, rfl⟩
  go_wp2_with (go_at_call 47; refine (reg_any _ _ _).mono ?_; rintro e w' ⟨rfl, rfl⟩)
  all_goals go_ret
  all_goals refine ⟨?_, (Below.refl _ _).alloc (Nat.le_refl _) _⟩
  all_goals rw [H.out]
  all_goals first | (simp [*]; done) | (simp [*]; omega) | (refine congrArg (fun z => Ending.returned (.bool z)) ?_; rw [Bool.eq_iff_iff]; simp_all <;> omega)

set_option maxHeartbeats 400000 in
theorem refValid_abc (n : Nat) (a b c i : Int) (w : World) (hn : n < 30) (hs : rfS n = ⟨#[65, 66, 67]⟩) (hlo : rlo n = 1) (hhi : rhi n = 0) :
    Calls Tryd.prog 32 #[.agg #[.int .u8 n, .int .i64 a, .int .i64 b, .int .i64 c, .int .i64 i]] w fun e w' => e = .returned (.bool (vldS true true true false 0 0 a b c i)) ∧ Below w.heap.size w w' := by
  have hva := vldS_reg true true true false 0 0 a b c i
  have H := Lib.hid hva
  clear hva
  go_enter Tryd.func32, Tryd.ntmps32
  go_wp2_with fail
  refine (format_any n _ hn).mono ?_
  rintro e w1 ⟨rfl, rfl⟩
  go_wp2_with (go_at_call 47; refine (reg_any _ _ _).mono ?_; rintro e w' ⟨rfl, rfl⟩)
  all_goals go_ret
  all_goals refine ⟨?_, (Below.refl _ _).alloc (Nat.le_refl _) _⟩
  all_goals rw [H.out]
  all_goals first | (simp [*]; done) | (simp [*]; omega) | (refine congrArg (fun z => Ending.returned (.bool z)) ?_; rw [Bool.eq_iff_iff]; simp_all <;> omega)

set_option maxHeartbeats 400000 in
theorem refValid_ai (n : Nat) (a b c i : Int) (w : World) (hn : n < 30) (hs : rfS n = ⟨#[65]⟩) (lo hi : Int) (hlo : rlo n = lo) (hhi : rhi n = hi) (hlh : lo ≤ hi) :
    Calls Tryd.prog 32 #[.agg #[.int .u8 n, .int .i64 a, .int .i64 b, .int .i64 c, .int .i64 i]] w fun e w' => e = .returned (.bool (vldS true false false true lo hi a b c i)) ∧ Below w.heap.size w w' := by
  have hva := vldS_reg true false false true lo hi a b c i
  have H := Lib.hid hva
  clear hva
  go_enter Tryd.func32, Tryd.ntmps32
  go_wp2_with fail
  refine (format_any n _ hn).mono ?_
  rintro e w1 ⟨rfl, rfl⟩
  go_wp2_with (go_at_call 47; refine (reg_any _ _ _).mono ?_; rintro e w' ⟨rfl, rfl⟩)
  all_goals go_ret
  all_goals refine ⟨?_, (Below.refl _ _).alloc (Nat.le_refl _) _⟩
  all_goals rw [H.out]
  all_goals first | (simp [*]; done) | (simp [*]; omega) | (refine congrArg (fun z => Ending.returned (.bool z)) ?_; rw [Bool.eq_iff_iff]; simp_all <;> omega)

set_option maxHeartbeats 400000 in
theorem refValid_abi (n : Nat) (a b c i : Int) (w : World) (hn : n < 30) (hs : rfS n = ⟨#[65, 66]⟩) (lo hi : Int) (hlo : rlo n = lo) (hhi : rhi n = hi) (hlh : lo ≤ hi) :
    Calls Tryd.prog 32 #[.agg #[.int .u8 n, .int .i64 a, .int .i64 b, .int .i64 c, .int .i64 i]] w fun e w' => e = .returned (.bool (vldS true true false true lo hi a b c i)) ∧ Below w.heap.size w w' := by
  have hva := vldS_reg true true false true lo hi a b c i
  have H := Lib.hid hva
  clear hva
  go_enter Tryd.func32, Tryd.ntmps32
  go_wp2_with fail
  refine (format_any n _ hn).mono ?_
  rintro e w1 ⟨rfl, rfl⟩
  go_wp2_with (go_at_call 47; refine (reg_any _ _ _).mono ?_; rintro e w' ⟨rfl, rfl⟩)
  all_goals go_ret
  all_goals refine ⟨?_, (Below.refl _ _).alloc (Nat.le_refl _) _⟩
  all_goals rw [H.out]
  all_goals first | (simp [*]; done) | (simp [*]; omega) | (refine congrArg (fun z => Ending.returned (.bool z)) ?_; rw [Bool.eq_iff_iff]; simp_all <;> omega)

set_option maxHeartbeats 400000 in
theorem refValid_i (n : Nat) (a b c i : Int) (w : World) (hn : n < 30) (hs : rfS n = ⟨#[]⟩) (lo hi : Int) (hlo : rlo n = lo) (hhi : rhi n = hi) (hlh : lo ≤ hi) :
    Calls Tryd.prog 32 #[.agg #[.int .u8 n, .int .i64 a, .int .i64 b, .int .i64 c, .int .i64 i]] w fun e w' => e = .returned (.bool (vldS false false false true lo hi a b c i)) ∧ Below w.heap.size w w' := by
  have hva := vldS_reg false false false true lo hi a b c i
  have H := Lib.hid hva
  clear hva
  go_enter Tryd.func32, Tryd.ntmps32
  go_wp2_with fail
  refine (format_any n _ hn).mono ?_
  rintro e w1 ⟨rfl, rfl⟩
  go_wp2_with (go_at_call 47; refine (reg_any _ _ _).mono ?_; rintro e w' ⟨rfl, rfl⟩)
  all_goals go_ret
  all_goals refine ⟨?_, (Below.refl _ _).alloc (Nat.le_refl _) _⟩
  all_goals rw [H.out]
  all_goals first | (simp [*]; done) | (simp [*]; omega) | (refine congrArg (fun z => Ending.returned (.bool z)) ?_; rw [Bool.eq_iff_iff]; simp_all <;> omega)

theorem lohi : ∀ (n : Nat), n < 30 → flo n ≤ fhi n := by
  intro n hn
  have h : ∀ k : Fin 30, flo k ≤ fhi k := by decide
  exact h ⟨n, hn⟩

theorem refValid_any (n : Nat) (a b c i : Int) (w : World) :
    Calls Tryd.prog 32 #[.agg #[.int .u8 n, .int .i64 a, .int .i64 b, .int .i64 c, .int .i64 i]] w fun e w' => e = .returned (.bool (vld n a b c i)) ∧ Below w.heap.size w w' := by
  by_cases hn : n < 30
  · have hl := lohi n hn
    rcases shape n hn with ⟨h, h1, h2, h3, h4⟩ | ⟨h, h1, h2, h3, h4⟩ | ⟨h, h1, h2, h3, h4⟩ | ⟨h, h1, h2, h3, h4⟩ | ⟨h, h1, h2, h3, h4⟩
    all_goals simp only [vld, hn, decide_true, Bool.true_and, h1, h2, h3, h4]
    · exact refValid_none n a b c i w hn (by simp [rfS, h1, h2, h3]) (by simp [rlo, h4]) (by simp [rhi, h4])
    · exact refValid_abc n a b c i w hn (by simp [rfS, h1, h2, h3]) (by simp [rlo, h4]) (by simp [rhi, h4])
    · exact refValid_ai n a b c i w hn (by simp [rfS, h1, h2, h3]) _ _ (by simp [rlo, h4]) (by simp [rhi, h4]) hl
    · exact refValid_abi n a b c i w hn (by simp [rfS, h1, h2, h3]) _ _ (by simp [rlo, h4]) (by simp [rhi, h4]) hl
    · exact refValid_i n a b c i w hn (by simp [rfS, h1, h2, h3]) _ _ (by simp [rlo, h4]) (by simp [rhi, h4]) hl
  · simp only [vld, hn, decide_false, Bool.false_and]
    exact refValid_big n a b c i w (by omega)

theorem ret_u32 {x y : Int} (h : x = y) : Ending.returned (.int .u32 x) = .returned (.int .u32 y) := by rw [h]

set_option maxHeartbeats 400000 in
theorem refEncode_any (n : Nat) (a b c i : Int) (w : World) (hv : vld n a b c i = true) :
    Calls Tryd.prog 33 #[.agg #[.int .u8 n, .int .i64 a, .int .i64 b, .int .i64 c, .int .i64 i]] w fun e w' => e = .returned (.int .u32 (encW n a b c i)) ∧ Below w.heap.size w w' := by
  obtain ⟨hn, b1, b2, b3, b4, b5, b6, b7, b8⟩ := vld_bd hv
  have hp := vld_parts hv
  have hl := lohi n hn
  cases hu : uI n
  · have hlo : rlo n = 1 := by simp [rlo, hu]
    have hhi : rhi n = 0 := by simp [rhi, hu]
    obtain rfl : i = 0 := by simp [hu] at hp; omega
    clear hp hl hu hv
    go_enter Tryd.func33, Tryd.ntmps33
    go_wp2_with fail
    refine (format_any n _ hn).mono ?_
    rintro e w1 ⟨rfl, rfl⟩
    go_wp2_with fail
    go_ret
    exact ⟨ret_u32 (by simp only [encW]; omega), (Below.refl _ _).alloc (Nat.le_refl _) _⟩
  · have hlo : rlo n = flo n := by simp [rlo, hu]
    have hhi : rhi n = fhi n := by simp [rhi, hu]
    have hc : c = 0 := by
      have := (fmt_kinds n hn).2.2 hu
      simp [this] at hp; omega
    generalize flo n = lo at *
    generalize fhi n = hi at *
    clear hp hu hv
    go_enter Tryd.func33, Tryd.ntmps33
    go_wp2_with fail
    refine (format_any n _ hn).mono ?_
    rintro e w1 ⟨rfl, rfl⟩
    go_wp2_with fail
    all_goals go_ret
    all_goals exact ⟨ret_u32 (by simp only [encW]; omega), (Below.refl _ _).alloc (Nat.le_refl _) _⟩

end Go.Proofs.YtdfofelchjpioaaDoor
