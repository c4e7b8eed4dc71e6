/- word.Apply: for every operator and operands one value and one error number, whatever the world. -/
import Derived.Test.YtifjcknklecdbaaDoorMs00
import Derived.Test.YtifjcknklecdbaaDoorShelf
set_option linter.unusedVariables false
set_option linter.unusedSimpArgs false
namespace Go.Proofs.YtifjcknklecdbaaDoor
open Go.RowKit

theorem truth_w (b : Bool) (w : World) : Calls Tryd.prog 57 #[.bool b] w fun e w' => e = .returned (.int .i32 (if b then 1 else 0)) ∧ w = w' := by
  go_enter Tryd.func57, Tryd.ntmps57
  cases b
  · go_wp2
    go_ret
    exact ⟨rfl, rfl⟩
  · go_wp2
    go_ret
    exact ⟨rfl, rfl⟩

theorem wap6 (x y : Int) : ∃ v er : Int, ∀ w, Calls Tryd.prog 49 #[.int .u8 6, .int .i32 x, .int .i32 y] w fun e w' => e = .returned (.tuple #[.int .i32 v, .int .i64 er]) ∧ w = w' := by
  apply Exists.intro
  apply Exists.intro
  intro w
  go_enter Tryd.func49, Tryd.ntmps49
  go_wp2
  go_ret2
  exact ⟨rfl, rfl⟩

theorem wap7 (x y : Int) : ∃ v er : Int, ∀ w, Calls Tryd.prog 49 #[.int .u8 7, .int .i32 x, .int .i32 y] w fun e w' => e = .returned (.tuple #[.int .i32 v, .int .i64 er]) ∧ w = w' := by
  apply Exists.intro
  apply Exists.intro
  intro w
  go_enter Tryd.func49, Tryd.ntmps49
  go_wp2
  go_ret2
  exact ⟨rfl, rfl⟩

theorem wap8 (x y : Int) : ∃ v er : Int, ∀ w, Calls Tryd.prog 49 #[.int .u8 8, .int .i32 x, .int .i32 y] w fun e w' => e = .returned (.tuple #[.int .i32 v, .int .i64 er]) ∧ w = w' := by
  apply Exists.intro
  apply Exists.intro
  intro w
  go_enter Tryd.func49, Tryd.ntmps49
  go_wp2
  go_ret2
  exact ⟨rfl, rfl⟩

theorem wap11 (x y : Int) : ∃ v er : Int, ∀ w, Calls Tryd.prog 49 #[.int .u8 11, .int .i32 x, .int .i32 y] w fun e w' => e = .returned (.tuple #[.int .i32 v, .int .i64 er]) ∧ w = w' := by
  apply Exists.intro
  apply Exists.intro
  intro w
  go_enter Tryd.func49, Tryd.ntmps49
  go_wp2
  go_ret2
  exact ⟨rfl, rfl⟩

theorem wap12 (x y : Int) : ∃ v er : Int, ∀ w, Calls Tryd.prog 49 #[.int .u8 12, .int .i32 x, .int .i32 y] w fun e w' => e = .returned (.tuple #[.int .i32 v, .int .i64 er]) ∧ w = w' := by
  apply Exists.intro
  apply Exists.intro
  intro w
  go_enter Tryd.func49, Tryd.ntmps49
  go_wp2
  go_ret2
  exact ⟨rfl, rfl⟩

theorem wap13 (x y : Int) : ∃ v er : Int, ∀ w, Calls Tryd.prog 49 #[.int .u8 13, .int .i32 x, .int .i32 y] w fun e w' => e = .returned (.tuple #[.int .i32 v, .int .i64 er]) ∧ w = w' := by
  apply Exists.intro
  apply Exists.intro
  intro w
  go_enter Tryd.func49, Tryd.ntmps49
  go_wp2
  go_ret2
  exact ⟨rfl, rfl⟩

theorem wap14 (x y : Int) : ∃ v er : Int, ∀ w, Calls Tryd.prog 49 #[.int .u8 14, .int .i32 x, .int .i32 y] w fun e w' => e = .returned (.tuple #[.int .i32 v, .int .i64 er]) ∧ w = w' := by
  apply Exists.intro
  apply Exists.intro
  intro w
  go_enter Tryd.func49, Tryd.ntmps49
  go_wp2
  go_ret2
  exact ⟨rfl, rfl⟩

theorem wap15 (x y : Int) : ∃ v er : Int, ∀ w, Calls Tryd.prog 49 #[.int .u8 15, .int .i32 x, .int .i32 y] w fun e w' => e = .returned (.tuple #[.int .i32 v, .int .i64 er]) ∧ w = w' := by
  apply Exists.intro
  apply Exists.intro
  intro w
  go_enter Tryd.func49, Tryd.ntmps49
  go_wp2
  go_ret2
  exact ⟨rfl, rfl⟩

theorem wap9_z (x y : Int) (hz : y = 0) : ∃ v er : Int, ∀ w, Calls Tryd.prog 49 #[.int .u8 9, .int .i32 x, .int .i32 y] w fun e w' => e = .returned (.tuple #[.int .i32 v, .int .i64 er]) ∧ w = w' := by
  apply Exists.intro
  apply Exists.intro
  intro w
  go_enter Tryd.func49, Tryd.ntmps49
  subst hz
  go_wp2
  go_ret2
  exact ⟨rfl, rfl⟩

theorem wap9_n (x y : Int) (hz : (y == 0) = false) (hz' : y ≠ 0) : ∃ v er : Int, ∀ w, Calls Tryd.prog 49 #[.int .u8 9, .int .i32 x, .int .i32 y] w fun e w' => e = .returned (.tuple #[.int .i32 v, .int .i64 er]) ∧ w = w' := by
  apply Exists.intro
  apply Exists.intro
  intro w
  go_enter Tryd.func49, Tryd.ntmps49
  go_wp2
  go_ret2
  exact ⟨rfl, rfl⟩

theorem wap10_z (x y : Int) (hz : y = 0) : ∃ v er : Int, ∀ w, Calls Tryd.prog 49 #[.int .u8 10, .int .i32 x, .int .i32 y] w fun e w' => e = .returned (.tuple #[.int .i32 v, .int .i64 er]) ∧ w = w' := by
  apply Exists.intro
  apply Exists.intro
  intro w
  go_enter Tryd.func49, Tryd.ntmps49
  subst hz
  go_wp2
  go_ret2
  exact ⟨rfl, rfl⟩

theorem wap10_n (x y : Int) (hz : (y == 0) = false) (hz' : y ≠ 0) : ∃ v er : Int, ∀ w, Calls Tryd.prog 49 #[.int .u8 10, .int .i32 x, .int .i32 y] w fun e w' => e = .returned (.tuple #[.int .i32 v, .int .i64 er]) ∧ w = w' := by
  apply Exists.intro
  apply Exists.intro
  intro w
  go_enter Tryd.func49, Tryd.ntmps49
  go_wp2
  go_ret2
  exact ⟨rfl, rfl⟩

theorem wap16 (x y : Int) : ∃ v er : Int, ∀ w, Calls Tryd.prog 49 #[.int .u8 16, .int .i32 x, .int .i32 y] w fun e w' => e = .returned (.tuple #[.int .i32 v, .int .i64 er]) ∧ w = w' := by
  cases hb : (x == y)
  all_goals (
    apply Exists.intro
    apply Exists.intro
    intro w
    go_enter Tryd.func49, Tryd.ntmps49
    go_wp2
    go_ret2
    exact ⟨rfl, rfl⟩)

theorem wap17 (x y : Int) : ∃ v er : Int, ∀ w, Calls Tryd.prog 49 #[.int .u8 17, .int .i32 x, .int .i32 y] w fun e w' => e = .returned (.tuple #[.int .i32 v, .int .i64 er]) ∧ w = w' := by
  cases hb : (x != y)
  all_goals (
    apply Exists.intro
    apply Exists.intro
    intro w
    go_enter Tryd.func49, Tryd.ntmps49
    go_wp2
    go_ret2
    exact ⟨rfl, rfl⟩)

theorem wap18 (x y : Int) : ∃ v er : Int, ∀ w, Calls Tryd.prog 49 #[.int .u8 18, .int .i32 x, .int .i32 y] w fun e w' => e = .returned (.tuple #[.int .i32 v, .int .i64 er]) ∧ w = w' := by
  cases hb : decide (x < y)
  all_goals (
    apply Exists.intro
    apply Exists.intro
    intro w
    go_enter Tryd.func49, Tryd.ntmps49
    go_wp2
    go_ret2
    exact ⟨rfl, rfl⟩)

theorem wap19 (x y : Int) : ∃ v er : Int, ∀ w, Calls Tryd.prog 49 #[.int .u8 19, .int .i32 x, .int .i32 y] w fun e w' => e = .returned (.tuple #[.int .i32 v, .int .i64 er]) ∧ w = w' := by
  cases hb : decide (x ≤ y)
  all_goals (
    apply Exists.intro
    apply Exists.intro
    intro w
    go_enter Tryd.func49, Tryd.ntmps49
    go_wp2
    go_ret2
    exact ⟨rfl, rfl⟩)

theorem wap20 (x y : Int) : ∃ v er : Int, ∀ w, Calls Tryd.prog 49 #[.int .u8 20, .int .i32 x, .int .i32 y] w fun e w' => e = .returned (.tuple #[.int .i32 v, .int .i64 er]) ∧ w = w' := by
  cases hb : decide (x > y)
  all_goals (
    apply Exists.intro
    apply Exists.intro
    intro w
    go_enter Tryd.func49, Tryd.ntmps49
    go_wp2
    go_ret2
    exact ⟨rfl, rfl⟩)

theorem wap21 (x y : Int) : ∃ v er : Int, ∀ w, Calls Tryd.prog 49 #[.int .u8 21, .int .i32 x, .int .i32 y] w fun e w' => e = .returned (.tuple #[.int .i32 v, .int .i64 er]) ∧ w = w' := by
  cases hb : decide (x ≥ y)
  all_goals (
    apply Exists.intro
    apply Exists.intro
    intro w
    go_enter Tryd.func49, Tryd.ntmps49
    go_wp2
    go_ret2
    exact ⟨rfl, rfl⟩)

theorem wap22_z (x y : Int) (hz : x = 0) : ∃ v er : Int, ∀ w, Calls Tryd.prog 49 #[.int .u8 22, .int .i32 x, .int .i32 y] w fun e w' => e = .returned (.tuple #[.int .i32 v, .int .i64 er]) ∧ w = w' := by
  apply Exists.intro
  apply Exists.intro
  intro w
  go_enter Tryd.func49, Tryd.ntmps49
  subst hz
  go_wp2
  go_ret2
  exact ⟨rfl, rfl⟩

theorem wap22_n (x y : Int) (hz : (x != 0) = true) : ∃ v er : Int, ∀ w, Calls Tryd.prog 49 #[.int .u8 22, .int .i32 x, .int .i32 y] w fun e w' => e = .returned (.tuple #[.int .i32 v, .int .i64 er]) ∧ w = w' := by
  cases hb : (y != 0)
  all_goals (
    apply Exists.intro
    apply Exists.intro
    intro w
    go_enter Tryd.func49, Tryd.ntmps49
    go_wp2
    go_ret2
    exact ⟨rfl, rfl⟩)

theorem wap23_z (x y : Int) (hz : (x != 0) = false) : ∃ v er : Int, ∀ w, Calls Tryd.prog 49 #[.int .u8 23, .int .i32 x, .int .i32 y] w fun e w' => e = .returned (.tuple #[.int .i32 v, .int .i64 er]) ∧ w = w' := by
  cases hb : (y != 0)
  all_goals (
    apply Exists.intro
    apply Exists.intro
    intro w
    go_enter Tryd.func49, Tryd.ntmps49
    go_wp2
    go_ret2
    exact ⟨rfl, rfl⟩)

theorem wap23_n (x y : Int) (hz : (x != 0) = true) : ∃ v er : Int, ∀ w, Calls Tryd.prog 49 #[.int .u8 23, .int .i32 x, .int .i32 y] w fun e w' => e = .returned (.tuple #[.int .i32 v, .int .i64 er]) ∧ w = w' := by
  apply Exists.intro
  apply Exists.intro
  intro w
  go_enter Tryd.func49, Tryd.ntmps49
  go_wp2
  go_ret2
  exact ⟨rfl, rfl⟩

theorem wap_any (n x y : Int) (h6 : 6 ≤ n) (h23 : n ≤ 23) : ∃ v er : Int, ∀ w, Calls Tryd.prog 49 #[.int .u8 n, .int .i32 x, .int .i32 y] w fun e w' => e = .returned (.tuple #[.int .i32 v, .int .i64 er]) ∧ w = w' := by
  obtain ⟨k, rfl⟩ := Int.eq_ofNat_of_zero_le (show 0 ≤ n by omega)
  have hk : k = 6 ∨ k = 7 ∨ k = 8 ∨ k = 9 ∨ k = 10 ∨ k = 11 ∨ k = 12 ∨ k = 13 ∨ k = 14 ∨ k = 15 ∨ k = 16 ∨ k = 17 ∨ k = 18 ∨ k = 19 ∨ k = 20 ∨ k = 21 ∨ k = 22 ∨ k = 23 := by omega
  rcases hk with rfl | rfl | rfl | rfl | rfl | rfl | rfl | rfl | rfl | rfl | rfl | rfl | rfl | rfl | rfl | rfl | rfl | rfl
  · exact wap6 x y
  · exact wap7 x y
  · exact wap8 x y
  · by_cases hz : y = 0
    · exact wap9_z x y hz
    · exact wap9_n x y (by simpa using hz) hz
  · by_cases hz : y = 0
    · exact wap10_z x y hz
    · exact wap10_n x y (by simpa using hz) hz
  · exact wap11 x y
  · exact wap12 x y
  · exact wap13 x y
  · exact wap14 x y
  · exact wap15 x y
  · exact wap16 x y
  · exact wap17 x y
  · exact wap18 x y
  · exact wap19 x y
  · exact wap20 x y
  · exact wap21 x y
  · by_cases hz : x = 0
    · exact wap22_z x y hz
    · exact wap22_n x y (by simpa using hz)
  · by_cases hz : x = 0
    · exact wap23_z x y (by simpa using hz)
    · exact wap23_n x y (by simpa using hz)
/-- What an operator gives: the value, the error number. -/
noncomputable def apW (n x y : Int) : Int × Int := if h : 6 ≤ n ∧ n ≤ 23 then ((wap_any n x y h.1 h.2).choose, (wap_any n x y h.1 h.2).choose_spec.choose) else (0, 1)
theorem apW_any (n x y : Int) (h : 6 ≤ n ∧ n ≤ 23) (w : World) : Calls Tryd.prog 49 #[.int .u8 n, .int .i32 x, .int .i32 y] w fun e w' => e = .returned (.tuple #[.int .i32 (apW n x y).1, .int .i64 (apW n x y).2]) ∧ w = w' := by
  have e : apW n x y = ((wap_any n x y h.1 h.2).choose, (wap_any n x y h.1 h.2).choose_spec.choose) := dif_pos h
  rw [e]
  exact (wap_any n x y h.1 h.2).choose_spec.choose_spec w
end Go.Proofs.YtifjcknklecdbaaDoor
