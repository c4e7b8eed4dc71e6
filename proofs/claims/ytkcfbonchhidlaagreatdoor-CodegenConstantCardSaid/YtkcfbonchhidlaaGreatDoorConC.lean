import Derived.Test.YtkcfbonchhidlaaGreatDoorMs36
set_option linter.unusedVariables false
set_option linter.unusedSimpArgs false
namespace Go.Proofs.YtkcfbonchhidlaaGreatDoor
open Go.RowKit

theorem rem_low (n : Int) : (Int.tmod n 16384 < 0 → Int.tmod n 16384 + 16384 = n % 16384) ∧ (¬ Int.tmod n 16384 < 0 → Int.tmod n 16384 = n % 16384) ∧ (-16384 < Int.tmod n 16384 ∧ Int.tmod n 16384 < 16384) := by
  rcases Int.le_total 0 n with h | h
  · rw [Int.tmod_eq_emod_of_nonneg h]; omega
  · have h2 : Int.tmod n 16384 = - Int.tmod (-n) 16384 := by rw [Int.neg_tmod, Int.neg_neg]
    rw [h2, Int.tmod_eq_emod_of_nonneg (show 0 ≤ -n by omega)]; omega
theorem quo_high (n : Int) : Int.tdiv (n - n % 16384) 16384 = n / 16384 := by
  have h : n - n % 16384 = 16384 * (n / 16384) := by omega
  rw [h, Int.mul_tdiv_cancel_left _ (by decide)]

set_option maxHeartbeats 1600000 in
set_option maxRecDepth 20000 in
theorem rconst_any (r n : Int) (w : World) (hn : -2147483648 ≤ n ∧ n ≤ 2147483647) :
    Calls Tryz.prog 6 #[.int .i64 r, .int .i32 n] w fun e w' => ∃ v, e = .returned v ∧ GsRd w' v (constG r n) ∧ Below w.heap.size w w' := by
  by_cases h1 : r < 1
  · have HE := Lib.hid (show constG r n = [] from if_pos (.inl h1))
    go_enter Tryz.func6, Tryz.ntmps6
    go_wp2_with fail
    go_ret
    exact ⟨_, rfl, by rw [HE.out]; exact GsRd.nil _, Below.refl _ _⟩
  · have h1I : ¬ r < 1 := h1
    by_cases h2 : 15 < r
    · have h2I : r > 15 := h2
      have HE := Lib.hid (show constG r n = [] from if_pos (.inr (by omega)))
      go_enter Tryz.func6, Tryz.ntmps6
      go_wp2_with fail
      go_ret
      exact ⟨_, rfl, by rw [HE.out]; exact GsRd.nil _, Below.refl _ _⟩
    · have h2I : ¬ r > 15 := h2
      by_cases h34 : -131072 ≤ n ∧ n ≤ 131071
      · have h3 : n ≥ -131072 := h34.1
        have h4 : n ≤ 131071 := h34.2
        have HE := Lib.hid (show constG r n = [⟨14, r, 0, 0, n⟩] by unfold constG; rw [if_neg (by omega), if_pos (by omega)])
        have hw1 : IntKind.i64.wrap n = n := IntWalk.i64_in _ ⟨by omega, by omega⟩
        clear h34
        go_enter Tryz.func6, Tryz.ntmps6
        go_wp2_with fail
        go_ret
        exact ⟨_, rfl, by rw [HE.out]; exact GsRd.made w _ _ _ 1 (by simp [codeV, giV, hw1]) rfl, bAlloc (Nat.le_refl _) (Below.refl _ _)⟩
      · have HE := Lib.hid (show constG r n = [⟨14, r, 0, 0, n / 16384⟩, ⟨16, r, r, 0, 14⟩, ⟨17, r, r, 0, n % 16384⟩] by unfold constG; rw [if_neg (by omega), if_neg (by omega)])
        obtain ⟨e1, e2, e3, e4⟩ := rem_low n
        have e5 := quo_high n
        have hw1 : IntKind.i64.wrap n = n := IntWalk.i64_in _ ⟨by omega, by omega⟩
        obtain ⟨m, hm⟩ : ∃ m, Int.tmod n 16384 = m := ⟨_, rfl⟩
        rw [hm] at e1 e2 e3 e4
        have hwm : IntKind.i64.wrap m = m := IntWalk.i64_in _ ⟨by omega, by omega⟩
        have hwl : IntKind.i64.wrap (n - n % 16384) = n - n % 16384 := IntWalk.i64_in _ ⟨by omega, by omega⟩
        have hwh : IntKind.i64.wrap (n / 16384) = n / 16384 := IntWalk.i64_in _ ⟨by omega, by omega⟩
        have hww : IntKind.i64.wrap (n % 16384) = n % 16384 := IntWalk.i64_in _ ⟨by omega, by omega⟩
        by_cases hm0 : m < 0
        · have e1 := e1 hm0
          have hwa : IntKind.i64.wrap (m + 16384) = m + 16384 := IntWalk.i64_in _ ⟨by omega, by omega⟩
          clear e2 e3 e4
          by_cases h3 : n ≥ -131072
          · have h4 : ¬ n ≤ 131071 := fun h => h34 ⟨h3, h⟩
            clear h34 h1 h2
            go_enter Tryz.func6, Tryz.ntmps6
            go_wp2_with fail
            go_ret
            exact ⟨_, rfl, by rw [HE.out]; exact GsRd.made w _ _ _ 3 (by simp [codeV, giV]) rfl, bAlloc (Nat.le_refl _) (Below.refl _ _)⟩
          · clear h34 h1 h2
            go_enter Tryz.func6, Tryz.ntmps6
            go_wp2_with fail
            go_ret
            exact ⟨_, rfl, by rw [HE.out]; exact GsRd.made w _ _ _ 3 (by simp [codeV, giV]) rfl, bAlloc (Nat.le_refl _) (Below.refl _ _)⟩
        · have e2 := e2 hm0
          clear e1 e3 e4
          by_cases h3 : n ≥ -131072
          · have h4 : ¬ n ≤ 131071 := fun h => h34 ⟨h3, h⟩
            clear h34 h1 h2
            go_enter Tryz.func6, Tryz.ntmps6
            go_wp2_with fail
            go_ret
            exact ⟨_, rfl, by rw [HE.out]; exact GsRd.made w _ _ _ 3 (by simp [codeV, giV]) rfl, bAlloc (Nat.le_refl _) (Below.refl _ _)⟩
          · clear h34 h1 h2
            go_enter Tryz.func6, Tryz.ntmps6
            go_wp2_with fail
            go_ret
            exact ⟨_, rfl, by rw [HE.out]; exact GsRd.made w _ _ _ 3 (by simp [codeV, giV]) rfl, bAlloc (Nat.le_refl _) (Below.refl _ _)⟩
end Go.Proofs.YtkcfbonchhidlaaGreatDoor
