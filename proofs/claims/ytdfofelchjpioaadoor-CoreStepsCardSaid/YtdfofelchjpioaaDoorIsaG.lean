import Derived.Test.YtdfofelchjpioaaDoorIsaP
set_option linter.unusedVariables false
set_option linter.unusedSimpArgs false
namespace Go.Proofs.YtdfofelchjpioaaDoor
open Go.RowKit

def rfS (n : Nat) : ByteArray := if uC n then ⟨#[65, 66, 67]⟩ else if uB n then ⟨#[65, 66]⟩ else if uA n then ⟨#[65]⟩ else ⟨#[]⟩
def rlo (n : Nat) : Int := if uI n then flo n else 1
def rhi (n : Nat) : Int := if uI n then fhi n else 0

theorem format_big (n : Nat) (w : World) (hn : 30 ≤ n) : Calls Tryd.prog 31 #[.int .u8 n] w fun e w' => e = .returned (.tuple #[.string ⟨#[]⟩, .int .i64 1, .int .i64 0, .bool false]) ∧ w = w' := by
  go_enter Tryd.func31, Tryd.ntmps31
  go_wp2
  exact bodyPost_ret (results_tmp4 Tryd.results31 _ _ _) rfl ⟨rfl, rfl⟩
theorem format_0 (w : World) : Calls Tryd.prog 31 #[.int .u8 0] w fun e w' => e = .returned (.tuple #[.string (rfS 0), .int .i64 (rlo 0), .int .i64 (rhi 0), .bool true]) ∧ w = w' := by
  go_enter Tryd.func31, Tryd.ntmps31
  go_wp2
  exact bodyPost_ret (results_tmp4 Tryd.results31 _ _ _) rfl ⟨rfl, rfl⟩
theorem format_1 (w : World) : Calls Tryd.prog 31 #[.int .u8 1] w fun e w' => e = .returned (.tuple #[.string (rfS 1), .int .i64 (rlo 1), .int .i64 (rhi 1), .bool true]) ∧ w = w' := by
  go_enter Tryd.func31, Tryd.ntmps31
  go_wp2
  exact bodyPost_ret (results_tmp4 Tryd.results31 _ _ _) rfl ⟨rfl, rfl⟩
theorem format_2 (w : World) : Calls Tryd.prog 31 #[.int .u8 2] w fun e w' => e = .returned (.tuple #[.string (rfS 2), .int .i64 (rlo 2), .int .i64 (rhi 2), .bool true]) ∧ w = w' := by
  go_enter Tryd.func31, Tryd.ntmps31
  go_wp2
  exact bodyPost_ret (results_tmp4 Tryd.results31 _ _ _) rfl ⟨rfl, rfl⟩
theorem format_3 (w : World) : Calls Tryd.prog 31 #[.int .u8 3] w fun e w' => e = .returned (.tuple #[.string (rfS 3), .int .i64 (rlo 3), .int .i64 (rhi 3), .bool true]) ∧ w = w' := by
  go_enter Tryd.func31, Tryd.ntmps31
  go_wp2
  exact bodyPost_ret (results_tmp4 Tryd.results31 _ _ _) rfl ⟨rfl, rfl⟩
theorem format_4 (w : World) : Calls Tryd.prog 31 #[.int .u8 4] w fun e w' => e = .returned (.tuple #[.string (rfS 4), .int .i64 (rlo 4), .int .i64 (rhi 4), .bool true]) ∧ w = w' := by
  go_enter Tryd.func31, Tryd.ntmps31
  go_wp2
  exact bodyPost_ret (results_tmp4 Tryd.results31 _ _ _) rfl ⟨rfl, rfl⟩
theorem format_5 (w : World) : Calls Tryd.prog 31 #[.int .u8 5] w fun e w' => e = .returned (.tuple #[.string (rfS 5), .int .i64 (rlo 5), .int .i64 (rhi 5), .bool true]) ∧ w = w' := by
  go_enter Tryd.func31, Tryd.ntmps31
  go_wp2
  exact bodyPost_ret (results_tmp4 Tryd.results31 _ _ _) rfl ⟨rfl, rfl⟩
theorem format_6 (w : World) : Calls Tryd.prog 31 #[.int .u8 6] w fun e w' => e = .returned (.tuple #[.string (rfS 6), .int .i64 (rlo 6), .int .i64 (rhi 6), .bool true]) ∧ w = w' := by
  go_enter Tryd.func31, Tryd.ntmps31
  go_wp2
  exact bodyPost_ret (results_tmp4 Tryd.results31 _ _ _) rfl ⟨rfl, rfl⟩
theorem format_7 (w : World) : Calls Tryd.prog 31 #[.int .u8 7] w fun e w' => e = .returned (.tuple #[.string (rfS 7), .int .i64 (rlo 7), .int .i64 (rhi 7), .bool true]) ∧ w = w' := by
  go_enter Tryd.func31, Tryd.ntmps31
  go_wp2
  exact bodyPost_ret (results_tmp4 Tryd.results31 _ _ _) rfl ⟨rfl, rfl⟩
theorem format_8 (w : World) : Calls Tryd.prog 31 #[.int .u8 8] w fun e w' => e = .returned (.tuple #[.string (rfS 8), .int .i64 (rlo 8), .int .i64 (rhi 8), .bool true]) ∧ w = w' := by
  go_enter Tryd.func31, Tryd.ntmps31
  go_wp2
  exact bodyPost_ret (results_tmp4 Tryd.results31 _ _ _) rfl ⟨rfl, rfl⟩
theorem format_9 (w : World) : Calls Tryd.prog 31 #[.int .u8 9] w fun e w' => e = .returned (.tuple #[.string (rfS 9), .int .i64 (rlo 9), .int .i64 (rhi 9), .bool true]) ∧ w = w' := by
  go_enter Tryd.func31, Tryd.ntmps31
  go_wp2
  exact bodyPost_ret (results_tmp4 Tryd.results31 _ _ _) rfl ⟨rfl, rfl⟩
theorem format_10 (w : World) : Calls Tryd.prog 31 #[.int .u8 10] w fun e w' => e = .returned (.tuple #[.string (rfS 10), .int .i64 (rlo 10), .int .i64 (rhi 10), .bool true]) ∧ w = w' := by
  go_enter Tryd.func31, Tryd.ntmps31
  go_wp2
  exact bodyPost_ret (results_tmp4 Tryd.results31 _ _ _) rfl ⟨rfl, rfl⟩
theorem format_11 (w : World) : Calls Tryd.prog 31 #[.int .u8 11] w fun e w' => e = .returned (.tuple #[.string (rfS 11), .int .i64 (rlo 11), .int .i64 (rhi 11), .bool true]) ∧ w = w' := by
  go_enter Tryd.func31, Tryd.ntmps31
  go_wp2
  exact bodyPost_ret (results_tmp4 Tryd.results31 _ _ _) rfl ⟨rfl, rfl⟩
theorem format_12 (w : World) : Calls Tryd.prog 31 #[.int .u8 12] w fun e w' => e = .returned (.tuple #[.string (rfS 12), .int .i64 (rlo 12), .int .i64 (rhi 12), .bool true]) ∧ w = w' := by
  go_enter Tryd.func31, Tryd.ntmps31
  go_wp2
  exact bodyPost_ret (results_tmp4 Tryd.results31 _ _ _) rfl ⟨rfl, rfl⟩
theorem format_13 (w : World) : Calls Tryd.prog 31 #[.int .u8 13] w fun e w' => e = .returned (.tuple #[.string (rfS 13), .int .i64 (rlo 13), .int .i64 (rhi 13), .bool true]) ∧ w = w' := by
  go_enter Tryd.func31, Tryd.ntmps31
  go_wp2
  exact bodyPost_ret (results_tmp4 Tryd.results31 _ _ _) rfl ⟨rfl, rfl⟩
theorem format_14 (w : World) : Calls Tryd.prog 31 #[.int .u8 14] w fun e w' => e = .returned (.tuple #[.string (rfS 14), .int .i64 (rlo 14), .int .i64 (rhi 14), .bool true]) ∧ w = w' := by
  go_enter Tryd.func31, Tryd.ntmps31
  go_wp2
  exact bodyPost_ret (results_tmp4 Tryd.results31 _ _ _) rfl ⟨rfl, rfl⟩
theorem format_15 (w : World) : Calls Tryd.prog 31 #[.int .u8 15] w fun e w' => e = .returned (.tuple #[.string (rfS 15), .int .i64 (rlo 15), .int .i64 (rhi 15), .bool true]) ∧ w = w' := by
  go_enter Tryd.func31, Tryd.ntmps31
  go_wp2
  exact bodyPost_ret (results_tmp4 Tryd.results31 _ _ _) rfl ⟨rfl, rfl⟩
theorem format_16 (w : World) : Calls Tryd.prog 31 #[.int .u8 16] w fun e w' => e = .returned (.tuple #[.string (rfS 16), .int .i64 (rlo 16), .int .i64 (rhi 16), .bool true]) ∧ w = w' := by
  go_enter Tryd.func31, Tryd.ntmps31
  go_wp2
  exact bodyPost_ret (results_tmp4 Tryd.results31 _ _ _) rfl ⟨rfl, rfl⟩
theorem format_17 (w : World) : Calls Tryd.prog 31 #[.int .u8 17] w fun e w' => e = .returned (.tuple #[.string (rfS 17), .int .i64 (rlo 17), .int .i64 (rhi 17), .bool true]) ∧ w = w' := by
  go_enter Tryd.func31, Tryd.ntmps31
  go_wp2
  exact bodyPost_ret (results_tmp4 Tryd.results31 _ _ _) rfl ⟨rfl, rfl⟩
theorem format_18 (w : World) : Calls Tryd.prog 31 #[.int .u8 18] w fun e w' => e = .returned (.tuple #[.string (rfS 18), .int .i64 (rlo 18), .int .i64 (rhi 18), .bool true]) ∧ w = w' := by
  go_enter Tryd.func31, Tryd.ntmps31
  go_wp2
  exact bodyPost_ret (results_tmp4 Tryd.results31 _ _ _) rfl ⟨rfl, rfl⟩
theorem format_19 (w : World) : Calls Tryd.prog 31 #[.int .u8 19] w fun e w' => e = .returned (.tuple #[.string (rfS 19), .int .i64 (rlo 19), .int .i64 (rhi 19), .bool true]) ∧ w = w' := by
  go_enter Tryd.func31, Tryd.ntmps31
  go_wp2
  exact bodyPost_ret (results_tmp4 Tryd.results31 _ _ _) rfl ⟨rfl, rfl⟩
theorem format_20 (w : World) : Calls Tryd.prog 31 #[.int .u8 20] w fun e w' => e = .returned (.tuple #[.string (rfS 20), .int .i64 (rlo 20), .int .i64 (rhi 20), .bool true]) ∧ w = w' := by
  go_enter Tryd.func31, Tryd.ntmps31
  go_wp2
  exact bodyPost_ret (results_tmp4 Tryd.results31 _ _ _) rfl ⟨rfl, rfl⟩
theorem format_21 (w : World) : Calls Tryd.prog 31 #[.int .u8 21] w fun e w' => e = .returned (.tuple #[.string (rfS 21), .int .i64 (rlo 21), .int .i64 (rhi 21), .bool true]) ∧ w = w' := by
  go_enter Tryd.func31, Tryd.ntmps31
  go_wp2
  exact bodyPost_ret (results_tmp4 Tryd.results31 _ _ _) rfl ⟨rfl, rfl⟩
theorem format_22 (w : World) : Calls Tryd.prog 31 #[.int .u8 22] w fun e w' => e = .returned (.tuple #[.string (rfS 22), .int .i64 (rlo 22), .int .i64 (rhi 22), .bool true]) ∧ w = w' := by
  go_enter Tryd.func31, Tryd.ntmps31
  go_wp2
  exact bodyPost_ret (results_tmp4 Tryd.results31 _ _ _) rfl ⟨rfl, rfl⟩
theorem format_23 (w : World) : Calls Tryd.prog 31 #[.int .u8 23] w fun e w' => e = .returned (.tuple #[.string (rfS 23), .int .i64 (rlo 23), .int .i64 (rhi 23), .bool true]) ∧ w = w' := by
  go_enter Tryd.func31, Tryd.ntmps31
  go_wp2
  exact bodyPost_ret (results_tmp4 Tryd.results31 _ _ _) rfl ⟨rfl, rfl⟩
theorem format_24 (w : World) : Calls Tryd.prog 31 #[.int .u8 24] w fun e w' => e = .returned (.tuple #[.string (rfS 24), .int .i64 (rlo 24), .int .i64 (rhi 24), .bool true]) ∧ w = w' := by
  go_enter Tryd.func31, Tryd.ntmps31
  go_wp2
  exact bodyPost_ret (results_tmp4 Tryd.results31 _ _ _) rfl ⟨rfl, rfl⟩
theorem format_25 (w : World) : Calls Tryd.prog 31 #[.int .u8 25] w fun e w' => e = .returned (.tuple #[.string (rfS 25), .int .i64 (rlo 25), .int .i64 (rhi 25), .bool true]) ∧ w = w' := by
  go_enter Tryd.func31, Tryd.ntmps31
  go_wp2
  exact bodyPost_ret (results_tmp4 Tryd.results31 _ _ _) rfl ⟨rfl, rfl⟩
theorem format_26 (w : World) : Calls Tryd.prog 31 #[.int .u8 26] w fun e w' => e = .returned (.tuple #[.string (rfS 26), .int .i64 (rlo 26), .int .i64 (rhi 26), .bool true]) ∧ w = w' := by
  go_enter Tryd.func31, Tryd.ntmps31
  go_wp2
  exact bodyPost_ret (results_tmp4 Tryd.results31 _ _ _) rfl ⟨rfl, rfl⟩
theorem format_27 (w : World) : Calls Tryd.prog 31 #[.int .u8 27] w fun e w' => e = .returned (.tuple #[.string (rfS 27), .int .i64 (rlo 27), .int .i64 (rhi 27), .bool true]) ∧ w = w' := by
  go_enter Tryd.func31, Tryd.ntmps31
  go_wp2
  exact bodyPost_ret (results_tmp4 Tryd.results31 _ _ _) rfl ⟨rfl, rfl⟩
theorem format_28 (w : World) : Calls Tryd.prog 31 #[.int .u8 28] w fun e w' => e = .returned (.tuple #[.string (rfS 28), .int .i64 (rlo 28), .int .i64 (rhi 28), .bool true]) ∧ w = w' := by
  go_enter Tryd.func31, Tryd.ntmps31
  go_wp2
  exact bodyPost_ret (results_tmp4 Tryd.results31 _ _ _) rfl ⟨rfl, rfl⟩
theorem format_29 (w : World) : Calls Tryd.prog 31 #[.int .u8 29] w fun e w' => e = .returned (.tuple #[.string (rfS 29), .int .i64 (rlo 29), .int .i64 (rhi 29), .bool true]) ∧ w = w' := by
  go_enter Tryd.func31, Tryd.ntmps31
  go_wp2
  exact bodyPost_ret (results_tmp4 Tryd.results31 _ _ _) rfl ⟨rfl, rfl⟩
theorem format_any : ∀ (n : Nat) (w : World), n < 30 → Calls Tryd.prog 31 #[.int .u8 n] w fun e w' => e = .returned (.tuple #[.string (rfS n), .int .i64 (rlo n), .int .i64 (rhi n), .bool true]) ∧ w = w'
  | 0, w, _ => format_0 w
  | 1, w, _ => format_1 w
  | 2, w, _ => format_2 w
  | 3, w, _ => format_3 w
  | 4, w, _ => format_4 w
  | 5, w, _ => format_5 w
  | 6, w, _ => format_6 w
  | 7, w, _ => format_7 w
  | 8, w, _ => format_8 w
  | 9, w, _ => format_9 w
  | 10, w, _ => format_10 w
  | 11, w, _ => format_11 w
  | 12, w, _ => format_12 w
  | 13, w, _ => format_13 w
  | 14, w, _ => format_14 w
  | 15, w, _ => format_15 w
  | 16, w, _ => format_16 w
  | 17, w, _ => format_17 w
  | 18, w, _ => format_18 w
  | 19, w, _ => format_19 w
  | 20, w, _ => format_20 w
  | 21, w, _ => format_21 w
  | 22, w, _ => format_22 w
  | 23, w, _ => format_23 w
  | 24, w, _ => format_24 w
  | 25, w, _ => format_25 w
  | 26, w, _ => format_26 w
  | 27, w, _ => format_27 w
  | 28, w, _ => format_28 w
  | 29, w, _ => format_29 w
  | n + 30, w, h => by omega

def regB (x : Int) (u : Bool) : Bool := decide (0 ≤ x ∧ x ≤ if u then 15 else 0)
theorem reg_any (x : Int) (u : Bool) (w : World) : Calls Tryd.prog 47 #[.int .i64 x, .bool u] w fun e w' => e = .returned (.bool (regB x u)) ∧ w = w' := by
  go_enter Tryd.func47, Tryd.ntmps47
  cases u
  · have e : (x == 0) = regB x false := by rw [Bool.eq_iff_iff]; simp [regB]; omega
    go_wp2
    go_ret
    exact ⟨by rw [← e]; rfl, rfl⟩
  · by_cases h0 : 0 ≤ x
    · by_cases h1 : x < 16
      · have e : regB x true = true := by simp [regB]; omega
        have E := Lib.hid e
        clear e
        go_wp2
        go_ret
        exact ⟨by rw [E.out]; rfl, rfl⟩
      · have e : regB x true = false := by simp [regB]; omega
        have E := Lib.hid e
        clear e
        go_wp2
        go_ret
        exact ⟨by rw [E.out]; rfl, rfl⟩
    · have e : regB x true = false := by simp [regB]; omega
      have E := Lib.hid e
      clear e
      have h2 : decide (0 ≤ x) = false := by simp; omega
      go_wp2
      go_ret
      exact ⟨by rw [E.out]; rfl, rfl⟩

end Go.Proofs.YtdfofelchjpioaaDoor
