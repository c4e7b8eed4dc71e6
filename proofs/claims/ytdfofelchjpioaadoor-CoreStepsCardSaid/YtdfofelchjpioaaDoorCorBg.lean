import Derived.Test.YtdfofelchjpioaaDoorCorD
import Derived.Laws.BitsAllLaws
import Derived.LoopTactic
import Derived.IntWalk
set_option linter.unusedVariables false
set_option linter.unusedSimpArgs false
namespace Go.Proofs.YtdfofelchjpioaaDoor
open Go.RowKit

def rbit (x : Int) (i : Nat) : Int := x % 4294967296 / 2 ^ i % 2
def btest (op : Nat) (s : Int) : Bool := if op = 11 then decide (s = 2) else if op = 12 then decide (1 ≤ s) else decide (s = 1)
def rsum (op : Nat) (x y : Int) : Nat → Int
  | 0 => 0
  | i + 1 => rsum op x y i + if btest op (rbit x i + rbit y i) then 2 ^ i else 0

theorem bit_of (x : Int) (i : Nat) : rbit x i = if (BitVec.ofInt 32 x).toNat.testBit i then 1 else 0 := by
  have e : ((BitVec.ofInt 32 x).toNat : Int) = x % 4294967296 := by
    rw [BitVec.toNat_ofInt]; simp; omega
  unfold rbit
  rw [← e, Nat.testBit_eq_decide_div_mod_eq]
  generalize (BitVec.ofInt 32 x).toNat = z
  have h3 : ((2 ^ i : Nat) : Int) = (2 : Int) ^ i := by simp
  rw [← h3, ← Int.natCast_ediv]
  generalize z / 2 ^ i = q
  by_cases h : q % 2 = 1
  · rw [if_pos (by simpa using h)]; omega
  · rw [if_neg (by simpa using h)]; omega

theorem sum_bits (z : Nat) (f : Nat → Bool) (g : Nat → Int) (h0 : g 0 = 0) (hg : ∀ i, i < 32 → g (i + 1) = g i + if f i then 2 ^ i else 0) (hf : ∀ i, i < 32 → f i = z.testBit i) : ∀ k, k ≤ 32 → g k = (z % 2 ^ k : Nat)
  | 0, _ => by rw [h0]; simp [Nat.mod_one]
  | k + 1, hk => by
    rw [hg k (by omega), sum_bits z f g h0 hg hf k (by omega), hf k (by omega), Nat.testBit_eq_decide_div_mod_eq]
    have h3 : ((2 ^ k : Nat) : Int) = (2 : Int) ^ k := by simp
    have hp : 2 ^ (k + 1) = 2 ^ k * 2 := Nat.pow_succ ..
    have hm : z % 2 ^ (k + 1) = z % 2 ^ k + 2 ^ k * (z / 2 ^ k % 2) := by rw [hp, Nat.mod_mul]
    rw [hm]
    generalize z / 2 ^ k = q
    by_cases h : q % 2 = 1
    · rw [if_pos (by simpa using h), h]; simp
    · rw [if_neg (by simpa using h)]
      have h0 : q % 2 = 0 := by omega
      rw [h0]; simp

def opOf (n : Nat) : BinOp := if n = 11 then .and else if n = 12 then .or else .xor
theorem rsum_bits (op : Nat) (h1 : 11 ≤ op) (h2 : op ≤ 13) (x y : Int) : IntKind.i32.wrap (rsum op x y 32) = bits (opOf op) .i32 x y := by
  have key : ∀ z : Nat, (∀ i, i < 32 → btest op (rbit x i + rbit y i) = z.testBit i) → z < 2 ^ 32 → rsum op x y 32 = z := by
    intro z hz hlt
    rw [sum_bits z (fun i => btest op (rbit x i + rbit y i)) (rsum op x y) rfl (fun i _ => rfl) hz 32 (by omega), Nat.mod_eq_of_lt hlt]
  obtain rfl | rfl | rfl : op = 11 ∨ op = 12 ∨ op = 13 := by omega
  · rw [key ((BitVec.ofInt 32 x &&& BitVec.ofInt 32 y).toNat) (fun i hi => ?_) (BitVec.isLt _)]
    · rfl
    · rw [bit_of x i, bit_of y i, BitVec.toNat_and, Nat.testBit_and]
      cases (BitVec.ofInt 32 x).toNat.testBit i <;> cases (BitVec.ofInt 32 y).toNat.testBit i <;> rfl
  · rw [key ((BitVec.ofInt 32 x ||| BitVec.ofInt 32 y).toNat) (fun i hi => ?_) (BitVec.isLt _)]
    · rfl
    · rw [bit_of x i, bit_of y i, BitVec.toNat_or, Nat.testBit_or]
      cases (BitVec.ofInt 32 x).toNat.testBit i <;> cases (BitVec.ofInt 32 y).toNat.testBit i <;> rfl
  · rw [key ((BitVec.ofInt 32 x ^^^ BitVec.ofInt 32 y).toNat) (fun i hi => ?_) (BitVec.isLt _)]
    · rfl
    · rw [bit_of x i, bit_of y i, BitVec.toNat_xor, Nat.testBit_xor]
      cases (BitVec.ofInt 32 x).toNat.testBit i <;> cases (BitVec.ofInt 32 y).toNat.testBit i <;> rfl
theorem rsum_bd (op : Nat) (x y : Int) : ∀ k, 0 ≤ rsum op x y k ∧ rsum op x y k < 2 ^ k
  | 0 => by simp [rsum]
  | k + 1 => by
    have h := rsum_bd op x y k
    have hp : (2 : Int) ^ (k + 1) = 2 ^ k * 2 := Int.pow_succ ..
    have h0 : (0 : Int) < 2 ^ k := Int.pow_pos (by decide)
    unfold rsum
    split <;> omega
theorem pow32 (k : Nat) (h : k ≤ 32) : (0 : Int) < 2 ^ k ∧ (2 : Int) ^ k ≤ 4294967296 := by
  refine ⟨Int.pow_pos (by decide), ?_⟩
  have : (2 : Nat) ^ k ≤ 2 ^ 32 := Nat.pow_le_pow_right (by omega) h
  have h2 : ((2 ^ k : Nat) : Int) ≤ ((2 ^ 32 : Nat) : Int) := by exact_mod_cast this
  simpa using h2
theorem rbit_bd (x : Int) (i : Nat) : 0 ≤ rbit x i ∧ rbit x i ≤ 1 := by unfold rbit; omega

theorem ret_i32 {x y : Int} (h : x = y) : Ending.returned (.int .i32 x) = .returned (.int .i32 y) := by rw [h]
theorem ret_i64 {x y : Int} (h : x = y) : Ending.returned (.int .i64 x) = .returned (.int .i64 y) := by rw [h]

theorem rwrap_any (n : Int) (w : World) (h0 : -9223372036854775808 ≤ n) (h1 : n ≤ 9223372036854775807) :
    Calls Tryd.prog 34 #[.int .i64 n] w fun e w' => e = .returned (.int .i32 (wrap32 n)) ∧ w = w' := by
  by_cases hn : 0 ≤ n
  · go_enter Tryd.func34, Tryd.ntmps34
    go_wp2_with fail
    all_goals
      go_ret
      refine ⟨ret_i32 ?_, rfl⟩
      unfold wrap32
      omega
  · have ht : n.tmod 4294967296 = -((-n) % 4294967296) := by
      rw [← Int.tmod_eq_emod_of_nonneg (by omega), Int.neg_tmod, Int.neg_neg]
    have ht0 : n.tmod 4294967296 ≤ 0 := by omega
    have ht1 : -4294967296 < n.tmod 4294967296 := by omega
    go_enter Tryd.func34, Tryd.ntmps34
    go_wp2_with fail
    all_goals
      go_ret
      refine ⟨ret_i32 ?_, rfl⟩
      unfold wrap32
      omega

theorem rbit_any (x : Int) (i : Nat) (w : World) (h0 : -2147483648 ≤ x) (h1 : x ≤ 2147483647) (hi : i ≤ 32) :
    Calls Tryd.prog 48 #[.int .i32 x, .int .i64 i] w fun e w' => e = .returned (.int .i64 (rbit x i)) ∧ w = w' := by
  by_cases hn : 0 ≤ x
  all_goals
    go_enter Tryd.func48, Tryd.ntmps48
    go_wp2_with fail
    go_loop [1, 5] (fun iv nv => ∃ k : Nat, k ≤ i ∧ iv = .int .i64 ((i - k : Nat) : Int) ∧ nv = .int .i64 (x % 4294967296 / 2 ^ k)) (fun iv _ => (intOf iv).toNat)
    case atStart => exact ⟨0, Nat.zero_le _, by simp, by simp; omega⟩
    case round =>
      obtain ⟨k, hk, rfl, rfl⟩ := hrel
      have hp := pow32 k (by omega)
      have hq0 : 0 ≤ x % 4294967296 / 2 ^ k := Int.ediv_nonneg (by omega) (by omega)
      have hq1 : x % 4294967296 / 2 ^ k ≤ 4294967295 := by
        have := Int.ediv_le_self (a := x % 4294967296) (2 ^ k) (by omega)
        omega
      have hs : x % 4294967296 / 2 ^ (k + 1) = x % 4294967296 / 2 ^ k / 2 := by rw [Int.pow_succ, Int.ediv_ediv_of_nonneg (by omega)]
      have HS := Lib.hid hs
      have hb : rbit x k = x % 4294967296 / 2 ^ k % 2 := rfl
      have HB := Lib.hid hb
      clear hs hb
      generalize x % 4294967296 / 2 ^ k = q at hq0 hq1 HS HB ⊢
      by_cases hlt : k < i
      · have hd : (0 : Int) < ((i - k : Nat) : Int) := by omega
        go_wp2_with fail
        go_round
        case rel => exact ⟨k + 1, by omega, by congr 1; omega, by rw [HS.out]⟩
        case measure => simp [intOf]; omega
      · obtain rfl : k = i := by omega
        have hd : ((k - k : Nat) : Int) = 0 := by omega
        go_wp2_with fail
        go_ret
        exact ⟨ret_i64 HB.out.symm, rfl⟩

set_option maxHeartbeats 1600000 in
theorem rbits_11 (x y : Int) (w : World) (hx0 : -2147483648 ≤ x) (hx1 : x ≤ 2147483647) (hy0 : -2147483648 ≤ y) (hy1 : y ≤ 2147483647) :
    Calls Tryd.prog 35 #[.int .u8 11, .int .i32 x, .int .i32 y] w fun e w' => e = .returned (.int .i32 (bits (opOf 11) .i32 x y)) ∧ w = w' := by
  have HR := Lib.hid (rsum_bits 11 (by omega) (by omega) x y)
  go_enter Tryd.func35, Tryd.ntmps35
  go_wp2_with fail
  go_loop [7, 8, 9] (fun nv pv iv => ∃ k : Nat, k ≤ 32 ∧ iv = .int .i64 k ∧ nv = .int .i64 (rsum 11 x y k) ∧ pv = .int .i64 (2 ^ k)) (fun _ _ iv => 32 - (intOf iv).toNat)
  case atStart => exact ⟨0, by omega, by go_num, by simp [rsum], by simp⟩
  case round =>
    obtain ⟨k, hk, rfl, rfl, rfl⟩ := hrel
    have hs := rsum_bd 11 x y k
    have hp := pow32 k hk
    have hx := rbit_bd x k
    have hy := rbit_bd y k
    by_cases hlt : k < 32
    · have hrs : rsum 11 x y (k + 1) = rsum 11 x y k + if btest 11 (rbit x k + rbit y k) then 2 ^ k else 0 := rfl
      have hpw : (2 : Int) ^ (k + 1) = 2 * 2 ^ k := by rw [Int.pow_succ, Int.mul_comm]
      have HS := Lib.hid hrs
      have HP := Lib.hid hpw
      have RX := Lib.hid (fun w => rbit_any x k w hx0 hx1 (by omega))
      have RY := Lib.hid (fun w => rbit_any y k w hy0 hy1 (by omega))
      clear hrs hpw HR
      generalize rsum 11 x y k = n at hs HS ⊢
      generalize (2 : Int) ^ k = p at hp hs HS HP ⊢
      generalize rbit x k = bx at hx HS RX ⊢
      generalize rbit y k = b' at hy HS RY ⊢
      obtain rfl | rfl : bx = 0 ∨ bx = 1 := by omega
      all_goals
        obtain rfl | rfl : b' = 0 ∨ b' = 1 := by omega
        all_goals
          go_wp2_with (first | ((with_reducible refine (RX.out _).mono ?_); rintro e w' ⟨rfl, rfl⟩) | ((with_reducible refine (RY.out _).mono ?_); rintro e w' ⟨rfl, rfl⟩))
          go_round
          case rel => exact ⟨k + 1, by omega, by go_num, by rw [HS.out]; simp [btest], by rw [HP.out]⟩
          case measure => simp [intOf]; omega
    · obtain rfl : k = 32 := by omega
      go_wp2_with fail
      refine (rwrap_any _ _ (by omega) (by omega)).mono ?_
      rintro e w' ⟨rfl, rfl⟩
      go_wp2_with fail
      go_ret
      refine ⟨ret_i32 ?_, rfl⟩
      rw [← HR.out, IntWalk.i32_left]

set_option maxHeartbeats 1600000 in
theorem rbits_12 (x y : Int) (w : World) (hx0 : -2147483648 ≤ x) (hx1 : x ≤ 2147483647) (hy0 : -2147483648 ≤ y) (hy1 : y ≤ 2147483647) :
    Calls Tryd.prog 35 #[.int .u8 12, .int .i32 x, .int .i32 y] w fun e w' => e = .returned (.int .i32 (bits (opOf 12) .i32 x y)) ∧ w = w' := by
  have HR := Lib.hid (rsum_bits 12 (by omega) (by omega) x y)
  go_enter Tryd.func35, Tryd.ntmps35
  go_wp2_with fail
  go_loop [7, 8, 9] (fun nv pv iv => ∃ k : Nat, k ≤ 32 ∧ iv = .int .i64 k ∧ nv = .int .i64 (rsum 12 x y k) ∧ pv = .int .i64 (2 ^ k)) (fun _ _ iv => 32 - (intOf iv).toNat)
  case atStart => exact ⟨0, by omega, by go_num, by simp [rsum], by simp⟩
  case round =>
    obtain ⟨k, hk, rfl, rfl, rfl⟩ := hrel
    have hs := rsum_bd 12 x y k
    have hp := pow32 k hk
    have hx := rbit_bd x k
    have hy := rbit_bd y k
    by_cases hlt : k < 32
    · have hrs : rsum 12 x y (k + 1) = rsum 12 x y k + if btest 12 (rbit x k + rbit y k) then 2 ^ k else 0 := rfl
      have hpw : (2 : Int) ^ (k + 1) = 2 * 2 ^ k := by rw [Int.pow_succ, Int.mul_comm]
      have HS := Lib.hid hrs
      have HP := Lib.hid hpw
      have RX := Lib.hid (fun w => rbit_any x k w hx0 hx1 (by omega))
      have RY := Lib.hid (fun w => rbit_any y k w hy0 hy1 (by omega))
      clear hrs hpw HR
      generalize rsum 12 x y k = n at hs HS ⊢
      generalize (2 : Int) ^ k = p at hp hs HS HP ⊢
      generalize rbit x k = bx at hx HS RX ⊢
      generalize rbit y k = b' at hy HS RY ⊢
      obtain rfl | rfl : bx = 0 ∨ bx = 1 := by omega
      all_goals
        obtain rfl | rfl : b' = 0 ∨ b' = 1 := by omega
        all_goals
          go_wp2_with (first | ((with_reducible refine (RX.out _).mono ?_); rintro e w' ⟨rfl, rfl⟩) | ((with_reducible refine (RY.out _).mono ?_); rintro e w' ⟨rfl, rfl⟩))
          go_round
          case rel => exact ⟨k + 1, by omega, by go_num, by rw [HS.out]; simp [btest], by rw [HP.out]⟩
          case measure => simp [intOf]; omega
    · obtain rfl : k = 32 := by omega
      go_wp2_with fail
      refine (rwrap_any _ _ (by omega) (by omega)).mono ?_
      rintro e w' ⟨rfl, rfl⟩
      go_wp2_with fail
      go_ret
      refine ⟨ret_i32 ?_, rfl⟩
      rw [← HR.out, IntWalk.i32_left]

set_option maxHeartbeats 1600000 in
theorem rbits_13 (x y : Int) (w : World) (hx0 : -2147483648 ≤ x) (hx1 : x ≤ 2147483647) (hy0 : -2147483648 ≤ y) (hy1 : y ≤ 2147483647) :
    Calls Tryd.prog 35 #[.int .u8 13, .int .i32 x, .int .i32 y] w fun e w' => e = .returned (.int .i32 (bits (opOf 13) .i32 x y)) ∧ w = w' := by
  have HR := Lib.hid (rsum_bits 13 (by omega) (by omega) x y)
  go_enter Tryd.func35, Tryd.ntmps35
  go_wp2_with fail
  go_loop [7, 8, 9] (fun nv pv iv => ∃ k : Nat, k ≤ 32 ∧ iv = .int .i64 k ∧ nv = .int .i64 (rsum 13 x y k) ∧ pv = .int .i64 (2 ^ k)) (fun _ _ iv => 32 - (intOf iv).toNat)
  case atStart => exact ⟨0, by omega, by go_num, by simp [rsum], by simp⟩
  case round =>
    obtain ⟨k, hk, rfl, rfl, rfl⟩ := hrel
    have hs := rsum_bd 13 x y k
    have hp := pow32 k hk
    have hx := rbit_bd x k
    have hy := rbit_bd y k
    by_cases hlt : k < 32
    · have hrs : rsum 13 x y (k + 1) = rsum 13 x y k + if btest 13 (rbit x k + rbit y k) then 2 ^ k else 0 := rfl
      have hpw : (2 : Int) ^ (k + 1) = 2 * 2 ^ k := by rw [Int.pow_succ, Int.mul_comm]
      have HS := Lib.hid hrs
      have HP := Lib.hid hpw
      have RX := Lib.hid (fun w => rbit_any x k w hx0 hx1 (by omega))
      have RY := Lib.hid (fun w => rbit_any y k w hy0 hy1 (by omega))
      clear hrs hpw HR
      generalize rsum 13 x y k = n at hs HS ⊢
      generalize (2 : Int) ^ k = p at hp hs HS HP ⊢
      generalize rbit x k = bx at hx HS RX ⊢
      generalize rbit y k = b' at hy HS RY ⊢
      obtain rfl | rfl : bx = 0 ∨ bx = 1 := by omega
      all_goals
        obtain rfl | rfl : b' = 0 ∨ b' = 1 := by omega
        all_goals
          go_wp2_with (first | ((with_reducible refine (RX.out _).mono ?_); rintro e w' ⟨rfl, rfl⟩) | ((with_reducible refine (RY.out _).mono ?_); rintro e w' ⟨rfl, rfl⟩))
          go_round
          case rel => exact ⟨k + 1, by omega, by go_num, by rw [HS.out]; simp [btest], by rw [HP.out]⟩
          case measure => simp [intOf]; omega
    · obtain rfl : k = 32 := by omega
      go_wp2_with fail
      refine (rwrap_any _ _ (by omega) (by omega)).mono ?_
      rintro e w' ⟨rfl, rfl⟩
      go_wp2_with fail
      go_ret
      refine ⟨ret_i32 ?_, rfl⟩
      rw [← HR.out, IntWalk.i32_left]

theorem rtruth_any (b : Bool) (w : World) : Calls Tryd.prog 38 #[.bool b] w fun e w' => e = .returned (.int .i32 (if b then 1 else 0)) ∧ w = w' := by
  cases b
  all_goals
    go_enter Tryd.func38, Tryd.ntmps38
    go_wp2_with fail
    go_ret
    exact ⟨rfl, rfl⟩

theorem rcount_any (y : Int) (w : World) (hy0 : -2147483648 ≤ y) (hy1 : y ≤ 2147483647) : Calls Tryd.prog 37 #[.int .i32 y] w fun e w' => e = .returned (.int .i64 (y % 32)) ∧ w = w' := by
  by_cases hn : 0 ≤ y
  · go_enter Tryd.func37, Tryd.ntmps37
    go_wp2_with fail
    all_goals
      go_ret
      refine ⟨ret_i64 ?_, rfl⟩
      omega
  · have ht : y.tmod 32 = -((-y) % 32) := by
      rw [← Int.tmod_eq_emod_of_nonneg (by omega), Int.neg_tmod, Int.neg_neg]
    go_enter Tryd.func37, Tryd.ntmps37
    go_wp2_with fail
    all_goals
      go_ret
      refine ⟨ret_i64 ?_, rfl⟩
      omega

theorem shl_step (x : Int) (k : Nat) : wrap32 (2 * wrap32 (x * 2 ^ k)) = wrap32 (x * 2 ^ (k + 1)) := by
  rw [Int.pow_succ, ← Int.mul_assoc]
  generalize x * 2 ^ k = z
  unfold wrap32
  omega
theorem w32_wrap (x : Int) : -2147483648 ≤ wrap32 x ∧ wrap32 x ≤ 2147483647 := by unfold wrap32; omega
theorem shr_bd (x : Int) (k : Nat) (h0 : -2147483648 ≤ x) (h1 : x ≤ 2147483647) : -2147483648 ≤ x / 2 ^ k ∧ x / 2 ^ k ≤ 2147483647 := by
  have hp : (0 : Int) < 2 ^ k := Int.pow_pos (by decide)
  constructor
  · rw [Int.le_ediv_iff_mul_le hp]
    have : (-2147483648 : Int) * 2 ^ k ≤ -2147483648 * 1 := Int.mul_le_mul_of_nonpos_left (by omega) (by omega)
    omega
  · apply Int.le_of_lt_add_one
    rw [Int.ediv_lt_iff_lt_mul hp]
    have : (2147483648 : Int) * 1 ≤ 2147483648 * 2 ^ k := Int.mul_le_mul_of_nonneg_left (by omega) (by omega)
    omega

theorem rshl_any (x : Int) (n : Nat) (w : World) (hx0 : -2147483648 ≤ x) (hx1 : x ≤ 2147483647) (hn : n ≤ 31) :
    Calls Tryd.prog 36 #[.int .i32 x, .int .i64 n, .bool true] w fun e w' => e = .returned (.int .i32 (wrap32 (x * 2 ^ n))) ∧ w = w' := by
  go_enter Tryd.func36, Tryd.ntmps36
  go_wp2_with fail
  go_loop [0, 7] (fun xv iv => ∃ k : Nat, k ≤ n ∧ iv = .int .i64 k ∧ xv = .int .i32 (wrap32 (x * 2 ^ k))) (fun _ iv => n - (intOf iv).toNat)
  case atStart => exact ⟨0, by omega, by go_num, by simp; unfold wrap32; omega⟩
  case round =>
    obtain ⟨k, hk, rfl, rfl⟩ := hrel
    have hb := w32_wrap (x * 2 ^ k)
    have HS := Lib.hid (shl_step x k)
    by_cases hlt : k < n
    · generalize wrap32 (x * 2 ^ k) = z at hb HS ⊢
      go_wp2_with fail
      refine (rwrap_any _ _ (by omega) (by omega)).mono ?_
      rintro e w' ⟨rfl, rfl⟩
      go_wp2_with fail
      go_round
      case rel => exact ⟨k + 1, by omega, by go_num, by rw [HS.out]⟩
      case measure => simp [intOf]; omega
    · obtain rfl : k = n := by omega
      go_wp2_with fail
      go_ret
      exact ⟨rfl, rfl⟩

theorem rshr_any (x : Int) (n : Nat) (w : World) (hx0 : -2147483648 ≤ x) (hx1 : x ≤ 2147483647) (hn : n ≤ 31) :
    Calls Tryd.prog 36 #[.int .i32 x, .int .i64 n, .bool false] w fun e w' => e = .returned (.int .i32 (x / 2 ^ n)) ∧ w = w' := by
  go_enter Tryd.func36, Tryd.ntmps36
  go_wp2_with fail
  go_loop [0, 7] (fun xv iv => ∃ k : Nat, k ≤ n ∧ iv = .int .i64 k ∧ xv = .int .i32 (x / 2 ^ k)) (fun _ iv => n - (intOf iv).toNat)
  case atStart => exact ⟨0, by omega, by go_num, by simp⟩
  case round =>
    obtain ⟨k, hk, rfl, rfl⟩ := hrel
    have hb := shr_bd x k hx0 hx1
    have hs : x / 2 ^ (k + 1) = x / 2 ^ k / 2 := by rw [Int.pow_succ, Int.ediv_ediv_of_nonneg (Int.le_of_lt (Int.pow_pos (by decide)))]
    have HS := Lib.hid hs
    clear hs
    by_cases hlt : k < n
    · generalize x / 2 ^ k = z at hb HS ⊢
      have hr : rbit z 0 = z % 2 := by unfold rbit; simp
      have hm : 0 ≤ z % 2 ∧ z % 2 ≤ 1 := by omega
      have ht : (z - z % 2).tdiv 2 = z / 2 := by
        have e : z - z % 2 = 2 * (z / 2) := by omega
        rw [e, Int.mul_tdiv_cancel_left _ (by decide)]
      have HB := Lib.hid (rbit_any z 0)
      have HR := Lib.hid hr
      have hz : -1073741824 ≤ z / 2 ∧ z / 2 ≤ 1073741823 := by omega
      clear hr
      go_wp2_with fail
      have hB := HB.out
      rw [HR.out] at hB
      refine (hB _ (by omega) (by omega) (by omega)).mono ?_
      rintro e w' ⟨rfl, rfl⟩
      clear hB
      go_wp2_with fail
      go_round
      case rel => exact ⟨k + 1, by omega, by go_num, by rw [HS.out]⟩
      case measure => simp [intOf]; omega
    · obtain rfl : k = n := by omega
      go_wp2_with fail
      go_ret
      exact ⟨rfl, rfl⟩

theorem mul_bd {x y : Int} (hx0 : -2147483648 ≤ x) (hx1 : x ≤ 2147483647) (hy0 : -2147483648 ≤ y) (hy1 : y ≤ 2147483647) : -4611686018427387904 ≤ x * y ∧ x * y ≤ 4611686018427387904 := by
  have h : (x * y).natAbs ≤ 2147483648 * 2147483648 := by
    rw [Int.natAbs_mul]
    exact Nat.mul_le_mul (by omega) (by omega)
  omega
theorem tdiv_bd {x y : Int} (hx0 : -2147483648 ≤ x) (hx1 : x ≤ 2147483647) : -2147483648 ≤ x.tdiv y ∧ x.tdiv y ≤ 2147483648 := by
  have h : (x.tdiv y).natAbs ≤ x.natAbs := by
    rw [Int.natAbs_tdiv]
    exact Nat.div_le_self _ _
  omega
theorem tmod_bd {x y : Int} (hx0 : -2147483648 ≤ x) (hx1 : x ≤ 2147483647) : -2147483648 ≤ x.tmod y ∧ x.tmod y ≤ 2147483647 := by
  have h : (x.tmod y).natAbs ≤ x.natAbs := by
    rw [Int.natAbs_tmod]
    exact Nat.mod_le _ _
  have h2 : 0 ≤ x → 0 ≤ x.tmod y := fun h => Int.tmod_nonneg _ h
  by_cases h0 : 0 ≤ x
  · have := h2 h0; omega
  · have h3 : 0 ≤ (-x).tmod y := Int.tmod_nonneg _ (by omega)
    rw [Int.neg_tmod] at h3
    omega
theorem mod_eq {x y : Int} (hx0 : -2147483648 ≤ x) (hx1 : x ≤ 2147483647) : wrap32 (x - wrap32 (x.tdiv y) * y) = x.tmod y := by
  have ht := tmod_bd (y := y) hx0 hx1
  have hd := Int.tmod_def x y
  obtain ⟨m, hm⟩ : ∃ m, wrap32 (x.tdiv y) = x.tdiv y + 4294967296 * m := ⟨(wrap32 (x.tdiv y) - x.tdiv y) / 4294967296, by unfold wrap32; omega⟩
  have e : x - wrap32 (x.tdiv y) * y = x.tmod y - 4294967296 * (m * y) := by
    rw [hm, hd, Int.add_mul, Int.mul_assoc, Int.mul_comm y]
    omega
  rw [e]
  generalize m * y = q
  unfold wrap32
  omega

theorem rapply2 (x y : Int) (w : World) (hx0 : -2147483648 ≤ x) (hx1 : x ≤ 2147483647) (hy0 : -2147483648 ≤ y) (hy1 : y ≤ 2147483647) : Calls Tryd.prog 20 #[.int .u8 6, .int .i32 x, .int .i32 y] w fun e w' => e = .returned (.tuple #[.int .i32 (ariV 2 x y), .int .i64 (ariE 2 y)]) ∧ w = w' := by
  go_enter Tryd.func20, Tryd.ntmps20
  go_wp2_with fail
  refine (rwrap_any _ _ (by omega) (by omega)).mono ?_
  rintro e w' ⟨rfl, rfl⟩
  go_wp2_with fail
  go_ret2
  refine ⟨ret_i32_err ?_ ?_, rfl⟩
  all_goals simp [ariV, ariV0, ariE]

theorem rapply3 (x y : Int) (w : World) (hx0 : -2147483648 ≤ x) (hx1 : x ≤ 2147483647) (hy0 : -2147483648 ≤ y) (hy1 : y ≤ 2147483647) : Calls Tryd.prog 20 #[.int .u8 7, .int .i32 x, .int .i32 y] w fun e w' => e = .returned (.tuple #[.int .i32 (ariV 3 x y), .int .i64 (ariE 3 y)]) ∧ w = w' := by
  go_enter Tryd.func20, Tryd.ntmps20
  go_wp2_with fail
  refine (rwrap_any _ _ (by omega) (by omega)).mono ?_
  rintro e w' ⟨rfl, rfl⟩
  go_wp2_with fail
  go_ret2
  refine ⟨ret_i32_err ?_ ?_, rfl⟩
  all_goals simp [ariV, ariV0, ariE]

theorem rapply4 (x y : Int) (w : World) (hx0 : -2147483648 ≤ x) (hx1 : x ≤ 2147483647) (hy0 : -2147483648 ≤ y) (hy1 : y ≤ 2147483647) : Calls Tryd.prog 20 #[.int .u8 8, .int .i32 x, .int .i32 y] w fun e w' => e = .returned (.tuple #[.int .i32 (ariV 4 x y), .int .i64 (ariE 4 y)]) ∧ w = w' := by
  have hm := mul_bd hx0 hx1 hy0 hy1
  go_enter Tryd.func20, Tryd.ntmps20
  go_wp2_with fail
  refine (rwrap_any _ _ (by omega) (by omega)).mono ?_
  rintro e w' ⟨rfl, rfl⟩
  go_wp2_with fail
  go_ret2
  refine ⟨ret_i32_err ?_ ?_, rfl⟩
  all_goals simp [ariV, ariV0, ariE]

theorem rapply5_0 (x y : Int) (w : World) (hx0 : -2147483648 ≤ x) (hx1 : x ≤ 2147483647) (hy0 : -2147483648 ≤ y) (hy1 : y ≤ 2147483647) (hz : y = 0) : Calls Tryd.prog 20 #[.int .u8 9, .int .i32 x, .int .i32 y] w fun e w' => e = .returned (.tuple #[.int .i32 (ariV 5 x y), .int .i64 (ariE 5 y)]) ∧ w = w' := by
  subst hz
  go_enter Tryd.func20, Tryd.ntmps20
  go_wp2_with fail
  go_ret2
  refine ⟨ret_i32_err ?_ ?_, rfl⟩
  all_goals simp [ariV, ariV0, ariE]

theorem rapply5_1 (x y : Int) (w : World) (hx0 : -2147483648 ≤ x) (hx1 : x ≤ 2147483647) (hy0 : -2147483648 ≤ y) (hy1 : y ≤ 2147483647) (hz : (y == 0) = false) (hz' : y ≠ 0) : Calls Tryd.prog 20 #[.int .u8 9, .int .i32 x, .int .i32 y] w fun e w' => e = .returned (.tuple #[.int .i32 (ariV 5 x y), .int .i64 (ariE 5 y)]) ∧ w = w' := by
  have ht := tdiv_bd (y := y) hx0 hx1
  go_enter Tryd.func20, Tryd.ntmps20
  go_wp2_with fail
  refine (rwrap_any _ _ (by omega) (by omega)).mono ?_
  rintro e w' ⟨rfl, rfl⟩
  go_wp2_with fail
  go_ret2
  refine ⟨ret_i32_err ?_ ?_, rfl⟩
  all_goals simp [ariV, ariV0, ariE, hz']

theorem rapply6_0 (x y : Int) (w : World) (hx0 : -2147483648 ≤ x) (hx1 : x ≤ 2147483647) (hy0 : -2147483648 ≤ y) (hy1 : y ≤ 2147483647) (hz : y = 0) : Calls Tryd.prog 20 #[.int .u8 10, .int .i32 x, .int .i32 y] w fun e w' => e = .returned (.tuple #[.int .i32 (ariV 6 x y), .int .i64 (ariE 6 y)]) ∧ w = w' := by
  subst hz
  go_enter Tryd.func20, Tryd.ntmps20
  go_wp2_with fail
  go_ret2
  refine ⟨ret_i32_err ?_ ?_, rfl⟩
  all_goals simp [ariV, ariV0, ariE]

theorem rapply6_1 (x y : Int) (w : World) (hx0 : -2147483648 ≤ x) (hx1 : x ≤ 2147483647) (hy0 : -2147483648 ≤ y) (hy1 : y ≤ 2147483647) (hz : (y == 0) = false) (hz' : y ≠ 0) : Calls Tryd.prog 20 #[.int .u8 10, .int .i32 x, .int .i32 y] w fun e w' => e = .returned (.tuple #[.int .i32 (ariV 6 x y), .int .i64 (ariE 6 y)]) ∧ w = w' := by
  have ht := tdiv_bd (y := y) hx0 hx1
  have hw := w32_wrap (x.tdiv y)
  have hm := mul_bd hw.1 hw.2 hy0 hy1
  have HE := Lib.hid (mod_eq (y := y) hx0 hx1)
  go_enter Tryd.func20, Tryd.ntmps20
  go_wp2_with fail
  refine (rwrap_any _ _ (by omega) (by omega)).mono ?_
  rintro e w' ⟨rfl, rfl⟩
  go_wp2_with fail
  refine (rwrap_any _ _ (by omega) (by omega)).mono ?_
  rintro e w' ⟨rfl, rfl⟩
  rw [HE.out]
  go_wp2_with fail
  go_ret2
  refine ⟨ret_i32_err ?_ ?_, rfl⟩
  all_goals simp [ariV, ariV0, ariE, hz']

theorem rapply7 (x y : Int) (w : World) (hx0 : -2147483648 ≤ x) (hx1 : x ≤ 2147483647) (hy0 : -2147483648 ≤ y) (hy1 : y ≤ 2147483647) : Calls Tryd.prog 20 #[.int .u8 11, .int .i32 x, .int .i32 y] w fun e w' => e = .returned (.tuple #[.int .i32 (ariV 7 x y), .int .i64 (ariE 7 y)]) ∧ w = w' := by
  go_enter Tryd.func20, Tryd.ntmps20
  go_wp2_with fail
  refine (rbits_11 x y _ hx0 hx1 hy0 hy1).mono ?_
  rintro e w' ⟨rfl, rfl⟩
  go_wp2_with fail
  go_ret2
  refine ⟨ret_i32_err ?_ ?_, rfl⟩
  all_goals simp [ariV, ariV0, ariE, opOf]

theorem rapply8 (x y : Int) (w : World) (hx0 : -2147483648 ≤ x) (hx1 : x ≤ 2147483647) (hy0 : -2147483648 ≤ y) (hy1 : y ≤ 2147483647) : Calls Tryd.prog 20 #[.int .u8 12, .int .i32 x, .int .i32 y] w fun e w' => e = .returned (.tuple #[.int .i32 (ariV 8 x y), .int .i64 (ariE 8 y)]) ∧ w = w' := by
  go_enter Tryd.func20, Tryd.ntmps20
  go_wp2_with fail
  refine (rbits_12 x y _ hx0 hx1 hy0 hy1).mono ?_
  rintro e w' ⟨rfl, rfl⟩
  go_wp2_with fail
  go_ret2
  refine ⟨ret_i32_err ?_ ?_, rfl⟩
  all_goals simp [ariV, ariV0, ariE, opOf]

theorem rapply9 (x y : Int) (w : World) (hx0 : -2147483648 ≤ x) (hx1 : x ≤ 2147483647) (hy0 : -2147483648 ≤ y) (hy1 : y ≤ 2147483647) : Calls Tryd.prog 20 #[.int .u8 13, .int .i32 x, .int .i32 y] w fun e w' => e = .returned (.tuple #[.int .i32 (ariV 9 x y), .int .i64 (ariE 9 y)]) ∧ w = w' := by
  go_enter Tryd.func20, Tryd.ntmps20
  go_wp2_with fail
  refine (rbits_13 x y _ hx0 hx1 hy0 hy1).mono ?_
  rintro e w' ⟨rfl, rfl⟩
  go_wp2_with fail
  go_ret2
  refine ⟨ret_i32_err ?_ ?_, rfl⟩
  all_goals simp [ariV, ariV0, ariE, opOf]

theorem rapply10 (x y : Int) (w : World) (hx0 : -2147483648 ≤ x) (hx1 : x ≤ 2147483647) (hy0 : -2147483648 ≤ y) (hy1 : y ≤ 2147483647) : Calls Tryd.prog 20 #[.int .u8 14, .int .i32 x, .int .i32 y] w fun e w' => e = .returned (.tuple #[.int .i32 (ariV 10 x y), .int .i64 (ariE 10 y)]) ∧ w = w' := by
  have hc : ((y % 32).toNat : Int) = y % 32 := by omega
  have HC := Lib.hid hc
  clear hc
  go_enter Tryd.func20, Tryd.ntmps20
  go_wp2_with fail
  refine (rcount_any _ _ hy0 hy1).mono ?_
  rintro e w' ⟨rfl, rfl⟩
  go_wp2_with fail
  have hS := rshl_any x (y % 32).toNat w hx0 hx1 (by omega)
  rw [HC.out] at hS
  refine hS.mono ?_
  rintro e w' ⟨rfl, rfl⟩
  clear hS
  go_wp2_with fail
  go_ret2
  refine ⟨ret_i32_err ?_ ?_, rfl⟩
  all_goals simp [ariV, ariV0, ariE]

theorem rapply11 (x y : Int) (w : World) (hx0 : -2147483648 ≤ x) (hx1 : x ≤ 2147483647) (hy0 : -2147483648 ≤ y) (hy1 : y ≤ 2147483647) : Calls Tryd.prog 20 #[.int .u8 15, .int .i32 x, .int .i32 y] w fun e w' => e = .returned (.tuple #[.int .i32 (ariV 11 x y), .int .i64 (ariE 11 y)]) ∧ w = w' := by
  have hc : ((y % 32).toNat : Int) = y % 32 := by omega
  have HC := Lib.hid hc
  clear hc
  go_enter Tryd.func20, Tryd.ntmps20
  go_wp2_with fail
  refine (rcount_any _ _ hy0 hy1).mono ?_
  rintro e w' ⟨rfl, rfl⟩
  go_wp2_with fail
  have hS := rshr_any x (y % 32).toNat w hx0 hx1 (by omega)
  rw [HC.out] at hS
  refine hS.mono ?_
  rintro e w' ⟨rfl, rfl⟩
  clear hS
  go_wp2_with fail
  go_ret2
  refine ⟨ret_i32_err ?_ ?_, rfl⟩
  all_goals simp [ariV, ariV0, ariE]

theorem rapply12 (x y : Int) (w : World) (hx0 : -2147483648 ≤ x) (hx1 : x ≤ 2147483647) (hy0 : -2147483648 ≤ y) (hy1 : y ≤ 2147483647) : Calls Tryd.prog 20 #[.int .u8 16, .int .i32 x, .int .i32 y] w fun e w' => e = .returned (.tuple #[.int .i32 (ariV 12 x y), .int .i64 (ariE 12 y)]) ∧ w = w' := by
  go_enter Tryd.func20, Tryd.ntmps20
  go_wp2_with fail
  refine (rtruth_any _ _).mono ?_
  rintro e w' ⟨rfl, rfl⟩
  go_wp2_with fail
  all_goals
    go_ret2
    refine ⟨ret_i32_err ?_ ?_, rfl⟩
    all_goals first | (simp [ariV, ariV0, ariE]; done) | (simp [ariV, ariV0, ariE]; omega)

theorem rapply13 (x y : Int) (w : World) (hx0 : -2147483648 ≤ x) (hx1 : x ≤ 2147483647) (hy0 : -2147483648 ≤ y) (hy1 : y ≤ 2147483647) : Calls Tryd.prog 20 #[.int .u8 18, .int .i32 x, .int .i32 y] w fun e w' => e = .returned (.tuple #[.int .i32 (ariV 13 x y), .int .i64 (ariE 13 y)]) ∧ w = w' := by
  go_enter Tryd.func20, Tryd.ntmps20
  go_wp2_with fail
  refine (rtruth_any _ _).mono ?_
  rintro e w' ⟨rfl, rfl⟩
  go_wp2_with fail
  all_goals
    go_ret2
    refine ⟨ret_i32_err ?_ ?_, rfl⟩
    all_goals first | (simp [ariV, ariV0, ariE]; done) | (simp [ariV, ariV0, ariE]; omega)

theorem rapply_all (n : Nat) (hn : 2 ≤ n) (hn' : n < 14) (x y : Int) (w : World) (hx0 : -2147483648 ≤ x) (hx1 : x ≤ 2147483647) (hy0 : -2147483648 ≤ y) (hy1 : y ≤ 2147483647) :
    Calls Tryd.prog 20 #[.int .u8 (ariOp n), .int .i32 x, .int .i32 y] w fun e w' => e = .returned (.tuple #[.int .i32 (ariV n x y), .int .i64 (ariE n y)]) ∧ w = w' := by
  match n, hn, hn' with
  | 2, _, _ => exact rapply2 x y w hx0 hx1 hy0 hy1
  | 3, _, _ => exact rapply3 x y w hx0 hx1 hy0 hy1
  | 4, _, _ => exact rapply4 x y w hx0 hx1 hy0 hy1
  | 5, _, _ => by_cases hz : y = 0; exact rapply5_0 x y w hx0 hx1 hy0 hy1 hz; exact rapply5_1 x y w hx0 hx1 hy0 hy1 (beq_false_of_ne hz) hz
  | 6, _, _ => by_cases hz : y = 0; exact rapply6_0 x y w hx0 hx1 hy0 hy1 hz; exact rapply6_1 x y w hx0 hx1 hy0 hy1 (beq_false_of_ne hz) hz
  | 7, _, _ => exact rapply7 x y w hx0 hx1 hy0 hy1
  | 8, _, _ => exact rapply8 x y w hx0 hx1 hy0 hy1
  | 9, _, _ => exact rapply9 x y w hx0 hx1 hy0 hy1
  | 10, _, _ => exact rapply10 x y w hx0 hx1 hy0 hy1
  | 11, _, _ => exact rapply11 x y w hx0 hx1 hy0 hy1
  | 12, _, _ => exact rapply12 x y w hx0 hx1 hy0 hy1
  | 13, _, _ => exact rapply13 x y w hx0 hx1 hy0 hy1

theorem roper2 (w : World) : Calls Tryd.prog 21 #[.int .u8 2] w fun e w' => e = .returned (.int .u8 6) ∧ Below w.heap.size w w' := by
  go_enter Tryd.func21, Tryd.ntmps21
  go_wp2_with fail
  go_ret
  exact ⟨rfl, bAlloc (Nat.le_refl _) (Below.refl _ _)⟩

theorem roper3 (w : World) : Calls Tryd.prog 21 #[.int .u8 3] w fun e w' => e = .returned (.int .u8 7) ∧ Below w.heap.size w w' := by
  go_enter Tryd.func21, Tryd.ntmps21
  go_wp2_with fail
  go_ret
  exact ⟨rfl, bAlloc (Nat.le_refl _) (Below.refl _ _)⟩

theorem roper4 (w : World) : Calls Tryd.prog 21 #[.int .u8 4] w fun e w' => e = .returned (.int .u8 8) ∧ Below w.heap.size w w' := by
  go_enter Tryd.func21, Tryd.ntmps21
  go_wp2_with fail
  go_ret
  exact ⟨rfl, bAlloc (Nat.le_refl _) (Below.refl _ _)⟩

theorem roper5 (w : World) : Calls Tryd.prog 21 #[.int .u8 5] w fun e w' => e = .returned (.int .u8 9) ∧ Below w.heap.size w w' := by
  go_enter Tryd.func21, Tryd.ntmps21
  go_wp2_with fail
  go_ret
  exact ⟨rfl, bAlloc (Nat.le_refl _) (Below.refl _ _)⟩

theorem roper6 (w : World) : Calls Tryd.prog 21 #[.int .u8 6] w fun e w' => e = .returned (.int .u8 10) ∧ Below w.heap.size w w' := by
  go_enter Tryd.func21, Tryd.ntmps21
  go_wp2_with fail
  go_ret
  exact ⟨rfl, bAlloc (Nat.le_refl _) (Below.refl _ _)⟩

theorem roper7 (w : World) : Calls Tryd.prog 21 #[.int .u8 7] w fun e w' => e = .returned (.int .u8 11) ∧ Below w.heap.size w w' := by
  go_enter Tryd.func21, Tryd.ntmps21
  go_wp2_with fail
  go_ret
  exact ⟨rfl, bAlloc (Nat.le_refl _) (Below.refl _ _)⟩

theorem roper8 (w : World) : Calls Tryd.prog 21 #[.int .u8 8] w fun e w' => e = .returned (.int .u8 12) ∧ Below w.heap.size w w' := by
  go_enter Tryd.func21, Tryd.ntmps21
  go_wp2_with fail
  go_ret
  exact ⟨rfl, bAlloc (Nat.le_refl _) (Below.refl _ _)⟩

theorem roper9 (w : World) : Calls Tryd.prog 21 #[.int .u8 9] w fun e w' => e = .returned (.int .u8 13) ∧ Below w.heap.size w w' := by
  go_enter Tryd.func21, Tryd.ntmps21
  go_wp2_with fail
  go_ret
  exact ⟨rfl, bAlloc (Nat.le_refl _) (Below.refl _ _)⟩

theorem roper10 (w : World) : Calls Tryd.prog 21 #[.int .u8 10] w fun e w' => e = .returned (.int .u8 14) ∧ Below w.heap.size w w' := by
  go_enter Tryd.func21, Tryd.ntmps21
  go_wp2_with fail
  go_ret
  exact ⟨rfl, bAlloc (Nat.le_refl _) (Below.refl _ _)⟩

theorem roper11 (w : World) : Calls Tryd.prog 21 #[.int .u8 11] w fun e w' => e = .returned (.int .u8 15) ∧ Below w.heap.size w w' := by
  go_enter Tryd.func21, Tryd.ntmps21
  go_wp2_with fail
  go_ret
  exact ⟨rfl, bAlloc (Nat.le_refl _) (Below.refl _ _)⟩

theorem roper12 (w : World) : Calls Tryd.prog 21 #[.int .u8 12] w fun e w' => e = .returned (.int .u8 16) ∧ Below w.heap.size w w' := by
  go_enter Tryd.func21, Tryd.ntmps21
  go_wp2_with fail
  go_ret
  exact ⟨rfl, bAlloc (Nat.le_refl _) (Below.refl _ _)⟩

theorem roper13 (w : World) : Calls Tryd.prog 21 #[.int .u8 13] w fun e w' => e = .returned (.int .u8 18) ∧ Below w.heap.size w w' := by
  go_enter Tryd.func21, Tryd.ntmps21
  go_wp2_with fail
  go_ret
  exact ⟨rfl, bAlloc (Nat.le_refl _) (Below.refl _ _)⟩
theorem roper_all (n : Nat) (hn : 2 ≤ n) (hn' : n < 14) (w : World) : Calls Tryd.prog 21 #[.int .u8 n] w fun e w' => e = .returned (.int .u8 (ariOp n)) ∧ Below w.heap.size w w' := by
  match n, hn, hn' with
  | 2, _, _ => exact roper2 w
  | 3, _, _ => exact roper3 w
  | 4, _, _ => exact roper4 w
  | 5, _, _ => exact roper5 w
  | 6, _, _ => exact roper6 w
  | 7, _, _ => exact roper7 w
  | 8, _, _ => exact roper8 w
  | 9, _, _ => exact roper9 w
  | 10, _, _ => exact roper10 w
  | 11, _, _ => exact roper11 w
  | 12, _, _ => exact roper12 w
  | 13, _, _ => exact roper13 w

end Go.Proofs.YtdfofelchjpioaaDoor
