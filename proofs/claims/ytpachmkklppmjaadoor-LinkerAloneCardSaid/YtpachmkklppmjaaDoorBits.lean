/- Bitwise and, or of unsigned words as arithmetic: masks, and sums of parts that do not overlap. -/
import Derived.WalkKit
namespace Go.Proofs.YtpachmkklppmjaaDoor

theorem u32_and_mask (x : Int) (k : Nat) (hk : k ≤ 32) (h0 : 0 ≤ x) (h1 : x < 4294967296) : bits .and .u32 x (2 ^ k - 1) = x % 2 ^ k := by
  have hp : (2 : Int) ^ k ≤ 4294967296 := by
    have : (2 : Nat) ^ k ≤ 2 ^ 32 := Nat.pow_le_pow_right (by omega) hk
    have h2 : ((2 ^ k : Nat) : Int) ≤ ((2 ^ 32 : Nat) : Int) := by exact_mod_cast this
    simpa using h2
  have hpos : (1 : Int) ≤ 2 ^ k := by
    have : 1 ≤ (2 : Nat) ^ k := Nat.one_le_two_pow
    have h2 : ((1 : Nat) : Int) ≤ ((2 ^ k : Nat) : Int) := by exact_mod_cast this
    simpa using h2
  rw [u32_and x (2 ^ k - 1) h0 h1 (by omega) (by omega)]
  have e : ((2 : Int) ^ k - 1).toNat = 2 ^ k - 1 := by
    have h3 : ((2 ^ k : Nat) : Int) = (2 : Int) ^ k := by simp
    omega
  rw [e, Nat.and_two_pow_sub_one_eq_mod]
  have h3 : ((2 ^ k : Nat) : Int) = (2 : Int) ^ k := by simp
  rw [Int.natCast_emod, h3, Int.toNat_of_nonneg h0]

theorem u32_or_add (x y : Int) (k : Nat) (hx : 0 ≤ x) (hx1 : x < 4294967296) (hd : x % 2 ^ k = 0) (hy : 0 ≤ y) (hy1 : y < 2 ^ k) (hy2 : y < 4294967296) : bits .or .u32 x y = x + y := by
  rw [u32_or x y hx hx1 hy hy2]
  have h3 : ((2 ^ k : Nat) : Int) = (2 : Int) ^ k := by simp
  obtain ⟨q, hq⟩ : ∃ q : Nat, x.toNat = 2 ^ k * q := by
    refine ⟨x.toNat / 2 ^ k, ?_⟩
    have h4 : x.toNat % 2 ^ k = 0 := by
      have : ((x.toNat % 2 ^ k : Nat) : Int) = 0 := by rw [Int.natCast_emod, h3, Int.toNat_of_nonneg hx]; exact hd
      exact_mod_cast this
    have := Nat.div_add_mod x.toNat (2 ^ k)
    omega
  have hlt : y.toNat < 2 ^ k := by
    have : (y.toNat : Int) < ((2 ^ k : Nat) : Int) := by rw [h3, Int.toNat_of_nonneg hy]; exact hy1
    exact_mod_cast this
  rw [hq, ← Nat.two_pow_add_eq_or_of_lt hlt, ← hq]
  omega

theorem and15 (a : Int) (h0 : 0 ≤ a) (h1 : a ≤ 15) : bits .and .u32 a 15 = a := by
  have := u32_and_mask a 4 (by omega) h0 (by omega)
  have e : bits .and .u32 a 15 = a % 16 := this
  omega
theorem andI (i : Int) : bits .and .u32 (i % 4294967296) 262143 = i % 262144 := by
  have := u32_and_mask (i % 4294967296) 18 (by omega) (by omega) (by omega)
  have e : bits .and .u32 (i % 4294967296) 262143 = i % 4294967296 % 262144 := this
  omega

/-- The encoding of a valid instruction. -/
def encW (n : Nat) (a b c i : Int) : Int := n * 67108864 + a * 4194304 + b * 262144 + c * 16384 + i % 262144

theorem or22 (n : Nat) (a : Int) (hn : n < 64) (h0 : 0 ≤ a) (h1 : a ≤ 15) : bits .or .u32 (n * 67108864) (a * 4194304 % 4294967296) = n * 67108864 + a * 4194304 := by
  rw [u32_or_add _ _ 26 (by omega) (by omega) (by rw [show ((2 : Int) ^ 26) = 67108864 from rfl]; omega) (by omega) (by rw [show ((2 : Int) ^ 26) = 67108864 from rfl]; omega) (by omega)]
  omega
theorem or18 (n : Nat) (a b : Int) (hn : n < 64) (h0 : 0 ≤ a) (h1 : a ≤ 15) (h2 : 0 ≤ b) (h3 : b ≤ 15) : bits .or .u32 (n * 67108864 + a * 4194304) (b * 262144 % 4294967296) = n * 67108864 + a * 4194304 + b * 262144 := by
  rw [u32_or_add _ _ 22 (by omega) (by omega) (by rw [show ((2 : Int) ^ 22) = 4194304 from rfl]; omega) (by omega) (by rw [show ((2 : Int) ^ 22) = 4194304 from rfl]; omega) (by omega)]
  omega
theorem or14 (n : Nat) (a b c : Int) (hn : n < 64) (h0 : 0 ≤ a) (h1 : a ≤ 15) (h2 : 0 ≤ b) (h3 : b ≤ 15) (h4 : 0 ≤ c) (h5 : c ≤ 15) :
    bits .or .u32 (n * 67108864 + a * 4194304 + b * 262144) (c * 16384 % 4294967296) = n * 67108864 + a * 4194304 + b * 262144 + c * 16384 := by
  rw [u32_or_add _ _ 18 (by omega) (by omega) (by rw [show ((2 : Int) ^ 18) = 262144 from rfl]; omega) (by omega) (by rw [show ((2 : Int) ^ 18) = 262144 from rfl]; omega) (by omega)]
  omega
theorem orI (x i : Int) (h0 : 0 ≤ x) (h1 : x < 4294967296) (h2 : x % 262144 = 0) : bits .or .u32 x (i % 262144 % 4294967296) = x + i % 262144 := by
  rw [u32_or_add _ _ 18 h0 h1 (by rw [show ((2 : Int) ^ 18) = 262144 from rfl]; omega) (by omega) (by rw [show ((2 : Int) ^ 18) = 262144 from rfl]; omega) (by omega)]
  omega

end Go.Proofs.YtpachmkklppmjaaDoor
