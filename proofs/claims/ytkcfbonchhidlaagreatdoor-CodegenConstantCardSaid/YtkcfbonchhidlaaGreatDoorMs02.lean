import Derived.WalkKit
import Derived.Test.YtkcfbonchhidlaaGreatDoorMs01
import Derived.Test.YtkcfbonchhidlaaGreatDoorMs00
namespace Go.Proofs.YtkcfbonchhidlaaGreatDoor

theorem u32_and_mask (x : Int) (k : Nat) (hk : k ≤ 32) (h0 : 0 ≤ x) (h1 : x < 4294967296) : bits .and .u32 x (2 ^ k - 1) = x % 2 ^ k := by
  have hp : (2 : Int) ^ k ≤ 4294967296 := by
    have : (2 : Nat) ^ k ≤ 2 ^ 32 := Nat.pow_le_pow_right (by omega) hk
    have h2 : ((2 ^ k : Nat) : Int) ≤ ((2 ^ 32 : Nat) : Int) := by exact_mod_cast this
    simpa using h2
  have hpos : (1 : Int) ≤ 2 ^ k := by
    have : 1 ≤ (2 : Nat) ^ k := Nat.one_le_two_pow
    have h2 : ((1 : Nat) : Int) ≤ ((2 ^ k : Nat) : Int) := by exact_mod_cast this
    simpa using h2
  rw [u32_and x (2 ^ k - 1) h0 h1 (by omega) (by omega)]
  have e : ((2 : Int) ^ k - 1).toNat = 2 ^ k - 1 := by
    have h3 : ((2 ^ k : Nat) : Int) = (2 : Int) ^ k := by simp
    omega
  rw [e, Nat.and_two_pow_sub_one_eq_mod]
  have h3 : ((2 ^ k : Nat) : Int) = (2 : Int) ^ k := by simp
  rw [Int.natCast_emod, h3, Int.toNat_of_nonneg h0]

theorem u32_or_add (x y : Int) (k : Nat) (hx : 0 ≤ x) (hx1 : x < 4294967296) (hd : x % 2 ^ k = 0) (hy : 0 ≤ y) (hy1 : y < 2 ^ k) (hy2 : y < 4294967296) : bits .or .u32 x y = x + y := by
  rw [u32_or x y hx hx1 hy hy2]
  have h3 : ((2 ^ k : Nat) : Int) = (2 : Int) ^ k := by simp
  obtain ⟨q, hq⟩ : ∃ q : Nat, x.toNat = 2 ^ k * q := by
    refine ⟨x.toNat / 2 ^ k, ?_⟩
    have h4 : x.toNat % 2 ^ k = 0 := by
      have : ((x.toNat % 2 ^ k : Nat) : Int) = 0 := by rw [Int.natCast_emod, h3, Int.toNat_of_nonneg hx]; exact hd
      exact_mod_cast this
    have := Nat.div_add_mod x.toNat (2 ^ k)
    omega
  have hlt : y.toNat < 2 ^ k := by
    have : (y.toNat : Int) < ((2 ^ k : Nat) : Int) := by rw [h3, Int.toNat_of_nonneg hy]; exact hy1
    exact_mod_cast this
  rw [hq, ← Nat.two_pow_add_eq_or_of_lt hlt, ← hq]
  omega

theorem and15 (a : Int) (h0 : 0 ≤ a) (h1 : a ≤ 15) : bits .and .u32 a 15 = a := by
  have := u32_and_mask a 4 (by omega) h0 (by omega)
  have e : bits .and .u32 a 15 = a % 16 := this
  omega
theorem andI (i : Int) : bits .and .u32 (i % 4294967296) 262143 = i % 262144 := by
  have := u32_and_mask (i % 4294967296) 18 (by omega) (by omega) (by omega)
  have e : bits .and .u32 (i % 4294967296) 262143 = i % 4294967296 % 262144 := this
  omega

def encW (n : Nat) (a b c i : Int) : Int := n * 67108864 + a * 4194304 + b * 262144 + c * 16384 + i % 262144

theorem or22 (n : Nat) (a : Int) (hn : n < 64) (h0 : 0 ≤ a) (h1 : a ≤ 15) : bits .or .u32 (n * 67108864) (a * 4194304 % 4294967296) = n * 67108864 + a * 4194304 := by
  rw [u32_or_add _ _ 26 (by omega) (by omega) (by rw [show ((2 : Int) ^ 26) = 67108864 from rfl]; omega) (by omega) (by rw [show ((2 : Int) ^ 26) = 67108864 from rfl]; omega) (by omega)]
  omega
theorem or18 (n : Nat) (a b : Int) (hn : n < 64) (h0 : 0 ≤ a) (h1 : a ≤ 15) (h2 : 0 ≤ b) (h3 : b ≤ 15) : bits .or .u32 (n * 67108864 + a * 4194304) (b * 262144 % 4294967296) = n * 67108864 + a * 4194304 + b * 262144 := by
  rw [u32_or_add _ _ 22 (by omega) (by omega) (by rw [show ((2 : Int) ^ 22) = 4194304 from rfl]; omega) (by omega) (by rw [show ((2 : Int) ^ 22) = 4194304 from rfl]; omega) (by omega)]
  omega
theorem or14 (n : Nat) (a b c : Int) (hn : n < 64) (h0 : 0 ≤ a) (h1 : a ≤ 15) (h2 : 0 ≤ b) (h3 : b ≤ 15) (h4 : 0 ≤ c) (h5 : c ≤ 15) :
    bits .or .u32 (n * 67108864 + a * 4194304 + b * 262144) (c * 16384 % 4294967296) = n * 67108864 + a * 4194304 + b * 262144 + c * 16384 := by
  rw [u32_or_add _ _ 18 (by omega) (by omega) (by rw [show ((2 : Int) ^ 18) = 262144 from rfl]; omega) (by omega) (by rw [show ((2 : Int) ^ 18) = 262144 from rfl]; omega) (by omega)]
  omega
theorem orI (x i : Int) (h0 : 0 ≤ x) (h1 : x < 4294967296) (h2 : x % 262144 = 0) : bits .or .u32 x (i % 262144 % 4294967296) = x + i % 262144 := by
  rw [u32_or_add _ _ 18 h0 h1 (by rw [show ((2 : Int) ^ 18) = 262144 from rfl]; omega) (by omega) (by rw [show ((2 : Int) ^ 18) = 262144 from rfl]; omega) (by omega)]
  omega

end Go.Proofs.YtkcfbonchhidlaaGreatDoor

namespace Go.Proofs.YtkcfbonchhidlaaGreatDoor
open Go.RowKit

theorem ret_u32_err {x y : Int} (k : Int) (h : x = y) : Ending.returned (.tuple #[.int .u32 x, .int .i64 k]) = .returned (.tuple #[.int .u32 y, .int .i64 k]) := by rw [h]

set_option maxHeartbeats 400000 in
theorem encode_no (n : Nat) (a b c i : Int) (w : World) (hT : Tab w) (hv : vld n a b c i = false) :
    Calls Tryz.prog 7 #[.agg #[.int .u8 n, .int .i64 a, .int .i64 b, .int .i64 c, .int .i64 i]] w fun e w' => e = .returned (.tuple #[.int .u32 0, .int .i64 3]) ∧ Below w.heap.size w w' := by
  have hz := hT.size
  go_enter Tryz.func7, Tryz.ntmps7
  go_wp2_with fail
  refine (valid_any n a b c i _ (hT.of_below ((Below.refl _ _).alloc (Nat.le_refl _) _))).mono ?_
  rintro e w1 ⟨rfl, hb1⟩
  go_wp2_with fail
  go_ret2
  exact ⟨rfl, ((Below.refl _ _).alloc (Nat.le_refl _) _).trans (hb1.mono (by simp))⟩

set_option maxHeartbeats 800000 in
theorem encode_none (n : Nat) (a b c i : Int) (w : World) (hn : n < 30) (hT : Tab w) (ho : fo n = ⟨#[]⟩) (hv : vld n a b c i = true)  :
    Calls Tryz.prog 7 #[.agg #[.int .u8 n, .int .i64 a, .int .i64 b, .int .i64 c, .int .i64 i]] w fun e w' => e = .returned (.tuple #[.int .u32 (encW n 0 0 0 0), .int .i64 0]) ∧ Below w.heap.size w w' := by
  obtain ⟨-, h1, -, -, -, -, hz⟩ := fmtAt hT n hn
  rw [ho] at h1
  clear ho
  go_enter Tryz.func7, Tryz.ntmps7
  go_wp2_with fail
  refine (valid_any n a b c i _ (hT.of_below ((Below.refl _ _).alloc (Nat.le_refl _) _))).mono ?_
  rintro e w1 ⟨rfl, hb1⟩
  obtain ⟨hc1, hf1⟩ := bcell hb1
  have hz1 : w.heap.size + 1 ≤ w1.heap.size := by have := hb1.size; simp at this; omega
  go_wp2_with fail
  refine wp_loop_rounds 1 ?_
  rw [rounds_succ]
  go_wp2_with fail
  go_ret2
  refine ⟨ret_u32_err 0 ?_, by repeat (first | exact Below.refl _ _ | refine below_drewN ?_ _ | refine Below.drew ?_ | exact hb1.mono (by simp) | refine Below.trans ?_ (hb1.mono (by simp)) | refine Below.setCell ?_ (by simp) _ | refine Below.alloc ?_ (by simp) _)⟩
  clear hc1 hf1
  simp only [encW]
  omega

set_option maxHeartbeats 800000 in
theorem encode_abc (n : Nat) (a b c i : Int) (w : World) (hn : n < 30) (hT : Tab w) (ho : fo n = ⟨#[65, 66, 67]⟩) (hv : vld n a b c i = true) (ha : 0 ≤ a ∧ a ≤ 15) (hb : 0 ≤ b ∧ b ≤ 15) (hc : 0 ≤ c ∧ c ≤ 15) :
    Calls Tryz.prog 7 #[.agg #[.int .u8 n, .int .i64 a, .int .i64 b, .int .i64 c, .int .i64 i]] w fun e w' => e = .returned (.tuple #[.int .u32 (encW n a b c 0), .int .i64 0]) ∧ Below w.heap.size w w' := by
  obtain ⟨-, h1, -, -, -, -, hz⟩ := fmtAt hT n hn
  rw [ho] at h1
  clear ho
  have e0 : (((⟨#[65, 66, 67]⟩ : ByteArray)[0]'(by decide)).toNat : Int) = 65 := rfl
  have e1 : (((⟨#[65, 66, 67]⟩ : ByteArray)[1]'(by decide)).toNat : Int) = 66 := rfl
  have e2 : (((⟨#[65, 66, 67]⟩ : ByteArray)[2]'(by decide)).toNat : Int) = 67 := rfl
  have f65 : fieldOff 65 = 1 := rfl
  have p65 : posLow 65 = 22 := rfl
  have q65 : posSize 65 = 4 := rfl
  have f66 : fieldOff 66 = 2 := rfl
  have p66 : posLow 66 = 18 := rfl
  have q66 : posSize 66 = 4 := rfl
  have f67 : fieldOff 67 = 3 := rfl
  have p67 : posLow 67 = 14 := rfl
  have q67 : posSize 67 = 4 := rfl
  go_enter Tryz.func7, Tryz.ntmps7
  go_wp2_with fail
  refine (valid_any n a b c i _ (hT.of_below ((Below.refl _ _).alloc (Nat.le_refl _) _))).mono ?_
  rintro e w1 ⟨rfl, hb1⟩
  obtain ⟨hc1, hf1⟩ := bcell hb1
  have hz1 : w.heap.size + 1 ≤ w1.heap.size := by have := hb1.size; simp at this; omega
  go_wp2_with fail
  refine wp_loop_rounds 4 ?_
  rw [rounds_succ]
  go_wp2_with ((go_at_call 13; refine (position_any _ _).mono ?_; rintro e w' ⟨rfl, rfl⟩))
  go_quiet ((go_at_call 14; first | exact quiet_left (field_any _ _ _) | exact quiet_add_left (field_any _ _ _)))
  go_wp2_with fail
  rw [rounds_succ]
  go_wp2_with ((go_at_call 13; refine (position_any _ _).mono ?_; rintro e w' ⟨rfl, rfl⟩))
  go_quiet ((go_at_call 14; first | exact quiet_left (field_any _ _ _) | exact quiet_add_left (field_any _ _ _)))
  go_wp2_with fail
  rw [rounds_succ]
  go_wp2_with ((go_at_call 13; refine (position_any _ _).mono ?_; rintro e w' ⟨rfl, rfl⟩))
  go_quiet ((go_at_call 14; first | exact quiet_left (field_any _ _ _) | exact quiet_add_left (field_any _ _ _)))
  go_wp2_with fail
  rw [rounds_succ]
  go_wp2_with fail
  go_ret2
  refine ⟨ret_u32_err 0 ?_, by repeat (first | exact Below.refl _ _ | refine below_drewN ?_ _ | refine Below.drew ?_ | exact hb1.mono (by simp) | refine Below.trans ?_ (hb1.mono (by simp)) | refine Below.setCell ?_ (by simp) _ | refine Below.alloc ?_ (by simp) _)⟩
  clear hc1 hf1
  rw [and15 a ha.1 ha.2, or22 n a (by omega) ha.1 ha.2, and15 b hb.1 hb.2, or18 n a b (by omega) ha.1 ha.2 hb.1 hb.2, and15 c hc.1 hc.2, or14 n a b c (by omega) ha.1 ha.2 hb.1 hb.2 hc.1 hc.2]
  simp only [encW]
  omega

set_option maxHeartbeats 800000 in
theorem encode_ai (n : Nat) (a b c i : Int) (w : World) (hn : n < 30) (hT : Tab w) (ho : fo n = ⟨#[65, 73]⟩) (hv : vld n a b c i = true) (ha : 0 ≤ a ∧ a ≤ 15) :
    Calls Tryz.prog 7 #[.agg #[.int .u8 n, .int .i64 a, .int .i64 b, .int .i64 c, .int .i64 i]] w fun e w' => e = .returned (.tuple #[.int .u32 (encW n a 0 0 i), .int .i64 0]) ∧ Below w.heap.size w w' := by
  obtain ⟨-, h1, -, -, -, -, hz⟩ := fmtAt hT n hn
  rw [ho] at h1
  clear ho
  have e0 : (((⟨#[65, 73]⟩ : ByteArray)[0]'(by decide)).toNat : Int) = 65 := rfl
  have e1 : (((⟨#[65, 73]⟩ : ByteArray)[1]'(by decide)).toNat : Int) = 73 := rfl
  have f65 : fieldOff 65 = 1 := rfl
  have p65 : posLow 65 = 22 := rfl
  have q65 : posSize 65 = 4 := rfl
  have f73 : fieldOff 73 = 4 := rfl
  have p73 : posLow 73 = 0 := rfl
  have q73 : posSize 73 = 18 := rfl
  go_enter Tryz.func7, Tryz.ntmps7
  go_wp2_with fail
  refine (valid_any n a b c i _ (hT.of_below ((Below.refl _ _).alloc (Nat.le_refl _) _))).mono ?_
  rintro e w1 ⟨rfl, hb1⟩
  obtain ⟨hc1, hf1⟩ := bcell hb1
  have hz1 : w.heap.size + 1 ≤ w1.heap.size := by have := hb1.size; simp at this; omega
  go_wp2_with fail
  refine wp_loop_rounds 3 ?_
  rw [rounds_succ]
  go_wp2_with ((go_at_call 13; refine (position_any _ _).mono ?_; rintro e w' ⟨rfl, rfl⟩))
  go_quiet ((go_at_call 14; first | exact quiet_left (field_any _ _ _) | exact quiet_add_left (field_any _ _ _)))
  go_wp2_with fail
  rw [rounds_succ]
  go_wp2_with ((go_at_call 13; refine (position_any _ _).mono ?_; rintro e w' ⟨rfl, rfl⟩))
  go_quiet ((go_at_call 14; first | exact quiet_left (field_any _ _ _) | exact quiet_add_left (field_any _ _ _)))
  go_wp2_with fail
  rw [rounds_succ]
  go_wp2_with fail
  go_ret2
  refine ⟨ret_u32_err 0 ?_, by repeat (first | exact Below.refl _ _ | refine below_drewN ?_ _ | refine Below.drew ?_ | exact hb1.mono (by simp) | refine Below.trans ?_ (hb1.mono (by simp)) | refine Below.setCell ?_ (by simp) _ | refine Below.alloc ?_ (by simp) _)⟩
  clear hc1 hf1
  rw [and15 a ha.1 ha.2, or22 n a (by omega) ha.1 ha.2, andI, orI _ i (by omega) (by omega) (by omega)]
  simp only [encW]
  omega

set_option maxHeartbeats 800000 in
theorem encode_abi (n : Nat) (a b c i : Int) (w : World) (hn : n < 30) (hT : Tab w) (ho : fo n = ⟨#[65, 66, 73]⟩) (hv : vld n a b c i = true) (ha : 0 ≤ a ∧ a ≤ 15) (hb : 0 ≤ b ∧ b ≤ 15) :
    Calls Tryz.prog 7 #[.agg #[.int .u8 n, .int .i64 a, .int .i64 b, .int .i64 c, .int .i64 i]] w fun e w' => e = .returned (.tuple #[.int .u32 (encW n a b 0 i), .int .i64 0]) ∧ Below w.heap.size w w' := by
  obtain ⟨-, h1, -, -, -, -, hz⟩ := fmtAt hT n hn
  rw [ho] at h1
  clear ho
  have e0 : (((⟨#[65, 66, 73]⟩ : ByteArray)[0]'(by decide)).toNat : Int) = 65 := rfl
  have e1 : (((⟨#[65, 66, 73]⟩ : ByteArray)[1]'(by decide)).toNat : Int) = 66 := rfl
  have e2 : (((⟨#[65, 66, 73]⟩ : ByteArray)[2]'(by decide)).toNat : Int) = 73 := rfl
  have f65 : fieldOff 65 = 1 := rfl
  have p65 : posLow 65 = 22 := rfl
  have q65 : posSize 65 = 4 := rfl
  have f66 : fieldOff 66 = 2 := rfl
  have p66 : posLow 66 = 18 := rfl
  have q66 : posSize 66 = 4 := rfl
  have f73 : fieldOff 73 = 4 := rfl
  have p73 : posLow 73 = 0 := rfl
  have q73 : posSize 73 = 18 := rfl
  go_enter Tryz.func7, Tryz.ntmps7
  go_wp2_with fail
  refine (valid_any n a b c i _ (hT.of_below ((Below.refl _ _).alloc (Nat.le_refl _) _))).mono ?_
  rintro e w1 ⟨rfl, hb1⟩
  obtain ⟨hc1, hf1⟩ := bcell hb1
  have hz1 : w.heap.size + 1 ≤ w1.heap.size := by have := hb1.size; simp at this; omega
  go_wp2_with fail
  refine wp_loop_rounds 4 ?_
  rw [rounds_succ]
  go_wp2_with ((go_at_call 13; refine (position_any _ _).mono ?_; rintro e w' ⟨rfl, rfl⟩))
  go_quiet ((go_at_call 14; first | exact quiet_left (field_any _ _ _) | exact quiet_add_left (field_any _ _ _)))
  go_wp2_with fail
  rw [rounds_succ]
  go_wp2_with ((go_at_call 13; refine (position_any _ _).mono ?_; rintro e w' ⟨rfl, rfl⟩))
  go_quiet ((go_at_call 14; first | exact quiet_left (field_any _ _ _) | exact quiet_add_left (field_any _ _ _)))
  go_wp2_with fail
  rw [rounds_succ]
  go_wp2_with ((go_at_call 13; refine (position_any _ _).mono ?_; rintro e w' ⟨rfl, rfl⟩))
  go_quiet ((go_at_call 14; first | exact quiet_left (field_any _ _ _) | exact quiet_add_left (field_any _ _ _)))
  go_wp2_with fail
  rw [rounds_succ]
  go_wp2_with fail
  go_ret2
  refine ⟨ret_u32_err 0 ?_, by repeat (first | exact Below.refl _ _ | refine below_drewN ?_ _ | refine Below.drew ?_ | exact hb1.mono (by simp) | refine Below.trans ?_ (hb1.mono (by simp)) | refine Below.setCell ?_ (by simp) _ | refine Below.alloc ?_ (by simp) _)⟩
  clear hc1 hf1
  rw [and15 a ha.1 ha.2, or22 n a (by omega) ha.1 ha.2, and15 b hb.1 hb.2, or18 n a b (by omega) ha.1 ha.2 hb.1 hb.2, andI, orI _ i (by omega) (by omega) (by omega)]
  simp only [encW]
  omega

set_option maxHeartbeats 800000 in
theorem encode_i (n : Nat) (a b c i : Int) (w : World) (hn : n < 30) (hT : Tab w) (ho : fo n = ⟨#[73]⟩) (hv : vld n a b c i = true)  :
    Calls Tryz.prog 7 #[.agg #[.int .u8 n, .int .i64 a, .int .i64 b, .int .i64 c, .int .i64 i]] w fun e w' => e = .returned (.tuple #[.int .u32 (encW n 0 0 0 i), .int .i64 0]) ∧ Below w.heap.size w w' := by
  obtain ⟨-, h1, -, -, -, -, hz⟩ := fmtAt hT n hn
  rw [ho] at h1
  clear ho
  have e0 : (((⟨#[73]⟩ : ByteArray)[0]'(by decide)).toNat : Int) = 73 := rfl
  have f73 : fieldOff 73 = 4 := rfl
  have p73 : posLow 73 = 0 := rfl
  have q73 : posSize 73 = 18 := rfl
  go_enter Tryz.func7, Tryz.ntmps7
  go_wp2_with fail
  refine (valid_any n a b c i _ (hT.of_below ((Below.refl _ _).alloc (Nat.le_refl _) _))).mono ?_
  rintro e w1 ⟨rfl, hb1⟩
  obtain ⟨hc1, hf1⟩ := bcell hb1
  have hz1 : w.heap.size + 1 ≤ w1.heap.size := by have := hb1.size; simp at this; omega
  go_wp2_with fail
  refine wp_loop_rounds 2 ?_
  rw [rounds_succ]
  go_wp2_with ((go_at_call 13; refine (position_any _ _).mono ?_; rintro e w' ⟨rfl, rfl⟩))
  go_quiet ((go_at_call 14; first | exact quiet_left (field_any _ _ _) | exact quiet_add_left (field_any _ _ _)))
  go_wp2_with fail
  rw [rounds_succ]
  go_wp2_with fail
  go_ret2
  refine ⟨ret_u32_err 0 ?_, by repeat (first | exact Below.refl _ _ | refine below_drewN ?_ _ | refine Below.drew ?_ | exact hb1.mono (by simp) | refine Below.trans ?_ (hb1.mono (by simp)) | refine Below.setCell ?_ (by simp) _ | refine Below.alloc ?_ (by simp) _)⟩
  clear hc1 hf1
  rw [andI, orI _ i (by omega) (by omega) (by omega)]
  simp only [encW]
  omega

theorem vld_parts {n : Nat} {a b c i : Int} (h : vld n a b c i = true) : n < 30 ∧ (0 ≤ a ∧ a ≤ if uA n then 15 else 0) ∧ (0 ≤ b ∧ b ≤ if uB n then 15 else 0) ∧ (0 ≤ c ∧ c ≤ if uC n then 15 else 0) ∧ ((if uI n then flo n else 0) ≤ i ∧ i ≤ if uI n then fhi n else 0) := by
  simpa [vld, vldS] using h

theorem encode_ok (n : Nat) (a b c i : Int) (w : World) (hT : Tab w) (hv : vld n a b c i = true) :
    Calls Tryz.prog 7 #[.agg #[.int .u8 n, .int .i64 a, .int .i64 b, .int .i64 c, .int .i64 i]] w fun e w' => e = .returned (.tuple #[.int .u32 (encW n a b c i), .int .i64 0]) ∧ Below w.heap.size w w' := by
  obtain ⟨hn, ha, hb, hc, hi⟩ := vld_parts hv
  rcases shape n hn with ⟨h, h1, h2, h3, h4⟩ | ⟨h, h1, h2, h3, h4⟩ | ⟨h, h1, h2, h3, h4⟩ | ⟨h, h1, h2, h3, h4⟩ | ⟨h, h1, h2, h3, h4⟩
  all_goals simp only [h1, h2, h3, h4, if_true, if_false, Bool.false_eq_true] at ha hb hc hi
  · obtain rfl : a = 0 := by omega
    obtain rfl : b = 0 := by omega
    obtain rfl : c = 0 := by omega
    obtain rfl : i = 0 := by omega
    exact encode_none n 0 0 0 0 w hn hT h hv
  · obtain rfl : i = 0 := by omega
    exact encode_abc n a b c 0 w hn hT h hv ha hb hc
  · obtain rfl : b = 0 := by omega
    obtain rfl : c = 0 := by omega
    exact encode_ai n a 0 0 i w hn hT h hv ha
  · obtain rfl : c = 0 := by omega
    exact encode_abi n a b 0 i w hn hT h hv ha hb
  · obtain rfl : a = 0 := by omega
    obtain rfl : b = 0 := by omega
    obtain rfl : c = 0 := by omega
    exact encode_i n 0 0 0 i w hn hT h hv

def encV (n : Nat) (a b c i : Int) : Int := if vld n a b c i then encW n a b c i else 0
def encE (n : Nat) (a b c i : Int) : Int := if vld n a b c i then 0 else 3
theorem encode_any (n : Nat) (a b c i : Int) (w : World) (hT : Tab w) :
    Calls Tryz.prog 7 #[.agg #[.int .u8 n, .int .i64 a, .int .i64 b, .int .i64 c, .int .i64 i]] w fun e w' => e = .returned (.tuple #[.int .u32 (encV n a b c i), .int .i64 (encE n a b c i)]) ∧ Below w.heap.size w w' := by
  cases hv : vld n a b c i
  · have := encode_no n a b c i w hT hv
    simpa [encV, encE, hv] using this
  · have := encode_ok n a b c i w hT hv
    simpa [encV, encE, hv] using this

end Go.Proofs.YtkcfbonchhidlaaGreatDoor

namespace Go.Proofs.YtkcfbonchhidlaaGreatDoor
open Go.RowKit

theorem run_result5 {P : Program} {fn : Func} {p u : Tmp} {ty : TypeId} (hr : fn.results = #[.cell p ty, .tmp u]) (hag : ∀ w : World, (isAgg ty).run P w = .ok true w) (hsz : ∀ w : World, (sizeOf ty).run P w = .ok 5 w)
    {tmps : Array Value} {w1 : World} {B : Nat} (v0 v1 v2 v3 v4 r : Value) (hp : tmps.getD p undef = .pointer (some ⟨B, 0, none⟩)) (hu : tmps.getD u undef = r)
    (h0 : w1.cell? ⟨B, 0, none⟩ ≠ none) (h1 : w1.cell? ⟨B, 1, none⟩ ≠ none) (h2 : w1.cell? ⟨B, 2, none⟩ ≠ none) (h3 : w1.cell? ⟨B, 3, none⟩ ≠ none) (h4 : w1.cell? ⟨B, 4, none⟩ ≠ none) :
    (results fn tmps).run P (((((w1.setCell ⟨B, 0, none⟩ v0).setCell ⟨B, 1, none⟩ v1).setCell ⟨B, 2, none⟩ v2).setCell ⟨B, 3, none⟩ v3).setCell ⟨B, 4, none⟩ v4) =
      .ok (.tuple #[.agg #[v0, v1, v2, v3, v4], r]) (((((w1.setCell ⟨B, 0, none⟩ v0).setCell ⟨B, 1, none⟩ v1).setCell ⟨B, 2, none⟩ v2).setCell ⟨B, 3, none⟩ v3).setCell ⟨B, 4, none⟩ v4) := by
  have s : ∀ (w : World) (i j : Nat) (x : Value), i ≠ j → (w.setCell ⟨B, i, none⟩ x).cell? ⟨B, j, none⟩ = w.cell? ⟨B, j, none⟩ := fun w i j x hij => World.cell?_setCell_other _ _ _ _ (by intro e; injection e with _ e2; exact hij e2)
  have t : ∀ (w : World) (i : Nat) (x : Value), w.cell? ⟨B, i, none⟩ ≠ none → (w.setCell ⟨B, i, none⟩ x).cell? ⟨B, i, none⟩ = some x := fun w i x h => by
    obtain ⟨y, hy⟩ := Option.ne_none_iff_exists'.1 h
    exact World.cell?_setCell_same _ _ _ hy
  have hl : ∀ (j : Nat) (v : Value), [v0, v1, v2, v3, v4][j]? = some v → (((((w1.setCell ⟨B, 0, none⟩ v0).setCell ⟨B, 1, none⟩ v1).setCell ⟨B, 2, none⟩ v2).setCell ⟨B, 3, none⟩ v3).setCell ⟨B, 4, none⟩ v4).cell? ((⟨B, 0, none⟩ : Addr).add j) = some v := by
    intro j v hj
    match j, hj with
    | 0, hj => obtain rfl : v0 = v := by simpa using hj
               show World.cell? _ ⟨B, 0, none⟩ = _
               rw [s _ 4 0 _ (by omega), s _ 3 0 _ (by omega), s _ 2 0 _ (by omega), s _ 1 0 _ (by omega), t _ 0 _ h0]
    | 1, hj => obtain rfl : v1 = v := by simpa using hj
               show World.cell? _ ⟨B, 1, none⟩ = _
               rw [s _ 4 1 _ (by omega), s _ 3 1 _ (by omega), s _ 2 1 _ (by omega), t _ 1 _ (by rw [s _ 0 1 _ (by omega)]; exact h1)]
    | 2, hj => obtain rfl : v2 = v := by simpa using hj
               show World.cell? _ ⟨B, 2, none⟩ = _
               rw [s _ 4 2 _ (by omega), s _ 3 2 _ (by omega), t _ 2 _ (by rw [s _ 1 2 _ (by omega), s _ 0 2 _ (by omega)]; exact h2)]
    | 3, hj => obtain rfl : v3 = v := by simpa using hj
               show World.cell? _ ⟨B, 3, none⟩ = _
               rw [s _ 4 3 _ (by omega), t _ 3 _ (by rw [s _ 2 3 _ (by omega), s _ 1 3 _ (by omega), s _ 0 3 _ (by omega)]; exact h3)]
    | 4, hj => obtain rfl : v4 = v := by simpa using hj
               show World.cell? _ ⟨B, 4, none⟩ = _
               rw [t _ 4 _ (by rw [s _ 3 4 _ (by omega), s _ 2 4 _ (by omega), s _ 1 4 _ (by omega), s _ 0 4 _ (by omega)]; exact h4)]
    | j + 5, hj => simp at hj
  rw [results_cell_tmp hr, hp, hu]
  simp only [asAddr, loadVar, Sem.run_bind, Sem.run_pure, Result.andThen, hag, hsz, if_true]
  have e := run_loadCells_list (P := P) _ ⟨B, 0, none⟩ [v0, v1, v2, v3, v4] hl
  simp only [List.length_cons, List.length_nil] at e
  simp [e]

end Go.Proofs.YtkcfbonchhidlaaGreatDoor

