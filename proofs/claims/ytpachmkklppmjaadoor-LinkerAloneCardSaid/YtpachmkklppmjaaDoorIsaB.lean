/- Contracts of isa.Encode. -/
import Derived.Test.YtpachmkklppmjaaDoorIsaT
import Derived.Test.YtpachmkklppmjaaDoorBits
namespace Go.Proofs.YtpachmkklppmjaaDoor
open Go.RowKit

theorem ret_u32_err {x y : Int} (k : Int) (h : x = y) : Ending.returned (.tuple #[.int .u32 x, .int .i64 k]) = .returned (.tuple #[.int .u32 y, .int .i64 k]) := by rw [h]

set_option maxHeartbeats 400000 in
theorem encode_no (n : Nat) (a b c i : Int) (w : World) (hT : Tab w) (hv : vld n a b c i = false) :
    Calls Tryd.prog 13 #[.agg #[.int .u8 n, .int .i64 a, .int .i64 b, .int .i64 c, .int .i64 i]] w fun e w' => e = .returned (.tuple #[.int .u32 0, .int .i64 3]) ∧ Below w.heap.size w w' := by
  have hz := hT.size
  go_enter Tryd.func13, Tryd.ntmps13
  go_wp2_with fail
  refine (valid_any n a b c i _ (hT.of_below ((Below.refl _ _).alloc (Nat.le_refl _) _))).mono ?_
  rintro e w1 ⟨rfl, hb1⟩
  go_wp2_with fail
  go_ret2
  exact ⟨rfl, ((Below.refl _ _).alloc (Nat.le_refl _) _).trans (hb1.mono (by simp))⟩

set_option maxHeartbeats 800000 in
theorem encode_none (n : Nat) (a b c i : Int) (w : World) (hn : n < 30) (hT : Tab w) (ho : fo n = ⟨#[]⟩) (hv : vld n a b c i = true)  :
    Calls Tryd.prog 13 #[.agg #[.int .u8 n, .int .i64 a, .int .i64 b, .int .i64 c, .int .i64 i]] w fun e w' => e = .returned (.tuple #[.int .u32 (encW n 0 0 0 0), .int .i64 0]) ∧ Below w.heap.size w w' := by
  obtain ⟨-, h1, -, -, -, -, hz⟩ := fmtAt hT n hn
  rw [ho] at h1
  clear ho
  go_enter Tryd.func13, Tryd.ntmps13
  go_wp2_with fail
  refine (valid_any n a b c i _ (hT.of_below ((Below.refl _ _).alloc (Nat.le_refl _) _))).mono ?_
  rintro e w1 ⟨rfl, hb1⟩
  obtain ⟨hc1, hf1⟩ := bcell hb1
  have hz1 : w.heap.size + 1 ≤ w1.heap.size := by have := hb1.size; simp at this; omega
  go_wp2_with fail
  refine wp_loop_rounds 1 ?_
  rw [rounds_succ]
  go_wp2_with fail
  go_ret2
  refine ⟨ret_u32_err 0 ?_, by repeat (first | exact Below.refl _ _ | refine below_drewN ?_ _ | refine Below.drew ?_ | exact hb1.mono (by simp) | refine Below.trans ?_ (hb1.mono (by simp)) | refine Below.setCell ?_ (by simp) _ | refine Below.alloc ?_ (by simp) _)⟩
  clear hc1 hf1
  simp only [encW]
  omega

set_option maxHeartbeats 800000 in
theorem encode_abc (n : Nat) (a b c i : Int) (w : World) (hn : n < 30) (hT : Tab w) (ho : fo n = ⟨#[65, 66, 67]⟩) (hv : vld n a b c i = true) (ha : 0 ≤ a ∧ a ≤ 15) (hb : 0 ≤ b ∧ b ≤ 15) (hc : 0 ≤ c ∧ c ≤ 15) :
    Calls Tryd.prog 13 #[.agg #[.int .u8 n, .int .i64 a, .int .i64 b, .int .i64 c, .int .i64 i]] w fun e w' => e = .returned (.tuple #[.int .u32 (encW n a b c 0), .int .i64 0]) ∧ Below w.heap.size w w' := by
  obtain ⟨-, h1, -, -, -, -, hz⟩ := fmtAt hT n hn
  rw [ho] at h1
  clear ho
  have e0 : (((⟨#[65, 66, 67]⟩ : ByteArray)[0]'(by decide)).toNat : Int) = 65 := rfl
  have e1 : (((⟨#[65, 66, 67]⟩ : ByteArray)[1]'(by decide)).toNat : Int) = 66 := rfl
  have e2 : (((⟨#[65, 66, 67]⟩ : ByteArray)[2]'(by decide)).toNat : Int) = 67 := rfl
  have f65 : fieldOff 65 = 1 := rfl
  have p65 : posLow 65 = 22 := rfl
  have q65 : posSize 65 = 4 := rfl
  have f66 : fieldOff 66 = 2 := rfl
  have p66 : posLow 66 = 18 := rfl
  have q66 : posSize 66 = 4 := rfl
  have f67 : fieldOff 67 = 3 := rfl
  have p67 : posLow 67 = 14 := rfl
  have q67 : posSize 67 = 4 := rfl
  go_enter Tryd.func13, Tryd.ntmps13
  go_wp2_with fail
  refine (valid_any n a b c i _ (hT.of_below ((Below.refl _ _).alloc (Nat.le_refl _) _))).mono ?_
  rintro e w1 ⟨rfl, hb1⟩
  obtain ⟨hc1, hf1⟩ := bcell hb1
  have hz1 : w.heap.size + 1 ≤ w1.heap.size := by have := hb1.size; simp at this; omega
  go_wp2_with fail
  refine wp_loop_rounds 4 ?_
  rw [rounds_succ]
  go_wp2_with ((go_at_call 16; refine (position_any _ _).mono ?_; rintro e w' ⟨rfl, rfl⟩))
  go_quiet ((go_at_call 17; first | exact quiet_left (field_any _ _ _) | exact quiet_add_left (field_any _ _ _)))
  go_wp2_with fail
  rw [rounds_succ]
  go_wp2_with ((go_at_call 16; refine (position_any _ _).mono ?_; rintro e w' ⟨rfl, rfl⟩))
  go_quiet ((go_at_call 17; first | exact quiet_left (field_any _ _ _) | exact quiet_add_left (field_any _ _ _)))
  go_wp2_with fail
  rw [rounds_succ]
  go_wp2_with ((go_at_call 16; refine (position_any _ _).mono ?_; rintro e w' ⟨rfl, rfl⟩))
  go_quiet ((go_at_call 17; first | exact quiet_left (field_any _ _ _) | exact quiet_add_left (field_any _ _ _)))
  go_wp2_with fail
  rw [rounds_succ]
  go_wp2_with fail
  go_ret2
  refine ⟨ret_u32_err 0 ?_, by repeat (first | exact Below.refl _ _ | refine below_drewN ?_ _ | refine Below.drew ?_ | exact hb1.mono (by simp) | refine Below.trans ?_ (hb1.mono (by simp)) | refine Below.setCell ?_ (by simp) _ | refine Below.alloc ?_ (by simp) _)⟩
  clear hc1 hf1
  rw [and15 a ha.1 ha.2, or22 n a (by omega) ha.1 ha.2, and15 b hb.1 hb.2, or18 n a b (by omega) ha.1 ha.2 hb.1 hb.2, and15 c hc.1 hc.2, or14 n a b c (by omega) ha.1 ha.2 hb.1 hb.2 hc.1 hc.2]
  simp only [encW]
  omega

set_option maxHeartbeats 800000 in
theorem encode_ai (n : Nat) (a b c i : Int) (w : World) (hn : n < 30) (hT : Tab w) (ho : fo n = ⟨#[65, 73]⟩) (hv : vld n a b c i = true) (ha : 0 ≤ a ∧ a ≤ 15) :
    Calls Tryd.prog 13 #[.agg #[.int .u8 n, .int .i64 a, .int .i64 b, .int .i64 c, .int .i64 i]] w fun e w' => e = .returned (.tuple #[.int .u32 (encW n a 0 0 i), .int .i64 0]) ∧ Below w.heap.size w w' := by
  obtain ⟨-, h1, -, -, -, -, hz⟩ := fmtAt hT n hn
  rw [ho] at h1
  clear ho
  have e0 : (((⟨#[65, 73]⟩ : ByteArray)[0]'(by decide)).toNat : Int) = 65 := rfl
  have e1 : (((⟨#[65, 73]⟩ : ByteArray)[1]'(by decide)).toNat : Int) = 73 := rfl
  have f65 : fieldOff 65 = 1 := rfl
  have p65 : posLow 65 = 22 := rfl
  have q65 : posSize 65 = 4 := rfl
  have f73 : fieldOff 73 = 4 := rfl
  have p73 : posLow 73 = 0 := rfl
  have q73 : posSize 73 = 18 := rfl
  go_enter Tryd.func13, Tryd.ntmps13
  go_wp2_with fail
  refine (valid_any n a b c i _ (hT.of_below ((Below.refl _ _).alloc (Nat.le_refl _) _))).mono ?_
  rintro e w1 ⟨rfl, hb1⟩
  obtain ⟨hc1, hf1⟩ := bcell hb1
  have hz1 : w.heap.size + 1 ≤ w1.heap.size := by have := hb1.size; simp at this; omega
  go_wp2_with fail
  refine wp_loop_rounds 3 ?_
  rw [rounds_succ]
  go_wp2_with ((go_at_call 16; refine (position_any _ _).mono ?_; rintro e w' ⟨rfl, rfl⟩))
  go_quiet ((go_at_call 17; first | exact quiet_left (field_any _ _ _) | exact quiet_add_left (field_any _ _ _)))
  go_wp2_with fail
  rw [rounds_succ]
  go_wp2_with ((go_at_call 16; refine (position_any _ _).mono ?_; rintro e w' ⟨rfl, rfl⟩))
  go_quiet ((go_at_call 17; first | exact quiet_left (field_any _ _ _) | exact quiet_add_left (field_any _ _ _)))
  go_wp2_with fail
  rw [rounds_succ]
  go_wp2_with fail
  go_ret2
  refine ⟨ret_u32_err 0 ?_, by repeat (first | exact Below.refl _ _ | refine below_drewN ?_ _ | refine Below.drew ?_ | exact hb1.mono (by simp) | refine Below.trans ?_ (hb1.mono (by simp)) | refine Below.setCell ?_ (by simp) _ | refine Below.alloc ?_ (by simp) _)⟩
  clear hc1 hf1
  rw [and15 a ha.1 ha.2, or22 n a (by omega) ha.1 ha.2, andI, orI _ i (by omega) (by omega) (by omega)]
  simp only [encW]
  omega

set_option maxHeartbeats 800000 in
theorem encode_abi (n : Nat) (a b c i : Int) (w : World) (hn : n < 30) (hT : Tab w) (ho : fo n = ⟨#[65, 66, 73]⟩) (hv : vld n a b c i = true) (ha : 0 ≤ a ∧ a ≤ 15) (hb : 0 ≤ b ∧ b ≤ 15) :
    Calls Tryd.prog 13 #[.agg #[.int .u8 n, .int .i64 a, .int .i64 b, .int .i64 c, .int .i64 i]] w fun e w' => e = .returned (.tuple #[.int .u32 (encW n a b 0 i), .int .i64 0]) ∧ Below w.heap.size w w' := by
  obtain ⟨-, h1, -, -, -, -, hz⟩ := fmtAt hT n hn
  rw [ho] at h1
  clear ho
  have e0 : (((⟨#[65, 66, 73]⟩ : ByteArray)[0]'(by decide)).toNat : Int) = 65 := rfl
  have e1 : (((⟨#[65, 66, 73]⟩ : ByteArray)[1]'(by decide)).toNat : Int) = 66 := rfl
  have e2 : (((⟨#[65, 66, 73]⟩ : ByteArray)[2]'(by decide)).toNat : Int) = 73 := rfl
  have f65 : fieldOff 65 = 1 := rfl
  have p65 : posLow 65 = 22 := rfl
  have q65 : posSize 65 = 4 := rfl
  have f66 : fieldOff 66 = 2 := rfl
  have p66 : posLow 66 = 18 := rfl
  have q66 : posSize 66 = 4 := rfl
  have f73 : fieldOff 73 = 4 := rfl
  have p73 : posLow 73 = 0 := rfl
  have q73 : posSize 73 = 18 := rfl
  go_enter Tryd.func13, Tryd.ntmps13
  go_wp2_with fail
  refine (valid_any n a b c i _ (hT.of_below ((Below.refl _ _).alloc (Nat.le_refl _) _))).mono ?_
  rintro e w1 ⟨rfl, hb1⟩
  obtain ⟨hc1, hf1⟩ := bcell hb1
  have hz1 : w.heap.size + 1 ≤ w1.heap.size := by have := hb1.size; simp at this; omega
  go_wp2_with fail
  refine wp_loop_rounds 4 ?_
  rw [rounds_succ]
  go_wp2_with ((go_at_call 16; refine (position_any _ _).mono ?_; rintro e w' ⟨rfl, rfl⟩))
  go_quiet ((go_at_call 17; first | exact quiet_left (field_any _ _ _) | exact quiet_add_left (field_any _ _ _)))
  go_wp2_with fail
  rw [rounds_succ]
  go_wp2_with ((go_at_call 16; refine (position_any _ _).mono ?_; rintro e w' ⟨rfl, rfl⟩))
  go_quiet ((go_at_call 17; first | exact quiet_left (field_any _ _ _) | exact quiet_add_left (field_any _ _ _)))
  go_wp2_with fail
  rw [rounds_succ]
  go_wp2_with ((go_at_call 16; refine (position_any _ _).mono ?_; rintro e w' ⟨rfl, rfl⟩))
  go_quiet ((go_at_call 17; first | exact quiet_left (field_any _ _ _) | exact quiet_add_left (field_any _ _ _)))
  go_wp2_with fail
  rw [rounds_succ]
  go_wp2_with fail
  go_ret2
  refine ⟨ret_u32_err 0 ?_, by repeat (first | exact Below.refl _ _ | refine below_drewN ?_ _ | refine Below.drew ?_ | exact hb1.mono (by simp) | refine Below.trans ?_ (hb1.mono (by simp)) | refine Below.setCell ?_ (by simp) _ | refine Below.alloc ?_ (by simp) _)⟩
  clear hc1 hf1
  rw [and15 a ha.1 ha.2, or22 n a (by omega) ha.1 ha.2, and15 b hb.1 hb.2, or18 n a b (by omega) ha.1 ha.2 hb.1 hb.2, andI, orI _ i (by omega) (by omega) (by omega)]
  simp only [encW]
  omega

set_option maxHeartbeats 800000 in
theorem encode_i (n : Nat) (a b c i : Int) (w : World) (hn : n < 30) (hT : Tab w) (ho : fo n = ⟨#[73]⟩) (hv : vld n a b c i = true)  :
    Calls Tryd.prog 13 #[.agg #[.int .u8 n, .int .i64 a, .int .i64 b, .int .i64 c, .int .i64 i]] w fun e w' => e = .returned (.tuple #[.int .u32 (encW n 0 0 0 i), .int .i64 0]) ∧ Below w.heap.size w w' := by
  obtain ⟨-, h1, -, -, -, -, hz⟩ := fmtAt hT n hn
  rw [ho] at h1
  clear ho
  have e0 : (((⟨#[73]⟩ : ByteArray)[0]'(by decide)).toNat : Int) = 73 := rfl
  have f73 : fieldOff 73 = 4 := rfl
  have p73 : posLow 73 = 0 := rfl
  have q73 : posSize 73 = 18 := rfl
  go_enter Tryd.func13, Tryd.ntmps13
  go_wp2_with fail
  refine (valid_any n a b c i _ (hT.of_below ((Below.refl _ _).alloc (Nat.le_refl _) _))).mono ?_
  rintro e w1 ⟨rfl, hb1⟩
  obtain ⟨hc1, hf1⟩ := bcell hb1
  have hz1 : w.heap.size + 1 ≤ w1.heap.size := by have := hb1.size; simp at this; omega
  go_wp2_with fail
  refine wp_loop_rounds 2 ?_
  rw [rounds_succ]
  go_wp2_with ((go_at_call 16; refine (position_any _ _).mono ?_; rintro e w' ⟨rfl, rfl⟩))
  go_quiet ((go_at_call 17; first | exact quiet_left (field_any _ _ _) | exact quiet_add_left (field_any _ _ _)))
  go_wp2_with fail
  rw [rounds_succ]
  go_wp2_with fail
  go_ret2
  refine ⟨ret_u32_err 0 ?_, by repeat (first | exact Below.refl _ _ | refine below_drewN ?_ _ | refine Below.drew ?_ | exact hb1.mono (by simp) | refine Below.trans ?_ (hb1.mono (by simp)) | refine Below.setCell ?_ (by simp) _ | refine Below.alloc ?_ (by simp) _)⟩
  clear hc1 hf1
  rw [andI, orI _ i (by omega) (by omega) (by omega)]
  simp only [encW]
  omega

/-- What a valid instruction is. -/
theorem vld_parts {n : Nat} {a b c i : Int} (h : vld n a b c i = true) : n < 30 ∧ (0 ≤ a ∧ a ≤ if uA n then 15 else 0) ∧ (0 ≤ b ∧ b ≤ if uB n then 15 else 0) ∧ (0 ≤ c ∧ c ≤ if uC n then 15 else 0) ∧ ((if uI n then flo n else 0) ≤ i ∧ i ≤ if uI n then fhi n else 0) := by
  simpa [vld, vldS] using h

theorem encode_ok (n : Nat) (a b c i : Int) (w : World) (hT : Tab w) (hv : vld n a b c i = true) :
    Calls Tryd.prog 13 #[.agg #[.int .u8 n, .int .i64 a, .int .i64 b, .int .i64 c, .int .i64 i]] w fun e w' => e = .returned (.tuple #[.int .u32 (encW n a b c i), .int .i64 0]) ∧ Below w.heap.size w w' := by
  obtain ⟨hn, ha, hb, hc, hi⟩ := vld_parts hv
  rcases shape n hn with ⟨h, h1, h2, h3, h4⟩ | ⟨h, h1, h2, h3, h4⟩ | ⟨h, h1, h2, h3, h4⟩ | ⟨h, h1, h2, h3, h4⟩ | ⟨h, h1, h2, h3, h4⟩
  all_goals simp only [h1, h2, h3, h4, if_true, if_false, Bool.false_eq_true] at ha hb hc hi
  · obtain rfl : a = 0 := by omega
    obtain rfl : b = 0 := by omega
    obtain rfl : c = 0 := by omega
    obtain rfl : i = 0 := by omega
    exact encode_none n 0 0 0 0 w hn hT h hv
  · obtain rfl : i = 0 := by omega
    exact encode_abc n a b c 0 w hn hT h hv ha hb hc
  · obtain rfl : b = 0 := by omega
    obtain rfl : c = 0 := by omega
    exact encode_ai n a 0 0 i w hn hT h hv ha
  · obtain rfl : c = 0 := by omega
    exact encode_abi n a b 0 i w hn hT h hv ha hb
  · obtain rfl : a = 0 := by omega
    obtain rfl : b = 0 := by omega
    obtain rfl : c = 0 := by omega
    exact encode_i n 0 0 0 i w hn hT h hv

/-- What isa.Encode returns. -/
def encV (n : Nat) (a b c i : Int) : Int := if vld n a b c i then encW n a b c i else 0
def encE (n : Nat) (a b c i : Int) : Int := if vld n a b c i then 0 else 3
theorem encode_any (n : Nat) (a b c i : Int) (w : World) (hT : Tab w) :
    Calls Tryd.prog 13 #[.agg #[.int .u8 n, .int .i64 a, .int .i64 b, .int .i64 c, .int .i64 i]] w fun e w' => e = .returned (.tuple #[.int .u32 (encV n a b c i), .int .i64 (encE n a b c i)]) ∧ Below w.heap.size w w' := by
  cases hv : vld n a b c i
  · have := encode_no n a b c i w hT hv
    simpa [encV, encE, hv] using this
  · have := encode_ok n a b c i w hT hv
    simpa [encV, encE, hv] using this

end Go.Proofs.YtpachmkklppmjaaDoor
