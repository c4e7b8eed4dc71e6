/- Contracts of small isa functions: position, field, IsBranch. -/
import Derived.Test.YtpachmkklppmjaaDoorBase
namespace Go.Proofs.YtpachmkklppmjaaDoor
open Go.RowKit

def posLow (c : Int) : Int := if c = 65 then 22 else if c = 66 then 18 else if c = 67 then 14 else 0
def posSize (c : Int) : Int := if c = 65 then 4 else if c = 66 then 4 else if c = 67 then 4 else 18
def fieldOff (c : Int) : Nat := if c = 65 then 1 else if c = 66 then 2 else if c = 67 then 3 else 4

theorem position_any (c : Int) (w : World) :
    Calls Tryd.prog 16 #[.int .u8 c] w fun e w' => e = .returned (.tuple #[.int .i64 (posLow c), .int .i64 (posSize c)]) ∧ w = w' := by
  go_enter Tryd.func16, Tryd.ntmps16
  go_wp2
  all_goals (go_ret2; simp_all [posLow, posSize])

theorem field_any (b : Nat) (c : Int) (w : World) :
    Calls Tryd.prog 17 #[.pointer (some ⟨b, 0, none⟩), .int .u8 c] w fun e w' => e = .returned (.pointer (some ⟨b, fieldOff c, none⟩)) ∧ w = w' := by
  go_enter Tryd.func17, Tryd.ntmps17
  go_wp2
  all_goals (go_ret; simp_all [fieldOff])

theorem isBranch_any (c : Int) (w : World) :
    Calls Tryd.prog 29 #[.int .u8 c] w fun e w' => e = .returned (.bool (c == 22 || c == 23 || c == 24)) ∧ w = w' := by
  go_enter Tryd.func29, Tryd.ntmps29
  go_wp2
  all_goals (go_ret; simp_all)

theorem valid_big (n : Nat) (a b c i : Int) (w : World) (hn : 30 ≤ n) :
    Calls Tryd.prog 21 #[.agg #[.int .u8 n, .int .i64 a, .int .i64 b, .int .i64 c, .int .i64 i]] w fun e w' => e = .returned (.bool false) ∧ Below w.heap.size w w' := by
  go_enter Tryd.func21, Tryd.ntmps21
  go_wp2
  go_ret
  exact ⟨rfl, (Below.refl _ _).alloc (Nat.le_refl _) _⟩


theorem idx (s : ByteArray) (c r : Int) (w : World) (h : Lib.indexByte s.data.toList c.toNat.toUInt8 = r) :
    Calls Tryd.prog 27 #[.string s, .int .u8 c] w fun e w' => e = .returned (.int .i64 r) ∧ w = w' :=
  (Tryd.strings_IndexByte s c w).mono fun e w' ⟨he, hw⟩ => ⟨by rw [he, h], hw.symm⟩

/-- What Valid computes of an opcode with these operands. -/
def vldS (ua ub uc ui : Bool) (lo hi a b c i : Int) : Bool :=
  decide ((0 ≤ a ∧ a ≤ if ua then 15 else 0) ∧ (0 ≤ b ∧ b ≤ if ub then 15 else 0) ∧ (0 ≤ c ∧ c ≤ if uc then 15 else 0) ∧ ((if ui then lo else 0) ≤ i ∧ i ≤ if ui then hi else 0))

/-- The row of an opcode in the table of formats. -/
structure FmtAt (w : World) (n : Nat) (m o r : ByteArray) (wr : Bool) (lo hi : Int) : Prop where
  h0 : w.cell? ⟨0, n * 6, none⟩ = some (.string m)
  h1 : w.cell? ⟨0, n * 6 + 1, none⟩ = some (.string o)
  h2 : w.cell? ⟨0, n * 6 + 2, none⟩ = some (.string r)
  h3 : w.cell? ⟨0, n * 6 + 3, none⟩ = some (.bool wr)
  h4 : w.cell? ⟨0, n * 6 + 4, none⟩ = some (.int .i64 lo)
  h5 : w.cell? ⟨0, n * 6 + 5, none⟩ = some (.int .i64 hi)
  hz : 0 < w.heap.size

set_option maxHeartbeats 800000 in
theorem valid_none (n : Nat) (a b c i lo hi : Int) (m r : ByteArray) (wr : Bool) (w : World) (hn : n < 30) (hf : FmtAt w n m ⟨#[]⟩ r wr lo hi) :
    Calls Tryd.prog 21 #[.agg #[.int .u8 n, .int .i64 a, .int .i64 b, .int .i64 c, .int .i64 i]] w fun e w' => e = .returned (.bool (vldS false false false false lo hi a b c i)) ∧ Below w.heap.size w w' := by
  obtain ⟨h0, h1, h2, h3, h4, h5, hz⟩ := hf
  have e0 : (((⟨#[65, 66, 67, 73]⟩ : ByteArray)[0]'(by decide)).toNat : Int) = 65 := rfl
  have e1 : (((⟨#[65, 66, 67, 73]⟩ : ByteArray)[1]'(by decide)).toNat : Int) = 66 := rfl
  have e2 : (((⟨#[65, 66, 67, 73]⟩ : ByteArray)[2]'(by decide)).toNat : Int) = 67 := rfl
  have e3 : (((⟨#[65, 66, 67, 73]⟩ : ByteArray)[3]'(by decide)).toNat : Int) = 73 := rfl
  have f0 : fieldOff 65 = 1 := rfl
  have f1 : fieldOff 66 = 2 := rfl
  have f2 : fieldOff 67 = 3 := rfl
  have f3 : fieldOff 73 = 4 := rfl
  go_enter Tryd.func21, Tryd.ntmps21
  go_wp2_with fail
  refine wp_loop_rounds 5 ?_
  rw [rounds_succ]
  go_wp2_with (first
    | (go_at_call 27; first
      | (refine (idx _ _ 0 _ ?_).mono ?_; (focus decide); rintro e w' ⟨rfl, rfl⟩)
      | (refine (idx _ _ 1 _ ?_).mono ?_; (focus decide); rintro e w' ⟨rfl, rfl⟩)
      | (refine (idx _ _ 2 _ ?_).mono ?_; (focus decide); rintro e w' ⟨rfl, rfl⟩)
      | (refine (idx _ _ (-1) _ ?_).mono ?_; (focus decide); rintro e w' ⟨rfl, rfl⟩))
    | (go_at_call 17; refine (field_any _ _ _).mono ?_; rintro e w' ⟨rfl, rfl⟩))
  any_goals (go_ret; exact ⟨by simp [vldS]; omega, by repeat (first | exact Below.refl _ _ | refine below_drewN ?_ _ | refine Below.drew ?_ | refine Below.alloc ?_ (by simp) _)⟩)
  rw [rounds_succ]
  go_wp2_with (first
    | (go_at_call 27; first
      | (refine (idx _ _ 0 _ ?_).mono ?_; (focus decide); rintro e w' ⟨rfl, rfl⟩)
      | (refine (idx _ _ 1 _ ?_).mono ?_; (focus decide); rintro e w' ⟨rfl, rfl⟩)
      | (refine (idx _ _ 2 _ ?_).mono ?_; (focus decide); rintro e w' ⟨rfl, rfl⟩)
      | (refine (idx _ _ (-1) _ ?_).mono ?_; (focus decide); rintro e w' ⟨rfl, rfl⟩))
    | (go_at_call 17; refine (field_any _ _ _).mono ?_; rintro e w' ⟨rfl, rfl⟩))
  any_goals (go_ret; exact ⟨by simp [vldS]; omega, by repeat (first | exact Below.refl _ _ | refine below_drewN ?_ _ | refine Below.drew ?_ | refine Below.alloc ?_ (by simp) _)⟩)
  rw [rounds_succ]
  go_wp2_with (first
    | (go_at_call 27; first
      | (refine (idx _ _ 0 _ ?_).mono ?_; (focus decide); rintro e w' ⟨rfl, rfl⟩)
      | (refine (idx _ _ 1 _ ?_).mono ?_; (focus decide); rintro e w' ⟨rfl, rfl⟩)
      | (refine (idx _ _ 2 _ ?_).mono ?_; (focus decide); rintro e w' ⟨rfl, rfl⟩)
      | (refine (idx _ _ (-1) _ ?_).mono ?_; (focus decide); rintro e w' ⟨rfl, rfl⟩))
    | (go_at_call 17; refine (field_any _ _ _).mono ?_; rintro e w' ⟨rfl, rfl⟩))
  any_goals (go_ret; exact ⟨by simp [vldS]; omega, by repeat (first | exact Below.refl _ _ | refine below_drewN ?_ _ | refine Below.drew ?_ | refine Below.alloc ?_ (by simp) _)⟩)
  rw [rounds_succ]
  go_wp2_with (first
    | (go_at_call 27; first
      | (refine (idx _ _ 0 _ ?_).mono ?_; (focus decide); rintro e w' ⟨rfl, rfl⟩)
      | (refine (idx _ _ 1 _ ?_).mono ?_; (focus decide); rintro e w' ⟨rfl, rfl⟩)
      | (refine (idx _ _ 2 _ ?_).mono ?_; (focus decide); rintro e w' ⟨rfl, rfl⟩)
      | (refine (idx _ _ (-1) _ ?_).mono ?_; (focus decide); rintro e w' ⟨rfl, rfl⟩))
    | (go_at_call 17; refine (field_any _ _ _).mono ?_; rintro e w' ⟨rfl, rfl⟩))
  any_goals (go_ret; exact ⟨by simp [vldS]; omega, by repeat (first | exact Below.refl _ _ | refine below_drewN ?_ _ | refine Below.drew ?_ | refine Below.alloc ?_ (by simp) _)⟩)
  rw [rounds_succ]
  go_wp2_with (first
    | (go_at_call 27; first
      | (refine (idx _ _ 0 _ ?_).mono ?_; (focus decide); rintro e w' ⟨rfl, rfl⟩)
      | (refine (idx _ _ 1 _ ?_).mono ?_; (focus decide); rintro e w' ⟨rfl, rfl⟩)
      | (refine (idx _ _ 2 _ ?_).mono ?_; (focus decide); rintro e w' ⟨rfl, rfl⟩)
      | (refine (idx _ _ (-1) _ ?_).mono ?_; (focus decide); rintro e w' ⟨rfl, rfl⟩))
    | (go_at_call 17; refine (field_any _ _ _).mono ?_; rintro e w' ⟨rfl, rfl⟩))
  any_goals (go_ret; exact ⟨by simp [vldS]; omega, by repeat (first | exact Below.refl _ _ | refine below_drewN ?_ _ | refine Below.drew ?_ | refine Below.alloc ?_ (by simp) _)⟩)

set_option maxHeartbeats 800000 in
theorem valid_abc (n : Nat) (a b c i lo hi : Int) (m r : ByteArray) (wr : Bool) (w : World) (hn : n < 30) (hf : FmtAt w n m ⟨#[65, 66, 67]⟩ r wr lo hi) :
    Calls Tryd.prog 21 #[.agg #[.int .u8 n, .int .i64 a, .int .i64 b, .int .i64 c, .int .i64 i]] w fun e w' => e = .returned (.bool (vldS true true true false lo hi a b c i)) ∧ Below w.heap.size w w' := by
  obtain ⟨h0, h1, h2, h3, h4, h5, hz⟩ := hf
  have e0 : (((⟨#[65, 66, 67, 73]⟩ : ByteArray)[0]'(by decide)).toNat : Int) = 65 := rfl
  have e1 : (((⟨#[65, 66, 67, 73]⟩ : ByteArray)[1]'(by decide)).toNat : Int) = 66 := rfl
  have e2 : (((⟨#[65, 66, 67, 73]⟩ : ByteArray)[2]'(by decide)).toNat : Int) = 67 := rfl
  have e3 : (((⟨#[65, 66, 67, 73]⟩ : ByteArray)[3]'(by decide)).toNat : Int) = 73 := rfl
  have f0 : fieldOff 65 = 1 := rfl
  have f1 : fieldOff 66 = 2 := rfl
  have f2 : fieldOff 67 = 3 := rfl
  have f3 : fieldOff 73 = 4 := rfl
  go_enter Tryd.func21, Tryd.ntmps21
  go_wp2_with fail
  refine wp_loop_rounds 5 ?_
  rw [rounds_succ]
  go_wp2_with (first
    | (go_at_call 27; first
      | (refine (idx _ _ 0 _ ?_).mono ?_; (focus decide); rintro e w' ⟨rfl, rfl⟩)
      | (refine (idx _ _ 1 _ ?_).mono ?_; (focus decide); rintro e w' ⟨rfl, rfl⟩)
      | (refine (idx _ _ 2 _ ?_).mono ?_; (focus decide); rintro e w' ⟨rfl, rfl⟩)
      | (refine (idx _ _ (-1) _ ?_).mono ?_; (focus decide); rintro e w' ⟨rfl, rfl⟩))
    | (go_at_call 17; refine (field_any _ _ _).mono ?_; rintro e w' ⟨rfl, rfl⟩))
  any_goals (go_ret; exact ⟨by simp [vldS]; omega, by repeat (first | exact Below.refl _ _ | refine below_drewN ?_ _ | refine Below.drew ?_ | refine Below.alloc ?_ (by simp) _)⟩)
  rw [rounds_succ]
  go_wp2_with (first
    | (go_at_call 27; first
      | (refine (idx _ _ 0 _ ?_).mono ?_; (focus decide); rintro e w' ⟨rfl, rfl⟩)
      | (refine (idx _ _ 1 _ ?_).mono ?_; (focus decide); rintro e w' ⟨rfl, rfl⟩)
      | (refine (idx _ _ 2 _ ?_).mono ?_; (focus decide); rintro e w' ⟨rfl, rfl⟩)
      | (refine (idx _ _ (-1) _ ?_).mono ?_; (focus decide); rintro e w' ⟨rfl, rfl⟩))
    | (go_at_call 17; refine (field_any _ _ _).mono ?_; rintro e w' ⟨rfl, rfl⟩))
  any_goals (go_ret; exact ⟨by simp [vldS]; omega, by repeat (first | exact Below.refl _ _ | refine below_drewN ?_ _ | refine Below.drew ?_ | refine Below.alloc ?_ (by simp) _)⟩)
  rw [rounds_succ]
  go_wp2_with (first
    | (go_at_call 27; first
      | (refine (idx _ _ 0 _ ?_).mono ?_; (focus decide); rintro e w' ⟨rfl, rfl⟩)
      | (refine (idx _ _ 1 _ ?_).mono ?_; (focus decide); rintro e w' ⟨rfl, rfl⟩)
      | (refine (idx _ _ 2 _ ?_).mono ?_; (focus decide); rintro e w' ⟨rfl, rfl⟩)
      | (refine (idx _ _ (-1) _ ?_).mono ?_; (focus decide); rintro e w' ⟨rfl, rfl⟩))
    | (go_at_call 17; refine (field_any _ _ _).mono ?_; rintro e w' ⟨rfl, rfl⟩))
  any_goals (go_ret; exact ⟨by simp [vldS]; omega, by repeat (first | exact Below.refl _ _ | refine below_drewN ?_ _ | refine Below.drew ?_ | refine Below.alloc ?_ (by simp) _)⟩)
  rw [rounds_succ]
  go_wp2_with (first
    | (go_at_call 27; first
      | (refine (idx _ _ 0 _ ?_).mono ?_; (focus decide); rintro e w' ⟨rfl, rfl⟩)
      | (refine (idx _ _ 1 _ ?_).mono ?_; (focus decide); rintro e w' ⟨rfl, rfl⟩)
      | (refine (idx _ _ 2 _ ?_).mono ?_; (focus decide); rintro e w' ⟨rfl, rfl⟩)
      | (refine (idx _ _ (-1) _ ?_).mono ?_; (focus decide); rintro e w' ⟨rfl, rfl⟩))
    | (go_at_call 17; refine (field_any _ _ _).mono ?_; rintro e w' ⟨rfl, rfl⟩))
  any_goals (go_ret; exact ⟨by simp [vldS]; omega, by repeat (first | exact Below.refl _ _ | refine below_drewN ?_ _ | refine Below.drew ?_ | refine Below.alloc ?_ (by simp) _)⟩)
  rw [rounds_succ]
  go_wp2_with (first
    | (go_at_call 27; first
      | (refine (idx _ _ 0 _ ?_).mono ?_; (focus decide); rintro e w' ⟨rfl, rfl⟩)
      | (refine (idx _ _ 1 _ ?_).mono ?_; (focus decide); rintro e w' ⟨rfl, rfl⟩)
      | (refine (idx _ _ 2 _ ?_).mono ?_; (focus decide); rintro e w' ⟨rfl, rfl⟩)
      | (refine (idx _ _ (-1) _ ?_).mono ?_; (focus decide); rintro e w' ⟨rfl, rfl⟩))
    | (go_at_call 17; refine (field_any _ _ _).mono ?_; rintro e w' ⟨rfl, rfl⟩))
  any_goals (go_ret; exact ⟨by simp [vldS]; omega, by repeat (first | exact Below.refl _ _ | refine below_drewN ?_ _ | refine Below.drew ?_ | refine Below.alloc ?_ (by simp) _)⟩)

set_option maxHeartbeats 800000 in
theorem valid_ai (n : Nat) (a b c i lo hi : Int) (m r : ByteArray) (wr : Bool) (w : World) (hn : n < 30) (hf : FmtAt w n m ⟨#[65, 73]⟩ r wr lo hi) :
    Calls Tryd.prog 21 #[.agg #[.int .u8 n, .int .i64 a, .int .i64 b, .int .i64 c, .int .i64 i]] w fun e w' => e = .returned (.bool (vldS true false false true lo hi a b c i)) ∧ Below w.heap.size w w' := by
  obtain ⟨h0, h1, h2, h3, h4, h5, hz⟩ := hf
  have e0 : (((⟨#[65, 66, 67, 73]⟩ : ByteArray)[0]'(by decide)).toNat : Int) = 65 := rfl
  have e1 : (((⟨#[65, 66, 67, 73]⟩ : ByteArray)[1]'(by decide)).toNat : Int) = 66 := rfl
  have e2 : (((⟨#[65, 66, 67, 73]⟩ : ByteArray)[2]'(by decide)).toNat : Int) = 67 := rfl
  have e3 : (((⟨#[65, 66, 67, 73]⟩ : ByteArray)[3]'(by decide)).toNat : Int) = 73 := rfl
  have f0 : fieldOff 65 = 1 := rfl
  have f1 : fieldOff 66 = 2 := rfl
  have f2 : fieldOff 67 = 3 := rfl
  have f3 : fieldOff 73 = 4 := rfl
  go_enter Tryd.func21, Tryd.ntmps21
  go_wp2_with fail
  refine wp_loop_rounds 5 ?_
  rw [rounds_succ]
  go_wp2_with (first
    | (go_at_call 27; first
      | (refine (idx _ _ 0 _ ?_).mono ?_; (focus decide); rintro e w' ⟨rfl, rfl⟩)
      | (refine (idx _ _ 1 _ ?_).mono ?_; (focus decide); rintro e w' ⟨rfl, rfl⟩)
      | (refine (idx _ _ 2 _ ?_).mono ?_; (focus decide); rintro e w' ⟨rfl, rfl⟩)
      | (refine (idx _ _ (-1) _ ?_).mono ?_; (focus decide); rintro e w' ⟨rfl, rfl⟩))
    | (go_at_call 17; refine (field_any _ _ _).mono ?_; rintro e w' ⟨rfl, rfl⟩))
  any_goals (go_ret; exact ⟨by simp [vldS]; omega, by repeat (first | exact Below.refl _ _ | refine below_drewN ?_ _ | refine Below.drew ?_ | refine Below.alloc ?_ (by simp) _)⟩)
  rw [rounds_succ]
  go_wp2_with (first
    | (go_at_call 27; first
      | (refine (idx _ _ 0 _ ?_).mono ?_; (focus decide); rintro e w' ⟨rfl, rfl⟩)
      | (refine (idx _ _ 1 _ ?_).mono ?_; (focus decide); rintro e w' ⟨rfl, rfl⟩)
      | (refine (idx _ _ 2 _ ?_).mono ?_; (focus decide); rintro e w' ⟨rfl, rfl⟩)
      | (refine (idx _ _ (-1) _ ?_).mono ?_; (focus decide); rintro e w' ⟨rfl, rfl⟩))
    | (go_at_call 17; refine (field_any _ _ _).mono ?_; rintro e w' ⟨rfl, rfl⟩))
  any_goals (go_ret; exact ⟨by simp [vldS]; omega, by repeat (first | exact Below.refl _ _ | refine below_drewN ?_ _ | refine Below.drew ?_ | refine Below.alloc ?_ (by simp) _)⟩)
  rw [rounds_succ]
  go_wp2_with (first
    | (go_at_call 27; first
      | (refine (idx _ _ 0 _ ?_).mono ?_; (focus decide); rintro e w' ⟨rfl, rfl⟩)
      | (refine (idx _ _ 1 _ ?_).mono ?_; (focus decide); rintro e w' ⟨rfl, rfl⟩)
      | (refine (idx _ _ 2 _ ?_).mono ?_; (focus decide); rintro e w' ⟨rfl, rfl⟩)
      | (refine (idx _ _ (-1) _ ?_).mono ?_; (focus decide); rintro e w' ⟨rfl, rfl⟩))
    | (go_at_call 17; refine (field_any _ _ _).mono ?_; rintro e w' ⟨rfl, rfl⟩))
  any_goals (go_ret; exact ⟨by simp [vldS]; omega, by repeat (first | exact Below.refl _ _ | refine below_drewN ?_ _ | refine Below.drew ?_ | refine Below.alloc ?_ (by simp) _)⟩)
  rw [rounds_succ]
  go_wp2_with (first
    | (go_at_call 27; first
      | (refine (idx _ _ 0 _ ?_).mono ?_; (focus decide); rintro e w' ⟨rfl, rfl⟩)
      | (refine (idx _ _ 1 _ ?_).mono ?_; (focus decide); rintro e w' ⟨rfl, rfl⟩)
      | (refine (idx _ _ 2 _ ?_).mono ?_; (focus decide); rintro e w' ⟨rfl, rfl⟩)
      | (refine (idx _ _ (-1) _ ?_).mono ?_; (focus decide); rintro e w' ⟨rfl, rfl⟩))
    | (go_at_call 17; refine (field_any _ _ _).mono ?_; rintro e w' ⟨rfl, rfl⟩))
  go_quiet (fail)
  go_wp2_with (first
    | (go_at_call 27; first
      | (refine (idx _ _ 0 _ ?_).mono ?_; (focus decide); rintro e w' ⟨rfl, rfl⟩)
      | (refine (idx _ _ 1 _ ?_).mono ?_; (focus decide); rintro e w' ⟨rfl, rfl⟩)
      | (refine (idx _ _ 2 _ ?_).mono ?_; (focus decide); rintro e w' ⟨rfl, rfl⟩)
      | (refine (idx _ _ (-1) _ ?_).mono ?_; (focus decide); rintro e w' ⟨rfl, rfl⟩))
    | (go_at_call 17; refine (field_any _ _ _).mono ?_; rintro e w' ⟨rfl, rfl⟩))
  any_goals (go_ret; exact ⟨by simp [vldS]; omega, by repeat (first | exact Below.refl _ _ | refine below_drewN ?_ _ | refine Below.drew ?_ | refine Below.alloc ?_ (by simp) _)⟩)
  rw [rounds_succ]
  go_wp2_with (first
    | (go_at_call 27; first
      | (refine (idx _ _ 0 _ ?_).mono ?_; (focus decide); rintro e w' ⟨rfl, rfl⟩)
      | (refine (idx _ _ 1 _ ?_).mono ?_; (focus decide); rintro e w' ⟨rfl, rfl⟩)
      | (refine (idx _ _ 2 _ ?_).mono ?_; (focus decide); rintro e w' ⟨rfl, rfl⟩)
      | (refine (idx _ _ (-1) _ ?_).mono ?_; (focus decide); rintro e w' ⟨rfl, rfl⟩))
    | (go_at_call 17; refine (field_any _ _ _).mono ?_; rintro e w' ⟨rfl, rfl⟩))
  any_goals (go_ret; exact ⟨by simp [vldS]; omega, by repeat (first | exact Below.refl _ _ | refine below_drewN ?_ _ | refine Below.drew ?_ | refine Below.alloc ?_ (by simp) _)⟩)

set_option maxHeartbeats 800000 in
theorem valid_abi (n : Nat) (a b c i lo hi : Int) (m r : ByteArray) (wr : Bool) (w : World) (hn : n < 30) (hf : FmtAt w n m ⟨#[65, 66, 73]⟩ r wr lo hi) :
    Calls Tryd.prog 21 #[.agg #[.int .u8 n, .int .i64 a, .int .i64 b, .int .i64 c, .int .i64 i]] w fun e w' => e = .returned (.bool (vldS true true false true lo hi a b c i)) ∧ Below w.heap.size w w' := by
  obtain ⟨h0, h1, h2, h3, h4, h5, hz⟩ := hf
  have e0 : (((⟨#[65, 66, 67, 73]⟩ : ByteArray)[0]'(by decide)).toNat : Int) = 65 := rfl
  have e1 : (((⟨#[65, 66, 67, 73]⟩ : ByteArray)[1]'(by decide)).toNat : Int) = 66 := rfl
  have e2 : (((⟨#[65, 66, 67, 73]⟩ : ByteArray)[2]'(by decide)).toNat : Int) = 67 := rfl
  have e3 : (((⟨#[65, 66, 67, 73]⟩ : ByteArray)[3]'(by decide)).toNat : Int) = 73 := rfl
  have f0 : fieldOff 65 = 1 := rfl
  have f1 : fieldOff 66 = 2 := rfl
  have f2 : fieldOff 67 = 3 := rfl
  have f3 : fieldOff 73 = 4 := rfl
  go_enter Tryd.func21, Tryd.ntmps21
  go_wp2_with fail
  refine wp_loop_rounds 5 ?_
  rw [rounds_succ]
  go_wp2_with (first
    | (go_at_call 27; first
      | (refine (idx _ _ 0 _ ?_).mono ?_; (focus decide); rintro e w' ⟨rfl, rfl⟩)
      | (refine (idx _ _ 1 _ ?_).mono ?_; (focus decide); rintro e w' ⟨rfl, rfl⟩)
      | (refine (idx _ _ 2 _ ?_).mono ?_; (focus decide); rintro e w' ⟨rfl, rfl⟩)
      | (refine (idx _ _ (-1) _ ?_).mono ?_; (focus decide); rintro e w' ⟨rfl, rfl⟩))
    | (go_at_call 17; refine (field_any _ _ _).mono ?_; rintro e w' ⟨rfl, rfl⟩))
  any_goals (go_ret; exact ⟨by simp [vldS]; omega, by repeat (first | exact Below.refl _ _ | refine below_drewN ?_ _ | refine Below.drew ?_ | refine Below.alloc ?_ (by simp) _)⟩)
  rw [rounds_succ]
  go_wp2_with (first
    | (go_at_call 27; first
      | (refine (idx _ _ 0 _ ?_).mono ?_; (focus decide); rintro e w' ⟨rfl, rfl⟩)
      | (refine (idx _ _ 1 _ ?_).mono ?_; (focus decide); rintro e w' ⟨rfl, rfl⟩)
      | (refine (idx _ _ 2 _ ?_).mono ?_; (focus decide); rintro e w' ⟨rfl, rfl⟩)
      | (refine (idx _ _ (-1) _ ?_).mono ?_; (focus decide); rintro e w' ⟨rfl, rfl⟩))
    | (go_at_call 17; refine (field_any _ _ _).mono ?_; rintro e w' ⟨rfl, rfl⟩))
  any_goals (go_ret; exact ⟨by simp [vldS]; omega, by repeat (first | exact Below.refl _ _ | refine below_drewN ?_ _ | refine Below.drew ?_ | refine Below.alloc ?_ (by simp) _)⟩)
  rw [rounds_succ]
  go_wp2_with (first
    | (go_at_call 27; first
      | (refine (idx _ _ 0 _ ?_).mono ?_; (focus decide); rintro e w' ⟨rfl, rfl⟩)
      | (refine (idx _ _ 1 _ ?_).mono ?_; (focus decide); rintro e w' ⟨rfl, rfl⟩)
      | (refine (idx _ _ 2 _ ?_).mono ?_; (focus decide); rintro e w' ⟨rfl, rfl⟩)
      | (refine (idx _ _ (-1) _ ?_).mono ?_; (focus decide); rintro e w' ⟨rfl, rfl⟩))
    | (go_at_call 17; refine (field_any _ _ _).mono ?_; rintro e w' ⟨rfl, rfl⟩))
  any_goals (go_ret; exact ⟨by simp [vldS]; omega, by repeat (first | exact Below.refl _ _ | refine below_drewN ?_ _ | refine Below.drew ?_ | refine Below.alloc ?_ (by simp) _)⟩)
  rw [rounds_succ]
  go_wp2_with (first
    | (go_at_call 27; first
      | (refine (idx _ _ 0 _ ?_).mono ?_; (focus decide); rintro e w' ⟨rfl, rfl⟩)
      | (refine (idx _ _ 1 _ ?_).mono ?_; (focus decide); rintro e w' ⟨rfl, rfl⟩)
      | (refine (idx _ _ 2 _ ?_).mono ?_; (focus decide); rintro e w' ⟨rfl, rfl⟩)
      | (refine (idx _ _ (-1) _ ?_).mono ?_; (focus decide); rintro e w' ⟨rfl, rfl⟩))
    | (go_at_call 17; refine (field_any _ _ _).mono ?_; rintro e w' ⟨rfl, rfl⟩))
  go_quiet (fail)
  go_wp2_with (first
    | (go_at_call 27; first
      | (refine (idx _ _ 0 _ ?_).mono ?_; (focus decide); rintro e w' ⟨rfl, rfl⟩)
      | (refine (idx _ _ 1 _ ?_).mono ?_; (focus decide); rintro e w' ⟨rfl, rfl⟩)
      | (refine (idx _ _ 2 _ ?_).mono ?_; (focus decide); rintro e w' ⟨rfl, rfl⟩)
      | (refine (idx _ _ (-1) _ ?_).mono ?_; (focus decide); rintro e w' ⟨rfl, rfl⟩))
    | (go_at_call 17; refine (field_any _ _ _).mono ?_; rintro e w' ⟨rfl, rfl⟩))
  any_goals (go_ret; exact ⟨by simp [vldS]; omega, by repeat (first | exact Below.refl _ _ | refine below_drewN ?_ _ | refine Below.drew ?_ | refine Below.alloc ?_ (by simp) _)⟩)
  rw [rounds_succ]
  go_wp2_with (first
    | (go_at_call 27; first
      | (refine (idx _ _ 0 _ ?_).mono ?_; (focus decide); rintro e w' ⟨rfl, rfl⟩)
      | (refine (idx _ _ 1 _ ?_).mono ?_; (focus decide); rintro e w' ⟨rfl, rfl⟩)
      | (refine (idx _ _ 2 _ ?_).mono ?_; (focus decide); rintro e w' ⟨rfl, rfl⟩)
      | (refine (idx _ _ (-1) _ ?_).mono ?_; (focus decide); rintro e w' ⟨rfl, rfl⟩))
    | (go_at_call 17; refine (field_any _ _ _).mono ?_; rintro e w' ⟨rfl, rfl⟩))
  any_goals (go_ret; exact ⟨by simp [vldS]; omega, by repeat (first | exact Below.refl _ _ | refine below_drewN ?_ _ | refine Below.drew ?_ | refine Below.alloc ?_ (by simp) _)⟩)

set_option maxHeartbeats 800000 in
theorem valid_i (n : Nat) (a b c i lo hi : Int) (m r : ByteArray) (wr : Bool) (w : World) (hn : n < 30) (hf : FmtAt w n m ⟨#[73]⟩ r wr lo hi) :
    Calls Tryd.prog 21 #[.agg #[.int .u8 n, .int .i64 a, .int .i64 b, .int .i64 c, .int .i64 i]] w fun e w' => e = .returned (.bool (vldS false false false true lo hi a b c i)) ∧ Below w.heap.size w w' := by
  obtain ⟨h0, h1, h2, h3, h4, h5, hz⟩ := hf
  have e0 : (((⟨#[65, 66, 67, 73]⟩ : ByteArray)[0]'(by decide)).toNat : Int) = 65 := rfl
  have e1 : (((⟨#[65, 66, 67, 73]⟩ : ByteArray)[1]'(by decide)).toNat : Int) = 66 := rfl
  have e2 : (((⟨#[65, 66, 67, 73]⟩ : ByteArray)[2]'(by decide)).toNat : Int) = 67 := rfl
  have e3 : (((⟨#[65, 66, 67, 73]⟩ : ByteArray)[3]'(by decide)).toNat : Int) = 73 := rfl
  have f0 : fieldOff 65 = 1 := rfl
  have f1 : fieldOff 66 = 2 := rfl
  have f2 : fieldOff 67 = 3 := rfl
  have f3 : fieldOff 73 = 4 := rfl
  go_enter Tryd.func21, Tryd.ntmps21
  go_wp2_with fail
  refine wp_loop_rounds 5 ?_
  rw [rounds_succ]
  go_wp2_with (first
    | (go_at_call 27; first
      | (refine (idx _ _ 0 _ ?_).mono ?_; (focus decide); rintro e w' ⟨rfl, rfl⟩)
      | (refine (idx _ _ 1 _ ?_).mono ?_; (focus decide); rintro e w' ⟨rfl, rfl⟩)
      | (refine (idx _ _ 2 _ ?_).mono ?_; (focus decide); rintro e w' ⟨rfl, rfl⟩)
      | (refine (idx _ _ (-1) _ ?_).mono ?_; (focus decide); rintro e w' ⟨rfl, rfl⟩))
    | (go_at_call 17; refine (field_any _ _ _).mono ?_; rintro e w' ⟨rfl, rfl⟩))
  any_goals (go_ret; exact ⟨by simp [vldS]; omega, by repeat (first | exact Below.refl _ _ | refine below_drewN ?_ _ | refine Below.drew ?_ | refine Below.alloc ?_ (by simp) _)⟩)
  rw [rounds_succ]
  go_wp2_with (first
    | (go_at_call 27; first
      | (refine (idx _ _ 0 _ ?_).mono ?_; (focus decide); rintro e w' ⟨rfl, rfl⟩)
      | (refine (idx _ _ 1 _ ?_).mono ?_; (focus decide); rintro e w' ⟨rfl, rfl⟩)
      | (refine (idx _ _ 2 _ ?_).mono ?_; (focus decide); rintro e w' ⟨rfl, rfl⟩)
      | (refine (idx _ _ (-1) _ ?_).mono ?_; (focus decide); rintro e w' ⟨rfl, rfl⟩))
    | (go_at_call 17; refine (field_any _ _ _).mono ?_; rintro e w' ⟨rfl, rfl⟩))
  any_goals (go_ret; exact ⟨by simp [vldS]; omega, by repeat (first | exact Below.refl _ _ | refine below_drewN ?_ _ | refine Below.drew ?_ | refine Below.alloc ?_ (by simp) _)⟩)
  rw [rounds_succ]
  go_wp2_with (first
    | (go_at_call 27; first
      | (refine (idx _ _ 0 _ ?_).mono ?_; (focus decide); rintro e w' ⟨rfl, rfl⟩)
      | (refine (idx _ _ 1 _ ?_).mono ?_; (focus decide); rintro e w' ⟨rfl, rfl⟩)
      | (refine (idx _ _ 2 _ ?_).mono ?_; (focus decide); rintro e w' ⟨rfl, rfl⟩)
      | (refine (idx _ _ (-1) _ ?_).mono ?_; (focus decide); rintro e w' ⟨rfl, rfl⟩))
    | (go_at_call 17; refine (field_any _ _ _).mono ?_; rintro e w' ⟨rfl, rfl⟩))
  any_goals (go_ret; exact ⟨by simp [vldS]; omega, by repeat (first | exact Below.refl _ _ | refine below_drewN ?_ _ | refine Below.drew ?_ | refine Below.alloc ?_ (by simp) _)⟩)
  rw [rounds_succ]
  go_wp2_with (first
    | (go_at_call 27; first
      | (refine (idx _ _ 0 _ ?_).mono ?_; (focus decide); rintro e w' ⟨rfl, rfl⟩)
      | (refine (idx _ _ 1 _ ?_).mono ?_; (focus decide); rintro e w' ⟨rfl, rfl⟩)
      | (refine (idx _ _ 2 _ ?_).mono ?_; (focus decide); rintro e w' ⟨rfl, rfl⟩)
      | (refine (idx _ _ (-1) _ ?_).mono ?_; (focus decide); rintro e w' ⟨rfl, rfl⟩))
    | (go_at_call 17; refine (field_any _ _ _).mono ?_; rintro e w' ⟨rfl, rfl⟩))
  go_quiet (fail)
  go_wp2_with (first
    | (go_at_call 27; first
      | (refine (idx _ _ 0 _ ?_).mono ?_; (focus decide); rintro e w' ⟨rfl, rfl⟩)
      | (refine (idx _ _ 1 _ ?_).mono ?_; (focus decide); rintro e w' ⟨rfl, rfl⟩)
      | (refine (idx _ _ 2 _ ?_).mono ?_; (focus decide); rintro e w' ⟨rfl, rfl⟩)
      | (refine (idx _ _ (-1) _ ?_).mono ?_; (focus decide); rintro e w' ⟨rfl, rfl⟩))
    | (go_at_call 17; refine (field_any _ _ _).mono ?_; rintro e w' ⟨rfl, rfl⟩))
  any_goals (go_ret; exact ⟨by simp [vldS]; omega, by repeat (first | exact Below.refl _ _ | refine below_drewN ?_ _ | refine Below.drew ?_ | refine Below.alloc ?_ (by simp) _)⟩)
  rw [rounds_succ]
  go_wp2_with (first
    | (go_at_call 27; first
      | (refine (idx _ _ 0 _ ?_).mono ?_; (focus decide); rintro e w' ⟨rfl, rfl⟩)
      | (refine (idx _ _ 1 _ ?_).mono ?_; (focus decide); rintro e w' ⟨rfl, rfl⟩)
      | (refine (idx _ _ 2 _ ?_).mono ?_; (focus decide); rintro e w' ⟨rfl, rfl⟩)
      | (refine (idx _ _ (-1) _ ?_).mono ?_; (focus decide); rintro e w' ⟨rfl, rfl⟩))
    | (go_at_call 17; refine (field_any _ _ _).mono ?_; rintro e w' ⟨rfl, rfl⟩))
  any_goals (go_ret; exact ⟨by simp [vldS]; omega, by repeat (first | exact Below.refl _ _ | refine below_drewN ?_ _ | refine Below.drew ?_ | refine Below.alloc ?_ (by simp) _)⟩)

end Go.Proofs.YtpachmkklppmjaaDoor
