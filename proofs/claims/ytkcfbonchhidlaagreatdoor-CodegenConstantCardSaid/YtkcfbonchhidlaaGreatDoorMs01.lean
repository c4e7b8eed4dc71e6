import Derived.Test.YtkcfbonchhidlaaGreatDoorMs00
import Derived.Test.YtkcfbonchhidlaaGreatDoorRows
namespace Go.Proofs.YtkcfbonchhidlaaGreatDoor
open Go.RowKit

def posLow (c : Int) : Int := if c = 65 then 22 else if c = 66 then 18 else if c = 67 then 14 else 0
def posSize (c : Int) : Int := if c = 65 then 4 else if c = 66 then 4 else if c = 67 then 4 else 18
def fieldOff (c : Int) : Nat := if c = 65 then 1 else if c = 66 then 2 else if c = 67 then 3 else 4

theorem position_any (c : Int) (w : World) :
    Calls Tryz.prog 13 #[.int .u8 c] w fun e w' => e = .returned (.tuple #[.int .i64 (posLow c), .int .i64 (posSize c)]) ∧ w = w' := by
  go_enter Tryz.func13, Tryz.ntmps13
  go_wp2
  all_goals (go_ret2; simp_all [posLow, posSize])

theorem field_any (b : Nat) (c : Int) (w : World) :
    Calls Tryz.prog 14 #[.pointer (some ⟨b, 0, none⟩), .int .u8 c] w fun e w' => e = .returned (.pointer (some ⟨b, fieldOff c, none⟩)) ∧ w = w' := by
  go_enter Tryz.func14, Tryz.ntmps14
  go_wp2
  all_goals (go_ret; simp_all [fieldOff])

theorem isBranch_any (c : Int) (w : World) :
    Calls Tryz.prog 45 #[.int .u8 c] w fun e w' => e = .returned (.bool (c == 22 || c == 23 || c == 24)) ∧ w = w' := by
  go_enter Tryz.func45, Tryz.ntmps45
  go_wp2
  all_goals (go_ret; simp_all)

theorem valid_big (n : Nat) (a b c i : Int) (w : World) (hn : 30 ≤ n) :
    Calls Tryz.prog 12 #[.agg #[.int .u8 n, .int .i64 a, .int .i64 b, .int .i64 c, .int .i64 i]] w fun e w' => e = .returned (.bool false) ∧ Below w.heap.size w w' := by
  go_enter Tryz.func12, Tryz.ntmps12
  go_wp2
  go_ret
  exact ⟨rfl, (Below.refl _ _).alloc (Nat.le_refl _) _⟩


theorem idx (s : ByteArray) (c r : Int) (w : World) (h : Lib.indexByte s.data.toList c.toNat.toUInt8 = r) :
    Calls Tryz.prog 26 #[.string s, .int .u8 c] w fun e w' => e = .returned (.int .i64 r) ∧ w = w' :=
  (Tryz.strings_IndexByte s c w).mono fun e w' ⟨he, hw⟩ => ⟨by rw [he, h], hw.symm⟩

def vldS (ua ub uc ui : Bool) (lo hi a b c i : Int) : Bool :=
  decide ((0 ≤ a ∧ a ≤ if ua then 15 else 0) ∧ (0 ≤ b ∧ b ≤ if ub then 15 else 0) ∧ (0 ≤ c ∧ c ≤ if uc then 15 else 0) ∧ ((if ui then lo else 0) ≤ i ∧ i ≤ if ui then hi else 0))

structure FmtAt (w : World) (n : Nat) (m o r : ByteArray) (wr : Bool) (lo hi : Int) : Prop where
  h0 : w.cell? ⟨0, n * 6, none⟩ = some (.string m)
  h1 : w.cell? ⟨0, n * 6 + 1, none⟩ = some (.string o)
  h2 : w.cell? ⟨0, n * 6 + 2, none⟩ = some (.string r)
  h3 : w.cell? ⟨0, n * 6 + 3, none⟩ = some (.bool wr)
  h4 : w.cell? ⟨0, n * 6 + 4, none⟩ = some (.int .i64 lo)
  h5 : w.cell? ⟨0, n * 6 + 5, none⟩ = some (.int .i64 hi)
  hz : 0 < w.heap.size

set_option maxHeartbeats 800000 in
theorem valid_none (n : Nat) (a b c i lo hi : Int) (m r : ByteArray) (wr : Bool) (w : World) (hn : n < 30) (hf : FmtAt w n m ⟨#[]⟩ r wr lo hi) :
    Calls Tryz.prog 12 #[.agg #[.int .u8 n, .int .i64 a, .int .i64 b, .int .i64 c, .int .i64 i]] w fun e w' => e = .returned (.bool (vldS false false false false lo hi a b c i)) ∧ Below w.heap.size w w' := by
  obtain ⟨h0, h1, h2, h3, h4, h5, hz⟩ := hf
  have e0 : (((⟨#[65, 66, 67, 73]⟩ : ByteArray)[0]'(by decide)).toNat : Int) = 65 := rfl
  have e1 : (((⟨#[65, 66, 67, 73]⟩ : ByteArray)[1]'(by decide)).toNat : Int) = 66 := rfl
  have e2 : (((⟨#[65, 66, 67, 73]⟩ : ByteArray)[2]'(by decide)).toNat : Int) = 67 := rfl
  have e3 : (((⟨#[65, 66, 67, 73]⟩ : ByteArray)[3]'(by decide)).toNat : Int) = 73 := rfl
  have f0 : fieldOff 65 = 1 := rfl
  have f1 : fieldOff 66 = 2 := rfl
  have f2 : fieldOff 67 = 3 := rfl
  have f3 : fieldOff 73 = 4 := rfl
  go_enter Tryz.func12, Tryz.ntmps12
  go_wp2_with fail
  refine wp_loop_rounds 5 ?_
  rw [rounds_succ]
  go_wp2_with (first
    | (go_at_call 26; first
      | (refine (idx _ _ 0 _ ?_).mono ?_; (focus decide); rintro e w' ⟨rfl, rfl⟩)
      | (refine (idx _ _ 1 _ ?_).mono ?_; (focus decide); rintro e w' ⟨rfl, rfl⟩)
      | (refine (idx _ _ 2 _ ?_).mono ?_; (focus decide); rintro e w' ⟨rfl, rfl⟩)
      | (refine (idx _ _ (-1) _ ?_).mono ?_; (focus decide); rintro e w' ⟨rfl, rfl⟩))
    | (go_at_call 14; refine (field_any _ _ _).mono ?_; rintro e w' ⟨rfl, rfl⟩))
  any_goals (go_ret; exact ⟨by simp [vldS]; omega, by repeat (first | exact Below.refl _ _ | refine below_drewN ?_ _ | refine Below.drew ?_ | refine Below.alloc ?_ (by simp) _)⟩)
  rw [rounds_succ]
  go_wp2_with (first
    | (go_at_call 26; first
      | (refine (idx _ _ 0 _ ?_).mono ?_; (focus decide); rintro e w' ⟨rfl, rfl⟩)
      | (refine (idx _ _ 1 _ ?_).mono ?_; (focus decide); rintro e w' ⟨rfl, rfl⟩)
      | (refine (idx _ _ 2 _ ?_).mono ?_; (focus decide); rintro e w' ⟨rfl, rfl⟩)
      | (refine (idx _ _ (-1) _ ?_).mono ?_; (focus decide); rintro e w' ⟨rfl, rfl⟩))
    | (go_at_call 14; refine (field_any _ _ _).mono ?_; rintro e w' ⟨rfl, rfl⟩))
  any_goals (go_ret; exact ⟨by simp [vldS]; omega, by repeat (first | exact Below.refl _ _ | refine below_drewN ?_ _ | refine Below.drew ?_ | refine Below.alloc ?_ (by simp) _)⟩)
  rw [rounds_succ]
  go_wp2_with (first
    | (go_at_call 26; first
      | (refine (idx _ _ 0 _ ?_).mono ?_; (focus decide); rintro e w' ⟨rfl, rfl⟩)
      | (refine (idx _ _ 1 _ ?_).mono ?_; (focus decide); rintro e w' ⟨rfl, rfl⟩)
      | (refine (idx _ _ 2 _ ?_).mono ?_; (focus decide); rintro e w' ⟨rfl, rfl⟩)
      | (refine (idx _ _ (-1) _ ?_).mono ?_; (focus decide); rintro e w' ⟨rfl, rfl⟩))
    | (go_at_call 14; refine (field_any _ _ _).mono ?_; rintro e w' ⟨rfl, rfl⟩))
  any_goals (go_ret; exact ⟨by simp [vldS]; omega, by repeat (first | exact Below.refl _ _ | refine below_drewN ?_ _ | refine Below.drew ?_ | refine Below.alloc ?_ (by simp) _)⟩)
  rw [rounds_succ]
  go_wp2_with (first
    | (go_at_call 26; first
      | (refine (idx _ _ 0 _ ?_).mono ?_; (focus decide); rintro e w' ⟨rfl, rfl⟩)
      | (refine (idx _ _ 1 _ ?_).mono ?_; (focus decide); rintro e w' ⟨rfl, rfl⟩)
      | (refine (idx _ _ 2 _ ?_).mono ?_; (focus decide); rintro e w' ⟨rfl, rfl⟩)
      | (refine (idx _ _ (-1) _ ?_).mono ?_; (focus decide); rintro e w' ⟨rfl, rfl⟩))
    | (go_at_call 14; refine (field_any _ _ _).mono ?_; rintro e w' ⟨rfl, rfl⟩))
  any_goals (go_ret; exact ⟨by simp [vldS]; omega, by repeat (first | exact Below.refl _ _ | refine below_drewN ?_ _ | refine Below.drew ?_ | refine Below.alloc ?_ (by simp) _)⟩)
  rw [rounds_succ]
  go_wp2_with (first
    | (go_at_call 26; first
      | (refine (idx _ _ 0 _ ?_).mono ?_; (focus decide); rintro e w' ⟨rfl, rfl⟩)
      | (refine (idx _ _ 1 _ ?_).mono ?_; (focus decide); rintro e w' ⟨rfl, rfl⟩)
      | (refine (idx _ _ 2 _ ?_).mono ?_; (focus decide); rintro e w' ⟨rfl, rfl⟩)
      | (refine (idx _ _ (-1) _ ?_).mono ?_; (focus decide); rintro e w' ⟨rfl, rfl⟩))
    | (go_at_call 14; refine (field_any _ _ _).mono ?_; rintro e w' ⟨rfl, rfl⟩))
  any_goals (go_ret; exact ⟨by simp [vldS]; omega, by repeat (first | exact Below.refl _ _ | refine below_drewN ?_ _ | refine Below.drew ?_ | refine Below.alloc ?_ (by simp) _)⟩)

set_option maxHeartbeats 800000 in
theorem valid_abc (n : Nat) (a b c i lo hi : Int) (m r : ByteArray) (wr : Bool) (w : World) (hn : n < 30) (hf : FmtAt w n m ⟨#[65, 66, 67]⟩ r wr lo hi) :
    Calls Tryz.prog 12 #[.agg #[.int .u8 n, .int .i64 a, .int .i64 b, .int .i64 c, .int .i64 i]] w fun e w' => e = .returned (.bool (vldS true true true false lo hi a b c i)) ∧ Below w.heap.size w w' := by
  obtain ⟨h0, h1, h2, h3, h4, h5, hz⟩ := hf
  have e0 : (((⟨#[65, 66, 67, 73]⟩ : ByteArray)[0]'(by decide)).toNat : Int) = 65 := rfl
  have e1 : (((⟨#[65, 66, 67, 73]⟩ : ByteArray)[1]'(by decide)).toNat : Int) = 66 := rfl
  have e2 : (((⟨#[65, 66, 67, 73]⟩ : ByteArray)[2]'(by decide)).toNat : Int) = 67 := rfl
  have e3 : (((⟨#[65, 66, 67, 73]⟩ : ByteArray)[3]'(by decide)).toNat : Int) = 73 := rfl
  have f0 : fieldOff 65 = 1 := rfl
  have f1 : fieldOff 66 = 2 := rfl
  have f2 : fieldOff 67 = 3 := rfl
  have f3 : fieldOff 73 = 4 := rfl
  go_enter Tryz.func12, Tryz.ntmps12
  go_wp2_with fail
  refine wp_loop_rounds 5 ?_
  rw [rounds_succ]
  go_wp2_with (first
    | (go_at_call 26; first
      | (refine (idx _ _ 0 _ ?_).mono ?_; (focus decide); rintro e w' ⟨rfl, rfl⟩)
      | (refine (idx _ _ 1 _ ?_).mono ?_; (focus decide); rintro e w' ⟨rfl, rfl⟩)
      | (refine (idx _ _ 2 _ ?_).mono ?_; (focus decide); rintro e w' ⟨rfl, rfl⟩)
      | (refine (idx _ _ (-1) _ ?_).mono ?_; (focus decide); rintro e w' ⟨rfl, rfl⟩))
    | (go_at_call 14; refine (field_any _ _ _).mono ?_; rintro e w' ⟨rfl, rfl⟩))
  any_goals (go_ret; exact ⟨by simp [vldS]; omega, by repeat (first | exact Below.refl _ _ | refine below_drewN ?_ _ | refine Below.drew ?_ | refine Below.alloc ?_ (by simp) _)⟩)
  rw [rounds_succ]
  go_wp2_with (first
    | (go_at_call 26; first
      | (refine (idx _ _ 0 _ ?_).mono ?_; (focus decide); rintro e w' ⟨rfl, rfl⟩)
      | (refine (idx _ _ 1 _ ?_).mono ?_; (focus decide); rintro e w' ⟨rfl, rfl⟩)
      | (refine (idx _ _ 2 _ ?_).mono ?_; (focus decide); rintro e w' ⟨rfl, rfl⟩)
      | (refine (idx _ _ (-1) _ ?_).mono ?_; (focus decide); rintro e w' ⟨rfl, rfl⟩))
    | (go_at_call 14; refine (field_any _ _ _).mono ?_; rintro e w' ⟨rfl, rfl⟩))
  any_goals (go_ret; exact ⟨by simp [vldS]; omega, by repeat (first | exact Below.refl _ _ | refine below_drewN ?_ _ | refine Below.drew ?_ | refine Below.alloc ?_ (by simp) _)⟩)
  rw [rounds_succ]
  go_wp2_with (first
    | (go_at_call 26; first
      | (refine (idx _ _ 0 _ ?_).mono ?_; (focus decide); rintro e w' ⟨rfl, rfl⟩)
      | (refine (idx _ _ 1 _ ?_).mono ?_; (focus decide); rintro e w' ⟨rfl, rfl⟩)
      | (refine (idx _ _ 2 _ ?_).mono ?_; (focus decide); rintro e w' ⟨rfl, rfl⟩)
      | (refine (idx _ _ (-1) _ ?_).mono ?_; (focus decide); rintro e w' ⟨rfl, rfl⟩))
    | (go_at_call 14; refine (field_any _ _ _).mono ?_; rintro e w' ⟨rfl, rfl⟩))
  any_goals (go_ret; exact ⟨by simp [vldS]; omega, by repeat (first | exact Below.refl _ _ | refine below_drewN ?_ _ | refine Below.drew ?_ | refine Below.alloc ?_ (by simp) _)⟩)
  rw [rounds_succ]
  go_wp2_with (first
    | (go_at_call 26; first
      | (refine (idx _ _ 0 _ ?_).mono ?_; (focus decide); rintro e w' ⟨rfl, rfl⟩)
      | (refine (idx _ _ 1 _ ?_).mono ?_; (focus decide); rintro e w' ⟨rfl, rfl⟩)
      | (refine (idx _ _ 2 _ ?_).mono ?_; (focus decide); rintro e w' ⟨rfl, rfl⟩)
      | (refine (idx _ _ (-1) _ ?_).mono ?_; (focus decide); rintro e w' ⟨rfl, rfl⟩))
    | (go_at_call 14; refine (field_any _ _ _).mono ?_; rintro e w' ⟨rfl, rfl⟩))
  any_goals (go_ret; exact ⟨by simp [vldS]; omega, by repeat (first | exact Below.refl _ _ | refine below_drewN ?_ _ | refine Below.drew ?_ | refine Below.alloc ?_ (by simp) _)⟩)
  rw [rounds_succ]
  go_wp2_with (first
    | (go_at_call 26; first
      | (refine (idx _ _ 0 _ ?_).mono ?_; (focus decide); rintro e w' ⟨rfl, rfl⟩)
      | (refine (idx _ _ 1 _ ?_).mono ?_; (focus decide); rintro e w' ⟨rfl, rfl⟩)
      | (refine (idx _ _ 2 _ ?_).mono ?_; (focus decide); rintro e w' ⟨rfl, rfl⟩)
      | (refine (idx _ _ (-1) _ ?_).mono ?_; (focus decide); rintro e w' ⟨rfl, rfl⟩))
    | (go_at_call 14; refine (field_any _ _ _).mono ?_; rintro e w' ⟨rfl, rfl⟩))
  any_goals (go_ret; exact ⟨by simp [vldS]; omega, by repeat (first | exact Below.refl _ _ | refine below_drewN ?_ _ | refine Below.drew ?_ | refine Below.alloc ?_ (by simp) _)⟩)

set_option maxHeartbeats 800000 in
theorem valid_ai (n : Nat) (a b c i lo hi : Int) (m r : ByteArray) (wr : Bool) (w : World) (hn : n < 30) (hf : FmtAt w n m ⟨#[65, 73]⟩ r wr lo hi) :
    Calls Tryz.prog 12 #[.agg #[.int .u8 n, .int .i64 a, .int .i64 b, .int .i64 c, .int .i64 i]] w fun e w' => e = .returned (.bool (vldS true false false true lo hi a b c i)) ∧ Below w.heap.size w w' := by
  obtain ⟨h0, h1, h2, h3, h4, h5, hz⟩ := hf
  have e0 : (((⟨#[65, 66, 67, 73]⟩ : ByteArray)[0]'(by decide)).toNat : Int) = 65 := rfl
  have e1 : (((⟨#[65, 66, 67, 73]⟩ : ByteArray)[1]'(by decide)).toNat : Int) = 66 := rfl
  have e2 : (((⟨#[65, 66, 67, 73]⟩ : ByteArray)[2]'(by decide)).toNat : Int) = 67 := rfl
  have e3 : (((⟨#[65, 66, 67, 73]⟩ : ByteArray)[3]'(by decide)).toNat : Int) = 73 := rfl
  have f0 : fieldOff 65 = 1 := rfl
  have f1 : fieldOff 66 = 2 := rfl
  have f2 : fieldOff 67 = 3 := rfl
  have f3 : fieldOff 73 = 4 := rfl
  go_enter Tryz.func12, Tryz.ntmps12
  go_wp2_with fail
  refine wp_loop_rounds 5 ?_
  rw [rounds_succ]
  go_wp2_with (first
    | (go_at_call 26; first
      | (refine (idx _ _ 0 _ ?_).mono ?_; (focus decide); rintro e w' ⟨rfl, rfl⟩)
      | (refine (idx _ _ 1 _ ?_).mono ?_; (focus decide); rintro e w' ⟨rfl, rfl⟩)
      | (refine (idx _ _ 2 _ ?_).mono ?_; (focus decide); rintro e w' ⟨rfl, rfl⟩)
      | (refine (idx _ _ (-1) _ ?_).mono ?_; (focus decide); rintro e w' ⟨rfl, rfl⟩))
    | (go_at_call 14; refine (field_any _ _ _).mono ?_; rintro e w' ⟨rfl, rfl⟩))
  any_goals (go_ret; exact ⟨by simp [vldS]; omega, by repeat (first | exact Below.refl _ _ | refine below_drewN ?_ _ | refine Below.drew ?_ | refine Below.alloc ?_ (by simp) _)⟩)
  rw [rounds_succ]
  go_wp2_with (first
    | (go_at_call 26; first
      | (refine (idx _ _ 0 _ ?_).mono ?_; (focus decide); rintro e w' ⟨rfl, rfl⟩)
      | (refine (idx _ _ 1 _ ?_).mono ?_; (focus decide); rintro e w' ⟨rfl, rfl⟩)
      | (refine (idx _ _ 2 _ ?_).mono ?_; (focus decide); rintro e w' ⟨rfl, rfl⟩)
      | (refine (idx _ _ (-1) _ ?_).mono ?_; (focus decide); rintro e w' ⟨rfl, rfl⟩))
    | (go_at_call 14; refine (field_any _ _ _).mono ?_; rintro e w' ⟨rfl, rfl⟩))
  any_goals (go_ret; exact ⟨by simp [vldS]; omega, by repeat (first | exact Below.refl _ _ | refine below_drewN ?_ _ | refine Below.drew ?_ | refine Below.alloc ?_ (by simp) _)⟩)
  rw [rounds_succ]
  go_wp2_with (first
    | (go_at_call 26; first
      | (refine (idx _ _ 0 _ ?_).mono ?_; (focus decide); rintro e w' ⟨rfl, rfl⟩)
      | (refine (idx _ _ 1 _ ?_).mono ?_; (focus decide); rintro e w' ⟨rfl, rfl⟩)
      | (refine (idx _ _ 2 _ ?_).mono ?_; (focus decide); rintro e w' ⟨rfl, rfl⟩)
      | (refine (idx _ _ (-1) _ ?_).mono ?_; (focus decide); rintro e w' ⟨rfl, rfl⟩))
    | (go_at_call 14; refine (field_any _ _ _).mono ?_; rintro e w' ⟨rfl, rfl⟩))
  any_goals (go_ret; exact ⟨by simp [vldS]; omega, by repeat (first | exact Below.refl _ _ | refine below_drewN ?_ _ | refine Below.drew ?_ | refine Below.alloc ?_ (by simp) _)⟩)
  rw [rounds_succ]
  go_wp2_with (first
    | (go_at_call 26; first
      | (refine (idx _ _ 0 _ ?_).mono ?_; (focus decide); rintro e w' ⟨rfl, rfl⟩)
      | (refine (idx _ _ 1 _ ?_).mono ?_; (focus decide); rintro e w' ⟨rfl, rfl⟩)
      | (refine (idx _ _ 2 _ ?_).mono ?_; (focus decide); rintro e w' ⟨rfl, rfl⟩)
      | (refine (idx _ _ (-1) _ ?_).mono ?_; (focus decide); rintro e w' ⟨rfl, rfl⟩))
    | (go_at_call 14; refine (field_any _ _ _).mono ?_; rintro e w' ⟨rfl, rfl⟩))
  go_quiet (fail)
  go_wp2_with (first
    | (go_at_call 26; first
      | (refine (idx _ _ 0 _ ?_).mono ?_; (focus decide); rintro e w' ⟨rfl, rfl⟩)
      | (refine (idx _ _ 1 _ ?_).mono ?_; (focus decide); rintro e w' ⟨rfl, rfl⟩)
      | (refine (idx _ _ 2 _ ?_).mono ?_; (focus decide); rintro e w' ⟨rfl, rfl⟩)
      | (refine (idx _ _ (-1) _ ?_).mono ?_; (focus decide); rintro e w' ⟨rfl, rfl⟩))
    | (go_at_call 14; refine (field_any _ _ _).mono ?_; rintro e w' ⟨rfl, rfl⟩))
  any_goals (go_ret; exact ⟨by simp [vldS]; omega, by repeat (first | exact Below.refl _ _ | refine below_drewN ?_ _ | refine Below.drew ?_ | refine Below.alloc ?_ (by simp) _)⟩)
  rw [rounds_succ]
  go_wp2_with (first
    | (go_at_call 26; first
      | (refine (idx _ _ 0 _ ?_).mono ?_; (focus decide); rintro e w' ⟨rfl, rfl⟩)
      | (refine (idx _ _ 1 _ ?_).mono ?_; (focus decide); rintro e w' ⟨rfl, rfl⟩)
      | (refine (idx _ _ 2 _ ?_).mono ?_; (focus decide); rintro e w' ⟨rfl, rfl⟩)
      | (refine (idx _ _ (-1) _ ?_).mono ?_; (focus decide); rintro e w' ⟨rfl, rfl⟩))
    | (go_at_call 14; refine (field_any _ _ _).mono ?_; rintro e w' ⟨rfl, rfl⟩))
  any_goals (go_ret; exact ⟨by simp [vldS]; omega, by repeat (first | exact Below.refl _ _ | refine below_drewN ?_ _ | refine Below.drew ?_ | refine Below.alloc ?_ (by simp) _)⟩)

set_option maxHeartbeats 800000 in
theorem valid_abi (n : Nat) (a b c i lo hi : Int) (m r : ByteArray) (wr : Bool) (w : World) (hn : n < 30) (hf : FmtAt w n m ⟨#[65, 66, 73]⟩ r wr lo hi) :
    Calls Tryz.prog 12 #[.agg #[.int .u8 n, .int .i64 a, .int .i64 b, .int .i64 c, .int .i64 i]] w fun e w' => e = .returned (.bool (vldS true true false true lo hi a b c i)) ∧ Below w.heap.size w w' := by
  obtain ⟨h0, h1, h2, h3, h4, h5, hz⟩ := hf
  have e0 : (((⟨#[65, 66, 67, 73]⟩ : ByteArray)[0]'(by decide)).toNat : Int) = 65 := rfl
  have e1 : (((⟨#[65, 66, 67, 73]⟩ : ByteArray)[1]'(by decide)).toNat : Int) = 66 := rfl
  have e2 : (((⟨#[65, 66, 67, 73]⟩ : ByteArray)[2]'(by decide)).toNat : Int) = 67 := rfl
  have e3 : (((⟨#[65, 66, 67, 73]⟩ : ByteArray)[3]'(by decide)).toNat : Int) = 73 := rfl
  have f0 : fieldOff 65 = 1 := rfl
  have f1 : fieldOff 66 = 2 := rfl
  have f2 : fieldOff 67 = 3 := rfl
  have f3 : fieldOff 73 = 4 := rfl
  go_enter Tryz.func12, Tryz.ntmps12
  go_wp2_with fail
  refine wp_loop_rounds 5 ?_
  rw [rounds_succ]
  go_wp2_with (first
    | (go_at_call 26; first
      | (refine (idx _ _ 0 _ ?_).mono ?_; (focus decide); rintro e w' ⟨rfl, rfl⟩)
      | (refine (idx _ _ 1 _ ?_).mono ?_; (focus decide); rintro e w' ⟨rfl, rfl⟩)
      | (refine (idx _ _ 2 _ ?_).mono ?_; (focus decide); rintro e w' ⟨rfl, rfl⟩)
      | (refine (idx _ _ (-1) _ ?_).mono ?_; (focus decide); rintro e w' ⟨rfl, rfl⟩))
    | (go_at_call 14; refine (field_any _ _ _).mono ?_; rintro e w' ⟨rfl, rfl⟩))
  any_goals (go_ret; exact ⟨by simp [vldS]; omega, by repeat (first | exact Below.refl _ _ | refine below_drewN ?_ _ | refine Below.drew ?_ | refine Below.alloc ?_ (by simp) _)⟩)
  rw [rounds_succ]
  go_wp2_with (first
    | (go_at_call 26; first
      | (refine (idx _ _ 0 _ ?_).mono ?_; (focus decide); rintro e w' ⟨rfl, rfl⟩)
      | (refine (idx _ _ 1 _ ?_).mono ?_; (focus decide); rintro e w' ⟨rfl, rfl⟩)
      | (refine (idx _ _ 2 _ ?_).mono ?_; (focus decide); rintro e w' ⟨rfl, rfl⟩)
      | (refine (idx _ _ (-1) _ ?_).mono ?_; (focus decide); rintro e w' ⟨rfl, rfl⟩))
    | (go_at_call 14; refine (field_any _ _ _).mono ?_; rintro e w' ⟨rfl, rfl⟩))
  any_goals (go_ret; exact ⟨by simp [vldS]; omega, by repeat (first | exact Below.refl _ _ | refine below_drewN ?_ _ | refine Below.drew ?_ | refine Below.alloc ?_ (by simp) _)⟩)
  rw [rounds_succ]
  go_wp2_with (first
    | (go_at_call 26; first
      | (refine (idx _ _ 0 _ ?_).mono ?_; (focus decide); rintro e w' ⟨rfl, rfl⟩)
      | (refine (idx _ _ 1 _ ?_).mono ?_; (focus decide); rintro e w' ⟨rfl, rfl⟩)
      | (refine (idx _ _ 2 _ ?_).mono ?_; (focus decide); rintro e w' ⟨rfl, rfl⟩)
      | (refine (idx _ _ (-1) _ ?_).mono ?_; (focus decide); rintro e w' ⟨rfl, rfl⟩))
    | (go_at_call 14; refine (field_any _ _ _).mono ?_; rintro e w' ⟨rfl, rfl⟩))
  any_goals (go_ret; exact ⟨by simp [vldS]; omega, by repeat (first | exact Below.refl _ _ | refine below_drewN ?_ _ | refine Below.drew ?_ | refine Below.alloc ?_ (by simp) _)⟩)
  rw [rounds_succ]
  go_wp2_with (first
    | (go_at_call 26; first
      | (refine (idx _ _ 0 _ ?_).mono ?_; (focus decide); rintro e w' ⟨rfl, rfl⟩)
      | (refine (idx _ _ 1 _ ?_).mono ?_; (focus decide); rintro e w' ⟨rfl, rfl⟩)
      | (refine (idx _ _ 2 _ ?_).mono ?_; (focus decide); rintro e w' ⟨rfl, rfl⟩)
      | (refine (idx _ _ (-1) _ ?_).mono ?_; (focus decide); rintro e w' ⟨rfl, rfl⟩))
    | (go_at_call 14; refine (field_any _ _ _).mono ?_; rintro e w' ⟨rfl, rfl⟩))
  go_quiet (fail)
  go_wp2_with (first
    | (go_at_call 26; first
      | (refine (idx _ _ 0 _ ?_).mono ?_; (focus decide); rintro e w' ⟨rfl, rfl⟩)
      | (refine (idx _ _ 1 _ ?_).mono ?_; (focus decide); rintro e w' ⟨rfl, rfl⟩)
      | (refine (idx _ _ 2 _ ?_).mono ?_; (focus decide); rintro e w' ⟨rfl, rfl⟩)
      | (refine (idx _ _ (-1) _ ?_).mono ?_; (focus decide); rintro e w' ⟨rfl, rfl⟩))
    | (go_at_call 14; refine (field_any _ _ _).mono ?_; rintro e w' ⟨rfl, rfl⟩))
  any_goals (go_ret; exact ⟨by simp [vldS]; omega, by repeat (first | exact Below.refl _ _ | refine below_drewN ?_ _ | refine Below.drew ?_ | refine Below.alloc ?_ (by simp) _)⟩)
  rw [rounds_succ]
  go_wp2_with (first
    | (go_at_call 26; first
      | (refine (idx _ _ 0 _ ?_).mono ?_; (focus decide); rintro e w' ⟨rfl, rfl⟩)
      | (refine (idx _ _ 1 _ ?_).mono ?_; (focus decide); rintro e w' ⟨rfl, rfl⟩)
      | (refine (idx _ _ 2 _ ?_).mono ?_; (focus decide); rintro e w' ⟨rfl, rfl⟩)
      | (refine (idx _ _ (-1) _ ?_).mono ?_; (focus decide); rintro e w' ⟨rfl, rfl⟩))
    | (go_at_call 14; refine (field_any _ _ _).mono ?_; rintro e w' ⟨rfl, rfl⟩))
  any_goals (go_ret; exact ⟨by simp [vldS]; omega, by repeat (first | exact Below.refl _ _ | refine below_drewN ?_ _ | refine Below.drew ?_ | refine Below.alloc ?_ (by simp) _)⟩)

set_option maxHeartbeats 800000 in
theorem valid_i (n : Nat) (a b c i lo hi : Int) (m r : ByteArray) (wr : Bool) (w : World) (hn : n < 30) (hf : FmtAt w n m ⟨#[73]⟩ r wr lo hi) :
    Calls Tryz.prog 12 #[.agg #[.int .u8 n, .int .i64 a, .int .i64 b, .int .i64 c, .int .i64 i]] w fun e w' => e = .returned (.bool (vldS false false false true lo hi a b c i)) ∧ Below w.heap.size w w' := by
  obtain ⟨h0, h1, h2, h3, h4, h5, hz⟩ := hf
  have e0 : (((⟨#[65, 66, 67, 73]⟩ : ByteArray)[0]'(by decide)).toNat : Int) = 65 := rfl
  have e1 : (((⟨#[65, 66, 67, 73]⟩ : ByteArray)[1]'(by decide)).toNat : Int) = 66 := rfl
  have e2 : (((⟨#[65, 66, 67, 73]⟩ : ByteArray)[2]'(by decide)).toNat : Int) = 67 := rfl
  have e3 : (((⟨#[65, 66, 67, 73]⟩ : ByteArray)[3]'(by decide)).toNat : Int) = 73 := rfl
  have f0 : fieldOff 65 = 1 := rfl
  have f1 : fieldOff 66 = 2 := rfl
  have f2 : fieldOff 67 = 3 := rfl
  have f3 : fieldOff 73 = 4 := rfl
  go_enter Tryz.func12, Tryz.ntmps12
  go_wp2_with fail
  refine wp_loop_rounds 5 ?_
  rw [rounds_succ]
  go_wp2_with (first
    | (go_at_call 26; first
      | (refine (idx _ _ 0 _ ?_).mono ?_; (focus decide); rintro e w' ⟨rfl, rfl⟩)
      | (refine (idx _ _ 1 _ ?_).mono ?_; (focus decide); rintro e w' ⟨rfl, rfl⟩)
      | (refine (idx _ _ 2 _ ?_).mono ?_; (focus decide); rintro e w' ⟨rfl, rfl⟩)
      | (refine (idx _ _ (-1) _ ?_).mono ?_; (focus decide); rintro e w' ⟨rfl, rfl⟩))
    | (go_at_call 14; refine (field_any _ _ _).mono ?_; rintro e w' ⟨rfl, rfl⟩))
  any_goals (go_ret; exact ⟨by simp [vldS]; omega, by repeat (first | exact Below.refl _ _ | refine below_drewN ?_ _ | refine Below.drew ?_ | refine Below.alloc ?_ (by simp) _)⟩)
  rw [rounds_succ]
  go_wp2_with (first
    | (go_at_call 26; first
      | (refine (idx _ _ 0 _ ?_).mono ?_; (focus decide); rintro e w' ⟨rfl, rfl⟩)
      | (refine (idx _ _ 1 _ ?_).mono ?_; (focus decide); rintro e w' ⟨rfl, rfl⟩)
      | (refine (idx _ _ 2 _ ?_).mono ?_; (focus decide); rintro e w' ⟨rfl, rfl⟩)
      | (refine (idx _ _ (-1) _ ?_).mono ?_; (focus decide); rintro e w' ⟨rfl, rfl⟩))
    | (go_at_call 14; refine (field_any _ _ _).mono ?_; rintro e w' ⟨rfl, rfl⟩))
  any_goals (go_ret; exact ⟨by simp [vldS]; omega, by repeat (first | exact Below.refl _ _ | refine below_drewN ?_ _ | refine Below.drew ?_ | refine Below.alloc ?_ (by simp) _)⟩)
  rw [rounds_succ]
  go_wp2_with (first
    | (go_at_call 26; first
      | (refine (idx _ _ 0 _ ?_).mono ?_; (focus decide); rintro e w' ⟨rfl, rfl⟩)
      | (refine (idx _ _ 1 _ ?_).mono ?_; (focus decide); rintro e w' ⟨rfl, rfl⟩)
      | (refine (idx _ _ 2 _ ?_).mono ?_; (focus decide); rintro e w' ⟨rfl, rfl⟩)
      | (refine (idx _ _ (-1) _ ?_).mono ?_; (focus decide); rintro e w' ⟨rfl, rfl⟩))
    | (go_at_call 14; refine (field_any _ _ _).mono ?_; rintro e w' ⟨rfl, rfl⟩))
  any_goals (go_ret; exact ⟨by simp [vldS]; omega, by repeat (first | exact Below.refl _ _ | refine below_drewN ?_ _ | refine Below.drew ?_ | refine Below.alloc ?_ (by simp) _)⟩)
  rw [rounds_succ]
  go_wp2_with (first
    | (go_at_call 26; first
      | (refine (idx _ _ 0 _ ?_).mono ?_; (focus decide); rintro e w' ⟨rfl, rfl⟩)
      | (refine (idx _ _ 1 _ ?_).mono ?_; (focus decide); rintro e w' ⟨rfl, rfl⟩)
      | (refine (idx _ _ 2 _ ?_).mono ?_; (focus decide); rintro e w' ⟨rfl, rfl⟩)
      | (refine (idx _ _ (-1) _ ?_).mono ?_; (focus decide); rintro e w' ⟨rfl, rfl⟩))
    | (go_at_call 14; refine (field_any _ _ _).mono ?_; rintro e w' ⟨rfl, rfl⟩))
  go_quiet (fail)
  go_wp2_with (first
    | (go_at_call 26; first
      | (refine (idx _ _ 0 _ ?_).mono ?_; (focus decide); rintro e w' ⟨rfl, rfl⟩)
      | (refine (idx _ _ 1 _ ?_).mono ?_; (focus decide); rintro e w' ⟨rfl, rfl⟩)
      | (refine (idx _ _ 2 _ ?_).mono ?_; (focus decide); rintro e w' ⟨rfl, rfl⟩)
      | (refine (idx _ _ (-1) _ ?_).mono ?_; (focus decide); rintro e w' ⟨rfl, rfl⟩))
    | (go_at_call 14; refine (field_any _ _ _).mono ?_; rintro e w' ⟨rfl, rfl⟩))
  any_goals (go_ret; exact ⟨by simp [vldS]; omega, by repeat (first | exact Below.refl _ _ | refine below_drewN ?_ _ | refine Below.drew ?_ | refine Below.alloc ?_ (by simp) _)⟩)
  rw [rounds_succ]
  go_wp2_with (first
    | (go_at_call 26; first
      | (refine (idx _ _ 0 _ ?_).mono ?_; (focus decide); rintro e w' ⟨rfl, rfl⟩)
      | (refine (idx _ _ 1 _ ?_).mono ?_; (focus decide); rintro e w' ⟨rfl, rfl⟩)
      | (refine (idx _ _ 2 _ ?_).mono ?_; (focus decide); rintro e w' ⟨rfl, rfl⟩)
      | (refine (idx _ _ (-1) _ ?_).mono ?_; (focus decide); rintro e w' ⟨rfl, rfl⟩))
    | (go_at_call 14; refine (field_any _ _ _).mono ?_; rintro e w' ⟨rfl, rfl⟩))
  any_goals (go_ret; exact ⟨by simp [vldS]; omega, by repeat (first | exact Below.refl _ _ | refine below_drewN ?_ _ | refine Below.drew ?_ | refine Below.alloc ?_ (by simp) _)⟩)

end Go.Proofs.YtkcfbonchhidlaaGreatDoor

namespace Go.Proofs.YtkcfbonchhidlaaGreatDoor
open Go.RowKit

def fmL : List (List UInt8) := [[110, 111, 112], [104, 97, 108, 116], [97, 100, 100], [115, 117, 98], [109, 117, 108], [100, 105, 118], [109, 111, 100], [97, 110, 100], [111, 114], [120, 111, 114], [115, 104, 108], [115, 104, 114], [101, 113], [108, 116], [108, 105], [97, 100, 100, 105], [115, 104, 108, 105], [111, 114, 105], [108, 100], [115, 116], [108, 100, 115], [115, 116, 115], [98, 101, 113, 122], [98, 110, 101, 122], [106, 109, 112], [98, 111, 117, 110, 100], [105, 110], [111, 117, 116], [108, 111, 99, 107], [117, 110, 108, 111, 99, 107]]
def foL : List (List UInt8) := [[], [], [65, 66, 67], [65, 66, 67], [65, 66, 67], [65, 66, 67], [65, 66, 67], [65, 66, 67], [65, 66, 67], [65, 66, 67], [65, 66, 67], [65, 66, 67], [65, 66, 67], [65, 66, 67], [65, 73], [65, 66, 73], [65, 66, 73], [65, 66, 73], [65, 66, 73], [65, 66, 73], [65, 66, 73], [65, 66, 73], [65, 73], [65, 73], [73], [65, 73], [65, 73], [65, 73], [73], [73]]
def frL : List (List UInt8) := [[], [], [66, 67], [66, 67], [66, 67], [66, 67], [66, 67], [66, 67], [66, 67], [66, 67], [66, 67], [66, 67], [66, 67], [66, 67], [], [66], [66], [66], [66], [65, 66], [66], [65, 66], [65], [65], [], [65], [], [65], [], []]
def fwL : List Bool := [false, false, true, true, true, true, true, true, true, true, true, true, true, true, true, true, true, true, true, false, true, false, false, false, false, false, true, false, false, false]
def flL : List Int := [0, 0, 0, 0, 0, 0, 0, 0, 0, 0, 0, 0, 0, 0, -131072, -131072, 0, 0, -131072, -131072, -131072, -131072, -131072, -131072, -131072, 1, 0, 0, 0, 0]
def fhL : List Int := [0, 0, 0, 0, 0, 0, 0, 0, 0, 0, 0, 0, 0, 0, 131071, 131071, 31, 16383, 131071, 131071, 131071, 131071, 131071, 131071, 131071, 131071, 7, 7, 3, 3]
def fm (n : Nat) : ByteArray := ⟨(fmL.getD n []).toArray⟩
def fo (n : Nat) : ByteArray := ⟨(foL.getD n []).toArray⟩
def frd (n : Nat) : ByteArray := ⟨(frL.getD n []).toArray⟩
def fwr (n : Nat) : Bool := fwL.getD n false
def flo (n : Nat) : Int := flL.getD n 0
def fhi (n : Nat) : Int := fhL.getD n 0
def uA (n : Nat) : Bool := (foL.getD n []).contains 65
def uB (n : Nat) : Bool := (foL.getD n []).contains 66
def uC (n : Nat) : Bool := (foL.getD n []).contains 67
def uI (n : Nat) : Bool := (foL.getD n []).contains 73

def fcells : List Value := flatD 3 (Rows.laid_ontime_isa_formats (H := Unit))

def Tab (w : World) : Prop := 0 < w.heap.size ∧ ∀ i, i < 180 → w.cell? ⟨0, i, none⟩ = fcells[i]?

theorem Tab.size {w : World} (h : Tab w) : 0 < w.heap.size := h.1
theorem Tab.below {B : Nat} {w w' : World} (h : Tab w) (hb : Below B w w') (hB : 0 < B) : Tab w' :=
  ⟨Nat.lt_of_lt_of_le h.1 hb.size, fun i hi => by rw [hb.cell (p := ⟨0, i, none⟩) hB]; exact h.2 i hi⟩
theorem Tab.of_below {w w' : World} (h : Tab w) (hb : Below w.heap.size w w') : Tab w' := h.below hb h.1

theorem frow : ∀ (n : Nat), n < 30 → (fcells.drop (n * 6)).take 6 = [.string (fm n), .string (fo n), .string (frd n), .bool (fwr n), .int .i64 (flo n), .int .i64 (fhi n)]
  | 0, _ => by kernel_rfl
  | 1, _ => by kernel_rfl
  | 2, _ => by kernel_rfl
  | 3, _ => by kernel_rfl
  | 4, _ => by kernel_rfl
  | 5, _ => by kernel_rfl
  | 6, _ => by kernel_rfl
  | 7, _ => by kernel_rfl
  | 8, _ => by kernel_rfl
  | 9, _ => by kernel_rfl
  | 10, _ => by kernel_rfl
  | 11, _ => by kernel_rfl
  | 12, _ => by kernel_rfl
  | 13, _ => by kernel_rfl
  | 14, _ => by kernel_rfl
  | 15, _ => by kernel_rfl
  | 16, _ => by kernel_rfl
  | 17, _ => by kernel_rfl
  | 18, _ => by kernel_rfl
  | 19, _ => by kernel_rfl
  | 20, _ => by kernel_rfl
  | 21, _ => by kernel_rfl
  | 22, _ => by kernel_rfl
  | 23, _ => by kernel_rfl
  | 24, _ => by kernel_rfl
  | 25, _ => by kernel_rfl
  | 26, _ => by kernel_rfl
  | 27, _ => by kernel_rfl
  | 28, _ => by kernel_rfl
  | 29, _ => by kernel_rfl
  | n + 30, h => by omega

theorem fmtAt {w : World} (h : Tab w) (n : Nat) (hn : n < 30) : FmtAt w n (fm n) (fo n) (frd n) (fwr n) (flo n) (fhi n) := by
  have hr := frow n hn
  have hc : ∀ j, j < 6 → w.cell? ⟨0, n * 6 + j, none⟩ = [Value.string (fm n), .string (fo n), .string (frd n), .bool (fwr n), .int .i64 (flo n), .int .i64 (fhi n)][j]? := by
    intro j hj
    have e := h.2 (n * 6 + j) (by omega)
    rw [← hr, List.getElem?_take, if_pos hj, List.getElem?_drop]
    exact e
  exact ⟨hc 0 (by omega), hc 1 (by omega), hc 2 (by omega), hc 3 (by omega), hc 4 (by omega), hc 5 (by omega), h.1⟩

def Shape (n : Nat) : Prop :=
  (fo n = ⟨#[]⟩ ∧ uA n = false ∧ uB n = false ∧ uC n = false ∧ uI n = false) ∨ (fo n = ⟨#[65, 66, 67]⟩ ∧ uA n = true ∧ uB n = true ∧ uC n = true ∧ uI n = false) ∨
  (fo n = ⟨#[65, 73]⟩ ∧ uA n = true ∧ uB n = false ∧ uC n = false ∧ uI n = true) ∨ (fo n = ⟨#[65, 66, 73]⟩ ∧ uA n = true ∧ uB n = true ∧ uC n = false ∧ uI n = true) ∨
  (fo n = ⟨#[73]⟩ ∧ uA n = false ∧ uB n = false ∧ uC n = false ∧ uI n = true)
theorem shape : ∀ (n : Nat), n < 30 → Shape n
  | 0, _ => Or.inl ⟨rfl, rfl, rfl, rfl, rfl⟩
  | 1, _ => Or.inl ⟨rfl, rfl, rfl, rfl, rfl⟩
  | 2, _ => Or.inr (Or.inl ⟨rfl, rfl, rfl, rfl, rfl⟩)
  | 3, _ => Or.inr (Or.inl ⟨rfl, rfl, rfl, rfl, rfl⟩)
  | 4, _ => Or.inr (Or.inl ⟨rfl, rfl, rfl, rfl, rfl⟩)
  | 5, _ => Or.inr (Or.inl ⟨rfl, rfl, rfl, rfl, rfl⟩)
  | 6, _ => Or.inr (Or.inl ⟨rfl, rfl, rfl, rfl, rfl⟩)
  | 7, _ => Or.inr (Or.inl ⟨rfl, rfl, rfl, rfl, rfl⟩)
  | 8, _ => Or.inr (Or.inl ⟨rfl, rfl, rfl, rfl, rfl⟩)
  | 9, _ => Or.inr (Or.inl ⟨rfl, rfl, rfl, rfl, rfl⟩)
  | 10, _ => Or.inr (Or.inl ⟨rfl, rfl, rfl, rfl, rfl⟩)
  | 11, _ => Or.inr (Or.inl ⟨rfl, rfl, rfl, rfl, rfl⟩)
  | 12, _ => Or.inr (Or.inl ⟨rfl, rfl, rfl, rfl, rfl⟩)
  | 13, _ => Or.inr (Or.inl ⟨rfl, rfl, rfl, rfl, rfl⟩)
  | 14, _ => Or.inr (Or.inr (Or.inl ⟨rfl, rfl, rfl, rfl, rfl⟩))
  | 15, _ => Or.inr (Or.inr (Or.inr (Or.inl ⟨rfl, rfl, rfl, rfl, rfl⟩)))
  | 16, _ => Or.inr (Or.inr (Or.inr (Or.inl ⟨rfl, rfl, rfl, rfl, rfl⟩)))
  | 17, _ => Or.inr (Or.inr (Or.inr (Or.inl ⟨rfl, rfl, rfl, rfl, rfl⟩)))
  | 18, _ => Or.inr (Or.inr (Or.inr (Or.inl ⟨rfl, rfl, rfl, rfl, rfl⟩)))
  | 19, _ => Or.inr (Or.inr (Or.inr (Or.inl ⟨rfl, rfl, rfl, rfl, rfl⟩)))
  | 20, _ => Or.inr (Or.inr (Or.inr (Or.inl ⟨rfl, rfl, rfl, rfl, rfl⟩)))
  | 21, _ => Or.inr (Or.inr (Or.inr (Or.inl ⟨rfl, rfl, rfl, rfl, rfl⟩)))
  | 22, _ => Or.inr (Or.inr (Or.inl ⟨rfl, rfl, rfl, rfl, rfl⟩))
  | 23, _ => Or.inr (Or.inr (Or.inl ⟨rfl, rfl, rfl, rfl, rfl⟩))
  | 24, _ => Or.inr (Or.inr (Or.inr (Or.inr (⟨rfl, rfl, rfl, rfl, rfl⟩))))
  | 25, _ => Or.inr (Or.inr (Or.inl ⟨rfl, rfl, rfl, rfl, rfl⟩))
  | 26, _ => Or.inr (Or.inr (Or.inl ⟨rfl, rfl, rfl, rfl, rfl⟩))
  | 27, _ => Or.inr (Or.inr (Or.inl ⟨rfl, rfl, rfl, rfl, rfl⟩))
  | 28, _ => Or.inr (Or.inr (Or.inr (Or.inr (⟨rfl, rfl, rfl, rfl, rfl⟩))))
  | 29, _ => Or.inr (Or.inr (Or.inr (Or.inr (⟨rfl, rfl, rfl, rfl, rfl⟩))))
  | n + 30, h => by omega

def vld (n : Nat) (a b c i : Int) : Bool := decide (n < 30) && vldS (uA n) (uB n) (uC n) (uI n) (flo n) (fhi n) a b c i

theorem valid_any (n : Nat) (a b c i : Int) (w : World) (hT : Tab w) :
    Calls Tryz.prog 12 #[.agg #[.int .u8 n, .int .i64 a, .int .i64 b, .int .i64 c, .int .i64 i]] w fun e w' => e = .returned (.bool (vld n a b c i)) ∧ Below w.heap.size w w' := by
  by_cases hn : n < 30
  · have hf := fmtAt hT n hn
    rcases shape n hn with ⟨h, h1, h2, h3, h4⟩ | ⟨h, h1, h2, h3, h4⟩ | ⟨h, h1, h2, h3, h4⟩ | ⟨h, h1, h2, h3, h4⟩ | ⟨h, h1, h2, h3, h4⟩
    all_goals rw [h] at hf; simp only [vld, hn, decide_true, Bool.true_and, h1, h2, h3, h4]
    · exact valid_none n a b c i _ _ _ _ _ w hn hf
    · exact valid_abc n a b c i _ _ _ _ _ w hn hf
    · exact valid_ai n a b c i _ _ _ _ _ w hn hf
    · exact valid_abi n a b c i _ _ _ _ _ w hn hf
    · exact valid_i n a b c i _ _ _ _ _ w hn hf
  · simp only [vld, hn, decide_false, Bool.false_and]
    exact valid_big n a b c i w (by omega)

theorem tab_of_laid {w : World} {nm : String} {rest : List (String × DataW Unit)} (hg : Tryz.prog.globalNamed nm = some 0) (h : laidMet Tryz.prog ((nm, Rows.laid_ontime_isa_formats) :: rest) w) : Tab w := by
  obtain ⟨et, fr, hc⟩ := cells_of_head (g := 0) (t := 67) 3 hg (by kernel_rfl) (by kernel_rfl) h
  refine ⟨?_, fun i _ => ?_⟩
  · rcases Nat.lt_or_ge 0 w.heap.size with h | h
    · exact h
    · rw [Array.getElem?_eq_none (by omega)] at hc; cases hc
  · unfold World.cell?
    rw [hc]
    simp [fcells]

end Go.Proofs.YtkcfbonchhidlaaGreatDoor

