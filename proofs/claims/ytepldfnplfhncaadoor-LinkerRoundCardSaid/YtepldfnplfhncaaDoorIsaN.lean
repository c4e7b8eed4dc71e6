/- isa.Target, and the walks of the law IsaTargets. -/
import Derived.Test.YtepldfnplfhncaaDoorIsaD
import Derived.Test.YtepldfnplfhncaaDoorIsaP
set_option linter.unusedVariables false
set_option linter.unusedSimpArgs false
namespace Go.Proofs.YtepldfnplfhncaaDoor
open Go.RowKit

/-- Branches. -/
def isBr (n : Nat) : Bool := (n : Int) == 22 || (n : Int) == 23 || (n : Int) == 24

theorem isBranch_br (n : Nat) (w : World) : Calls Tryd.prog 46 #[.int .u8 n] w fun e w' => e = .returned (.bool (isBr n)) ∧ w = w' := isBranch_any n w

theorem target_no (n : Nat) (a b c i p : Int) (w : World) (h : isBr n = false) :
    Calls Tryd.prog 37 #[.agg #[.int .u8 n, .int .i64 a, .int .i64 b, .int .i64 c, .int .i64 i], .int .i64 p] w fun e w' => e = .returned (.tuple #[.int .i64 0, .bool false]) ∧ Below w.heap.size w w' := by
  go_enter Tryd.func37, Tryd.ntmps37
  go_wp2_with fail
  refine (isBranch_br n _).mono ?_
  rintro e w1 ⟨rfl, rfl⟩
  go_wp2_with fail
  go_ret2
  exact ⟨rfl, (Below.refl _ _).alloc (Nat.le_refl _) _⟩

theorem target_ok (n : Nat) (a b c i p : Int) (w : World) (h : isBr n = true) (hp : 0 ≤ p) (hp1 : p ≤ 65535) :
    Calls Tryd.prog 37 #[.agg #[.int .u8 n, .int .i64 a, .int .i64 b, .int .i64 c, .int .i64 i], .int .i64 p] w fun e w' => e = .returned (.tuple #[.int .i64 (wrap64 (p + 1 + i)), .bool true]) ∧ Below w.heap.size w w' := by
  go_enter Tryd.func37, Tryd.ntmps37
  go_wp2_with fail
  refine (isBranch_br n _).mono ?_
  rintro e w1 ⟨rfl, rfl⟩
  go_wp2_with fail
  go_ret2
  exact ⟨rfl, (Below.refl _ _).alloc (Nat.le_refl _) _⟩

/-- The branch from one place of a code to another. -/
theorem jump_vld (n : Nat) (h : isBr n = true) (d : Int) (h0 : -4096 ≤ d) (h1 : d ≤ 4095) : vld n 0 0 0 d = true := by
  have hn : n = 22 ∨ n = 23 ∨ n = 24 := by simp [isBr] at h; omega
  rcases hn with rfl | rfl | rfl
  all_goals
    simp only [vld, vldS, show uA 22 = true from rfl, show uB 22 = false from rfl, show uC 22 = false from rfl, show uI 22 = true from rfl, show flo 22 = -131072 from rfl, show fhi 22 = 131071 from rfl,
      show uA 23 = true from rfl, show uB 23 = false from rfl, show uC 23 = false from rfl, show uI 23 = true from rfl, show flo 23 = -131072 from rfl, show fhi 23 = 131071 from rfl,
      show uA 24 = false from rfl, show uB 24 = false from rfl, show uC 24 = false from rfl, show uI 24 = true from rfl, show flo 24 = -131072 from rfl, show fhi 24 = 131071 from rfl, Bool.and_eq_true, decide_eq_true_eq, if_true, if_false, Bool.false_eq_true]
    omega

end Go.Proofs.YtepldfnplfhncaaDoor
