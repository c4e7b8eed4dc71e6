/- Contracts of isa.Encode. -/
import Derived.Test.YtjfenhnlonbmmaaDoorIsaT
import Derived.Test.YtjfenhnlonbmmaaDoorBits
namespace Go.Proofs.YtjfenhnlonbmmaaDoor
open Go.RowKit

theorem ret_u32_err {x y : Int} (k : Int) (h : x = y) : Ending.returned (.tuple #[.int .u32 x, .int .i64 k]) = .returned (.tuple #[.int .u32 y, .int .i64 k]) := by rw [h]

/-- What a valid instruction is. -/
theorem vld_parts {n : Nat} {a b c i : Int} (h : vld n a b c i = true) : n < 30 ∧ (0 ≤ a ∧ a ≤ if uA n then 15 else 0) ∧ (0 ≤ b ∧ b ≤ if uB n then 15 else 0) ∧ (0 ≤ c ∧ c ≤ if uC n then 15 else 0) ∧ ((if uI n then flo n else 0) ≤ i ∧ i ≤ if uI n then fhi n else 0) := by
  simpa [vld, vldS] using h

/-- What isa.Encode returns. -/
def encV (n : Nat) (a b c i : Int) : Int := if vld n a b c i then encW n a b c i else 0
def encE (n : Nat) (a b c i : Int) : Int := if vld n a b c i then 0 else 3
end Go.Proofs.YtjfenhnlonbmmaaDoor
