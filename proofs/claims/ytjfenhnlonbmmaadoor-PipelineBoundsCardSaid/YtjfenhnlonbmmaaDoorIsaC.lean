/- Contracts of isa.Decode. -/
import Derived.Test.YtjfenhnlonbmmaaDoorIsaB
import Derived.Test.YtjfenhnlonbmmaaDoorRes
set_option linter.unusedVariables false
set_option linter.unusedSimpArgs false
namespace Go.Proofs.YtjfenhnlonbmmaaDoor
open Go.RowKit

/-- The operands of a word. -/
def wA (x : Int) : Int := x / 4194304 % 16
def wB (x : Int) : Int := x / 262144 % 16
def wC (x : Int) : Int := x / 16384 % 16
def wI (x : Int) : Int := if 131072 ≤ x % 262144 then x % 262144 - 262144 else x % 262144
theorem wA_eq (x : Int) (h0 : 0 ≤ x) (h1 : x < 4294967296) : wrap64 (bits .and .u32 (x / 4194304) 15) = wA x := by
  have e : bits .and .u32 (x / 4194304) 15 = x / 4194304 % 16 := u32_and_mask (x / 4194304) 4 (by omega) (by omega) (by omega)
  rw [e, IntWalk.wrap64_in _ ⟨by omega, by omega⟩]; rfl
theorem wB_eq (x : Int) (h0 : 0 ≤ x) (h1 : x < 4294967296) : wrap64 (bits .and .u32 (x / 262144) 15) = wB x := by
  have e : bits .and .u32 (x / 262144) 15 = x / 262144 % 16 := u32_and_mask (x / 262144) 4 (by omega) (by omega) (by omega)
  rw [e, IntWalk.wrap64_in _ ⟨by omega, by omega⟩]; rfl
theorem wC_eq (x : Int) (h0 : 0 ≤ x) (h1 : x < 4294967296) : wrap64 (bits .and .u32 (x / 16384) 15) = wC x := by
  have e : bits .and .u32 (x / 16384) 15 = x / 16384 % 16 := u32_and_mask (x / 16384) 4 (by omega) (by omega) (by omega)
  rw [e, IntWalk.wrap64_in _ ⟨by omega, by omega⟩]; rfl
theorem wV_eq (x : Int) (h0 : 0 ≤ x) (h1 : x < 4294967296) : wrap64 (bits .and .u32 x 262143) = x % 262144 := by
  have e : bits .and .u32 x 262143 = x % 262144 := u32_and_mask x 18 (by omega) (by omega) (by omega)
  rw [e, IntWalk.wrap64_in _ ⟨by omega, by omega⟩]
theorem wA_bd (x : Int) : 0 ≤ wA x ∧ wA x ≤ 15 := by unfold wA; omega
theorem wB_bd (x : Int) : 0 ≤ wB x ∧ wB x ≤ 15 := by unfold wB; omega
theorem wC_bd (x : Int) : 0 ≤ wC x ∧ wC x ≤ 15 := by unfold wC; omega

def instrV (n : Nat) (a b c i : Int) : Value := .agg #[.int .u8 n, .int .i64 a, .int .i64 b, .int .i64 c, .int .i64 i]

/-- What isa.Decode returns, of the instruction that it has put together. -/
def decR (x : Int) (n : Nat) (a b c i : Int) : Value := if vld n a b c i = true ∧ encW n a b c i = x then .tuple #[.agg #[.int .u8 n, .int .i64 a, .int .i64 b, .int .i64 c, .int .i64 i], .int .i64 0] else .tuple #[.agg #[.int .u8 0, .int .i64 0, .int .i64 0, .int .i64 0, .int .i64 0], .int .i64 3]
theorem decR_bad {x : Int} {n : Nat} {a b c i : Int} (h : (encE n a b c i != 0) = true) : decR x n a b c i = .tuple #[.agg #[.int .u8 0, .int .i64 0, .int .i64 0, .int .i64 0, .int .i64 0], .int .i64 3] := by
  unfold decR; rw [if_neg]; intro ⟨h1, _⟩; simp [encE, h1] at h
theorem decR_other {x : Int} {n : Nat} {a b c i : Int} (h : (encV n a b c i != x) = true) : decR x n a b c i = .tuple #[.agg #[.int .u8 0, .int .i64 0, .int .i64 0, .int .i64 0, .int .i64 0], .int .i64 3] := by
  unfold decR; rw [if_neg]; intro ⟨h1, h2⟩; simp [encV, h1, h2] at h
theorem decR_ok {x : Int} {n : Nat} {a b c i : Int} (h : ¬ (encE n a b c i != 0) = true) (h' : ¬ (encV n a b c i != x) = true) : decR x n a b c i = .tuple #[.agg #[.int .u8 n, .int .i64 a, .int .i64 b, .int .i64 c, .int .i64 i], .int .i64 0] := by
  have hv : vld n a b c i = true := by cases hv : vld n a b c i <;> simp_all [encE]
  unfold decR; rw [if_pos]; exact ⟨hv, by simpa [encV, hv] using h'⟩

/-- The opcode of a word, and the operands that its format has. -/
def dN (x : Int) : Nat := (x / 67108864).toNat
def dA (x : Int) : Int := if uA (dN x) then wA x else 0
def dB (x : Int) : Int := if uB (dN x) then wB x else 0
def dC (x : Int) : Int := if uC (dN x) then wC x else 0
def dI (x : Int) : Int := if uI (dN x) then wI x else 0
/-- What isa.Decode returns. -/
def decV (x : Int) : Value := decR x (dN x) (dA x) (dB x) (dC x) (dI x)

end Go.Proofs.YtjfenhnlonbmmaaDoor
