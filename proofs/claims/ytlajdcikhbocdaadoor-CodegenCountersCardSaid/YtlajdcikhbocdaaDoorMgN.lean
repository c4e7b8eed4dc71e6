import Derived.WalkKit
import Derived.Test.YtlajdcikhbocdaaDoorBase
import Derived.Test.YtlajdcikhbocdaaDoorIsaT
/- Bitwise and, or of unsigned words as arithmetic: masks, and sums of parts that do not overlap. -/
namespace Go.Proofs.YtlajdcikhbocdaaDoor

theorem u32_and_mask (x : Int) (k : Nat) (hk : k ≤ 32) (h0 : 0 ≤ x) (h1 : x < 4294967296) : bits .and .u32 x (2 ^ k - 1) = x % 2 ^ k := by
  have hp : (2 : Int) ^ k ≤ 4294967296 := by
    have : (2 : Nat) ^ k ≤ 2 ^ 32 := Nat.pow_le_pow_right (by omega) hk
    have h2 : ((2 ^ k : Nat) : Int) ≤ ((2 ^ 32 : Nat) : Int) := by exact_mod_cast this
    simpa using h2
  have hpos : (1 : Int) ≤ 2 ^ k := by
    have : 1 ≤ (2 : Nat) ^ k := Nat.one_le_two_pow
    have h2 : ((1 : Nat) : Int) ≤ ((2 ^ k : Nat) : Int) := by exact_mod_cast this
    simpa using h2
  rw [u32_and x (2 ^ k - 1) h0 h1 (by omega) (by omega)]
  have e : ((2 : Int) ^ k - 1).toNat = 2 ^ k - 1 := by
    have h3 : ((2 ^ k : Nat) : Int) = (2 : Int) ^ k := by simp
    omega
  rw [e, Nat.and_two_pow_sub_one_eq_mod]
  have h3 : ((2 ^ k : Nat) : Int) = (2 : Int) ^ k := by simp
  rw [Int.natCast_emod, h3, Int.toNat_of_nonneg h0]

theorem u32_or_add (x y : Int) (k : Nat) (hx : 0 ≤ x) (hx1 : x < 4294967296) (hd : x % 2 ^ k = 0) (hy : 0 ≤ y) (hy1 : y < 2 ^ k) (hy2 : y < 4294967296) : bits .or .u32 x y = x + y := by
  rw [u32_or x y hx hx1 hy hy2]
  have h3 : ((2 ^ k : Nat) : Int) = (2 : Int) ^ k := by simp
  obtain ⟨q, hq⟩ : ∃ q : Nat, x.toNat = 2 ^ k * q := by
    refine ⟨x.toNat / 2 ^ k, ?_⟩
    have h4 : x.toNat % 2 ^ k = 0 := by
      have : ((x.toNat % 2 ^ k : Nat) : Int) = 0 := by rw [Int.natCast_emod, h3, Int.toNat_of_nonneg hx]; exact hd
      exact_mod_cast this
    have := Nat.div_add_mod x.toNat (2 ^ k)
    omega
  have hlt : y.toNat < 2 ^ k := by
    have : (y.toNat : Int) < ((2 ^ k : Nat) : Int) := by rw [h3, Int.toNat_of_nonneg hy]; exact hy1
    exact_mod_cast this
  rw [hq, ← Nat.two_pow_add_eq_or_of_lt hlt, ← hq]
  omega

theorem and15 (a : Int) (h0 : 0 ≤ a) (h1 : a ≤ 15) : bits .and .u32 a 15 = a := by
  have := u32_and_mask a 4 (by omega) h0 (by omega)
  have e : bits .and .u32 a 15 = a % 16 := this
  omega
theorem andI (i : Int) : bits .and .u32 (i % 4294967296) 262143 = i % 262144 := by
  have := u32_and_mask (i % 4294967296) 18 (by omega) (by omega) (by omega)
  have e : bits .and .u32 (i % 4294967296) 262143 = i % 4294967296 % 262144 := this
  omega

/-- The encoding of a valid instruction. -/
def encW (n : Nat) (a b c i : Int) : Int := n * 67108864 + a * 4194304 + b * 262144 + c * 16384 + i % 262144

theorem or22 (n : Nat) (a : Int) (hn : n < 64) (h0 : 0 ≤ a) (h1 : a ≤ 15) : bits .or .u32 (n * 67108864) (a * 4194304 % 4294967296) = n * 67108864 + a * 4194304 := by
  rw [u32_or_add _ _ 26 (by omega) (by omega) (by rw [show ((2 : Int) ^ 26) = 67108864 from rfl]; omega) (by omega) (by rw [show ((2 : Int) ^ 26) = 67108864 from rfl]; omega) (by omega)]
  omega
theorem or18 (n : Nat) (a b : Int) (hn : n < 64) (h0 : 0 ≤ a) (h1 : a ≤ 15) (h2 : 0 ≤ b) (h3 : b ≤ 15) : bits .or .u32 (n * 67108864 + a * 4194304) (b * 262144 % 4294967296) = n * 67108864 + a * 4194304 + b * 262144 := by
  rw [u32_or_add _ _ 22 (by omega) (by omega) (by rw [show ((2 : Int) ^ 22) = 4194304 from rfl]; omega) (by omega) (by rw [show ((2 : Int) ^ 22) = 4194304 from rfl]; omega) (by omega)]
  omega
theorem or14 (n : Nat) (a b c : Int) (hn : n < 64) (h0 : 0 ≤ a) (h1 : a ≤ 15) (h2 : 0 ≤ b) (h3 : b ≤ 15) (h4 : 0 ≤ c) (h5 : c ≤ 15) :
    bits .or .u32 (n * 67108864 + a * 4194304 + b * 262144) (c * 16384 % 4294967296) = n * 67108864 + a * 4194304 + b * 262144 + c * 16384 := by
  rw [u32_or_add _ _ 18 (by omega) (by omega) (by rw [show ((2 : Int) ^ 18) = 262144 from rfl]; omega) (by omega) (by rw [show ((2 : Int) ^ 18) = 262144 from rfl]; omega) (by omega)]
  omega
theorem orI (x i : Int) (h0 : 0 ≤ x) (h1 : x < 4294967296) (h2 : x % 262144 = 0) : bits .or .u32 x (i % 262144 % 4294967296) = x + i % 262144 := by
  rw [u32_or_add _ _ 18 h0 h1 (by rw [show ((2 : Int) ^ 18) = 262144 from rfl]; omega) (by omega) (by rw [show ((2 : Int) ^ 18) = 262144 from rfl]; omega) (by omega)]
  omega

end Go.Proofs.YtlajdcikhbocdaaDoor

/- Results that lie in memory. -/
namespace Go.Proofs.YtlajdcikhbocdaaDoor
open Go.RowKit

/-- A result that is a struct of five cells, stored whole just before the return. -/
theorem run_result5 {P : Program} {fn : Func} {p u : Tmp} {ty : TypeId} (hr : fn.results = #[.cell p ty, .tmp u]) (hag : ∀ w : World, (isAgg ty).run P w = .ok true w) (hsz : ∀ w : World, (sizeOf ty).run P w = .ok 5 w)
    {tmps : Array Value} {w1 : World} {B : Nat} (v0 v1 v2 v3 v4 r : Value) (hp : tmps.getD p undef = .pointer (some ⟨B, 0, none⟩)) (hu : tmps.getD u undef = r)
    (h0 : w1.cell? ⟨B, 0, none⟩ ≠ none) (h1 : w1.cell? ⟨B, 1, none⟩ ≠ none) (h2 : w1.cell? ⟨B, 2, none⟩ ≠ none) (h3 : w1.cell? ⟨B, 3, none⟩ ≠ none) (h4 : w1.cell? ⟨B, 4, none⟩ ≠ none) :
    (results fn tmps).run P (((((w1.setCell ⟨B, 0, none⟩ v0).setCell ⟨B, 1, none⟩ v1).setCell ⟨B, 2, none⟩ v2).setCell ⟨B, 3, none⟩ v3).setCell ⟨B, 4, none⟩ v4) =
      .ok (.tuple #[.agg #[v0, v1, v2, v3, v4], r]) (((((w1.setCell ⟨B, 0, none⟩ v0).setCell ⟨B, 1, none⟩ v1).setCell ⟨B, 2, none⟩ v2).setCell ⟨B, 3, none⟩ v3).setCell ⟨B, 4, none⟩ v4) := by
  have s : ∀ (w : World) (i j : Nat) (x : Value), i ≠ j → (w.setCell ⟨B, i, none⟩ x).cell? ⟨B, j, none⟩ = w.cell? ⟨B, j, none⟩ := fun w i j x hij => World.cell?_setCell_other _ _ _ _ (by intro e; injection e with _ e2; exact hij e2)
  have t : ∀ (w : World) (i : Nat) (x : Value), w.cell? ⟨B, i, none⟩ ≠ none → (w.setCell ⟨B, i, none⟩ x).cell? ⟨B, i, none⟩ = some x := fun w i x h => by
    obtain ⟨y, hy⟩ := Option.ne_none_iff_exists'.1 h
    exact World.cell?_setCell_same _ _ _ hy
  have hl : ∀ (j : Nat) (v : Value), [v0, v1, v2, v3, v4][j]? = some v → (((((w1.setCell ⟨B, 0, none⟩ v0).setCell ⟨B, 1, none⟩ v1).setCell ⟨B, 2, none⟩ v2).setCell ⟨B, 3, none⟩ v3).setCell ⟨B, 4, none⟩ v4).cell? ((⟨B, 0, none⟩ : Addr).add j) = some v := by
    intro j v hj
    match j, hj with
    | 0, hj => obtain rfl : v0 = v := by simpa using hj
               show World.cell? _ ⟨B, 0, none⟩ = _
               rw [s _ 4 0 _ (by omega), s _ 3 0 _ (by omega), s _ 2 0 _ (by omega), s _ 1 0 _ (by omega), t _ 0 _ h0]
    | 1, hj => obtain rfl : v1 = v := by simpa using hj
               show World.cell? _ ⟨B, 1, none⟩ = _
               rw [s _ 4 1 _ (by omega), s _ 3 1 _ (by omega), s _ 2 1 _ (by omega), t _ 1 _ (by rw [s _ 0 1 _ (by omega)]; exact h1)]
    | 2, hj => obtain rfl : v2 = v := by simpa using hj
               show World.cell? _ ⟨B, 2, none⟩ = _
               rw [s _ 4 2 _ (by omega), s _ 3 2 _ (by omega), t _ 2 _ (by rw [s _ 1 2 _ (by omega), s _ 0 2 _ (by omega)]; exact h2)]
    | 3, hj => obtain rfl : v3 = v := by simpa using hj
               show World.cell? _ ⟨B, 3, none⟩ = _
               rw [s _ 4 3 _ (by omega), t _ 3 _ (by rw [s _ 2 3 _ (by omega), s _ 1 3 _ (by omega), s _ 0 3 _ (by omega)]; exact h3)]
    | 4, hj => obtain rfl : v4 = v := by simpa using hj
               show World.cell? _ ⟨B, 4, none⟩ = _
               rw [t _ 4 _ (by rw [s _ 3 4 _ (by omega), s _ 2 4 _ (by omega), s _ 1 4 _ (by omega), s _ 0 4 _ (by omega)]; exact h4)]
    | j + 5, hj => simp at hj
  rw [results_cell_tmp hr, hp, hu]
  simp only [asAddr, loadVar, Sem.run_bind, Sem.run_pure, Result.andThen, hag, hsz, if_true]
  have e := run_loadCells_list (P := P) _ ⟨B, 0, none⟩ [v0, v1, v2, v3, v4] hl
  simp only [List.length_cons, List.length_nil] at e
  simp [e]

end Go.Proofs.YtlajdcikhbocdaaDoor

/- Contracts of isa.Encode. -/
namespace Go.Proofs.YtlajdcikhbocdaaDoor
open Go.RowKit

theorem ret_u32_err {x y : Int} (k : Int) (h : x = y) : Ending.returned (.tuple #[.int .u32 x, .int .i64 k]) = .returned (.tuple #[.int .u32 y, .int .i64 k]) := by rw [h]

/-- What a valid instruction is. -/
theorem vld_parts {n : Nat} {a b c i : Int} (h : vld n a b c i = true) : n < 30 ∧ (0 ≤ a ∧ a ≤ if uA n then 15 else 0) ∧ (0 ≤ b ∧ b ≤ if uB n then 15 else 0) ∧ (0 ≤ c ∧ c ≤ if uC n then 15 else 0) ∧ ((if uI n then flo n else 0) ≤ i ∧ i ≤ if uI n then fhi n else 0) := by
  simpa [vld, vldS] using h

/-- What isa.Encode returns. -/
def encV (n : Nat) (a b c i : Int) : Int := if vld n a b c i then encW n a b c i else 0
def encE (n : Nat) (a b c i : Int) : Int := if vld n a b c i then 0 else 3
end Go.Proofs.YtlajdcikhbocdaaDoor

/- Contracts of isa.Decode. -/
set_option linter.unusedVariables false
set_option linter.unusedSimpArgs false
namespace Go.Proofs.YtlajdcikhbocdaaDoor
open Go.RowKit

/-- The operands of a word. -/
def wA (x : Int) : Int := x / 4194304 % 16
def wB (x : Int) : Int := x / 262144 % 16
def wC (x : Int) : Int := x / 16384 % 16
def wI (x : Int) : Int := if 131072 ≤ x % 262144 then x % 262144 - 262144 else x % 262144
theorem wA_eq (x : Int) (h0 : 0 ≤ x) (h1 : x < 4294967296) : wrap64 (bits .and .u32 (x / 4194304) 15) = wA x := by
  have e : bits .and .u32 (x / 4194304) 15 = x / 4194304 % 16 := u32_and_mask (x / 4194304) 4 (by omega) (by omega) (by omega)
  rw [e, IntWalk.wrap64_in _ ⟨by omega, by omega⟩]; rfl
theorem wB_eq (x : Int) (h0 : 0 ≤ x) (h1 : x < 4294967296) : wrap64 (bits .and .u32 (x / 262144) 15) = wB x := by
  have e : bits .and .u32 (x / 262144) 15 = x / 262144 % 16 := u32_and_mask (x / 262144) 4 (by omega) (by omega) (by omega)
  rw [e, IntWalk.wrap64_in _ ⟨by omega, by omega⟩]; rfl
theorem wC_eq (x : Int) (h0 : 0 ≤ x) (h1 : x < 4294967296) : wrap64 (bits .and .u32 (x / 16384) 15) = wC x := by
  have e : bits .and .u32 (x / 16384) 15 = x / 16384 % 16 := u32_and_mask (x / 16384) 4 (by omega) (by omega) (by omega)
  rw [e, IntWalk.wrap64_in _ ⟨by omega, by omega⟩]; rfl
theorem wV_eq (x : Int) (h0 : 0 ≤ x) (h1 : x < 4294967296) : wrap64 (bits .and .u32 x 262143) = x % 262144 := by
  have e : bits .and .u32 x 262143 = x % 262144 := u32_and_mask x 18 (by omega) (by omega) (by omega)
  rw [e, IntWalk.wrap64_in _ ⟨by omega, by omega⟩]
theorem wA_bd (x : Int) : 0 ≤ wA x ∧ wA x ≤ 15 := by unfold wA; omega
theorem wB_bd (x : Int) : 0 ≤ wB x ∧ wB x ≤ 15 := by unfold wB; omega
theorem wC_bd (x : Int) : 0 ≤ wC x ∧ wC x ≤ 15 := by unfold wC; omega

def instrV (n : Nat) (a b c i : Int) : Value := .agg #[.int .u8 n, .int .i64 a, .int .i64 b, .int .i64 c, .int .i64 i]

/-- What isa.Decode returns, of the instruction that it has put together. -/
def decR (x : Int) (n : Nat) (a b c i : Int) : Value := if vld n a b c i = true ∧ encW n a b c i = x then .tuple #[.agg #[.int .u8 n, .int .i64 a, .int .i64 b, .int .i64 c, .int .i64 i], .int .i64 0] else .tuple #[.agg #[.int .u8 0, .int .i64 0, .int .i64 0, .int .i64 0, .int .i64 0], .int .i64 3]
theorem decR_bad {x : Int} {n : Nat} {a b c i : Int} (h : (encE n a b c i != 0) = true) : decR x n a b c i = .tuple #[.agg #[.int .u8 0, .int .i64 0, .int .i64 0, .int .i64 0, .int .i64 0], .int .i64 3] := by
  unfold decR; rw [if_neg]; intro ⟨h1, _⟩; simp [encE, h1] at h
theorem decR_other {x : Int} {n : Nat} {a b c i : Int} (h : (encV n a b c i != x) = true) : decR x n a b c i = .tuple #[.agg #[.int .u8 0, .int .i64 0, .int .i64 0, .int .i64 0, .int .i64 0], .int .i64 3] := by
  unfold decR; rw [if_neg]; intro ⟨h1, h2⟩; simp [encV, h1, h2] at h
theorem decR_ok {x : Int} {n : Nat} {a b c i : Int} (h : ¬ (encE n a b c i != 0) = true) (h' : ¬ (encV n a b c i != x) = true) : decR x n a b c i = .tuple #[.agg #[.int .u8 n, .int .i64 a, .int .i64 b, .int .i64 c, .int .i64 i], .int .i64 0] := by
  have hv : vld n a b c i = true := by cases hv : vld n a b c i <;> simp_all [encE]
  unfold decR; rw [if_pos]; exact ⟨hv, by simpa [encV, hv] using h'⟩

/-- The opcode of a word, and the operands that its format has. -/
def dN (x : Int) : Nat := (x / 67108864).toNat
def dA (x : Int) : Int := if uA (dN x) then wA x else 0
def dB (x : Int) : Int := if uB (dN x) then wB x else 0
def dC (x : Int) : Int := if uC (dN x) then wC x else 0
def dI (x : Int) : Int := if uI (dN x) then wI x else 0
/-- What isa.Decode returns. -/
def decV (x : Int) : Value := decR x (dN x) (dA x) (dB x) (dC x) (dI x)

end Go.Proofs.YtlajdcikhbocdaaDoor

/- Encodings and their instructions: plain arithmetic. -/
set_option linter.unusedVariables false
set_option linter.unusedSimpArgs false
namespace Go.Proofs.YtlajdcikhbocdaaDoor
open Go.RowKit

/-- The immediate operands of every format fit into 18 bits. -/
theorem imm_bd : ∀ (n : Nat), n < 30 → -131072 ≤ flo n ∧ fhi n ≤ 131071 := by
  intro n hn
  have h : ∀ k : Fin 30, -131072 ≤ flo k ∧ fhi k ≤ 131071 := by decide
  exact h ⟨n, hn⟩

/-- The bounds of a valid instruction. -/
theorem vld_bd {n : Nat} {a b c i : Int} (h : vld n a b c i = true) : n < 30 ∧ 0 ≤ a ∧ a ≤ 15 ∧ 0 ≤ b ∧ b ≤ 15 ∧ 0 ≤ c ∧ c ≤ 15 ∧ -131072 ≤ i ∧ i ≤ 131071 := by
  obtain ⟨hn, ha, hb, hc, hi⟩ := vld_parts h
  have hm := imm_bd n hn
  refine ⟨hn, ha.1, ?_, hb.1, ?_, hc.1, ?_, ?_, ?_⟩
  · have := ha.2; split at this <;> omega
  · have := hb.2; split at this <;> omega
  · have := hc.2; split at this <;> omega
  · have := hi.1; split at this <;> omega
  · have := hi.2; split at this <;> omega

theorem encW_bd {n : Nat} {a b c i : Int} (h : vld n a b c i = true) : 0 ≤ encW n a b c i ∧ encW n a b c i < 4294967296 := by
  have := vld_bd h
  unfold encW
  omega

/-- The formats: an instruction with an immediate operand has no C; one with B has A; one with C has B. -/
theorem fmt_kinds : ∀ (n : Nat), n < 30 → (uC n = true → uB n = true) ∧ (uB n = true → uA n = true) ∧ (uI n = true → uC n = false) := by
  intro n hn
  have h : ∀ k : Fin 30, (uC k = true → uB k = true) ∧ (uB k = true → uA k = true) ∧ (uI k = true → uC k = false) := by decide
  exact h ⟨n, hn⟩

/-- Decoding an encoding gives the operands back. -/
theorem dec_enc {n : Nat} {a b c i : Int} (h : vld n a b c i = true) :
    dN (encW n a b c i) = n ∧ dA (encW n a b c i) = a ∧ dB (encW n a b c i) = b ∧ dC (encW n a b c i) = c ∧ dI (encW n a b c i) = i := by
  have hb := vld_bd h
  obtain ⟨hn, pa, pb, pc, pi⟩ := vld_parts h
  obtain ⟨k1, k2, k3⟩ := fmt_kinds n hn
  have hci : c = 0 ∨ i = 0 := by
    cases u : uI n
    · simp [u] at pi; omega
    · have uc := k3 u; simp [uc] at pc; omega
  have e : dN (encW n a b c i) = n := by unfold dN encW; omega
  refine ⟨e, ?_, ?_, ?_, ?_⟩
  · unfold dA; rw [e]
    cases u : uA n
    · simp [u] at pa ⊢; omega
    · simp only [if_true]; unfold wA encW; omega
  · unfold dB; rw [e]
    cases u : uB n
    · simp [u] at pb ⊢; omega
    · simp only [if_true]; unfold wB encW; omega
  · unfold dC; rw [e]
    cases u : uC n
    · simp [u] at pc ⊢; omega
    · simp only [if_true]
      have ui : uI n = false := by
        cases ui : uI n
        · rfl
        · have := k3 ui; simp [u] at this
      simp [ui] at pi
      unfold wC encW; omega
  · unfold dI; rw [e]
    cases u : uI n
    · simp [u] at pi ⊢; omega
    · have uc := k3 u
      simp [uc] at pc
      simp only [if_true]; unfold wI encW
      split <;> omega

theorem decV_enc {n : Nat} {a b c i : Int} (h : vld n a b c i = true) : decV (encW n a b c i) = .tuple #[.agg #[.int .u8 n, .int .i64 a, .int .i64 b, .int .i64 c, .int .i64 i], .int .i64 0] := by
  obtain ⟨e0, e1, e2, e3, e4⟩ := dec_enc h
  unfold decV
  rw [e0, e1, e2, e3, e4]
  unfold decR
  rw [if_pos ⟨h, rfl⟩]

/-- Different valid instructions have different encodings. -/
theorem enc_inj {n : Nat} {a b c i : Int} {n' : Nat} {a' b' c' i' : Int} (h : vld n a b c i = true) (h' : vld n' a' b' c' i' = true) (e : encW n a b c i = encW n' a' b' c' i') : n = n' ∧ a = a' ∧ b = b' ∧ c = c' ∧ i = i' := by
  obtain ⟨e0, e1, e2, e3, e4⟩ := dec_enc h
  obtain ⟨f0, f1, f2, f3, f4⟩ := dec_enc h'
  rw [e] at e0 e1 e2 e3 e4
  exact ⟨e0.symm.trans f0, e1.symm.trans f1, e2.symm.trans f2, e3.symm.trans f3, e4.symm.trans f4⟩

end Go.Proofs.YtlajdcikhbocdaaDoor

/- The contract of isa.Writes alone (IsaO without isa.Reads). -/
set_option linter.unusedVariables false
set_option linter.unusedSimpArgs false
namespace Go.Proofs.YtlajdcikhbocdaaDoor
open Go.RowKit

/-- What isa.Writes returns. -/
def wrR (n : Nat) (a b c i : Int) : Int := if vld n a b c i && fwr n then a else 0
set_option maxRecDepth 4000 in
set_option maxHeartbeats 800000 in
theorem writes_any (n : Nat) (a b c i : Int) (w : World) (hT : Tab w) :
    Calls Tryd.prog 20 #[.agg #[.int .u8 n, .int .i64 a, .int .i64 b, .int .i64 c, .int .i64 i]] w fun e w' => e = .returned (.tuple #[.int .i64 (wrR n a b c i), .bool (wrR n a b c i != 0)]) ∧ Below w.heap.size w w' := by
  cases hv : vld n a b c i
  · have e : wrR n a b c i = 0 := by simp [wrR, hv]
    rw [e]
    have hz := hT.size
    go_enter Tryd.func20, Tryd.ntmps20
    go_wp2_with fail
    refine (valid_any n a b c i _ (Tab.of_below hT (by repeat (first | (with_reducible exact Below.refl _ _) | (with_reducible apply bDrewN) | (with_reducible apply Below.drew) | ((with_reducible apply bSet); (focus first | (simp; done) | (simp; omega) | omega)) | ((with_reducible apply bAlloc); (focus first | (simp; done) | (simp; omega) | omega)))))).mono ?_
    rintro e w1 ⟨rfl, hb1⟩
    have hT1 : Tab w1 := Tab.of_below (Tab.of_below hT (by repeat (first | (with_reducible exact Below.refl _ _) | (with_reducible apply bDrewN) | (with_reducible apply Below.drew) | ((with_reducible apply bSet); (focus first | (simp; done) | (simp; omega) | omega)) | ((with_reducible apply bAlloc); (focus first | (simp; done) | (simp; omega) | omega))))) hb1
    have sz1_0 : w.heap.size < w1.heap.size := by have h := hb1.size; first | (simp at h; omega) | omega
    have c1_0_0 : w1.cell? ⟨w.heap.size, 0, none⟩ = some (.int .u8 n) := by rw [hb1.cell (p := ⟨w.heap.size, 0, none⟩) (by first | (simp; done) | (simp; omega) | omega)]; first | assumption | (simp [go_sem]; done) | (simp [go_sem, *]; done)
    have c1_0_1 : w1.cell? ⟨w.heap.size, 1, none⟩ = some (.int .i64 a) := by rw [hb1.cell (p := ⟨w.heap.size, 1, none⟩) (by first | (simp; done) | (simp; omega) | omega)]; first | assumption | (simp [go_sem]; done) | (simp [go_sem, *]; done)
    have c1_0_2 : w1.cell? ⟨w.heap.size, 2, none⟩ = some (.int .i64 b) := by rw [hb1.cell (p := ⟨w.heap.size, 2, none⟩) (by first | (simp; done) | (simp; omega) | omega)]; first | assumption | (simp [go_sem]; done) | (simp [go_sem, *]; done)
    have c1_0_3 : w1.cell? ⟨w.heap.size, 3, none⟩ = some (.int .i64 c) := by rw [hb1.cell (p := ⟨w.heap.size, 3, none⟩) (by first | (simp; done) | (simp; omega) | omega)]; first | assumption | (simp [go_sem]; done) | (simp [go_sem, *]; done)
    have c1_0_4 : w1.cell? ⟨w.heap.size, 4, none⟩ = some (.int .i64 i) := by rw [hb1.cell (p := ⟨w.heap.size, 4, none⟩) (by first | (simp; done) | (simp; omega) | omega)]; first | assumption | (simp [go_sem]; done) | (simp [go_sem, *]; done)
    have HB1 : Below w.heap.size w w1 := by
      repeat (first | (with_reducible exact Below.refl _ _) | (with_reducible apply bDrewN) | (with_reducible apply Below.drew) | ((with_reducible apply bThen hb1); (focus first | (simp; done) | (simp; omega) | omega)) | ((with_reducible apply bSet); (focus first | (simp; done) | (simp; omega) | omega)) | ((with_reducible apply bAlloc); (focus first | (simp; done) | (simp; omega) | omega)))
    have hsz1 := HB1.size
    clear hb1 
    go_wp2_with fail
    go_ret2
    exact ⟨rfl, by repeat (first | (with_reducible exact Below.refl _ _) | (with_reducible apply bDrewN) | (with_reducible apply Below.drew) | (with_reducible exact HB1) | ((with_reducible apply bSet); (focus first | (simp; done) | (simp; omega) | omega)) | ((with_reducible apply bAlloc); (focus first | (simp; done) | (simp; omega) | omega)))⟩
  · have hn := (vld_bd hv).1
    obtain ⟨-, -, -, h3, -, -, -⟩ := fmtAt hT n hn
    cases hw : fwr n
    · have e : wrR n a b c i = 0 := by simp [wrR, hv, hw]
      rw [e]
      rw [hw] at h3
      have hz := hT.size
      go_enter Tryd.func20, Tryd.ntmps20
      go_wp2_with fail
      refine (valid_any n a b c i _ (Tab.of_below hT (by repeat (first | (with_reducible exact Below.refl _ _) | (with_reducible apply bDrewN) | (with_reducible apply Below.drew) | ((with_reducible apply bSet); (focus first | (simp; done) | (simp; omega) | omega)) | ((with_reducible apply bAlloc); (focus first | (simp; done) | (simp; omega) | omega)))))).mono ?_
      rintro e w1 ⟨rfl, hb1⟩
      have hT1 : Tab w1 := Tab.of_below (Tab.of_below hT (by repeat (first | (with_reducible exact Below.refl _ _) | (with_reducible apply bDrewN) | (with_reducible apply Below.drew) | ((with_reducible apply bSet); (focus first | (simp; done) | (simp; omega) | omega)) | ((with_reducible apply bAlloc); (focus first | (simp; done) | (simp; omega) | omega))))) hb1
      have sz1_0 : w.heap.size < w1.heap.size := by have h := hb1.size; first | (simp at h; omega) | omega
      have c1_0_0 : w1.cell? ⟨w.heap.size, 0, none⟩ = some (.int .u8 n) := by rw [hb1.cell (p := ⟨w.heap.size, 0, none⟩) (by first | (simp; done) | (simp; omega) | omega)]; first | assumption | (simp [go_sem]; done) | (simp [go_sem, *]; done)
      have c1_0_1 : w1.cell? ⟨w.heap.size, 1, none⟩ = some (.int .i64 a) := by rw [hb1.cell (p := ⟨w.heap.size, 1, none⟩) (by first | (simp; done) | (simp; omega) | omega)]; first | assumption | (simp [go_sem]; done) | (simp [go_sem, *]; done)
      have c1_0_2 : w1.cell? ⟨w.heap.size, 2, none⟩ = some (.int .i64 b) := by rw [hb1.cell (p := ⟨w.heap.size, 2, none⟩) (by first | (simp; done) | (simp; omega) | omega)]; first | assumption | (simp [go_sem]; done) | (simp [go_sem, *]; done)
      have c1_0_3 : w1.cell? ⟨w.heap.size, 3, none⟩ = some (.int .i64 c) := by rw [hb1.cell (p := ⟨w.heap.size, 3, none⟩) (by first | (simp; done) | (simp; omega) | omega)]; first | assumption | (simp [go_sem]; done) | (simp [go_sem, *]; done)
      have c1_0_4 : w1.cell? ⟨w.heap.size, 4, none⟩ = some (.int .i64 i) := by rw [hb1.cell (p := ⟨w.heap.size, 4, none⟩) (by first | (simp; done) | (simp; omega) | omega)]; first | assumption | (simp [go_sem]; done) | (simp [go_sem, *]; done)
      have HB1 : Below w.heap.size w w1 := by
        repeat (first | (with_reducible exact Below.refl _ _) | (with_reducible apply bDrewN) | (with_reducible apply Below.drew) | ((with_reducible apply bThen hb1); (focus first | (simp; done) | (simp; omega) | omega)) | ((with_reducible apply bSet); (focus first | (simp; done) | (simp; omega) | omega)) | ((with_reducible apply bAlloc); (focus first | (simp; done) | (simp; omega) | omega)))
      have hsz1 := HB1.size
      clear hb1 
      have t3 : w1.cell? ⟨0, n * 6 + 3, none⟩ = some (.bool false) := by rw [HB1.cell (p := ⟨0, n * 6 + 3, none⟩) hz]; exact h3
      go_wp2_with fail
      go_ret2
      exact ⟨rfl, by repeat (first | (with_reducible exact Below.refl _ _) | (with_reducible apply bDrewN) | (with_reducible apply Below.drew) | (with_reducible exact HB1) | ((with_reducible apply bSet); (focus first | (simp; done) | (simp; omega) | omega)) | ((with_reducible apply bAlloc); (focus first | (simp; done) | (simp; omega) | omega)))⟩
    · have e : wrR n a b c i = a := by simp [wrR, hv, hw]
      rw [e]
      rw [hw] at h3
      cases ha : (a == 0)
      · have ha2 : (a != 0) = true := by simpa using ha
        rw [ha2]
        have hz := hT.size
        go_enter Tryd.func20, Tryd.ntmps20
        go_wp2_with fail
        refine (valid_any n a b c i _ (Tab.of_below hT (by repeat (first | (with_reducible exact Below.refl _ _) | (with_reducible apply bDrewN) | (with_reducible apply Below.drew) | ((with_reducible apply bSet); (focus first | (simp; done) | (simp; omega) | omega)) | ((with_reducible apply bAlloc); (focus first | (simp; done) | (simp; omega) | omega)))))).mono ?_
        rintro e w1 ⟨rfl, hb1⟩
        have hT1 : Tab w1 := Tab.of_below (Tab.of_below hT (by repeat (first | (with_reducible exact Below.refl _ _) | (with_reducible apply bDrewN) | (with_reducible apply Below.drew) | ((with_reducible apply bSet); (focus first | (simp; done) | (simp; omega) | omega)) | ((with_reducible apply bAlloc); (focus first | (simp; done) | (simp; omega) | omega))))) hb1
        have sz1_0 : w.heap.size < w1.heap.size := by have h := hb1.size; first | (simp at h; omega) | omega
        have c1_0_0 : w1.cell? ⟨w.heap.size, 0, none⟩ = some (.int .u8 n) := by rw [hb1.cell (p := ⟨w.heap.size, 0, none⟩) (by first | (simp; done) | (simp; omega) | omega)]; first | assumption | (simp [go_sem]; done) | (simp [go_sem, *]; done)
        have c1_0_1 : w1.cell? ⟨w.heap.size, 1, none⟩ = some (.int .i64 a) := by rw [hb1.cell (p := ⟨w.heap.size, 1, none⟩) (by first | (simp; done) | (simp; omega) | omega)]; first | assumption | (simp [go_sem]; done) | (simp [go_sem, *]; done)
        have c1_0_2 : w1.cell? ⟨w.heap.size, 2, none⟩ = some (.int .i64 b) := by rw [hb1.cell (p := ⟨w.heap.size, 2, none⟩) (by first | (simp; done) | (simp; omega) | omega)]; first | assumption | (simp [go_sem]; done) | (simp [go_sem, *]; done)
        have c1_0_3 : w1.cell? ⟨w.heap.size, 3, none⟩ = some (.int .i64 c) := by rw [hb1.cell (p := ⟨w.heap.size, 3, none⟩) (by first | (simp; done) | (simp; omega) | omega)]; first | assumption | (simp [go_sem]; done) | (simp [go_sem, *]; done)
        have c1_0_4 : w1.cell? ⟨w.heap.size, 4, none⟩ = some (.int .i64 i) := by rw [hb1.cell (p := ⟨w.heap.size, 4, none⟩) (by first | (simp; done) | (simp; omega) | omega)]; first | assumption | (simp [go_sem]; done) | (simp [go_sem, *]; done)
        have HB1 : Below w.heap.size w w1 := by
          repeat (first | (with_reducible exact Below.refl _ _) | (with_reducible apply bDrewN) | (with_reducible apply Below.drew) | ((with_reducible apply bThen hb1); (focus first | (simp; done) | (simp; omega) | omega)) | ((with_reducible apply bSet); (focus first | (simp; done) | (simp; omega) | omega)) | ((with_reducible apply bAlloc); (focus first | (simp; done) | (simp; omega) | omega)))
        have hsz1 := HB1.size
        clear hb1 
        have t3 : w1.cell? ⟨0, n * 6 + 3, none⟩ = some (.bool true) := by rw [HB1.cell (p := ⟨0, n * 6 + 3, none⟩) hz]; exact h3
        go_wp2_with fail
        go_ret2
        exact ⟨rfl, by repeat (first | (with_reducible exact Below.refl _ _) | (with_reducible apply bDrewN) | (with_reducible apply Below.drew) | (with_reducible exact HB1) | ((with_reducible apply bSet); (focus first | (simp; done) | (simp; omega) | omega)) | ((with_reducible apply bAlloc); (focus first | (simp; done) | (simp; omega) | omega)))⟩
      · have ha2 : (a != 0) = false := by simpa using ha
        rw [ha2]
        obtain rfl : a = 0 := by simpa using ha
        have hz := hT.size
        go_enter Tryd.func20, Tryd.ntmps20
        go_wp2_with fail
        refine (valid_any n 0 b c i _ (Tab.of_below hT (by repeat (first | (with_reducible exact Below.refl _ _) | (with_reducible apply bDrewN) | (with_reducible apply Below.drew) | ((with_reducible apply bSet); (focus first | (simp; done) | (simp; omega) | omega)) | ((with_reducible apply bAlloc); (focus first | (simp; done) | (simp; omega) | omega)))))).mono ?_
        rintro e w1 ⟨rfl, hb1⟩
        have hT1 : Tab w1 := Tab.of_below (Tab.of_below hT (by repeat (first | (with_reducible exact Below.refl _ _) | (with_reducible apply bDrewN) | (with_reducible apply Below.drew) | ((with_reducible apply bSet); (focus first | (simp; done) | (simp; omega) | omega)) | ((with_reducible apply bAlloc); (focus first | (simp; done) | (simp; omega) | omega))))) hb1
        have sz1_0 : w.heap.size < w1.heap.size := by have h := hb1.size; first | (simp at h; omega) | omega
        have c1_0_0 : w1.cell? ⟨w.heap.size, 0, none⟩ = some (.int .u8 n) := by rw [hb1.cell (p := ⟨w.heap.size, 0, none⟩) (by first | (simp; done) | (simp; omega) | omega)]; first | assumption | (simp [go_sem]; done) | (simp [go_sem, *]; done)
        have c1_0_1 : w1.cell? ⟨w.heap.size, 1, none⟩ = some (.int .i64 0) := by rw [hb1.cell (p := ⟨w.heap.size, 1, none⟩) (by first | (simp; done) | (simp; omega) | omega)]; first | assumption | (simp [go_sem]; done) | (simp [go_sem, *]; done)
        have c1_0_2 : w1.cell? ⟨w.heap.size, 2, none⟩ = some (.int .i64 b) := by rw [hb1.cell (p := ⟨w.heap.size, 2, none⟩) (by first | (simp; done) | (simp; omega) | omega)]; first | assumption | (simp [go_sem]; done) | (simp [go_sem, *]; done)
        have c1_0_3 : w1.cell? ⟨w.heap.size, 3, none⟩ = some (.int .i64 c) := by rw [hb1.cell (p := ⟨w.heap.size, 3, none⟩) (by first | (simp; done) | (simp; omega) | omega)]; first | assumption | (simp [go_sem]; done) | (simp [go_sem, *]; done)
        have c1_0_4 : w1.cell? ⟨w.heap.size, 4, none⟩ = some (.int .i64 i) := by rw [hb1.cell (p := ⟨w.heap.size, 4, none⟩) (by first | (simp; done) | (simp; omega) | omega)]; first | assumption | (simp [go_sem]; done) | (simp [go_sem, *]; done)
        have HB1 : Below w.heap.size w w1 := by
          repeat (first | (with_reducible exact Below.refl _ _) | (with_reducible apply bDrewN) | (with_reducible apply Below.drew) | ((with_reducible apply bThen hb1); (focus first | (simp; done) | (simp; omega) | omega)) | ((with_reducible apply bSet); (focus first | (simp; done) | (simp; omega) | omega)) | ((with_reducible apply bAlloc); (focus first | (simp; done) | (simp; omega) | omega)))
        have hsz1 := HB1.size
        clear hb1 
        have t3 : w1.cell? ⟨0, n * 6 + 3, none⟩ = some (.bool true) := by rw [HB1.cell (p := ⟨0, n * 6 + 3, none⟩) hz]; exact h3
        go_wp2_with fail
        go_ret2
        exact ⟨rfl, by repeat (first | (with_reducible exact Below.refl _ _) | (with_reducible apply bDrewN) | (with_reducible apply Below.drew) | (with_reducible exact HB1) | ((with_reducible apply bSet); (focus first | (simp; done) | (simp; omega) | omega)) | ((with_reducible apply bAlloc); (focus first | (simp; done) | (simp; omega) | omega)))⟩

end Go.Proofs.YtlajdcikhbocdaaDoor

