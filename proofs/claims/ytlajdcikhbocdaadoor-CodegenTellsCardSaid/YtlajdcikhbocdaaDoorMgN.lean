import Derived.WalkKit
import Derived.Test.YtlajdcikhbocdaaDoorBase
import Derived.Test.YtlajdcikhbocdaaDoorIsaT
/- Bitwise and, or of unsigned words as arithmetic: masks, and sums of parts that do not overlap. -/
namespace Go.Proofs.YtlajdcikhbocdaaDoor

theorem u32_and_mask (x : Int) (k : Nat) (hk : k ≤ 32) (h0 : 0 ≤ x) (h1 : x < 4294967296) : bits .and .u32 x (2 ^ k - 1) = x % 2 ^ k := by
  have hp : (2 : Int) ^ k ≤ 4294967296 := by
    have : (2 : Nat) ^ k ≤ 2 ^ 32 := Nat.pow_le_pow_right (by omega) hk
    have h2 : ((2 ^ k : Nat) : Int) ≤ ((2 ^ 32 : Nat) : Int) := by exact_mod_cast this
    simpa using h2
  have hpos : (1 : Int) ≤ 2 ^ k := by
    have : 1 ≤ (2 : Nat) ^ k := Nat.one_le_two_pow
    have h2 : ((1 : Nat) : Int) ≤ ((2 ^ k : Nat) : Int) := by exact_mod_cast this
    simpa using h2
  rw [u32_and x (2 ^ k - 1) h0 h1 (by omega) (by omega)]
  have e : ((2 : Int) ^ k - 1).toNat = 2 ^ k - 1 := by
    have h3 : ((2 ^ k : Nat) : Int) = (2 : Int) ^ k := by simp
    omega
  rw [e, Nat.and_two_pow_sub_one_eq_mod]
  have h3 : ((2 ^ k : Nat) : Int) = (2 : Int) ^ k := by simp
  rw [Int.natCast_emod, h3, Int.toNat_of_nonneg h0]

theorem u32_or_add (x y : Int) (k : Nat) (hx : 0 ≤ x) (hx1 : x < 4294967296) (hd : x % 2 ^ k = 0) (hy : 0 ≤ y) (hy1 : y < 2 ^ k) (hy2 : y < 4294967296) : bits .or .u32 x y = x + y := by
  rw [u32_or x y hx hx1 hy hy2]
  have h3 : ((2 ^ k : Nat) : Int) = (2 : Int) ^ k := by simp
  obtain ⟨q, hq⟩ : ∃ q : Nat, x.toNat = 2 ^ k * q := by
    refine ⟨x.toNat / 2 ^ k, ?_⟩
    have h4 : x.toNat % 2 ^ k = 0 := by
      have : ((x.toNat % 2 ^ k : Nat) : Int) = 0 := by rw [Int.natCast_emod, h3, Int.toNat_of_nonneg hx]; exact hd
      exact_mod_cast this
    have := Nat.div_add_mod x.toNat (2 ^ k)
    omega
  have hlt : y.toNat < 2 ^ k := by
    have : (y.toNat : Int) < ((2 ^ k : Nat) : Int) := by rw [h3, Int.toNat_of_nonneg hy]; exact hy1
    exact_mod_cast this
  rw [hq, ← Nat.two_pow_add_eq_or_of_lt hlt, ← hq]
  omega

theorem and15 (a : Int) (h0 : 0 ≤ a) (h1 : a ≤ 15) : bits .and .u32 a 15 = a := by
  have := u32_and_mask a 4 (by omega) h0 (by omega)
  have e : bits .and .u32 a 15 = a % 16 := this
  omega
theorem andI (i : Int) : bits .and .u32 (i % 4294967296) 262143 = i % 262144 := by
  have := u32_and_mask (i % 4294967296) 18 (by omega) (by omega) (by omega)
  have e : bits .and .u32 (i % 4294967296) 262143 = i % 4294967296 % 262144 := this
  omega

/-- The encoding of a valid instruction. -/
def encW (n : Nat) (a b c i : Int) : Int := n * 67108864 + a * 4194304 + b * 262144 + c * 16384 + i % 262144

theorem or22 (n : Nat) (a : Int) (hn : n < 64) (h0 : 0 ≤ a) (h1 : a ≤ 15) : bits .or .u32 (n * 67108864) (a * 4194304 % 4294967296) = n * 67108864 + a * 4194304 := by
  rw [u32_or_add _ _ 26 (by omega) (by omega) (by rw [show ((2 : Int) ^ 26) = 67108864 from rfl]; omega) (by omega) (by rw [show ((2 : Int) ^ 26) = 67108864 from rfl]; omega) (by omega)]
  omega
theorem or18 (n : Nat) (a b : Int) (hn : n < 64) (h0 : 0 ≤ a) (h1 : a ≤ 15) (h2 : 0 ≤ b) (h3 : b ≤ 15) : bits .or .u32 (n * 67108864 + a * 4194304) (b * 262144 % 4294967296) = n * 67108864 + a * 4194304 + b * 262144 := by
  rw [u32_or_add _ _ 22 (by omega) (by omega) (by rw [show ((2 : Int) ^ 22) = 4194304 from rfl]; omega) (by omega) (by rw [show ((2 : Int) ^ 22) = 4194304 from rfl]; omega) (by omega)]
  omega
theorem or14 (n : Nat) (a b c : Int) (hn : n < 64) (h0 : 0 ≤ a) (h1 : a ≤ 15) (h2 : 0 ≤ b) (h3 : b ≤ 15) (h4 : 0 ≤ c) (h5 : c ≤ 15) :
    bits .or .u32 (n * 67108864 + a * 4194304 + b * 262144) (c * 16384 % 4294967296) = n * 67108864 + a * 4194304 + b * 262144 + c * 16384 := by
  rw [u32_or_add _ _ 18 (by omega) (by omega) (by rw [show ((2 : Int) ^ 18) = 262144 from rfl]; omega) (by omega) (by rw [show ((2 : Int) ^ 18) = 262144 from rfl]; omega) (by omega)]
  omega
theorem orI (x i : Int) (h0 : 0 ≤ x) (h1 : x < 4294967296) (h2 : x % 262144 = 0) : bits .or .u32 x (i % 262144 % 4294967296) = x + i % 262144 := by
  rw [u32_or_add _ _ 18 h0 h1 (by rw [show ((2 : Int) ^ 18) = 262144 from rfl]; omega) (by omega) (by rw [show ((2 : Int) ^ 18) = 262144 from rfl]; omega) (by omega)]
  omega

end Go.Proofs.YtlajdcikhbocdaaDoor

/- Results that lie in memory. -/
namespace Go.Proofs.YtlajdcikhbocdaaDoor
open Go.RowKit

/-- A result that is a struct of five cells, stored whole just before the return. -/
theorem run_result5 {P : Program} {fn : Func} {p u : Tmp} {ty : TypeId} (hr : fn.results = #[.cell p ty, .tmp u]) (hag : ∀ w : World, (isAgg ty).run P w = .ok true w) (hsz : ∀ w : World, (sizeOf ty).run P w = .ok 5 w)
    {tmps : Array Value} {w1 : World} {B : Nat} (v0 v1 v2 v3 v4 r : Value) (hp : tmps.getD p undef = .pointer (some ⟨B, 0, none⟩)) (hu : tmps.getD u undef = r)
    (h0 : w1.cell? ⟨B, 0, none⟩ ≠ none) (h1 : w1.cell? ⟨B, 1, none⟩ ≠ none) (h2 : w1.cell? ⟨B, 2, none⟩ ≠ none) (h3 : w1.cell? ⟨B, 3, none⟩ ≠ none) (h4 : w1.cell? ⟨B, 4, none⟩ ≠ none) :
    (results fn tmps).run P (((((w1.setCell ⟨B, 0, none⟩ v0).setCell ⟨B, 1, none⟩ v1).setCell ⟨B, 2, none⟩ v2).setCell ⟨B, 3, none⟩ v3).setCell ⟨B, 4, none⟩ v4) =
      .ok (.tuple #[.agg #[v0, v1, v2, v3, v4], r]) (((((w1.setCell ⟨B, 0, none⟩ v0).setCell ⟨B, 1, none⟩ v1).setCell ⟨B, 2, none⟩ v2).setCell ⟨B, 3, none⟩ v3).setCell ⟨B, 4, none⟩ v4) := by
  have s : ∀ (w : World) (i j : Nat) (x : Value), i ≠ j → (w.setCell ⟨B, i, none⟩ x).cell? ⟨B, j, none⟩ = w.cell? ⟨B, j, none⟩ := fun w i j x hij => World.cell?_setCell_other _ _ _ _ (by intro e; injection e with _ e2; exact hij e2)
  have t : ∀ (w : World) (i : Nat) (x : Value), w.cell? ⟨B, i, none⟩ ≠ none → (w.setCell ⟨B, i, none⟩ x).cell? ⟨B, i, none⟩ = some x := fun w i x h => by
    obtain ⟨y, hy⟩ := Option.ne_none_iff_exists'.1 h
    exact World.cell?_setCell_same _ _ _ hy
  have hl : ∀ (j : Nat) (v : Value), [v0, v1, v2, v3, v4][j]? = some v → (((((w1.setCell ⟨B, 0, none⟩ v0).setCell ⟨B, 1, none⟩ v1).setCell ⟨B, 2, none⟩ v2).setCell ⟨B, 3, none⟩ v3).setCell ⟨B, 4, none⟩ v4).cell? ((⟨B, 0, none⟩ : Addr).add j) = some v := by
    intro j v hj
    match j, hj with
    | 0, hj => obtain rfl : v0 = v := by simpa using hj
               show World.cell? _ ⟨B, 0, none⟩ = _
               rw [s _ 4 0 _ (by omega), s _ 3 0 _ (by omega), s _ 2 0 _ (by omega), s _ 1 0 _ (by omega), t _ 0 _ h0]
    | 1, hj => obtain rfl : v1 = v := by simpa using hj
               show World.cell? _ ⟨B, 1, none⟩ = _
               rw [s _ 4 1 _ (by omega), s _ 3 1 _ (by omega), s _ 2 1 _ (by omega), t _ 1 _ (by rw [s _ 0 1 _ (by omega)]; exact h1)]
    | 2, hj => obtain rfl : v2 = v := by simpa using hj
               show World.cell? _ ⟨B, 2, none⟩ = _
               rw [s _ 4 2 _ (by omega), s _ 3 2 _ (by omega), t _ 2 _ (by rw [s _ 1 2 _ (by omega), s _ 0 2 _ (by omega)]; exact h2)]
    | 3, hj => obtain rfl : v3 = v := by simpa using hj
               show World.cell? _ ⟨B, 3, none⟩ = _
               rw [s _ 4 3 _ (by omega), t _ 3 _ (by rw [s _ 2 3 _ (by omega), s _ 1 3 _ (by omega), s _ 0 3 _ (by omega)]; exact h3)]
    | 4, hj => obtain rfl : v4 = v := by simpa using hj
               show World.cell? _ ⟨B, 4, none⟩ = _
               rw [t _ 4 _ (by rw [s _ 3 4 _ (by omega), s _ 2 4 _ (by omega), s _ 1 4 _ (by omega), s _ 0 4 _ (by omega)]; exact h4)]
    | j + 5, hj => simp at hj
  rw [results_cell_tmp hr, hp, hu]
  simp only [asAddr, loadVar, Sem.run_bind, Sem.run_pure, Result.andThen, hag, hsz, if_true]
  have e := run_loadCells_list (P := P) _ ⟨B, 0, none⟩ [v0, v1, v2, v3, v4] hl
  simp only [List.length_cons, List.length_nil] at e
  simp [e]

end Go.Proofs.YtlajdcikhbocdaaDoor

/- Contracts of isa.Encode. -/
namespace Go.Proofs.YtlajdcikhbocdaaDoor
open Go.RowKit

theorem ret_u32_err {x y : Int} (k : Int) (h : x = y) : Ending.returned (.tuple #[.int .u32 x, .int .i64 k]) = .returned (.tuple #[.int .u32 y, .int .i64 k]) := by rw [h]

/-- What a valid instruction is. -/
theorem vld_parts {n : Nat} {a b c i : Int} (h : vld n a b c i = true) : n < 30 ∧ (0 ≤ a ∧ a ≤ if uA n then 15 else 0) ∧ (0 ≤ b ∧ b ≤ if uB n then 15 else 0) ∧ (0 ≤ c ∧ c ≤ if uC n then 15 else 0) ∧ ((if uI n then flo n else 0) ≤ i ∧ i ≤ if uI n then fhi n else 0) := by
  simpa [vld, vldS] using h

/-- What isa.Encode returns. -/
def encV (n : Nat) (a b c i : Int) : Int := if vld n a b c i then encW n a b c i else 0
def encE (n : Nat) (a b c i : Int) : Int := if vld n a b c i then 0 else 3
end Go.Proofs.YtlajdcikhbocdaaDoor

/- Contracts of isa.Decode. -/
set_option linter.unusedVariables false
set_option linter.unusedSimpArgs false
namespace Go.Proofs.YtlajdcikhbocdaaDoor
open Go.RowKit

/-- The operands of a word. -/
def wA (x : Int) : Int := x / 4194304 % 16
def wB (x : Int) : Int := x / 262144 % 16
def wC (x : Int) : Int := x / 16384 % 16
def wI (x : Int) : Int := if 131072 ≤ x % 262144 then x % 262144 - 262144 else x % 262144
theorem wA_eq (x : Int) (h0 : 0 ≤ x) (h1 : x < 4294967296) : wrap64 (bits .and .u32 (x / 4194304) 15) = wA x := by
  have e : bits .and .u32 (x / 4194304) 15 = x / 4194304 % 16 := u32_and_mask (x / 4194304) 4 (by omega) (by omega) (by omega)
  rw [e, IntWalk.wrap64_in _ ⟨by omega, by omega⟩]; rfl
theorem wB_eq (x : Int) (h0 : 0 ≤ x) (h1 : x < 4294967296) : wrap64 (bits .and .u32 (x / 262144) 15) = wB x := by
  have e : bits .and .u32 (x / 262144) 15 = x / 262144 % 16 := u32_and_mask (x / 262144) 4 (by omega) (by omega) (by omega)
  rw [e, IntWalk.wrap64_in _ ⟨by omega, by omega⟩]; rfl
theorem wC_eq (x : Int) (h0 : 0 ≤ x) (h1 : x < 4294967296) : wrap64 (bits .and .u32 (x / 16384) 15) = wC x := by
  have e : bits .and .u32 (x / 16384) 15 = x / 16384 % 16 := u32_and_mask (x / 16384) 4 (by omega) (by omega) (by omega)
  rw [e, IntWalk.wrap64_in _ ⟨by omega, by omega⟩]; rfl
theorem wV_eq (x : Int) (h0 : 0 ≤ x) (h1 : x < 4294967296) : wrap64 (bits .and .u32 x 262143) = x % 262144 := by
  have e : bits .and .u32 x 262143 = x % 262144 := u32_and_mask x 18 (by omega) (by omega) (by omega)
  rw [e, IntWalk.wrap64_in _ ⟨by omega, by omega⟩]
theorem wA_bd (x : Int) : 0 ≤ wA x ∧ wA x ≤ 15 := by unfold wA; omega
theorem wB_bd (x : Int) : 0 ≤ wB x ∧ wB x ≤ 15 := by unfold wB; omega
theorem wC_bd (x : Int) : 0 ≤ wC x ∧ wC x ≤ 15 := by unfold wC; omega

def instrV (n : Nat) (a b c i : Int) : Value := .agg #[.int .u8 n, .int .i64 a, .int .i64 b, .int .i64 c, .int .i64 i]

/-- What isa.Decode returns, of the instruction that it has put together. -/
def decR (x : Int) (n : Nat) (a b c i : Int) : Value := if vld n a b c i = true ∧ encW n a b c i = x then .tuple #[.agg #[.int .u8 n, .int .i64 a, .int .i64 b, .int .i64 c, .int .i64 i], .int .i64 0] else .tuple #[.agg #[.int .u8 0, .int .i64 0, .int .i64 0, .int .i64 0, .int .i64 0], .int .i64 3]
theorem decR_bad {x : Int} {n : Nat} {a b c i : Int} (h : (encE n a b c i != 0) = true) : decR x n a b c i = .tuple #[.agg #[.int .u8 0, .int .i64 0, .int .i64 0, .int .i64 0, .int .i64 0], .int .i64 3] := by
  unfold decR; rw [if_neg]; intro ⟨h1, _⟩; simp [encE, h1] at h
theorem decR_other {x : Int} {n : Nat} {a b c i : Int} (h : (encV n a b c i != x) = true) : decR x n a b c i = .tuple #[.agg #[.int .u8 0, .int .i64 0, .int .i64 0, .int .i64 0, .int .i64 0], .int .i64 3] := by
  unfold decR; rw [if_neg]; intro ⟨h1, h2⟩; simp [encV, h1, h2] at h
theorem decR_ok {x : Int} {n : Nat} {a b c i : Int} (h : ¬ (encE n a b c i != 0) = true) (h' : ¬ (encV n a b c i != x) = true) : decR x n a b c i = .tuple #[.agg #[.int .u8 n, .int .i64 a, .int .i64 b, .int .i64 c, .int .i64 i], .int .i64 0] := by
  have hv : vld n a b c i = true := by cases hv : vld n a b c i <;> simp_all [encE]
  unfold decR; rw [if_pos]; exact ⟨hv, by simpa [encV, hv] using h'⟩

/-- The opcode of a word, and the operands that its format has. -/
def dN (x : Int) : Nat := (x / 67108864).toNat
def dA (x : Int) : Int := if uA (dN x) then wA x else 0
def dB (x : Int) : Int := if uB (dN x) then wB x else 0
def dC (x : Int) : Int := if uC (dN x) then wC x else 0
def dI (x : Int) : Int := if uI (dN x) then wI x else 0
/-- What isa.Decode returns. -/
def decV (x : Int) : Value := decR x (dN x) (dA x) (dB x) (dC x) (dI x)

end Go.Proofs.YtlajdcikhbocdaaDoor

/- Encodings and their instructions: plain arithmetic. -/
set_option linter.unusedVariables false
set_option linter.unusedSimpArgs false
namespace Go.Proofs.YtlajdcikhbocdaaDoor
open Go.RowKit

/-- The immediate operands of every format fit into 18 bits. -/
theorem imm_bd : ∀ (n : Nat), n < 30 → -131072 ≤ flo n ∧ fhi n ≤ 131071 := by
  intro n hn
  have h : ∀ k : Fin 30, -131072 ≤ flo k ∧ fhi k ≤ 131071 := by decide
  exact h ⟨n, hn⟩

/-- The bounds of a valid instruction. -/
theorem vld_bd {n : Nat} {a b c i : Int} (h : vld n a b c i = true) : n < 30 ∧ 0 ≤ a ∧ a ≤ 15 ∧ 0 ≤ b ∧ b ≤ 15 ∧ 0 ≤ c ∧ c ≤ 15 ∧ -131072 ≤ i ∧ i ≤ 131071 := by
  obtain ⟨hn, ha, hb, hc, hi⟩ := vld_parts h
  have hm := imm_bd n hn
  refine ⟨hn, ha.1, ?_, hb.1, ?_, hc.1, ?_, ?_, ?_⟩
  · have := ha.2; split at this <;> omega
  · have := hb.2; split at this <;> omega
  · have := hc.2; split at this <;> omega
  · have := hi.1; split at this <;> omega
  · have := hi.2; split at this <;> omega

theorem encW_bd {n : Nat} {a b c i : Int} (h : vld n a b c i = true) : 0 ≤ encW n a b c i ∧ encW n a b c i < 4294967296 := by
  have := vld_bd h
  unfold encW
  omega

/-- The formats: an instruction with an immediate operand has no C; one with B has A; one with C has B. -/
theorem fmt_kinds : ∀ (n : Nat), n < 30 → (uC n = true → uB n = true) ∧ (uB n = true → uA n = true) ∧ (uI n = true → uC n = false) := by
  intro n hn
  have h : ∀ k : Fin 30, (uC k = true → uB k = true) ∧ (uB k = true → uA k = true) ∧ (uI k = true → uC k = false) := by decide
  exact h ⟨n, hn⟩

/-- Decoding an encoding gives the operands back. -/
theorem dec_enc {n : Nat} {a b c i : Int} (h : vld n a b c i = true) :
    dN (encW n a b c i) = n ∧ dA (encW n a b c i) = a ∧ dB (encW n a b c i) = b ∧ dC (encW n a b c i) = c ∧ dI (encW n a b c i) = i := by
  have hb := vld_bd h
  obtain ⟨hn, pa, pb, pc, pi⟩ := vld_parts h
  obtain ⟨k1, k2, k3⟩ := fmt_kinds n hn
  have hci : c = 0 ∨ i = 0 := by
    cases u : uI n
    · simp [u] at pi; omega
    · have uc := k3 u; simp [uc] at pc; omega
  have e : dN (encW n a b c i) = n := by unfold dN encW; omega
  refine ⟨e, ?_, ?_, ?_, ?_⟩
  · unfold dA; rw [e]
    cases u : uA n
    · simp [u] at pa ⊢; omega
    · simp only [if_true]; unfold wA encW; omega
  · unfold dB; rw [e]
    cases u : uB n
    · simp [u] at pb ⊢; omega
    · simp only [if_true]; unfold wB encW; omega
  · unfold dC; rw [e]
    cases u : uC n
    · simp [u] at pc ⊢; omega
    · simp only [if_true]
      have ui : uI n = false := by
        cases ui : uI n
        · rfl
        · have := k3 ui; simp [u] at this
      simp [ui] at pi
      unfold wC encW; omega
  · unfold dI; rw [e]
    cases u : uI n
    · simp [u] at pi ⊢; omega
    · have uc := k3 u
      simp [uc] at pc
      simp only [if_true]; unfold wI encW
      split <;> omega

theorem decV_enc {n : Nat} {a b c i : Int} (h : vld n a b c i = true) : decV (encW n a b c i) = .tuple #[.agg #[.int .u8 n, .int .i64 a, .int .i64 b, .int .i64 c, .int .i64 i], .int .i64 0] := by
  obtain ⟨e0, e1, e2, e3, e4⟩ := dec_enc h
  unfold decV
  rw [e0, e1, e2, e3, e4]
  unfold decR
  rw [if_pos ⟨h, rfl⟩]

/-- Different valid instructions have different encodings. -/
theorem enc_inj {n : Nat} {a b c i : Int} {n' : Nat} {a' b' c' i' : Int} (h : vld n a b c i = true) (h' : vld n' a' b' c' i' = true) (e : encW n a b c i = encW n' a' b' c' i') : n = n' ∧ a = a' ∧ b = b' ∧ c = c' ∧ i = i' := by
  obtain ⟨e0, e1, e2, e3, e4⟩ := dec_enc h
  obtain ⟨f0, f1, f2, f3, f4⟩ := dec_enc h'
  rw [e] at e0 e1 e2 e3 e4
  exact ⟨e0.symm.trans f0, e1.symm.trans f1, e2.symm.trans f2, e3.symm.trans f3, e4.symm.trans f4⟩

end Go.Proofs.YtlajdcikhbocdaaDoor

/- Contracts of the reference of layer 4: Format, reg, Valid, Encode. -/
set_option linter.unusedVariables false
set_option linter.unusedSimpArgs false
namespace Go.Proofs.YtlajdcikhbocdaaDoor
open Go.RowKit

/-- What Format returns. -/
def rfS (n : Nat) : ByteArray := if uC n then ⟨#[65, 66, 67]⟩ else if uB n then ⟨#[65, 66]⟩ else if uA n then ⟨#[65]⟩ else ⟨#[]⟩
def rlo (n : Nat) : Int := if uI n then flo n else 1
def rhi (n : Nat) : Int := if uI n then fhi n else 0

theorem format_big (n : Nat) (w : World) (hn : 30 ≤ n) : Calls Tryd.prog 53 #[.int .u8 n] w fun e w' => e = .returned (.tuple #[.string ⟨#[]⟩, .int .i64 1, .int .i64 0, .bool false]) ∧ w = w' := by
  go_enter Tryd.func53, Tryd.ntmps53
  go_wp2
  exact bodyPost_ret (results_tmp4 Tryd.results53 _ _ _) rfl ⟨rfl, rfl⟩
theorem format_0 (w : World) : Calls Tryd.prog 53 #[.int .u8 0] w fun e w' => e = .returned (.tuple #[.string (rfS 0), .int .i64 (rlo 0), .int .i64 (rhi 0), .bool true]) ∧ w = w' := by
  go_enter Tryd.func53, Tryd.ntmps53
  go_wp2
  exact bodyPost_ret (results_tmp4 Tryd.results53 _ _ _) rfl ⟨rfl, rfl⟩
theorem format_1 (w : World) : Calls Tryd.prog 53 #[.int .u8 1] w fun e w' => e = .returned (.tuple #[.string (rfS 1), .int .i64 (rlo 1), .int .i64 (rhi 1), .bool true]) ∧ w = w' := by
  go_enter Tryd.func53, Tryd.ntmps53
  go_wp2
  exact bodyPost_ret (results_tmp4 Tryd.results53 _ _ _) rfl ⟨rfl, rfl⟩
theorem format_2 (w : World) : Calls Tryd.prog 53 #[.int .u8 2] w fun e w' => e = .returned (.tuple #[.string (rfS 2), .int .i64 (rlo 2), .int .i64 (rhi 2), .bool true]) ∧ w = w' := by
  go_enter Tryd.func53, Tryd.ntmps53
  go_wp2
  exact bodyPost_ret (results_tmp4 Tryd.results53 _ _ _) rfl ⟨rfl, rfl⟩
theorem format_3 (w : World) : Calls Tryd.prog 53 #[.int .u8 3] w fun e w' => e = .returned (.tuple #[.string (rfS 3), .int .i64 (rlo 3), .int .i64 (rhi 3), .bool true]) ∧ w = w' := by
  go_enter Tryd.func53, Tryd.ntmps53
  go_wp2
  exact bodyPost_ret (results_tmp4 Tryd.results53 _ _ _) rfl ⟨rfl, rfl⟩
theorem format_4 (w : World) : Calls Tryd.prog 53 #[.int .u8 4] w fun e w' => e = .returned (.tuple #[.string (rfS 4), .int .i64 (rlo 4), .int .i64 (rhi 4), .bool true]) ∧ w = w' := by
  go_enter Tryd.func53, Tryd.ntmps53
  go_wp2
  exact bodyPost_ret (results_tmp4 Tryd.results53 _ _ _) rfl ⟨rfl, rfl⟩
theorem format_5 (w : World) : Calls Tryd.prog 53 #[.int .u8 5] w fun e w' => e = .returned (.tuple #[.string (rfS 5), .int .i64 (rlo 5), .int .i64 (rhi 5), .bool true]) ∧ w = w' := by
  go_enter Tryd.func53, Tryd.ntmps53
  go_wp2
  exact bodyPost_ret (results_tmp4 Tryd.results53 _ _ _) rfl ⟨rfl, rfl⟩
theorem format_6 (w : World) : Calls Tryd.prog 53 #[.int .u8 6] w fun e w' => e = .returned (.tuple #[.string (rfS 6), .int .i64 (rlo 6), .int .i64 (rhi 6), .bool true]) ∧ w = w' := by
  go_enter Tryd.func53, Tryd.ntmps53
  go_wp2
  exact bodyPost_ret (results_tmp4 Tryd.results53 _ _ _) rfl ⟨rfl, rfl⟩
theorem format_7 (w : World) : Calls Tryd.prog 53 #[.int .u8 7] w fun e w' => e = .returned (.tuple #[.string (rfS 7), .int .i64 (rlo 7), .int .i64 (rhi 7), .bool true]) ∧ w = w' := by
  go_enter Tryd.func53, Tryd.ntmps53
  go_wp2
  exact bodyPost_ret (results_tmp4 Tryd.results53 _ _ _) rfl ⟨rfl, rfl⟩
theorem format_8 (w : World) : Calls Tryd.prog 53 #[.int .u8 8] w fun e w' => e = .returned (.tuple #[.string (rfS 8), .int .i64 (rlo 8), .int .i64 (rhi 8), .bool true]) ∧ w = w' := by
  go_enter Tryd.func53, Tryd.ntmps53
  go_wp2
  exact bodyPost_ret (results_tmp4 Tryd.results53 _ _ _) rfl ⟨rfl, rfl⟩
theorem format_9 (w : World) : Calls Tryd.prog 53 #[.int .u8 9] w fun e w' => e = .returned (.tuple #[.string (rfS 9), .int .i64 (rlo 9), .int .i64 (rhi 9), .bool true]) ∧ w = w' := by
  go_enter Tryd.func53, Tryd.ntmps53
  go_wp2
  exact bodyPost_ret (results_tmp4 Tryd.results53 _ _ _) rfl ⟨rfl, rfl⟩
theorem format_10 (w : World) : Calls Tryd.prog 53 #[.int .u8 10] w fun e w' => e = .returned (.tuple #[.string (rfS 10), .int .i64 (rlo 10), .int .i64 (rhi 10), .bool true]) ∧ w = w' := by
  go_enter Tryd.func53, Tryd.ntmps53
  go_wp2
  exact bodyPost_ret (results_tmp4 Tryd.results53 _ _ _) rfl ⟨rfl, rfl⟩
theorem format_11 (w : World) : Calls Tryd.prog 53 #[.int .u8 11] w fun e w' => e = .returned (.tuple #[.string (rfS 11), .int .i64 (rlo 11), .int .i64 (rhi 11), .bool true]) ∧ w = w' := by
  go_enter Tryd.func53, Tryd.ntmps53
  go_wp2
  exact bodyPost_ret (results_tmp4 Tryd.results53 _ _ _) rfl ⟨rfl, rfl⟩
theorem format_12 (w : World) : Calls Tryd.prog 53 #[.int .u8 12] w fun e w' => e = .returned (.tuple #[.string (rfS 12), .int .i64 (rlo 12), .int .i64 (rhi 12), .bool true]) ∧ w = w' := by
  go_enter Tryd.func53, Tryd.ntmps53
  go_wp2
  exact bodyPost_ret (results_tmp4 Tryd.results53 _ _ _) rfl ⟨rfl, rfl⟩
theorem format_13 (w : World) : Calls Tryd.prog 53 #[.int .u8 13] w fun e w' => e = .returned (.tuple #[.string (rfS 13), .int .i64 (rlo 13), .int .i64 (rhi 13), .bool true]) ∧ w = w' := by
  go_enter Tryd.func53, Tryd.ntmps53
  go_wp2
  exact bodyPost_ret (results_tmp4 Tryd.results53 _ _ _) rfl ⟨rfl, rfl⟩
theorem format_14 (w : World) : Calls Tryd.prog 53 #[.int .u8 14] w fun e w' => e = .returned (.tuple #[.string (rfS 14), .int .i64 (rlo 14), .int .i64 (rhi 14), .bool true]) ∧ w = w' := by
  go_enter Tryd.func53, Tryd.ntmps53
  go_wp2
  exact bodyPost_ret (results_tmp4 Tryd.results53 _ _ _) rfl ⟨rfl, rfl⟩
theorem format_15 (w : World) : Calls Tryd.prog 53 #[.int .u8 15] w fun e w' => e = .returned (.tuple #[.string (rfS 15), .int .i64 (rlo 15), .int .i64 (rhi 15), .bool true]) ∧ w = w' := by
  go_enter Tryd.func53, Tryd.ntmps53
  go_wp2
  exact bodyPost_ret (results_tmp4 Tryd.results53 _ _ _) rfl ⟨rfl, rfl⟩
theorem format_16 (w : World) : Calls Tryd.prog 53 #[.int .u8 16] w fun e w' => e = .returned (.tuple #[.string (rfS 16), .int .i64 (rlo 16), .int .i64 (rhi 16), .bool true]) ∧ w = w' := by
  go_enter Tryd.func53, Tryd.ntmps53
  go_wp2
  exact bodyPost_ret (results_tmp4 Tryd.results53 _ _ _) rfl ⟨rfl, rfl⟩
theorem format_17 (w : World) : Calls Tryd.prog 53 #[.int .u8 17] w fun e w' => e = .returned (.tuple #[.string (rfS 17), .int .i64 (rlo 17), .int .i64 (rhi 17), .bool true]) ∧ w = w' := by
  go_enter Tryd.func53, Tryd.ntmps53
  go_wp2
  exact bodyPost_ret (results_tmp4 Tryd.results53 _ _ _) rfl ⟨rfl, rfl⟩
theorem format_18 (w : World) : Calls Tryd.prog 53 #[.int .u8 18] w fun e w' => e = .returned (.tuple #[.string (rfS 18), .int .i64 (rlo 18), .int .i64 (rhi 18), .bool true]) ∧ w = w' := by
  go_enter Tryd.func53, Tryd.ntmps53
  go_wp2
  exact bodyPost_ret (results_tmp4 Tryd.results53 _ _ _) rfl ⟨rfl, rfl⟩
theorem format_19 (w : World) : Calls Tryd.prog 53 #[.int .u8 19] w fun e w' => e = .returned (.tuple #[.string (rfS 19), .int .i64 (rlo 19), .int .i64 (rhi 19), .bool true]) ∧ w = w' := by
  go_enter Tryd.func53, Tryd.ntmps53
  go_wp2
  exact bodyPost_ret (results_tmp4 Tryd.results53 _ _ _) rfl ⟨rfl, rfl⟩
theorem format_20 (w : World) : Calls Tryd.prog 53 #[.int .u8 20] w fun e w' => e = .returned (.tuple #[.string (rfS 20), .int .i64 (rlo 20), .int .i64 (rhi 20), .bool true]) ∧ w = w' := by
  go_enter Tryd.func53, Tryd.ntmps53
  go_wp2
  exact bodyPost_ret (results_tmp4 Tryd.results53 _ _ _) rfl ⟨rfl, rfl⟩
theorem format_21 (w : World) : Calls Tryd.prog 53 #[.int .u8 21] w fun e w' => e = .returned (.tuple #[.string (rfS 21), .int .i64 (rlo 21), .int .i64 (rhi 21), .bool true]) ∧ w = w' := by
  go_enter Tryd.func53, Tryd.ntmps53
  go_wp2
  exact bodyPost_ret (results_tmp4 Tryd.results53 _ _ _) rfl ⟨rfl, rfl⟩
theorem format_22 (w : World) : Calls Tryd.prog 53 #[.int .u8 22] w fun e w' => e = .returned (.tuple #[.string (rfS 22), .int .i64 (rlo 22), .int .i64 (rhi 22), .bool true]) ∧ w = w' := by
  go_enter Tryd.func53, Tryd.ntmps53
  go_wp2
  exact bodyPost_ret (results_tmp4 Tryd.results53 _ _ _) rfl ⟨rfl, rfl⟩
theorem format_23 (w : World) : Calls Tryd.prog 53 #[.int .u8 23] w fun e w' => e = .returned (.tuple #[.string (rfS 23), .int .i64 (rlo 23), .int .i64 (rhi 23), .bool true]) ∧ w = w' := by
  go_enter Tryd.func53, Tryd.ntmps53
  go_wp2
  exact bodyPost_ret (results_tmp4 Tryd.results53 _ _ _) rfl ⟨rfl, rfl⟩
theorem format_24 (w : World) : Calls Tryd.prog 53 #[.int .u8 24] w fun e w' => e = .returned (.tuple #[.string (rfS 24), .int .i64 (rlo 24), .int .i64 (rhi 24), .bool true]) ∧ w = w' := by
  go_enter Tryd.func53, Tryd.ntmps53
  go_wp2
  exact bodyPost_ret (results_tmp4 Tryd.results53 _ _ _) rfl ⟨rfl, rfl⟩
theorem format_25 (w : World) : Calls Tryd.prog 53 #[.int .u8 25] w fun e w' => e = .returned (.tuple #[.string (rfS 25), .int .i64 (rlo 25), .int .i64 (rhi 25), .bool true]) ∧ w = w' := by
  go_enter Tryd.func53, Tryd.ntmps53
  go_wp2
  exact bodyPost_ret (results_tmp4 Tryd.results53 _ _ _) rfl ⟨rfl, rfl⟩
theorem format_26 (w : World) : Calls Tryd.prog 53 #[.int .u8 26] w fun e w' => e = .returned (.tuple #[.string (rfS 26), .int .i64 (rlo 26), .int .i64 (rhi 26), .bool true]) ∧ w = w' := by
  go_enter Tryd.func53, Tryd.ntmps53
  go_wp2
  exact bodyPost_ret (results_tmp4 Tryd.results53 _ _ _) rfl ⟨rfl, rfl⟩
theorem format_27 (w : World) : Calls Tryd.prog 53 #[.int .u8 27] w fun e w' => e = .returned (.tuple #[.string (rfS 27), .int .i64 (rlo 27), .int .i64 (rhi 27), .bool true]) ∧ w = w' := by
  go_enter Tryd.func53, Tryd.ntmps53
  go_wp2
  exact bodyPost_ret (results_tmp4 Tryd.results53 _ _ _) rfl ⟨rfl, rfl⟩
theorem format_28 (w : World) : Calls Tryd.prog 53 #[.int .u8 28] w fun e w' => e = .returned (.tuple #[.string (rfS 28), .int .i64 (rlo 28), .int .i64 (rhi 28), .bool true]) ∧ w = w' := by
  go_enter Tryd.func53, Tryd.ntmps53
  go_wp2
  exact bodyPost_ret (results_tmp4 Tryd.results53 _ _ _) rfl ⟨rfl, rfl⟩
theorem format_29 (w : World) : Calls Tryd.prog 53 #[.int .u8 29] w fun e w' => e = .returned (.tuple #[.string (rfS 29), .int .i64 (rlo 29), .int .i64 (rhi 29), .bool true]) ∧ w = w' := by
  go_enter Tryd.func53, Tryd.ntmps53
  go_wp2
  exact bodyPost_ret (results_tmp4 Tryd.results53 _ _ _) rfl ⟨rfl, rfl⟩
theorem format_any : ∀ (n : Nat) (w : World), n < 30 → Calls Tryd.prog 53 #[.int .u8 n] w fun e w' => e = .returned (.tuple #[.string (rfS n), .int .i64 (rlo n), .int .i64 (rhi n), .bool true]) ∧ w = w'
  | 0, w, _ => format_0 w
  | 1, w, _ => format_1 w
  | 2, w, _ => format_2 w
  | 3, w, _ => format_3 w
  | 4, w, _ => format_4 w
  | 5, w, _ => format_5 w
  | 6, w, _ => format_6 w
  | 7, w, _ => format_7 w
  | 8, w, _ => format_8 w
  | 9, w, _ => format_9 w
  | 10, w, _ => format_10 w
  | 11, w, _ => format_11 w
  | 12, w, _ => format_12 w
  | 13, w, _ => format_13 w
  | 14, w, _ => format_14 w
  | 15, w, _ => format_15 w
  | 16, w, _ => format_16 w
  | 17, w, _ => format_17 w
  | 18, w, _ => format_18 w
  | 19, w, _ => format_19 w
  | 20, w, _ => format_20 w
  | 21, w, _ => format_21 w
  | 22, w, _ => format_22 w
  | 23, w, _ => format_23 w
  | 24, w, _ => format_24 w
  | 25, w, _ => format_25 w
  | 26, w, _ => format_26 w
  | 27, w, _ => format_27 w
  | 28, w, _ => format_28 w
  | 29, w, _ => format_29 w
  | n + 30, w, h => by omega

def regB (x : Int) (u : Bool) : Bool := decide (0 ≤ x ∧ x ≤ if u then 15 else 0)
theorem reg_any (x : Int) (u : Bool) (w : World) : Calls Tryd.prog 54 #[.int .i64 x, .bool u] w fun e w' => e = .returned (.bool (regB x u)) ∧ w = w' := by
  go_enter Tryd.func54, Tryd.ntmps54
  cases u
  · have e : (x == 0) = regB x false := by rw [Bool.eq_iff_iff]; simp [regB]; omega
    go_wp2
    go_ret
    exact ⟨by rw [← e]; rfl, rfl⟩
  · by_cases h0 : 0 ≤ x
    · by_cases h1 : x < 16
      · have e : regB x true = true := by simp [regB]; omega
        have E := Lib.hid e
        clear e
        go_wp2
        go_ret
        exact ⟨by rw [E.out]; rfl, rfl⟩
      · have e : regB x true = false := by simp [regB]; omega
        have E := Lib.hid e
        clear e
        go_wp2
        go_ret
        exact ⟨by rw [E.out]; rfl, rfl⟩
    · have e : regB x true = false := by simp [regB]; omega
      have E := Lib.hid e
      clear e
      have h2 : decide (0 ≤ x) = false := by simp; omega
      go_wp2
      go_ret
      exact ⟨by rw [E.out]; rfl, rfl⟩

end Go.Proofs.YtlajdcikhbocdaaDoor

/- Contracts of the reference of layer 4: Valid, Encode. -/
set_option linter.unusedVariables false
set_option linter.unusedSimpArgs false
namespace Go.Proofs.YtlajdcikhbocdaaDoor
open Go.RowKit

theorem vldS_reg (ua ub uc ui : Bool) (lo hi a b c i : Int) : vldS ua ub uc ui lo hi a b c i = (regB a ua && regB b ub && regB c uc && decide ((if ui then lo else 0) ≤ i ∧ i ≤ if ui then hi else 0)) := by
  rw [Bool.eq_iff_iff]
  simp only [vldS, regB, Bool.and_eq_true, decide_eq_true_eq, and_assoc]

theorem refValid_big (n : Nat) (a b c i : Int) (w : World) (hn : 30 ≤ n) :
    Calls Tryd.prog 32 #[.agg #[.int .u8 n, .int .i64 a, .int .i64 b, .int .i64 c, .int .i64 i]] w fun e w' => e = .returned (.bool false) ∧ Below w.heap.size w w' := by
  go_enter Tryd.func32, Tryd.ntmps32
  go_wp2_with fail
  refine (format_big n _ hn).mono ?_
  rintro e w1 ⟨rfl, rfl⟩
  go_wp2_with fail
  go_ret
  exact ⟨rfl, (Below.refl _ _).alloc (Nat.le_refl _) _⟩

set_option maxHeartbeats 400000 in
theorem refValid_none (n : Nat) (a b c i : Int) (w : World) (hn : n < 30) (hs : rfS n = ⟨#[]⟩) (hlo : rlo n = 1) (hhi : rhi n = 0) :
    Calls Tryd.prog 32 #[.agg #[.int .u8 n, .int .i64 a, .int .i64 b, .int .i64 c, .int .i64 i]] w fun e w' => e = .returned (.bool (vldS false false false false 0 0 a b c i)) ∧ Below w.heap.size w w' := by
  have hva := vldS_reg false false false false 0 0 a b c i
  have H := Lib.hid hva
  clear hva
  go_enter Tryd.func32, Tryd.ntmps32
  go_wp2_with fail
  refine (format_any n _ hn).mono ?_
  rintro e w1 ⟨rfl, rfl⟩
  go_wp2_with (go_at_call 54; refine (reg_any _ _ _).mono ?_; rintro e w' ⟨rfl, rfl⟩)
  all_goals go_ret
  all_goals refine ⟨?_, (Below.refl _ _).alloc (Nat.le_refl _) _⟩
  all_goals rw [H.out]
  all_goals first | (simp [*]; done) | (simp [*]; omega) | (refine congrArg (fun z => Ending.returned (.bool z)) ?_; rw [Bool.eq_iff_iff]; simp_all <;> omega)

set_option maxHeartbeats 400000 in
theorem refValid_abc (n : Nat) (a b c i : Int) (w : World) (hn : n < 30) (hs : rfS n = ⟨#[65, 66, 67]⟩) (hlo : rlo n = 1) (hhi : rhi n = 0) :
    Calls Tryd.prog 32 #[.agg #[.int .u8 n, .int .i64 a, .int .i64 b, .int .i64 c, .int .i64 i]] w fun e w' => e = .returned (.bool (vldS true true true false 0 0 a b c i)) ∧ Below w.heap.size w w' := by
  have hva := vldS_reg true true true false 0 0 a b c i
  have H := Lib.hid hva
  clear hva
  go_enter Tryd.func32, Tryd.ntmps32
  go_wp2_with fail
  refine (format_any n _ hn).mono ?_
  rintro e w1 ⟨rfl, rfl⟩
  go_wp2_with (go_at_call 54; refine (reg_any _ _ _).mono ?_; rintro e w' ⟨rfl, rfl⟩)
  all_goals go_ret
  all_goals refine ⟨?_, (Below.refl _ _).alloc (Nat.le_refl _) _⟩
  all_goals rw [H.out]
  all_goals first | (simp [*]; done) | (simp [*]; omega) | (refine congrArg (fun z => Ending.returned (.bool z)) ?_; rw [Bool.eq_iff_iff]; simp_all <;> omega)

set_option maxHeartbeats 400000 in
theorem refValid_ai (n : Nat) (a b c i : Int) (w : World) (hn : n < 30) (hs : rfS n = ⟨#[65]⟩) (lo hi : Int) (hlo : rlo n = lo) (hhi : rhi n = hi) (hlh : lo ≤ hi) :
    Calls Tryd.prog 32 #[.agg #[.int .u8 n, .int .i64 a, .int .i64 b, .int .i64 c, .int .i64 i]] w fun e w' => e = .returned (.bool (vldS true false false true lo hi a b c i)) ∧ Below w.heap.size w w' := by
  have hva := vldS_reg true false false true lo hi a b c i
  have H := Lib.hid hva
  clear hva
  go_enter Tryd.func32, Tryd.ntmps32
  go_wp2_with fail
  refine (format_any n _ hn).mono ?_
  rintro e w1 ⟨rfl, rfl⟩
  go_wp2_with (go_at_call 54; refine (reg_any _ _ _).mono ?_; rintro e w' ⟨rfl, rfl⟩)
  all_goals go_ret
  all_goals refine ⟨?_, (Below.refl _ _).alloc (Nat.le_refl _) _⟩
  all_goals rw [H.out]
  all_goals first | (simp [*]; done) | (simp [*]; omega) | (refine congrArg (fun z => Ending.returned (.bool z)) ?_; rw [Bool.eq_iff_iff]; simp_all <;> omega)

set_option maxHeartbeats 400000 in
theorem refValid_abi (n : Nat) (a b c i : Int) (w : World) (hn : n < 30) (hs : rfS n = ⟨#[65, 66]⟩) (lo hi : Int) (hlo : rlo n = lo) (hhi : rhi n = hi) (hlh : lo ≤ hi) :
    Calls Tryd.prog 32 #[.agg #[.int .u8 n, .int .i64 a, .int .i64 b, .int .i64 c, .int .i64 i]] w fun e w' => e = .returned (.bool (vldS true true false true lo hi a b c i)) ∧ Below w.heap.size w w' := by
  have hva := vldS_reg true true false true lo hi a b c i
  have H := Lib.hid hva
  clear hva
  go_enter Tryd.func32, Tryd.ntmps32
  go_wp2_with fail
  refine (format_any n _ hn).mono ?_
  rintro e w1 ⟨rfl, rfl⟩
  go_wp2_with (go_at_call 54; refine (reg_any _ _ _).mono ?_; rintro e w' ⟨rfl, rfl⟩)
  all_goals go_ret
  all_goals refine ⟨?_, (Below.refl _ _).alloc (Nat.le_refl _) _⟩
  all_goals rw [H.out]
  all_goals first | (simp [*]; done) | (simp [*]; omega) | (refine congrArg (fun z => Ending.returned (.bool z)) ?_; rw [Bool.eq_iff_iff]; simp_all <;> omega)

set_option maxHeartbeats 400000 in
theorem refValid_i (n : Nat) (a b c i : Int) (w : World) (hn : n < 30) (hs : rfS n = ⟨#[]⟩) (lo hi : Int) (hlo : rlo n = lo) (hhi : rhi n = hi) (hlh : lo ≤ hi) :
    Calls Tryd.prog 32 #[.agg #[.int .u8 n, .int .i64 a, .int .i64 b, .int .i64 c, .int .i64 i]] w fun e w' => e = .returned (.bool (vldS false false false true lo hi a b c i)) ∧ Below w.heap.size w w' := by
  have hva := vldS_reg false false false true lo hi a b c i
  have H := Lib.hid hva
  clear hva
  go_enter Tryd.func32, Tryd.ntmps32
  go_wp2_with fail
  refine (format_any n _ hn).mono ?_
  rintro e w1 ⟨rfl, rfl⟩
  go_wp2_with (go_at_call 54; refine (reg_any _ _ _).mono ?_; rintro e w' ⟨rfl, rfl⟩)
  all_goals go_ret
  all_goals refine ⟨?_, (Below.refl _ _).alloc (Nat.le_refl _) _⟩
  all_goals rw [H.out]
  all_goals first | (simp [*]; done) | (simp [*]; omega) | (refine congrArg (fun z => Ending.returned (.bool z)) ?_; rw [Bool.eq_iff_iff]; simp_all <;> omega)

theorem lohi : ∀ (n : Nat), n < 30 → flo n ≤ fhi n := by
  intro n hn
  have h : ∀ k : Fin 30, flo k ≤ fhi k := by decide
  exact h ⟨n, hn⟩

theorem refValid_any (n : Nat) (a b c i : Int) (w : World) :
    Calls Tryd.prog 32 #[.agg #[.int .u8 n, .int .i64 a, .int .i64 b, .int .i64 c, .int .i64 i]] w fun e w' => e = .returned (.bool (vld n a b c i)) ∧ Below w.heap.size w w' := by
  by_cases hn : n < 30
  · have hl := lohi n hn
    rcases shape n hn with ⟨h, h1, h2, h3, h4⟩ | ⟨h, h1, h2, h3, h4⟩ | ⟨h, h1, h2, h3, h4⟩ | ⟨h, h1, h2, h3, h4⟩ | ⟨h, h1, h2, h3, h4⟩
    all_goals simp only [vld, hn, decide_true, Bool.true_and, h1, h2, h3, h4]
    · exact refValid_none n a b c i w hn (by simp [rfS, h1, h2, h3]) (by simp [rlo, h4]) (by simp [rhi, h4])
    · exact refValid_abc n a b c i w hn (by simp [rfS, h1, h2, h3]) (by simp [rlo, h4]) (by simp [rhi, h4])
    · exact refValid_ai n a b c i w hn (by simp [rfS, h1, h2, h3]) _ _ (by simp [rlo, h4]) (by simp [rhi, h4]) hl
    · exact refValid_abi n a b c i w hn (by simp [rfS, h1, h2, h3]) _ _ (by simp [rlo, h4]) (by simp [rhi, h4]) hl
    · exact refValid_i n a b c i w hn (by simp [rfS, h1, h2, h3]) _ _ (by simp [rlo, h4]) (by simp [rhi, h4]) hl
  · simp only [vld, hn, decide_false, Bool.false_and]
    exact refValid_big n a b c i w (by omega)

theorem ret_u32 {x y : Int} (h : x = y) : Ending.returned (.int .u32 x) = .returned (.int .u32 y) := by rw [h]

end Go.Proofs.YtlajdcikhbocdaaDoor

