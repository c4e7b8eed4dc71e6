/- Contracts of isa.Decode. -/
import Derived.Test.YtpachmkklppmjaaDoorIsaB
import Derived.Test.YtpachmkklppmjaaDoorRes
set_option linter.unusedVariables false
set_option linter.unusedSimpArgs false
namespace Go.Proofs.YtpachmkklppmjaaDoor
open Go.RowKit

/-- The operands of a word. -/
def wA (x : Int) : Int := x / 4194304 % 16
def wB (x : Int) : Int := x / 262144 % 16
def wC (x : Int) : Int := x / 16384 % 16
def wI (x : Int) : Int := if 131072 ≤ x % 262144 then x % 262144 - 262144 else x % 262144
theorem wA_eq (x : Int) (h0 : 0 ≤ x) (h1 : x < 4294967296) : wrap64 (bits .and .u32 (x / 4194304) 15) = wA x := by
  have e : bits .and .u32 (x / 4194304) 15 = x / 4194304 % 16 := u32_and_mask (x / 4194304) 4 (by omega) (by omega) (by omega)
  rw [e, IntWalk.wrap64_in _ ⟨by omega, by omega⟩]; rfl
theorem wB_eq (x : Int) (h0 : 0 ≤ x) (h1 : x < 4294967296) : wrap64 (bits .and .u32 (x / 262144) 15) = wB x := by
  have e : bits .and .u32 (x / 262144) 15 = x / 262144 % 16 := u32_and_mask (x / 262144) 4 (by omega) (by omega) (by omega)
  rw [e, IntWalk.wrap64_in _ ⟨by omega, by omega⟩]; rfl
theorem wC_eq (x : Int) (h0 : 0 ≤ x) (h1 : x < 4294967296) : wrap64 (bits .and .u32 (x / 16384) 15) = wC x := by
  have e : bits .and .u32 (x / 16384) 15 = x / 16384 % 16 := u32_and_mask (x / 16384) 4 (by omega) (by omega) (by omega)
  rw [e, IntWalk.wrap64_in _ ⟨by omega, by omega⟩]; rfl
theorem wV_eq (x : Int) (h0 : 0 ≤ x) (h1 : x < 4294967296) : wrap64 (bits .and .u32 x 262143) = x % 262144 := by
  have e : bits .and .u32 x 262143 = x % 262144 := u32_and_mask x 18 (by omega) (by omega) (by omega)
  rw [e, IntWalk.wrap64_in _ ⟨by omega, by omega⟩]
theorem wA_bd (x : Int) : 0 ≤ wA x ∧ wA x ≤ 15 := by unfold wA; omega
theorem wB_bd (x : Int) : 0 ≤ wB x ∧ wB x ≤ 15 := by unfold wB; omega
theorem wC_bd (x : Int) : 0 ≤ wC x ∧ wC x ≤ 15 := by unfold wC; omega

def instrV (n : Nat) (a b c i : Int) : Value := .agg #[.int .u8 n, .int .i64 a, .int .i64 b, .int .i64 c, .int .i64 i]

/-- What isa.Decode returns, of the instruction that it has put together. -/
def decR (x : Int) (n : Nat) (a b c i : Int) : Value := if vld n a b c i = true ∧ encW n a b c i = x then .tuple #[.agg #[.int .u8 n, .int .i64 a, .int .i64 b, .int .i64 c, .int .i64 i], .int .i64 0] else .tuple #[.agg #[.int .u8 0, .int .i64 0, .int .i64 0, .int .i64 0, .int .i64 0], .int .i64 3]
theorem decR_bad {x : Int} {n : Nat} {a b c i : Int} (h : (encE n a b c i != 0) = true) : decR x n a b c i = .tuple #[.agg #[.int .u8 0, .int .i64 0, .int .i64 0, .int .i64 0, .int .i64 0], .int .i64 3] := by
  unfold decR; rw [if_neg]; intro ⟨h1, _⟩; simp [encE, h1] at h
theorem decR_other {x : Int} {n : Nat} {a b c i : Int} (h : (encV n a b c i != x) = true) : decR x n a b c i = .tuple #[.agg #[.int .u8 0, .int .i64 0, .int .i64 0, .int .i64 0, .int .i64 0], .int .i64 3] := by
  unfold decR; rw [if_neg]; intro ⟨h1, h2⟩; simp [encV, h1, h2] at h
theorem decR_ok {x : Int} {n : Nat} {a b c i : Int} (h : ¬ (encE n a b c i != 0) = true) (h' : ¬ (encV n a b c i != x) = true) : decR x n a b c i = .tuple #[.agg #[.int .u8 n, .int .i64 a, .int .i64 b, .int .i64 c, .int .i64 i], .int .i64 0] := by
  have hv : vld n a b c i = true := by cases hv : vld n a b c i <;> simp_all [encE]
  unfold decR; rw [if_pos]; exact ⟨hv, by simpa [encV, hv] using h'⟩

set_option maxHeartbeats 400000 in
theorem decode_big (x : Int) (w : World) (hx0 : 0 ≤ x) (hx1 : x < 4294967296) (hop : 30 ≤ x / 67108864) :
    Calls Tryd.prog 10 #[.int .u32 x] w fun e w' => e = .returned (.tuple #[.agg #[.int .u8 0, .int .i64 0, .int .i64 0, .int .i64 0, .int .i64 0], .int .i64 3]) ∧ Below w.heap.size w w' := by
  go_enter Tryd.func10, Tryd.ntmps10
  go_wp2_with fail
  refine bodyPost_ret (v := .tuple #[.agg #[.int .u8 0, .int .i64 0, .int .i64 0, .int .i64 0, .int .i64 0], .int .i64 3]) (by simp [results, Tryd.results10, go_sem]) rfl ⟨rfl, ?_⟩
  repeat (first | (with_reducible exact Below.refl _ _) | (with_reducible apply bDrewN) | (with_reducible apply Below.drew) | ((with_reducible apply bSet); (focus first | (simp; done) | (simp; omega) | omega)) | ((with_reducible apply bAlloc); (focus first | (simp; done) | (simp; omega) | omega)))

set_option maxHeartbeats 800000 in
theorem decode_none (x : Int) (n : Nat) (w : World) (hx0 : 0 ≤ x) (hx1 : x < 4294967296) (hop : x / 67108864 = n) (hn : n < 30) (hT : Tab w) (ho : fo n = ⟨#[]⟩) :
    Calls Tryd.prog 10 #[.int .u32 x] w fun e w' => e = .returned (decR x n 0 0 0 0) ∧ Below w.heap.size w w' := by
  obtain ⟨-, h1, -, -, -, -, hz⟩ := fmtAt hT n hn
  rw [ho] at h1
  clear ho
  go_enter Tryd.func10, Tryd.ntmps10
  go_wp2_with fail
  refine wp_loop_rounds 1 ?_
  rw [rounds_succ]
  go_wp2_with fail
  refine (encode_any n 0 0 0 0 _ (hT.of_below (by repeat (first | (with_reducible exact Below.refl _ _) | (with_reducible apply bDrewN) | (with_reducible apply Below.drew) | ((with_reducible apply bSet); (focus first | (simp; done) | (simp; omega) | omega)) | ((with_reducible apply bAlloc); (focus first | (simp; done) | (simp; omega) | omega)))))).mono ?_
  rintro e w1 ⟨rfl, hb1⟩
  obtain ⟨hc1, hf1⟩ := bcell hb1
  have hz1 : w.heap.size + 2 ≤ w1.heap.size := by have := hb1.size; simp at this; omega
  have r0 : w1.cell? ⟨w.heap.size, 0, none⟩ = some (.int .u8 0) := by rw [hc1 _ _ (by simp; omega)]; simp [go_sem]
  have r1 : w1.cell? ⟨w.heap.size, 1, none⟩ = some (.int .i64 0) := by rw [hc1 _ _ (by simp; omega)]; simp [go_sem]
  have r2 : w1.cell? ⟨w.heap.size, 2, none⟩ = some (.int .i64 0) := by rw [hc1 _ _ (by simp; omega)]; simp [go_sem]
  have r3 : w1.cell? ⟨w.heap.size, 3, none⟩ = some (.int .i64 0) := by rw [hc1 _ _ (by simp; omega)]; simp [go_sem]
  have r4 : w1.cell? ⟨w.heap.size, 4, none⟩ = some (.int .i64 0) := by rw [hc1 _ _ (by simp; omega)]; simp [go_sem]
  have z0 : w1.frozen? ⟨w.heap.size, 0, none⟩ = false := by rw [hf1 _ _ (by simp; omega)]; simp [go_sem]
  have z1 : w1.frozen? ⟨w.heap.size, 1, none⟩ = false := by rw [hf1 _ _ (by simp; omega)]; simp [go_sem]
  have z2 : w1.frozen? ⟨w.heap.size, 2, none⟩ = false := by rw [hf1 _ _ (by simp; omega)]; simp [go_sem]
  have z3 : w1.frozen? ⟨w.heap.size, 3, none⟩ = false := by rw [hf1 _ _ (by simp; omega)]; simp [go_sem]
  have z4 : w1.frozen? ⟨w.heap.size, 4, none⟩ = false := by rw [hf1 _ _ (by simp; omega)]; simp [go_sem]
  have s0 : w1.cell? ⟨w.heap.size + 1, 0, none⟩ = some (.int .u8 n) := by rw [hc1 _ _ (by simp)]; simp [go_sem]
  have s1 : w1.cell? ⟨w.heap.size + 1, 1, none⟩ = some (.int .i64 0) := by rw [hc1 _ _ (by simp)]; simp [go_sem]
  have s2 : w1.cell? ⟨w.heap.size + 1, 2, none⟩ = some (.int .i64 0) := by rw [hc1 _ _ (by simp)]; simp [go_sem]
  have s3 : w1.cell? ⟨w.heap.size + 1, 3, none⟩ = some (.int .i64 0) := by rw [hc1 _ _ (by simp)]; simp [go_sem]
  have s4 : w1.cell? ⟨w.heap.size + 1, 4, none⟩ = some (.int .i64 0) := by rw [hc1 _ _ (by simp)]; simp [go_sem]
  have HB := Lib.hid hb1
  clear hc1 hf1 hb1
  by_cases g1 : (encE n 0 0 0 0 != 0) = true
  · have G := Lib.hid (decR_bad (x := x) g1)
    go_wp2_with fail
    refine bodyPost_ret (v := .tuple #[.agg #[.int .u8 0, .int .i64 0, .int .i64 0, .int .i64 0, .int .i64 0], .int .i64 3]) (run_result5 Tryd.results10 (fun _ => by kernel_rfl) (fun _ => by kernel_rfl) _ _ _ _ _ _ rfl rfl (by rw [r0]; simp) (by rw [r1]; simp) (by rw [r2]; simp) (by rw [r3]; simp) (by rw [r4]; simp)) rfl ⟨by rw [G.out], ?_⟩
    repeat (first | (with_reducible exact Below.refl _ _) | (with_reducible apply bDrewN) | (with_reducible apply Below.drew) | ((with_reducible apply bThen HB.out); (focus first | (simp; done) | (simp; omega) | omega)) | ((with_reducible apply bSet); (focus first | (simp; done) | (simp; omega) | omega)) | ((with_reducible apply bAlloc); (focus first | (simp; done) | (simp; omega) | omega)))
  by_cases g2 : (encV n 0 0 0 0 != x) = true
  · have G := Lib.hid (decR_other (x := x) g2)
    have k1 : (encE n 0 0 0 0 != 0) = false := by simpa using g1
    clear g1
    go_wp2_with fail
    refine bodyPost_ret (v := .tuple #[.agg #[.int .u8 0, .int .i64 0, .int .i64 0, .int .i64 0, .int .i64 0], .int .i64 3]) (run_result5 Tryd.results10 (fun _ => by kernel_rfl) (fun _ => by kernel_rfl) _ _ _ _ _ _ rfl rfl (by rw [r0]; simp) (by rw [r1]; simp) (by rw [r2]; simp) (by rw [r3]; simp) (by rw [r4]; simp)) rfl ⟨by rw [G.out], ?_⟩
    repeat (first | (with_reducible exact Below.refl _ _) | (with_reducible apply bDrewN) | (with_reducible apply Below.drew) | ((with_reducible apply bThen HB.out); (focus first | (simp; done) | (simp; omega) | omega)) | ((with_reducible apply bSet); (focus first | (simp; done) | (simp; omega) | omega)) | ((with_reducible apply bAlloc); (focus first | (simp; done) | (simp; omega) | omega)))
  · have G := Lib.hid (decR_ok (x := x) g1 g2)
    have k1 : (encE n 0 0 0 0 != 0) = false := by simpa using g1
    clear g1
    have k2 : (encV n 0 0 0 0 != x) = false := by simpa using g2
    clear g2
    go_wp2_with fail
    refine bodyPost_ret (v := .tuple #[.agg #[.int .u8 n, .int .i64 0, .int .i64 0, .int .i64 0, .int .i64 0], .int .i64 0]) (run_result5 Tryd.results10 (fun _ => by kernel_rfl) (fun _ => by kernel_rfl) _ _ _ _ _ _ rfl rfl (by rw [r0]; simp) (by rw [r1]; simp) (by rw [r2]; simp) (by rw [r3]; simp) (by rw [r4]; simp)) rfl ⟨by rw [G.out], ?_⟩
    repeat (first | (with_reducible exact Below.refl _ _) | (with_reducible apply bDrewN) | (with_reducible apply Below.drew) | ((with_reducible apply bThen HB.out); (focus first | (simp; done) | (simp; omega) | omega)) | ((with_reducible apply bSet); (focus first | (simp; done) | (simp; omega) | omega)) | ((with_reducible apply bAlloc); (focus first | (simp; done) | (simp; omega) | omega)))

set_option maxHeartbeats 800000 in
theorem decode_abc (x : Int) (n : Nat) (A B C : Int) (hA : wrap64 (bits .and .u32 (x / 4194304) 15) = A) (hB : wrap64 (bits .and .u32 (x / 262144) 15) = B) (hC : wrap64 (bits .and .u32 (x / 16384) 15) = C) (w : World) (hx0 : 0 ≤ x) (hx1 : x < 4294967296) (hop : x / 67108864 = n) (hn : n < 30) (hT : Tab w) (ho : fo n = ⟨#[65, 66, 67]⟩) :
    Calls Tryd.prog 10 #[.int .u32 x] w fun e w' => e = .returned (decR x n A B C 0) ∧ Below w.heap.size w w' := by
  obtain ⟨-, h1, -, -, -, -, hz⟩ := fmtAt hT n hn
  rw [ho] at h1
  clear ho
  have e0 : (((⟨#[65, 66, 67]⟩ : ByteArray)[0]'(by decide)).toNat : Int) = 65 := rfl
  have e1 : (((⟨#[65, 66, 67]⟩ : ByteArray)[1]'(by decide)).toNat : Int) = 66 := rfl
  have e2 : (((⟨#[65, 66, 67]⟩ : ByteArray)[2]'(by decide)).toNat : Int) = 67 := rfl
  have f65 : fieldOff 65 = 1 := rfl
  have p65 : posLow 65 = 22 := rfl
  have q65 : posSize 65 = 4 := rfl
  have f66 : fieldOff 66 = 2 := rfl
  have p66 : posLow 66 = 18 := rfl
  have q66 : posSize 66 = 4 := rfl
  have f67 : fieldOff 67 = 3 := rfl
  have p67 : posLow 67 = 14 := rfl
  have q67 : posSize 67 = 4 := rfl
  go_enter Tryd.func10, Tryd.ntmps10
  go_wp2_with fail
  refine wp_loop_rounds 4 ?_
  rw [rounds_succ]
  go_wp2_with ((go_at_call 16; refine (position_any _ _).mono ?_; rintro e w' ⟨rfl, rfl⟩))
  go_quiet (fail)
  go_wp2_with ((go_at_call 17; refine (field_any _ _ _).mono ?_; rintro e w' ⟨rfl, rfl⟩))
  rw [rounds_succ]
  go_wp2_with ((go_at_call 16; refine (position_any _ _).mono ?_; rintro e w' ⟨rfl, rfl⟩))
  go_quiet (fail)
  go_wp2_with ((go_at_call 17; refine (field_any _ _ _).mono ?_; rintro e w' ⟨rfl, rfl⟩))
  rw [rounds_succ]
  go_wp2_with ((go_at_call 16; refine (position_any _ _).mono ?_; rintro e w' ⟨rfl, rfl⟩))
  go_quiet (fail)
  go_wp2_with ((go_at_call 17; refine (field_any _ _ _).mono ?_; rintro e w' ⟨rfl, rfl⟩))
  rw [rounds_succ]
  go_wp2_with fail
  refine (encode_any n A B C 0 _ (hT.of_below (by repeat (first | (with_reducible exact Below.refl _ _) | (with_reducible apply bDrewN) | (with_reducible apply Below.drew) | ((with_reducible apply bSet); (focus first | (simp; done) | (simp; omega) | omega)) | ((with_reducible apply bAlloc); (focus first | (simp; done) | (simp; omega) | omega)))))).mono ?_
  rintro e w1 ⟨rfl, hb1⟩
  obtain ⟨hc1, hf1⟩ := bcell hb1
  have hz1 : w.heap.size + 2 ≤ w1.heap.size := by have := hb1.size; simp at this; omega
  have r0 : w1.cell? ⟨w.heap.size, 0, none⟩ = some (.int .u8 0) := by rw [hc1 _ _ (by simp; omega)]; simp [go_sem]
  have r1 : w1.cell? ⟨w.heap.size, 1, none⟩ = some (.int .i64 0) := by rw [hc1 _ _ (by simp; omega)]; simp [go_sem]
  have r2 : w1.cell? ⟨w.heap.size, 2, none⟩ = some (.int .i64 0) := by rw [hc1 _ _ (by simp; omega)]; simp [go_sem]
  have r3 : w1.cell? ⟨w.heap.size, 3, none⟩ = some (.int .i64 0) := by rw [hc1 _ _ (by simp; omega)]; simp [go_sem]
  have r4 : w1.cell? ⟨w.heap.size, 4, none⟩ = some (.int .i64 0) := by rw [hc1 _ _ (by simp; omega)]; simp [go_sem]
  have z0 : w1.frozen? ⟨w.heap.size, 0, none⟩ = false := by rw [hf1 _ _ (by simp; omega)]; simp [go_sem]
  have z1 : w1.frozen? ⟨w.heap.size, 1, none⟩ = false := by rw [hf1 _ _ (by simp; omega)]; simp [go_sem]
  have z2 : w1.frozen? ⟨w.heap.size, 2, none⟩ = false := by rw [hf1 _ _ (by simp; omega)]; simp [go_sem]
  have z3 : w1.frozen? ⟨w.heap.size, 3, none⟩ = false := by rw [hf1 _ _ (by simp; omega)]; simp [go_sem]
  have z4 : w1.frozen? ⟨w.heap.size, 4, none⟩ = false := by rw [hf1 _ _ (by simp; omega)]; simp [go_sem]
  have s0 : w1.cell? ⟨w.heap.size + 1, 0, none⟩ = some (.int .u8 n) := by rw [hc1 _ _ (by simp)]; simp [go_sem]
  have s1 : w1.cell? ⟨w.heap.size + 1, 1, none⟩ = some (.int .i64 A) := by rw [hc1 _ _ (by simp)]; simp [go_sem]
  have s2 : w1.cell? ⟨w.heap.size + 1, 2, none⟩ = some (.int .i64 B) := by rw [hc1 _ _ (by simp)]; simp [go_sem]
  have s3 : w1.cell? ⟨w.heap.size + 1, 3, none⟩ = some (.int .i64 C) := by rw [hc1 _ _ (by simp)]; simp [go_sem]
  have s4 : w1.cell? ⟨w.heap.size + 1, 4, none⟩ = some (.int .i64 0) := by rw [hc1 _ _ (by simp)]; simp [go_sem]
  have HB := Lib.hid hb1
  clear hc1 hf1 hb1
  by_cases g1 : (encE n A B C 0 != 0) = true
  · have G := Lib.hid (decR_bad (x := x) g1)
    go_wp2_with fail
    refine bodyPost_ret (v := .tuple #[.agg #[.int .u8 0, .int .i64 0, .int .i64 0, .int .i64 0, .int .i64 0], .int .i64 3]) (run_result5 Tryd.results10 (fun _ => by kernel_rfl) (fun _ => by kernel_rfl) _ _ _ _ _ _ rfl rfl (by rw [r0]; simp) (by rw [r1]; simp) (by rw [r2]; simp) (by rw [r3]; simp) (by rw [r4]; simp)) rfl ⟨by rw [G.out], ?_⟩
    repeat (first | (with_reducible exact Below.refl _ _) | (with_reducible apply bDrewN) | (with_reducible apply Below.drew) | ((with_reducible apply bThen HB.out); (focus first | (simp; done) | (simp; omega) | omega)) | ((with_reducible apply bSet); (focus first | (simp; done) | (simp; omega) | omega)) | ((with_reducible apply bAlloc); (focus first | (simp; done) | (simp; omega) | omega)))
  by_cases g2 : (encV n A B C 0 != x) = true
  · have G := Lib.hid (decR_other (x := x) g2)
    have k1 : (encE n A B C 0 != 0) = false := by simpa using g1
    clear g1
    go_wp2_with fail
    refine bodyPost_ret (v := .tuple #[.agg #[.int .u8 0, .int .i64 0, .int .i64 0, .int .i64 0, .int .i64 0], .int .i64 3]) (run_result5 Tryd.results10 (fun _ => by kernel_rfl) (fun _ => by kernel_rfl) _ _ _ _ _ _ rfl rfl (by rw [r0]; simp) (by rw [r1]; simp) (by rw [r2]; simp) (by rw [r3]; simp) (by rw [r4]; simp)) rfl ⟨by rw [G.out], ?_⟩
    repeat (first | (with_reducible exact Below.refl _ _) | (with_reducible apply bDrewN) | (with_reducible apply Below.drew) | ((with_reducible apply bThen HB.out); (focus first | (simp; done) | (simp; omega) | omega)) | ((with_reducible apply bSet); (focus first | (simp; done) | (simp; omega) | omega)) | ((with_reducible apply bAlloc); (focus first | (simp; done) | (simp; omega) | omega)))
  · have G := Lib.hid (decR_ok (x := x) g1 g2)
    have k1 : (encE n A B C 0 != 0) = false := by simpa using g1
    clear g1
    have k2 : (encV n A B C 0 != x) = false := by simpa using g2
    clear g2
    go_wp2_with fail
    refine bodyPost_ret (v := .tuple #[.agg #[.int .u8 n, .int .i64 A, .int .i64 B, .int .i64 C, .int .i64 0], .int .i64 0]) (run_result5 Tryd.results10 (fun _ => by kernel_rfl) (fun _ => by kernel_rfl) _ _ _ _ _ _ rfl rfl (by rw [r0]; simp) (by rw [r1]; simp) (by rw [r2]; simp) (by rw [r3]; simp) (by rw [r4]; simp)) rfl ⟨by rw [G.out], ?_⟩
    repeat (first | (with_reducible exact Below.refl _ _) | (with_reducible apply bDrewN) | (with_reducible apply Below.drew) | ((with_reducible apply bThen HB.out); (focus first | (simp; done) | (simp; omega) | omega)) | ((with_reducible apply bSet); (focus first | (simp; done) | (simp; omega) | omega)) | ((with_reducible apply bAlloc); (focus first | (simp; done) | (simp; omega) | omega)))

set_option maxHeartbeats 800000 in
theorem decode_ai0 (x : Int) (n : Nat) (A V : Int) (hA : wrap64 (bits .and .u32 (x / 4194304) 15) = A) (hV : wrap64 (bits .and .u32 x 262143) = V) (hV0 : 0 ≤ V) (hV1 : V < 131072) (w : World) (hx0 : 0 ≤ x) (hx1 : x < 4294967296) (hop : x / 67108864 = n) (hn : n < 30) (hT : Tab w) (ho : fo n = ⟨#[65, 73]⟩) :
    Calls Tryd.prog 10 #[.int .u32 x] w fun e w' => e = .returned (decR x n A 0 0 V) ∧ Below w.heap.size w w' := by
  obtain ⟨-, h1, -, -, -, -, hz⟩ := fmtAt hT n hn
  rw [ho] at h1
  clear ho
  have e0 : (((⟨#[65, 73]⟩ : ByteArray)[0]'(by decide)).toNat : Int) = 65 := rfl
  have e1 : (((⟨#[65, 73]⟩ : ByteArray)[1]'(by decide)).toNat : Int) = 73 := rfl
  have f65 : fieldOff 65 = 1 := rfl
  have p65 : posLow 65 = 22 := rfl
  have q65 : posSize 65 = 4 := rfl
  have f73 : fieldOff 73 = 4 := rfl
  have p73 : posLow 73 = 0 := rfl
  have q73 : posSize 73 = 18 := rfl
  go_enter Tryd.func10, Tryd.ntmps10
  go_wp2_with fail
  refine wp_loop_rounds 3 ?_
  rw [rounds_succ]
  go_wp2_with ((go_at_call 16; refine (position_any _ _).mono ?_; rintro e w' ⟨rfl, rfl⟩))
  go_quiet (fail)
  go_wp2_with ((go_at_call 17; refine (field_any _ _ _).mono ?_; rintro e w' ⟨rfl, rfl⟩))
  rw [rounds_succ]
  go_wp2_with ((go_at_call 16; refine (position_any _ _).mono ?_; rintro e w' ⟨rfl, rfl⟩))
  go_quiet (fail)
  go_wp2_with ((go_at_call 17; refine (field_any _ _ _).mono ?_; rintro e w' ⟨rfl, rfl⟩))
  rw [rounds_succ]
  go_wp2_with fail
  refine (encode_any n A 0 0 V _ (hT.of_below (by repeat (first | (with_reducible exact Below.refl _ _) | (with_reducible apply bDrewN) | (with_reducible apply Below.drew) | ((with_reducible apply bSet); (focus first | (simp; done) | (simp; omega) | omega)) | ((with_reducible apply bAlloc); (focus first | (simp; done) | (simp; omega) | omega)))))).mono ?_
  rintro e w1 ⟨rfl, hb1⟩
  obtain ⟨hc1, hf1⟩ := bcell hb1
  have hz1 : w.heap.size + 2 ≤ w1.heap.size := by have := hb1.size; simp at this; omega
  have r0 : w1.cell? ⟨w.heap.size, 0, none⟩ = some (.int .u8 0) := by rw [hc1 _ _ (by simp; omega)]; simp [go_sem]
  have r1 : w1.cell? ⟨w.heap.size, 1, none⟩ = some (.int .i64 0) := by rw [hc1 _ _ (by simp; omega)]; simp [go_sem]
  have r2 : w1.cell? ⟨w.heap.size, 2, none⟩ = some (.int .i64 0) := by rw [hc1 _ _ (by simp; omega)]; simp [go_sem]
  have r3 : w1.cell? ⟨w.heap.size, 3, none⟩ = some (.int .i64 0) := by rw [hc1 _ _ (by simp; omega)]; simp [go_sem]
  have r4 : w1.cell? ⟨w.heap.size, 4, none⟩ = some (.int .i64 0) := by rw [hc1 _ _ (by simp; omega)]; simp [go_sem]
  have z0 : w1.frozen? ⟨w.heap.size, 0, none⟩ = false := by rw [hf1 _ _ (by simp; omega)]; simp [go_sem]
  have z1 : w1.frozen? ⟨w.heap.size, 1, none⟩ = false := by rw [hf1 _ _ (by simp; omega)]; simp [go_sem]
  have z2 : w1.frozen? ⟨w.heap.size, 2, none⟩ = false := by rw [hf1 _ _ (by simp; omega)]; simp [go_sem]
  have z3 : w1.frozen? ⟨w.heap.size, 3, none⟩ = false := by rw [hf1 _ _ (by simp; omega)]; simp [go_sem]
  have z4 : w1.frozen? ⟨w.heap.size, 4, none⟩ = false := by rw [hf1 _ _ (by simp; omega)]; simp [go_sem]
  have s0 : w1.cell? ⟨w.heap.size + 1, 0, none⟩ = some (.int .u8 n) := by rw [hc1 _ _ (by simp)]; simp [go_sem]
  have s1 : w1.cell? ⟨w.heap.size + 1, 1, none⟩ = some (.int .i64 A) := by rw [hc1 _ _ (by simp)]; simp [go_sem]
  have s2 : w1.cell? ⟨w.heap.size + 1, 2, none⟩ = some (.int .i64 0) := by rw [hc1 _ _ (by simp)]; simp [go_sem]
  have s3 : w1.cell? ⟨w.heap.size + 1, 3, none⟩ = some (.int .i64 0) := by rw [hc1 _ _ (by simp)]; simp [go_sem]
  have s4 : w1.cell? ⟨w.heap.size + 1, 4, none⟩ = some (.int .i64 V) := by rw [hc1 _ _ (by simp)]; simp [go_sem]
  have HB := Lib.hid hb1
  clear hc1 hf1 hb1
  by_cases g1 : (encE n A 0 0 V != 0) = true
  · have G := Lib.hid (decR_bad (x := x) g1)
    go_wp2_with fail
    refine bodyPost_ret (v := .tuple #[.agg #[.int .u8 0, .int .i64 0, .int .i64 0, .int .i64 0, .int .i64 0], .int .i64 3]) (run_result5 Tryd.results10 (fun _ => by kernel_rfl) (fun _ => by kernel_rfl) _ _ _ _ _ _ rfl rfl (by rw [r0]; simp) (by rw [r1]; simp) (by rw [r2]; simp) (by rw [r3]; simp) (by rw [r4]; simp)) rfl ⟨by rw [G.out], ?_⟩
    repeat (first | (with_reducible exact Below.refl _ _) | (with_reducible apply bDrewN) | (with_reducible apply Below.drew) | ((with_reducible apply bThen HB.out); (focus first | (simp; done) | (simp; omega) | omega)) | ((with_reducible apply bSet); (focus first | (simp; done) | (simp; omega) | omega)) | ((with_reducible apply bAlloc); (focus first | (simp; done) | (simp; omega) | omega)))
  by_cases g2 : (encV n A 0 0 V != x) = true
  · have G := Lib.hid (decR_other (x := x) g2)
    have k1 : (encE n A 0 0 V != 0) = false := by simpa using g1
    clear g1
    go_wp2_with fail
    refine bodyPost_ret (v := .tuple #[.agg #[.int .u8 0, .int .i64 0, .int .i64 0, .int .i64 0, .int .i64 0], .int .i64 3]) (run_result5 Tryd.results10 (fun _ => by kernel_rfl) (fun _ => by kernel_rfl) _ _ _ _ _ _ rfl rfl (by rw [r0]; simp) (by rw [r1]; simp) (by rw [r2]; simp) (by rw [r3]; simp) (by rw [r4]; simp)) rfl ⟨by rw [G.out], ?_⟩
    repeat (first | (with_reducible exact Below.refl _ _) | (with_reducible apply bDrewN) | (with_reducible apply Below.drew) | ((with_reducible apply bThen HB.out); (focus first | (simp; done) | (simp; omega) | omega)) | ((with_reducible apply bSet); (focus first | (simp; done) | (simp; omega) | omega)) | ((with_reducible apply bAlloc); (focus first | (simp; done) | (simp; omega) | omega)))
  · have G := Lib.hid (decR_ok (x := x) g1 g2)
    have k1 : (encE n A 0 0 V != 0) = false := by simpa using g1
    clear g1
    have k2 : (encV n A 0 0 V != x) = false := by simpa using g2
    clear g2
    go_wp2_with fail
    refine bodyPost_ret (v := .tuple #[.agg #[.int .u8 n, .int .i64 A, .int .i64 0, .int .i64 0, .int .i64 V], .int .i64 0]) (run_result5 Tryd.results10 (fun _ => by kernel_rfl) (fun _ => by kernel_rfl) _ _ _ _ _ _ rfl rfl (by rw [r0]; simp) (by rw [r1]; simp) (by rw [r2]; simp) (by rw [r3]; simp) (by rw [r4]; simp)) rfl ⟨by rw [G.out], ?_⟩
    repeat (first | (with_reducible exact Below.refl _ _) | (with_reducible apply bDrewN) | (with_reducible apply Below.drew) | ((with_reducible apply bThen HB.out); (focus first | (simp; done) | (simp; omega) | omega)) | ((with_reducible apply bSet); (focus first | (simp; done) | (simp; omega) | omega)) | ((with_reducible apply bAlloc); (focus first | (simp; done) | (simp; omega) | omega)))

set_option maxHeartbeats 800000 in
theorem decode_ai1 (x : Int) (n : Nat) (A V : Int) (hA : wrap64 (bits .and .u32 (x / 4194304) 15) = A) (hV : wrap64 (bits .and .u32 x 262143) = V) (hV0 : 0 ≤ V) (hV1 : 131072 ≤ V) (hV2 : V < 262144) (w : World) (hx0 : 0 ≤ x) (hx1 : x < 4294967296) (hop : x / 67108864 = n) (hn : n < 30) (hT : Tab w) (ho : fo n = ⟨#[65, 73]⟩) :
    Calls Tryd.prog 10 #[.int .u32 x] w fun e w' => e = .returned (decR x n A 0 0 (V - 262144)) ∧ Below w.heap.size w w' := by
  obtain ⟨-, h1, -, -, -, -, hz⟩ := fmtAt hT n hn
  rw [ho] at h1
  clear ho
  have e0 : (((⟨#[65, 73]⟩ : ByteArray)[0]'(by decide)).toNat : Int) = 65 := rfl
  have e1 : (((⟨#[65, 73]⟩ : ByteArray)[1]'(by decide)).toNat : Int) = 73 := rfl
  have f65 : fieldOff 65 = 1 := rfl
  have p65 : posLow 65 = 22 := rfl
  have q65 : posSize 65 = 4 := rfl
  have f73 : fieldOff 73 = 4 := rfl
  have p73 : posLow 73 = 0 := rfl
  have q73 : posSize 73 = 18 := rfl
  go_enter Tryd.func10, Tryd.ntmps10
  go_wp2_with fail
  refine wp_loop_rounds 3 ?_
  rw [rounds_succ]
  go_wp2_with ((go_at_call 16; refine (position_any _ _).mono ?_; rintro e w' ⟨rfl, rfl⟩))
  go_quiet (fail)
  go_wp2_with ((go_at_call 17; refine (field_any _ _ _).mono ?_; rintro e w' ⟨rfl, rfl⟩))
  rw [rounds_succ]
  go_wp2_with ((go_at_call 16; refine (position_any _ _).mono ?_; rintro e w' ⟨rfl, rfl⟩))
  go_quiet (fail)
  go_wp2_with ((go_at_call 17; refine (field_any _ _ _).mono ?_; rintro e w' ⟨rfl, rfl⟩))
  rw [rounds_succ]
  go_wp2_with fail
  refine (encode_any n A 0 0 (V - 262144) _ (hT.of_below (by repeat (first | (with_reducible exact Below.refl _ _) | (with_reducible apply bDrewN) | (with_reducible apply Below.drew) | ((with_reducible apply bSet); (focus first | (simp; done) | (simp; omega) | omega)) | ((with_reducible apply bAlloc); (focus first | (simp; done) | (simp; omega) | omega)))))).mono ?_
  rintro e w1 ⟨rfl, hb1⟩
  obtain ⟨hc1, hf1⟩ := bcell hb1
  have hz1 : w.heap.size + 2 ≤ w1.heap.size := by have := hb1.size; simp at this; omega
  have r0 : w1.cell? ⟨w.heap.size, 0, none⟩ = some (.int .u8 0) := by rw [hc1 _ _ (by simp; omega)]; simp [go_sem]
  have r1 : w1.cell? ⟨w.heap.size, 1, none⟩ = some (.int .i64 0) := by rw [hc1 _ _ (by simp; omega)]; simp [go_sem]
  have r2 : w1.cell? ⟨w.heap.size, 2, none⟩ = some (.int .i64 0) := by rw [hc1 _ _ (by simp; omega)]; simp [go_sem]
  have r3 : w1.cell? ⟨w.heap.size, 3, none⟩ = some (.int .i64 0) := by rw [hc1 _ _ (by simp; omega)]; simp [go_sem]
  have r4 : w1.cell? ⟨w.heap.size, 4, none⟩ = some (.int .i64 0) := by rw [hc1 _ _ (by simp; omega)]; simp [go_sem]
  have z0 : w1.frozen? ⟨w.heap.size, 0, none⟩ = false := by rw [hf1 _ _ (by simp; omega)]; simp [go_sem]
  have z1 : w1.frozen? ⟨w.heap.size, 1, none⟩ = false := by rw [hf1 _ _ (by simp; omega)]; simp [go_sem]
  have z2 : w1.frozen? ⟨w.heap.size, 2, none⟩ = false := by rw [hf1 _ _ (by simp; omega)]; simp [go_sem]
  have z3 : w1.frozen? ⟨w.heap.size, 3, none⟩ = false := by rw [hf1 _ _ (by simp; omega)]; simp [go_sem]
  have z4 : w1.frozen? ⟨w.heap.size, 4, none⟩ = false := by rw [hf1 _ _ (by simp; omega)]; simp [go_sem]
  have s0 : w1.cell? ⟨w.heap.size + 1, 0, none⟩ = some (.int .u8 n) := by rw [hc1 _ _ (by simp)]; simp [go_sem]
  have s1 : w1.cell? ⟨w.heap.size + 1, 1, none⟩ = some (.int .i64 A) := by rw [hc1 _ _ (by simp)]; simp [go_sem]
  have s2 : w1.cell? ⟨w.heap.size + 1, 2, none⟩ = some (.int .i64 0) := by rw [hc1 _ _ (by simp)]; simp [go_sem]
  have s3 : w1.cell? ⟨w.heap.size + 1, 3, none⟩ = some (.int .i64 0) := by rw [hc1 _ _ (by simp)]; simp [go_sem]
  have s4 : w1.cell? ⟨w.heap.size + 1, 4, none⟩ = some (.int .i64 (V - 262144)) := by rw [hc1 _ _ (by simp)]; simp [go_sem]
  have HB := Lib.hid hb1
  clear hc1 hf1 hb1
  by_cases g1 : (encE n A 0 0 (V - 262144) != 0) = true
  · have G := Lib.hid (decR_bad (x := x) g1)
    go_wp2_with fail
    refine bodyPost_ret (v := .tuple #[.agg #[.int .u8 0, .int .i64 0, .int .i64 0, .int .i64 0, .int .i64 0], .int .i64 3]) (run_result5 Tryd.results10 (fun _ => by kernel_rfl) (fun _ => by kernel_rfl) _ _ _ _ _ _ rfl rfl (by rw [r0]; simp) (by rw [r1]; simp) (by rw [r2]; simp) (by rw [r3]; simp) (by rw [r4]; simp)) rfl ⟨by rw [G.out], ?_⟩
    repeat (first | (with_reducible exact Below.refl _ _) | (with_reducible apply bDrewN) | (with_reducible apply Below.drew) | ((with_reducible apply bThen HB.out); (focus first | (simp; done) | (simp; omega) | omega)) | ((with_reducible apply bSet); (focus first | (simp; done) | (simp; omega) | omega)) | ((with_reducible apply bAlloc); (focus first | (simp; done) | (simp; omega) | omega)))
  by_cases g2 : (encV n A 0 0 (V - 262144) != x) = true
  · have G := Lib.hid (decR_other (x := x) g2)
    have k1 : (encE n A 0 0 (V - 262144) != 0) = false := by simpa using g1
    clear g1
    go_wp2_with fail
    refine bodyPost_ret (v := .tuple #[.agg #[.int .u8 0, .int .i64 0, .int .i64 0, .int .i64 0, .int .i64 0], .int .i64 3]) (run_result5 Tryd.results10 (fun _ => by kernel_rfl) (fun _ => by kernel_rfl) _ _ _ _ _ _ rfl rfl (by rw [r0]; simp) (by rw [r1]; simp) (by rw [r2]; simp) (by rw [r3]; simp) (by rw [r4]; simp)) rfl ⟨by rw [G.out], ?_⟩
    repeat (first | (with_reducible exact Below.refl _ _) | (with_reducible apply bDrewN) | (with_reducible apply Below.drew) | ((with_reducible apply bThen HB.out); (focus first | (simp; done) | (simp; omega) | omega)) | ((with_reducible apply bSet); (focus first | (simp; done) | (simp; omega) | omega)) | ((with_reducible apply bAlloc); (focus first | (simp; done) | (simp; omega) | omega)))
  · have G := Lib.hid (decR_ok (x := x) g1 g2)
    have k1 : (encE n A 0 0 (V - 262144) != 0) = false := by simpa using g1
    clear g1
    have k2 : (encV n A 0 0 (V - 262144) != x) = false := by simpa using g2
    clear g2
    go_wp2_with fail
    refine bodyPost_ret (v := .tuple #[.agg #[.int .u8 n, .int .i64 A, .int .i64 0, .int .i64 0, .int .i64 (V - 262144)], .int .i64 0]) (run_result5 Tryd.results10 (fun _ => by kernel_rfl) (fun _ => by kernel_rfl) _ _ _ _ _ _ rfl rfl (by rw [r0]; simp) (by rw [r1]; simp) (by rw [r2]; simp) (by rw [r3]; simp) (by rw [r4]; simp)) rfl ⟨by rw [G.out], ?_⟩
    repeat (first | (with_reducible exact Below.refl _ _) | (with_reducible apply bDrewN) | (with_reducible apply Below.drew) | ((with_reducible apply bThen HB.out); (focus first | (simp; done) | (simp; omega) | omega)) | ((with_reducible apply bSet); (focus first | (simp; done) | (simp; omega) | omega)) | ((with_reducible apply bAlloc); (focus first | (simp; done) | (simp; omega) | omega)))

set_option maxHeartbeats 800000 in
theorem decode_abi0 (x : Int) (n : Nat) (A B V : Int) (hA : wrap64 (bits .and .u32 (x / 4194304) 15) = A) (hB : wrap64 (bits .and .u32 (x / 262144) 15) = B) (hV : wrap64 (bits .and .u32 x 262143) = V) (hV0 : 0 ≤ V) (hV1 : V < 131072) (w : World) (hx0 : 0 ≤ x) (hx1 : x < 4294967296) (hop : x / 67108864 = n) (hn : n < 30) (hT : Tab w) (ho : fo n = ⟨#[65, 66, 73]⟩) :
    Calls Tryd.prog 10 #[.int .u32 x] w fun e w' => e = .returned (decR x n A B 0 V) ∧ Below w.heap.size w w' := by
  obtain ⟨-, h1, -, -, -, -, hz⟩ := fmtAt hT n hn
  rw [ho] at h1
  clear ho
  have e0 : (((⟨#[65, 66, 73]⟩ : ByteArray)[0]'(by decide)).toNat : Int) = 65 := rfl
  have e1 : (((⟨#[65, 66, 73]⟩ : ByteArray)[1]'(by decide)).toNat : Int) = 66 := rfl
  have e2 : (((⟨#[65, 66, 73]⟩ : ByteArray)[2]'(by decide)).toNat : Int) = 73 := rfl
  have f65 : fieldOff 65 = 1 := rfl
  have p65 : posLow 65 = 22 := rfl
  have q65 : posSize 65 = 4 := rfl
  have f66 : fieldOff 66 = 2 := rfl
  have p66 : posLow 66 = 18 := rfl
  have q66 : posSize 66 = 4 := rfl
  have f73 : fieldOff 73 = 4 := rfl
  have p73 : posLow 73 = 0 := rfl
  have q73 : posSize 73 = 18 := rfl
  go_enter Tryd.func10, Tryd.ntmps10
  go_wp2_with fail
  refine wp_loop_rounds 4 ?_
  rw [rounds_succ]
  go_wp2_with ((go_at_call 16; refine (position_any _ _).mono ?_; rintro e w' ⟨rfl, rfl⟩))
  go_quiet (fail)
  go_wp2_with ((go_at_call 17; refine (field_any _ _ _).mono ?_; rintro e w' ⟨rfl, rfl⟩))
  rw [rounds_succ]
  go_wp2_with ((go_at_call 16; refine (position_any _ _).mono ?_; rintro e w' ⟨rfl, rfl⟩))
  go_quiet (fail)
  go_wp2_with ((go_at_call 17; refine (field_any _ _ _).mono ?_; rintro e w' ⟨rfl, rfl⟩))
  rw [rounds_succ]
  go_wp2_with ((go_at_call 16; refine (position_any _ _).mono ?_; rintro e w' ⟨rfl, rfl⟩))
  go_quiet (fail)
  go_wp2_with ((go_at_call 17; refine (field_any _ _ _).mono ?_; rintro e w' ⟨rfl, rfl⟩))
  rw [rounds_succ]
  go_wp2_with fail
  refine (encode_any n A B 0 V _ (hT.of_below (by repeat (first | (with_reducible exact Below.refl _ _) | (with_reducible apply bDrewN) | (with_reducible apply Below.drew) | ((with_reducible apply bSet); (focus first | (simp; done) | (simp; omega) | omega)) | ((with_reducible apply bAlloc); (focus first | (simp; done) | (simp; omega) | omega)))))).mono ?_
  rintro e w1 ⟨rfl, hb1⟩
  obtain ⟨hc1, hf1⟩ := bcell hb1
  have hz1 : w.heap.size + 2 ≤ w1.heap.size := by have := hb1.size; simp at this; omega
  have r0 : w1.cell? ⟨w.heap.size, 0, none⟩ = some (.int .u8 0) := by rw [hc1 _ _ (by simp; omega)]; simp [go_sem]
  have r1 : w1.cell? ⟨w.heap.size, 1, none⟩ = some (.int .i64 0) := by rw [hc1 _ _ (by simp; omega)]; simp [go_sem]
  have r2 : w1.cell? ⟨w.heap.size, 2, none⟩ = some (.int .i64 0) := by rw [hc1 _ _ (by simp; omega)]; simp [go_sem]
  have r3 : w1.cell? ⟨w.heap.size, 3, none⟩ = some (.int .i64 0) := by rw [hc1 _ _ (by simp; omega)]; simp [go_sem]
  have r4 : w1.cell? ⟨w.heap.size, 4, none⟩ = some (.int .i64 0) := by rw [hc1 _ _ (by simp; omega)]; simp [go_sem]
  have z0 : w1.frozen? ⟨w.heap.size, 0, none⟩ = false := by rw [hf1 _ _ (by simp; omega)]; simp [go_sem]
  have z1 : w1.frozen? ⟨w.heap.size, 1, none⟩ = false := by rw [hf1 _ _ (by simp; omega)]; simp [go_sem]
  have z2 : w1.frozen? ⟨w.heap.size, 2, none⟩ = false := by rw [hf1 _ _ (by simp; omega)]; simp [go_sem]
  have z3 : w1.frozen? ⟨w.heap.size, 3, none⟩ = false := by rw [hf1 _ _ (by simp; omega)]; simp [go_sem]
  have z4 : w1.frozen? ⟨w.heap.size, 4, none⟩ = false := by rw [hf1 _ _ (by simp; omega)]; simp [go_sem]
  have s0 : w1.cell? ⟨w.heap.size + 1, 0, none⟩ = some (.int .u8 n) := by rw [hc1 _ _ (by simp)]; simp [go_sem]
  have s1 : w1.cell? ⟨w.heap.size + 1, 1, none⟩ = some (.int .i64 A) := by rw [hc1 _ _ (by simp)]; simp [go_sem]
  have s2 : w1.cell? ⟨w.heap.size + 1, 2, none⟩ = some (.int .i64 B) := by rw [hc1 _ _ (by simp)]; simp [go_sem]
  have s3 : w1.cell? ⟨w.heap.size + 1, 3, none⟩ = some (.int .i64 0) := by rw [hc1 _ _ (by simp)]; simp [go_sem]
  have s4 : w1.cell? ⟨w.heap.size + 1, 4, none⟩ = some (.int .i64 V) := by rw [hc1 _ _ (by simp)]; simp [go_sem]
  have HB := Lib.hid hb1
  clear hc1 hf1 hb1
  by_cases g1 : (encE n A B 0 V != 0) = true
  · have G := Lib.hid (decR_bad (x := x) g1)
    go_wp2_with fail
    refine bodyPost_ret (v := .tuple #[.agg #[.int .u8 0, .int .i64 0, .int .i64 0, .int .i64 0, .int .i64 0], .int .i64 3]) (run_result5 Tryd.results10 (fun _ => by kernel_rfl) (fun _ => by kernel_rfl) _ _ _ _ _ _ rfl rfl (by rw [r0]; simp) (by rw [r1]; simp) (by rw [r2]; simp) (by rw [r3]; simp) (by rw [r4]; simp)) rfl ⟨by rw [G.out], ?_⟩
    repeat (first | (with_reducible exact Below.refl _ _) | (with_reducible apply bDrewN) | (with_reducible apply Below.drew) | ((with_reducible apply bThen HB.out); (focus first | (simp; done) | (simp; omega) | omega)) | ((with_reducible apply bSet); (focus first | (simp; done) | (simp; omega) | omega)) | ((with_reducible apply bAlloc); (focus first | (simp; done) | (simp; omega) | omega)))
  by_cases g2 : (encV n A B 0 V != x) = true
  · have G := Lib.hid (decR_other (x := x) g2)
    have k1 : (encE n A B 0 V != 0) = false := by simpa using g1
    clear g1
    go_wp2_with fail
    refine bodyPost_ret (v := .tuple #[.agg #[.int .u8 0, .int .i64 0, .int .i64 0, .int .i64 0, .int .i64 0], .int .i64 3]) (run_result5 Tryd.results10 (fun _ => by kernel_rfl) (fun _ => by kernel_rfl) _ _ _ _ _ _ rfl rfl (by rw [r0]; simp) (by rw [r1]; simp) (by rw [r2]; simp) (by rw [r3]; simp) (by rw [r4]; simp)) rfl ⟨by rw [G.out], ?_⟩
    repeat (first | (with_reducible exact Below.refl _ _) | (with_reducible apply bDrewN) | (with_reducible apply Below.drew) | ((with_reducible apply bThen HB.out); (focus first | (simp; done) | (simp; omega) | omega)) | ((with_reducible apply bSet); (focus first | (simp; done) | (simp; omega) | omega)) | ((with_reducible apply bAlloc); (focus first | (simp; done) | (simp; omega) | omega)))
  · have G := Lib.hid (decR_ok (x := x) g1 g2)
    have k1 : (encE n A B 0 V != 0) = false := by simpa using g1
    clear g1
    have k2 : (encV n A B 0 V != x) = false := by simpa using g2
    clear g2
    go_wp2_with fail
    refine bodyPost_ret (v := .tuple #[.agg #[.int .u8 n, .int .i64 A, .int .i64 B, .int .i64 0, .int .i64 V], .int .i64 0]) (run_result5 Tryd.results10 (fun _ => by kernel_rfl) (fun _ => by kernel_rfl) _ _ _ _ _ _ rfl rfl (by rw [r0]; simp) (by rw [r1]; simp) (by rw [r2]; simp) (by rw [r3]; simp) (by rw [r4]; simp)) rfl ⟨by rw [G.out], ?_⟩
    repeat (first | (with_reducible exact Below.refl _ _) | (with_reducible apply bDrewN) | (with_reducible apply Below.drew) | ((with_reducible apply bThen HB.out); (focus first | (simp; done) | (simp; omega) | omega)) | ((with_reducible apply bSet); (focus first | (simp; done) | (simp; omega) | omega)) | ((with_reducible apply bAlloc); (focus first | (simp; done) | (simp; omega) | omega)))

set_option maxHeartbeats 800000 in
theorem decode_abi1 (x : Int) (n : Nat) (A B V : Int) (hA : wrap64 (bits .and .u32 (x / 4194304) 15) = A) (hB : wrap64 (bits .and .u32 (x / 262144) 15) = B) (hV : wrap64 (bits .and .u32 x 262143) = V) (hV0 : 0 ≤ V) (hV1 : 131072 ≤ V) (hV2 : V < 262144) (w : World) (hx0 : 0 ≤ x) (hx1 : x < 4294967296) (hop : x / 67108864 = n) (hn : n < 30) (hT : Tab w) (ho : fo n = ⟨#[65, 66, 73]⟩) :
    Calls Tryd.prog 10 #[.int .u32 x] w fun e w' => e = .returned (decR x n A B 0 (V - 262144)) ∧ Below w.heap.size w w' := by
  obtain ⟨-, h1, -, -, -, -, hz⟩ := fmtAt hT n hn
  rw [ho] at h1
  clear ho
  have e0 : (((⟨#[65, 66, 73]⟩ : ByteArray)[0]'(by decide)).toNat : Int) = 65 := rfl
  have e1 : (((⟨#[65, 66, 73]⟩ : ByteArray)[1]'(by decide)).toNat : Int) = 66 := rfl
  have e2 : (((⟨#[65, 66, 73]⟩ : ByteArray)[2]'(by decide)).toNat : Int) = 73 := rfl
  have f65 : fieldOff 65 = 1 := rfl
  have p65 : posLow 65 = 22 := rfl
  have q65 : posSize 65 = 4 := rfl
  have f66 : fieldOff 66 = 2 := rfl
  have p66 : posLow 66 = 18 := rfl
  have q66 : posSize 66 = 4 := rfl
  have f73 : fieldOff 73 = 4 := rfl
  have p73 : posLow 73 = 0 := rfl
  have q73 : posSize 73 = 18 := rfl
  go_enter Tryd.func10, Tryd.ntmps10
  go_wp2_with fail
  refine wp_loop_rounds 4 ?_
  rw [rounds_succ]
  go_wp2_with ((go_at_call 16; refine (position_any _ _).mono ?_; rintro e w' ⟨rfl, rfl⟩))
  go_quiet (fail)
  go_wp2_with ((go_at_call 17; refine (field_any _ _ _).mono ?_; rintro e w' ⟨rfl, rfl⟩))
  rw [rounds_succ]
  go_wp2_with ((go_at_call 16; refine (position_any _ _).mono ?_; rintro e w' ⟨rfl, rfl⟩))
  go_quiet (fail)
  go_wp2_with ((go_at_call 17; refine (field_any _ _ _).mono ?_; rintro e w' ⟨rfl, rfl⟩))
  rw [rounds_succ]
  go_wp2_with ((go_at_call 16; refine (position_any _ _).mono ?_; rintro e w' ⟨rfl, rfl⟩))
  go_quiet (fail)
  go_wp2_with ((go_at_call 17; refine (field_any _ _ _).mono ?_; rintro e w' ⟨rfl, rfl⟩))
  rw [rounds_succ]
  go_wp2_with fail
  refine (encode_any n A B 0 (V - 262144) _ (hT.of_below (by repeat (first | (with_reducible exact Below.refl _ _) | (with_reducible apply bDrewN) | (with_reducible apply Below.drew) | ((with_reducible apply bSet); (focus first | (simp; done) | (simp; omega) | omega)) | ((with_reducible apply bAlloc); (focus first | (simp; done) | (simp; omega) | omega)))))).mono ?_
  rintro e w1 ⟨rfl, hb1⟩
  obtain ⟨hc1, hf1⟩ := bcell hb1
  have hz1 : w.heap.size + 2 ≤ w1.heap.size := by have := hb1.size; simp at this; omega
  have r0 : w1.cell? ⟨w.heap.size, 0, none⟩ = some (.int .u8 0) := by rw [hc1 _ _ (by simp; omega)]; simp [go_sem]
  have r1 : w1.cell? ⟨w.heap.size, 1, none⟩ = some (.int .i64 0) := by rw [hc1 _ _ (by simp; omega)]; simp [go_sem]
  have r2 : w1.cell? ⟨w.heap.size, 2, none⟩ = some (.int .i64 0) := by rw [hc1 _ _ (by simp; omega)]; simp [go_sem]
  have r3 : w1.cell? ⟨w.heap.size, 3, none⟩ = some (.int .i64 0) := by rw [hc1 _ _ (by simp; omega)]; simp [go_sem]
  have r4 : w1.cell? ⟨w.heap.size, 4, none⟩ = some (.int .i64 0) := by rw [hc1 _ _ (by simp; omega)]; simp [go_sem]
  have z0 : w1.frozen? ⟨w.heap.size, 0, none⟩ = false := by rw [hf1 _ _ (by simp; omega)]; simp [go_sem]
  have z1 : w1.frozen? ⟨w.heap.size, 1, none⟩ = false := by rw [hf1 _ _ (by simp; omega)]; simp [go_sem]
  have z2 : w1.frozen? ⟨w.heap.size, 2, none⟩ = false := by rw [hf1 _ _ (by simp; omega)]; simp [go_sem]
  have z3 : w1.frozen? ⟨w.heap.size, 3, none⟩ = false := by rw [hf1 _ _ (by simp; omega)]; simp [go_sem]
  have z4 : w1.frozen? ⟨w.heap.size, 4, none⟩ = false := by rw [hf1 _ _ (by simp; omega)]; simp [go_sem]
  have s0 : w1.cell? ⟨w.heap.size + 1, 0, none⟩ = some (.int .u8 n) := by rw [hc1 _ _ (by simp)]; simp [go_sem]
  have s1 : w1.cell? ⟨w.heap.size + 1, 1, none⟩ = some (.int .i64 A) := by rw [hc1 _ _ (by simp)]; simp [go_sem]
  have s2 : w1.cell? ⟨w.heap.size + 1, 2, none⟩ = some (.int .i64 B) := by rw [hc1 _ _ (by simp)]; simp [go_sem]
  have s3 : w1.cell? ⟨w.heap.size + 1, 3, none⟩ = some (.int .i64 0) := by rw [hc1 _ _ (by simp)]; simp [go_sem]
  have s4 : w1.cell? ⟨w.heap.size + 1, 4, none⟩ = some (.int .i64 (V - 262144)) := by rw [hc1 _ _ (by simp)]; simp [go_sem]
  have HB := Lib.hid hb1
  clear hc1 hf1 hb1
  by_cases g1 : (encE n A B 0 (V - 262144) != 0) = true
  · have G := Lib.hid (decR_bad (x := x) g1)
    go_wp2_with fail
    refine bodyPost_ret (v := .tuple #[.agg #[.int .u8 0, .int .i64 0, .int .i64 0, .int .i64 0, .int .i64 0], .int .i64 3]) (run_result5 Tryd.results10 (fun _ => by kernel_rfl) (fun _ => by kernel_rfl) _ _ _ _ _ _ rfl rfl (by rw [r0]; simp) (by rw [r1]; simp) (by rw [r2]; simp) (by rw [r3]; simp) (by rw [r4]; simp)) rfl ⟨by rw [G.out], ?_⟩
    repeat (first | (with_reducible exact Below.refl _ _) | (with_reducible apply bDrewN) | (with_reducible apply Below.drew) | ((with_reducible apply bThen HB.out); (focus first | (simp; done) | (simp; omega) | omega)) | ((with_reducible apply bSet); (focus first | (simp; done) | (simp; omega) | omega)) | ((with_reducible apply bAlloc); (focus first | (simp; done) | (simp; omega) | omega)))
  by_cases g2 : (encV n A B 0 (V - 262144) != x) = true
  · have G := Lib.hid (decR_other (x := x) g2)
    have k1 : (encE n A B 0 (V - 262144) != 0) = false := by simpa using g1
    clear g1
    go_wp2_with fail
    refine bodyPost_ret (v := .tuple #[.agg #[.int .u8 0, .int .i64 0, .int .i64 0, .int .i64 0, .int .i64 0], .int .i64 3]) (run_result5 Tryd.results10 (fun _ => by kernel_rfl) (fun _ => by kernel_rfl) _ _ _ _ _ _ rfl rfl (by rw [r0]; simp) (by rw [r1]; simp) (by rw [r2]; simp) (by rw [r3]; simp) (by rw [r4]; simp)) rfl ⟨by rw [G.out], ?_⟩
    repeat (first | (with_reducible exact Below.refl _ _) | (with_reducible apply bDrewN) | (with_reducible apply Below.drew) | ((with_reducible apply bThen HB.out); (focus first | (simp; done) | (simp; omega) | omega)) | ((with_reducible apply bSet); (focus first | (simp; done) | (simp; omega) | omega)) | ((with_reducible apply bAlloc); (focus first | (simp; done) | (simp; omega) | omega)))
  · have G := Lib.hid (decR_ok (x := x) g1 g2)
    have k1 : (encE n A B 0 (V - 262144) != 0) = false := by simpa using g1
    clear g1
    have k2 : (encV n A B 0 (V - 262144) != x) = false := by simpa using g2
    clear g2
    go_wp2_with fail
    refine bodyPost_ret (v := .tuple #[.agg #[.int .u8 n, .int .i64 A, .int .i64 B, .int .i64 0, .int .i64 (V - 262144)], .int .i64 0]) (run_result5 Tryd.results10 (fun _ => by kernel_rfl) (fun _ => by kernel_rfl) _ _ _ _ _ _ rfl rfl (by rw [r0]; simp) (by rw [r1]; simp) (by rw [r2]; simp) (by rw [r3]; simp) (by rw [r4]; simp)) rfl ⟨by rw [G.out], ?_⟩
    repeat (first | (with_reducible exact Below.refl _ _) | (with_reducible apply bDrewN) | (with_reducible apply Below.drew) | ((with_reducible apply bThen HB.out); (focus first | (simp; done) | (simp; omega) | omega)) | ((with_reducible apply bSet); (focus first | (simp; done) | (simp; omega) | omega)) | ((with_reducible apply bAlloc); (focus first | (simp; done) | (simp; omega) | omega)))

set_option maxHeartbeats 800000 in
theorem decode_i0 (x : Int) (n : Nat) (V : Int) (hV : wrap64 (bits .and .u32 x 262143) = V) (hV0 : 0 ≤ V) (hV1 : V < 131072) (w : World) (hx0 : 0 ≤ x) (hx1 : x < 4294967296) (hop : x / 67108864 = n) (hn : n < 30) (hT : Tab w) (ho : fo n = ⟨#[73]⟩) :
    Calls Tryd.prog 10 #[.int .u32 x] w fun e w' => e = .returned (decR x n 0 0 0 V) ∧ Below w.heap.size w w' := by
  obtain ⟨-, h1, -, -, -, -, hz⟩ := fmtAt hT n hn
  rw [ho] at h1
  clear ho
  have e0 : (((⟨#[73]⟩ : ByteArray)[0]'(by decide)).toNat : Int) = 73 := rfl
  have f73 : fieldOff 73 = 4 := rfl
  have p73 : posLow 73 = 0 := rfl
  have q73 : posSize 73 = 18 := rfl
  go_enter Tryd.func10, Tryd.ntmps10
  go_wp2_with fail
  refine wp_loop_rounds 2 ?_
  rw [rounds_succ]
  go_wp2_with ((go_at_call 16; refine (position_any _ _).mono ?_; rintro e w' ⟨rfl, rfl⟩))
  go_quiet (fail)
  go_wp2_with ((go_at_call 17; refine (field_any _ _ _).mono ?_; rintro e w' ⟨rfl, rfl⟩))
  rw [rounds_succ]
  go_wp2_with fail
  refine (encode_any n 0 0 0 V _ (hT.of_below (by repeat (first | (with_reducible exact Below.refl _ _) | (with_reducible apply bDrewN) | (with_reducible apply Below.drew) | ((with_reducible apply bSet); (focus first | (simp; done) | (simp; omega) | omega)) | ((with_reducible apply bAlloc); (focus first | (simp; done) | (simp; omega) | omega)))))).mono ?_
  rintro e w1 ⟨rfl, hb1⟩
  obtain ⟨hc1, hf1⟩ := bcell hb1
  have hz1 : w.heap.size + 2 ≤ w1.heap.size := by have := hb1.size; simp at this; omega
  have r0 : w1.cell? ⟨w.heap.size, 0, none⟩ = some (.int .u8 0) := by rw [hc1 _ _ (by simp; omega)]; simp [go_sem]
  have r1 : w1.cell? ⟨w.heap.size, 1, none⟩ = some (.int .i64 0) := by rw [hc1 _ _ (by simp; omega)]; simp [go_sem]
  have r2 : w1.cell? ⟨w.heap.size, 2, none⟩ = some (.int .i64 0) := by rw [hc1 _ _ (by simp; omega)]; simp [go_sem]
  have r3 : w1.cell? ⟨w.heap.size, 3, none⟩ = some (.int .i64 0) := by rw [hc1 _ _ (by simp; omega)]; simp [go_sem]
  have r4 : w1.cell? ⟨w.heap.size, 4, none⟩ = some (.int .i64 0) := by rw [hc1 _ _ (by simp; omega)]; simp [go_sem]
  have z0 : w1.frozen? ⟨w.heap.size, 0, none⟩ = false := by rw [hf1 _ _ (by simp; omega)]; simp [go_sem]
  have z1 : w1.frozen? ⟨w.heap.size, 1, none⟩ = false := by rw [hf1 _ _ (by simp; omega)]; simp [go_sem]
  have z2 : w1.frozen? ⟨w.heap.size, 2, none⟩ = false := by rw [hf1 _ _ (by simp; omega)]; simp [go_sem]
  have z3 : w1.frozen? ⟨w.heap.size, 3, none⟩ = false := by rw [hf1 _ _ (by simp; omega)]; simp [go_sem]
  have z4 : w1.frozen? ⟨w.heap.size, 4, none⟩ = false := by rw [hf1 _ _ (by simp; omega)]; simp [go_sem]
  have s0 : w1.cell? ⟨w.heap.size + 1, 0, none⟩ = some (.int .u8 n) := by rw [hc1 _ _ (by simp)]; simp [go_sem]
  have s1 : w1.cell? ⟨w.heap.size + 1, 1, none⟩ = some (.int .i64 0) := by rw [hc1 _ _ (by simp)]; simp [go_sem]
  have s2 : w1.cell? ⟨w.heap.size + 1, 2, none⟩ = some (.int .i64 0) := by rw [hc1 _ _ (by simp)]; simp [go_sem]
  have s3 : w1.cell? ⟨w.heap.size + 1, 3, none⟩ = some (.int .i64 0) := by rw [hc1 _ _ (by simp)]; simp [go_sem]
  have s4 : w1.cell? ⟨w.heap.size + 1, 4, none⟩ = some (.int .i64 V) := by rw [hc1 _ _ (by simp)]; simp [go_sem]
  have HB := Lib.hid hb1
  clear hc1 hf1 hb1
  by_cases g1 : (encE n 0 0 0 V != 0) = true
  · have G := Lib.hid (decR_bad (x := x) g1)
    go_wp2_with fail
    refine bodyPost_ret (v := .tuple #[.agg #[.int .u8 0, .int .i64 0, .int .i64 0, .int .i64 0, .int .i64 0], .int .i64 3]) (run_result5 Tryd.results10 (fun _ => by kernel_rfl) (fun _ => by kernel_rfl) _ _ _ _ _ _ rfl rfl (by rw [r0]; simp) (by rw [r1]; simp) (by rw [r2]; simp) (by rw [r3]; simp) (by rw [r4]; simp)) rfl ⟨by rw [G.out], ?_⟩
    repeat (first | (with_reducible exact Below.refl _ _) | (with_reducible apply bDrewN) | (with_reducible apply Below.drew) | ((with_reducible apply bThen HB.out); (focus first | (simp; done) | (simp; omega) | omega)) | ((with_reducible apply bSet); (focus first | (simp; done) | (simp; omega) | omega)) | ((with_reducible apply bAlloc); (focus first | (simp; done) | (simp; omega) | omega)))
  by_cases g2 : (encV n 0 0 0 V != x) = true
  · have G := Lib.hid (decR_other (x := x) g2)
    have k1 : (encE n 0 0 0 V != 0) = false := by simpa using g1
    clear g1
    go_wp2_with fail
    refine bodyPost_ret (v := .tuple #[.agg #[.int .u8 0, .int .i64 0, .int .i64 0, .int .i64 0, .int .i64 0], .int .i64 3]) (run_result5 Tryd.results10 (fun _ => by kernel_rfl) (fun _ => by kernel_rfl) _ _ _ _ _ _ rfl rfl (by rw [r0]; simp) (by rw [r1]; simp) (by rw [r2]; simp) (by rw [r3]; simp) (by rw [r4]; simp)) rfl ⟨by rw [G.out], ?_⟩
    repeat (first | (with_reducible exact Below.refl _ _) | (with_reducible apply bDrewN) | (with_reducible apply Below.drew) | ((with_reducible apply bThen HB.out); (focus first | (simp; done) | (simp; omega) | omega)) | ((with_reducible apply bSet); (focus first | (simp; done) | (simp; omega) | omega)) | ((with_reducible apply bAlloc); (focus first | (simp; done) | (simp; omega) | omega)))
  · have G := Lib.hid (decR_ok (x := x) g1 g2)
    have k1 : (encE n 0 0 0 V != 0) = false := by simpa using g1
    clear g1
    have k2 : (encV n 0 0 0 V != x) = false := by simpa using g2
    clear g2
    go_wp2_with fail
    refine bodyPost_ret (v := .tuple #[.agg #[.int .u8 n, .int .i64 0, .int .i64 0, .int .i64 0, .int .i64 V], .int .i64 0]) (run_result5 Tryd.results10 (fun _ => by kernel_rfl) (fun _ => by kernel_rfl) _ _ _ _ _ _ rfl rfl (by rw [r0]; simp) (by rw [r1]; simp) (by rw [r2]; simp) (by rw [r3]; simp) (by rw [r4]; simp)) rfl ⟨by rw [G.out], ?_⟩
    repeat (first | (with_reducible exact Below.refl _ _) | (with_reducible apply bDrewN) | (with_reducible apply Below.drew) | ((with_reducible apply bThen HB.out); (focus first | (simp; done) | (simp; omega) | omega)) | ((with_reducible apply bSet); (focus first | (simp; done) | (simp; omega) | omega)) | ((with_reducible apply bAlloc); (focus first | (simp; done) | (simp; omega) | omega)))

set_option maxHeartbeats 800000 in
theorem decode_i1 (x : Int) (n : Nat) (V : Int) (hV : wrap64 (bits .and .u32 x 262143) = V) (hV0 : 0 ≤ V) (hV1 : 131072 ≤ V) (hV2 : V < 262144) (w : World) (hx0 : 0 ≤ x) (hx1 : x < 4294967296) (hop : x / 67108864 = n) (hn : n < 30) (hT : Tab w) (ho : fo n = ⟨#[73]⟩) :
    Calls Tryd.prog 10 #[.int .u32 x] w fun e w' => e = .returned (decR x n 0 0 0 (V - 262144)) ∧ Below w.heap.size w w' := by
  obtain ⟨-, h1, -, -, -, -, hz⟩ := fmtAt hT n hn
  rw [ho] at h1
  clear ho
  have e0 : (((⟨#[73]⟩ : ByteArray)[0]'(by decide)).toNat : Int) = 73 := rfl
  have f73 : fieldOff 73 = 4 := rfl
  have p73 : posLow 73 = 0 := rfl
  have q73 : posSize 73 = 18 := rfl
  go_enter Tryd.func10, Tryd.ntmps10
  go_wp2_with fail
  refine wp_loop_rounds 2 ?_
  rw [rounds_succ]
  go_wp2_with ((go_at_call 16; refine (position_any _ _).mono ?_; rintro e w' ⟨rfl, rfl⟩))
  go_quiet (fail)
  go_wp2_with ((go_at_call 17; refine (field_any _ _ _).mono ?_; rintro e w' ⟨rfl, rfl⟩))
  rw [rounds_succ]
  go_wp2_with fail
  refine (encode_any n 0 0 0 (V - 262144) _ (hT.of_below (by repeat (first | (with_reducible exact Below.refl _ _) | (with_reducible apply bDrewN) | (with_reducible apply Below.drew) | ((with_reducible apply bSet); (focus first | (simp; done) | (simp; omega) | omega)) | ((with_reducible apply bAlloc); (focus first | (simp; done) | (simp; omega) | omega)))))).mono ?_
  rintro e w1 ⟨rfl, hb1⟩
  obtain ⟨hc1, hf1⟩ := bcell hb1
  have hz1 : w.heap.size + 2 ≤ w1.heap.size := by have := hb1.size; simp at this; omega
  have r0 : w1.cell? ⟨w.heap.size, 0, none⟩ = some (.int .u8 0) := by rw [hc1 _ _ (by simp; omega)]; simp [go_sem]
  have r1 : w1.cell? ⟨w.heap.size, 1, none⟩ = some (.int .i64 0) := by rw [hc1 _ _ (by simp; omega)]; simp [go_sem]
  have r2 : w1.cell? ⟨w.heap.size, 2, none⟩ = some (.int .i64 0) := by rw [hc1 _ _ (by simp; omega)]; simp [go_sem]
  have r3 : w1.cell? ⟨w.heap.size, 3, none⟩ = some (.int .i64 0) := by rw [hc1 _ _ (by simp; omega)]; simp [go_sem]
  have r4 : w1.cell? ⟨w.heap.size, 4, none⟩ = some (.int .i64 0) := by rw [hc1 _ _ (by simp; omega)]; simp [go_sem]
  have z0 : w1.frozen? ⟨w.heap.size, 0, none⟩ = false := by rw [hf1 _ _ (by simp; omega)]; simp [go_sem]
  have z1 : w1.frozen? ⟨w.heap.size, 1, none⟩ = false := by rw [hf1 _ _ (by simp; omega)]; simp [go_sem]
  have z2 : w1.frozen? ⟨w.heap.size, 2, none⟩ = false := by rw [hf1 _ _ (by simp; omega)]; simp [go_sem]
  have z3 : w1.frozen? ⟨w.heap.size, 3, none⟩ = false := by rw [hf1 _ _ (by simp; omega)]; simp [go_sem]
  have z4 : w1.frozen? ⟨w.heap.size, 4, none⟩ = false := by rw [hf1 _ _ (by simp; omega)]; simp [go_sem]
  have s0 : w1.cell? ⟨w.heap.size + 1, 0, none⟩ = some (.int .u8 n) := by rw [hc1 _ _ (by simp)]; simp [go_sem]
  have s1 : w1.cell? ⟨w.heap.size + 1, 1, none⟩ = some (.int .i64 0) := by rw [hc1 _ _ (by simp)]; simp [go_sem]
  have s2 : w1.cell? ⟨w.heap.size + 1, 2, none⟩ = some (.int .i64 0) := by rw [hc1 _ _ (by simp)]; simp [go_sem]
  have s3 : w1.cell? ⟨w.heap.size + 1, 3, none⟩ = some (.int .i64 0) := by rw [hc1 _ _ (by simp)]; simp [go_sem]
  have s4 : w1.cell? ⟨w.heap.size + 1, 4, none⟩ = some (.int .i64 (V - 262144)) := by rw [hc1 _ _ (by simp)]; simp [go_sem]
  have HB := Lib.hid hb1
  clear hc1 hf1 hb1
  by_cases g1 : (encE n 0 0 0 (V - 262144) != 0) = true
  · have G := Lib.hid (decR_bad (x := x) g1)
    go_wp2_with fail
    refine bodyPost_ret (v := .tuple #[.agg #[.int .u8 0, .int .i64 0, .int .i64 0, .int .i64 0, .int .i64 0], .int .i64 3]) (run_result5 Tryd.results10 (fun _ => by kernel_rfl) (fun _ => by kernel_rfl) _ _ _ _ _ _ rfl rfl (by rw [r0]; simp) (by rw [r1]; simp) (by rw [r2]; simp) (by rw [r3]; simp) (by rw [r4]; simp)) rfl ⟨by rw [G.out], ?_⟩
    repeat (first | (with_reducible exact Below.refl _ _) | (with_reducible apply bDrewN) | (with_reducible apply Below.drew) | ((with_reducible apply bThen HB.out); (focus first | (simp; done) | (simp; omega) | omega)) | ((with_reducible apply bSet); (focus first | (simp; done) | (simp; omega) | omega)) | ((with_reducible apply bAlloc); (focus first | (simp; done) | (simp; omega) | omega)))
  by_cases g2 : (encV n 0 0 0 (V - 262144) != x) = true
  · have G := Lib.hid (decR_other (x := x) g2)
    have k1 : (encE n 0 0 0 (V - 262144) != 0) = false := by simpa using g1
    clear g1
    go_wp2_with fail
    refine bodyPost_ret (v := .tuple #[.agg #[.int .u8 0, .int .i64 0, .int .i64 0, .int .i64 0, .int .i64 0], .int .i64 3]) (run_result5 Tryd.results10 (fun _ => by kernel_rfl) (fun _ => by kernel_rfl) _ _ _ _ _ _ rfl rfl (by rw [r0]; simp) (by rw [r1]; simp) (by rw [r2]; simp) (by rw [r3]; simp) (by rw [r4]; simp)) rfl ⟨by rw [G.out], ?_⟩
    repeat (first | (with_reducible exact Below.refl _ _) | (with_reducible apply bDrewN) | (with_reducible apply Below.drew) | ((with_reducible apply bThen HB.out); (focus first | (simp; done) | (simp; omega) | omega)) | ((with_reducible apply bSet); (focus first | (simp; done) | (simp; omega) | omega)) | ((with_reducible apply bAlloc); (focus first | (simp; done) | (simp; omega) | omega)))
  · have G := Lib.hid (decR_ok (x := x) g1 g2)
    have k1 : (encE n 0 0 0 (V - 262144) != 0) = false := by simpa using g1
    clear g1
    have k2 : (encV n 0 0 0 (V - 262144) != x) = false := by simpa using g2
    clear g2
    go_wp2_with fail
    refine bodyPost_ret (v := .tuple #[.agg #[.int .u8 n, .int .i64 0, .int .i64 0, .int .i64 0, .int .i64 (V - 262144)], .int .i64 0]) (run_result5 Tryd.results10 (fun _ => by kernel_rfl) (fun _ => by kernel_rfl) _ _ _ _ _ _ rfl rfl (by rw [r0]; simp) (by rw [r1]; simp) (by rw [r2]; simp) (by rw [r3]; simp) (by rw [r4]; simp)) rfl ⟨by rw [G.out], ?_⟩
    repeat (first | (with_reducible exact Below.refl _ _) | (with_reducible apply bDrewN) | (with_reducible apply Below.drew) | ((with_reducible apply bThen HB.out); (focus first | (simp; done) | (simp; omega) | omega)) | ((with_reducible apply bSet); (focus first | (simp; done) | (simp; omega) | omega)) | ((with_reducible apply bAlloc); (focus first | (simp; done) | (simp; omega) | omega)))

/-- The opcode of a word, and the operands that its format has. -/
def dN (x : Int) : Nat := (x / 67108864).toNat
def dA (x : Int) : Int := if uA (dN x) then wA x else 0
def dB (x : Int) : Int := if uB (dN x) then wB x else 0
def dC (x : Int) : Int := if uC (dN x) then wC x else 0
def dI (x : Int) : Int := if uI (dN x) then wI x else 0
/-- What isa.Decode returns. -/
def decV (x : Int) : Value := decR x (dN x) (dA x) (dB x) (dC x) (dI x)

theorem decode_any (x : Int) (w : World) (hx0 : 0 ≤ x) (hx1 : x < 4294967296) (hT : Tab w) :
    Calls Tryd.prog 10 #[.int .u32 x] w fun e w' => e = .returned (decV x) ∧ Below w.heap.size w w' := by
  by_cases hop : 30 ≤ x / 67108864
  · have e : decV x = .tuple #[.agg #[.int .u8 0, .int .i64 0, .int .i64 0, .int .i64 0, .int .i64 0], .int .i64 3] := by
      unfold decV decR
      rw [if_neg]
      intro ⟨h, _⟩
      have := (vld_parts h).1
      unfold dN at this
      omega
    rw [e]
    exact decode_big x w hx0 hx1 hop
  · have hn : dN x < 30 := by unfold dN; omega
    have hop' : x / 67108864 = (dN x : Nat) := by unfold dN; omega
    unfold decV
    rcases shape (dN x) hn with ⟨h, h1, h2, h3, h4⟩ | ⟨h, h1, h2, h3, h4⟩ | ⟨h, h1, h2, h3, h4⟩ | ⟨h, h1, h2, h3, h4⟩ | ⟨h, h1, h2, h3, h4⟩
    all_goals simp only [dA, dB, dC, dI, h1, h2, h3, h4, if_true, if_false, Bool.false_eq_true]
    · exact decode_none x _ w hx0 hx1 hop' hn hT h
    · exact decode_abc x _ _ _ _ (wA_eq x hx0 hx1) (wB_eq x hx0 hx1) (wC_eq x hx0 hx1) w hx0 hx1 hop' hn hT h
    · by_cases hi : 131072 ≤ x % 262144
      · simp only [wI, hi, if_true]
        exact decode_ai1 x _ _ _ (wA_eq x hx0 hx1) (wV_eq x hx0 hx1) (by omega) hi (by omega) w hx0 hx1 hop' hn hT h
      · simp only [wI, hi, if_false]
        exact decode_ai0 x _ _ _ (wA_eq x hx0 hx1) (wV_eq x hx0 hx1) (by omega) (by omega) w hx0 hx1 hop' hn hT h
    · by_cases hi : 131072 ≤ x % 262144
      · simp only [wI, hi, if_true]
        exact decode_abi1 x _ _ _ _ (wA_eq x hx0 hx1) (wB_eq x hx0 hx1) (wV_eq x hx0 hx1) (by omega) hi (by omega) w hx0 hx1 hop' hn hT h
      · simp only [wI, hi, if_false]
        exact decode_abi0 x _ _ _ _ (wA_eq x hx0 hx1) (wB_eq x hx0 hx1) (wV_eq x hx0 hx1) (by omega) (by omega) w hx0 hx1 hop' hn hT h
    · by_cases hi : 131072 ≤ x % 262144
      · simp only [wI, hi, if_true]
        exact decode_i1 x _ _ (wV_eq x hx0 hx1) (by omega) hi (by omega) w hx0 hx1 hop' hn hT h
      · simp only [wI, hi, if_false]
        exact decode_i0 x _ _ (wV_eq x hx0 hx1) (by omega) (by omega) w hx0 hx1 hop' hn hT h

end Go.Proofs.YtpachmkklppmjaaDoor
