import Derived.Test.YtdfofelchjpioaaDoorIsaH
import Derived.Test.YtdfofelchjpioaaDoorRes
set_option linter.unusedVariables false
set_option linter.unusedSimpArgs false
namespace Go.Proofs.YtdfofelchjpioaaDoor
open Go.RowKit

def rdecR (x : Int) (n : Nat) (a b c i : Int) : Value := if vld n a b c i = true ∧ encW n a b c i = x then .tuple #[.agg #[.int .u8 n, .int .i64 a, .int .i64 b, .int .i64 c, .int .i64 i], .bool true] else .tuple #[.agg #[.int .u8 0, .int .i64 0, .int .i64 0, .int .i64 0, .int .i64 0], .bool false]
theorem rdecR_bad {x : Int} {n : Nat} {a b c i : Int} (h : vld n a b c i = false) : rdecR x n a b c i = .tuple #[.agg #[.int .u8 0, .int .i64 0, .int .i64 0, .int .i64 0, .int .i64 0], .bool false] := by
  unfold rdecR; rw [if_neg]; intro ⟨h1, _⟩; simp [h1] at h
theorem rdecR_other {x : Int} {n : Nat} {a b c i : Int} (h : (encW n a b c i != x) = true) : rdecR x n a b c i = .tuple #[.agg #[.int .u8 0, .int .i64 0, .int .i64 0, .int .i64 0, .int .i64 0], .bool false] := by
  unfold rdecR; rw [if_neg]; intro ⟨h1, h2⟩; simp [h2] at h
theorem rdecR_ok {x : Int} {n : Nat} {a b c i : Int} (h : vld n a b c i = true) (h' : ¬ (encW n a b c i != x) = true) : rdecR x n a b c i = .tuple #[.agg #[.int .u8 n, .int .i64 a, .int .i64 b, .int .i64 c, .int .i64 i], .bool true] := by
  unfold rdecR; rw [if_pos]; exact ⟨h, by simpa using h'⟩

set_option maxHeartbeats 400000 in
theorem rdecode_big (x : Int) (w : World) (hx0 : 0 ≤ x) (hx1 : x < 4294967296) (hop : 30 ≤ x / 67108864) :
    Calls Tryd.prog 19 #[.int .u32 x] w fun e w' => e = .returned (.tuple #[.agg #[.int .u8 0, .int .i64 0, .int .i64 0, .int .i64 0, .int .i64 0], .bool false]) ∧ Below w.heap.size w w' := by
  go_enter Tryd.func19, Tryd.ntmps19
  go_wp2_with fail
  refine bodyPost_ret (v := .tuple #[.agg #[.int .u8 0, .int .i64 0, .int .i64 0, .int .i64 0, .int .i64 0], .bool false]) (by simp [results, Tryd.results19, go_sem]) rfl ⟨rfl, ?_⟩
  repeat (first | (with_reducible exact Below.refl _ _) | (with_reducible apply bDrewN) | (with_reducible apply Below.drew) | ((with_reducible apply bSet); (focus first | (simp; done) | (simp; omega) | omega)) | ((with_reducible apply bAlloc); (focus first | (simp; done) | (simp; omega) | omega)))

set_option maxHeartbeats 1600000 in
theorem rdecode_none (x : Int) (n : Nat) (A : Int) (hA : x / 4194304 % 16 = A) (bA : 0 ≤ A ∧ A ≤ 15) (hlo : rlo n = 1) (hhi : rhi n = 0) (w : World) (hx0 : 0 ≤ x) (hx1 : x < 4294967296) (hop : x / 67108864 = n) (hn : n < 30) (hs : rfS n = ⟨#[]⟩) :
    Calls Tryd.prog 19 #[.int .u32 x] w fun e w' => e = .returned (rdecR x n A 0 0 0) ∧ Below w.heap.size w w' := by
  go_enter Tryd.func19, Tryd.ntmps19
  go_wp2_with fail
  refine (format_any n _ hn).mono ?_
  rintro e w' ⟨rfl, rfl⟩
  go_wp2_with fail
  refine (refValid_any n A 0 0 0 _).mono ?_
  rintro e w1 ⟨rfl, hb1⟩
  have sz1_0 : w.heap.size < w1.heap.size := by have h := hb1.size; first | (simp at h; omega) | omega
  have c1_0_0 : w1.cell? ⟨w.heap.size, 0, none⟩ = some (.int .u8 0) := by rw [hb1.cell (p := ⟨w.heap.size, 0, none⟩) (by first | (simp; done) | (simp; omega) | omega)]; first | assumption | (simp [go_sem]; done) | (simp [go_sem, *]; done)
  have z1_0_0 : w1.frozen? ⟨w.heap.size, 0, none⟩ = false := by rw [hb1.frozen (p := ⟨w.heap.size, 0, none⟩) (by first | (simp; done) | (simp; omega) | omega)]; first | assumption | (simp [go_sem]; done) | (simp [go_sem, *]; done)
  have c1_0_1 : w1.cell? ⟨w.heap.size, 1, none⟩ = some (.int .i64 0) := by rw [hb1.cell (p := ⟨w.heap.size, 1, none⟩) (by first | (simp; done) | (simp; omega) | omega)]; first | assumption | (simp [go_sem]; done) | (simp [go_sem, *]; done)
  have z1_0_1 : w1.frozen? ⟨w.heap.size, 1, none⟩ = false := by rw [hb1.frozen (p := ⟨w.heap.size, 1, none⟩) (by first | (simp; done) | (simp; omega) | omega)]; first | assumption | (simp [go_sem]; done) | (simp [go_sem, *]; done)
  have c1_0_2 : w1.cell? ⟨w.heap.size, 2, none⟩ = some (.int .i64 0) := by rw [hb1.cell (p := ⟨w.heap.size, 2, none⟩) (by first | (simp; done) | (simp; omega) | omega)]; first | assumption | (simp [go_sem]; done) | (simp [go_sem, *]; done)
  have z1_0_2 : w1.frozen? ⟨w.heap.size, 2, none⟩ = false := by rw [hb1.frozen (p := ⟨w.heap.size, 2, none⟩) (by first | (simp; done) | (simp; omega) | omega)]; first | assumption | (simp [go_sem]; done) | (simp [go_sem, *]; done)
  have c1_0_3 : w1.cell? ⟨w.heap.size, 3, none⟩ = some (.int .i64 0) := by rw [hb1.cell (p := ⟨w.heap.size, 3, none⟩) (by first | (simp; done) | (simp; omega) | omega)]; first | assumption | (simp [go_sem]; done) | (simp [go_sem, *]; done)
  have z1_0_3 : w1.frozen? ⟨w.heap.size, 3, none⟩ = false := by rw [hb1.frozen (p := ⟨w.heap.size, 3, none⟩) (by first | (simp; done) | (simp; omega) | omega)]; first | assumption | (simp [go_sem]; done) | (simp [go_sem, *]; done)
  have c1_0_4 : w1.cell? ⟨w.heap.size, 4, none⟩ = some (.int .i64 0) := by rw [hb1.cell (p := ⟨w.heap.size, 4, none⟩) (by first | (simp; done) | (simp; omega) | omega)]; first | assumption | (simp [go_sem]; done) | (simp [go_sem, *]; done)
  have z1_0_4 : w1.frozen? ⟨w.heap.size, 4, none⟩ = false := by rw [hb1.frozen (p := ⟨w.heap.size, 4, none⟩) (by first | (simp; done) | (simp; omega) | omega)]; first | assumption | (simp [go_sem]; done) | (simp [go_sem, *]; done)
  have sz1_1 : w.heap.size + 1 < w1.heap.size := by have h := hb1.size; first | (simp at h; omega) | omega
  have c1_1_0 : w1.cell? ⟨w.heap.size + 1, 0, none⟩ = some (.int .u8 n) := by rw [hb1.cell (p := ⟨w.heap.size + 1, 0, none⟩) (by first | (simp; done) | (simp; omega) | omega)]; first | assumption | (simp [go_sem]; done) | (simp [go_sem, *]; done)
  have c1_1_1 : w1.cell? ⟨w.heap.size + 1, 1, none⟩ = some (.int .i64 A) := by rw [hb1.cell (p := ⟨w.heap.size + 1, 1, none⟩) (by first | (simp; done) | (simp; omega) | omega)]; first | assumption | (simp [go_sem]; done) | (simp [go_sem, *]; done)
  have c1_1_2 : w1.cell? ⟨w.heap.size + 1, 2, none⟩ = some (.int .i64 0) := by rw [hb1.cell (p := ⟨w.heap.size + 1, 2, none⟩) (by first | (simp; done) | (simp; omega) | omega)]; first | assumption | (simp [go_sem]; done) | (simp [go_sem, *]; done)
  have c1_1_3 : w1.cell? ⟨w.heap.size + 1, 3, none⟩ = some (.int .i64 0) := by rw [hb1.cell (p := ⟨w.heap.size + 1, 3, none⟩) (by first | (simp; done) | (simp; omega) | omega)]; first | assumption | (simp [go_sem]; done) | (simp [go_sem, *]; done)
  have c1_1_4 : w1.cell? ⟨w.heap.size + 1, 4, none⟩ = some (.int .i64 0) := by rw [hb1.cell (p := ⟨w.heap.size + 1, 4, none⟩) (by first | (simp; done) | (simp; omega) | omega)]; first | assumption | (simp [go_sem]; done) | (simp [go_sem, *]; done)
  have HB1 : Below w.heap.size w w1 := by
    repeat (first | (with_reducible exact Below.refl _ _) | (with_reducible apply bDrewN) | (with_reducible apply Below.drew) | ((with_reducible apply bThen hb1); (focus first | (simp; done) | (simp; omega) | omega)) | ((with_reducible apply bSet); (focus first | (simp; done) | (simp; omega) | omega)) | ((with_reducible apply bAlloc); (focus first | (simp; done) | (simp; omega) | omega)))
  have hsz1 := HB1.size
  clear hb1 
  cases hv : vld n A 0 0 0
  · have G := Lib.hid (rdecR_bad (x := x) hv)
    go_wp2_with fail
    refine bodyPost_ret (v := .tuple #[.agg #[.int .u8 0, .int .i64 0, .int .i64 0, .int .i64 0, .int .i64 0], .bool false]) (run_result5 Tryd.results19 (fun _ => by kernel_rfl) (fun _ => by kernel_rfl) _ _ _ _ _ _ rfl rfl (by rw [c1_0_0]; simp) (by rw [c1_0_1]; simp) (by rw [c1_0_2]; simp) (by rw [c1_0_3]; simp) (by rw [c1_0_4]; simp)) rfl ⟨by rw [G.out], ?_⟩
    repeat (first | (with_reducible exact Below.refl _ _) | (with_reducible apply bDrewN) | (with_reducible apply Below.drew) | (with_reducible exact HB1) | ((with_reducible apply bSet); (focus first | (simp; done) | (simp; omega) | omega)) | ((with_reducible apply bAlloc); (focus first | (simp; done) | (simp; omega) | omega)))

  by_cases g2 : (encW n A 0 0 0 != x) = true
  · have G := Lib.hid (rdecR_other (x := x) g2)
    go_wp2_with fail
    refine (refEncode_any n A 0 0 0 _ hv).mono ?_
    rintro e w2 ⟨rfl, hb2⟩
    have sz2_0 : w.heap.size < w2.heap.size := by have h := hb2.size; first | (simp at h; omega) | omega
    have c2_0_0 : w2.cell? ⟨w.heap.size, 0, none⟩ = some (.int .u8 0) := by rw [hb2.cell (p := ⟨w.heap.size, 0, none⟩) (by first | (simp; done) | (simp; omega) | omega)]; first | assumption | (simp [go_sem]; done) | (simp [go_sem, *]; done)
    have z2_0_0 : w2.frozen? ⟨w.heap.size, 0, none⟩ = false := by rw [hb2.frozen (p := ⟨w.heap.size, 0, none⟩) (by first | (simp; done) | (simp; omega) | omega)]; first | assumption | (simp [go_sem]; done) | (simp [go_sem, *]; done)
    have c2_0_1 : w2.cell? ⟨w.heap.size, 1, none⟩ = some (.int .i64 0) := by rw [hb2.cell (p := ⟨w.heap.size, 1, none⟩) (by first | (simp; done) | (simp; omega) | omega)]; first | assumption | (simp [go_sem]; done) | (simp [go_sem, *]; done)
    have z2_0_1 : w2.frozen? ⟨w.heap.size, 1, none⟩ = false := by rw [hb2.frozen (p := ⟨w.heap.size, 1, none⟩) (by first | (simp; done) | (simp; omega) | omega)]; first | assumption | (simp [go_sem]; done) | (simp [go_sem, *]; done)
    have c2_0_2 : w2.cell? ⟨w.heap.size, 2, none⟩ = some (.int .i64 0) := by rw [hb2.cell (p := ⟨w.heap.size, 2, none⟩) (by first | (simp; done) | (simp; omega) | omega)]; first | assumption | (simp [go_sem]; done) | (simp [go_sem, *]; done)
    have z2_0_2 : w2.frozen? ⟨w.heap.size, 2, none⟩ = false := by rw [hb2.frozen (p := ⟨w.heap.size, 2, none⟩) (by first | (simp; done) | (simp; omega) | omega)]; first | assumption | (simp [go_sem]; done) | (simp [go_sem, *]; done)
    have c2_0_3 : w2.cell? ⟨w.heap.size, 3, none⟩ = some (.int .i64 0) := by rw [hb2.cell (p := ⟨w.heap.size, 3, none⟩) (by first | (simp; done) | (simp; omega) | omega)]; first | assumption | (simp [go_sem]; done) | (simp [go_sem, *]; done)
    have z2_0_3 : w2.frozen? ⟨w.heap.size, 3, none⟩ = false := by rw [hb2.frozen (p := ⟨w.heap.size, 3, none⟩) (by first | (simp; done) | (simp; omega) | omega)]; first | assumption | (simp [go_sem]; done) | (simp [go_sem, *]; done)
    have c2_0_4 : w2.cell? ⟨w.heap.size, 4, none⟩ = some (.int .i64 0) := by rw [hb2.cell (p := ⟨w.heap.size, 4, none⟩) (by first | (simp; done) | (simp; omega) | omega)]; first | assumption | (simp [go_sem]; done) | (simp [go_sem, *]; done)
    have z2_0_4 : w2.frozen? ⟨w.heap.size, 4, none⟩ = false := by rw [hb2.frozen (p := ⟨w.heap.size, 4, none⟩) (by first | (simp; done) | (simp; omega) | omega)]; first | assumption | (simp [go_sem]; done) | (simp [go_sem, *]; done)
    have sz2_1 : w.heap.size + 1 < w2.heap.size := by have h := hb2.size; first | (simp at h; omega) | omega
    have c2_1_0 : w2.cell? ⟨w.heap.size + 1, 0, none⟩ = some (.int .u8 n) := by rw [hb2.cell (p := ⟨w.heap.size + 1, 0, none⟩) (by first | (simp; done) | (simp; omega) | omega)]; first | assumption | (simp [go_sem]; done) | (simp [go_sem, *]; done)
    have c2_1_1 : w2.cell? ⟨w.heap.size + 1, 1, none⟩ = some (.int .i64 A) := by rw [hb2.cell (p := ⟨w.heap.size + 1, 1, none⟩) (by first | (simp; done) | (simp; omega) | omega)]; first | assumption | (simp [go_sem]; done) | (simp [go_sem, *]; done)
    have c2_1_2 : w2.cell? ⟨w.heap.size + 1, 2, none⟩ = some (.int .i64 0) := by rw [hb2.cell (p := ⟨w.heap.size + 1, 2, none⟩) (by first | (simp; done) | (simp; omega) | omega)]; first | assumption | (simp [go_sem]; done) | (simp [go_sem, *]; done)
    have c2_1_3 : w2.cell? ⟨w.heap.size + 1, 3, none⟩ = some (.int .i64 0) := by rw [hb2.cell (p := ⟨w.heap.size + 1, 3, none⟩) (by first | (simp; done) | (simp; omega) | omega)]; first | assumption | (simp [go_sem]; done) | (simp [go_sem, *]; done)
    have c2_1_4 : w2.cell? ⟨w.heap.size + 1, 4, none⟩ = some (.int .i64 0) := by rw [hb2.cell (p := ⟨w.heap.size + 1, 4, none⟩) (by first | (simp; done) | (simp; omega) | omega)]; first | assumption | (simp [go_sem]; done) | (simp [go_sem, *]; done)
    have HB2 : Below w.heap.size w w2 := by
      repeat (first | (with_reducible exact Below.refl _ _) | (with_reducible apply bDrewN) | (with_reducible apply Below.drew) | (with_reducible exact HB1) | ((with_reducible apply bThen hb2); (focus first | (simp; done) | (simp; omega) | omega)) | ((with_reducible apply bSet); (focus first | (simp; done) | (simp; omega) | omega)) | ((with_reducible apply bAlloc); (focus first | (simp; done) | (simp; omega) | omega)))
    have hsz2 := HB2.size
    clear hb2 sz1_0 c1_0_0 z1_0_0 c1_0_1 z1_0_1 c1_0_2 z1_0_2 c1_0_3 z1_0_3 c1_0_4 z1_0_4 sz1_1 c1_1_0 c1_1_1 c1_1_2 c1_1_3 c1_1_4 hsz1
    go_wp2_with fail
    refine bodyPost_ret (v := .tuple #[.agg #[.int .u8 0, .int .i64 0, .int .i64 0, .int .i64 0, .int .i64 0], .bool false]) (run_result5 Tryd.results19 (fun _ => by kernel_rfl) (fun _ => by kernel_rfl) _ _ _ _ _ _ rfl rfl (by rw [c2_0_0]; simp) (by rw [c2_0_1]; simp) (by rw [c2_0_2]; simp) (by rw [c2_0_3]; simp) (by rw [c2_0_4]; simp)) rfl ⟨by rw [G.out], ?_⟩
    repeat (first | (with_reducible exact Below.refl _ _) | (with_reducible apply bDrewN) | (with_reducible apply Below.drew) | (with_reducible exact HB2) | ((with_reducible apply bSet); (focus first | (simp; done) | (simp; omega) | omega)) | ((with_reducible apply bAlloc); (focus first | (simp; done) | (simp; omega) | omega)))
  · have G := Lib.hid (rdecR_ok (x := x) hv g2)
    have k2 : (encW n A 0 0 0 != x) = false := by simpa using g2
    clear g2
    go_wp2_with fail
    refine (refEncode_any n A 0 0 0 _ hv).mono ?_
    rintro e w2 ⟨rfl, hb2⟩
    have sz2_0 : w.heap.size < w2.heap.size := by have h := hb2.size; first | (simp at h; omega) | omega
    have c2_0_0 : w2.cell? ⟨w.heap.size, 0, none⟩ = some (.int .u8 0) := by rw [hb2.cell (p := ⟨w.heap.size, 0, none⟩) (by first | (simp; done) | (simp; omega) | omega)]; first | assumption | (simp [go_sem]; done) | (simp [go_sem, *]; done)
    have z2_0_0 : w2.frozen? ⟨w.heap.size, 0, none⟩ = false := by rw [hb2.frozen (p := ⟨w.heap.size, 0, none⟩) (by first | (simp; done) | (simp; omega) | omega)]; first | assumption | (simp [go_sem]; done) | (simp [go_sem, *]; done)
    have c2_0_1 : w2.cell? ⟨w.heap.size, 1, none⟩ = some (.int .i64 0) := by rw [hb2.cell (p := ⟨w.heap.size, 1, none⟩) (by first | (simp; done) | (simp; omega) | omega)]; first | assumption | (simp [go_sem]; done) | (simp [go_sem, *]; done)
    have z2_0_1 : w2.frozen? ⟨w.heap.size, 1, none⟩ = false := by rw [hb2.frozen (p := ⟨w.heap.size, 1, none⟩) (by first | (simp; done) | (simp; omega) | omega)]; first | assumption | (simp [go_sem]; done) | (simp [go_sem, *]; done)
    have c2_0_2 : w2.cell? ⟨w.heap.size, 2, none⟩ = some (.int .i64 0) := by rw [hb2.cell (p := ⟨w.heap.size, 2, none⟩) (by first | (simp; done) | (simp; omega) | omega)]; first | assumption | (simp [go_sem]; done) | (simp [go_sem, *]; done)
    have z2_0_2 : w2.frozen? ⟨w.heap.size, 2, none⟩ = false := by rw [hb2.frozen (p := ⟨w.heap.size, 2, none⟩) (by first | (simp; done) | (simp; omega) | omega)]; first | assumption | (simp [go_sem]; done) | (simp [go_sem, *]; done)
    have c2_0_3 : w2.cell? ⟨w.heap.size, 3, none⟩ = some (.int .i64 0) := by rw [hb2.cell (p := ⟨w.heap.size, 3, none⟩) (by first | (simp; done) | (simp; omega) | omega)]; first | assumption | (simp [go_sem]; done) | (simp [go_sem, *]; done)
    have z2_0_3 : w2.frozen? ⟨w.heap.size, 3, none⟩ = false := by rw [hb2.frozen (p := ⟨w.heap.size, 3, none⟩) (by first | (simp; done) | (simp; omega) | omega)]; first | assumption | (simp [go_sem]; done) | (simp [go_sem, *]; done)
    have c2_0_4 : w2.cell? ⟨w.heap.size, 4, none⟩ = some (.int .i64 0) := by rw [hb2.cell (p := ⟨w.heap.size, 4, none⟩) (by first | (simp; done) | (simp; omega) | omega)]; first | assumption | (simp [go_sem]; done) | (simp [go_sem, *]; done)
    have z2_0_4 : w2.frozen? ⟨w.heap.size, 4, none⟩ = false := by rw [hb2.frozen (p := ⟨w.heap.size, 4, none⟩) (by first | (simp; done) | (simp; omega) | omega)]; first | assumption | (simp [go_sem]; done) | (simp [go_sem, *]; done)
    have sz2_1 : w.heap.size + 1 < w2.heap.size := by have h := hb2.size; first | (simp at h; omega) | omega
    have c2_1_0 : w2.cell? ⟨w.heap.size + 1, 0, none⟩ = some (.int .u8 n) := by rw [hb2.cell (p := ⟨w.heap.size + 1, 0, none⟩) (by first | (simp; done) | (simp; omega) | omega)]; first | assumption | (simp [go_sem]; done) | (simp [go_sem, *]; done)
    have c2_1_1 : w2.cell? ⟨w.heap.size + 1, 1, none⟩ = some (.int .i64 A) := by rw [hb2.cell (p := ⟨w.heap.size + 1, 1, none⟩) (by first | (simp; done) | (simp; omega) | omega)]; first | assumption | (simp [go_sem]; done) | (simp [go_sem, *]; done)
    have c2_1_2 : w2.cell? ⟨w.heap.size + 1, 2, none⟩ = some (.int .i64 0) := by rw [hb2.cell (p := ⟨w.heap.size + 1, 2, none⟩) (by first | (simp; done) | (simp; omega) | omega)]; first | assumption | (simp [go_sem]; done) | (simp [go_sem, *]; done)
    have c2_1_3 : w2.cell? ⟨w.heap.size + 1, 3, none⟩ = some (.int .i64 0) := by rw [hb2.cell (p := ⟨w.heap.size + 1, 3, none⟩) (by first | (simp; done) | (simp; omega) | omega)]; first | assumption | (simp [go_sem]; done) | (simp [go_sem, *]; done)
    have c2_1_4 : w2.cell? ⟨w.heap.size + 1, 4, none⟩ = some (.int .i64 0) := by rw [hb2.cell (p := ⟨w.heap.size + 1, 4, none⟩) (by first | (simp; done) | (simp; omega) | omega)]; first | assumption | (simp [go_sem]; done) | (simp [go_sem, *]; done)
    have HB2 : Below w.heap.size w w2 := by
      repeat (first | (with_reducible exact Below.refl _ _) | (with_reducible apply bDrewN) | (with_reducible apply Below.drew) | (with_reducible exact HB1) | ((with_reducible apply bThen hb2); (focus first | (simp; done) | (simp; omega) | omega)) | ((with_reducible apply bSet); (focus first | (simp; done) | (simp; omega) | omega)) | ((with_reducible apply bAlloc); (focus first | (simp; done) | (simp; omega) | omega)))
    have hsz2 := HB2.size
    clear hb2 sz1_0 c1_0_0 z1_0_0 c1_0_1 z1_0_1 c1_0_2 z1_0_2 c1_0_3 z1_0_3 c1_0_4 z1_0_4 sz1_1 c1_1_0 c1_1_1 c1_1_2 c1_1_3 c1_1_4 hsz1
    go_wp2_with fail
    refine bodyPost_ret (v := .tuple #[.agg #[.int .u8 n, .int .i64 A, .int .i64 0, .int .i64 0, .int .i64 0], .bool true]) (run_result5 Tryd.results19 (fun _ => by kernel_rfl) (fun _ => by kernel_rfl) _ _ _ _ _ _ rfl rfl (by rw [c2_0_0]; simp) (by rw [c2_0_1]; simp) (by rw [c2_0_2]; simp) (by rw [c2_0_3]; simp) (by rw [c2_0_4]; simp)) rfl ⟨by rw [G.out], ?_⟩
    repeat (first | (with_reducible exact Below.refl _ _) | (with_reducible apply bDrewN) | (with_reducible apply Below.drew) | (with_reducible exact HB2) | ((with_reducible apply bSet); (focus first | (simp; done) | (simp; omega) | omega)) | ((with_reducible apply bAlloc); (focus first | (simp; done) | (simp; omega) | omega)))

set_option maxHeartbeats 1600000 in
theorem rdecode_abc (x : Int) (n : Nat) (A B C : Int) (hA : x / 4194304 % 16 = A) (bA : 0 ≤ A ∧ A ≤ 15) (hB : x / 262144 % 16 = B) (bB : 0 ≤ B ∧ B ≤ 15) (hC : x / 16384 % 16 = C) (bC : 0 ≤ C ∧ C ≤ 15) (hlo : rlo n = 1) (hhi : rhi n = 0) (w : World) (hx0 : 0 ≤ x) (hx1 : x < 4294967296) (hop : x / 67108864 = n) (hn : n < 30) (hs : rfS n = ⟨#[65, 66, 67]⟩) :
    Calls Tryd.prog 19 #[.int .u32 x] w fun e w' => e = .returned (rdecR x n A B C 0) ∧ Below w.heap.size w w' := by
  go_enter Tryd.func19, Tryd.ntmps19
  go_wp2_with fail
  refine (format_any n _ hn).mono ?_
  rintro e w' ⟨rfl, rfl⟩
  go_wp2_with fail
  refine (refValid_any n A B C 0 _).mono ?_
  rintro e w1 ⟨rfl, hb1⟩
  have sz1_0 : w.heap.size < w1.heap.size := by have h := hb1.size; first | (simp at h; omega) | omega
  have c1_0_0 : w1.cell? ⟨w.heap.size, 0, none⟩ = some (.int .u8 0) := by rw [hb1.cell (p := ⟨w.heap.size, 0, none⟩) (by first | (simp; done) | (simp; omega) | omega)]; first | assumption | (simp [go_sem]; done) | (simp [go_sem, *]; done)
  have z1_0_0 : w1.frozen? ⟨w.heap.size, 0, none⟩ = false := by rw [hb1.frozen (p := ⟨w.heap.size, 0, none⟩) (by first | (simp; done) | (simp; omega) | omega)]; first | assumption | (simp [go_sem]; done) | (simp [go_sem, *]; done)
  have c1_0_1 : w1.cell? ⟨w.heap.size, 1, none⟩ = some (.int .i64 0) := by rw [hb1.cell (p := ⟨w.heap.size, 1, none⟩) (by first | (simp; done) | (simp; omega) | omega)]; first | assumption | (simp [go_sem]; done) | (simp [go_sem, *]; done)
  have z1_0_1 : w1.frozen? ⟨w.heap.size, 1, none⟩ = false := by rw [hb1.frozen (p := ⟨w.heap.size, 1, none⟩) (by first | (simp; done) | (simp; omega) | omega)]; first | assumption | (simp [go_sem]; done) | (simp [go_sem, *]; done)
  have c1_0_2 : w1.cell? ⟨w.heap.size, 2, none⟩ = some (.int .i64 0) := by rw [hb1.cell (p := ⟨w.heap.size, 2, none⟩) (by first | (simp; done) | (simp; omega) | omega)]; first | assumption | (simp [go_sem]; done) | (simp [go_sem, *]; done)
  have z1_0_2 : w1.frozen? ⟨w.heap.size, 2, none⟩ = false := by rw [hb1.frozen (p := ⟨w.heap.size, 2, none⟩) (by first | (simp; done) | (simp; omega) | omega)]; first | assumption | (simp [go_sem]; done) | (simp [go_sem, *]; done)
  have c1_0_3 : w1.cell? ⟨w.heap.size, 3, none⟩ = some (.int .i64 0) := by rw [hb1.cell (p := ⟨w.heap.size, 3, none⟩) (by first | (simp; done) | (simp; omega) | omega)]; first | assumption | (simp [go_sem]; done) | (simp [go_sem, *]; done)
  have z1_0_3 : w1.frozen? ⟨w.heap.size, 3, none⟩ = false := by rw [hb1.frozen (p := ⟨w.heap.size, 3, none⟩) (by first | (simp; done) | (simp; omega) | omega)]; first | assumption | (simp [go_sem]; done) | (simp [go_sem, *]; done)
  have c1_0_4 : w1.cell? ⟨w.heap.size, 4, none⟩ = some (.int .i64 0) := by rw [hb1.cell (p := ⟨w.heap.size, 4, none⟩) (by first | (simp; done) | (simp; omega) | omega)]; first | assumption | (simp [go_sem]; done) | (simp [go_sem, *]; done)
  have z1_0_4 : w1.frozen? ⟨w.heap.size, 4, none⟩ = false := by rw [hb1.frozen (p := ⟨w.heap.size, 4, none⟩) (by first | (simp; done) | (simp; omega) | omega)]; first | assumption | (simp [go_sem]; done) | (simp [go_sem, *]; done)
  have sz1_1 : w.heap.size + 1 < w1.heap.size := by have h := hb1.size; first | (simp at h; omega) | omega
  have c1_1_0 : w1.cell? ⟨w.heap.size + 1, 0, none⟩ = some (.int .u8 n) := by rw [hb1.cell (p := ⟨w.heap.size + 1, 0, none⟩) (by first | (simp; done) | (simp; omega) | omega)]; first | assumption | (simp [go_sem]; done) | (simp [go_sem, *]; done)
  have c1_1_1 : w1.cell? ⟨w.heap.size + 1, 1, none⟩ = some (.int .i64 A) := by rw [hb1.cell (p := ⟨w.heap.size + 1, 1, none⟩) (by first | (simp; done) | (simp; omega) | omega)]; first | assumption | (simp [go_sem]; done) | (simp [go_sem, *]; done)
  have c1_1_2 : w1.cell? ⟨w.heap.size + 1, 2, none⟩ = some (.int .i64 B) := by rw [hb1.cell (p := ⟨w.heap.size + 1, 2, none⟩) (by first | (simp; done) | (simp; omega) | omega)]; first | assumption | (simp [go_sem]; done) | (simp [go_sem, *]; done)
  have c1_1_3 : w1.cell? ⟨w.heap.size + 1, 3, none⟩ = some (.int .i64 C) := by rw [hb1.cell (p := ⟨w.heap.size + 1, 3, none⟩) (by first | (simp; done) | (simp; omega) | omega)]; first | assumption | (simp [go_sem]; done) | (simp [go_sem, *]; done)
  have c1_1_4 : w1.cell? ⟨w.heap.size + 1, 4, none⟩ = some (.int .i64 0) := by rw [hb1.cell (p := ⟨w.heap.size + 1, 4, none⟩) (by first | (simp; done) | (simp; omega) | omega)]; first | assumption | (simp [go_sem]; done) | (simp [go_sem, *]; done)
  have HB1 : Below w.heap.size w w1 := by
    repeat (first | (with_reducible exact Below.refl _ _) | (with_reducible apply bDrewN) | (with_reducible apply Below.drew) | ((with_reducible apply bThen hb1); (focus first | (simp; done) | (simp; omega) | omega)) | ((with_reducible apply bSet); (focus first | (simp; done) | (simp; omega) | omega)) | ((with_reducible apply bAlloc); (focus first | (simp; done) | (simp; omega) | omega)))
  have hsz1 := HB1.size
  clear hb1 
  cases hv : vld n A B C 0
  · have G := Lib.hid (rdecR_bad (x := x) hv)
    go_wp2_with fail
    refine bodyPost_ret (v := .tuple #[.agg #[.int .u8 0, .int .i64 0, .int .i64 0, .int .i64 0, .int .i64 0], .bool false]) (run_result5 Tryd.results19 (fun _ => by kernel_rfl) (fun _ => by kernel_rfl) _ _ _ _ _ _ rfl rfl (by rw [c1_0_0]; simp) (by rw [c1_0_1]; simp) (by rw [c1_0_2]; simp) (by rw [c1_0_3]; simp) (by rw [c1_0_4]; simp)) rfl ⟨by rw [G.out], ?_⟩
    repeat (first | (with_reducible exact Below.refl _ _) | (with_reducible apply bDrewN) | (with_reducible apply Below.drew) | (with_reducible exact HB1) | ((with_reducible apply bSet); (focus first | (simp; done) | (simp; omega) | omega)) | ((with_reducible apply bAlloc); (focus first | (simp; done) | (simp; omega) | omega)))

  by_cases g2 : (encW n A B C 0 != x) = true
  · have G := Lib.hid (rdecR_other (x := x) g2)
    go_wp2_with fail
    refine (refEncode_any n A B C 0 _ hv).mono ?_
    rintro e w2 ⟨rfl, hb2⟩
    have sz2_0 : w.heap.size < w2.heap.size := by have h := hb2.size; first | (simp at h; omega) | omega
    have c2_0_0 : w2.cell? ⟨w.heap.size, 0, none⟩ = some (.int .u8 0) := by rw [hb2.cell (p := ⟨w.heap.size, 0, none⟩) (by first | (simp; done) | (simp; omega) | omega)]; first | assumption | (simp [go_sem]; done) | (simp [go_sem, *]; done)
    have z2_0_0 : w2.frozen? ⟨w.heap.size, 0, none⟩ = false := by rw [hb2.frozen (p := ⟨w.heap.size, 0, none⟩) (by first | (simp; done) | (simp; omega) | omega)]; first | assumption | (simp [go_sem]; done) | (simp [go_sem, *]; done)
    have c2_0_1 : w2.cell? ⟨w.heap.size, 1, none⟩ = some (.int .i64 0) := by rw [hb2.cell (p := ⟨w.heap.size, 1, none⟩) (by first | (simp; done) | (simp; omega) | omega)]; first | assumption | (simp [go_sem]; done) | (simp [go_sem, *]; done)
    have z2_0_1 : w2.frozen? ⟨w.heap.size, 1, none⟩ = false := by rw [hb2.frozen (p := ⟨w.heap.size, 1, none⟩) (by first | (simp; done) | (simp; omega) | omega)]; first | assumption | (simp [go_sem]; done) | (simp [go_sem, *]; done)
    have c2_0_2 : w2.cell? ⟨w.heap.size, 2, none⟩ = some (.int .i64 0) := by rw [hb2.cell (p := ⟨w.heap.size, 2, none⟩) (by first | (simp; done) | (simp; omega) | omega)]; first | assumption | (simp [go_sem]; done) | (simp [go_sem, *]; done)
    have z2_0_2 : w2.frozen? ⟨w.heap.size, 2, none⟩ = false := by rw [hb2.frozen (p := ⟨w.heap.size, 2, none⟩) (by first | (simp; done) | (simp; omega) | omega)]; first | assumption | (simp [go_sem]; done) | (simp [go_sem, *]; done)
    have c2_0_3 : w2.cell? ⟨w.heap.size, 3, none⟩ = some (.int .i64 0) := by rw [hb2.cell (p := ⟨w.heap.size, 3, none⟩) (by first | (simp; done) | (simp; omega) | omega)]; first | assumption | (simp [go_sem]; done) | (simp [go_sem, *]; done)
    have z2_0_3 : w2.frozen? ⟨w.heap.size, 3, none⟩ = false := by rw [hb2.frozen (p := ⟨w.heap.size, 3, none⟩) (by first | (simp; done) | (simp; omega) | omega)]; first | assumption | (simp [go_sem]; done) | (simp [go_sem, *]; done)
    have c2_0_4 : w2.cell? ⟨w.heap.size, 4, none⟩ = some (.int .i64 0) := by rw [hb2.cell (p := ⟨w.heap.size, 4, none⟩) (by first | (simp; done) | (simp; omega) | omega)]; first | assumption | (simp [go_sem]; done) | (simp [go_sem, *]; done)
    have z2_0_4 : w2.frozen? ⟨w.heap.size, 4, none⟩ = false := by rw [hb2.frozen (p := ⟨w.heap.size, 4, none⟩) (by first | (simp; done) | (simp; omega) | omega)]; first | assumption | (simp [go_sem]; done) | (simp [go_sem, *]; done)
    have sz2_1 : w.heap.size + 1 < w2.heap.size := by have h := hb2.size; first | (simp at h; omega) | omega
    have c2_1_0 : w2.cell? ⟨w.heap.size + 1, 0, none⟩ = some (.int .u8 n) := by rw [hb2.cell (p := ⟨w.heap.size + 1, 0, none⟩) (by first | (simp; done) | (simp; omega) | omega)]; first | assumption | (simp [go_sem]; done) | (simp [go_sem, *]; done)
    have c2_1_1 : w2.cell? ⟨w.heap.size + 1, 1, none⟩ = some (.int .i64 A) := by rw [hb2.cell (p := ⟨w.heap.size + 1, 1, none⟩) (by first | (simp; done) | (simp; omega) | omega)]; first | assumption | (simp [go_sem]; done) | (simp [go_sem, *]; done)
    have c2_1_2 : w2.cell? ⟨w.heap.size + 1, 2, none⟩ = some (.int .i64 B) := by rw [hb2.cell (p := ⟨w.heap.size + 1, 2, none⟩) (by first | (simp; done) | (simp; omega) | omega)]; first | assumption | (simp [go_sem]; done) | (simp [go_sem, *]; done)
    have c2_1_3 : w2.cell? ⟨w.heap.size + 1, 3, none⟩ = some (.int .i64 C) := by rw [hb2.cell (p := ⟨w.heap.size + 1, 3, none⟩) (by first | (simp; done) | (simp; omega) | omega)]; first | assumption | (simp [go_sem]; done) | (simp [go_sem, *]; done)
    have c2_1_4 : w2.cell? ⟨w.heap.size + 1, 4, none⟩ = some (.int .i64 0) := by rw [hb2.cell (p := ⟨w.heap.size + 1, 4, none⟩) (by first | (simp; done) | (simp; omega) | omega)]; first | assumption | (simp [go_sem]; done) | (simp [go_sem, *]; done)
    have HB2 : Below w.heap.size w w2 := by
      repeat (first | (with_reducible exact Below.refl _ _) | (with_reducible apply bDrewN) | (with_reducible apply Below.drew) | (with_reducible exact HB1) | ((with_reducible apply bThen hb2); (focus first | (simp; done) | (simp; omega) | omega)) | ((with_reducible apply bSet); (focus first | (simp; done) | (simp; omega) | omega)) | ((with_reducible apply bAlloc); (focus first | (simp; done) | (simp; omega) | omega)))
    have hsz2 := HB2.size
    clear hb2 sz1_0 c1_0_0 z1_0_0 c1_0_1 z1_0_1 c1_0_2 z1_0_2 c1_0_3 z1_0_3 c1_0_4 z1_0_4 sz1_1 c1_1_0 c1_1_1 c1_1_2 c1_1_3 c1_1_4 hsz1
    go_wp2_with fail
    refine bodyPost_ret (v := .tuple #[.agg #[.int .u8 0, .int .i64 0, .int .i64 0, .int .i64 0, .int .i64 0], .bool false]) (run_result5 Tryd.results19 (fun _ => by kernel_rfl) (fun _ => by kernel_rfl) _ _ _ _ _ _ rfl rfl (by rw [c2_0_0]; simp) (by rw [c2_0_1]; simp) (by rw [c2_0_2]; simp) (by rw [c2_0_3]; simp) (by rw [c2_0_4]; simp)) rfl ⟨by rw [G.out], ?_⟩
    repeat (first | (with_reducible exact Below.refl _ _) | (with_reducible apply bDrewN) | (with_reducible apply Below.drew) | (with_reducible exact HB2) | ((with_reducible apply bSet); (focus first | (simp; done) | (simp; omega) | omega)) | ((with_reducible apply bAlloc); (focus first | (simp; done) | (simp; omega) | omega)))
  · have G := Lib.hid (rdecR_ok (x := x) hv g2)
    have k2 : (encW n A B C 0 != x) = false := by simpa using g2
    clear g2
    go_wp2_with fail
    refine (refEncode_any n A B C 0 _ hv).mono ?_
    rintro e w2 ⟨rfl, hb2⟩
    have sz2_0 : w.heap.size < w2.heap.size := by have h := hb2.size; first | (simp at h; omega) | omega
    have c2_0_0 : w2.cell? ⟨w.heap.size, 0, none⟩ = some (.int .u8 0) := by rw [hb2.cell (p := ⟨w.heap.size, 0, none⟩) (by first | (simp; done) | (simp; omega) | omega)]; first | assumption | (simp [go_sem]; done) | (simp [go_sem, *]; done)
    have z2_0_0 : w2.frozen? ⟨w.heap.size, 0, none⟩ = false := by rw [hb2.frozen (p := ⟨w.heap.size, 0, none⟩) (by first | (simp; done) | (simp; omega) | omega)]; first | assumption | (simp [go_sem]; done) | (simp [go_sem, *]; done)
    have c2_0_1 : w2.cell? ⟨w.heap.size, 1, none⟩ = some (.int .i64 0) := by rw [hb2.cell (p := ⟨w.heap.size, 1, none⟩) (by first | (simp; done) | (simp; omega) | omega)]; first | assumption | (simp [go_sem]; done) | (simp [go_sem, *]; done)
    have z2_0_1 : w2.frozen? ⟨w.heap.size, 1, none⟩ = false := by rw [hb2.frozen (p := ⟨w.heap.size, 1, none⟩) (by first | (simp; done) | (simp; omega) | omega)]; first | assumption | (simp [go_sem]; done) | (simp [go_sem, *]; done)
    have c2_0_2 : w2.cell? ⟨w.heap.size, 2, none⟩ = some (.int .i64 0) := by rw [hb2.cell (p := ⟨w.heap.size, 2, none⟩) (by first | (simp; done) | (simp; omega) | omega)]; first | assumption | (simp [go_sem]; done) | (simp [go_sem, *]; done)
    have z2_0_2 : w2.frozen? ⟨w.heap.size, 2, none⟩ = false := by rw [hb2.frozen (p := ⟨w.heap.size, 2, none⟩) (by first | (simp; done) | (simp; omega) | omega)]; first | assumption | (simp [go_sem]; done) | (simp [go_sem, *]; done)
    have c2_0_3 : w2.cell? ⟨w.heap.size, 3, none⟩ = some (.int .i64 0) := by rw [hb2.cell (p := ⟨w.heap.size, 3, none⟩) (by first | (simp; done) | (simp; omega) | omega)]; first | assumption | (simp [go_sem]; done) | (simp [go_sem, *]; done)
    have z2_0_3 : w2.frozen? ⟨w.heap.size, 3, none⟩ = false := by rw [hb2.frozen (p := ⟨w.heap.size, 3, none⟩) (by first | (simp; done) | (simp; omega) | omega)]; first | assumption | (simp [go_sem]; done) | (simp [go_sem, *]; done)
    have c2_0_4 : w2.cell? ⟨w.heap.size, 4, none⟩ = some (.int .i64 0) := by rw [hb2.cell (p := ⟨w.heap.size, 4, none⟩) (by first | (simp; done) | (simp; omega) | omega)]; first | assumption | (simp [go_sem]; done) | (simp [go_sem, *]; done)
    have z2_0_4 : w2.frozen? ⟨w.heap.size, 4, none⟩ = false := by rw [hb2.frozen (p := ⟨w.heap.size, 4, none⟩) (by first | (simp; done) | (simp; omega) | omega)]; first | assumption | (simp [go_sem]; done) | (simp [go_sem, *]; done)
    have sz2_1 : w.heap.size + 1 < w2.heap.size := by have h := hb2.size; first | (simp at h; omega) | omega
    have c2_1_0 : w2.cell? ⟨w.heap.size + 1, 0, none⟩ = some (.int .u8 n) := by rw [hb2.cell (p := ⟨w.heap.size + 1, 0, none⟩) (by first | (simp; done) | (simp; omega) | omega)]; first | assumption | (simp [go_sem]; done) | (simp [go_sem, *]; done)
    have c2_1_1 : w2.cell? ⟨w.heap.size + 1, 1, none⟩ = some (.int .i64 A) := by rw [hb2.cell (p := ⟨w.heap.size + 1, 1, none⟩) (by first | (simp; done) | (simp; omega) | omega)]; first | assumption | (simp [go_sem]; done) | (simp [go_sem, *]; done)
    have c2_1_2 : w2.cell? ⟨w.heap.size + 1, 2, none⟩ = some (.int .i64 B) := by rw [hb2.cell (p := ⟨w.heap.size + 1, 2, none⟩) (by first | (simp; done) | (simp; omega) | omega)]; first | assumption | (simp [go_sem]; done) | (simp [go_sem, *]; done)
    have c2_1_3 : w2.cell? ⟨w.heap.size + 1, 3, none⟩ = some (.int .i64 C) := by rw [hb2.cell (p := ⟨w.heap.size + 1, 3, none⟩) (by first | (simp; done) | (simp; omega) | omega)]; first | assumption | (simp [go_sem]; done) | (simp [go_sem, *]; done)
    have c2_1_4 : w2.cell? ⟨w.heap.size + 1, 4, none⟩ = some (.int .i64 0) := by rw [hb2.cell (p := ⟨w.heap.size + 1, 4, none⟩) (by first | (simp; done) | (simp; omega) | omega)]; first | assumption | (simp [go_sem]; done) | (simp [go_sem, *]; done)
    have HB2 : Below w.heap.size w w2 := by
      repeat (first | (with_reducible exact Below.refl _ _) | (with_reducible apply bDrewN) | (with_reducible apply Below.drew) | (with_reducible exact HB1) | ((with_reducible apply bThen hb2); (focus first | (simp; done) | (simp; omega) | omega)) | ((with_reducible apply bSet); (focus first | (simp; done) | (simp; omega) | omega)) | ((with_reducible apply bAlloc); (focus first | (simp; done) | (simp; omega) | omega)))
    have hsz2 := HB2.size
    clear hb2 sz1_0 c1_0_0 z1_0_0 c1_0_1 z1_0_1 c1_0_2 z1_0_2 c1_0_3 z1_0_3 c1_0_4 z1_0_4 sz1_1 c1_1_0 c1_1_1 c1_1_2 c1_1_3 c1_1_4 hsz1
    go_wp2_with fail
    refine bodyPost_ret (v := .tuple #[.agg #[.int .u8 n, .int .i64 A, .int .i64 B, .int .i64 C, .int .i64 0], .bool true]) (run_result5 Tryd.results19 (fun _ => by kernel_rfl) (fun _ => by kernel_rfl) _ _ _ _ _ _ rfl rfl (by rw [c2_0_0]; simp) (by rw [c2_0_1]; simp) (by rw [c2_0_2]; simp) (by rw [c2_0_3]; simp) (by rw [c2_0_4]; simp)) rfl ⟨by rw [G.out], ?_⟩
    repeat (first | (with_reducible exact Below.refl _ _) | (with_reducible apply bDrewN) | (with_reducible apply Below.drew) | (with_reducible exact HB2) | ((with_reducible apply bSet); (focus first | (simp; done) | (simp; omega) | omega)) | ((with_reducible apply bAlloc); (focus first | (simp; done) | (simp; omega) | omega)))

set_option maxHeartbeats 1600000 in
theorem rdecode_ai0 (x : Int) (n : Nat) (A V : Int) (hA : x / 4194304 % 16 = A) (bA : 0 ≤ A ∧ A ≤ 15) (hV : x % 262144 = V) (hV1 : 0 ≤ V ∧ V ≤ 131071) (lo hi : Int) (hlo : rlo n = lo) (hhi : rhi n = hi) (hlh : lo ≤ hi) (w : World) (hx0 : 0 ≤ x) (hx1 : x < 4294967296) (hop : x / 67108864 = n) (hn : n < 30) (hs : rfS n = ⟨#[65]⟩) :
    Calls Tryd.prog 19 #[.int .u32 x] w fun e w' => e = .returned (rdecR x n A 0 0 V) ∧ Below w.heap.size w w' := by
  go_enter Tryd.func19, Tryd.ntmps19
  go_wp2_with fail
  refine (format_any n _ hn).mono ?_
  rintro e w' ⟨rfl, rfl⟩
  go_wp2_with fail
  refine (refValid_any n A 0 0 V _).mono ?_
  rintro e w1 ⟨rfl, hb1⟩
  have sz1_0 : w.heap.size < w1.heap.size := by have h := hb1.size; first | (simp at h; omega) | omega
  have c1_0_0 : w1.cell? ⟨w.heap.size, 0, none⟩ = some (.int .u8 0) := by rw [hb1.cell (p := ⟨w.heap.size, 0, none⟩) (by first | (simp; done) | (simp; omega) | omega)]; first | assumption | (simp [go_sem]; done) | (simp [go_sem, *]; done)
  have z1_0_0 : w1.frozen? ⟨w.heap.size, 0, none⟩ = false := by rw [hb1.frozen (p := ⟨w.heap.size, 0, none⟩) (by first | (simp; done) | (simp; omega) | omega)]; first | assumption | (simp [go_sem]; done) | (simp [go_sem, *]; done)
  have c1_0_1 : w1.cell? ⟨w.heap.size, 1, none⟩ = some (.int .i64 0) := by rw [hb1.cell (p := ⟨w.heap.size, 1, none⟩) (by first | (simp; done) | (simp; omega) | omega)]; first | assumption | (simp [go_sem]; done) | (simp [go_sem, *]; done)
  have z1_0_1 : w1.frozen? ⟨w.heap.size, 1, none⟩ = false := by rw [hb1.frozen (p := ⟨w.heap.size, 1, none⟩) (by first | (simp; done) | (simp; omega) | omega)]; first | assumption | (simp [go_sem]; done) | (simp [go_sem, *]; done)
  have c1_0_2 : w1.cell? ⟨w.heap.size, 2, none⟩ = some (.int .i64 0) := by rw [hb1.cell (p := ⟨w.heap.size, 2, none⟩) (by first | (simp; done) | (simp; omega) | omega)]; first | assumption | (simp [go_sem]; done) | (simp [go_sem, *]; done)
  have z1_0_2 : w1.frozen? ⟨w.heap.size, 2, none⟩ = false := by rw [hb1.frozen (p := ⟨w.heap.size, 2, none⟩) (by first | (simp; done) | (simp; omega) | omega)]; first | assumption | (simp [go_sem]; done) | (simp [go_sem, *]; done)
  have c1_0_3 : w1.cell? ⟨w.heap.size, 3, none⟩ = some (.int .i64 0) := by rw [hb1.cell (p := ⟨w.heap.size, 3, none⟩) (by first | (simp; done) | (simp; omega) | omega)]; first | assumption | (simp [go_sem]; done) | (simp [go_sem, *]; done)
  have z1_0_3 : w1.frozen? ⟨w.heap.size, 3, none⟩ = false := by rw [hb1.frozen (p := ⟨w.heap.size, 3, none⟩) (by first | (simp; done) | (simp; omega) | omega)]; first | assumption | (simp [go_sem]; done) | (simp [go_sem, *]; done)
  have c1_0_4 : w1.cell? ⟨w.heap.size, 4, none⟩ = some (.int .i64 0) := by rw [hb1.cell (p := ⟨w.heap.size, 4, none⟩) (by first | (simp; done) | (simp; omega) | omega)]; first | assumption | (simp [go_sem]; done) | (simp [go_sem, *]; done)
  have z1_0_4 : w1.frozen? ⟨w.heap.size, 4, none⟩ = false := by rw [hb1.frozen (p := ⟨w.heap.size, 4, none⟩) (by first | (simp; done) | (simp; omega) | omega)]; first | assumption | (simp [go_sem]; done) | (simp [go_sem, *]; done)
  have sz1_1 : w.heap.size + 1 < w1.heap.size := by have h := hb1.size; first | (simp at h; omega) | omega
  have c1_1_0 : w1.cell? ⟨w.heap.size + 1, 0, none⟩ = some (.int .u8 n) := by rw [hb1.cell (p := ⟨w.heap.size + 1, 0, none⟩) (by first | (simp; done) | (simp; omega) | omega)]; first | assumption | (simp [go_sem]; done) | (simp [go_sem, *]; done)
  have c1_1_1 : w1.cell? ⟨w.heap.size + 1, 1, none⟩ = some (.int .i64 A) := by rw [hb1.cell (p := ⟨w.heap.size + 1, 1, none⟩) (by first | (simp; done) | (simp; omega) | omega)]; first | assumption | (simp [go_sem]; done) | (simp [go_sem, *]; done)
  have c1_1_2 : w1.cell? ⟨w.heap.size + 1, 2, none⟩ = some (.int .i64 0) := by rw [hb1.cell (p := ⟨w.heap.size + 1, 2, none⟩) (by first | (simp; done) | (simp; omega) | omega)]; first | assumption | (simp [go_sem]; done) | (simp [go_sem, *]; done)
  have c1_1_3 : w1.cell? ⟨w.heap.size + 1, 3, none⟩ = some (.int .i64 0) := by rw [hb1.cell (p := ⟨w.heap.size + 1, 3, none⟩) (by first | (simp; done) | (simp; omega) | omega)]; first | assumption | (simp [go_sem]; done) | (simp [go_sem, *]; done)
  have c1_1_4 : w1.cell? ⟨w.heap.size + 1, 4, none⟩ = some (.int .i64 V) := by rw [hb1.cell (p := ⟨w.heap.size + 1, 4, none⟩) (by first | (simp; done) | (simp; omega) | omega)]; first | assumption | (simp [go_sem]; done) | (simp [go_sem, *]; done)
  have HB1 : Below w.heap.size w w1 := by
    repeat (first | (with_reducible exact Below.refl _ _) | (with_reducible apply bDrewN) | (with_reducible apply Below.drew) | ((with_reducible apply bThen hb1); (focus first | (simp; done) | (simp; omega) | omega)) | ((with_reducible apply bSet); (focus first | (simp; done) | (simp; omega) | omega)) | ((with_reducible apply bAlloc); (focus first | (simp; done) | (simp; omega) | omega)))
  have hsz1 := HB1.size
  clear hb1 
  cases hv : vld n A 0 0 V
  · have G := Lib.hid (rdecR_bad (x := x) hv)
    go_wp2_with fail
    refine bodyPost_ret (v := .tuple #[.agg #[.int .u8 0, .int .i64 0, .int .i64 0, .int .i64 0, .int .i64 0], .bool false]) (run_result5 Tryd.results19 (fun _ => by kernel_rfl) (fun _ => by kernel_rfl) _ _ _ _ _ _ rfl rfl (by rw [c1_0_0]; simp) (by rw [c1_0_1]; simp) (by rw [c1_0_2]; simp) (by rw [c1_0_3]; simp) (by rw [c1_0_4]; simp)) rfl ⟨by rw [G.out], ?_⟩
    repeat (first | (with_reducible exact Below.refl _ _) | (with_reducible apply bDrewN) | (with_reducible apply Below.drew) | (with_reducible exact HB1) | ((with_reducible apply bSet); (focus first | (simp; done) | (simp; omega) | omega)) | ((with_reducible apply bAlloc); (focus first | (simp; done) | (simp; omega) | omega)))

  by_cases g2 : (encW n A 0 0 V != x) = true
  · have G := Lib.hid (rdecR_other (x := x) g2)
    go_wp2_with fail
    refine (refEncode_any n A 0 0 V _ hv).mono ?_
    rintro e w2 ⟨rfl, hb2⟩
    have sz2_0 : w.heap.size < w2.heap.size := by have h := hb2.size; first | (simp at h; omega) | omega
    have c2_0_0 : w2.cell? ⟨w.heap.size, 0, none⟩ = some (.int .u8 0) := by rw [hb2.cell (p := ⟨w.heap.size, 0, none⟩) (by first | (simp; done) | (simp; omega) | omega)]; first | assumption | (simp [go_sem]; done) | (simp [go_sem, *]; done)
    have z2_0_0 : w2.frozen? ⟨w.heap.size, 0, none⟩ = false := by rw [hb2.frozen (p := ⟨w.heap.size, 0, none⟩) (by first | (simp; done) | (simp; omega) | omega)]; first | assumption | (simp [go_sem]; done) | (simp [go_sem, *]; done)
    have c2_0_1 : w2.cell? ⟨w.heap.size, 1, none⟩ = some (.int .i64 0) := by rw [hb2.cell (p := ⟨w.heap.size, 1, none⟩) (by first | (simp; done) | (simp; omega) | omega)]; first | assumption | (simp [go_sem]; done) | (simp [go_sem, *]; done)
    have z2_0_1 : w2.frozen? ⟨w.heap.size, 1, none⟩ = false := by rw [hb2.frozen (p := ⟨w.heap.size, 1, none⟩) (by first | (simp; done) | (simp; omega) | omega)]; first | assumption | (simp [go_sem]; done) | (simp [go_sem, *]; done)
    have c2_0_2 : w2.cell? ⟨w.heap.size, 2, none⟩ = some (.int .i64 0) := by rw [hb2.cell (p := ⟨w.heap.size, 2, none⟩) (by first | (simp; done) | (simp; omega) | omega)]; first | assumption | (simp [go_sem]; done) | (simp [go_sem, *]; done)
    have z2_0_2 : w2.frozen? ⟨w.heap.size, 2, none⟩ = false := by rw [hb2.frozen (p := ⟨w.heap.size, 2, none⟩) (by first | (simp; done) | (simp; omega) | omega)]; first | assumption | (simp [go_sem]; done) | (simp [go_sem, *]; done)
    have c2_0_3 : w2.cell? ⟨w.heap.size, 3, none⟩ = some (.int .i64 0) := by rw [hb2.cell (p := ⟨w.heap.size, 3, none⟩) (by first | (simp; done) | (simp; omega) | omega)]; first | assumption | (simp [go_sem]; done) | (simp [go_sem, *]; done)
    have z2_0_3 : w2.frozen? ⟨w.heap.size, 3, none⟩ = false := by rw [hb2.frozen (p := ⟨w.heap.size, 3, none⟩) (by first | (simp; done) | (simp; omega) | omega)]; first | assumption | (simp [go_sem]; done) | (simp [go_sem, *]; done)
    have c2_0_4 : w2.cell? ⟨w.heap.size, 4, none⟩ = some (.int .i64 0) := by rw [hb2.cell (p := ⟨w.heap.size, 4, none⟩) (by first | (simp; done) | (simp; omega) | omega)]; first | assumption | (simp [go_sem]; done) | (simp [go_sem, *]; done)
    have z2_0_4 : w2.frozen? ⟨w.heap.size, 4, none⟩ = false := by rw [hb2.frozen (p := ⟨w.heap.size, 4, none⟩) (by first | (simp; done) | (simp; omega) | omega)]; first | assumption | (simp [go_sem]; done) | (simp [go_sem, *]; done)
    have sz2_1 : w.heap.size + 1 < w2.heap.size := by have h := hb2.size; first | (simp at h; omega) | omega
    have c2_1_0 : w2.cell? ⟨w.heap.size + 1, 0, none⟩ = some (.int .u8 n) := by rw [hb2.cell (p := ⟨w.heap.size + 1, 0, none⟩) (by first | (simp; done) | (simp; omega) | omega)]; first | assumption | (simp [go_sem]; done) | (simp [go_sem, *]; done)
    have c2_1_1 : w2.cell? ⟨w.heap.size + 1, 1, none⟩ = some (.int .i64 A) := by rw [hb2.cell (p := ⟨w.heap.size + 1, 1, none⟩) (by first | (simp; done) | (simp; omega) | omega)]; first | assumption | (simp [go_sem]; done) | (simp [go_sem, *]; done)
    have c2_1_2 : w2.cell? ⟨w.heap.size + 1, 2, none⟩ = some (.int .i64 0) := by rw [hb2.cell (p := ⟨w.heap.size + 1, 2, none⟩) (by first | (simp; done) | (simp; omega) | omega)]; first | assumption | (simp [go_sem]; done) | (simp [go_sem, *]; done)
    have c2_1_3 : w2.cell? ⟨w.heap.size + 1, 3, none⟩ = some (.int .i64 0) := by rw [hb2.cell (p := ⟨w.heap.size + 1, 3, none⟩) (by first | (simp; done) | (simp; omega) | omega)]; first | assumption | (simp [go_sem]; done) | (simp [go_sem, *]; done)
    have c2_1_4 : w2.cell? ⟨w.heap.size + 1, 4, none⟩ = some (.int .i64 V) := by rw [hb2.cell (p := ⟨w.heap.size + 1, 4, none⟩) (by first | (simp; done) | (simp; omega) | omega)]; first | assumption | (simp [go_sem]; done) | (simp [go_sem, *]; done)
    have HB2 : Below w.heap.size w w2 := by
      repeat (first | (with_reducible exact Below.refl _ _) | (with_reducible apply bDrewN) | (with_reducible apply Below.drew) | (with_reducible exact HB1) | ((with_reducible apply bThen hb2); (focus first | (simp; done) | (simp; omega) | omega)) | ((with_reducible apply bSet); (focus first | (simp; done) | (simp; omega) | omega)) | ((with_reducible apply bAlloc); (focus first | (simp; done) | (simp; omega) | omega)))
    have hsz2 := HB2.size
    clear hb2 sz1_0 c1_0_0 z1_0_0 c1_0_1 z1_0_1 c1_0_2 z1_0_2 c1_0_3 z1_0_3 c1_0_4 z1_0_4 sz1_1 c1_1_0 c1_1_1 c1_1_2 c1_1_3 c1_1_4 hsz1
    go_wp2_with fail
    refine bodyPost_ret (v := .tuple #[.agg #[.int .u8 0, .int .i64 0, .int .i64 0, .int .i64 0, .int .i64 0], .bool false]) (run_result5 Tryd.results19 (fun _ => by kernel_rfl) (fun _ => by kernel_rfl) _ _ _ _ _ _ rfl rfl (by rw [c2_0_0]; simp) (by rw [c2_0_1]; simp) (by rw [c2_0_2]; simp) (by rw [c2_0_3]; simp) (by rw [c2_0_4]; simp)) rfl ⟨by rw [G.out], ?_⟩
    repeat (first | (with_reducible exact Below.refl _ _) | (with_reducible apply bDrewN) | (with_reducible apply Below.drew) | (with_reducible exact HB2) | ((with_reducible apply bSet); (focus first | (simp; done) | (simp; omega) | omega)) | ((with_reducible apply bAlloc); (focus first | (simp; done) | (simp; omega) | omega)))
  · have G := Lib.hid (rdecR_ok (x := x) hv g2)
    have k2 : (encW n A 0 0 V != x) = false := by simpa using g2
    clear g2
    go_wp2_with fail
    refine (refEncode_any n A 0 0 V _ hv).mono ?_
    rintro e w2 ⟨rfl, hb2⟩
    have sz2_0 : w.heap.size < w2.heap.size := by have h := hb2.size; first | (simp at h; omega) | omega
    have c2_0_0 : w2.cell? ⟨w.heap.size, 0, none⟩ = some (.int .u8 0) := by rw [hb2.cell (p := ⟨w.heap.size, 0, none⟩) (by first | (simp; done) | (simp; omega) | omega)]; first | assumption | (simp [go_sem]; done) | (simp [go_sem, *]; done)
    have z2_0_0 : w2.frozen? ⟨w.heap.size, 0, none⟩ = false := by rw [hb2.frozen (p := ⟨w.heap.size, 0, none⟩) (by first | (simp; done) | (simp; omega) | omega)]; first | assumption | (simp [go_sem]; done) | (simp [go_sem, *]; done)
    have c2_0_1 : w2.cell? ⟨w.heap.size, 1, none⟩ = some (.int .i64 0) := by rw [hb2.cell (p := ⟨w.heap.size, 1, none⟩) (by first | (simp; done) | (simp; omega) | omega)]; first | assumption | (simp [go_sem]; done) | (simp [go_sem, *]; done)
    have z2_0_1 : w2.frozen? ⟨w.heap.size, 1, none⟩ = false := by rw [hb2.frozen (p := ⟨w.heap.size, 1, none⟩) (by first | (simp; done) | (simp; omega) | omega)]; first | assumption | (simp [go_sem]; done) | (simp [go_sem, *]; done)
    have c2_0_2 : w2.cell? ⟨w.heap.size, 2, none⟩ = some (.int .i64 0) := by rw [hb2.cell (p := ⟨w.heap.size, 2, none⟩) (by first | (simp; done) | (simp; omega) | omega)]; first | assumption | (simp [go_sem]; done) | (simp [go_sem, *]; done)
    have z2_0_2 : w2.frozen? ⟨w.heap.size, 2, none⟩ = false := by rw [hb2.frozen (p := ⟨w.heap.size, 2, none⟩) (by first | (simp; done) | (simp; omega) | omega)]; first | assumption | (simp [go_sem]; done) | (simp [go_sem, *]; done)
    have c2_0_3 : w2.cell? ⟨w.heap.size, 3, none⟩ = some (.int .i64 0) := by rw [hb2.cell (p := ⟨w.heap.size, 3, none⟩) (by first | (simp; done) | (simp; omega) | omega)]; first | assumption | (simp [go_sem]; done) | (simp [go_sem, *]; done)
    have z2_0_3 : w2.frozen? ⟨w.heap.size, 3, none⟩ = false := by rw [hb2.frozen (p := ⟨w.heap.size, 3, none⟩) (by first | (simp; done) | (simp; omega) | omega)]; first | assumption | (simp [go_sem]; done) | (simp [go_sem, *]; done)
    have c2_0_4 : w2.cell? ⟨w.heap.size, 4, none⟩ = some (.int .i64 0) := by rw [hb2.cell (p := ⟨w.heap.size, 4, none⟩) (by first | (simp; done) | (simp; omega) | omega)]; first | assumption | (simp [go_sem]; done) | (simp [go_sem, *]; done)
    have z2_0_4 : w2.frozen? ⟨w.heap.size, 4, none⟩ = false := by rw [hb2.frozen (p := ⟨w.heap.size, 4, none⟩) (by first | (simp; done) | (simp; omega) | omega)]; first | assumption | (simp [go_sem]; done) | (simp [go_sem, *]; done)
    have sz2_1 : w.heap.size + 1 < w2.heap.size := by have h := hb2.size; first | (simp at h; omega) | omega
    have c2_1_0 : w2.cell? ⟨w.heap.size + 1, 0, none⟩ = some (.int .u8 n) := by rw [hb2.cell (p := ⟨w.heap.size + 1, 0, none⟩) (by first | (simp; done) | (simp; omega) | omega)]; first | assumption | (simp [go_sem]; done) | (simp [go_sem, *]; done)
    have c2_1_1 : w2.cell? ⟨w.heap.size + 1, 1, none⟩ = some (.int .i64 A) := by rw [hb2.cell (p := ⟨w.heap.size + 1, 1, none⟩) (by first | (simp; done) | (simp; omega) | omega)]; first | assumption | (simp [go_sem]; done) | (simp [go_sem, *]; done)
    have c2_1_2 : w2.cell? ⟨w.heap.size + 1, 2, none⟩ = some (.int .i64 0) := by rw [hb2.cell (p := ⟨w.heap.size + 1, 2, none⟩) (by first | (simp; done) | (simp; omega) | omega)]; first | assumption | (simp [go_sem]; done) | (simp [go_sem, *]; done)
    have c2_1_3 : w2.cell? ⟨w.heap.size + 1, 3, none⟩ = some (.int .i64 0) := by rw [hb2.cell (p := ⟨w.heap.size + 1, 3, none⟩) (by first | (simp; done) | (simp; omega) | omega)]; first | assumption | (simp [go_sem]; done) | (simp [go_sem, *]; done)
    have c2_1_4 : w2.cell? ⟨w.heap.size + 1, 4, none⟩ = some (.int .i64 V) := by rw [hb2.cell (p := ⟨w.heap.size + 1, 4, none⟩) (by first | (simp; done) | (simp; omega) | omega)]; first | assumption | (simp [go_sem]; done) | (simp [go_sem, *]; done)
    have HB2 : Below w.heap.size w w2 := by
      repeat (first | (with_reducible exact Below.refl _ _) | (with_reducible apply bDrewN) | (with_reducible apply Below.drew) | (with_reducible exact HB1) | ((with_reducible apply bThen hb2); (focus first | (simp; done) | (simp; omega) | omega)) | ((with_reducible apply bSet); (focus first | (simp; done) | (simp; omega) | omega)) | ((with_reducible apply bAlloc); (focus first | (simp; done) | (simp; omega) | omega)))
    have hsz2 := HB2.size
    clear hb2 sz1_0 c1_0_0 z1_0_0 c1_0_1 z1_0_1 c1_0_2 z1_0_2 c1_0_3 z1_0_3 c1_0_4 z1_0_4 sz1_1 c1_1_0 c1_1_1 c1_1_2 c1_1_3 c1_1_4 hsz1
    go_wp2_with fail
    refine bodyPost_ret (v := .tuple #[.agg #[.int .u8 n, .int .i64 A, .int .i64 0, .int .i64 0, .int .i64 V], .bool true]) (run_result5 Tryd.results19 (fun _ => by kernel_rfl) (fun _ => by kernel_rfl) _ _ _ _ _ _ rfl rfl (by rw [c2_0_0]; simp) (by rw [c2_0_1]; simp) (by rw [c2_0_2]; simp) (by rw [c2_0_3]; simp) (by rw [c2_0_4]; simp)) rfl ⟨by rw [G.out], ?_⟩
    repeat (first | (with_reducible exact Below.refl _ _) | (with_reducible apply bDrewN) | (with_reducible apply Below.drew) | (with_reducible exact HB2) | ((with_reducible apply bSet); (focus first | (simp; done) | (simp; omega) | omega)) | ((with_reducible apply bAlloc); (focus first | (simp; done) | (simp; omega) | omega)))

set_option maxHeartbeats 1600000 in
theorem rdecode_ai1 (x : Int) (n : Nat) (A V : Int) (hA : x / 4194304 % 16 = A) (bA : 0 ≤ A ∧ A ≤ 15) (hV : x % 262144 = V) (hV1 : 131071 < V) (hV2 : V < 262144) (lo hi : Int) (hlo : rlo n = lo) (hhi : rhi n = hi) (hlh : lo ≤ hi) (w : World) (hx0 : 0 ≤ x) (hx1 : x < 4294967296) (hop : x / 67108864 = n) (hn : n < 30) (hs : rfS n = ⟨#[65]⟩) :
    Calls Tryd.prog 19 #[.int .u32 x] w fun e w' => e = .returned (rdecR x n A 0 0 (V - 262144)) ∧ Below w.heap.size w w' := by
  go_enter Tryd.func19, Tryd.ntmps19
  go_wp2_with fail
  refine (format_any n _ hn).mono ?_
  rintro e w' ⟨rfl, rfl⟩
  go_wp2_with fail
  refine (refValid_any n A 0 0 (V - 262144) _).mono ?_
  rintro e w1 ⟨rfl, hb1⟩
  have sz1_0 : w.heap.size < w1.heap.size := by have h := hb1.size; first | (simp at h; omega) | omega
  have c1_0_0 : w1.cell? ⟨w.heap.size, 0, none⟩ = some (.int .u8 0) := by rw [hb1.cell (p := ⟨w.heap.size, 0, none⟩) (by first | (simp; done) | (simp; omega) | omega)]; first | assumption | (simp [go_sem]; done) | (simp [go_sem, *]; done)
  have z1_0_0 : w1.frozen? ⟨w.heap.size, 0, none⟩ = false := by rw [hb1.frozen (p := ⟨w.heap.size, 0, none⟩) (by first | (simp; done) | (simp; omega) | omega)]; first | assumption | (simp [go_sem]; done) | (simp [go_sem, *]; done)
  have c1_0_1 : w1.cell? ⟨w.heap.size, 1, none⟩ = some (.int .i64 0) := by rw [hb1.cell (p := ⟨w.heap.size, 1, none⟩) (by first | (simp; done) | (simp; omega) | omega)]; first | assumption | (simp [go_sem]; done) | (simp [go_sem, *]; done)
  have z1_0_1 : w1.frozen? ⟨w.heap.size, 1, none⟩ = false := by rw [hb1.frozen (p := ⟨w.heap.size, 1, none⟩) (by first | (simp; done) | (simp; omega) | omega)]; first | assumption | (simp [go_sem]; done) | (simp [go_sem, *]; done)
  have c1_0_2 : w1.cell? ⟨w.heap.size, 2, none⟩ = some (.int .i64 0) := by rw [hb1.cell (p := ⟨w.heap.size, 2, none⟩) (by first | (simp; done) | (simp; omega) | omega)]; first | assumption | (simp [go_sem]; done) | (simp [go_sem, *]; done)
  have z1_0_2 : w1.frozen? ⟨w.heap.size, 2, none⟩ = false := by rw [hb1.frozen (p := ⟨w.heap.size, 2, none⟩) (by first | (simp; done) | (simp; omega) | omega)]; first | assumption | (simp [go_sem]; done) | (simp [go_sem, *]; done)
  have c1_0_3 : w1.cell? ⟨w.heap.size, 3, none⟩ = some (.int .i64 0) := by rw [hb1.cell (p := ⟨w.heap.size, 3, none⟩) (by first | (simp; done) | (simp; omega) | omega)]; first | assumption | (simp [go_sem]; done) | (simp [go_sem, *]; done)
  have z1_0_3 : w1.frozen? ⟨w.heap.size, 3, none⟩ = false := by rw [hb1.frozen (p := ⟨w.heap.size, 3, none⟩) (by first | (simp; done) | (simp; omega) | omega)]; first | assumption | (simp [go_sem]; done) | (simp [go_sem, *]; done)
  have c1_0_4 : w1.cell? ⟨w.heap.size, 4, none⟩ = some (.int .i64 0) := by rw [hb1.cell (p := ⟨w.heap.size, 4, none⟩) (by first | (simp; done) | (simp; omega) | omega)]; first | assumption | (simp [go_sem]; done) | (simp [go_sem, *]; done)
  have z1_0_4 : w1.frozen? ⟨w.heap.size, 4, none⟩ = false := by rw [hb1.frozen (p := ⟨w.heap.size, 4, none⟩) (by first | (simp; done) | (simp; omega) | omega)]; first | assumption | (simp [go_sem]; done) | (simp [go_sem, *]; done)
  have sz1_1 : w.heap.size + 1 < w1.heap.size := by have h := hb1.size; first | (simp at h; omega) | omega
  have c1_1_0 : w1.cell? ⟨w.heap.size + 1, 0, none⟩ = some (.int .u8 n) := by rw [hb1.cell (p := ⟨w.heap.size + 1, 0, none⟩) (by first | (simp; done) | (simp; omega) | omega)]; first | assumption | (simp [go_sem]; done) | (simp [go_sem, *]; done)
  have c1_1_1 : w1.cell? ⟨w.heap.size + 1, 1, none⟩ = some (.int .i64 A) := by rw [hb1.cell (p := ⟨w.heap.size + 1, 1, none⟩) (by first | (simp; done) | (simp; omega) | omega)]; first | assumption | (simp [go_sem]; done) | (simp [go_sem, *]; done)
  have c1_1_2 : w1.cell? ⟨w.heap.size + 1, 2, none⟩ = some (.int .i64 0) := by rw [hb1.cell (p := ⟨w.heap.size + 1, 2, none⟩) (by first | (simp; done) | (simp; omega) | omega)]; first | assumption | (simp [go_sem]; done) | (simp [go_sem, *]; done)
  have c1_1_3 : w1.cell? ⟨w.heap.size + 1, 3, none⟩ = some (.int .i64 0) := by rw [hb1.cell (p := ⟨w.heap.size + 1, 3, none⟩) (by first | (simp; done) | (simp; omega) | omega)]; first | assumption | (simp [go_sem]; done) | (simp [go_sem, *]; done)
  have c1_1_4 : w1.cell? ⟨w.heap.size + 1, 4, none⟩ = some (.int .i64 (V - 262144)) := by rw [hb1.cell (p := ⟨w.heap.size + 1, 4, none⟩) (by first | (simp; done) | (simp; omega) | omega)]; first | assumption | (simp [go_sem]; done) | (simp [go_sem, *]; done)
  have HB1 : Below w.heap.size w w1 := by
    repeat (first | (with_reducible exact Below.refl _ _) | (with_reducible apply bDrewN) | (with_reducible apply Below.drew) | ((with_reducible apply bThen hb1); (focus first | (simp; done) | (simp; omega) | omega)) | ((with_reducible apply bSet); (focus first | (simp; done) | (simp; omega) | omega)) | ((with_reducible apply bAlloc); (focus first | (simp; done) | (simp; omega) | omega)))
  have hsz1 := HB1.size
  clear hb1 
  cases hv : vld n A 0 0 (V - 262144)
  · have G := Lib.hid (rdecR_bad (x := x) hv)
    go_wp2_with fail
    refine bodyPost_ret (v := .tuple #[.agg #[.int .u8 0, .int .i64 0, .int .i64 0, .int .i64 0, .int .i64 0], .bool false]) (run_result5 Tryd.results19 (fun _ => by kernel_rfl) (fun _ => by kernel_rfl) _ _ _ _ _ _ rfl rfl (by rw [c1_0_0]; simp) (by rw [c1_0_1]; simp) (by rw [c1_0_2]; simp) (by rw [c1_0_3]; simp) (by rw [c1_0_4]; simp)) rfl ⟨by rw [G.out], ?_⟩
    repeat (first | (with_reducible exact Below.refl _ _) | (with_reducible apply bDrewN) | (with_reducible apply Below.drew) | (with_reducible exact HB1) | ((with_reducible apply bSet); (focus first | (simp; done) | (simp; omega) | omega)) | ((with_reducible apply bAlloc); (focus first | (simp; done) | (simp; omega) | omega)))

  by_cases g2 : (encW n A 0 0 (V - 262144) != x) = true
  · have G := Lib.hid (rdecR_other (x := x) g2)
    go_wp2_with fail
    refine (refEncode_any n A 0 0 (V - 262144) _ hv).mono ?_
    rintro e w2 ⟨rfl, hb2⟩
    have sz2_0 : w.heap.size < w2.heap.size := by have h := hb2.size; first | (simp at h; omega) | omega
    have c2_0_0 : w2.cell? ⟨w.heap.size, 0, none⟩ = some (.int .u8 0) := by rw [hb2.cell (p := ⟨w.heap.size, 0, none⟩) (by first | (simp; done) | (simp; omega) | omega)]; first | assumption | (simp [go_sem]; done) | (simp [go_sem, *]; done)
    have z2_0_0 : w2.frozen? ⟨w.heap.size, 0, none⟩ = false := by rw [hb2.frozen (p := ⟨w.heap.size, 0, none⟩) (by first | (simp; done) | (simp; omega) | omega)]; first | assumption | (simp [go_sem]; done) | (simp [go_sem, *]; done)
    have c2_0_1 : w2.cell? ⟨w.heap.size, 1, none⟩ = some (.int .i64 0) := by rw [hb2.cell (p := ⟨w.heap.size, 1, none⟩) (by first | (simp; done) | (simp; omega) | omega)]; first | assumption | (simp [go_sem]; done) | (simp [go_sem, *]; done)
    have z2_0_1 : w2.frozen? ⟨w.heap.size, 1, none⟩ = false := by rw [hb2.frozen (p := ⟨w.heap.size, 1, none⟩) (by first | (simp; done) | (simp; omega) | omega)]; first | assumption | (simp [go_sem]; done) | (simp [go_sem, *]; done)
    have c2_0_2 : w2.cell? ⟨w.heap.size, 2, none⟩ = some (.int .i64 0) := by rw [hb2.cell (p := ⟨w.heap.size, 2, none⟩) (by first | (simp; done) | (simp; omega) | omega)]; first | assumption | (simp [go_sem]; done) | (simp [go_sem, *]; done)
    have z2_0_2 : w2.frozen? ⟨w.heap.size, 2, none⟩ = false := by rw [hb2.frozen (p := ⟨w.heap.size, 2, none⟩) (by first | (simp; done) | (simp; omega) | omega)]; first | assumption | (simp [go_sem]; done) | (simp [go_sem, *]; done)
    have c2_0_3 : w2.cell? ⟨w.heap.size, 3, none⟩ = some (.int .i64 0) := by rw [hb2.cell (p := ⟨w.heap.size, 3, none⟩) (by first | (simp; done) | (simp; omega) | omega)]; first | assumption | (simp [go_sem]; done) | (simp [go_sem, *]; done)
    have z2_0_3 : w2.frozen? ⟨w.heap.size, 3, none⟩ = false := by rw [hb2.frozen (p := ⟨w.heap.size, 3, none⟩) (by first | (simp; done) | (simp; omega) | omega)]; first | assumption | (simp [go_sem]; done) | (simp [go_sem, *]; done)
    have c2_0_4 : w2.cell? ⟨w.heap.size, 4, none⟩ = some (.int .i64 0) := by rw [hb2.cell (p := ⟨w.heap.size, 4, none⟩) (by first | (simp; done) | (simp; omega) | omega)]; first | assumption | (simp [go_sem]; done) | (simp [go_sem, *]; done)
    have z2_0_4 : w2.frozen? ⟨w.heap.size, 4, none⟩ = false := by rw [hb2.frozen (p := ⟨w.heap.size, 4, none⟩) (by first | (simp; done) | (simp; omega) | omega)]; first | assumption | (simp [go_sem]; done) | (simp [go_sem, *]; done)
    have sz2_1 : w.heap.size + 1 < w2.heap.size := by have h := hb2.size; first | (simp at h; omega) | omega
    have c2_1_0 : w2.cell? ⟨w.heap.size + 1, 0, none⟩ = some (.int .u8 n) := by rw [hb2.cell (p := ⟨w.heap.size + 1, 0, none⟩) (by first | (simp; done) | (simp; omega) | omega)]; first | assumption | (simp [go_sem]; done) | (simp [go_sem, *]; done)
    have c2_1_1 : w2.cell? ⟨w.heap.size + 1, 1, none⟩ = some (.int .i64 A) := by rw [hb2.cell (p := ⟨w.heap.size + 1, 1, none⟩) (by first | (simp; done) | (simp; omega) | omega)]; first | assumption | (simp [go_sem]; done) | (simp [go_sem, *]; done)
    have c2_1_2 : w2.cell? ⟨w.heap.size + 1, 2, none⟩ = some (.int .i64 0) := by rw [hb2.cell (p := ⟨w.heap.size + 1, 2, none⟩) (by first | (simp; done) | (simp; omega) | omega)]; first | assumption | (simp [go_sem]; done) | (simp [go_sem, *]; done)
    have c2_1_3 : w2.cell? ⟨w.heap.size + 1, 3, none⟩ = some (.int .i64 0) := by rw [hb2.cell (p := ⟨w.heap.size + 1, 3, none⟩) (by first | (simp; done) | (simp; omega) | omega)]; first | assumption | (simp [go_sem]; done) | (simp [go_sem, *]; done)
    have c2_1_4 : w2.cell? ⟨w.heap.size + 1, 4, none⟩ = some (.int .i64 (V - 262144)) := by rw [hb2.cell (p := ⟨w.heap.size + 1, 4, none⟩) (by first | (simp; done) | (simp; omega) | omega)]; first | assumption | (simp [go_sem]; done) | (simp [go_sem, *]; done)
    have HB2 : Below w.heap.size w w2 := by
      repeat (first | (with_reducible exact Below.refl _ _) | (with_reducible apply bDrewN) | (with_reducible apply Below.drew) | (with_reducible exact HB1) | ((with_reducible apply bThen hb2); (focus first | (simp; done) | (simp; omega) | omega)) | ((with_reducible apply bSet); (focus first | (simp; done) | (simp; omega) | omega)) | ((with_reducible apply bAlloc); (focus first | (simp; done) | (simp; omega) | omega)))
    have hsz2 := HB2.size
    clear hb2 sz1_0 c1_0_0 z1_0_0 c1_0_1 z1_0_1 c1_0_2 z1_0_2 c1_0_3 z1_0_3 c1_0_4 z1_0_4 sz1_1 c1_1_0 c1_1_1 c1_1_2 c1_1_3 c1_1_4 hsz1
    go_wp2_with fail
    refine bodyPost_ret (v := .tuple #[.agg #[.int .u8 0, .int .i64 0, .int .i64 0, .int .i64 0, .int .i64 0], .bool false]) (run_result5 Tryd.results19 (fun _ => by kernel_rfl) (fun _ => by kernel_rfl) _ _ _ _ _ _ rfl rfl (by rw [c2_0_0]; simp) (by rw [c2_0_1]; simp) (by rw [c2_0_2]; simp) (by rw [c2_0_3]; simp) (by rw [c2_0_4]; simp)) rfl ⟨by rw [G.out], ?_⟩
    repeat (first | (with_reducible exact Below.refl _ _) | (with_reducible apply bDrewN) | (with_reducible apply Below.drew) | (with_reducible exact HB2) | ((with_reducible apply bSet); (focus first | (simp; done) | (simp; omega) | omega)) | ((with_reducible apply bAlloc); (focus first | (simp; done) | (simp; omega) | omega)))
  · have G := Lib.hid (rdecR_ok (x := x) hv g2)
    have k2 : (encW n A 0 0 (V - 262144) != x) = false := by simpa using g2
    clear g2
    go_wp2_with fail
    refine (refEncode_any n A 0 0 (V - 262144) _ hv).mono ?_
    rintro e w2 ⟨rfl, hb2⟩
    have sz2_0 : w.heap.size < w2.heap.size := by have h := hb2.size; first | (simp at h; omega) | omega
    have c2_0_0 : w2.cell? ⟨w.heap.size, 0, none⟩ = some (.int .u8 0) := by rw [hb2.cell (p := ⟨w.heap.size, 0, none⟩) (by first | (simp; done) | (simp; omega) | omega)]; first | assumption | (simp [go_sem]; done) | (simp [go_sem, *]; done)
    have z2_0_0 : w2.frozen? ⟨w.heap.size, 0, none⟩ = false := by rw [hb2.frozen (p := ⟨w.heap.size, 0, none⟩) (by first | (simp; done) | (simp; omega) | omega)]; first | assumption | (simp [go_sem]; done) | (simp [go_sem, *]; done)
    have c2_0_1 : w2.cell? ⟨w.heap.size, 1, none⟩ = some (.int .i64 0) := by rw [hb2.cell (p := ⟨w.heap.size, 1, none⟩) (by first | (simp; done) | (simp; omega) | omega)]; first | assumption | (simp [go_sem]; done) | (simp [go_sem, *]; done)
    have z2_0_1 : w2.frozen? ⟨w.heap.size, 1, none⟩ = false := by rw [hb2.frozen (p := ⟨w.heap.size, 1, none⟩) (by first | (simp; done) | (simp; omega) | omega)]; first | assumption | (simp [go_sem]; done) | (simp [go_sem, *]; done)
    have c2_0_2 : w2.cell? ⟨w.heap.size, 2, none⟩ = some (.int .i64 0) := by rw [hb2.cell (p := ⟨w.heap.size, 2, none⟩) (by first | (simp; done) | (simp; omega) | omega)]; first | assumption | (simp [go_sem]; done) | (simp [go_sem, *]; done)
    have z2_0_2 : w2.frozen? ⟨w.heap.size, 2, none⟩ = false := by rw [hb2.frozen (p := ⟨w.heap.size, 2, none⟩) (by first | (simp; done) | (simp; omega) | omega)]; first | assumption | (simp [go_sem]; done) | (simp [go_sem, *]; done)
    have c2_0_3 : w2.cell? ⟨w.heap.size, 3, none⟩ = some (.int .i64 0) := by rw [hb2.cell (p := ⟨w.heap.size, 3, none⟩) (by first | (simp; done) | (simp; omega) | omega)]; first | assumption | (simp [go_sem]; done) | (simp [go_sem, *]; done)
    have z2_0_3 : w2.frozen? ⟨w.heap.size, 3, none⟩ = false := by rw [hb2.frozen (p := ⟨w.heap.size, 3, none⟩) (by first | (simp; done) | (simp; omega) | omega)]; first | assumption | (simp [go_sem]; done) | (simp [go_sem, *]; done)
    have c2_0_4 : w2.cell? ⟨w.heap.size, 4, none⟩ = some (.int .i64 0) := by rw [hb2.cell (p := ⟨w.heap.size, 4, none⟩) (by first | (simp; done) | (simp; omega) | omega)]; first | assumption | (simp [go_sem]; done) | (simp [go_sem, *]; done)
    have z2_0_4 : w2.frozen? ⟨w.heap.size, 4, none⟩ = false := by rw [hb2.frozen (p := ⟨w.heap.size, 4, none⟩) (by first | (simp; done) | (simp; omega) | omega)]; first | assumption | (simp [go_sem]; done) | (simp [go_sem, *]; done)
    have sz2_1 : w.heap.size + 1 < w2.heap.size := by have h := hb2.size; first | (simp at h; omega) | omega
    have c2_1_0 : w2.cell? ⟨w.heap.size + 1, 0, none⟩ = some (.int .u8 n) := by rw [hb2.cell (p := ⟨w.heap.size + 1, 0, none⟩) (by first | (simp; done) | (simp; omega) | omega)]; first | assumption | (simp [go_sem]; done) | (simp [go_sem, *]; done)
    have c2_1_1 : w2.cell? ⟨w.heap.size + 1, 1, none⟩ = some (.int .i64 A) := by rw [hb2.cell (p := ⟨w.heap.size + 1, 1, none⟩) (by first | (simp; done) | (simp; omega) | omega)]; first | assumption | (simp [go_sem]; done) | (simp [go_sem, *]; done)
    have c2_1_2 : w2.cell? ⟨w.heap.size + 1, 2, none⟩ = some (.int .i64 0) := by rw [hb2.cell (p := ⟨w.heap.size + 1, 2, none⟩) (by first | (simp; done) | (simp; omega) | omega)]; first | assumption | (simp [go_sem]; done) | (simp [go_sem, *]; done)
    have c2_1_3 : w2.cell? ⟨w.heap.size + 1, 3, none⟩ = some (.int .i64 0) := by rw [hb2.cell (p := ⟨w.heap.size + 1, 3, none⟩) (by first | (simp; done) | (simp; omega) | omega)]; first | assumption | (simp [go_sem]; done) | (simp [go_sem, *]; done)
    have c2_1_4 : w2.cell? ⟨w.heap.size + 1, 4, none⟩ = some (.int .i64 (V - 262144)) := by rw [hb2.cell (p := ⟨w.heap.size + 1, 4, none⟩) (by first | (simp; done) | (simp; omega) | omega)]; first | assumption | (simp [go_sem]; done) | (simp [go_sem, *]; done)
    have HB2 : Below w.heap.size w w2 := by
      repeat (first | (with_reducible exact Below.refl _ _) | (with_reducible apply bDrewN) | (with_reducible apply Below.drew) | (with_reducible exact HB1) | ((with_reducible apply bThen hb2); (focus first | (simp; done) | (simp; omega) | omega)) | ((with_reducible apply bSet); (focus first | (simp; done) | (simp; omega) | omega)) | ((with_reducible apply bAlloc); (focus first | (simp; done) | (simp; omega) | omega)))
    have hsz2 := HB2.size
    clear hb2 sz1_0 c1_0_0 z1_0_0 c1_0_1 z1_0_1 c1_0_2 z1_0_2 c1_0_3 z1_0_3 c1_0_4 z1_0_4 sz1_1 c1_1_0 c1_1_1 c1_1_2 c1_1_3 c1_1_4 hsz1
    go_wp2_with fail
    refine bodyPost_ret (v := .tuple #[.agg #[.int .u8 n, .int .i64 A, .int .i64 0, .int .i64 0, .int .i64 (V - 262144)], .bool true]) (run_result5 Tryd.results19 (fun _ => by kernel_rfl) (fun _ => by kernel_rfl) _ _ _ _ _ _ rfl rfl (by rw [c2_0_0]; simp) (by rw [c2_0_1]; simp) (by rw [c2_0_2]; simp) (by rw [c2_0_3]; simp) (by rw [c2_0_4]; simp)) rfl ⟨by rw [G.out], ?_⟩
    repeat (first | (with_reducible exact Below.refl _ _) | (with_reducible apply bDrewN) | (with_reducible apply Below.drew) | (with_reducible exact HB2) | ((with_reducible apply bSet); (focus first | (simp; done) | (simp; omega) | omega)) | ((with_reducible apply bAlloc); (focus first | (simp; done) | (simp; omega) | omega)))

set_option maxHeartbeats 1600000 in
theorem rdecode_abi0 (x : Int) (n : Nat) (A B V : Int) (hA : x / 4194304 % 16 = A) (bA : 0 ≤ A ∧ A ≤ 15) (hB : x / 262144 % 16 = B) (bB : 0 ≤ B ∧ B ≤ 15) (hV : x % 262144 = V) (hV1 : 0 ≤ V ∧ V ≤ 131071) (lo hi : Int) (hlo : rlo n = lo) (hhi : rhi n = hi) (hlh : lo ≤ hi) (w : World) (hx0 : 0 ≤ x) (hx1 : x < 4294967296) (hop : x / 67108864 = n) (hn : n < 30) (hs : rfS n = ⟨#[65, 66]⟩) :
    Calls Tryd.prog 19 #[.int .u32 x] w fun e w' => e = .returned (rdecR x n A B 0 V) ∧ Below w.heap.size w w' := by
  go_enter Tryd.func19, Tryd.ntmps19
  go_wp2_with fail
  refine (format_any n _ hn).mono ?_
  rintro e w' ⟨rfl, rfl⟩
  go_wp2_with fail
  refine (refValid_any n A B 0 V _).mono ?_
  rintro e w1 ⟨rfl, hb1⟩
  have sz1_0 : w.heap.size < w1.heap.size := by have h := hb1.size; first | (simp at h; omega) | omega
  have c1_0_0 : w1.cell? ⟨w.heap.size, 0, none⟩ = some (.int .u8 0) := by rw [hb1.cell (p := ⟨w.heap.size, 0, none⟩) (by first | (simp; done) | (simp; omega) | omega)]; first | assumption | (simp [go_sem]; done) | (simp [go_sem, *]; done)
  have z1_0_0 : w1.frozen? ⟨w.heap.size, 0, none⟩ = false := by rw [hb1.frozen (p := ⟨w.heap.size, 0, none⟩) (by first | (simp; done) | (simp; omega) | omega)]; first | assumption | (simp [go_sem]; done) | (simp [go_sem, *]; done)
  have c1_0_1 : w1.cell? ⟨w.heap.size, 1, none⟩ = some (.int .i64 0) := by rw [hb1.cell (p := ⟨w.heap.size, 1, none⟩) (by first | (simp; done) | (simp; omega) | omega)]; first | assumption | (simp [go_sem]; done) | (simp [go_sem, *]; done)
  have z1_0_1 : w1.frozen? ⟨w.heap.size, 1, none⟩ = false := by rw [hb1.frozen (p := ⟨w.heap.size, 1, none⟩) (by first | (simp; done) | (simp; omega) | omega)]; first | assumption | (simp [go_sem]; done) | (simp [go_sem, *]; done)
  have c1_0_2 : w1.cell? ⟨w.heap.size, 2, none⟩ = some (.int .i64 0) := by rw [hb1.cell (p := ⟨w.heap.size, 2, none⟩) (by first | (simp; done) | (simp; omega) | omega)]; first | assumption | (simp [go_sem]; done) | (simp [go_sem, *]; done)
  have z1_0_2 : w1.frozen? ⟨w.heap.size, 2, none⟩ = false := by rw [hb1.frozen (p := ⟨w.heap.size, 2, none⟩) (by first | (simp; done) | (simp; omega) | omega)]; first | assumption | (simp [go_sem]; done) | (simp [go_sem, *]; done)
  have c1_0_3 : w1.cell? ⟨w.heap.size, 3, none⟩ = some (.int .i64 0) := by rw [hb1.cell (p := ⟨w.heap.size, 3, none⟩) (by first | (simp; done) | (simp; omega) | omega)]; first | assumption | (simp [go_sem]; done) | (simp [go_sem, *]; done)
  have z1_0_3 : w1.frozen? ⟨w.heap.size, 3, none⟩ = false := by rw [hb1.frozen (p := ⟨w.heap.size, 3, none⟩) (by first | (simp; done) | (simp; omega) | omega)]; first | assumption | (simp [go_sem]; done) | (simp [go_sem, *]; done)
  have c1_0_4 : w1.cell? ⟨w.heap.size, 4, none⟩ = some (.int .i64 0) := by rw [hb1.cell (p := ⟨w.heap.size, 4, none⟩) (by first | (simp; done) | (simp; omega) | omega)]; first | assumption | (simp [go_sem]; done) | (simp [go_sem, *]; done)
  have z1_0_4 : w1.frozen? ⟨w.heap.size, 4, none⟩ = false := by rw [hb1.frozen (p := ⟨w.heap.size, 4, none⟩) (by first | (simp; done) | (simp; omega) | omega)]; first | assumption | (simp [go_sem]; done) | (simp [go_sem, *]; done)
  have sz1_1 : w.heap.size + 1 < w1.heap.size := by have h := hb1.size; first | (simp at h; omega) | omega
  have c1_1_0 : w1.cell? ⟨w.heap.size + 1, 0, none⟩ = some (.int .u8 n) := by rw [hb1.cell (p := ⟨w.heap.size + 1, 0, none⟩) (by first | (simp; done) | (simp; omega) | omega)]; first | assumption | (simp [go_sem]; done) | (simp [go_sem, *]; done)
  have c1_1_1 : w1.cell? ⟨w.heap.size + 1, 1, none⟩ = some (.int .i64 A) := by rw [hb1.cell (p := ⟨w.heap.size + 1, 1, none⟩) (by first | (simp; done) | (simp; omega) | omega)]; first | assumption | (simp [go_sem]; done) | (simp [go_sem, *]; done)
  have c1_1_2 : w1.cell? ⟨w.heap.size + 1, 2, none⟩ = some (.int .i64 B) := by rw [hb1.cell (p := ⟨w.heap.size + 1, 2, none⟩) (by first | (simp; done) | (simp; omega) | omega)]; first | assumption | (simp [go_sem]; done) | (simp [go_sem, *]; done)
  have c1_1_3 : w1.cell? ⟨w.heap.size + 1, 3, none⟩ = some (.int .i64 0) := by rw [hb1.cell (p := ⟨w.heap.size + 1, 3, none⟩) (by first | (simp; done) | (simp; omega) | omega)]; first | assumption | (simp [go_sem]; done) | (simp [go_sem, *]; done)
  have c1_1_4 : w1.cell? ⟨w.heap.size + 1, 4, none⟩ = some (.int .i64 V) := by rw [hb1.cell (p := ⟨w.heap.size + 1, 4, none⟩) (by first | (simp; done) | (simp; omega) | omega)]; first | assumption | (simp [go_sem]; done) | (simp [go_sem, *]; done)
  have HB1 : Below w.heap.size w w1 := by
    repeat (first | (with_reducible exact Below.refl _ _) | (with_reducible apply bDrewN) | (with_reducible apply Below.drew) | ((with_reducible apply bThen hb1); (focus first | (simp; done) | (simp; omega) | omega)) | ((with_reducible apply bSet); (focus first | (simp; done) | (simp; omega) | omega)) | ((with_reducible apply bAlloc); (focus first | (simp; done) | (simp; omega) | omega)))
  have hsz1 := HB1.size
  clear hb1 
  cases hv : vld n A B 0 V
  · have G := Lib.hid (rdecR_bad (x := x) hv)
    go_wp2_with fail
    refine bodyPost_ret (v := .tuple #[.agg #[.int .u8 0, .int .i64 0, .int .i64 0, .int .i64 0, .int .i64 0], .bool false]) (run_result5 Tryd.results19 (fun _ => by kernel_rfl) (fun _ => by kernel_rfl) _ _ _ _ _ _ rfl rfl (by rw [c1_0_0]; simp) (by rw [c1_0_1]; simp) (by rw [c1_0_2]; simp) (by rw [c1_0_3]; simp) (by rw [c1_0_4]; simp)) rfl ⟨by rw [G.out], ?_⟩
    repeat (first | (with_reducible exact Below.refl _ _) | (with_reducible apply bDrewN) | (with_reducible apply Below.drew) | (with_reducible exact HB1) | ((with_reducible apply bSet); (focus first | (simp; done) | (simp; omega) | omega)) | ((with_reducible apply bAlloc); (focus first | (simp; done) | (simp; omega) | omega)))

  by_cases g2 : (encW n A B 0 V != x) = true
  · have G := Lib.hid (rdecR_other (x := x) g2)
    go_wp2_with fail
    refine (refEncode_any n A B 0 V _ hv).mono ?_
    rintro e w2 ⟨rfl, hb2⟩
    have sz2_0 : w.heap.size < w2.heap.size := by have h := hb2.size; first | (simp at h; omega) | omega
    have c2_0_0 : w2.cell? ⟨w.heap.size, 0, none⟩ = some (.int .u8 0) := by rw [hb2.cell (p := ⟨w.heap.size, 0, none⟩) (by first | (simp; done) | (simp; omega) | omega)]; first | assumption | (simp [go_sem]; done) | (simp [go_sem, *]; done)
    have z2_0_0 : w2.frozen? ⟨w.heap.size, 0, none⟩ = false := by rw [hb2.frozen (p := ⟨w.heap.size, 0, none⟩) (by first | (simp; done) | (simp; omega) | omega)]; first | assumption | (simp [go_sem]; done) | (simp [go_sem, *]; done)
    have c2_0_1 : w2.cell? ⟨w.heap.size, 1, none⟩ = some (.int .i64 0) := by rw [hb2.cell (p := ⟨w.heap.size, 1, none⟩) (by first | (simp; done) | (simp; omega) | omega)]; first | assumption | (simp [go_sem]; done) | (simp [go_sem, *]; done)
    have z2_0_1 : w2.frozen? ⟨w.heap.size, 1, none⟩ = false := by rw [hb2.frozen (p := ⟨w.heap.size, 1, none⟩) (by first | (simp; done) | (simp; omega) | omega)]; first | assumption | (simp [go_sem]; done) | (simp [go_sem, *]; done)
    have c2_0_2 : w2.cell? ⟨w.heap.size, 2, none⟩ = some (.int .i64 0) := by rw [hb2.cell (p := ⟨w.heap.size, 2, none⟩) (by first | (simp; done) | (simp; omega) | omega)]; first | assumption | (simp [go_sem]; done) | (simp [go_sem, *]; done)
    have z2_0_2 : w2.frozen? ⟨w.heap.size, 2, none⟩ = false := by rw [hb2.frozen (p := ⟨w.heap.size, 2, none⟩) (by first | (simp; done) | (simp; omega) | omega)]; first | assumption | (simp [go_sem]; done) | (simp [go_sem, *]; done)
    have c2_0_3 : w2.cell? ⟨w.heap.size, 3, none⟩ = some (.int .i64 0) := by rw [hb2.cell (p := ⟨w.heap.size, 3, none⟩) (by first | (simp; done) | (simp; omega) | omega)]; first | assumption | (simp [go_sem]; done) | (simp [go_sem, *]; done)
    have z2_0_3 : w2.frozen? ⟨w.heap.size, 3, none⟩ = false := by rw [hb2.frozen (p := ⟨w.heap.size, 3, none⟩) (by first | (simp; done) | (simp; omega) | omega)]; first | assumption | (simp [go_sem]; done) | (simp [go_sem, *]; done)
    have c2_0_4 : w2.cell? ⟨w.heap.size, 4, none⟩ = some (.int .i64 0) := by rw [hb2.cell (p := ⟨w.heap.size, 4, none⟩) (by first | (simp; done) | (simp; omega) | omega)]; first | assumption | (simp [go_sem]; done) | (simp [go_sem, *]; done)
    have z2_0_4 : w2.frozen? ⟨w.heap.size, 4, none⟩ = false := by rw [hb2.frozen (p := ⟨w.heap.size, 4, none⟩) (by first | (simp; done) | (simp; omega) | omega)]; first | assumption | (simp [go_sem]; done) | (simp [go_sem, *]; done)
    have sz2_1 : w.heap.size + 1 < w2.heap.size := by have h := hb2.size; first | (simp at h; omega) | omega
    have c2_1_0 : w2.cell? ⟨w.heap.size + 1, 0, none⟩ = some (.int .u8 n) := by rw [hb2.cell (p := ⟨w.heap.size + 1, 0, none⟩) (by first | (simp; done) | (simp; omega) | omega)]; first | assumption | (simp [go_sem]; done) | (simp [go_sem, *]; done)
    have c2_1_1 : w2.cell? ⟨w.heap.size + 1, 1, none⟩ = some (.int .i64 A) := by rw [hb2.cell (p := ⟨w.heap.size + 1, 1, none⟩) (by first | (simp; done) | (simp; omega) | omega)]; first | assumption | (simp [go_sem]; done) | (simp [go_sem, *]; done)
    have c2_1_2 : w2.cell? ⟨w.heap.size + 1, 2, none⟩ = some (.int .i64 B) := by rw [hb2.cell (p := ⟨w.heap.size + 1, 2, none⟩) (by first | (simp; done) | (simp; omega) | omega)]; first | assumption | (simp [go_sem]; done) | (simp [go_sem, *]; done)
    have c2_1_3 : w2.cell? ⟨w.heap.size + 1, 3, none⟩ = some (.int .i64 0) := by rw [hb2.cell (p := ⟨w.heap.size + 1, 3, none⟩) (by first | (simp; done) | (simp; omega) | omega)]; first | assumption | (simp [go_sem]; done) | (simp [go_sem, *]; done)
    have c2_1_4 : w2.cell? ⟨w.heap.size + 1, 4, none⟩ = some (.int .i64 V) := by rw [hb2.cell (p := ⟨w.heap.size + 1, 4, none⟩) (by first | (simp; done) | (simp; omega) | omega)]; first | assumption | (simp [go_sem]; done) | (simp [go_sem, *]; done)
    have HB2 : Below w.heap.size w w2 := by
      repeat (first | (with_reducible exact Below.refl _ _) | (with_reducible apply bDrewN) | (with_reducible apply Below.drew) | (with_reducible exact HB1) | ((with_reducible apply bThen hb2); (focus first | (simp; done) | (simp; omega) | omega)) | ((with_reducible apply bSet); (focus first | (simp; done) | (simp; omega) | omega)) | ((with_reducible apply bAlloc); (focus first | (simp; done) | (simp; omega) | omega)))
    have hsz2 := HB2.size
    clear hb2 sz1_0 c1_0_0 z1_0_0 c1_0_1 z1_0_1 c1_0_2 z1_0_2 c1_0_3 z1_0_3 c1_0_4 z1_0_4 sz1_1 c1_1_0 c1_1_1 c1_1_2 c1_1_3 c1_1_4 hsz1
    go_wp2_with fail
    refine bodyPost_ret (v := .tuple #[.agg #[.int .u8 0, .int .i64 0, .int .i64 0, .int .i64 0, .int .i64 0], .bool false]) (run_result5 Tryd.results19 (fun _ => by kernel_rfl) (fun _ => by kernel_rfl) _ _ _ _ _ _ rfl rfl (by rw [c2_0_0]; simp) (by rw [c2_0_1]; simp) (by rw [c2_0_2]; simp) (by rw [c2_0_3]; simp) (by rw [c2_0_4]; simp)) rfl ⟨by rw [G.out], ?_⟩
    repeat (first | (with_reducible exact Below.refl _ _) | (with_reducible apply bDrewN) | (with_reducible apply Below.drew) | (with_reducible exact HB2) | ((with_reducible apply bSet); (focus first | (simp; done) | (simp; omega) | omega)) | ((with_reducible apply bAlloc); (focus first | (simp; done) | (simp; omega) | omega)))
  · have G := Lib.hid (rdecR_ok (x := x) hv g2)
    have k2 : (encW n A B 0 V != x) = false := by simpa using g2
    clear g2
    go_wp2_with fail
    refine (refEncode_any n A B 0 V _ hv).mono ?_
    rintro e w2 ⟨rfl, hb2⟩
    have sz2_0 : w.heap.size < w2.heap.size := by have h := hb2.size; first | (simp at h; omega) | omega
    have c2_0_0 : w2.cell? ⟨w.heap.size, 0, none⟩ = some (.int .u8 0) := by rw [hb2.cell (p := ⟨w.heap.size, 0, none⟩) (by first | (simp; done) | (simp; omega) | omega)]; first | assumption | (simp [go_sem]; done) | (simp [go_sem, *]; done)
    have z2_0_0 : w2.frozen? ⟨w.heap.size, 0, none⟩ = false := by rw [hb2.frozen (p := ⟨w.heap.size, 0, none⟩) (by first | (simp; done) | (simp; omega) | omega)]; first | assumption | (simp [go_sem]; done) | (simp [go_sem, *]; done)
    have c2_0_1 : w2.cell? ⟨w.heap.size, 1, none⟩ = some (.int .i64 0) := by rw [hb2.cell (p := ⟨w.heap.size, 1, none⟩) (by first | (simp; done) | (simp; omega) | omega)]; first | assumption | (simp [go_sem]; done) | (simp [go_sem, *]; done)
    have z2_0_1 : w2.frozen? ⟨w.heap.size, 1, none⟩ = false := by rw [hb2.frozen (p := ⟨w.heap.size, 1, none⟩) (by first | (simp; done) | (simp; omega) | omega)]; first | assumption | (simp [go_sem]; done) | (simp [go_sem, *]; done)
    have c2_0_2 : w2.cell? ⟨w.heap.size, 2, none⟩ = some (.int .i64 0) := by rw [hb2.cell (p := ⟨w.heap.size, 2, none⟩) (by first | (simp; done) | (simp; omega) | omega)]; first | assumption | (simp [go_sem]; done) | (simp [go_sem, *]; done)
    have z2_0_2 : w2.frozen? ⟨w.heap.size, 2, none⟩ = false := by rw [hb2.frozen (p := ⟨w.heap.size, 2, none⟩) (by first | (simp; done) | (simp; omega) | omega)]; first | assumption | (simp [go_sem]; done) | (simp [go_sem, *]; done)
    have c2_0_3 : w2.cell? ⟨w.heap.size, 3, none⟩ = some (.int .i64 0) := by rw [hb2.cell (p := ⟨w.heap.size, 3, none⟩) (by first | (simp; done) | (simp; omega) | omega)]; first | assumption | (simp [go_sem]; done) | (simp [go_sem, *]; done)
    have z2_0_3 : w2.frozen? ⟨w.heap.size, 3, none⟩ = false := by rw [hb2.frozen (p := ⟨w.heap.size, 3, none⟩) (by first | (simp; done) | (simp; omega) | omega)]; first | assumption | (simp [go_sem]; done) | (simp [go_sem, *]; done)
    have c2_0_4 : w2.cell? ⟨w.heap.size, 4, none⟩ = some (.int .i64 0) := by rw [hb2.cell (p := ⟨w.heap.size, 4, none⟩) (by first | (simp; done) | (simp; omega) | omega)]; first | assumption | (simp [go_sem]; done) | (simp [go_sem, *]; done)
    have z2_0_4 : w2.frozen? ⟨w.heap.size, 4, none⟩ = false := by rw [hb2.frozen (p := ⟨w.heap.size, 4, none⟩) (by first | (simp; done) | (simp; omega) | omega)]; first | assumption | (simp [go_sem]; done) | (simp [go_sem, *]; done)
    have sz2_1 : w.heap.size + 1 < w2.heap.size := by have h := hb2.size; first | (simp at h; omega) | omega
    have c2_1_0 : w2.cell? ⟨w.heap.size + 1, 0, none⟩ = some (.int .u8 n) := by rw [hb2.cell (p := ⟨w.heap.size + 1, 0, none⟩) (by first | (simp; done) | (simp; omega) | omega)]; first | assumption | (simp [go_sem]; done) | (simp [go_sem, *]; done)
    have c2_1_1 : w2.cell? ⟨w.heap.size + 1, 1, none⟩ = some (.int .i64 A) := by rw [hb2.cell (p := ⟨w.heap.size + 1, 1, none⟩) (by first | (simp; done) | (simp; omega) | omega)]; first | assumption | (simp [go_sem]; done) | (simp [go_sem, *]; done)
    have c2_1_2 : w2.cell? ⟨w.heap.size + 1, 2, none⟩ = some (.int .i64 B) := by rw [hb2.cell (p := ⟨w.heap.size + 1, 2, none⟩) (by first | (simp; done) | (simp; omega) | omega)]; first | assumption | (simp [go_sem]; done) | (simp [go_sem, *]; done)
    have c2_1_3 : w2.cell? ⟨w.heap.size + 1, 3, none⟩ = some (.int .i64 0) := by rw [hb2.cell (p := ⟨w.heap.size + 1, 3, none⟩) (by first | (simp; done) | (simp; omega) | omega)]; first | assumption | (simp [go_sem]; done) | (simp [go_sem, *]; done)
    have c2_1_4 : w2.cell? ⟨w.heap.size + 1, 4, none⟩ = some (.int .i64 V) := by rw [hb2.cell (p := ⟨w.heap.size + 1, 4, none⟩) (by first | (simp; done) | (simp; omega) | omega)]; first | assumption | (simp [go_sem]; done) | (simp [go_sem, *]; done)
    have HB2 : Below w.heap.size w w2 := by
      repeat (first | (with_reducible exact Below.refl _ _) | (with_reducible apply bDrewN) | (with_reducible apply Below.drew) | (with_reducible exact HB1) | ((with_reducible apply bThen hb2); (focus first | (simp; done) | (simp; omega) | omega)) | ((with_reducible apply bSet); (focus first | (simp; done) | (simp; omega) | omega)) | ((with_reducible apply bAlloc); (focus first | (simp; done) | (simp; omega) | omega)))
    have hsz2 := HB2.size
    clear hb2 sz1_0 c1_0_0 z1_0_0 c1_0_1 z1_0_1 c1_0_2 z1_0_2 c1_0_3 z1_0_3 c1_0_4 z1_0_4 sz1_1 c1_1_0 c1_1_1 c1_1_2 c1_1_3 c1_1_4 hsz1
    go_wp2_with fail
    refine bodyPost_ret (v := .tuple #[.agg #[.int .u8 n, .int .i64 A, .int .i64 B, .int .i64 0, .int .i64 V], .bool true]) (run_result5 Tryd.results19 (fun _ => by kernel_rfl) (fun _ => by kernel_rfl) _ _ _ _ _ _ rfl rfl (by rw [c2_0_0]; simp) (by rw [c2_0_1]; simp) (by rw [c2_0_2]; simp) (by rw [c2_0_3]; simp) (by rw [c2_0_4]; simp)) rfl ⟨by rw [G.out], ?_⟩
    repeat (first | (with_reducible exact Below.refl _ _) | (with_reducible apply bDrewN) | (with_reducible apply Below.drew) | (with_reducible exact HB2) | ((with_reducible apply bSet); (focus first | (simp; done) | (simp; omega) | omega)) | ((with_reducible apply bAlloc); (focus first | (simp; done) | (simp; omega) | omega)))

set_option maxHeartbeats 1600000 in
theorem rdecode_abi1 (x : Int) (n : Nat) (A B V : Int) (hA : x / 4194304 % 16 = A) (bA : 0 ≤ A ∧ A ≤ 15) (hB : x / 262144 % 16 = B) (bB : 0 ≤ B ∧ B ≤ 15) (hV : x % 262144 = V) (hV1 : 131071 < V) (hV2 : V < 262144) (lo hi : Int) (hlo : rlo n = lo) (hhi : rhi n = hi) (hlh : lo ≤ hi) (w : World) (hx0 : 0 ≤ x) (hx1 : x < 4294967296) (hop : x / 67108864 = n) (hn : n < 30) (hs : rfS n = ⟨#[65, 66]⟩) :
    Calls Tryd.prog 19 #[.int .u32 x] w fun e w' => e = .returned (rdecR x n A B 0 (V - 262144)) ∧ Below w.heap.size w w' := by
  go_enter Tryd.func19, Tryd.ntmps19
  go_wp2_with fail
  refine (format_any n _ hn).mono ?_
  rintro e w' ⟨rfl, rfl⟩
  go_wp2_with fail
  refine (refValid_any n A B 0 (V - 262144) _).mono ?_
  rintro e w1 ⟨rfl, hb1⟩
  have sz1_0 : w.heap.size < w1.heap.size := by have h := hb1.size; first | (simp at h; omega) | omega
  have c1_0_0 : w1.cell? ⟨w.heap.size, 0, none⟩ = some (.int .u8 0) := by rw [hb1.cell (p := ⟨w.heap.size, 0, none⟩) (by first | (simp; done) | (simp; omega) | omega)]; first | assumption | (simp [go_sem]; done) | (simp [go_sem, *]; done)
  have z1_0_0 : w1.frozen? ⟨w.heap.size, 0, none⟩ = false := by rw [hb1.frozen (p := ⟨w.heap.size, 0, none⟩) (by first | (simp; done) | (simp; omega) | omega)]; first | assumption | (simp [go_sem]; done) | (simp [go_sem, *]; done)
  have c1_0_1 : w1.cell? ⟨w.heap.size, 1, none⟩ = some (.int .i64 0) := by rw [hb1.cell (p := ⟨w.heap.size, 1, none⟩) (by first | (simp; done) | (simp; omega) | omega)]; first | assumption | (simp [go_sem]; done) | (simp [go_sem, *]; done)
  have z1_0_1 : w1.frozen? ⟨w.heap.size, 1, none⟩ = false := by rw [hb1.frozen (p := ⟨w.heap.size, 1, none⟩) (by first | (simp; done) | (simp; omega) | omega)]; first | assumption | (simp [go_sem]; done) | (simp [go_sem, *]; done)
  have c1_0_2 : w1.cell? ⟨w.heap.size, 2, none⟩ = some (.int .i64 0) := by rw [hb1.cell (p := ⟨w.heap.size, 2, none⟩) (by first | (simp; done) | (simp; omega) | omega)]; first | assumption | (simp [go_sem]; done) | (simp [go_sem, *]; done)
  have z1_0_2 : w1.frozen? ⟨w.heap.size, 2, none⟩ = false := by rw [hb1.frozen (p := ⟨w.heap.size, 2, none⟩) (by first | (simp; done) | (simp; omega) | omega)]; first | assumption | (simp [go_sem]; done) | (simp [go_sem, *]; done)
  have c1_0_3 : w1.cell? ⟨w.heap.size, 3, none⟩ = some (.int .i64 0) := by rw [hb1.cell (p := ⟨w.heap.size, 3, none⟩) (by first | (simp; done) | (simp; omega) | omega)]; first | assumption | (simp [go_sem]; done) | (simp [go_sem, *]; done)
  have z1_0_3 : w1.frozen? ⟨w.heap.size, 3, none⟩ = false := by rw [hb1.frozen (p := ⟨w.heap.size, 3, none⟩) (by first | (simp; done) | (simp; omega) | omega)]; first | assumption | (simp [go_sem]; done) | (simp [go_sem, *]; done)
  have c1_0_4 : w1.cell? ⟨w.heap.size, 4, none⟩ = some (.int .i64 0) := by rw [hb1.cell (p := ⟨w.heap.size, 4, none⟩) (by first | (simp; done) | (simp; omega) | omega)]; first | assumption | (simp [go_sem]; done) | (simp [go_sem, *]; done)
  have z1_0_4 : w1.frozen? ⟨w.heap.size, 4, none⟩ = false := by rw [hb1.frozen (p := ⟨w.heap.size, 4, none⟩) (by first | (simp; done) | (simp; omega) | omega)]; first | assumption | (simp [go_sem]; done) | (simp [go_sem, *]; done)
  have sz1_1 : w.heap.size + 1 < w1.heap.size := by have h := hb1.size; first | (simp at h; omega) | omega
  have c1_1_0 : w1.cell? ⟨w.heap.size + 1, 0, none⟩ = some (.int .u8 n) := by rw [hb1.cell (p := ⟨w.heap.size + 1, 0, none⟩) (by first | (simp; done) | (simp; omega) | omega)]; first | assumption | (simp [go_sem]; done) | (simp [go_sem, *]; done)
  have c1_1_1 : w1.cell? ⟨w.heap.size + 1, 1, none⟩ = some (.int .i64 A) := by rw [hb1.cell (p := ⟨w.heap.size + 1, 1, none⟩) (by first | (simp; done) | (simp; omega) | omega)]; first | assumption | (simp [go_sem]; done) | (simp [go_sem, *]; done)
  have c1_1_2 : w1.cell? ⟨w.heap.size + 1, 2, none⟩ = some (.int .i64 B) := by rw [hb1.cell (p := ⟨w.heap.size + 1, 2, none⟩) (by first | (simp; done) | (simp; omega) | omega)]; first | assumption | (simp [go_sem]; done) | (simp [go_sem, *]; done)
  have c1_1_3 : w1.cell? ⟨w.heap.size + 1, 3, none⟩ = some (.int .i64 0) := by rw [hb1.cell (p := ⟨w.heap.size + 1, 3, none⟩) (by first | (simp; done) | (simp; omega) | omega)]; first | assumption | (simp [go_sem]; done) | (simp [go_sem, *]; done)
  have c1_1_4 : w1.cell? ⟨w.heap.size + 1, 4, none⟩ = some (.int .i64 (V - 262144)) := by rw [hb1.cell (p := ⟨w.heap.size + 1, 4, none⟩) (by first | (simp; done) | (simp; omega) | omega)]; first | assumption | (simp [go_sem]; done) | (simp [go_sem, *]; done)
  have HB1 : Below w.heap.size w w1 := by
    repeat (first | (with_reducible exact Below.refl _ _) | (with_reducible apply bDrewN) | (with_reducible apply Below.drew) | ((with_reducible apply bThen hb1); (focus first | (simp; done) | (simp; omega) | omega)) | ((with_reducible apply bSet); (focus first | (simp; done) | (simp; omega) | omega)) | ((with_reducible apply bAlloc); (focus first | (simp; done) | (simp; omega) | omega)))
  have hsz1 := HB1.size
  clear hb1 
  cases hv : vld n A B 0 (V - 262144)
  · have G := Lib.hid (rdecR_bad (x := x) hv)
    go_wp2_with fail
    refine bodyPost_ret (v := .tuple #[.agg #[.int .u8 0, .int .i64 0, .int .i64 0, .int .i64 0, .int .i64 0], .bool false]) (run_result5 Tryd.results19 (fun _ => by kernel_rfl) (fun _ => by kernel_rfl) _ _ _ _ _ _ rfl rfl (by rw [c1_0_0]; simp) (by rw [c1_0_1]; simp) (by rw [c1_0_2]; simp) (by rw [c1_0_3]; simp) (by rw [c1_0_4]; simp)) rfl ⟨by rw [G.out], ?_⟩
    repeat (first | (with_reducible exact Below.refl _ _) | (with_reducible apply bDrewN) | (with_reducible apply Below.drew) | (with_reducible exact HB1) | ((with_reducible apply bSet); (focus first | (simp; done) | (simp; omega) | omega)) | ((with_reducible apply bAlloc); (focus first | (simp; done) | (simp; omega) | omega)))

  by_cases g2 : (encW n A B 0 (V - 262144) != x) = true
  · have G := Lib.hid (rdecR_other (x := x) g2)
    go_wp2_with fail
    refine (refEncode_any n A B 0 (V - 262144) _ hv).mono ?_
    rintro e w2 ⟨rfl, hb2⟩
    have sz2_0 : w.heap.size < w2.heap.size := by have h := hb2.size; first | (simp at h; omega) | omega
    have c2_0_0 : w2.cell? ⟨w.heap.size, 0, none⟩ = some (.int .u8 0) := by rw [hb2.cell (p := ⟨w.heap.size, 0, none⟩) (by first | (simp; done) | (simp; omega) | omega)]; first | assumption | (simp [go_sem]; done) | (simp [go_sem, *]; done)
    have z2_0_0 : w2.frozen? ⟨w.heap.size, 0, none⟩ = false := by rw [hb2.frozen (p := ⟨w.heap.size, 0, none⟩) (by first | (simp; done) | (simp; omega) | omega)]; first | assumption | (simp [go_sem]; done) | (simp [go_sem, *]; done)
    have c2_0_1 : w2.cell? ⟨w.heap.size, 1, none⟩ = some (.int .i64 0) := by rw [hb2.cell (p := ⟨w.heap.size, 1, none⟩) (by first | (simp; done) | (simp; omega) | omega)]; first | assumption | (simp [go_sem]; done) | (simp [go_sem, *]; done)
    have z2_0_1 : w2.frozen? ⟨w.heap.size, 1, none⟩ = false := by rw [hb2.frozen (p := ⟨w.heap.size, 1, none⟩) (by first | (simp; done) | (simp; omega) | omega)]; first | assumption | (simp [go_sem]; done) | (simp [go_sem, *]; done)
    have c2_0_2 : w2.cell? ⟨w.heap.size, 2, none⟩ = some (.int .i64 0) := by rw [hb2.cell (p := ⟨w.heap.size, 2, none⟩) (by first | (simp; done) | (simp; omega) | omega)]; first | assumption | (simp [go_sem]; done) | (simp [go_sem, *]; done)
    have z2_0_2 : w2.frozen? ⟨w.heap.size, 2, none⟩ = false := by rw [hb2.frozen (p := ⟨w.heap.size, 2, none⟩) (by first | (simp; done) | (simp; omega) | omega)]; first | assumption | (simp [go_sem]; done) | (simp [go_sem, *]; done)
    have c2_0_3 : w2.cell? ⟨w.heap.size, 3, none⟩ = some (.int .i64 0) := by rw [hb2.cell (p := ⟨w.heap.size, 3, none⟩) (by first | (simp; done) | (simp; omega) | omega)]; first | assumption | (simp [go_sem]; done) | (simp [go_sem, *]; done)
    have z2_0_3 : w2.frozen? ⟨w.heap.size, 3, none⟩ = false := by rw [hb2.frozen (p := ⟨w.heap.size, 3, none⟩) (by first | (simp; done) | (simp; omega) | omega)]; first | assumption | (simp [go_sem]; done) | (simp [go_sem, *]; done)
    have c2_0_4 : w2.cell? ⟨w.heap.size, 4, none⟩ = some (.int .i64 0) := by rw [hb2.cell (p := ⟨w.heap.size, 4, none⟩) (by first | (simp; done) | (simp; omega) | omega)]; first | assumption | (simp [go_sem]; done) | (simp [go_sem, *]; done)
    have z2_0_4 : w2.frozen? ⟨w.heap.size, 4, none⟩ = false := by rw [hb2.frozen (p := ⟨w.heap.size, 4, none⟩) (by first | (simp; done) | (simp; omega) | omega)]; first | assumption | (simp [go_sem]; done) | (simp [go_sem, *]; done)
    have sz2_1 : w.heap.size + 1 < w2.heap.size := by have h := hb2.size; first | (simp at h; omega) | omega
    have c2_1_0 : w2.cell? ⟨w.heap.size + 1, 0, none⟩ = some (.int .u8 n) := by rw [hb2.cell (p := ⟨w.heap.size + 1, 0, none⟩) (by first | (simp; done) | (simp; omega) | omega)]; first | assumption | (simp [go_sem]; done) | (simp [go_sem, *]; done)
    have c2_1_1 : w2.cell? ⟨w.heap.size + 1, 1, none⟩ = some (.int .i64 A) := by rw [hb2.cell (p := ⟨w.heap.size + 1, 1, none⟩) (by first | (simp; done) | (simp; omega) | omega)]; first | assumption | (simp [go_sem]; done) | (simp [go_sem, *]; done)
    have c2_1_2 : w2.cell? ⟨w.heap.size + 1, 2, none⟩ = some (.int .i64 B) := by rw [hb2.cell (p := ⟨w.heap.size + 1, 2, none⟩) (by first | (simp; done) | (simp; omega) | omega)]; first | assumption | (simp [go_sem]; done) | (simp [go_sem, *]; done)
    have c2_1_3 : w2.cell? ⟨w.heap.size + 1, 3, none⟩ = some (.int .i64 0) := by rw [hb2.cell (p := ⟨w.heap.size + 1, 3, none⟩) (by first | (simp; done) | (simp; omega) | omega)]; first | assumption | (simp [go_sem]; done) | (simp [go_sem, *]; done)
    have c2_1_4 : w2.cell? ⟨w.heap.size + 1, 4, none⟩ = some (.int .i64 (V - 262144)) := by rw [hb2.cell (p := ⟨w.heap.size + 1, 4, none⟩) (by first | (simp; done) | (simp; omega) | omega)]; first | assumption | (simp [go_sem]; done) | (simp [go_sem, *]; done)
    have HB2 : Below w.heap.size w w2 := by
      repeat (first | (with_reducible exact Below.refl _ _) | (with_reducible apply bDrewN) | (with_reducible apply Below.drew) | (with_reducible exact HB1) | ((with_reducible apply bThen hb2); (focus first | (simp; done) | (simp; omega) | omega)) | ((with_reducible apply bSet); (focus first | (simp; done) | (simp; omega) | omega)) | ((with_reducible apply bAlloc); (focus first | (simp; done) | (simp; omega) | omega)))
    have hsz2 := HB2.size
    clear hb2 sz1_0 c1_0_0 z1_0_0 c1_0_1 z1_0_1 c1_0_2 z1_0_2 c1_0_3 z1_0_3 c1_0_4 z1_0_4 sz1_1 c1_1_0 c1_1_1 c1_1_2 c1_1_3 c1_1_4 hsz1
    go_wp2_with fail
    refine bodyPost_ret (v := .tuple #[.agg #[.int .u8 0, .int .i64 0, .int .i64 0, .int .i64 0, .int .i64 0], .bool false]) (run_result5 Tryd.results19 (fun _ => by kernel_rfl) (fun _ => by kernel_rfl) _ _ _ _ _ _ rfl rfl (by rw [c2_0_0]; simp) (by rw [c2_0_1]; simp) (by rw [c2_0_2]; simp) (by rw [c2_0_3]; simp) (by rw [c2_0_4]; simp)) rfl ⟨by rw [G.out], ?_⟩
    repeat (first | (with_reducible exact Below.refl _ _) | (with_reducible apply bDrewN) | (with_reducible apply Below.drew) | (with_reducible exact HB2) | ((with_reducible apply bSet); (focus first | (simp; done) | (simp; omega) | omega)) | ((with_reducible apply bAlloc); (focus first | (simp; done) | (simp; omega) | omega)))
  · have G := Lib.hid (rdecR_ok (x := x) hv g2)
    have k2 : (encW n A B 0 (V - 262144) != x) = false := by simpa using g2
    clear g2
    go_wp2_with fail
    refine (refEncode_any n A B 0 (V - 262144) _ hv).mono ?_
    rintro e w2 ⟨rfl, hb2⟩
    have sz2_0 : w.heap.size < w2.heap.size := by have h := hb2.size; first | (simp at h; omega) | omega
    have c2_0_0 : w2.cell? ⟨w.heap.size, 0, none⟩ = some (.int .u8 0) := by rw [hb2.cell (p := ⟨w.heap.size, 0, none⟩) (by first | (simp; done) | (simp; omega) | omega)]; first | assumption | (simp [go_sem]; done) | (simp [go_sem, *]; done)
    have z2_0_0 : w2.frozen? ⟨w.heap.size, 0, none⟩ = false := by rw [hb2.frozen (p := ⟨w.heap.size, 0, none⟩) (by first | (simp; done) | (simp; omega) | omega)]; first | assumption | (simp [go_sem]; done) | (simp [go_sem, *]; done)
    have c2_0_1 : w2.cell? ⟨w.heap.size, 1, none⟩ = some (.int .i64 0) := by rw [hb2.cell (p := ⟨w.heap.size, 1, none⟩) (by first | (simp; done) | (simp; omega) | omega)]; first | assumption | (simp [go_sem]; done) | (simp [go_sem, *]; done)
    have z2_0_1 : w2.frozen? ⟨w.heap.size, 1, none⟩ = false := by rw [hb2.frozen (p := ⟨w.heap.size, 1, none⟩) (by first | (simp; done) | (simp; omega) | omega)]; first | assumption | (simp [go_sem]; done) | (simp [go_sem, *]; done)
    have c2_0_2 : w2.cell? ⟨w.heap.size, 2, none⟩ = some (.int .i64 0) := by rw [hb2.cell (p := ⟨w.heap.size, 2, none⟩) (by first | (simp; done) | (simp; omega) | omega)]; first | assumption | (simp [go_sem]; done) | (simp [go_sem, *]; done)
    have z2_0_2 : w2.frozen? ⟨w.heap.size, 2, none⟩ = false := by rw [hb2.frozen (p := ⟨w.heap.size, 2, none⟩) (by first | (simp; done) | (simp; omega) | omega)]; first | assumption | (simp [go_sem]; done) | (simp [go_sem, *]; done)
    have c2_0_3 : w2.cell? ⟨w.heap.size, 3, none⟩ = some (.int .i64 0) := by rw [hb2.cell (p := ⟨w.heap.size, 3, none⟩) (by first | (simp; done) | (simp; omega) | omega)]; first | assumption | (simp [go_sem]; done) | (simp [go_sem, *]; done)
    have z2_0_3 : w2.frozen? ⟨w.heap.size, 3, none⟩ = false := by rw [hb2.frozen (p := ⟨w.heap.size, 3, none⟩) (by first | (simp; done) | (simp; omega) | omega)]; first | assumption | (simp [go_sem]; done) | (simp [go_sem, *]; done)
    have c2_0_4 : w2.cell? ⟨w.heap.size, 4, none⟩ = some (.int .i64 0) := by rw [hb2.cell (p := ⟨w.heap.size, 4, none⟩) (by first | (simp; done) | (simp; omega) | omega)]; first | assumption | (simp [go_sem]; done) | (simp [go_sem, *]; done)
    have z2_0_4 : w2.frozen? ⟨w.heap.size, 4, none⟩ = false := by rw [hb2.frozen (p := ⟨w.heap.size, 4, none⟩) (by first | (simp; done) | (simp; omega) | omega)]; first | assumption | (simp [go_sem]; done) | (simp [go_sem, *]; done)
    have sz2_1 : w.heap.size + 1 < w2.heap.size := by have h := hb2.size; first | (simp at h; omega) | omega
    have c2_1_0 : w2.cell? ⟨w.heap.size + 1, 0, none⟩ = some (.int .u8 n) := by rw [hb2.cell (p := ⟨w.heap.size + 1, 0, none⟩) (by first | (simp; done) | (simp; omega) | omega)]; first | assumption | (simp [go_sem]; done) | (simp [go_sem, *]; done)
    have c2_1_1 : w2.cell? ⟨w.heap.size + 1, 1, none⟩ = some (.int .i64 A) := by rw [hb2.cell (p := ⟨w.heap.size + 1, 1, none⟩) (by first | (simp; done) | (simp; omega) | omega)]; first | assumption | (simp [go_sem]; done) | (simp [go_sem, *]; done)
    have c2_1_2 : w2.cell? ⟨w.heap.size + 1, 2, none⟩ = some (.int .i64 B) := by rw [hb2.cell (p := ⟨w.heap.size + 1, 2, none⟩) (by first | (simp; done) | (simp; omega) | omega)]; first | assumption | (simp [go_sem]; done) | (simp [go_sem, *]; done)
    have c2_1_3 : w2.cell? ⟨w.heap.size + 1, 3, none⟩ = some (.int .i64 0) := by rw [hb2.cell (p := ⟨w.heap.size + 1, 3, none⟩) (by first | (simp; done) | (simp; omega) | omega)]; first | assumption | (simp [go_sem]; done) | (simp [go_sem, *]; done)
    have c2_1_4 : w2.cell? ⟨w.heap.size + 1, 4, none⟩ = some (.int .i64 (V - 262144)) := by rw [hb2.cell (p := ⟨w.heap.size + 1, 4, none⟩) (by first | (simp; done) | (simp; omega) | omega)]; first | assumption | (simp [go_sem]; done) | (simp [go_sem, *]; done)
    have HB2 : Below w.heap.size w w2 := by
      repeat (first | (with_reducible exact Below.refl _ _) | (with_reducible apply bDrewN) | (with_reducible apply Below.drew) | (with_reducible exact HB1) | ((with_reducible apply bThen hb2); (focus first | (simp; done) | (simp; omega) | omega)) | ((with_reducible apply bSet); (focus first | (simp; done) | (simp; omega) | omega)) | ((with_reducible apply bAlloc); (focus first | (simp; done) | (simp; omega) | omega)))
    have hsz2 := HB2.size
    clear hb2 sz1_0 c1_0_0 z1_0_0 c1_0_1 z1_0_1 c1_0_2 z1_0_2 c1_0_3 z1_0_3 c1_0_4 z1_0_4 sz1_1 c1_1_0 c1_1_1 c1_1_2 c1_1_3 c1_1_4 hsz1
    go_wp2_with fail
    refine bodyPost_ret (v := .tuple #[.agg #[.int .u8 n, .int .i64 A, .int .i64 B, .int .i64 0, .int .i64 (V - 262144)], .bool true]) (run_result5 Tryd.results19 (fun _ => by kernel_rfl) (fun _ => by kernel_rfl) _ _ _ _ _ _ rfl rfl (by rw [c2_0_0]; simp) (by rw [c2_0_1]; simp) (by rw [c2_0_2]; simp) (by rw [c2_0_3]; simp) (by rw [c2_0_4]; simp)) rfl ⟨by rw [G.out], ?_⟩
    repeat (first | (with_reducible exact Below.refl _ _) | (with_reducible apply bDrewN) | (with_reducible apply Below.drew) | (with_reducible exact HB2) | ((with_reducible apply bSet); (focus first | (simp; done) | (simp; omega) | omega)) | ((with_reducible apply bAlloc); (focus first | (simp; done) | (simp; omega) | omega)))

set_option maxHeartbeats 1600000 in
theorem rdecode_i0 (x : Int) (n : Nat) (A V : Int) (hA : x / 4194304 % 16 = A) (bA : 0 ≤ A ∧ A ≤ 15) (hV : x % 262144 = V) (hV1 : 0 ≤ V ∧ V ≤ 131071) (lo hi : Int) (hlo : rlo n = lo) (hhi : rhi n = hi) (hlh : lo ≤ hi) (w : World) (hx0 : 0 ≤ x) (hx1 : x < 4294967296) (hop : x / 67108864 = n) (hn : n < 30) (hs : rfS n = ⟨#[]⟩) :
    Calls Tryd.prog 19 #[.int .u32 x] w fun e w' => e = .returned (rdecR x n A 0 0 V) ∧ Below w.heap.size w w' := by
  go_enter Tryd.func19, Tryd.ntmps19
  go_wp2_with fail
  refine (format_any n _ hn).mono ?_
  rintro e w' ⟨rfl, rfl⟩
  go_wp2_with fail
  refine (refValid_any n A 0 0 V _).mono ?_
  rintro e w1 ⟨rfl, hb1⟩
  have sz1_0 : w.heap.size < w1.heap.size := by have h := hb1.size; first | (simp at h; omega) | omega
  have c1_0_0 : w1.cell? ⟨w.heap.size, 0, none⟩ = some (.int .u8 0) := by rw [hb1.cell (p := ⟨w.heap.size, 0, none⟩) (by first | (simp; done) | (simp; omega) | omega)]; first | assumption | (simp [go_sem]; done) | (simp [go_sem, *]; done)
  have z1_0_0 : w1.frozen? ⟨w.heap.size, 0, none⟩ = false := by rw [hb1.frozen (p := ⟨w.heap.size, 0, none⟩) (by first | (simp; done) | (simp; omega) | omega)]; first | assumption | (simp [go_sem]; done) | (simp [go_sem, *]; done)
  have c1_0_1 : w1.cell? ⟨w.heap.size, 1, none⟩ = some (.int .i64 0) := by rw [hb1.cell (p := ⟨w.heap.size, 1, none⟩) (by first | (simp; done) | (simp; omega) | omega)]; first | assumption | (simp [go_sem]; done) | (simp [go_sem, *]; done)
  have z1_0_1 : w1.frozen? ⟨w.heap.size, 1, none⟩ = false := by rw [hb1.frozen (p := ⟨w.heap.size, 1, none⟩) (by first | (simp; done) | (simp; omega) | omega)]; first | assumption | (simp [go_sem]; done) | (simp [go_sem, *]; done)
  have c1_0_2 : w1.cell? ⟨w.heap.size, 2, none⟩ = some (.int .i64 0) := by rw [hb1.cell (p := ⟨w.heap.size, 2, none⟩) (by first | (simp; done) | (simp; omega) | omega)]; first | assumption | (simp [go_sem]; done) | (simp [go_sem, *]; done)
  have z1_0_2 : w1.frozen? ⟨w.heap.size, 2, none⟩ = false := by rw [hb1.frozen (p := ⟨w.heap.size, 2, none⟩) (by first | (simp; done) | (simp; omega) | omega)]; first | assumption | (simp [go_sem]; done) | (simp [go_sem, *]; done)
  have c1_0_3 : w1.cell? ⟨w.heap.size, 3, none⟩ = some (.int .i64 0) := by rw [hb1.cell (p := ⟨w.heap.size, 3, none⟩) (by first | (simp; done) | (simp; omega) | omega)]; first | assumption | (simp [go_sem]; done) | (simp [go_sem, *]; done)
  have z1_0_3 : w1.frozen? ⟨w.heap.size, 3, none⟩ = false := by rw [hb1.frozen (p := ⟨w.heap.size, 3, none⟩) (by first | (simp; done) | (simp; omega) | omega)]; first | assumption | (simp [go_sem]; done) | (simp [go_sem, *]; done)
  have c1_0_4 : w1.cell? ⟨w.heap.size, 4, none⟩ = some (.int .i64 0) := by rw [hb1.cell (p := ⟨w.heap.size, 4, none⟩) (by first | (simp; done) | (simp; omega) | omega)]; first | assumption | (simp [go_sem]; done) | (simp [go_sem, *]; done)
  have z1_0_4 : w1.frozen? ⟨w.heap.size, 4, none⟩ = false := by rw [hb1.frozen (p := ⟨w.heap.size, 4, none⟩) (by first | (simp; done) | (simp; omega) | omega)]; first | assumption | (simp [go_sem]; done) | (simp [go_sem, *]; done)
  have sz1_1 : w.heap.size + 1 < w1.heap.size := by have h := hb1.size; first | (simp at h; omega) | omega
  have c1_1_0 : w1.cell? ⟨w.heap.size + 1, 0, none⟩ = some (.int .u8 n) := by rw [hb1.cell (p := ⟨w.heap.size + 1, 0, none⟩) (by first | (simp; done) | (simp; omega) | omega)]; first | assumption | (simp [go_sem]; done) | (simp [go_sem, *]; done)
  have c1_1_1 : w1.cell? ⟨w.heap.size + 1, 1, none⟩ = some (.int .i64 A) := by rw [hb1.cell (p := ⟨w.heap.size + 1, 1, none⟩) (by first | (simp; done) | (simp; omega) | omega)]; first | assumption | (simp [go_sem]; done) | (simp [go_sem, *]; done)
  have c1_1_2 : w1.cell? ⟨w.heap.size + 1, 2, none⟩ = some (.int .i64 0) := by rw [hb1.cell (p := ⟨w.heap.size + 1, 2, none⟩) (by first | (simp; done) | (simp; omega) | omega)]; first | assumption | (simp [go_sem]; done) | (simp [go_sem, *]; done)
  have c1_1_3 : w1.cell? ⟨w.heap.size + 1, 3, none⟩ = some (.int .i64 0) := by rw [hb1.cell (p := ⟨w.heap.size + 1, 3, none⟩) (by first | (simp; done) | (simp; omega) | omega)]; first | assumption | (simp [go_sem]; done) | (simp [go_sem, *]; done)
  have c1_1_4 : w1.cell? ⟨w.heap.size + 1, 4, none⟩ = some (.int .i64 V) := by rw [hb1.cell (p := ⟨w.heap.size + 1, 4, none⟩) (by first | (simp; done) | (simp; omega) | omega)]; first | assumption | (simp [go_sem]; done) | (simp [go_sem, *]; done)
  have HB1 : Below w.heap.size w w1 := by
    repeat (first | (with_reducible exact Below.refl _ _) | (with_reducible apply bDrewN) | (with_reducible apply Below.drew) | ((with_reducible apply bThen hb1); (focus first | (simp; done) | (simp; omega) | omega)) | ((with_reducible apply bSet); (focus first | (simp; done) | (simp; omega) | omega)) | ((with_reducible apply bAlloc); (focus first | (simp; done) | (simp; omega) | omega)))
  have hsz1 := HB1.size
  clear hb1 
  cases hv : vld n A 0 0 V
  · have G := Lib.hid (rdecR_bad (x := x) hv)
    go_wp2_with fail
    refine bodyPost_ret (v := .tuple #[.agg #[.int .u8 0, .int .i64 0, .int .i64 0, .int .i64 0, .int .i64 0], .bool false]) (run_result5 Tryd.results19 (fun _ => by kernel_rfl) (fun _ => by kernel_rfl) _ _ _ _ _ _ rfl rfl (by rw [c1_0_0]; simp) (by rw [c1_0_1]; simp) (by rw [c1_0_2]; simp) (by rw [c1_0_3]; simp) (by rw [c1_0_4]; simp)) rfl ⟨by rw [G.out], ?_⟩
    repeat (first | (with_reducible exact Below.refl _ _) | (with_reducible apply bDrewN) | (with_reducible apply Below.drew) | (with_reducible exact HB1) | ((with_reducible apply bSet); (focus first | (simp; done) | (simp; omega) | omega)) | ((with_reducible apply bAlloc); (focus first | (simp; done) | (simp; omega) | omega)))

  by_cases g2 : (encW n A 0 0 V != x) = true
  · have G := Lib.hid (rdecR_other (x := x) g2)
    go_wp2_with fail
    refine (refEncode_any n A 0 0 V _ hv).mono ?_
    rintro e w2 ⟨rfl, hb2⟩
    have sz2_0 : w.heap.size < w2.heap.size := by have h := hb2.size; first | (simp at h; omega) | omega
    have c2_0_0 : w2.cell? ⟨w.heap.size, 0, none⟩ = some (.int .u8 0) := by rw [hb2.cell (p := ⟨w.heap.size, 0, none⟩) (by first | (simp; done) | (simp; omega) | omega)]; first | assumption | (simp [go_sem]; done) | (simp [go_sem, *]; done)
    have z2_0_0 : w2.frozen? ⟨w.heap.size, 0, none⟩ = false := by rw [hb2.frozen (p := ⟨w.heap.size, 0, none⟩) (by first | (simp; done) | (simp; omega) | omega)]; first | assumption | (simp [go_sem]; done) | (simp [go_sem, *]; done)
    have c2_0_1 : w2.cell? ⟨w.heap.size, 1, none⟩ = some (.int .i64 0) := by rw [hb2.cell (p := ⟨w.heap.size, 1, none⟩) (by first | (simp; done) | (simp; omega) | omega)]; first | assumption | (simp [go_sem]; done) | (simp [go_sem, *]; done)
    have z2_0_1 : w2.frozen? ⟨w.heap.size, 1, none⟩ = false := by rw [hb2.frozen (p := ⟨w.heap.size, 1, none⟩) (by first | (simp; done) | (simp; omega) | omega)]; first | assumption | (simp [go_sem]; done) | (simp [go_sem, *]; done)
    have c2_0_2 : w2.cell? ⟨w.heap.size, 2, none⟩ = some (.int .i64 0) := by rw [hb2.cell (p := ⟨w.heap.size, 2, none⟩) (by first | (simp; done) | (simp; omega) | omega)]; first | assumption | (simp [go_sem]; done) | (simp [go_sem, *]; done)
    have z2_0_2 : w2.frozen? ⟨w.heap.size, 2, none⟩ = false := by rw [hb2.frozen (p := ⟨w.heap.size, 2, none⟩) (by first | (simp; done) | (simp; omega) | omega)]; first | assumption | (simp [go_sem]; done) | (simp [go_sem, *]; done)
    have c2_0_3 : w2.cell? ⟨w.heap.size, 3, none⟩ = some (.int .i64 0) := by rw [hb2.cell (p := ⟨w.heap.size, 3, none⟩) (by first | (simp; done) | (simp; omega) | omega)]; first | assumption | (simp [go_sem]; done) | (simp [go_sem, *]; done)
    have z2_0_3 : w2.frozen? ⟨w.heap.size, 3, none⟩ = false := by rw [hb2.frozen (p := ⟨w.heap.size, 3, none⟩) (by first | (simp; done) | (simp; omega) | omega)]; first | assumption | (simp [go_sem]; done) | (simp [go_sem, *]; done)
    have c2_0_4 : w2.cell? ⟨w.heap.size, 4, none⟩ = some (.int .i64 0) := by rw [hb2.cell (p := ⟨w.heap.size, 4, none⟩) (by first | (simp; done) | (simp; omega) | omega)]; first | assumption | (simp [go_sem]; done) | (simp [go_sem, *]; done)
    have z2_0_4 : w2.frozen? ⟨w.heap.size, 4, none⟩ = false := by rw [hb2.frozen (p := ⟨w.heap.size, 4, none⟩) (by first | (simp; done) | (simp; omega) | omega)]; first | assumption | (simp [go_sem]; done) | (simp [go_sem, *]; done)
    have sz2_1 : w.heap.size + 1 < w2.heap.size := by have h := hb2.size; first | (simp at h; omega) | omega
    have c2_1_0 : w2.cell? ⟨w.heap.size + 1, 0, none⟩ = some (.int .u8 n) := by rw [hb2.cell (p := ⟨w.heap.size + 1, 0, none⟩) (by first | (simp; done) | (simp; omega) | omega)]; first | assumption | (simp [go_sem]; done) | (simp [go_sem, *]; done)
    have c2_1_1 : w2.cell? ⟨w.heap.size + 1, 1, none⟩ = some (.int .i64 A) := by rw [hb2.cell (p := ⟨w.heap.size + 1, 1, none⟩) (by first | (simp; done) | (simp; omega) | omega)]; first | assumption | (simp [go_sem]; done) | (simp [go_sem, *]; done)
    have c2_1_2 : w2.cell? ⟨w.heap.size + 1, 2, none⟩ = some (.int .i64 0) := by rw [hb2.cell (p := ⟨w.heap.size + 1, 2, none⟩) (by first | (simp; done) | (simp; omega) | omega)]; first | assumption | (simp [go_sem]; done) | (simp [go_sem, *]; done)
    have c2_1_3 : w2.cell? ⟨w.heap.size + 1, 3, none⟩ = some (.int .i64 0) := by rw [hb2.cell (p := ⟨w.heap.size + 1, 3, none⟩) (by first | (simp; done) | (simp; omega) | omega)]; first | assumption | (simp [go_sem]; done) | (simp [go_sem, *]; done)
    have c2_1_4 : w2.cell? ⟨w.heap.size + 1, 4, none⟩ = some (.int .i64 V) := by rw [hb2.cell (p := ⟨w.heap.size + 1, 4, none⟩) (by first | (simp; done) | (simp; omega) | omega)]; first | assumption | (simp [go_sem]; done) | (simp [go_sem, *]; done)
    have HB2 : Below w.heap.size w w2 := by
      repeat (first | (with_reducible exact Below.refl _ _) | (with_reducible apply bDrewN) | (with_reducible apply Below.drew) | (with_reducible exact HB1) | ((with_reducible apply bThen hb2); (focus first | (simp; done) | (simp; omega) | omega)) | ((with_reducible apply bSet); (focus first | (simp; done) | (simp; omega) | omega)) | ((with_reducible apply bAlloc); (focus first | (simp; done) | (simp; omega) | omega)))
    have hsz2 := HB2.size
    clear hb2 sz1_0 c1_0_0 z1_0_0 c1_0_1 z1_0_1 c1_0_2 z1_0_2 c1_0_3 z1_0_3 c1_0_4 z1_0_4 sz1_1 c1_1_0 c1_1_1 c1_1_2 c1_1_3 c1_1_4 hsz1
    go_wp2_with fail
    refine bodyPost_ret (v := .tuple #[.agg #[.int .u8 0, .int .i64 0, .int .i64 0, .int .i64 0, .int .i64 0], .bool false]) (run_result5 Tryd.results19 (fun _ => by kernel_rfl) (fun _ => by kernel_rfl) _ _ _ _ _ _ rfl rfl (by rw [c2_0_0]; simp) (by rw [c2_0_1]; simp) (by rw [c2_0_2]; simp) (by rw [c2_0_3]; simp) (by rw [c2_0_4]; simp)) rfl ⟨by rw [G.out], ?_⟩
    repeat (first | (with_reducible exact Below.refl _ _) | (with_reducible apply bDrewN) | (with_reducible apply Below.drew) | (with_reducible exact HB2) | ((with_reducible apply bSet); (focus first | (simp; done) | (simp; omega) | omega)) | ((with_reducible apply bAlloc); (focus first | (simp; done) | (simp; omega) | omega)))
  · have G := Lib.hid (rdecR_ok (x := x) hv g2)
    have k2 : (encW n A 0 0 V != x) = false := by simpa using g2
    clear g2
    go_wp2_with fail
    refine (refEncode_any n A 0 0 V _ hv).mono ?_
    rintro e w2 ⟨rfl, hb2⟩
    have sz2_0 : w.heap.size < w2.heap.size := by have h := hb2.size; first | (simp at h; omega) | omega
    have c2_0_0 : w2.cell? ⟨w.heap.size, 0, none⟩ = some (.int .u8 0) := by rw [hb2.cell (p := ⟨w.heap.size, 0, none⟩) (by first | (simp; done) | (simp; omega) | omega)]; first | assumption | (simp [go_sem]; done) | (simp [go_sem, *]; done)
    have z2_0_0 : w2.frozen? ⟨w.heap.size, 0, none⟩ = false := by rw [hb2.frozen (p := ⟨w.heap.size, 0, none⟩) (by first | (simp; done) | (simp; omega) | omega)]; first | assumption | (simp [go_sem]; done) | (simp [go_sem, *]; done)
    have c2_0_1 : w2.cell? ⟨w.heap.size, 1, none⟩ = some (.int .i64 0) := by rw [hb2.cell (p := ⟨w.heap.size, 1, none⟩) (by first | (simp; done) | (simp; omega) | omega)]; first | assumption | (simp [go_sem]; done) | (simp [go_sem, *]; done)
    have z2_0_1 : w2.frozen? ⟨w.heap.size, 1, none⟩ = false := by rw [hb2.frozen (p := ⟨w.heap.size, 1, none⟩) (by first | (simp; done) | (simp; omega) | omega)]; first | assumption | (simp [go_sem]; done) | (simp [go_sem, *]; done)
    have c2_0_2 : w2.cell? ⟨w.heap.size, 2, none⟩ = some (.int .i64 0) := by rw [hb2.cell (p := ⟨w.heap.size, 2, none⟩) (by first | (simp; done) | (simp; omega) | omega)]; first | assumption | (simp [go_sem]; done) | (simp [go_sem, *]; done)
    have z2_0_2 : w2.frozen? ⟨w.heap.size, 2, none⟩ = false := by rw [hb2.frozen (p := ⟨w.heap.size, 2, none⟩) (by first | (simp; done) | (simp; omega) | omega)]; first | assumption | (simp [go_sem]; done) | (simp [go_sem, *]; done)
    have c2_0_3 : w2.cell? ⟨w.heap.size, 3, none⟩ = some (.int .i64 0) := by rw [hb2.cell (p := ⟨w.heap.size, 3, none⟩) (by first | (simp; done) | (simp; omega) | omega)]; first | assumption | (simp [go_sem]; done) | (simp [go_sem, *]; done)
    have z2_0_3 : w2.frozen? ⟨w.heap.size, 3, none⟩ = false := by rw [hb2.frozen (p := ⟨w.heap.size, 3, none⟩) (by first | (simp; done) | (simp; omega) | omega)]; first | assumption | (simp [go_sem]; done) | (simp [go_sem, *]; done)
    have c2_0_4 : w2.cell? ⟨w.heap.size, 4, none⟩ = some (.int .i64 0) := by rw [hb2.cell (p := ⟨w.heap.size, 4, none⟩) (by first | (simp; done) | (simp; omega) | omega)]; first | assumption | (simp [go_sem]; done) | (simp [go_sem, *]; done)
    have z2_0_4 : w2.frozen? ⟨w.heap.size, 4, none⟩ = false := by rw [hb2.frozen (p := ⟨w.heap.size, 4, none⟩) (by first | (simp; done) | (simp; omega) | omega)]; first | assumption | (simp [go_sem]; done) | (simp [go_sem, *]; done)
    have sz2_1 : w.heap.size + 1 < w2.heap.size := by have h := hb2.size; first | (simp at h; omega) | omega
    have c2_1_0 : w2.cell? ⟨w.heap.size + 1, 0, none⟩ = some (.int .u8 n) := by rw [hb2.cell (p := ⟨w.heap.size + 1, 0, none⟩) (by first | (simp; done) | (simp; omega) | omega)]; first | assumption | (simp [go_sem]; done) | (simp [go_sem, *]; done)
    have c2_1_1 : w2.cell? ⟨w.heap.size + 1, 1, none⟩ = some (.int .i64 A) := by rw [hb2.cell (p := ⟨w.heap.size + 1, 1, none⟩) (by first | (simp; done) | (simp; omega) | omega)]; first | assumption | (simp [go_sem]; done) | (simp [go_sem, *]; done)
    have c2_1_2 : w2.cell? ⟨w.heap.size + 1, 2, none⟩ = some (.int .i64 0) := by rw [hb2.cell (p := ⟨w.heap.size + 1, 2, none⟩) (by first | (simp; done) | (simp; omega) | omega)]; first | assumption | (simp [go_sem]; done) | (simp [go_sem, *]; done)
    have c2_1_3 : w2.cell? ⟨w.heap.size + 1, 3, none⟩ = some (.int .i64 0) := by rw [hb2.cell (p := ⟨w.heap.size + 1, 3, none⟩) (by first | (simp; done) | (simp; omega) | omega)]; first | assumption | (simp [go_sem]; done) | (simp [go_sem, *]; done)
    have c2_1_4 : w2.cell? ⟨w.heap.size + 1, 4, none⟩ = some (.int .i64 V) := by rw [hb2.cell (p := ⟨w.heap.size + 1, 4, none⟩) (by first | (simp; done) | (simp; omega) | omega)]; first | assumption | (simp [go_sem]; done) | (simp [go_sem, *]; done)
    have HB2 : Below w.heap.size w w2 := by
      repeat (first | (with_reducible exact Below.refl _ _) | (with_reducible apply bDrewN) | (with_reducible apply Below.drew) | (with_reducible exact HB1) | ((with_reducible apply bThen hb2); (focus first | (simp; done) | (simp; omega) | omega)) | ((with_reducible apply bSet); (focus first | (simp; done) | (simp; omega) | omega)) | ((with_reducible apply bAlloc); (focus first | (simp; done) | (simp; omega) | omega)))
    have hsz2 := HB2.size
    clear hb2 sz1_0 c1_0_0 z1_0_0 c1_0_1 z1_0_1 c1_0_2 z1_0_2 c1_0_3 z1_0_3 c1_0_4 z1_0_4 sz1_1 c1_1_0 c1_1_1 c1_1_2 c1_1_3 c1_1_4 hsz1
    go_wp2_with fail
    refine bodyPost_ret (v := .tuple #[.agg #[.int .u8 n, .int .i64 A, .int .i64 0, .int .i64 0, .int .i64 V], .bool true]) (run_result5 Tryd.results19 (fun _ => by kernel_rfl) (fun _ => by kernel_rfl) _ _ _ _ _ _ rfl rfl (by rw [c2_0_0]; simp) (by rw [c2_0_1]; simp) (by rw [c2_0_2]; simp) (by rw [c2_0_3]; simp) (by rw [c2_0_4]; simp)) rfl ⟨by rw [G.out], ?_⟩
    repeat (first | (with_reducible exact Below.refl _ _) | (with_reducible apply bDrewN) | (with_reducible apply Below.drew) | (with_reducible exact HB2) | ((with_reducible apply bSet); (focus first | (simp; done) | (simp; omega) | omega)) | ((with_reducible apply bAlloc); (focus first | (simp; done) | (simp; omega) | omega)))

set_option maxHeartbeats 1600000 in
theorem rdecode_i1 (x : Int) (n : Nat) (A V : Int) (hA : x / 4194304 % 16 = A) (bA : 0 ≤ A ∧ A ≤ 15) (hV : x % 262144 = V) (hV1 : 131071 < V) (hV2 : V < 262144) (lo hi : Int) (hlo : rlo n = lo) (hhi : rhi n = hi) (hlh : lo ≤ hi) (w : World) (hx0 : 0 ≤ x) (hx1 : x < 4294967296) (hop : x / 67108864 = n) (hn : n < 30) (hs : rfS n = ⟨#[]⟩) :
    Calls Tryd.prog 19 #[.int .u32 x] w fun e w' => e = .returned (rdecR x n A 0 0 (V - 262144)) ∧ Below w.heap.size w w' := by
  go_enter Tryd.func19, Tryd.ntmps19
  go_wp2_with fail
  refine (format_any n _ hn).mono ?_
  rintro e w' ⟨rfl, rfl⟩
  go_wp2_with fail
  refine (refValid_any n A 0 0 (V - 262144) _).mono ?_
  rintro e w1 ⟨rfl, hb1⟩
  have sz1_0 : w.heap.size < w1.heap.size := by have h := hb1.size; first | (simp at h; omega) | omega
  have c1_0_0 : w1.cell? ⟨w.heap.size, 0, none⟩ = some (.int .u8 0) := by rw [hb1.cell (p := ⟨w.heap.size, 0, none⟩) (by first | (simp; done) | (simp; omega) | omega)]; first | assumption | (simp [go_sem]; done) | (simp [go_sem, *]; done)
  have z1_0_0 : w1.frozen? ⟨w.heap.size, 0, none⟩ = false := by rw [hb1.frozen (p := ⟨w.heap.size, 0, none⟩) (by first | (simp; done) | (simp; omega) | omega)]; first | assumption | (simp [go_sem]; done) | (simp [go_sem, *]; done)
  have c1_0_1 : w1.cell? ⟨w.heap.size, 1, none⟩ = some (.int .i64 0) := by rw [hb1.cell (p := ⟨w.heap.size, 1, none⟩) (by first | (simp; done) | (simp; omega) | omega)]; first | assumption | (simp [go_sem]; done) | (simp [go_sem, *]; done)
  have z1_0_1 : w1.frozen? ⟨w.heap.size, 1, none⟩ = false := by rw [hb1.frozen (p := ⟨w.heap.size, 1, none⟩) (by first | (simp; done) | (simp; omega) | omega)]; first | assumption | (simp [go_sem]; done) | (simp [go_sem, *]; done)
  have c1_0_2 : w1.cell? ⟨w.heap.size, 2, none⟩ = some (.int .i64 0) := by rw [hb1.cell (p := ⟨w.heap.size, 2, none⟩) (by first | (simp; done) | (simp; omega) | omega)]; first | assumption | (simp [go_sem]; done) | (simp [go_sem, *]; done)
  have z1_0_2 : w1.frozen? ⟨w.heap.size, 2, none⟩ = false := by rw [hb1.frozen (p := ⟨w.heap.size, 2, none⟩) (by first | (simp; done) | (simp; omega) | omega)]; first | assumption | (simp [go_sem]; done) | (simp [go_sem, *]; done)
  have c1_0_3 : w1.cell? ⟨w.heap.size, 3, none⟩ = some (.int .i64 0) := by rw [hb1.cell (p := ⟨w.heap.size, 3, none⟩) (by first | (simp; done) | (simp; omega) | omega)]; first | assumption | (simp [go_sem]; done) | (simp [go_sem, *]; done)
  have z1_0_3 : w1.frozen? ⟨w.heap.size, 3, none⟩ = false := by rw [hb1.frozen (p := ⟨w.heap.size, 3, none⟩) (by first | (simp; done) | (simp; omega) | omega)]; first | assumption | (simp [go_sem]; done) | (simp [go_sem, *]; done)
  have c1_0_4 : w1.cell? ⟨w.heap.size, 4, none⟩ = some (.int .i64 0) := by rw [hb1.cell (p := ⟨w.heap.size, 4, none⟩) (by first | (simp; done) | (simp; omega) | omega)]; first | assumption | (simp [go_sem]; done) | (simp [go_sem, *]; done)
  have z1_0_4 : w1.frozen? ⟨w.heap.size, 4, none⟩ = false := by rw [hb1.frozen (p := ⟨w.heap.size, 4, none⟩) (by first | (simp; done) | (simp; omega) | omega)]; first | assumption | (simp [go_sem]; done) | (simp [go_sem, *]; done)
  have sz1_1 : w.heap.size + 1 < w1.heap.size := by have h := hb1.size; first | (simp at h; omega) | omega
  have c1_1_0 : w1.cell? ⟨w.heap.size + 1, 0, none⟩ = some (.int .u8 n) := by rw [hb1.cell (p := ⟨w.heap.size + 1, 0, none⟩) (by first | (simp; done) | (simp; omega) | omega)]; first | assumption | (simp [go_sem]; done) | (simp [go_sem, *]; done)
  have c1_1_1 : w1.cell? ⟨w.heap.size + 1, 1, none⟩ = some (.int .i64 A) := by rw [hb1.cell (p := ⟨w.heap.size + 1, 1, none⟩) (by first | (simp; done) | (simp; omega) | omega)]; first | assumption | (simp [go_sem]; done) | (simp [go_sem, *]; done)
  have c1_1_2 : w1.cell? ⟨w.heap.size + 1, 2, none⟩ = some (.int .i64 0) := by rw [hb1.cell (p := ⟨w.heap.size + 1, 2, none⟩) (by first | (simp; done) | (simp; omega) | omega)]; first | assumption | (simp [go_sem]; done) | (simp [go_sem, *]; done)
  have c1_1_3 : w1.cell? ⟨w.heap.size + 1, 3, none⟩ = some (.int .i64 0) := by rw [hb1.cell (p := ⟨w.heap.size + 1, 3, none⟩) (by first | (simp; done) | (simp; omega) | omega)]; first | assumption | (simp [go_sem]; done) | (simp [go_sem, *]; done)
  have c1_1_4 : w1.cell? ⟨w.heap.size + 1, 4, none⟩ = some (.int .i64 (V - 262144)) := by rw [hb1.cell (p := ⟨w.heap.size + 1, 4, none⟩) (by first | (simp; done) | (simp; omega) | omega)]; first | assumption | (simp [go_sem]; done) | (simp [go_sem, *]; done)
  have HB1 : Below w.heap.size w w1 := by
    repeat (first | (with_reducible exact Below.refl _ _) | (with_reducible apply bDrewN) | (with_reducible apply Below.drew) | ((with_reducible apply bThen hb1); (focus first | (simp; done) | (simp; omega) | omega)) | ((with_reducible apply bSet); (focus first | (simp; done) | (simp; omega) | omega)) | ((with_reducible apply bAlloc); (focus first | (simp; done) | (simp; omega) | omega)))
  have hsz1 := HB1.size
  clear hb1 
  cases hv : vld n A 0 0 (V - 262144)
  · have G := Lib.hid (rdecR_bad (x := x) hv)
    go_wp2_with fail
    refine bodyPost_ret (v := .tuple #[.agg #[.int .u8 0, .int .i64 0, .int .i64 0, .int .i64 0, .int .i64 0], .bool false]) (run_result5 Tryd.results19 (fun _ => by kernel_rfl) (fun _ => by kernel_rfl) _ _ _ _ _ _ rfl rfl (by rw [c1_0_0]; simp) (by rw [c1_0_1]; simp) (by rw [c1_0_2]; simp) (by rw [c1_0_3]; simp) (by rw [c1_0_4]; simp)) rfl ⟨by rw [G.out], ?_⟩
    repeat (first | (with_reducible exact Below.refl _ _) | (with_reducible apply bDrewN) | (with_reducible apply Below.drew) | (with_reducible exact HB1) | ((with_reducible apply bSet); (focus first | (simp; done) | (simp; omega) | omega)) | ((with_reducible apply bAlloc); (focus first | (simp; done) | (simp; omega) | omega)))

  by_cases g2 : (encW n A 0 0 (V - 262144) != x) = true
  · have G := Lib.hid (rdecR_other (x := x) g2)
    go_wp2_with fail
    refine (refEncode_any n A 0 0 (V - 262144) _ hv).mono ?_
    rintro e w2 ⟨rfl, hb2⟩
    have sz2_0 : w.heap.size < w2.heap.size := by have h := hb2.size; first | (simp at h; omega) | omega
    have c2_0_0 : w2.cell? ⟨w.heap.size, 0, none⟩ = some (.int .u8 0) := by rw [hb2.cell (p := ⟨w.heap.size, 0, none⟩) (by first | (simp; done) | (simp; omega) | omega)]; first | assumption | (simp [go_sem]; done) | (simp [go_sem, *]; done)
    have z2_0_0 : w2.frozen? ⟨w.heap.size, 0, none⟩ = false := by rw [hb2.frozen (p := ⟨w.heap.size, 0, none⟩) (by first | (simp; done) | (simp; omega) | omega)]; first | assumption | (simp [go_sem]; done) | (simp [go_sem, *]; done)
    have c2_0_1 : w2.cell? ⟨w.heap.size, 1, none⟩ = some (.int .i64 0) := by rw [hb2.cell (p := ⟨w.heap.size, 1, none⟩) (by first | (simp; done) | (simp; omega) | omega)]; first | assumption | (simp [go_sem]; done) | (simp [go_sem, *]; done)
    have z2_0_1 : w2.frozen? ⟨w.heap.size, 1, none⟩ = false := by rw [hb2.frozen (p := ⟨w.heap.size, 1, none⟩) (by first | (simp; done) | (simp; omega) | omega)]; first | assumption | (simp [go_sem]; done) | (simp [go_sem, *]; done)
    have c2_0_2 : w2.cell? ⟨w.heap.size, 2, none⟩ = some (.int .i64 0) := by rw [hb2.cell (p := ⟨w.heap.size, 2, none⟩) (by first | (simp; done) | (simp; omega) | omega)]; first | assumption | (simp [go_sem]; done) | (simp [go_sem, *]; done)
    have z2_0_2 : w2.frozen? ⟨w.heap.size, 2, none⟩ = false := by rw [hb2.frozen (p := ⟨w.heap.size, 2, none⟩) (by first | (simp; done) | (simp; omega) | omega)]; first | assumption | (simp [go_sem]; done) | (simp [go_sem, *]; done)
    have c2_0_3 : w2.cell? ⟨w.heap.size, 3, none⟩ = some (.int .i64 0) := by rw [hb2.cell (p := ⟨w.heap.size, 3, none⟩) (by first | (simp; done) | (simp; omega) | omega)]; first | assumption | (simp [go_sem]; done) | (simp [go_sem, *]; done)
    have z2_0_3 : w2.frozen? ⟨w.heap.size, 3, none⟩ = false := by rw [hb2.frozen (p := ⟨w.heap.size, 3, none⟩) (by first | (simp; done) | (simp; omega) | omega)]; first | assumption | (simp [go_sem]; done) | (simp [go_sem, *]; done)
    have c2_0_4 : w2.cell? ⟨w.heap.size, 4, none⟩ = some (.int .i64 0) := by rw [hb2.cell (p := ⟨w.heap.size, 4, none⟩) (by first | (simp; done) | (simp; omega) | omega)]; first | assumption | (simp [go_sem]; done) | (simp [go_sem, *]; done)
    have z2_0_4 : w2.frozen? ⟨w.heap.size, 4, none⟩ = false := by rw [hb2.frozen (p := ⟨w.heap.size, 4, none⟩) (by first | (simp; done) | (simp; omega) | omega)]; first | assumption | (simp [go_sem]; done) | (simp [go_sem, *]; done)
    have sz2_1 : w.heap.size + 1 < w2.heap.size := by have h := hb2.size; first | (simp at h; omega) | omega
    have c2_1_0 : w2.cell? ⟨w.heap.size + 1, 0, none⟩ = some (.int .u8 n) := by rw [hb2.cell (p := ⟨w.heap.size + 1, 0, none⟩) (by first | (simp; done) | (simp; omega) | omega)]; first | assumption | (simp [go_sem]; done) | (simp [go_sem, *]; done)
    have c2_1_1 : w2.cell? ⟨w.heap.size + 1, 1, none⟩ = some (.int .i64 A) := by rw [hb2.cell (p := ⟨w.heap.size + 1, 1, none⟩) (by first | (simp; done) | (simp; omega) | omega)]; first | assumption | (simp [go_sem]; done) | (simp [go_sem, *]; done)
    have c2_1_2 : w2.cell? ⟨w.heap.size + 1, 2, none⟩ = some (.int .i64 0) := by rw [hb2.cell (p := ⟨w.heap.size + 1, 2, none⟩) (by first | (simp; done) | (simp; omega) | omega)]; first | assumption | (simp [go_sem]; done) | (simp [go_sem, *]; done)
    have c2_1_3 : w2.cell? ⟨w.heap.size + 1, 3, none⟩ = some (.int .i64 0) := by rw [hb2.cell (p := ⟨w.heap.size + 1, 3, none⟩) (by first | (simp; done) | (simp; omega) | omega)]; first | assumption | (simp [go_sem]; done) | (simp [go_sem, *]; done)
    have c2_1_4 : w2.cell? ⟨w.heap.size + 1, 4, none⟩ = some (.int .i64 (V - 262144)) := by rw [hb2.cell (p := ⟨w.heap.size + 1, 4, none⟩) (by first | (simp; done) | (simp; omega) | omega)]; first | assumption | (simp [go_sem]; done) | (simp [go_sem, *]; done)
    have HB2 : Below w.heap.size w w2 := by
      repeat (first | (with_reducible exact Below.refl _ _) | (with_reducible apply bDrewN) | (with_reducible apply Below.drew) | (with_reducible exact HB1) | ((with_reducible apply bThen hb2); (focus first | (simp; done) | (simp; omega) | omega)) | ((with_reducible apply bSet); (focus first | (simp; done) | (simp; omega) | omega)) | ((with_reducible apply bAlloc); (focus first | (simp; done) | (simp; omega) | omega)))
    have hsz2 := HB2.size
    clear hb2 sz1_0 c1_0_0 z1_0_0 c1_0_1 z1_0_1 c1_0_2 z1_0_2 c1_0_3 z1_0_3 c1_0_4 z1_0_4 sz1_1 c1_1_0 c1_1_1 c1_1_2 c1_1_3 c1_1_4 hsz1
    go_wp2_with fail
    refine bodyPost_ret (v := .tuple #[.agg #[.int .u8 0, .int .i64 0, .int .i64 0, .int .i64 0, .int .i64 0], .bool false]) (run_result5 Tryd.results19 (fun _ => by kernel_rfl) (fun _ => by kernel_rfl) _ _ _ _ _ _ rfl rfl (by rw [c2_0_0]; simp) (by rw [c2_0_1]; simp) (by rw [c2_0_2]; simp) (by rw [c2_0_3]; simp) (by rw [c2_0_4]; simp)) rfl ⟨by rw [G.out], ?_⟩
    repeat (first | (with_reducible exact Below.refl _ _) | (with_reducible apply bDrewN) | (with_reducible apply Below.drew) | (with_reducible exact HB2) | ((with_reducible apply bSet); (focus first | (simp; done) | (simp; omega) | omega)) | ((with_reducible apply bAlloc); (focus first | (simp; done) | (simp; omega) | omega)))
  · have G := Lib.hid (rdecR_ok (x := x) hv g2)
    have k2 : (encW n A 0 0 (V - 262144) != x) = false := by simpa using g2
    clear g2
    go_wp2_with fail
    refine (refEncode_any n A 0 0 (V - 262144) _ hv).mono ?_
    rintro e w2 ⟨rfl, hb2⟩
    have sz2_0 : w.heap.size < w2.heap.size := by have h := hb2.size; first | (simp at h; omega) | omega
    have c2_0_0 : w2.cell? ⟨w.heap.size, 0, none⟩ = some (.int .u8 0) := by rw [hb2.cell (p := ⟨w.heap.size, 0, none⟩) (by first | (simp; done) | (simp; omega) | omega)]; first | assumption | (simp [go_sem]; done) | (simp [go_sem, *]; done)
    have z2_0_0 : w2.frozen? ⟨w.heap.size, 0, none⟩ = false := by rw [hb2.frozen (p := ⟨w.heap.size, 0, none⟩) (by first | (simp; done) | (simp; omega) | omega)]; first | assumption | (simp [go_sem]; done) | (simp [go_sem, *]; done)
    have c2_0_1 : w2.cell? ⟨w.heap.size, 1, none⟩ = some (.int .i64 0) := by rw [hb2.cell (p := ⟨w.heap.size, 1, none⟩) (by first | (simp; done) | (simp; omega) | omega)]; first | assumption | (simp [go_sem]; done) | (simp [go_sem, *]; done)
    have z2_0_1 : w2.frozen? ⟨w.heap.size, 1, none⟩ = false := by rw [hb2.frozen (p := ⟨w.heap.size, 1, none⟩) (by first | (simp; done) | (simp; omega) | omega)]; first | assumption | (simp [go_sem]; done) | (simp [go_sem, *]; done)
    have c2_0_2 : w2.cell? ⟨w.heap.size, 2, none⟩ = some (.int .i64 0) := by rw [hb2.cell (p := ⟨w.heap.size, 2, none⟩) (by first | (simp; done) | (simp; omega) | omega)]; first | assumption | (simp [go_sem]; done) | (simp [go_sem, *]; done)
    have z2_0_2 : w2.frozen? ⟨w.heap.size, 2, none⟩ = false := by rw [hb2.frozen (p := ⟨w.heap.size, 2, none⟩) (by first | (simp; done) | (simp; omega) | omega)]; first | assumption | (simp [go_sem]; done) | (simp [go_sem, *]; done)
    have c2_0_3 : w2.cell? ⟨w.heap.size, 3, none⟩ = some (.int .i64 0) := by rw [hb2.cell (p := ⟨w.heap.size, 3, none⟩) (by first | (simp; done) | (simp; omega) | omega)]; first | assumption | (simp [go_sem]; done) | (simp [go_sem, *]; done)
    have z2_0_3 : w2.frozen? ⟨w.heap.size, 3, none⟩ = false := by rw [hb2.frozen (p := ⟨w.heap.size, 3, none⟩) (by first | (simp; done) | (simp; omega) | omega)]; first | assumption | (simp [go_sem]; done) | (simp [go_sem, *]; done)
    have c2_0_4 : w2.cell? ⟨w.heap.size, 4, none⟩ = some (.int .i64 0) := by rw [hb2.cell (p := ⟨w.heap.size, 4, none⟩) (by first | (simp; done) | (simp; omega) | omega)]; first | assumption | (simp [go_sem]; done) | (simp [go_sem, *]; done)
    have z2_0_4 : w2.frozen? ⟨w.heap.size, 4, none⟩ = false := by rw [hb2.frozen (p := ⟨w.heap.size, 4, none⟩) (by first | (simp; done) | (simp; omega) | omega)]; first | assumption | (simp [go_sem]; done) | (simp [go_sem, *]; done)
    have sz2_1 : w.heap.size + 1 < w2.heap.size := by have h := hb2.size; first | (simp at h; omega) | omega
    have c2_1_0 : w2.cell? ⟨w.heap.size + 1, 0, none⟩ = some (.int .u8 n) := by rw [hb2.cell (p := ⟨w.heap.size + 1, 0, none⟩) (by first | (simp; done) | (simp; omega) | omega)]; first | assumption | (simp [go_sem]; done) | (simp [go_sem, *]; done)
    have c2_1_1 : w2.cell? ⟨w.heap.size + 1, 1, none⟩ = some (.int .i64 A) := by rw [hb2.cell (p := ⟨w.heap.size + 1, 1, none⟩) (by first | (simp; done) | (simp; omega) | omega)]; first | assumption | (simp [go_sem]; done) | (simp [go_sem, *]; done)
    have c2_1_2 : w2.cell? ⟨w.heap.size + 1, 2, none⟩ = some (.int .i64 0) := by rw [hb2.cell (p := ⟨w.heap.size + 1, 2, none⟩) (by first | (simp; done) | (simp; omega) | omega)]; first | assumption | (simp [go_sem]; done) | (simp [go_sem, *]; done)
    have c2_1_3 : w2.cell? ⟨w.heap.size + 1, 3, none⟩ = some (.int .i64 0) := by rw [hb2.cell (p := ⟨w.heap.size + 1, 3, none⟩) (by first | (simp; done) | (simp; omega) | omega)]; first | assumption | (simp [go_sem]; done) | (simp [go_sem, *]; done)
    have c2_1_4 : w2.cell? ⟨w.heap.size + 1, 4, none⟩ = some (.int .i64 (V - 262144)) := by rw [hb2.cell (p := ⟨w.heap.size + 1, 4, none⟩) (by first | (simp; done) | (simp; omega) | omega)]; first | assumption | (simp [go_sem]; done) | (simp [go_sem, *]; done)
    have HB2 : Below w.heap.size w w2 := by
      repeat (first | (with_reducible exact Below.refl _ _) | (with_reducible apply bDrewN) | (with_reducible apply Below.drew) | (with_reducible exact HB1) | ((with_reducible apply bThen hb2); (focus first | (simp; done) | (simp; omega) | omega)) | ((with_reducible apply bSet); (focus first | (simp; done) | (simp; omega) | omega)) | ((with_reducible apply bAlloc); (focus first | (simp; done) | (simp; omega) | omega)))
    have hsz2 := HB2.size
    clear hb2 sz1_0 c1_0_0 z1_0_0 c1_0_1 z1_0_1 c1_0_2 z1_0_2 c1_0_3 z1_0_3 c1_0_4 z1_0_4 sz1_1 c1_1_0 c1_1_1 c1_1_2 c1_1_3 c1_1_4 hsz1
    go_wp2_with fail
    refine bodyPost_ret (v := .tuple #[.agg #[.int .u8 n, .int .i64 A, .int .i64 0, .int .i64 0, .int .i64 (V - 262144)], .bool true]) (run_result5 Tryd.results19 (fun _ => by kernel_rfl) (fun _ => by kernel_rfl) _ _ _ _ _ _ rfl rfl (by rw [c2_0_0]; simp) (by rw [c2_0_1]; simp) (by rw [c2_0_2]; simp) (by rw [c2_0_3]; simp) (by rw [c2_0_4]; simp)) rfl ⟨by rw [G.out], ?_⟩
    repeat (first | (with_reducible exact Below.refl _ _) | (with_reducible apply bDrewN) | (with_reducible apply Below.drew) | (with_reducible exact HB2) | ((with_reducible apply bSet); (focus first | (simp; done) | (simp; omega) | omega)) | ((with_reducible apply bAlloc); (focus first | (simp; done) | (simp; omega) | omega)))

end Go.Proofs.YtdfofelchjpioaaDoor
