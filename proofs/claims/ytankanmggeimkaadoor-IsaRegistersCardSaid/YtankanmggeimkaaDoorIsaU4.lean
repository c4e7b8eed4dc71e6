/- A walk of the law IsaRegisters. -/
import Derived.Test.YtankanmggeimkaaDoorIsaU
set_option linter.unusedVariables false
set_option linter.unusedSimpArgs false
namespace Go.Proofs.YtankanmggeimkaaDoor
open Go.RowKit Go.Sort

set_option maxHeartbeats 1600000 in
theorem regs_211 (n : Nat) (a b c i : Int) (x y : Int) (w : World) (hT : Tab w) (x0 : 1 ≤ x) (x1 : x ≤ 15) (xa : (x != a) = true) (xb : (x != b) = false) (y0 : 1 ≤ y) (y1 : y ≤ 15) (ya : (y != a) = true) (yb : (y != b) = false) (hxy : x < y) (hv : vld n a b c i = true) 
    (HR : Hid (∀ w, Tab w → Calls Tryd.prog 24 #[.agg #[.int .u8 n, .int .i64 a, .int .i64 b, .int .i64 c, .int .i64 i]] w (RdPost w [x, y]))) (HW : Hid (wrR n a b c i = 0 ∨ (wrR n a b c i = a ∧ 0 < a ∧ vld n a b c i = true))) 
    (HWR : Hid (∀ w, Tab w → Calls Tryd.prog 26 #[.agg #[.int .u8 n, .int .i64 a, .int .i64 b, .int .i64 c, .int .i64 i]] w fun e w' => e = .returned (.tuple #[.int .i64 (wrR n a b c i), .bool (wrR n a b c i != 0)]) ∧ Below w.heap.size w w')) :
    Calls Tryd.prog 11 #[.agg #[.int .u8 n, .int .i64 a, .int .i64 b, .int .i64 c, .int .i64 i]] w fun e w' => e = .returned (.bool true) ∧ Below w.heap.size w w' := by
  have hz := hT.size
  go_enter Tryd.func11, Tryd.ntmps11
  go_wp2_with fail
  refine (awake_any _ (Tab.of_below hT (by repeat (first | (with_reducible exact Below.refl _ _) | (with_reducible apply bDrewN) | (with_reducible apply Below.drew) | ((with_reducible apply bSet); (focus first | (simp; done) | (simp; omega) | omega)) | ((with_reducible apply bAlloc); (focus first | (simp; done) | (simp; omega) | omega)))))).mono ?_
  rintro e w1 ⟨rfl, hb1⟩
  have hT1 : Tab w1 := Tab.of_below (Tab.of_below hT (by repeat (first | (with_reducible exact Below.refl _ _) | (with_reducible apply bDrewN) | (with_reducible apply Below.drew) | ((with_reducible apply bSet); (focus first | (simp; done) | (simp; omega) | omega)) | ((with_reducible apply bAlloc); (focus first | (simp; done) | (simp; omega) | omega))))) hb1
  have sz1_0 : w.heap.size < w1.heap.size := by have h := hb1.size; first | (simp at h; omega) | omega
  have c1_0_0 : w1.cell? ⟨w.heap.size, 0, none⟩ = some (.int .u8 n) := by rw [hb1.cell (p := ⟨w.heap.size, 0, none⟩) (by first | (simp; done) | (simp; omega) | omega)]; first | assumption | (simp [go_sem]; done) | (simp [go_sem, *]; done)
  have c1_0_1 : w1.cell? ⟨w.heap.size, 1, none⟩ = some (.int .i64 a) := by rw [hb1.cell (p := ⟨w.heap.size, 1, none⟩) (by first | (simp; done) | (simp; omega) | omega)]; first | assumption | (simp [go_sem]; done) | (simp [go_sem, *]; done)
  have c1_0_2 : w1.cell? ⟨w.heap.size, 2, none⟩ = some (.int .i64 b) := by rw [hb1.cell (p := ⟨w.heap.size, 2, none⟩) (by first | (simp; done) | (simp; omega) | omega)]; first | assumption | (simp [go_sem]; done) | (simp [go_sem, *]; done)
  have c1_0_3 : w1.cell? ⟨w.heap.size, 3, none⟩ = some (.int .i64 c) := by rw [hb1.cell (p := ⟨w.heap.size, 3, none⟩) (by first | (simp; done) | (simp; omega) | omega)]; first | assumption | (simp [go_sem]; done) | (simp [go_sem, *]; done)
  have c1_0_4 : w1.cell? ⟨w.heap.size, 4, none⟩ = some (.int .i64 i) := by rw [hb1.cell (p := ⟨w.heap.size, 4, none⟩) (by first | (simp; done) | (simp; omega) | omega)]; first | assumption | (simp [go_sem]; done) | (simp [go_sem, *]; done)
  have HB1 : Below w.heap.size w w1 := by
    repeat (first | (with_reducible exact Below.refl _ _) | (with_reducible apply bDrewN) | (with_reducible apply Below.drew) | ((with_reducible apply bThen hb1); (focus first | (simp; done) | (simp; omega) | omega)) | ((with_reducible apply bSet); (focus first | (simp; done) | (simp; omega) | omega)) | ((with_reducible apply bAlloc); (focus first | (simp; done) | (simp; omega) | omega)))
  have hsz1 := HB1.size
  clear hb1 
  go_wp2_with fail
  refine (HR.out _ (Tab.of_below hT1 (by repeat (first | (with_reducible exact Below.refl _ _) | (with_reducible apply bDrewN) | (with_reducible apply Below.drew) | ((with_reducible apply bSet); (focus first | (simp; done) | (simp; omega) | omega)) | ((with_reducible apply bAlloc); (focus first | (simp; done) | (simp; omega) | omega)))))).mono ?_
  rintro e w2 ⟨v1, rfl, sl1, hb2⟩
  have hT2 : Tab w2 := Tab.of_below (Tab.of_below hT1 (by repeat (first | (with_reducible exact Below.refl _ _) | (with_reducible apply bDrewN) | (with_reducible apply Below.drew) | ((with_reducible apply bSet); (focus first | (simp; done) | (simp; omega) | omega)) | ((with_reducible apply bAlloc); (focus first | (simp; done) | (simp; omega) | omega))))) hb2
  have sz2_0 : w.heap.size < w2.heap.size := by have h := hb2.size; first | (simp at h; omega) | omega
  have c2_0_0 : w2.cell? ⟨w.heap.size, 0, none⟩ = some (.int .u8 n) := by rw [hb2.cell (p := ⟨w.heap.size, 0, none⟩) (by first | (simp; done) | (simp; omega) | omega)]; first | assumption | (simp [go_sem]; done) | (simp [go_sem, *]; done)
  have c2_0_1 : w2.cell? ⟨w.heap.size, 1, none⟩ = some (.int .i64 a) := by rw [hb2.cell (p := ⟨w.heap.size, 1, none⟩) (by first | (simp; done) | (simp; omega) | omega)]; first | assumption | (simp [go_sem]; done) | (simp [go_sem, *]; done)
  have c2_0_2 : w2.cell? ⟨w.heap.size, 2, none⟩ = some (.int .i64 b) := by rw [hb2.cell (p := ⟨w.heap.size, 2, none⟩) (by first | (simp; done) | (simp; omega) | omega)]; first | assumption | (simp [go_sem]; done) | (simp [go_sem, *]; done)
  have c2_0_3 : w2.cell? ⟨w.heap.size, 3, none⟩ = some (.int .i64 c) := by rw [hb2.cell (p := ⟨w.heap.size, 3, none⟩) (by first | (simp; done) | (simp; omega) | omega)]; first | assumption | (simp [go_sem]; done) | (simp [go_sem, *]; done)
  have c2_0_4 : w2.cell? ⟨w.heap.size, 4, none⟩ = some (.int .i64 i) := by rw [hb2.cell (p := ⟨w.heap.size, 4, none⟩) (by first | (simp; done) | (simp; omega) | omega)]; first | assumption | (simp [go_sem]; done) | (simp [go_sem, *]; done)
  have HB2 : Below w.heap.size w w2 := by
    repeat (first | (with_reducible exact Below.refl _ _) | (with_reducible apply bDrewN) | (with_reducible apply Below.drew) | (with_reducible exact HB1) | ((with_reducible apply bThen hb2); (focus first | (simp; done) | (simp; omega) | omega)) | ((with_reducible apply bSet); (focus first | (simp; done) | (simp; omega) | omega)) | ((with_reducible apply bAlloc); (focus first | (simp; done) | (simp; omega) | omega)))
  have hsz2 := HB2.size
  clear hb2 sz1_0 c1_0_0 c1_0_1 c1_0_2 c1_0_3 c1_0_4 hsz1
  obtain ⟨g1, cap1, rfl, hg1, hg1', hc1⟩ := sl1.some (by simp)
  clear sl1
  have r0 : w2.cell? ⟨g1, 0, none⟩ = some (.int .i64 x) := hc1 0 (by simp)
  have r1 : w2.cell? ⟨g1, 1, none⟩ = some (.int .i64 y) := hc1 1 (by simp)
  clear hc1
  simp only [List.length_cons, List.length_nil, Nat.zero_add, Nat.reduceAdd]
  go_wp2_with fail
  refine (valid_any n a b c i _ (Tab.of_below hT2 (by repeat (first | (with_reducible exact Below.refl _ _) | (with_reducible apply bDrewN) | (with_reducible apply Below.drew) | ((with_reducible apply bSet); (focus first | (simp; done) | (simp; omega) | omega)) | ((with_reducible apply bAlloc); (focus first | (simp; done) | (simp; omega) | omega)))))).mono ?_
  rintro e w3 ⟨rfl, hb3⟩
  have hT3 : Tab w3 := Tab.of_below (Tab.of_below hT2 (by repeat (first | (with_reducible exact Below.refl _ _) | (with_reducible apply bDrewN) | (with_reducible apply Below.drew) | ((with_reducible apply bSet); (focus first | (simp; done) | (simp; omega) | omega)) | ((with_reducible apply bAlloc); (focus first | (simp; done) | (simp; omega) | omega))))) hb3
  have sz3_0 : w.heap.size < w3.heap.size := by have h := hb3.size; first | (simp at h; omega) | omega
  have c3_0_0 : w3.cell? ⟨w.heap.size, 0, none⟩ = some (.int .u8 n) := by rw [hb3.cell (p := ⟨w.heap.size, 0, none⟩) (by first | (simp; done) | (simp; omega) | omega)]; first | assumption | (simp [go_sem]; done) | (simp [go_sem, *]; done)
  have c3_0_1 : w3.cell? ⟨w.heap.size, 1, none⟩ = some (.int .i64 a) := by rw [hb3.cell (p := ⟨w.heap.size, 1, none⟩) (by first | (simp; done) | (simp; omega) | omega)]; first | assumption | (simp [go_sem]; done) | (simp [go_sem, *]; done)
  have c3_0_2 : w3.cell? ⟨w.heap.size, 2, none⟩ = some (.int .i64 b) := by rw [hb3.cell (p := ⟨w.heap.size, 2, none⟩) (by first | (simp; done) | (simp; omega) | omega)]; first | assumption | (simp [go_sem]; done) | (simp [go_sem, *]; done)
  have c3_0_3 : w3.cell? ⟨w.heap.size, 3, none⟩ = some (.int .i64 c) := by rw [hb3.cell (p := ⟨w.heap.size, 3, none⟩) (by first | (simp; done) | (simp; omega) | omega)]; first | assumption | (simp [go_sem]; done) | (simp [go_sem, *]; done)
  have c3_0_4 : w3.cell? ⟨w.heap.size, 4, none⟩ = some (.int .i64 i) := by rw [hb3.cell (p := ⟨w.heap.size, 4, none⟩) (by first | (simp; done) | (simp; omega) | omega)]; first | assumption | (simp [go_sem]; done) | (simp [go_sem, *]; done)
  have HB3 : Below w.heap.size w w3 := by
    repeat (first | (with_reducible exact Below.refl _ _) | (with_reducible apply bDrewN) | (with_reducible apply Below.drew) | (with_reducible exact HB2) | ((with_reducible apply bThen hb3); (focus first | (simp; done) | (simp; omega) | omega)) | ((with_reducible apply bSet); (focus first | (simp; done) | (simp; omega) | omega)) | ((with_reducible apply bAlloc); (focus first | (simp; done) | (simp; omega) | omega)))
  have hsz3 := HB3.size
  have q0 : w3.cell? ⟨g1, 0, none⟩ = some (.int .i64 x) := by rw [hb3.cell (p := ⟨g1, 0, none⟩) (by omega)]; exact r0
  have q1 : w3.cell? ⟨g1, 1, none⟩ = some (.int .i64 y) := by rw [hb3.cell (p := ⟨g1, 1, none⟩) (by omega)]; exact r1
  have hg3 : g1 < w3.heap.size := by have := hb3.size; omega
  clear hb3 sz2_0 c2_0_0 c2_0_1 c2_0_2 c2_0_3 c2_0_4 hsz2
  clear r0 r1
  go_wp2_with fail
  refine wp_loop_rounds 3 ?_
  rw [rounds_succ]
  go_wp2_with fail
  rw [rounds_succ]
  go_wp2_with fail
  rw [rounds_succ]
  go_wp2_with fail
  refine (HWR.out _ (Tab.of_below hT3 (by repeat (first | (with_reducible exact Below.refl _ _) | (with_reducible apply bDrewN) | (with_reducible apply Below.drew) | ((with_reducible apply bSet); (focus first | (simp; done) | (simp; omega) | omega)) | ((with_reducible apply bAlloc); (focus first | (simp; done) | (simp; omega) | omega)))))).mono ?_
  rintro e w4 ⟨rfl, hb4⟩
  have hT4 : Tab w4 := Tab.of_below (Tab.of_below hT3 (by repeat (first | (with_reducible exact Below.refl _ _) | (with_reducible apply bDrewN) | (with_reducible apply Below.drew) | ((with_reducible apply bSet); (focus first | (simp; done) | (simp; omega) | omega)) | ((with_reducible apply bAlloc); (focus first | (simp; done) | (simp; omega) | omega))))) hb4
  have sz4_0 : w.heap.size < w4.heap.size := by have h := hb4.size; first | (simp at h; omega) | omega
  have c4_0_0 : w4.cell? ⟨w.heap.size, 0, none⟩ = some (.int .u8 n) := by rw [hb4.cell (p := ⟨w.heap.size, 0, none⟩) (by first | (simp; done) | (simp; omega) | omega)]; first | assumption | (simp [go_sem]; done) | (simp [go_sem, *]; done)
  have c4_0_1 : w4.cell? ⟨w.heap.size, 1, none⟩ = some (.int .i64 a) := by rw [hb4.cell (p := ⟨w.heap.size, 1, none⟩) (by first | (simp; done) | (simp; omega) | omega)]; first | assumption | (simp [go_sem]; done) | (simp [go_sem, *]; done)
  have c4_0_2 : w4.cell? ⟨w.heap.size, 2, none⟩ = some (.int .i64 b) := by rw [hb4.cell (p := ⟨w.heap.size, 2, none⟩) (by first | (simp; done) | (simp; omega) | omega)]; first | assumption | (simp [go_sem]; done) | (simp [go_sem, *]; done)
  have c4_0_3 : w4.cell? ⟨w.heap.size, 3, none⟩ = some (.int .i64 c) := by rw [hb4.cell (p := ⟨w.heap.size, 3, none⟩) (by first | (simp; done) | (simp; omega) | omega)]; first | assumption | (simp [go_sem]; done) | (simp [go_sem, *]; done)
  have c4_0_4 : w4.cell? ⟨w.heap.size, 4, none⟩ = some (.int .i64 i) := by rw [hb4.cell (p := ⟨w.heap.size, 4, none⟩) (by first | (simp; done) | (simp; omega) | omega)]; first | assumption | (simp [go_sem]; done) | (simp [go_sem, *]; done)
  have HB4 : Below w.heap.size w w4 := by
    repeat (first | (with_reducible exact Below.refl _ _) | (with_reducible apply bDrewN) | (with_reducible apply Below.drew) | (with_reducible exact HB3) | ((with_reducible apply bThen hb4); (focus first | (simp; done) | (simp; omega) | omega)) | ((with_reducible apply bSet); (focus first | (simp; done) | (simp; omega) | omega)) | ((with_reducible apply bAlloc); (focus first | (simp; done) | (simp; omega) | omega)))
  have hsz4 := HB4.size
  clear hb4 sz3_0 c3_0_0 c3_0_1 c3_0_2 c3_0_3 c3_0_4 hsz3
  rcases HW.out with h0 | ⟨h0, h1, h2⟩
  · rw [h0]
    clear h0
    go_wp2_with fail
    go_ret
    refine ⟨rfl, ?_⟩
    (repeat (first | (with_reducible exact Below.refl _ _) | (with_reducible apply bDrewN) | (with_reducible apply Below.drew) | (with_reducible exact HB4) | ((with_reducible apply bSet); (focus first | (simp; done) | (simp; omega) | omega)) | ((with_reducible apply bAlloc); (focus first | (simp; done) | (simp; omega) | omega))))
  · have g0 : (a != 0) = true := by simp; omega
    rw [h0, g0]
    clear h0
    go_wp2_with fail
    refine (valid_any n a b c i _ (Tab.of_below hT4 (by repeat (first | (with_reducible exact Below.refl _ _) | (with_reducible apply bDrewN) | (with_reducible apply Below.drew) | ((with_reducible apply bSet); (focus first | (simp; done) | (simp; omega) | omega)) | ((with_reducible apply bAlloc); (focus first | (simp; done) | (simp; omega) | omega)))))).mono ?_
    rintro e w5 ⟨rfl, hb5⟩
    have hT5 : Tab w5 := Tab.of_below (Tab.of_below hT4 (by repeat (first | (with_reducible exact Below.refl _ _) | (with_reducible apply bDrewN) | (with_reducible apply Below.drew) | ((with_reducible apply bSet); (focus first | (simp; done) | (simp; omega) | omega)) | ((with_reducible apply bAlloc); (focus first | (simp; done) | (simp; omega) | omega))))) hb5
    have sz5_0 : w.heap.size < w5.heap.size := by have h := hb5.size; first | (simp at h; omega) | omega
    have c5_0_0 : w5.cell? ⟨w.heap.size, 0, none⟩ = some (.int .u8 n) := by rw [hb5.cell (p := ⟨w.heap.size, 0, none⟩) (by first | (simp; done) | (simp; omega) | omega)]; first | assumption | (simp [go_sem]; done) | (simp [go_sem, *]; done)
    have c5_0_1 : w5.cell? ⟨w.heap.size, 1, none⟩ = some (.int .i64 a) := by rw [hb5.cell (p := ⟨w.heap.size, 1, none⟩) (by first | (simp; done) | (simp; omega) | omega)]; first | assumption | (simp [go_sem]; done) | (simp [go_sem, *]; done)
    have c5_0_2 : w5.cell? ⟨w.heap.size, 2, none⟩ = some (.int .i64 b) := by rw [hb5.cell (p := ⟨w.heap.size, 2, none⟩) (by first | (simp; done) | (simp; omega) | omega)]; first | assumption | (simp [go_sem]; done) | (simp [go_sem, *]; done)
    have c5_0_3 : w5.cell? ⟨w.heap.size, 3, none⟩ = some (.int .i64 c) := by rw [hb5.cell (p := ⟨w.heap.size, 3, none⟩) (by first | (simp; done) | (simp; omega) | omega)]; first | assumption | (simp [go_sem]; done) | (simp [go_sem, *]; done)
    have c5_0_4 : w5.cell? ⟨w.heap.size, 4, none⟩ = some (.int .i64 i) := by rw [hb5.cell (p := ⟨w.heap.size, 4, none⟩) (by first | (simp; done) | (simp; omega) | omega)]; first | assumption | (simp [go_sem]; done) | (simp [go_sem, *]; done)
    have HB5 : Below w.heap.size w w5 := by
      repeat (first | (with_reducible exact Below.refl _ _) | (with_reducible apply bDrewN) | (with_reducible apply Below.drew) | (with_reducible exact HB4) | ((with_reducible apply bThen hb5); (focus first | (simp; done) | (simp; omega) | omega)) | ((with_reducible apply bSet); (focus first | (simp; done) | (simp; omega) | omega)) | ((with_reducible apply bAlloc); (focus first | (simp; done) | (simp; omega) | omega)))
    have hsz5 := HB5.size
    clear hb5 sz4_0 c4_0_0 c4_0_1 c4_0_2 c4_0_3 c4_0_4 hsz4
    go_wp2_with fail
    go_ret
    refine ⟨rfl, ?_⟩
    (repeat (first | (with_reducible exact Below.refl _ _) | (with_reducible apply bDrewN) | (with_reducible apply Below.drew) | (with_reducible exact HB5) | ((with_reducible apply bSet); (focus first | (simp; done) | (simp; omega) | omega)) | ((with_reducible apply bAlloc); (focus first | (simp; done) | (simp; omega) | omega))))

end Go.Proofs.YtankanmggeimkaaDoor
