/- Layer 8: awake. -/
import Derived.Test.YtjfenhnlonbmmaaDoorPipD
set_option linter.unusedVariables false
set_option linter.unusedSimpArgs false
namespace Go.Proofs.YtjfenhnlonbmmaaDoor
open Go.RowKit Go.Sort

theorem aw_seq (b : Nat) (w : World) (hT : Tab w) (hb : b < w.heap.size)
    (h : (w.cell? ⟨b, 0, none⟩ = some (.int .u8 18) ∧ w.cell? ⟨b, 1, none⟩ = some (.int .i64 3) ∧ w.cell? ⟨b, 2, none⟩ = some (.int .i64 1) ∧ w.cell? ⟨b, 3, none⟩ = some (.int .i64 0) ∧ w.cell? ⟨b, 4, none⟩ = some (.int .i64 0)) ∧
      w.cell? ⟨b, 5, none⟩ = some (.int .u8 4) ∧ w.cell? ⟨b, 6, none⟩ = some (.int .i64 4) ∧ w.cell? ⟨b, 7, none⟩ = some (.int .i64 3) ∧ w.cell? ⟨b, 8, none⟩ = some (.int .i64 3) ∧ w.cell? ⟨b, 9, none⟩ = some (.int .i64 0)) :
    Calls Tryd.prog 18 #[.agg #[.int .i64 3, .int .i64 0, .int .i64 0, .int .i64 2], .int .i64 0, .slice (some ⟨b, 0, none⟩) 2 2] w fun e w' => e = .returned (.tuple #[.int .i64 7, .int .i64 0]) ∧ Below w.heap.size w w' := by
  have h1 := seq_any 3 0 0 2 0 (.slice (some ⟨b, 0, none⟩) 2 2) [⟨18, 3, 1, 0, 0⟩, ⟨4, 4, 3, 3, 0⟩] w hT ⟨_, 2, rfl, .inr ⟨b, 0, rfl, hb, fun k hk => by
    match k, hk with
    | 0, _ => exact h.1
    | 1, _ => exact h.2
    | k + 2, hk => simp at hk; omega⟩⟩ (by simp) (by omega) (by omega) (by omega) (by omega)
  rw [show sqT 3 0 0 2 0 [⟨18, 3, 1, 0, 0⟩, ⟨4, 4, 3, 3, 0⟩] = 7 by decide +kernel, show sqS 0 [⟨18, 3, 1, 0, 0⟩, ⟨4, 4, 3, 3, 0⟩] = 0 by decide +kernel] at h1
  exact h1
theorem aw_next (w : World) (hT : Tab w) : Calls Tryd.prog 14 #[.agg #[.int .u8 18, .int .i64 3, .int .i64 1, .int .i64 0, .int .i64 0]] w fun e w' => e = .returned (.int .i64 3) ∧ Below w.heap.size w w' := by
  have h1 := next_any 18 3 1 0 0 w hT
  rw [show nxt 18 3 1 0 0 = 3 by decide +kernel] at h1
  exact h1
theorem aw_haz (w : World) (hT : Tab w) : Calls Tryd.prog 16 #[.int .i64 3, .agg #[.int .u8 4, .int .i64 4, .int .i64 3, .int .i64 3, .int .i64 0]] w fun e w' => e = .returned (.bool true) ∧ Below w.heap.size w w' := by
  have h1 := hazard_any 3 4 4 3 3 0 w hT
  rw [show hzd 3 4 4 3 3 0 = true by decide +kernel] at h1
  exact h1
theorem aw_v1 (w : World) : Calls Tryd.prog 12 #[.agg #[.int .i64 3, .int .i64 0, .int .i64 0, .int .i64 2]] w fun e w' => e = .returned (.bool true) ∧ Below w.heap.size w w' := by
  have h1 := validT_any 3 0 0 2 w
  rw [show okT 3 0 0 2 = true by decide] at h1
  exact h1
theorem aw_v2 (w : World) : Calls Tryd.prog 12 #[.agg #[.int .i64 (-1), .int .i64 0, .int .i64 0, .int .i64 0]] w fun e w' => e = .returned (.bool false) ∧ Below w.heap.size w w' := by
  have h1 := validT_any (-1) 0 0 0 w
  rw [show okT (-1) 0 0 0 = false by decide] at h1
  exact h1

set_option maxHeartbeats 1600000 in
theorem awake8_any (w : World) (hT : Tab w) : Calls Tryd.prog 11 #[] w fun e w' => e = .returned (.bool true) ∧ Below w.heap.size w w' := by
  have hz := hT.size
  go_enter Tryd.func11, Tryd.ntmps11
  go_wp2_with fail
  refine (aw_seq (w.heap.size + 1) _ (Tab.of_below hT (by repeat (first | (with_reducible exact Below.refl _ _) | (with_reducible apply bDrewN) | (with_reducible apply Below.drew) | ((with_reducible apply bSet); (focus first | (simp; done) | (simp; omega) | omega)) | ((with_reducible apply bAlloc); (focus first | (simp; done) | (simp; omega) | omega))))) (by first | (simp; done) | (simp; omega) | omega) ⟨⟨(by first | assumption | (simp [go_sem]; done) | (simp [go_sem, *]; done)), (by first | assumption | (simp [go_sem]; done) | (simp [go_sem, *]; done)), (by first | assumption | (simp [go_sem]; done) | (simp [go_sem, *]; done)), (by first | assumption | (simp [go_sem]; done) | (simp [go_sem, *]; done)), (by first | assumption | (simp [go_sem]; done) | (simp [go_sem, *]; done))⟩, (by first | assumption | (simp [go_sem]; done) | (simp [go_sem, *]; done)), (by first | assumption | (simp [go_sem]; done) | (simp [go_sem, *]; done)), (by first | assumption | (simp [go_sem]; done) | (simp [go_sem, *]; done)), (by first | assumption | (simp [go_sem]; done) | (simp [go_sem, *]; done)), (by first | assumption | (simp [go_sem]; done) | (simp [go_sem, *]; done))⟩).mono ?_
  rintro e w1 ⟨rfl, hb1⟩
  have hT1 : Tab w1 := Tab.of_below (Tab.of_below hT (by repeat (first | (with_reducible exact Below.refl _ _) | (with_reducible apply bDrewN) | (with_reducible apply Below.drew) | ((with_reducible apply bSet); (focus first | (simp; done) | (simp; omega) | omega)) | ((with_reducible apply bAlloc); (focus first | (simp; done) | (simp; omega) | omega))))) hb1
  have sz1_0 : w.heap.size < w1.heap.size := by have h := hb1.size; first | (simp at h; omega) | omega
  have c1_0_0 : w1.cell? ⟨w.heap.size, 0, none⟩ = some (.int .i64 3) := by rw [hb1.cell (p := ⟨w.heap.size, 0, none⟩) (by first | (simp; done) | (simp; omega) | omega)]; first | assumption | (simp [go_sem]; done) | (simp [go_sem, *]; done)
  have c1_0_1 : w1.cell? ⟨w.heap.size, 1, none⟩ = some (.int .i64 0) := by rw [hb1.cell (p := ⟨w.heap.size, 1, none⟩) (by first | (simp; done) | (simp; omega) | omega)]; first | assumption | (simp [go_sem]; done) | (simp [go_sem, *]; done)
  have c1_0_2 : w1.cell? ⟨w.heap.size, 2, none⟩ = some (.int .i64 0) := by rw [hb1.cell (p := ⟨w.heap.size, 2, none⟩) (by first | (simp; done) | (simp; omega) | omega)]; first | assumption | (simp [go_sem]; done) | (simp [go_sem, *]; done)
  have c1_0_3 : w1.cell? ⟨w.heap.size, 3, none⟩ = some (.int .i64 2) := by rw [hb1.cell (p := ⟨w.heap.size, 3, none⟩) (by first | (simp; done) | (simp; omega) | omega)]; first | assumption | (simp [go_sem]; done) | (simp [go_sem, *]; done)
  have sz1_1 : w.heap.size + 1 < w1.heap.size := by have h := hb1.size; first | (simp at h; omega) | omega
  have c1_1_0 : w1.cell? ⟨w.heap.size + 1, 0, none⟩ = some (.int .u8 18) := by rw [hb1.cell (p := ⟨w.heap.size + 1, 0, none⟩) (by first | (simp; done) | (simp; omega) | omega)]; first | assumption | (simp [go_sem]; done) | (simp [go_sem, *]; done)
  have c1_1_1 : w1.cell? ⟨w.heap.size + 1, 1, none⟩ = some (.int .i64 3) := by rw [hb1.cell (p := ⟨w.heap.size + 1, 1, none⟩) (by first | (simp; done) | (simp; omega) | omega)]; first | assumption | (simp [go_sem]; done) | (simp [go_sem, *]; done)
  have c1_1_2 : w1.cell? ⟨w.heap.size + 1, 2, none⟩ = some (.int .i64 1) := by rw [hb1.cell (p := ⟨w.heap.size + 1, 2, none⟩) (by first | (simp; done) | (simp; omega) | omega)]; first | assumption | (simp [go_sem]; done) | (simp [go_sem, *]; done)
  have c1_1_3 : w1.cell? ⟨w.heap.size + 1, 3, none⟩ = some (.int .i64 0) := by rw [hb1.cell (p := ⟨w.heap.size + 1, 3, none⟩) (by first | (simp; done) | (simp; omega) | omega)]; first | assumption | (simp [go_sem]; done) | (simp [go_sem, *]; done)
  have c1_1_4 : w1.cell? ⟨w.heap.size + 1, 4, none⟩ = some (.int .i64 0) := by rw [hb1.cell (p := ⟨w.heap.size + 1, 4, none⟩) (by first | (simp; done) | (simp; omega) | omega)]; first | assumption | (simp [go_sem]; done) | (simp [go_sem, *]; done)
  have c1_1_5 : w1.cell? ⟨w.heap.size + 1, 5, none⟩ = some (.int .u8 4) := by rw [hb1.cell (p := ⟨w.heap.size + 1, 5, none⟩) (by first | (simp; done) | (simp; omega) | omega)]; first | assumption | (simp [go_sem]; done) | (simp [go_sem, *]; done)
  have c1_1_6 : w1.cell? ⟨w.heap.size + 1, 6, none⟩ = some (.int .i64 4) := by rw [hb1.cell (p := ⟨w.heap.size + 1, 6, none⟩) (by first | (simp; done) | (simp; omega) | omega)]; first | assumption | (simp [go_sem]; done) | (simp [go_sem, *]; done)
  have c1_1_7 : w1.cell? ⟨w.heap.size + 1, 7, none⟩ = some (.int .i64 3) := by rw [hb1.cell (p := ⟨w.heap.size + 1, 7, none⟩) (by first | (simp; done) | (simp; omega) | omega)]; first | assumption | (simp [go_sem]; done) | (simp [go_sem, *]; done)
  have c1_1_8 : w1.cell? ⟨w.heap.size + 1, 8, none⟩ = some (.int .i64 3) := by rw [hb1.cell (p := ⟨w.heap.size + 1, 8, none⟩) (by first | (simp; done) | (simp; omega) | omega)]; first | assumption | (simp [go_sem]; done) | (simp [go_sem, *]; done)
  have c1_1_9 : w1.cell? ⟨w.heap.size + 1, 9, none⟩ = some (.int .i64 0) := by rw [hb1.cell (p := ⟨w.heap.size + 1, 9, none⟩) (by first | (simp; done) | (simp; omega) | omega)]; first | assumption | (simp [go_sem]; done) | (simp [go_sem, *]; done)
  have HB1 : Below w.heap.size w w1 := by
    repeat (first | (with_reducible exact Below.refl _ _) | (with_reducible apply bDrewN) | (with_reducible apply Below.drew) | ((with_reducible apply bThen hb1); (focus first | (simp; done) | (simp; omega) | omega)) | ((with_reducible apply bSet); (focus first | (simp; done) | (simp; omega) | omega)) | ((with_reducible apply bAlloc); (focus first | (simp; done) | (simp; omega) | omega)))
  have hsz1 := HB1.size
  clear hb1 
  go_wp2_with fail
  refine (aw_next _ (Tab.of_below hT1 (by repeat (first | (with_reducible exact Below.refl _ _) | (with_reducible apply bDrewN) | (with_reducible apply Below.drew) | ((with_reducible apply bSet); (focus first | (simp; done) | (simp; omega) | omega)) | ((with_reducible apply bAlloc); (focus first | (simp; done) | (simp; omega) | omega)))))).mono ?_
  rintro e w2 ⟨rfl, hb2⟩
  have hT2 : Tab w2 := Tab.of_below (Tab.of_below hT1 (by repeat (first | (with_reducible exact Below.refl _ _) | (with_reducible apply bDrewN) | (with_reducible apply Below.drew) | ((with_reducible apply bSet); (focus first | (simp; done) | (simp; omega) | omega)) | ((with_reducible apply bAlloc); (focus first | (simp; done) | (simp; omega) | omega))))) hb2
  have sz2_0 : w.heap.size < w2.heap.size := by have h := hb2.size; first | (simp at h; omega) | omega
  have c2_0_0 : w2.cell? ⟨w.heap.size, 0, none⟩ = some (.int .i64 3) := by rw [hb2.cell (p := ⟨w.heap.size, 0, none⟩) (by first | (simp; done) | (simp; omega) | omega)]; first | assumption | (simp [go_sem]; done) | (simp [go_sem, *]; done)
  have c2_0_1 : w2.cell? ⟨w.heap.size, 1, none⟩ = some (.int .i64 0) := by rw [hb2.cell (p := ⟨w.heap.size, 1, none⟩) (by first | (simp; done) | (simp; omega) | omega)]; first | assumption | (simp [go_sem]; done) | (simp [go_sem, *]; done)
  have c2_0_2 : w2.cell? ⟨w.heap.size, 2, none⟩ = some (.int .i64 0) := by rw [hb2.cell (p := ⟨w.heap.size, 2, none⟩) (by first | (simp; done) | (simp; omega) | omega)]; first | assumption | (simp [go_sem]; done) | (simp [go_sem, *]; done)
  have c2_0_3 : w2.cell? ⟨w.heap.size, 3, none⟩ = some (.int .i64 2) := by rw [hb2.cell (p := ⟨w.heap.size, 3, none⟩) (by first | (simp; done) | (simp; omega) | omega)]; first | assumption | (simp [go_sem]; done) | (simp [go_sem, *]; done)
  have sz2_1 : w.heap.size + 1 < w2.heap.size := by have h := hb2.size; first | (simp at h; omega) | omega
  have c2_1_0 : w2.cell? ⟨w.heap.size + 1, 0, none⟩ = some (.int .u8 18) := by rw [hb2.cell (p := ⟨w.heap.size + 1, 0, none⟩) (by first | (simp; done) | (simp; omega) | omega)]; first | assumption | (simp [go_sem]; done) | (simp [go_sem, *]; done)
  have c2_1_1 : w2.cell? ⟨w.heap.size + 1, 1, none⟩ = some (.int .i64 3) := by rw [hb2.cell (p := ⟨w.heap.size + 1, 1, none⟩) (by first | (simp; done) | (simp; omega) | omega)]; first | assumption | (simp [go_sem]; done) | (simp [go_sem, *]; done)
  have c2_1_2 : w2.cell? ⟨w.heap.size + 1, 2, none⟩ = some (.int .i64 1) := by rw [hb2.cell (p := ⟨w.heap.size + 1, 2, none⟩) (by first | (simp; done) | (simp; omega) | omega)]; first | assumption | (simp [go_sem]; done) | (simp [go_sem, *]; done)
  have c2_1_3 : w2.cell? ⟨w.heap.size + 1, 3, none⟩ = some (.int .i64 0) := by rw [hb2.cell (p := ⟨w.heap.size + 1, 3, none⟩) (by first | (simp; done) | (simp; omega) | omega)]; first | assumption | (simp [go_sem]; done) | (simp [go_sem, *]; done)
  have c2_1_4 : w2.cell? ⟨w.heap.size + 1, 4, none⟩ = some (.int .i64 0) := by rw [hb2.cell (p := ⟨w.heap.size + 1, 4, none⟩) (by first | (simp; done) | (simp; omega) | omega)]; first | assumption | (simp [go_sem]; done) | (simp [go_sem, *]; done)
  have c2_1_5 : w2.cell? ⟨w.heap.size + 1, 5, none⟩ = some (.int .u8 4) := by rw [hb2.cell (p := ⟨w.heap.size + 1, 5, none⟩) (by first | (simp; done) | (simp; omega) | omega)]; first | assumption | (simp [go_sem]; done) | (simp [go_sem, *]; done)
  have c2_1_6 : w2.cell? ⟨w.heap.size + 1, 6, none⟩ = some (.int .i64 4) := by rw [hb2.cell (p := ⟨w.heap.size + 1, 6, none⟩) (by first | (simp; done) | (simp; omega) | omega)]; first | assumption | (simp [go_sem]; done) | (simp [go_sem, *]; done)
  have c2_1_7 : w2.cell? ⟨w.heap.size + 1, 7, none⟩ = some (.int .i64 3) := by rw [hb2.cell (p := ⟨w.heap.size + 1, 7, none⟩) (by first | (simp; done) | (simp; omega) | omega)]; first | assumption | (simp [go_sem]; done) | (simp [go_sem, *]; done)
  have c2_1_8 : w2.cell? ⟨w.heap.size + 1, 8, none⟩ = some (.int .i64 3) := by rw [hb2.cell (p := ⟨w.heap.size + 1, 8, none⟩) (by first | (simp; done) | (simp; omega) | omega)]; first | assumption | (simp [go_sem]; done) | (simp [go_sem, *]; done)
  have c2_1_9 : w2.cell? ⟨w.heap.size + 1, 9, none⟩ = some (.int .i64 0) := by rw [hb2.cell (p := ⟨w.heap.size + 1, 9, none⟩) (by first | (simp; done) | (simp; omega) | omega)]; first | assumption | (simp [go_sem]; done) | (simp [go_sem, *]; done)
  have HB2 : Below w.heap.size w w2 := by
    repeat (first | (with_reducible exact Below.refl _ _) | (with_reducible apply bDrewN) | (with_reducible apply Below.drew) | (with_reducible exact HB1) | ((with_reducible apply bThen hb2); (focus first | (simp; done) | (simp; omega) | omega)) | ((with_reducible apply bSet); (focus first | (simp; done) | (simp; omega) | omega)) | ((with_reducible apply bAlloc); (focus first | (simp; done) | (simp; omega) | omega)))
  have hsz2 := HB2.size
  clear hb2 sz1_0 c1_0_0 c1_0_1 c1_0_2 c1_0_3 sz1_1 c1_1_0 c1_1_1 c1_1_2 c1_1_3 c1_1_4 c1_1_5 c1_1_6 c1_1_7 c1_1_8 c1_1_9 hsz1
  go_wp2_with fail
  refine (aw_haz _ (Tab.of_below hT2 (by repeat (first | (with_reducible exact Below.refl _ _) | (with_reducible apply bDrewN) | (with_reducible apply Below.drew) | ((with_reducible apply bSet); (focus first | (simp; done) | (simp; omega) | omega)) | ((with_reducible apply bAlloc); (focus first | (simp; done) | (simp; omega) | omega)))))).mono ?_
  rintro e w3 ⟨rfl, hb3⟩
  have hT3 : Tab w3 := Tab.of_below (Tab.of_below hT2 (by repeat (first | (with_reducible exact Below.refl _ _) | (with_reducible apply bDrewN) | (with_reducible apply Below.drew) | ((with_reducible apply bSet); (focus first | (simp; done) | (simp; omega) | omega)) | ((with_reducible apply bAlloc); (focus first | (simp; done) | (simp; omega) | omega))))) hb3
  have sz3_0 : w.heap.size < w3.heap.size := by have h := hb3.size; first | (simp at h; omega) | omega
  have c3_0_0 : w3.cell? ⟨w.heap.size, 0, none⟩ = some (.int .i64 3) := by rw [hb3.cell (p := ⟨w.heap.size, 0, none⟩) (by first | (simp; done) | (simp; omega) | omega)]; first | assumption | (simp [go_sem]; done) | (simp [go_sem, *]; done)
  have c3_0_1 : w3.cell? ⟨w.heap.size, 1, none⟩ = some (.int .i64 0) := by rw [hb3.cell (p := ⟨w.heap.size, 1, none⟩) (by first | (simp; done) | (simp; omega) | omega)]; first | assumption | (simp [go_sem]; done) | (simp [go_sem, *]; done)
  have c3_0_2 : w3.cell? ⟨w.heap.size, 2, none⟩ = some (.int .i64 0) := by rw [hb3.cell (p := ⟨w.heap.size, 2, none⟩) (by first | (simp; done) | (simp; omega) | omega)]; first | assumption | (simp [go_sem]; done) | (simp [go_sem, *]; done)
  have c3_0_3 : w3.cell? ⟨w.heap.size, 3, none⟩ = some (.int .i64 2) := by rw [hb3.cell (p := ⟨w.heap.size, 3, none⟩) (by first | (simp; done) | (simp; omega) | omega)]; first | assumption | (simp [go_sem]; done) | (simp [go_sem, *]; done)
  have sz3_1 : w.heap.size + 1 < w3.heap.size := by have h := hb3.size; first | (simp at h; omega) | omega
  have c3_1_0 : w3.cell? ⟨w.heap.size + 1, 0, none⟩ = some (.int .u8 18) := by rw [hb3.cell (p := ⟨w.heap.size + 1, 0, none⟩) (by first | (simp; done) | (simp; omega) | omega)]; first | assumption | (simp [go_sem]; done) | (simp [go_sem, *]; done)
  have c3_1_1 : w3.cell? ⟨w.heap.size + 1, 1, none⟩ = some (.int .i64 3) := by rw [hb3.cell (p := ⟨w.heap.size + 1, 1, none⟩) (by first | (simp; done) | (simp; omega) | omega)]; first | assumption | (simp [go_sem]; done) | (simp [go_sem, *]; done)
  have c3_1_2 : w3.cell? ⟨w.heap.size + 1, 2, none⟩ = some (.int .i64 1) := by rw [hb3.cell (p := ⟨w.heap.size + 1, 2, none⟩) (by first | (simp; done) | (simp; omega) | omega)]; first | assumption | (simp [go_sem]; done) | (simp [go_sem, *]; done)
  have c3_1_3 : w3.cell? ⟨w.heap.size + 1, 3, none⟩ = some (.int .i64 0) := by rw [hb3.cell (p := ⟨w.heap.size + 1, 3, none⟩) (by first | (simp; done) | (simp; omega) | omega)]; first | assumption | (simp [go_sem]; done) | (simp [go_sem, *]; done)
  have c3_1_4 : w3.cell? ⟨w.heap.size + 1, 4, none⟩ = some (.int .i64 0) := by rw [hb3.cell (p := ⟨w.heap.size + 1, 4, none⟩) (by first | (simp; done) | (simp; omega) | omega)]; first | assumption | (simp [go_sem]; done) | (simp [go_sem, *]; done)
  have c3_1_5 : w3.cell? ⟨w.heap.size + 1, 5, none⟩ = some (.int .u8 4) := by rw [hb3.cell (p := ⟨w.heap.size + 1, 5, none⟩) (by first | (simp; done) | (simp; omega) | omega)]; first | assumption | (simp [go_sem]; done) | (simp [go_sem, *]; done)
  have c3_1_6 : w3.cell? ⟨w.heap.size + 1, 6, none⟩ = some (.int .i64 4) := by rw [hb3.cell (p := ⟨w.heap.size + 1, 6, none⟩) (by first | (simp; done) | (simp; omega) | omega)]; first | assumption | (simp [go_sem]; done) | (simp [go_sem, *]; done)
  have c3_1_7 : w3.cell? ⟨w.heap.size + 1, 7, none⟩ = some (.int .i64 3) := by rw [hb3.cell (p := ⟨w.heap.size + 1, 7, none⟩) (by first | (simp; done) | (simp; omega) | omega)]; first | assumption | (simp [go_sem]; done) | (simp [go_sem, *]; done)
  have c3_1_8 : w3.cell? ⟨w.heap.size + 1, 8, none⟩ = some (.int .i64 3) := by rw [hb3.cell (p := ⟨w.heap.size + 1, 8, none⟩) (by first | (simp; done) | (simp; omega) | omega)]; first | assumption | (simp [go_sem]; done) | (simp [go_sem, *]; done)
  have c3_1_9 : w3.cell? ⟨w.heap.size + 1, 9, none⟩ = some (.int .i64 0) := by rw [hb3.cell (p := ⟨w.heap.size + 1, 9, none⟩) (by first | (simp; done) | (simp; omega) | omega)]; first | assumption | (simp [go_sem]; done) | (simp [go_sem, *]; done)
  have HB3 : Below w.heap.size w w3 := by
    repeat (first | (with_reducible exact Below.refl _ _) | (with_reducible apply bDrewN) | (with_reducible apply Below.drew) | (with_reducible exact HB2) | ((with_reducible apply bThen hb3); (focus first | (simp; done) | (simp; omega) | omega)) | ((with_reducible apply bSet); (focus first | (simp; done) | (simp; omega) | omega)) | ((with_reducible apply bAlloc); (focus first | (simp; done) | (simp; omega) | omega)))
  have hsz3 := HB3.size
  clear hb3 sz2_0 c2_0_0 c2_0_1 c2_0_2 c2_0_3 sz2_1 c2_1_0 c2_1_1 c2_1_2 c2_1_3 c2_1_4 c2_1_5 c2_1_6 c2_1_7 c2_1_8 c2_1_9 hsz2
  go_wp2_with fail
  refine (aw_v1 _).mono ?_
  rintro e w4 ⟨rfl, hb4⟩
  have hT4 : Tab w4 := Tab.of_below (Tab.of_below hT3 (by repeat (first | (with_reducible exact Below.refl _ _) | (with_reducible apply bDrewN) | (with_reducible apply Below.drew) | ((with_reducible apply bSet); (focus first | (simp; done) | (simp; omega) | omega)) | ((with_reducible apply bAlloc); (focus first | (simp; done) | (simp; omega) | omega))))) hb4
  have sz4_0 : w.heap.size < w4.heap.size := by have h := hb4.size; first | (simp at h; omega) | omega
  have c4_0_0 : w4.cell? ⟨w.heap.size, 0, none⟩ = some (.int .i64 3) := by rw [hb4.cell (p := ⟨w.heap.size, 0, none⟩) (by first | (simp; done) | (simp; omega) | omega)]; first | assumption | (simp [go_sem]; done) | (simp [go_sem, *]; done)
  have c4_0_1 : w4.cell? ⟨w.heap.size, 1, none⟩ = some (.int .i64 0) := by rw [hb4.cell (p := ⟨w.heap.size, 1, none⟩) (by first | (simp; done) | (simp; omega) | omega)]; first | assumption | (simp [go_sem]; done) | (simp [go_sem, *]; done)
  have c4_0_2 : w4.cell? ⟨w.heap.size, 2, none⟩ = some (.int .i64 0) := by rw [hb4.cell (p := ⟨w.heap.size, 2, none⟩) (by first | (simp; done) | (simp; omega) | omega)]; first | assumption | (simp [go_sem]; done) | (simp [go_sem, *]; done)
  have c4_0_3 : w4.cell? ⟨w.heap.size, 3, none⟩ = some (.int .i64 2) := by rw [hb4.cell (p := ⟨w.heap.size, 3, none⟩) (by first | (simp; done) | (simp; omega) | omega)]; first | assumption | (simp [go_sem]; done) | (simp [go_sem, *]; done)
  have sz4_1 : w.heap.size + 1 < w4.heap.size := by have h := hb4.size; first | (simp at h; omega) | omega
  have c4_1_0 : w4.cell? ⟨w.heap.size + 1, 0, none⟩ = some (.int .u8 18) := by rw [hb4.cell (p := ⟨w.heap.size + 1, 0, none⟩) (by first | (simp; done) | (simp; omega) | omega)]; first | assumption | (simp [go_sem]; done) | (simp [go_sem, *]; done)
  have c4_1_1 : w4.cell? ⟨w.heap.size + 1, 1, none⟩ = some (.int .i64 3) := by rw [hb4.cell (p := ⟨w.heap.size + 1, 1, none⟩) (by first | (simp; done) | (simp; omega) | omega)]; first | assumption | (simp [go_sem]; done) | (simp [go_sem, *]; done)
  have c4_1_2 : w4.cell? ⟨w.heap.size + 1, 2, none⟩ = some (.int .i64 1) := by rw [hb4.cell (p := ⟨w.heap.size + 1, 2, none⟩) (by first | (simp; done) | (simp; omega) | omega)]; first | assumption | (simp [go_sem]; done) | (simp [go_sem, *]; done)
  have c4_1_3 : w4.cell? ⟨w.heap.size + 1, 3, none⟩ = some (.int .i64 0) := by rw [hb4.cell (p := ⟨w.heap.size + 1, 3, none⟩) (by first | (simp; done) | (simp; omega) | omega)]; first | assumption | (simp [go_sem]; done) | (simp [go_sem, *]; done)
  have c4_1_4 : w4.cell? ⟨w.heap.size + 1, 4, none⟩ = some (.int .i64 0) := by rw [hb4.cell (p := ⟨w.heap.size + 1, 4, none⟩) (by first | (simp; done) | (simp; omega) | omega)]; first | assumption | (simp [go_sem]; done) | (simp [go_sem, *]; done)
  have c4_1_5 : w4.cell? ⟨w.heap.size + 1, 5, none⟩ = some (.int .u8 4) := by rw [hb4.cell (p := ⟨w.heap.size + 1, 5, none⟩) (by first | (simp; done) | (simp; omega) | omega)]; first | assumption | (simp [go_sem]; done) | (simp [go_sem, *]; done)
  have c4_1_6 : w4.cell? ⟨w.heap.size + 1, 6, none⟩ = some (.int .i64 4) := by rw [hb4.cell (p := ⟨w.heap.size + 1, 6, none⟩) (by first | (simp; done) | (simp; omega) | omega)]; first | assumption | (simp [go_sem]; done) | (simp [go_sem, *]; done)
  have c4_1_7 : w4.cell? ⟨w.heap.size + 1, 7, none⟩ = some (.int .i64 3) := by rw [hb4.cell (p := ⟨w.heap.size + 1, 7, none⟩) (by first | (simp; done) | (simp; omega) | omega)]; first | assumption | (simp [go_sem]; done) | (simp [go_sem, *]; done)
  have c4_1_8 : w4.cell? ⟨w.heap.size + 1, 8, none⟩ = some (.int .i64 3) := by rw [hb4.cell (p := ⟨w.heap.size + 1, 8, none⟩) (by first | (simp; done) | (simp; omega) | omega)]; first | assumption | (simp [go_sem]; done) | (simp [go_sem, *]; done)
  have c4_1_9 : w4.cell? ⟨w.heap.size + 1, 9, none⟩ = some (.int .i64 0) := by rw [hb4.cell (p := ⟨w.heap.size + 1, 9, none⟩) (by first | (simp; done) | (simp; omega) | omega)]; first | assumption | (simp [go_sem]; done) | (simp [go_sem, *]; done)
  have HB4 : Below w.heap.size w w4 := by
    repeat (first | (with_reducible exact Below.refl _ _) | (with_reducible apply bDrewN) | (with_reducible apply Below.drew) | (with_reducible exact HB3) | ((with_reducible apply bThen hb4); (focus first | (simp; done) | (simp; omega) | omega)) | ((with_reducible apply bSet); (focus first | (simp; done) | (simp; omega) | omega)) | ((with_reducible apply bAlloc); (focus first | (simp; done) | (simp; omega) | omega)))
  have hsz4 := HB4.size
  clear hb4 sz3_0 c3_0_0 c3_0_1 c3_0_2 c3_0_3 sz3_1 c3_1_0 c3_1_1 c3_1_2 c3_1_3 c3_1_4 c3_1_5 c3_1_6 c3_1_7 c3_1_8 c3_1_9 hsz3
  go_wp2_with fail
  refine (aw_v2 _).mono ?_
  rintro e w5 ⟨rfl, hb5⟩
  have hT5 : Tab w5 := Tab.of_below (Tab.of_below hT4 (by repeat (first | (with_reducible exact Below.refl _ _) | (with_reducible apply bDrewN) | (with_reducible apply Below.drew) | ((with_reducible apply bSet); (focus first | (simp; done) | (simp; omega) | omega)) | ((with_reducible apply bAlloc); (focus first | (simp; done) | (simp; omega) | omega))))) hb5
  have sz5_0 : w.heap.size < w5.heap.size := by have h := hb5.size; first | (simp at h; omega) | omega
  have c5_0_0 : w5.cell? ⟨w.heap.size, 0, none⟩ = some (.int .i64 3) := by rw [hb5.cell (p := ⟨w.heap.size, 0, none⟩) (by first | (simp; done) | (simp; omega) | omega)]; first | assumption | (simp [go_sem]; done) | (simp [go_sem, *]; done)
  have c5_0_1 : w5.cell? ⟨w.heap.size, 1, none⟩ = some (.int .i64 0) := by rw [hb5.cell (p := ⟨w.heap.size, 1, none⟩) (by first | (simp; done) | (simp; omega) | omega)]; first | assumption | (simp [go_sem]; done) | (simp [go_sem, *]; done)
  have c5_0_2 : w5.cell? ⟨w.heap.size, 2, none⟩ = some (.int .i64 0) := by rw [hb5.cell (p := ⟨w.heap.size, 2, none⟩) (by first | (simp; done) | (simp; omega) | omega)]; first | assumption | (simp [go_sem]; done) | (simp [go_sem, *]; done)
  have c5_0_3 : w5.cell? ⟨w.heap.size, 3, none⟩ = some (.int .i64 2) := by rw [hb5.cell (p := ⟨w.heap.size, 3, none⟩) (by first | (simp; done) | (simp; omega) | omega)]; first | assumption | (simp [go_sem]; done) | (simp [go_sem, *]; done)
  have sz5_1 : w.heap.size + 1 < w5.heap.size := by have h := hb5.size; first | (simp at h; omega) | omega
  have c5_1_0 : w5.cell? ⟨w.heap.size + 1, 0, none⟩ = some (.int .u8 18) := by rw [hb5.cell (p := ⟨w.heap.size + 1, 0, none⟩) (by first | (simp; done) | (simp; omega) | omega)]; first | assumption | (simp [go_sem]; done) | (simp [go_sem, *]; done)
  have c5_1_1 : w5.cell? ⟨w.heap.size + 1, 1, none⟩ = some (.int .i64 3) := by rw [hb5.cell (p := ⟨w.heap.size + 1, 1, none⟩) (by first | (simp; done) | (simp; omega) | omega)]; first | assumption | (simp [go_sem]; done) | (simp [go_sem, *]; done)
  have c5_1_2 : w5.cell? ⟨w.heap.size + 1, 2, none⟩ = some (.int .i64 1) := by rw [hb5.cell (p := ⟨w.heap.size + 1, 2, none⟩) (by first | (simp; done) | (simp; omega) | omega)]; first | assumption | (simp [go_sem]; done) | (simp [go_sem, *]; done)
  have c5_1_3 : w5.cell? ⟨w.heap.size + 1, 3, none⟩ = some (.int .i64 0) := by rw [hb5.cell (p := ⟨w.heap.size + 1, 3, none⟩) (by first | (simp; done) | (simp; omega) | omega)]; first | assumption | (simp [go_sem]; done) | (simp [go_sem, *]; done)
  have c5_1_4 : w5.cell? ⟨w.heap.size + 1, 4, none⟩ = some (.int .i64 0) := by rw [hb5.cell (p := ⟨w.heap.size + 1, 4, none⟩) (by first | (simp; done) | (simp; omega) | omega)]; first | assumption | (simp [go_sem]; done) | (simp [go_sem, *]; done)
  have c5_1_5 : w5.cell? ⟨w.heap.size + 1, 5, none⟩ = some (.int .u8 4) := by rw [hb5.cell (p := ⟨w.heap.size + 1, 5, none⟩) (by first | (simp; done) | (simp; omega) | omega)]; first | assumption | (simp [go_sem]; done) | (simp [go_sem, *]; done)
  have c5_1_6 : w5.cell? ⟨w.heap.size + 1, 6, none⟩ = some (.int .i64 4) := by rw [hb5.cell (p := ⟨w.heap.size + 1, 6, none⟩) (by first | (simp; done) | (simp; omega) | omega)]; first | assumption | (simp [go_sem]; done) | (simp [go_sem, *]; done)
  have c5_1_7 : w5.cell? ⟨w.heap.size + 1, 7, none⟩ = some (.int .i64 3) := by rw [hb5.cell (p := ⟨w.heap.size + 1, 7, none⟩) (by first | (simp; done) | (simp; omega) | omega)]; first | assumption | (simp [go_sem]; done) | (simp [go_sem, *]; done)
  have c5_1_8 : w5.cell? ⟨w.heap.size + 1, 8, none⟩ = some (.int .i64 3) := by rw [hb5.cell (p := ⟨w.heap.size + 1, 8, none⟩) (by first | (simp; done) | (simp; omega) | omega)]; first | assumption | (simp [go_sem]; done) | (simp [go_sem, *]; done)
  have c5_1_9 : w5.cell? ⟨w.heap.size + 1, 9, none⟩ = some (.int .i64 0) := by rw [hb5.cell (p := ⟨w.heap.size + 1, 9, none⟩) (by first | (simp; done) | (simp; omega) | omega)]; first | assumption | (simp [go_sem]; done) | (simp [go_sem, *]; done)
  have HB5 : Below w.heap.size w w5 := by
    repeat (first | (with_reducible exact Below.refl _ _) | (with_reducible apply bDrewN) | (with_reducible apply Below.drew) | (with_reducible exact HB4) | ((with_reducible apply bThen hb5); (focus first | (simp; done) | (simp; omega) | omega)) | ((with_reducible apply bSet); (focus first | (simp; done) | (simp; omega) | omega)) | ((with_reducible apply bAlloc); (focus first | (simp; done) | (simp; omega) | omega)))
  have hsz5 := HB5.size
  clear hb5 sz4_0 c4_0_0 c4_0_1 c4_0_2 c4_0_3 sz4_1 c4_1_0 c4_1_1 c4_1_2 c4_1_3 c4_1_4 c4_1_5 c4_1_6 c4_1_7 c4_1_8 c4_1_9 hsz4
  go_wp2_with fail
  go_ret
  refine ⟨rfl, ?_⟩
  (repeat (first | (with_reducible exact Below.refl _ _) | (with_reducible apply bDrewN) | (with_reducible apply Below.drew) | (with_reducible exact HB5) | ((with_reducible apply bSet); (focus first | (simp; done) | (simp; omega) | omega)) | ((with_reducible apply bAlloc); (focus first | (simp; done) | (simp; omega) | omega))))

end Go.Proofs.YtjfenhnlonbmmaaDoor
