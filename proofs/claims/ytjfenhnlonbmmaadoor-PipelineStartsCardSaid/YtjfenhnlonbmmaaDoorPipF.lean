/- Layer 8: the law PipelineStarts. -/
import Derived.Test.YtjfenhnlonbmmaaDoorPipP
set_option linter.unusedVariables false
set_option linter.unusedSimpArgs false
namespace Go.Proofs.YtjfenhnlonbmmaaDoor
open Go.RowKit Go.Sort

set_option maxHeartbeats 3200000 in
theorem starts_nil (m d t h a b : Int) (p : Option Addr) (cap : Nat) (w : World) (hT : Tab w) :
    Calls Tryd.prog 6 #[.agg #[.int .i64 m, .int .i64 d, .int .i64 t, .int .i64 h], .int .i64 a, .int .i64 b, .slice p 0 cap] w fun e w' => e = .returned (.bool true) ∧ Below w.heap.size w w' := by
  have HV := Lib.hid (fun (w : World) => validT_any m d t h w)
  cases hok : okT m d t h
  · rw [hok] at HV
    have hz := hT.size
    go_enter Tryd.func6, Tryd.ntmps6
    go_wp2_with fail
    refine (awake8_any _ (Tab.of_below hT (by repeat (first | (with_reducible exact Below.refl _ _) | (with_reducible apply bDrewN) | (with_reducible apply Below.drew) | ((with_reducible apply bSet); (focus first | (simp; done) | (simp; omega) | omega)) | ((with_reducible apply bAlloc); (focus first | (simp; done) | (simp; omega) | omega)))))).mono ?_
    rintro e w1 ⟨rfl, hb1⟩
    have hT1 : Tab w1 := Tab.of_below (Tab.of_below hT (by repeat (first | (with_reducible exact Below.refl _ _) | (with_reducible apply bDrewN) | (with_reducible apply Below.drew) | ((with_reducible apply bSet); (focus first | (simp; done) | (simp; omega) | omega)) | ((with_reducible apply bAlloc); (focus first | (simp; done) | (simp; omega) | omega))))) hb1
    have sz1_0 : w.heap.size < w1.heap.size := by have h := hb1.size; first | (simp at h; omega) | omega
    have c1_0_0 : w1.cell? ⟨w.heap.size, 0, none⟩ = some (.int .i64 m) := by rw [hb1.cell (p := ⟨w.heap.size, 0, none⟩) (by first | (simp; done) | (simp; omega) | omega)]; first | assumption | (simp [go_sem]; done) | (simp [go_sem, *]; done)
    have c1_0_1 : w1.cell? ⟨w.heap.size, 1, none⟩ = some (.int .i64 d) := by rw [hb1.cell (p := ⟨w.heap.size, 1, none⟩) (by first | (simp; done) | (simp; omega) | omega)]; first | assumption | (simp [go_sem]; done) | (simp [go_sem, *]; done)
    have c1_0_2 : w1.cell? ⟨w.heap.size, 2, none⟩ = some (.int .i64 t) := by rw [hb1.cell (p := ⟨w.heap.size, 2, none⟩) (by first | (simp; done) | (simp; omega) | omega)]; first | assumption | (simp [go_sem]; done) | (simp [go_sem, *]; done)
    have c1_0_3 : w1.cell? ⟨w.heap.size, 3, none⟩ = some (.int .i64 h) := by rw [hb1.cell (p := ⟨w.heap.size, 3, none⟩) (by first | (simp; done) | (simp; omega) | omega)]; first | assumption | (simp [go_sem]; done) | (simp [go_sem, *]; done)
    have HB1 : Below w.heap.size w w1 := by
      repeat (first | (with_reducible exact Below.refl _ _) | (with_reducible apply bDrewN) | (with_reducible apply Below.drew) | ((with_reducible apply bThen hb1); (focus first | (simp; done) | (simp; omega) | omega)) | ((with_reducible apply bSet); (focus first | (simp; done) | (simp; omega) | omega)) | ((with_reducible apply bAlloc); (focus first | (simp; done) | (simp; omega) | omega)))
    have hsz1 := HB1.size
    clear hb1 
    go_wp2_with fail
    refine (HV.out _).mono ?_
    rintro e w2 ⟨rfl, hb2⟩
    have hT2 : Tab w2 := Tab.of_below (Tab.of_below hT1 (by repeat (first | (with_reducible exact Below.refl _ _) | (with_reducible apply bDrewN) | (with_reducible apply Below.drew) | ((with_reducible apply bSet); (focus first | (simp; done) | (simp; omega) | omega)) | ((with_reducible apply bAlloc); (focus first | (simp; done) | (simp; omega) | omega))))) hb2
    have sz2_0 : w.heap.size < w2.heap.size := by have h := hb2.size; first | (simp at h; omega) | omega
    have c2_0_0 : w2.cell? ⟨w.heap.size, 0, none⟩ = some (.int .i64 m) := by rw [hb2.cell (p := ⟨w.heap.size, 0, none⟩) (by first | (simp; done) | (simp; omega) | omega)]; first | assumption | (simp [go_sem]; done) | (simp [go_sem, *]; done)
    have c2_0_1 : w2.cell? ⟨w.heap.size, 1, none⟩ = some (.int .i64 d) := by rw [hb2.cell (p := ⟨w.heap.size, 1, none⟩) (by first | (simp; done) | (simp; omega) | omega)]; first | assumption | (simp [go_sem]; done) | (simp [go_sem, *]; done)
    have c2_0_2 : w2.cell? ⟨w.heap.size, 2, none⟩ = some (.int .i64 t) := by rw [hb2.cell (p := ⟨w.heap.size, 2, none⟩) (by first | (simp; done) | (simp; omega) | omega)]; first | assumption | (simp [go_sem]; done) | (simp [go_sem, *]; done)
    have c2_0_3 : w2.cell? ⟨w.heap.size, 3, none⟩ = some (.int .i64 h) := by rw [hb2.cell (p := ⟨w.heap.size, 3, none⟩) (by first | (simp; done) | (simp; omega) | omega)]; first | assumption | (simp [go_sem]; done) | (simp [go_sem, *]; done)
    have HB2 : Below w.heap.size w w2 := by
      repeat (first | (with_reducible exact Below.refl _ _) | (with_reducible apply bDrewN) | (with_reducible apply Below.drew) | (with_reducible exact HB1) | ((with_reducible apply bThen hb2); (focus first | (simp; done) | (simp; omega) | omega)) | ((with_reducible apply bSet); (focus first | (simp; done) | (simp; omega) | omega)) | ((with_reducible apply bAlloc); (focus first | (simp; done) | (simp; omega) | omega)))
    have hsz2 := HB2.size
    clear hb2 sz1_0 c1_0_0 c1_0_1 c1_0_2 c1_0_3 hsz1
    go_wp2_with fail
    go_ret
    refine ⟨rfl, ?_⟩
    (repeat (first | (with_reducible exact Below.refl _ _) | (with_reducible apply bDrewN) | (with_reducible apply Below.drew) | (with_reducible exact HB2) | ((with_reducible apply bSet); (focus first | (simp; done) | (simp; omega) | omega)) | ((with_reducible apply bAlloc); (focus first | (simp; done) | (simp; omega) | omega))))
  · rw [hok] at HV
    obtain ⟨hm, hd, ht, hh⟩ := okT_bd hok
    clear hok
    have hz := hT.size
    go_enter Tryd.func6, Tryd.ntmps6
    go_wp2_with fail
    refine (awake8_any _ (Tab.of_below hT (by repeat (first | (with_reducible exact Below.refl _ _) | (with_reducible apply bDrewN) | (with_reducible apply Below.drew) | ((with_reducible apply bSet); (focus first | (simp; done) | (simp; omega) | omega)) | ((with_reducible apply bAlloc); (focus first | (simp; done) | (simp; omega) | omega)))))).mono ?_
    rintro e w1 ⟨rfl, hb1⟩
    have hT1 : Tab w1 := Tab.of_below (Tab.of_below hT (by repeat (first | (with_reducible exact Below.refl _ _) | (with_reducible apply bDrewN) | (with_reducible apply Below.drew) | ((with_reducible apply bSet); (focus first | (simp; done) | (simp; omega) | omega)) | ((with_reducible apply bAlloc); (focus first | (simp; done) | (simp; omega) | omega))))) hb1
    have sz1_0 : w.heap.size < w1.heap.size := by have h := hb1.size; first | (simp at h; omega) | omega
    have c1_0_0 : w1.cell? ⟨w.heap.size, 0, none⟩ = some (.int .i64 m) := by rw [hb1.cell (p := ⟨w.heap.size, 0, none⟩) (by first | (simp; done) | (simp; omega) | omega)]; first | assumption | (simp [go_sem]; done) | (simp [go_sem, *]; done)
    have c1_0_1 : w1.cell? ⟨w.heap.size, 1, none⟩ = some (.int .i64 d) := by rw [hb1.cell (p := ⟨w.heap.size, 1, none⟩) (by first | (simp; done) | (simp; omega) | omega)]; first | assumption | (simp [go_sem]; done) | (simp [go_sem, *]; done)
    have c1_0_2 : w1.cell? ⟨w.heap.size, 2, none⟩ = some (.int .i64 t) := by rw [hb1.cell (p := ⟨w.heap.size, 2, none⟩) (by first | (simp; done) | (simp; omega) | omega)]; first | assumption | (simp [go_sem]; done) | (simp [go_sem, *]; done)
    have c1_0_3 : w1.cell? ⟨w.heap.size, 3, none⟩ = some (.int .i64 h) := by rw [hb1.cell (p := ⟨w.heap.size, 3, none⟩) (by first | (simp; done) | (simp; omega) | omega)]; first | assumption | (simp [go_sem]; done) | (simp [go_sem, *]; done)
    have HB1 : Below w.heap.size w w1 := by
      repeat (first | (with_reducible exact Below.refl _ _) | (with_reducible apply bDrewN) | (with_reducible apply Below.drew) | ((with_reducible apply bThen hb1); (focus first | (simp; done) | (simp; omega) | omega)) | ((with_reducible apply bSet); (focus first | (simp; done) | (simp; omega) | omega)) | ((with_reducible apply bAlloc); (focus first | (simp; done) | (simp; omega) | omega)))
    have hsz1 := HB1.size
    clear hb1 
    go_wp2_with fail
    refine (HV.out _).mono ?_
    rintro e w2 ⟨rfl, hb2⟩
    have hT2 : Tab w2 := Tab.of_below (Tab.of_below hT1 (by repeat (first | (with_reducible exact Below.refl _ _) | (with_reducible apply bDrewN) | (with_reducible apply Below.drew) | ((with_reducible apply bSet); (focus first | (simp; done) | (simp; omega) | omega)) | ((with_reducible apply bAlloc); (focus first | (simp; done) | (simp; omega) | omega))))) hb2
    have sz2_0 : w.heap.size < w2.heap.size := by have h := hb2.size; first | (simp at h; omega) | omega
    have c2_0_0 : w2.cell? ⟨w.heap.size, 0, none⟩ = some (.int .i64 m) := by rw [hb2.cell (p := ⟨w.heap.size, 0, none⟩) (by first | (simp; done) | (simp; omega) | omega)]; first | assumption | (simp [go_sem]; done) | (simp [go_sem, *]; done)
    have c2_0_1 : w2.cell? ⟨w.heap.size, 1, none⟩ = some (.int .i64 d) := by rw [hb2.cell (p := ⟨w.heap.size, 1, none⟩) (by first | (simp; done) | (simp; omega) | omega)]; first | assumption | (simp [go_sem]; done) | (simp [go_sem, *]; done)
    have c2_0_2 : w2.cell? ⟨w.heap.size, 2, none⟩ = some (.int .i64 t) := by rw [hb2.cell (p := ⟨w.heap.size, 2, none⟩) (by first | (simp; done) | (simp; omega) | omega)]; first | assumption | (simp [go_sem]; done) | (simp [go_sem, *]; done)
    have c2_0_3 : w2.cell? ⟨w.heap.size, 3, none⟩ = some (.int .i64 h) := by rw [hb2.cell (p := ⟨w.heap.size, 3, none⟩) (by first | (simp; done) | (simp; omega) | omega)]; first | assumption | (simp [go_sem]; done) | (simp [go_sem, *]; done)
    have HB2 : Below w.heap.size w w2 := by
      repeat (first | (with_reducible exact Below.refl _ _) | (with_reducible apply bDrewN) | (with_reducible apply Below.drew) | (with_reducible exact HB1) | ((with_reducible apply bThen hb2); (focus first | (simp; done) | (simp; omega) | omega)) | ((with_reducible apply bSet); (focus first | (simp; done) | (simp; omega) | omega)) | ((with_reducible apply bAlloc); (focus first | (simp; done) | (simp; omega) | omega)))
    have hsz2 := HB2.size
    clear hb2 sz1_0 c1_0_0 c1_0_1 c1_0_2 c1_0_3 hsz1
    have S0 := Lib.hid (fun (w : World) (hT : Tab w) => (show Calls Tryd.prog 18 #[.agg #[.int .i64 m, .int .i64 d, .int .i64 t, .int .i64 h], .int .i64 a, .slice p 0 cap] w fun e w' => e = .returned (.tuple #[.int .i64 0, .int .i64 a]) ∧ Below w.heap.size w w' from seq_any m d t h a (.slice p 0 cap) [] w hT ⟨p, cap, rfl, .inl rfl⟩ (by simp) hm hd ht hh))
    have S1 := Lib.hid (fun (w : World) (hT : Tab w) => (show Calls Tryd.prog 18 #[.agg #[.int .i64 m, .int .i64 d, .int .i64 t, .int .i64 h], .int .i64 b, .slice p 0 cap] w fun e w' => e = .returned (.tuple #[.int .i64 0, .int .i64 b]) ∧ Below w.heap.size w w' from seq_any m d t h b (.slice p 0 cap) [] w hT ⟨p, cap, rfl, .inl rfl⟩ (by simp) hm hd ht hh))
    have S2 := Lib.hid (fun (w : World) (hT : Tab w) => (show Calls Tryd.prog 18 #[.agg #[.int .i64 m, .int .i64 d, .int .i64 t, .int .i64 h], .int .i64 0, .slice p 0 cap] w fun e w' => e = .returned (.tuple #[.int .i64 0, .int .i64 0]) ∧ Below w.heap.size w w' from seq_any m d t h 0 (.slice p 0 cap) [] w hT ⟨p, cap, rfl, .inl rfl⟩ (by simp) hm hd ht hh))
    go_wp2_with fail
    refine (S0.out _ (Tab.of_below hT2 (by repeat (first | (with_reducible exact Below.refl _ _) | (with_reducible apply bDrewN) | (with_reducible apply Below.drew) | ((with_reducible apply bSet); (focus first | (simp; done) | (simp; omega) | omega)) | ((with_reducible apply bAlloc); (focus first | (simp; done) | (simp; omega) | omega)))))).mono ?_
    rintro e w3 ⟨rfl, hb3⟩
    have hT3 : Tab w3 := Tab.of_below (Tab.of_below hT2 (by repeat (first | (with_reducible exact Below.refl _ _) | (with_reducible apply bDrewN) | (with_reducible apply Below.drew) | ((with_reducible apply bSet); (focus first | (simp; done) | (simp; omega) | omega)) | ((with_reducible apply bAlloc); (focus first | (simp; done) | (simp; omega) | omega))))) hb3
    have sz3_0 : w.heap.size < w3.heap.size := by have h := hb3.size; first | (simp at h; omega) | omega
    have c3_0_0 : w3.cell? ⟨w.heap.size, 0, none⟩ = some (.int .i64 m) := by rw [hb3.cell (p := ⟨w.heap.size, 0, none⟩) (by first | (simp; done) | (simp; omega) | omega)]; first | assumption | (simp [go_sem]; done) | (simp [go_sem, *]; done)
    have c3_0_1 : w3.cell? ⟨w.heap.size, 1, none⟩ = some (.int .i64 d) := by rw [hb3.cell (p := ⟨w.heap.size, 1, none⟩) (by first | (simp; done) | (simp; omega) | omega)]; first | assumption | (simp [go_sem]; done) | (simp [go_sem, *]; done)
    have c3_0_2 : w3.cell? ⟨w.heap.size, 2, none⟩ = some (.int .i64 t) := by rw [hb3.cell (p := ⟨w.heap.size, 2, none⟩) (by first | (simp; done) | (simp; omega) | omega)]; first | assumption | (simp [go_sem]; done) | (simp [go_sem, *]; done)
    have c3_0_3 : w3.cell? ⟨w.heap.size, 3, none⟩ = some (.int .i64 h) := by rw [hb3.cell (p := ⟨w.heap.size, 3, none⟩) (by first | (simp; done) | (simp; omega) | omega)]; first | assumption | (simp [go_sem]; done) | (simp [go_sem, *]; done)
    have HB3 : Below w.heap.size w w3 := by
      repeat (first | (with_reducible exact Below.refl _ _) | (with_reducible apply bDrewN) | (with_reducible apply Below.drew) | (with_reducible exact HB2) | ((with_reducible apply bThen hb3); (focus first | (simp; done) | (simp; omega) | omega)) | ((with_reducible apply bSet); (focus first | (simp; done) | (simp; omega) | omega)) | ((with_reducible apply bAlloc); (focus first | (simp; done) | (simp; omega) | omega)))
    have hsz3 := HB3.size
    clear hb3 sz2_0 c2_0_0 c2_0_1 c2_0_2 c2_0_3 hsz2
    go_wp2_with fail
    refine (S1.out _ (Tab.of_below hT3 (by repeat (first | (with_reducible exact Below.refl _ _) | (with_reducible apply bDrewN) | (with_reducible apply Below.drew) | ((with_reducible apply bSet); (focus first | (simp; done) | (simp; omega) | omega)) | ((with_reducible apply bAlloc); (focus first | (simp; done) | (simp; omega) | omega)))))).mono ?_
    rintro e w4 ⟨rfl, hb4⟩
    have hT4 : Tab w4 := Tab.of_below (Tab.of_below hT3 (by repeat (first | (with_reducible exact Below.refl _ _) | (with_reducible apply bDrewN) | (with_reducible apply Below.drew) | ((with_reducible apply bSet); (focus first | (simp; done) | (simp; omega) | omega)) | ((with_reducible apply bAlloc); (focus first | (simp; done) | (simp; omega) | omega))))) hb4
    have sz4_0 : w.heap.size < w4.heap.size := by have h := hb4.size; first | (simp at h; omega) | omega
    have c4_0_0 : w4.cell? ⟨w.heap.size, 0, none⟩ = some (.int .i64 m) := by rw [hb4.cell (p := ⟨w.heap.size, 0, none⟩) (by first | (simp; done) | (simp; omega) | omega)]; first | assumption | (simp [go_sem]; done) | (simp [go_sem, *]; done)
    have c4_0_1 : w4.cell? ⟨w.heap.size, 1, none⟩ = some (.int .i64 d) := by rw [hb4.cell (p := ⟨w.heap.size, 1, none⟩) (by first | (simp; done) | (simp; omega) | omega)]; first | assumption | (simp [go_sem]; done) | (simp [go_sem, *]; done)
    have c4_0_2 : w4.cell? ⟨w.heap.size, 2, none⟩ = some (.int .i64 t) := by rw [hb4.cell (p := ⟨w.heap.size, 2, none⟩) (by first | (simp; done) | (simp; omega) | omega)]; first | assumption | (simp [go_sem]; done) | (simp [go_sem, *]; done)
    have c4_0_3 : w4.cell? ⟨w.heap.size, 3, none⟩ = some (.int .i64 h) := by rw [hb4.cell (p := ⟨w.heap.size, 3, none⟩) (by first | (simp; done) | (simp; omega) | omega)]; first | assumption | (simp [go_sem]; done) | (simp [go_sem, *]; done)
    have HB4 : Below w.heap.size w w4 := by
      repeat (first | (with_reducible exact Below.refl _ _) | (with_reducible apply bDrewN) | (with_reducible apply Below.drew) | (with_reducible exact HB3) | ((with_reducible apply bThen hb4); (focus first | (simp; done) | (simp; omega) | omega)) | ((with_reducible apply bSet); (focus first | (simp; done) | (simp; omega) | omega)) | ((with_reducible apply bAlloc); (focus first | (simp; done) | (simp; omega) | omega)))
    have hsz4 := HB4.size
    clear hb4 sz3_0 c3_0_0 c3_0_1 c3_0_2 c3_0_3 hsz3
    go_wp2_with fail
    refine (S2.out _ (Tab.of_below hT4 (by repeat (first | (with_reducible exact Below.refl _ _) | (with_reducible apply bDrewN) | (with_reducible apply Below.drew) | ((with_reducible apply bSet); (focus first | (simp; done) | (simp; omega) | omega)) | ((with_reducible apply bAlloc); (focus first | (simp; done) | (simp; omega) | omega)))))).mono ?_
    rintro e w5 ⟨rfl, hb5⟩
    have hT5 : Tab w5 := Tab.of_below (Tab.of_below hT4 (by repeat (first | (with_reducible exact Below.refl _ _) | (with_reducible apply bDrewN) | (with_reducible apply Below.drew) | ((with_reducible apply bSet); (focus first | (simp; done) | (simp; omega) | omega)) | ((with_reducible apply bAlloc); (focus first | (simp; done) | (simp; omega) | omega))))) hb5
    have sz5_0 : w.heap.size < w5.heap.size := by have h := hb5.size; first | (simp at h; omega) | omega
    have c5_0_0 : w5.cell? ⟨w.heap.size, 0, none⟩ = some (.int .i64 m) := by rw [hb5.cell (p := ⟨w.heap.size, 0, none⟩) (by first | (simp; done) | (simp; omega) | omega)]; first | assumption | (simp [go_sem]; done) | (simp [go_sem, *]; done)
    have c5_0_1 : w5.cell? ⟨w.heap.size, 1, none⟩ = some (.int .i64 d) := by rw [hb5.cell (p := ⟨w.heap.size, 1, none⟩) (by first | (simp; done) | (simp; omega) | omega)]; first | assumption | (simp [go_sem]; done) | (simp [go_sem, *]; done)
    have c5_0_2 : w5.cell? ⟨w.heap.size, 2, none⟩ = some (.int .i64 t) := by rw [hb5.cell (p := ⟨w.heap.size, 2, none⟩) (by first | (simp; done) | (simp; omega) | omega)]; first | assumption | (simp [go_sem]; done) | (simp [go_sem, *]; done)
    have c5_0_3 : w5.cell? ⟨w.heap.size, 3, none⟩ = some (.int .i64 h) := by rw [hb5.cell (p := ⟨w.heap.size, 3, none⟩) (by first | (simp; done) | (simp; omega) | omega)]; first | assumption | (simp [go_sem]; done) | (simp [go_sem, *]; done)
    have HB5 : Below w.heap.size w w5 := by
      repeat (first | (with_reducible exact Below.refl _ _) | (with_reducible apply bDrewN) | (with_reducible apply Below.drew) | (with_reducible exact HB4) | ((with_reducible apply bThen hb5); (focus first | (simp; done) | (simp; omega) | omega)) | ((with_reducible apply bSet); (focus first | (simp; done) | (simp; omega) | omega)) | ((with_reducible apply bAlloc); (focus first | (simp; done) | (simp; omega) | omega)))
    have hsz5 := HB5.size
    clear hb5 sz4_0 c4_0_0 c4_0_1 c4_0_2 c4_0_3 hsz4
    go_wp2_with fail
    go_ret
    refine ⟨rfl, ?_⟩
    (repeat (first | (with_reducible exact Below.refl _ _) | (with_reducible apply bDrewN) | (with_reducible apply Below.drew) | (with_reducible exact HB5) | ((with_reducible apply bSet); (focus first | (simp; done) | (simp; omega) | omega)) | ((with_reducible apply bAlloc); (focus first | (simp; done) | (simp; omega) | omega))))

set_option maxHeartbeats 3200000 in
theorem starts_any (m d t h a b : Int) (v : Value) (l : List Ins) (w : World) (hT : Tab w) (hv : InsAt w v l) :
    Calls Tryd.prog 6 #[.agg #[.int .i64 m, .int .i64 d, .int .i64 t, .int .i64 h], .int .i64 a, .int .i64 b, v] w fun e w' => e = .returned (.bool true) ∧ Below w.heap.size w w' := by
  by_cases hz0 : l.length = 0
  · obtain rfl := List.length_eq_zero_iff.1 hz0
    obtain ⟨p, cap, rfl, hp⟩ := hv
    exact starts_nil m d t h a b p cap w hT
  obtain ⟨p, cap, rfl, hp⟩ := hv
  have HP := Lib.hid hp
  clear hp
  have HV := Lib.hid (fun (w : World) => validT_any m d t h w)
  cases hok : okT m d t h
  · rw [hok] at HV
    have hz := hT.size
    go_enter Tryd.func6, Tryd.ntmps6
    go_wp2_with fail
    refine (awake8_any _ (Tab.of_below hT (by repeat (first | (with_reducible exact Below.refl _ _) | (with_reducible apply bDrewN) | (with_reducible apply Below.drew) | ((with_reducible apply bSet); (focus first | (simp; done) | (simp; omega) | omega)) | ((with_reducible apply bAlloc); (focus first | (simp; done) | (simp; omega) | omega)))))).mono ?_
    rintro e w1 ⟨rfl, hb1⟩
    have hT1 : Tab w1 := Tab.of_below (Tab.of_below hT (by repeat (first | (with_reducible exact Below.refl _ _) | (with_reducible apply bDrewN) | (with_reducible apply Below.drew) | ((with_reducible apply bSet); (focus first | (simp; done) | (simp; omega) | omega)) | ((with_reducible apply bAlloc); (focus first | (simp; done) | (simp; omega) | omega))))) hb1
    have sz1_0 : w.heap.size < w1.heap.size := by have h := hb1.size; first | (simp at h; omega) | omega
    have c1_0_0 : w1.cell? ⟨w.heap.size, 0, none⟩ = some (.int .i64 m) := by rw [hb1.cell (p := ⟨w.heap.size, 0, none⟩) (by first | (simp; done) | (simp; omega) | omega)]; first | assumption | (simp [go_sem]; done) | (simp [go_sem, *]; done)
    have c1_0_1 : w1.cell? ⟨w.heap.size, 1, none⟩ = some (.int .i64 d) := by rw [hb1.cell (p := ⟨w.heap.size, 1, none⟩) (by first | (simp; done) | (simp; omega) | omega)]; first | assumption | (simp [go_sem]; done) | (simp [go_sem, *]; done)
    have c1_0_2 : w1.cell? ⟨w.heap.size, 2, none⟩ = some (.int .i64 t) := by rw [hb1.cell (p := ⟨w.heap.size, 2, none⟩) (by first | (simp; done) | (simp; omega) | omega)]; first | assumption | (simp [go_sem]; done) | (simp [go_sem, *]; done)
    have c1_0_3 : w1.cell? ⟨w.heap.size, 3, none⟩ = some (.int .i64 h) := by rw [hb1.cell (p := ⟨w.heap.size, 3, none⟩) (by first | (simp; done) | (simp; omega) | omega)]; first | assumption | (simp [go_sem]; done) | (simp [go_sem, *]; done)
    have HB1 : Below w.heap.size w w1 := by
      repeat (first | (with_reducible exact Below.refl _ _) | (with_reducible apply bDrewN) | (with_reducible apply Below.drew) | ((with_reducible apply bThen hb1); (focus first | (simp; done) | (simp; omega) | omega)) | ((with_reducible apply bSet); (focus first | (simp; done) | (simp; omega) | omega)) | ((with_reducible apply bAlloc); (focus first | (simp; done) | (simp; omega) | omega)))
    have hsz1 := HB1.size
    clear hb1 
    go_wp2_with fail
    refine (HV.out _).mono ?_
    rintro e w2 ⟨rfl, hb2⟩
    have hT2 : Tab w2 := Tab.of_below (Tab.of_below hT1 (by repeat (first | (with_reducible exact Below.refl _ _) | (with_reducible apply bDrewN) | (with_reducible apply Below.drew) | ((with_reducible apply bSet); (focus first | (simp; done) | (simp; omega) | omega)) | ((with_reducible apply bAlloc); (focus first | (simp; done) | (simp; omega) | omega))))) hb2
    have sz2_0 : w.heap.size < w2.heap.size := by have h := hb2.size; first | (simp at h; omega) | omega
    have c2_0_0 : w2.cell? ⟨w.heap.size, 0, none⟩ = some (.int .i64 m) := by rw [hb2.cell (p := ⟨w.heap.size, 0, none⟩) (by first | (simp; done) | (simp; omega) | omega)]; first | assumption | (simp [go_sem]; done) | (simp [go_sem, *]; done)
    have c2_0_1 : w2.cell? ⟨w.heap.size, 1, none⟩ = some (.int .i64 d) := by rw [hb2.cell (p := ⟨w.heap.size, 1, none⟩) (by first | (simp; done) | (simp; omega) | omega)]; first | assumption | (simp [go_sem]; done) | (simp [go_sem, *]; done)
    have c2_0_2 : w2.cell? ⟨w.heap.size, 2, none⟩ = some (.int .i64 t) := by rw [hb2.cell (p := ⟨w.heap.size, 2, none⟩) (by first | (simp; done) | (simp; omega) | omega)]; first | assumption | (simp [go_sem]; done) | (simp [go_sem, *]; done)
    have c2_0_3 : w2.cell? ⟨w.heap.size, 3, none⟩ = some (.int .i64 h) := by rw [hb2.cell (p := ⟨w.heap.size, 3, none⟩) (by first | (simp; done) | (simp; omega) | omega)]; first | assumption | (simp [go_sem]; done) | (simp [go_sem, *]; done)
    have HB2 : Below w.heap.size w w2 := by
      repeat (first | (with_reducible exact Below.refl _ _) | (with_reducible apply bDrewN) | (with_reducible apply Below.drew) | (with_reducible exact HB1) | ((with_reducible apply bThen hb2); (focus first | (simp; done) | (simp; omega) | omega)) | ((with_reducible apply bSet); (focus first | (simp; done) | (simp; omega) | omega)) | ((with_reducible apply bAlloc); (focus first | (simp; done) | (simp; omega) | omega)))
    have hsz2 := HB2.size
    clear hb2 sz1_0 c1_0_0 c1_0_1 c1_0_2 c1_0_3 hsz1
    go_wp2_with fail
    go_ret
    refine ⟨rfl, ?_⟩
    (repeat (first | (with_reducible exact Below.refl _ _) | (with_reducible apply bDrewN) | (with_reducible apply Below.drew) | (with_reducible exact HB2) | ((with_reducible apply bSet); (focus first | (simp; done) | (simp; omega) | omega)) | ((with_reducible apply bAlloc); (focus first | (simp; done) | (simp; omega) | omega))))
  · rw [hok] at HV
    obtain ⟨hm, hd, ht, hh⟩ := okT_bd hok
    clear hok
    by_cases hl : l.length ≤ 40
    · have hlI : ¬ (40 : Int) < l.length := by omega
      have hz := hT.size
      go_enter Tryd.func6, Tryd.ntmps6
      go_wp2_with fail
      refine (awake8_any _ (Tab.of_below hT (by repeat (first | (with_reducible exact Below.refl _ _) | (with_reducible apply bDrewN) | (with_reducible apply Below.drew) | ((with_reducible apply bSet); (focus first | (simp; done) | (simp; omega) | omega)) | ((with_reducible apply bAlloc); (focus first | (simp; done) | (simp; omega) | omega)))))).mono ?_
      rintro e w1 ⟨rfl, hb1⟩
      have hT1 : Tab w1 := Tab.of_below (Tab.of_below hT (by repeat (first | (with_reducible exact Below.refl _ _) | (with_reducible apply bDrewN) | (with_reducible apply Below.drew) | ((with_reducible apply bSet); (focus first | (simp; done) | (simp; omega) | omega)) | ((with_reducible apply bAlloc); (focus first | (simp; done) | (simp; omega) | omega))))) hb1
      have sz1_0 : w.heap.size < w1.heap.size := by have h := hb1.size; first | (simp at h; omega) | omega
      have c1_0_0 : w1.cell? ⟨w.heap.size, 0, none⟩ = some (.int .i64 m) := by rw [hb1.cell (p := ⟨w.heap.size, 0, none⟩) (by first | (simp; done) | (simp; omega) | omega)]; first | assumption | (simp [go_sem]; done) | (simp [go_sem, *]; done)
      have c1_0_1 : w1.cell? ⟨w.heap.size, 1, none⟩ = some (.int .i64 d) := by rw [hb1.cell (p := ⟨w.heap.size, 1, none⟩) (by first | (simp; done) | (simp; omega) | omega)]; first | assumption | (simp [go_sem]; done) | (simp [go_sem, *]; done)
      have c1_0_2 : w1.cell? ⟨w.heap.size, 2, none⟩ = some (.int .i64 t) := by rw [hb1.cell (p := ⟨w.heap.size, 2, none⟩) (by first | (simp; done) | (simp; omega) | omega)]; first | assumption | (simp [go_sem]; done) | (simp [go_sem, *]; done)
      have c1_0_3 : w1.cell? ⟨w.heap.size, 3, none⟩ = some (.int .i64 h) := by rw [hb1.cell (p := ⟨w.heap.size, 3, none⟩) (by first | (simp; done) | (simp; omega) | omega)]; first | assumption | (simp [go_sem]; done) | (simp [go_sem, *]; done)
      have HB1 : Below w.heap.size w w1 := by
        repeat (first | (with_reducible exact Below.refl _ _) | (with_reducible apply bDrewN) | (with_reducible apply Below.drew) | ((with_reducible apply bThen hb1); (focus first | (simp; done) | (simp; omega) | omega)) | ((with_reducible apply bSet); (focus first | (simp; done) | (simp; omega) | omega)) | ((with_reducible apply bAlloc); (focus first | (simp; done) | (simp; omega) | omega)))
      have hsz1 := HB1.size
      clear hb1 
      go_wp2_with fail
      refine (HV.out _).mono ?_
      rintro e w2 ⟨rfl, hb2⟩
      have hT2 : Tab w2 := Tab.of_below (Tab.of_below hT1 (by repeat (first | (with_reducible exact Below.refl _ _) | (with_reducible apply bDrewN) | (with_reducible apply Below.drew) | ((with_reducible apply bSet); (focus first | (simp; done) | (simp; omega) | omega)) | ((with_reducible apply bAlloc); (focus first | (simp; done) | (simp; omega) | omega))))) hb2
      have sz2_0 : w.heap.size < w2.heap.size := by have h := hb2.size; first | (simp at h; omega) | omega
      have c2_0_0 : w2.cell? ⟨w.heap.size, 0, none⟩ = some (.int .i64 m) := by rw [hb2.cell (p := ⟨w.heap.size, 0, none⟩) (by first | (simp; done) | (simp; omega) | omega)]; first | assumption | (simp [go_sem]; done) | (simp [go_sem, *]; done)
      have c2_0_1 : w2.cell? ⟨w.heap.size, 1, none⟩ = some (.int .i64 d) := by rw [hb2.cell (p := ⟨w.heap.size, 1, none⟩) (by first | (simp; done) | (simp; omega) | omega)]; first | assumption | (simp [go_sem]; done) | (simp [go_sem, *]; done)
      have c2_0_2 : w2.cell? ⟨w.heap.size, 2, none⟩ = some (.int .i64 t) := by rw [hb2.cell (p := ⟨w.heap.size, 2, none⟩) (by first | (simp; done) | (simp; omega) | omega)]; first | assumption | (simp [go_sem]; done) | (simp [go_sem, *]; done)
      have c2_0_3 : w2.cell? ⟨w.heap.size, 3, none⟩ = some (.int .i64 h) := by rw [hb2.cell (p := ⟨w.heap.size, 3, none⟩) (by first | (simp; done) | (simp; omega) | omega)]; first | assumption | (simp [go_sem]; done) | (simp [go_sem, *]; done)
      have HB2 : Below w.heap.size w w2 := by
        repeat (first | (with_reducible exact Below.refl _ _) | (with_reducible apply bDrewN) | (with_reducible apply Below.drew) | (with_reducible exact HB1) | ((with_reducible apply bThen hb2); (focus first | (simp; done) | (simp; omega) | omega)) | ((with_reducible apply bSet); (focus first | (simp; done) | (simp; omega) | omega)) | ((with_reducible apply bAlloc); (focus first | (simp; done) | (simp; omega) | omega)))
      have hsz2 := HB2.size
      clear hb2 sz1_0 c1_0_0 c1_0_1 c1_0_2 c1_0_3 hsz1
      have hs1 := sq_start hm hd ht hh a b l
      have hs2 := sq_start hm hd ht hh b a l
      have hq1 := sqT_bd hm hd ht hh a l
      have hq2 := sqT_bd hm hd ht hh b l
      have hq3 := sqT_bd hm hd ht hh 0 l
      have S0 := Lib.hid (fun (w : World) (hT : Tab w) (hv : InsAt w (.slice p l.length cap) l) => seq_any m d t h a _ l w hT hv hl hm hd ht hh)
      have S1 := Lib.hid (fun (w : World) (hT : Tab w) (hv : InsAt w (.slice p l.length cap) l) => seq_any m d t h b _ l w hT hv hl hm hd ht hh)
      have S2 := Lib.hid (fun (w : World) (hT : Tab w) (hv : InsAt w (.slice p l.length cap) l) => seq_any m d t h 0 _ l w hT hv hl hm hd ht hh)
      have HN : sqS a l = sqS b l := hs1.2.2 (fun e => hz0 (by rw [e]; rfl))
      have hs1a := hs1.1
      have hs1b := hs1.2.1
      have hs2a := hs2.1
      clear hs1 hs2
      generalize sqT m d t h a l = A at *
      generalize sqT m d t h b l = B at *
      generalize sqT m d t h 0 l = Z at *
      generalize sqS a l = X at *
      generalize sqS b l = Y at *
      generalize sqS 0 l = O at *
      subst HN
      have hzI : (((l.length : Nat) : Int) == 0) = false := beq_eq_false_iff_ne.2 (by omega)
      go_wp2_with fail
      refine (S0.out _ (Tab.of_below hT2 (by repeat (first | (with_reducible exact Below.refl _ _) | (with_reducible apply bDrewN) | (with_reducible apply Below.drew) | ((with_reducible apply bSet); (focus first | (simp; done) | (simp; omega) | omega)) | ((with_reducible apply bAlloc); (focus first | (simp; done) | (simp; omega) | omega))))) (InsAt.below (v := .slice p l.length cap) (l := l) ⟨_, _, rfl, HP.out⟩ (show Below w.heap.size w _ from by repeat (first | (with_reducible exact Below.refl _ _) | (with_reducible apply bDrewN) | (with_reducible apply Below.drew) | (with_reducible exact HB2) | ((with_reducible apply bSet); (focus first | (simp; done) | (simp; omega) | omega)) | ((with_reducible apply bAlloc); (focus first | (simp; done) | (simp; omega) | omega)))) (Nat.le_refl _))).mono ?_
      rintro e w3 ⟨rfl, hb3⟩
      have hT3 : Tab w3 := Tab.of_below (Tab.of_below hT2 (by repeat (first | (with_reducible exact Below.refl _ _) | (with_reducible apply bDrewN) | (with_reducible apply Below.drew) | ((with_reducible apply bSet); (focus first | (simp; done) | (simp; omega) | omega)) | ((with_reducible apply bAlloc); (focus first | (simp; done) | (simp; omega) | omega))))) hb3
      have sz3_0 : w.heap.size < w3.heap.size := by have h := hb3.size; first | (simp at h; omega) | omega
      have c3_0_0 : w3.cell? ⟨w.heap.size, 0, none⟩ = some (.int .i64 m) := by rw [hb3.cell (p := ⟨w.heap.size, 0, none⟩) (by first | (simp; done) | (simp; omega) | omega)]; first | assumption | (simp [go_sem]; done) | (simp [go_sem, *]; done)
      have c3_0_1 : w3.cell? ⟨w.heap.size, 1, none⟩ = some (.int .i64 d) := by rw [hb3.cell (p := ⟨w.heap.size, 1, none⟩) (by first | (simp; done) | (simp; omega) | omega)]; first | assumption | (simp [go_sem]; done) | (simp [go_sem, *]; done)
      have c3_0_2 : w3.cell? ⟨w.heap.size, 2, none⟩ = some (.int .i64 t) := by rw [hb3.cell (p := ⟨w.heap.size, 2, none⟩) (by first | (simp; done) | (simp; omega) | omega)]; first | assumption | (simp [go_sem]; done) | (simp [go_sem, *]; done)
      have c3_0_3 : w3.cell? ⟨w.heap.size, 3, none⟩ = some (.int .i64 h) := by rw [hb3.cell (p := ⟨w.heap.size, 3, none⟩) (by first | (simp; done) | (simp; omega) | omega)]; first | assumption | (simp [go_sem]; done) | (simp [go_sem, *]; done)
      have HB3 : Below w.heap.size w w3 := by
        repeat (first | (with_reducible exact Below.refl _ _) | (with_reducible apply bDrewN) | (with_reducible apply Below.drew) | (with_reducible exact HB2) | ((with_reducible apply bThen hb3); (focus first | (simp; done) | (simp; omega) | omega)) | ((with_reducible apply bSet); (focus first | (simp; done) | (simp; omega) | omega)) | ((with_reducible apply bAlloc); (focus first | (simp; done) | (simp; omega) | omega)))
      have hsz3 := HB3.size
      clear hb3 sz2_0 c2_0_0 c2_0_1 c2_0_2 c2_0_3 hsz2
      go_wp2_with fail
      refine (S1.out _ (Tab.of_below hT3 (by repeat (first | (with_reducible exact Below.refl _ _) | (with_reducible apply bDrewN) | (with_reducible apply Below.drew) | ((with_reducible apply bSet); (focus first | (simp; done) | (simp; omega) | omega)) | ((with_reducible apply bAlloc); (focus first | (simp; done) | (simp; omega) | omega))))) (InsAt.below (v := .slice p l.length cap) (l := l) ⟨_, _, rfl, HP.out⟩ (show Below w.heap.size w _ from by repeat (first | (with_reducible exact Below.refl _ _) | (with_reducible apply bDrewN) | (with_reducible apply Below.drew) | (with_reducible exact HB3) | ((with_reducible apply bSet); (focus first | (simp; done) | (simp; omega) | omega)) | ((with_reducible apply bAlloc); (focus first | (simp; done) | (simp; omega) | omega)))) (Nat.le_refl _))).mono ?_
      rintro e w4 ⟨rfl, hb4⟩
      have hT4 : Tab w4 := Tab.of_below (Tab.of_below hT3 (by repeat (first | (with_reducible exact Below.refl _ _) | (with_reducible apply bDrewN) | (with_reducible apply Below.drew) | ((with_reducible apply bSet); (focus first | (simp; done) | (simp; omega) | omega)) | ((with_reducible apply bAlloc); (focus first | (simp; done) | (simp; omega) | omega))))) hb4
      have sz4_0 : w.heap.size < w4.heap.size := by have h := hb4.size; first | (simp at h; omega) | omega
      have c4_0_0 : w4.cell? ⟨w.heap.size, 0, none⟩ = some (.int .i64 m) := by rw [hb4.cell (p := ⟨w.heap.size, 0, none⟩) (by first | (simp; done) | (simp; omega) | omega)]; first | assumption | (simp [go_sem]; done) | (simp [go_sem, *]; done)
      have c4_0_1 : w4.cell? ⟨w.heap.size, 1, none⟩ = some (.int .i64 d) := by rw [hb4.cell (p := ⟨w.heap.size, 1, none⟩) (by first | (simp; done) | (simp; omega) | omega)]; first | assumption | (simp [go_sem]; done) | (simp [go_sem, *]; done)
      have c4_0_2 : w4.cell? ⟨w.heap.size, 2, none⟩ = some (.int .i64 t) := by rw [hb4.cell (p := ⟨w.heap.size, 2, none⟩) (by first | (simp; done) | (simp; omega) | omega)]; first | assumption | (simp [go_sem]; done) | (simp [go_sem, *]; done)
      have c4_0_3 : w4.cell? ⟨w.heap.size, 3, none⟩ = some (.int .i64 h) := by rw [hb4.cell (p := ⟨w.heap.size, 3, none⟩) (by first | (simp; done) | (simp; omega) | omega)]; first | assumption | (simp [go_sem]; done) | (simp [go_sem, *]; done)
      have HB4 : Below w.heap.size w w4 := by
        repeat (first | (with_reducible exact Below.refl _ _) | (with_reducible apply bDrewN) | (with_reducible apply Below.drew) | (with_reducible exact HB3) | ((with_reducible apply bThen hb4); (focus first | (simp; done) | (simp; omega) | omega)) | ((with_reducible apply bSet); (focus first | (simp; done) | (simp; omega) | omega)) | ((with_reducible apply bAlloc); (focus first | (simp; done) | (simp; omega) | omega)))
      have hsz4 := HB4.size
      clear hb4 sz3_0 c3_0_0 c3_0_1 c3_0_2 c3_0_3 hsz3
      go_wp2_with fail
      refine (S2.out _ (Tab.of_below hT4 (by repeat (first | (with_reducible exact Below.refl _ _) | (with_reducible apply bDrewN) | (with_reducible apply Below.drew) | ((with_reducible apply bSet); (focus first | (simp; done) | (simp; omega) | omega)) | ((with_reducible apply bAlloc); (focus first | (simp; done) | (simp; omega) | omega))))) (InsAt.below (v := .slice p l.length cap) (l := l) ⟨_, _, rfl, HP.out⟩ (show Below w.heap.size w _ from by repeat (first | (with_reducible exact Below.refl _ _) | (with_reducible apply bDrewN) | (with_reducible apply Below.drew) | (with_reducible exact HB4) | ((with_reducible apply bSet); (focus first | (simp; done) | (simp; omega) | omega)) | ((with_reducible apply bAlloc); (focus first | (simp; done) | (simp; omega) | omega)))) (Nat.le_refl _))).mono ?_
      rintro e w5 ⟨rfl, hb5⟩
      have hT5 : Tab w5 := Tab.of_below (Tab.of_below hT4 (by repeat (first | (with_reducible exact Below.refl _ _) | (with_reducible apply bDrewN) | (with_reducible apply Below.drew) | ((with_reducible apply bSet); (focus first | (simp; done) | (simp; omega) | omega)) | ((with_reducible apply bAlloc); (focus first | (simp; done) | (simp; omega) | omega))))) hb5
      have sz5_0 : w.heap.size < w5.heap.size := by have h := hb5.size; first | (simp at h; omega) | omega
      have c5_0_0 : w5.cell? ⟨w.heap.size, 0, none⟩ = some (.int .i64 m) := by rw [hb5.cell (p := ⟨w.heap.size, 0, none⟩) (by first | (simp; done) | (simp; omega) | omega)]; first | assumption | (simp [go_sem]; done) | (simp [go_sem, *]; done)
      have c5_0_1 : w5.cell? ⟨w.heap.size, 1, none⟩ = some (.int .i64 d) := by rw [hb5.cell (p := ⟨w.heap.size, 1, none⟩) (by first | (simp; done) | (simp; omega) | omega)]; first | assumption | (simp [go_sem]; done) | (simp [go_sem, *]; done)
      have c5_0_2 : w5.cell? ⟨w.heap.size, 2, none⟩ = some (.int .i64 t) := by rw [hb5.cell (p := ⟨w.heap.size, 2, none⟩) (by first | (simp; done) | (simp; omega) | omega)]; first | assumption | (simp [go_sem]; done) | (simp [go_sem, *]; done)
      have c5_0_3 : w5.cell? ⟨w.heap.size, 3, none⟩ = some (.int .i64 h) := by rw [hb5.cell (p := ⟨w.heap.size, 3, none⟩) (by first | (simp; done) | (simp; omega) | omega)]; first | assumption | (simp [go_sem]; done) | (simp [go_sem, *]; done)
      have HB5 : Below w.heap.size w w5 := by
        repeat (first | (with_reducible exact Below.refl _ _) | (with_reducible apply bDrewN) | (with_reducible apply Below.drew) | (with_reducible exact HB4) | ((with_reducible apply bThen hb5); (focus first | (simp; done) | (simp; omega) | omega)) | ((with_reducible apply bSet); (focus first | (simp; done) | (simp; omega) | omega)) | ((with_reducible apply bAlloc); (focus first | (simp; done) | (simp; omega) | omega)))
      have hsz5 := HB5.size
      clear hb5 sz4_0 c4_0_0 c4_0_1 c4_0_2 c4_0_3 hsz4
      go_wp2_with fail
      go_ret
      refine ⟨by simp, ?_⟩
      (repeat (first | (with_reducible exact Below.refl _ _) | (with_reducible apply bDrewN) | (with_reducible apply Below.drew) | (with_reducible exact HB5) | ((with_reducible apply bSet); (focus first | (simp; done) | (simp; omega) | omega)) | ((with_reducible apply bAlloc); (focus first | (simp; done) | (simp; omega) | omega))))
    · have hlI : (40 : Int) < l.length := by omega
      have hz := hT.size
      go_enter Tryd.func6, Tryd.ntmps6
      go_wp2_with fail
      refine (awake8_any _ (Tab.of_below hT (by repeat (first | (with_reducible exact Below.refl _ _) | (with_reducible apply bDrewN) | (with_reducible apply Below.drew) | ((with_reducible apply bSet); (focus first | (simp; done) | (simp; omega) | omega)) | ((with_reducible apply bAlloc); (focus first | (simp; done) | (simp; omega) | omega)))))).mono ?_
      rintro e w1 ⟨rfl, hb1⟩
      have hT1 : Tab w1 := Tab.of_below (Tab.of_below hT (by repeat (first | (with_reducible exact Below.refl _ _) | (with_reducible apply bDrewN) | (with_reducible apply Below.drew) | ((with_reducible apply bSet); (focus first | (simp; done) | (simp; omega) | omega)) | ((with_reducible apply bAlloc); (focus first | (simp; done) | (simp; omega) | omega))))) hb1
      have sz1_0 : w.heap.size < w1.heap.size := by have h := hb1.size; first | (simp at h; omega) | omega
      have c1_0_0 : w1.cell? ⟨w.heap.size, 0, none⟩ = some (.int .i64 m) := by rw [hb1.cell (p := ⟨w.heap.size, 0, none⟩) (by first | (simp; done) | (simp; omega) | omega)]; first | assumption | (simp [go_sem]; done) | (simp [go_sem, *]; done)
      have c1_0_1 : w1.cell? ⟨w.heap.size, 1, none⟩ = some (.int .i64 d) := by rw [hb1.cell (p := ⟨w.heap.size, 1, none⟩) (by first | (simp; done) | (simp; omega) | omega)]; first | assumption | (simp [go_sem]; done) | (simp [go_sem, *]; done)
      have c1_0_2 : w1.cell? ⟨w.heap.size, 2, none⟩ = some (.int .i64 t) := by rw [hb1.cell (p := ⟨w.heap.size, 2, none⟩) (by first | (simp; done) | (simp; omega) | omega)]; first | assumption | (simp [go_sem]; done) | (simp [go_sem, *]; done)
      have c1_0_3 : w1.cell? ⟨w.heap.size, 3, none⟩ = some (.int .i64 h) := by rw [hb1.cell (p := ⟨w.heap.size, 3, none⟩) (by first | (simp; done) | (simp; omega) | omega)]; first | assumption | (simp [go_sem]; done) | (simp [go_sem, *]; done)
      have HB1 : Below w.heap.size w w1 := by
        repeat (first | (with_reducible exact Below.refl _ _) | (with_reducible apply bDrewN) | (with_reducible apply Below.drew) | ((with_reducible apply bThen hb1); (focus first | (simp; done) | (simp; omega) | omega)) | ((with_reducible apply bSet); (focus first | (simp; done) | (simp; omega) | omega)) | ((with_reducible apply bAlloc); (focus first | (simp; done) | (simp; omega) | omega)))
      have hsz1 := HB1.size
      clear hb1 
      go_wp2_with fail
      refine (HV.out _).mono ?_
      rintro e w2 ⟨rfl, hb2⟩
      have hT2 : Tab w2 := Tab.of_below (Tab.of_below hT1 (by repeat (first | (with_reducible exact Below.refl _ _) | (with_reducible apply bDrewN) | (with_reducible apply Below.drew) | ((with_reducible apply bSet); (focus first | (simp; done) | (simp; omega) | omega)) | ((with_reducible apply bAlloc); (focus first | (simp; done) | (simp; omega) | omega))))) hb2
      have sz2_0 : w.heap.size < w2.heap.size := by have h := hb2.size; first | (simp at h; omega) | omega
      have c2_0_0 : w2.cell? ⟨w.heap.size, 0, none⟩ = some (.int .i64 m) := by rw [hb2.cell (p := ⟨w.heap.size, 0, none⟩) (by first | (simp; done) | (simp; omega) | omega)]; first | assumption | (simp [go_sem]; done) | (simp [go_sem, *]; done)
      have c2_0_1 : w2.cell? ⟨w.heap.size, 1, none⟩ = some (.int .i64 d) := by rw [hb2.cell (p := ⟨w.heap.size, 1, none⟩) (by first | (simp; done) | (simp; omega) | omega)]; first | assumption | (simp [go_sem]; done) | (simp [go_sem, *]; done)
      have c2_0_2 : w2.cell? ⟨w.heap.size, 2, none⟩ = some (.int .i64 t) := by rw [hb2.cell (p := ⟨w.heap.size, 2, none⟩) (by first | (simp; done) | (simp; omega) | omega)]; first | assumption | (simp [go_sem]; done) | (simp [go_sem, *]; done)
      have c2_0_3 : w2.cell? ⟨w.heap.size, 3, none⟩ = some (.int .i64 h) := by rw [hb2.cell (p := ⟨w.heap.size, 3, none⟩) (by first | (simp; done) | (simp; omega) | omega)]; first | assumption | (simp [go_sem]; done) | (simp [go_sem, *]; done)
      have HB2 : Below w.heap.size w w2 := by
        repeat (first | (with_reducible exact Below.refl _ _) | (with_reducible apply bDrewN) | (with_reducible apply Below.drew) | (with_reducible exact HB1) | ((with_reducible apply bThen hb2); (focus first | (simp; done) | (simp; omega) | omega)) | ((with_reducible apply bSet); (focus first | (simp; done) | (simp; omega) | omega)) | ((with_reducible apply bAlloc); (focus first | (simp; done) | (simp; omega) | omega)))
      have hsz2 := HB2.size
      clear hb2 sz1_0 c1_0_0 c1_0_1 c1_0_2 c1_0_3 hsz1
      go_wp2_with fail
      go_ret
      refine ⟨rfl, ?_⟩
      (repeat (first | (with_reducible exact Below.refl _ _) | (with_reducible apply bDrewN) | (with_reducible apply Below.drew) | (with_reducible exact HB2) | ((with_reducible apply bSet); (focus first | (simp; done) | (simp; omega) | omega)) | ((with_reducible apply bAlloc); (focus first | (simp; done) | (simp; omega) | omega))))

end Go.Proofs.YtjfenhnlonbmmaaDoor
