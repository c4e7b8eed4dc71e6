/- Layer 8: the law PipelineExtremes. -/
import Derived.Test.YtjfenhnlonbmmaaDoorPipH
set_option linter.unusedVariables false
set_option linter.unusedSimpArgs false
namespace Go.Proofs.YtjfenhnlonbmmaaDoor
open Go.RowKit Go.Sort

theorem cy_zero (m d t h : Int) (n : Nat) (a b c i : Int) : cyc m d t h 0 n a b c i false = lst m d n := by
  have h0 : hzd 0 n a b c i = false := hzd_out (by omega)
  simp [cyc, h0]
theorem cy_most (m d t h : Int) (n : Nat) (a b c i : Int) : ∃ s : Nat, s < 16 ∧ cyc m d t h s n a b c i true = mst m d t h n a b c i := by
  by_cases e : (rrl n a b c i).length > 0
  · obtain ⟨x, r, hr⟩ : ∃ x r, rrl n a b c i = x :: r := by
      generalize rrl n a b c i = q at e
      cases q with
      | nil => simp at e
      | cons x r => exact ⟨x, r, rfl⟩
    have hx : hzd x n a b c i = true := by unfold hzd; rw [hr]; simp
    have hb := hzd_bd hx
    refine ⟨x.toNat, by omega, ?_⟩
    have hc : ((x.toNat : Nat) : Int) = x := by omega
    rw [hc]
    unfold cyc mst
    rw [if_pos hx, if_pos e]
    simp
  · have h0 : hzd 0 n a b c i = false := hzd_out (by omega)
    refine ⟨0, by omega, ?_⟩
    unfold cyc mst
    rw [if_neg e]
    simp [h0]

set_option maxHeartbeats 3200000 in
theorem ext_any (m d t h : Int) (n : Nat) (a b c i : Int) (w : World) (hT : Tab w) :
    Calls Tryd.prog 9 #[.agg #[.int .i64 m, .int .i64 d, .int .i64 t, .int .i64 h], .agg #[.int .u8 n, .int .i64 a, .int .i64 b, .int .i64 c, .int .i64 i]] w fun e w' => e = .returned (.bool true) ∧ Below w.heap.size w w' := by
  have HV := Lib.hid (fun (w : World) => validT_any m d t h w)
  cases hok : okT m d t h
  · rw [hok] at HV
    have hz := hT.size
    go_enter Tryd.func9, Tryd.ntmps9
    go_wp2_with fail
    refine (awake8_any _ (Tab.of_below hT (by repeat (first | (with_reducible exact Below.refl _ _) | (with_reducible apply bDrewN) | (with_reducible apply Below.drew) | ((with_reducible apply bSet); (focus first | (simp; done) | (simp; omega) | omega)) | ((with_reducible apply bAlloc); (focus first | (simp; done) | (simp; omega) | omega)))))).mono ?_
    rintro e w1 ⟨rfl, hb1⟩
    have hT1 : Tab w1 := Tab.of_below (Tab.of_below hT (by repeat (first | (with_reducible exact Below.refl _ _) | (with_reducible apply bDrewN) | (with_reducible apply Below.drew) | ((with_reducible apply bSet); (focus first | (simp; done) | (simp; omega) | omega)) | ((with_reducible apply bAlloc); (focus first | (simp; done) | (simp; omega) | omega))))) hb1
    have sz1_0 : w.heap.size < w1.heap.size := by have h := hb1.size; first | (simp at h; omega) | omega
    have c1_0_0 : w1.cell? ⟨w.heap.size, 0, none⟩ = some (.int .i64 m) := by rw [hb1.cell (p := ⟨w.heap.size, 0, none⟩) (by first | (simp; done) | (simp; omega) | omega)]; first | assumption | (simp [go_sem]; done) | (simp [go_sem, *]; done)
    have c1_0_1 : w1.cell? ⟨w.heap.size, 1, none⟩ = some (.int .i64 d) := by rw [hb1.cell (p := ⟨w.heap.size, 1, none⟩) (by first | (simp; done) | (simp; omega) | omega)]; first | assumption | (simp [go_sem]; done) | (simp [go_sem, *]; done)
    have c1_0_2 : w1.cell? ⟨w.heap.size, 2, none⟩ = some (.int .i64 t) := by rw [hb1.cell (p := ⟨w.heap.size, 2, none⟩) (by first | (simp; done) | (simp; omega) | omega)]; first | assumption | (simp [go_sem]; done) | (simp [go_sem, *]; done)
    have c1_0_3 : w1.cell? ⟨w.heap.size, 3, none⟩ = some (.int .i64 h) := by rw [hb1.cell (p := ⟨w.heap.size, 3, none⟩) (by first | (simp; done) | (simp; omega) | omega)]; first | assumption | (simp [go_sem]; done) | (simp [go_sem, *]; done)
    have sz1_1 : w.heap.size + 1 < w1.heap.size := by have h := hb1.size; first | (simp at h; omega) | omega
    have c1_1_0 : w1.cell? ⟨w.heap.size + 1, 0, none⟩ = some (.int .u8 n) := by rw [hb1.cell (p := ⟨w.heap.size + 1, 0, none⟩) (by first | (simp; done) | (simp; omega) | omega)]; first | assumption | (simp [go_sem]; done) | (simp [go_sem, *]; done)
    have c1_1_1 : w1.cell? ⟨w.heap.size + 1, 1, none⟩ = some (.int .i64 a) := by rw [hb1.cell (p := ⟨w.heap.size + 1, 1, none⟩) (by first | (simp; done) | (simp; omega) | omega)]; first | assumption | (simp [go_sem]; done) | (simp [go_sem, *]; done)
    have c1_1_2 : w1.cell? ⟨w.heap.size + 1, 2, none⟩ = some (.int .i64 b) := by rw [hb1.cell (p := ⟨w.heap.size + 1, 2, none⟩) (by first | (simp; done) | (simp; omega) | omega)]; first | assumption | (simp [go_sem]; done) | (simp [go_sem, *]; done)
    have c1_1_3 : w1.cell? ⟨w.heap.size + 1, 3, none⟩ = some (.int .i64 c) := by rw [hb1.cell (p := ⟨w.heap.size + 1, 3, none⟩) (by first | (simp; done) | (simp; omega) | omega)]; first | assumption | (simp [go_sem]; done) | (simp [go_sem, *]; done)
    have c1_1_4 : w1.cell? ⟨w.heap.size + 1, 4, none⟩ = some (.int .i64 i) := by rw [hb1.cell (p := ⟨w.heap.size + 1, 4, none⟩) (by first | (simp; done) | (simp; omega) | omega)]; first | assumption | (simp [go_sem]; done) | (simp [go_sem, *]; done)
    have HB1 : Below w.heap.size w w1 := by
      repeat (first | (with_reducible exact Below.refl _ _) | (with_reducible apply bDrewN) | (with_reducible apply Below.drew) | ((with_reducible apply bThen hb1); (focus first | (simp; done) | (simp; omega) | omega)) | ((with_reducible apply bSet); (focus first | (simp; done) | (simp; omega) | omega)) | ((with_reducible apply bAlloc); (focus first | (simp; done) | (simp; omega) | omega)))
    have hsz1 := HB1.size
    clear hb1 
    go_wp2_with fail
    refine (HV.out _).mono ?_
    rintro e w2 ⟨rfl, hb2⟩
    have hT2 : Tab w2 := Tab.of_below (Tab.of_below hT1 (by repeat (first | (with_reducible exact Below.refl _ _) | (with_reducible apply bDrewN) | (with_reducible apply Below.drew) | ((with_reducible apply bSet); (focus first | (simp; done) | (simp; omega) | omega)) | ((with_reducible apply bAlloc); (focus first | (simp; done) | (simp; omega) | omega))))) hb2
    have sz2_0 : w.heap.size < w2.heap.size := by have h := hb2.size; first | (simp at h; omega) | omega
    have c2_0_0 : w2.cell? ⟨w.heap.size, 0, none⟩ = some (.int .i64 m) := by rw [hb2.cell (p := ⟨w.heap.size, 0, none⟩) (by first | (simp; done) | (simp; omega) | omega)]; first | assumption | (simp [go_sem]; done) | (simp [go_sem, *]; done)
    have c2_0_1 : w2.cell? ⟨w.heap.size, 1, none⟩ = some (.int .i64 d) := by rw [hb2.cell (p := ⟨w.heap.size, 1, none⟩) (by first | (simp; done) | (simp; omega) | omega)]; first | assumption | (simp [go_sem]; done) | (simp [go_sem, *]; done)
    have c2_0_2 : w2.cell? ⟨w.heap.size, 2, none⟩ = some (.int .i64 t) := by rw [hb2.cell (p := ⟨w.heap.size, 2, none⟩) (by first | (simp; done) | (simp; omega) | omega)]; first | assumption | (simp [go_sem]; done) | (simp [go_sem, *]; done)
    have c2_0_3 : w2.cell? ⟨w.heap.size, 3, none⟩ = some (.int .i64 h) := by rw [hb2.cell (p := ⟨w.heap.size, 3, none⟩) (by first | (simp; done) | (simp; omega) | omega)]; first | assumption | (simp [go_sem]; done) | (simp [go_sem, *]; done)
    have sz2_1 : w.heap.size + 1 < w2.heap.size := by have h := hb2.size; first | (simp at h; omega) | omega
    have c2_1_0 : w2.cell? ⟨w.heap.size + 1, 0, none⟩ = some (.int .u8 n) := by rw [hb2.cell (p := ⟨w.heap.size + 1, 0, none⟩) (by first | (simp; done) | (simp; omega) | omega)]; first | assumption | (simp [go_sem]; done) | (simp [go_sem, *]; done)
    have c2_1_1 : w2.cell? ⟨w.heap.size + 1, 1, none⟩ = some (.int .i64 a) := by rw [hb2.cell (p := ⟨w.heap.size + 1, 1, none⟩) (by first | (simp; done) | (simp; omega) | omega)]; first | assumption | (simp [go_sem]; done) | (simp [go_sem, *]; done)
    have c2_1_2 : w2.cell? ⟨w.heap.size + 1, 2, none⟩ = some (.int .i64 b) := by rw [hb2.cell (p := ⟨w.heap.size + 1, 2, none⟩) (by first | (simp; done) | (simp; omega) | omega)]; first | assumption | (simp [go_sem]; done) | (simp [go_sem, *]; done)
    have c2_1_3 : w2.cell? ⟨w.heap.size + 1, 3, none⟩ = some (.int .i64 c) := by rw [hb2.cell (p := ⟨w.heap.size + 1, 3, none⟩) (by first | (simp; done) | (simp; omega) | omega)]; first | assumption | (simp [go_sem]; done) | (simp [go_sem, *]; done)
    have c2_1_4 : w2.cell? ⟨w.heap.size + 1, 4, none⟩ = some (.int .i64 i) := by rw [hb2.cell (p := ⟨w.heap.size + 1, 4, none⟩) (by first | (simp; done) | (simp; omega) | omega)]; first | assumption | (simp [go_sem]; done) | (simp [go_sem, *]; done)
    have HB2 : Below w.heap.size w w2 := by
      repeat (first | (with_reducible exact Below.refl _ _) | (with_reducible apply bDrewN) | (with_reducible apply Below.drew) | (with_reducible exact HB1) | ((with_reducible apply bThen hb2); (focus first | (simp; done) | (simp; omega) | omega)) | ((with_reducible apply bSet); (focus first | (simp; done) | (simp; omega) | omega)) | ((with_reducible apply bAlloc); (focus first | (simp; done) | (simp; omega) | omega)))
    have hsz2 := HB2.size
    clear hb2 sz1_0 c1_0_0 c1_0_1 c1_0_2 c1_0_3 sz1_1 c1_1_0 c1_1_1 c1_1_2 c1_1_3 c1_1_4 hsz1
    go_wp2_with fail
    go_ret
    refine ⟨rfl, ?_⟩
    (repeat (first | (with_reducible exact Below.refl _ _) | (with_reducible apply bDrewN) | (with_reducible apply Below.drew) | (with_reducible exact HB2) | ((with_reducible apply bSet); (focus first | (simp; done) | (simp; omega) | omega)) | ((with_reducible apply bAlloc); (focus first | (simp; done) | (simp; omega) | omega))))
  · rw [hok] at HV
    obtain ⟨hm, hd, ht, hh⟩ := okT_bd hok
    clear hok
    have hz := hT.size
    go_enter Tryd.func9, Tryd.ntmps9
    go_wp2_with fail
    refine (awake8_any _ (Tab.of_below hT (by repeat (first | (with_reducible exact Below.refl _ _) | (with_reducible apply bDrewN) | (with_reducible apply Below.drew) | ((with_reducible apply bSet); (focus first | (simp; done) | (simp; omega) | omega)) | ((with_reducible apply bAlloc); (focus first | (simp; done) | (simp; omega) | omega)))))).mono ?_
    rintro e w1 ⟨rfl, hb1⟩
    have hT1 : Tab w1 := Tab.of_below (Tab.of_below hT (by repeat (first | (with_reducible exact Below.refl _ _) | (with_reducible apply bDrewN) | (with_reducible apply Below.drew) | ((with_reducible apply bSet); (focus first | (simp; done) | (simp; omega) | omega)) | ((with_reducible apply bAlloc); (focus first | (simp; done) | (simp; omega) | omega))))) hb1
    have sz1_0 : w.heap.size < w1.heap.size := by have h := hb1.size; first | (simp at h; omega) | omega
    have c1_0_0 : w1.cell? ⟨w.heap.size, 0, none⟩ = some (.int .i64 m) := by rw [hb1.cell (p := ⟨w.heap.size, 0, none⟩) (by first | (simp; done) | (simp; omega) | omega)]; first | assumption | (simp [go_sem]; done) | (simp [go_sem, *]; done)
    have c1_0_1 : w1.cell? ⟨w.heap.size, 1, none⟩ = some (.int .i64 d) := by rw [hb1.cell (p := ⟨w.heap.size, 1, none⟩) (by first | (simp; done) | (simp; omega) | omega)]; first | assumption | (simp [go_sem]; done) | (simp [go_sem, *]; done)
    have c1_0_2 : w1.cell? ⟨w.heap.size, 2, none⟩ = some (.int .i64 t) := by rw [hb1.cell (p := ⟨w.heap.size, 2, none⟩) (by first | (simp; done) | (simp; omega) | omega)]; first | assumption | (simp [go_sem]; done) | (simp [go_sem, *]; done)
    have c1_0_3 : w1.cell? ⟨w.heap.size, 3, none⟩ = some (.int .i64 h) := by rw [hb1.cell (p := ⟨w.heap.size, 3, none⟩) (by first | (simp; done) | (simp; omega) | omega)]; first | assumption | (simp [go_sem]; done) | (simp [go_sem, *]; done)
    have sz1_1 : w.heap.size + 1 < w1.heap.size := by have h := hb1.size; first | (simp at h; omega) | omega
    have c1_1_0 : w1.cell? ⟨w.heap.size + 1, 0, none⟩ = some (.int .u8 n) := by rw [hb1.cell (p := ⟨w.heap.size + 1, 0, none⟩) (by first | (simp; done) | (simp; omega) | omega)]; first | assumption | (simp [go_sem]; done) | (simp [go_sem, *]; done)
    have c1_1_1 : w1.cell? ⟨w.heap.size + 1, 1, none⟩ = some (.int .i64 a) := by rw [hb1.cell (p := ⟨w.heap.size + 1, 1, none⟩) (by first | (simp; done) | (simp; omega) | omega)]; first | assumption | (simp [go_sem]; done) | (simp [go_sem, *]; done)
    have c1_1_2 : w1.cell? ⟨w.heap.size + 1, 2, none⟩ = some (.int .i64 b) := by rw [hb1.cell (p := ⟨w.heap.size + 1, 2, none⟩) (by first | (simp; done) | (simp; omega) | omega)]; first | assumption | (simp [go_sem]; done) | (simp [go_sem, *]; done)
    have c1_1_3 : w1.cell? ⟨w.heap.size + 1, 3, none⟩ = some (.int .i64 c) := by rw [hb1.cell (p := ⟨w.heap.size + 1, 3, none⟩) (by first | (simp; done) | (simp; omega) | omega)]; first | assumption | (simp [go_sem]; done) | (simp [go_sem, *]; done)
    have c1_1_4 : w1.cell? ⟨w.heap.size + 1, 4, none⟩ = some (.int .i64 i) := by rw [hb1.cell (p := ⟨w.heap.size + 1, 4, none⟩) (by first | (simp; done) | (simp; omega) | omega)]; first | assumption | (simp [go_sem]; done) | (simp [go_sem, *]; done)
    have HB1 : Below w.heap.size w w1 := by
      repeat (first | (with_reducible exact Below.refl _ _) | (with_reducible apply bDrewN) | (with_reducible apply Below.drew) | ((with_reducible apply bThen hb1); (focus first | (simp; done) | (simp; omega) | omega)) | ((with_reducible apply bSet); (focus first | (simp; done) | (simp; omega) | omega)) | ((with_reducible apply bAlloc); (focus first | (simp; done) | (simp; omega) | omega)))
    have hsz1 := HB1.size
    clear hb1 
    go_wp2_with fail
    refine (HV.out _).mono ?_
    rintro e w2 ⟨rfl, hb2⟩
    have hT2 : Tab w2 := Tab.of_below (Tab.of_below hT1 (by repeat (first | (with_reducible exact Below.refl _ _) | (with_reducible apply bDrewN) | (with_reducible apply Below.drew) | ((with_reducible apply bSet); (focus first | (simp; done) | (simp; omega) | omega)) | ((with_reducible apply bAlloc); (focus first | (simp; done) | (simp; omega) | omega))))) hb2
    have sz2_0 : w.heap.size < w2.heap.size := by have h := hb2.size; first | (simp at h; omega) | omega
    have c2_0_0 : w2.cell? ⟨w.heap.size, 0, none⟩ = some (.int .i64 m) := by rw [hb2.cell (p := ⟨w.heap.size, 0, none⟩) (by first | (simp; done) | (simp; omega) | omega)]; first | assumption | (simp [go_sem]; done) | (simp [go_sem, *]; done)
    have c2_0_1 : w2.cell? ⟨w.heap.size, 1, none⟩ = some (.int .i64 d) := by rw [hb2.cell (p := ⟨w.heap.size, 1, none⟩) (by first | (simp; done) | (simp; omega) | omega)]; first | assumption | (simp [go_sem]; done) | (simp [go_sem, *]; done)
    have c2_0_2 : w2.cell? ⟨w.heap.size, 2, none⟩ = some (.int .i64 t) := by rw [hb2.cell (p := ⟨w.heap.size, 2, none⟩) (by first | (simp; done) | (simp; omega) | omega)]; first | assumption | (simp [go_sem]; done) | (simp [go_sem, *]; done)
    have c2_0_3 : w2.cell? ⟨w.heap.size, 3, none⟩ = some (.int .i64 h) := by rw [hb2.cell (p := ⟨w.heap.size, 3, none⟩) (by first | (simp; done) | (simp; omega) | omega)]; first | assumption | (simp [go_sem]; done) | (simp [go_sem, *]; done)
    have sz2_1 : w.heap.size + 1 < w2.heap.size := by have h := hb2.size; first | (simp at h; omega) | omega
    have c2_1_0 : w2.cell? ⟨w.heap.size + 1, 0, none⟩ = some (.int .u8 n) := by rw [hb2.cell (p := ⟨w.heap.size + 1, 0, none⟩) (by first | (simp; done) | (simp; omega) | omega)]; first | assumption | (simp [go_sem]; done) | (simp [go_sem, *]; done)
    have c2_1_1 : w2.cell? ⟨w.heap.size + 1, 1, none⟩ = some (.int .i64 a) := by rw [hb2.cell (p := ⟨w.heap.size + 1, 1, none⟩) (by first | (simp; done) | (simp; omega) | omega)]; first | assumption | (simp [go_sem]; done) | (simp [go_sem, *]; done)
    have c2_1_2 : w2.cell? ⟨w.heap.size + 1, 2, none⟩ = some (.int .i64 b) := by rw [hb2.cell (p := ⟨w.heap.size + 1, 2, none⟩) (by first | (simp; done) | (simp; omega) | omega)]; first | assumption | (simp [go_sem]; done) | (simp [go_sem, *]; done)
    have c2_1_3 : w2.cell? ⟨w.heap.size + 1, 3, none⟩ = some (.int .i64 c) := by rw [hb2.cell (p := ⟨w.heap.size + 1, 3, none⟩) (by first | (simp; done) | (simp; omega) | omega)]; first | assumption | (simp [go_sem]; done) | (simp [go_sem, *]; done)
    have c2_1_4 : w2.cell? ⟨w.heap.size + 1, 4, none⟩ = some (.int .i64 i) := by rw [hb2.cell (p := ⟨w.heap.size + 1, 4, none⟩) (by first | (simp; done) | (simp; omega) | omega)]; first | assumption | (simp [go_sem]; done) | (simp [go_sem, *]; done)
    have HB2 : Below w.heap.size w w2 := by
      repeat (first | (with_reducible exact Below.refl _ _) | (with_reducible apply bDrewN) | (with_reducible apply Below.drew) | (with_reducible exact HB1) | ((with_reducible apply bThen hb2); (focus first | (simp; done) | (simp; omega) | omega)) | ((with_reducible apply bSet); (focus first | (simp; done) | (simp; omega) | omega)) | ((with_reducible apply bAlloc); (focus first | (simp; done) | (simp; omega) | omega)))
    have hsz2 := HB2.size
    clear hb2 sz1_0 c1_0_0 c1_0_1 c1_0_2 c1_0_3 sz1_1 c1_1_0 c1_1_1 c1_1_2 c1_1_3 c1_1_4 hsz1
    have hcm := mst_bd hm hd ht hh ⟨n, a, b, c, i⟩
    simp only at hcm
    have hcl := lst_bd n hm hd
    have HLO := Lib.hid (fun s tk => cy_lo hm hd ht hh s n a b c i tk)
    have HHI := Lib.hid (fun s tk => cy_hi hm hd ht hh s n a b c i tk)
    have HMO := Lib.hid (cy_most m d t h n a b c i)
    have C0 := Lib.hid (fun (w : World) (hT : Tab w) => cycles_any m d t h 0 n a b c i false w hT hm hd ht hh)
    rw [cy_zero] at C0
    have CC := Lib.hid (fun s tk (w : World) (hT : Tab w) => cycles_any m d t h s n a b c i tk w hT hm hd ht hh)
    have LE := Lib.hid (fun (w : World) => least_any m d t h n a b c i w hm hd)
    have MO := Lib.hid (fun (w : World) (hT : Tab w) => most_any m d t h n a b c i w hT hm hd ht hh)
    generalize mst m d t h n a b c i = M at *
    generalize lst m d n = L at *
    go_wp2_with fail
    refine (C0.out _ (Tab.of_below hT2 (by repeat (first | (with_reducible exact Below.refl _ _) | (with_reducible apply bDrewN) | (with_reducible apply Below.drew) | ((with_reducible apply bSet); (focus first | (simp; done) | (simp; omega) | omega)) | ((with_reducible apply bAlloc); (focus first | (simp; done) | (simp; omega) | omega)))))).mono ?_
    rintro e w3 ⟨rfl, hb3⟩
    have hT3 : Tab w3 := Tab.of_below (Tab.of_below hT2 (by repeat (first | (with_reducible exact Below.refl _ _) | (with_reducible apply bDrewN) | (with_reducible apply Below.drew) | ((with_reducible apply bSet); (focus first | (simp; done) | (simp; omega) | omega)) | ((with_reducible apply bAlloc); (focus first | (simp; done) | (simp; omega) | omega))))) hb3
    have sz3_0 : w.heap.size < w3.heap.size := by have h := hb3.size; first | (simp at h; omega) | omega
    have c3_0_0 : w3.cell? ⟨w.heap.size, 0, none⟩ = some (.int .i64 m) := by rw [hb3.cell (p := ⟨w.heap.size, 0, none⟩) (by first | (simp; done) | (simp; omega) | omega)]; first | assumption | (simp [go_sem]; done) | (simp [go_sem, *]; done)
    have c3_0_1 : w3.cell? ⟨w.heap.size, 1, none⟩ = some (.int .i64 d) := by rw [hb3.cell (p := ⟨w.heap.size, 1, none⟩) (by first | (simp; done) | (simp; omega) | omega)]; first | assumption | (simp [go_sem]; done) | (simp [go_sem, *]; done)
    have c3_0_2 : w3.cell? ⟨w.heap.size, 2, none⟩ = some (.int .i64 t) := by rw [hb3.cell (p := ⟨w.heap.size, 2, none⟩) (by first | (simp; done) | (simp; omega) | omega)]; first | assumption | (simp [go_sem]; done) | (simp [go_sem, *]; done)
    have c3_0_3 : w3.cell? ⟨w.heap.size, 3, none⟩ = some (.int .i64 h) := by rw [hb3.cell (p := ⟨w.heap.size, 3, none⟩) (by first | (simp; done) | (simp; omega) | omega)]; first | assumption | (simp [go_sem]; done) | (simp [go_sem, *]; done)
    have sz3_1 : w.heap.size + 1 < w3.heap.size := by have h := hb3.size; first | (simp at h; omega) | omega
    have c3_1_0 : w3.cell? ⟨w.heap.size + 1, 0, none⟩ = some (.int .u8 n) := by rw [hb3.cell (p := ⟨w.heap.size + 1, 0, none⟩) (by first | (simp; done) | (simp; omega) | omega)]; first | assumption | (simp [go_sem]; done) | (simp [go_sem, *]; done)
    have c3_1_1 : w3.cell? ⟨w.heap.size + 1, 1, none⟩ = some (.int .i64 a) := by rw [hb3.cell (p := ⟨w.heap.size + 1, 1, none⟩) (by first | (simp; done) | (simp; omega) | omega)]; first | assumption | (simp [go_sem]; done) | (simp [go_sem, *]; done)
    have c3_1_2 : w3.cell? ⟨w.heap.size + 1, 2, none⟩ = some (.int .i64 b) := by rw [hb3.cell (p := ⟨w.heap.size + 1, 2, none⟩) (by first | (simp; done) | (simp; omega) | omega)]; first | assumption | (simp [go_sem]; done) | (simp [go_sem, *]; done)
    have c3_1_3 : w3.cell? ⟨w.heap.size + 1, 3, none⟩ = some (.int .i64 c) := by rw [hb3.cell (p := ⟨w.heap.size + 1, 3, none⟩) (by first | (simp; done) | (simp; omega) | omega)]; first | assumption | (simp [go_sem]; done) | (simp [go_sem, *]; done)
    have c3_1_4 : w3.cell? ⟨w.heap.size + 1, 4, none⟩ = some (.int .i64 i) := by rw [hb3.cell (p := ⟨w.heap.size + 1, 4, none⟩) (by first | (simp; done) | (simp; omega) | omega)]; first | assumption | (simp [go_sem]; done) | (simp [go_sem, *]; done)
    have HB3 : Below w.heap.size w w3 := by
      repeat (first | (with_reducible exact Below.refl _ _) | (with_reducible apply bDrewN) | (with_reducible apply Below.drew) | (with_reducible exact HB2) | ((with_reducible apply bThen hb3); (focus first | (simp; done) | (simp; omega) | omega)) | ((with_reducible apply bSet); (focus first | (simp; done) | (simp; omega) | omega)) | ((with_reducible apply bAlloc); (focus first | (simp; done) | (simp; omega) | omega)))
    have hsz3 := HB3.size
    clear hb3 sz2_0 c2_0_0 c2_0_1 c2_0_2 c2_0_3 sz2_1 c2_1_0 c2_1_1 c2_1_2 c2_1_3 c2_1_4 hsz2
    go_wp2_with fail
    go_loopw [5, 6, 19] (fun lv hv r wr => ∃ (k : Nat) (Q : Int), k ≤ 16 ∧ lv = .int .i64 L ∧ hv = .int .i64 Q ∧ r = .int .i64 k ∧ Hid (∀ s : Nat, s < k → cyc m d t h s n a b c i true ≤ Q) ∧ 0 ≤ Q ∧ Q ≤ M ∧ Below w.heap.size w wr ∧ w.heap.size + 1 < wr.heap.size ∧ wr.cell? ⟨w.heap.size, 0, none⟩ = some (.int .i64 m) ∧ wr.cell? ⟨w.heap.size, 1, none⟩ = some (.int .i64 d) ∧ wr.cell? ⟨w.heap.size, 2, none⟩ = some (.int .i64 t) ∧ wr.cell? ⟨w.heap.size, 3, none⟩ = some (.int .i64 h) ∧ wr.cell? ⟨w.heap.size + 1, 0, none⟩ = some (.int .u8 n) ∧ wr.cell? ⟨w.heap.size + 1, 1, none⟩ = some (.int .i64 a) ∧ wr.cell? ⟨w.heap.size + 1, 2, none⟩ = some (.int .i64 b) ∧ wr.cell? ⟨w.heap.size + 1, 3, none⟩ = some (.int .i64 c) ∧ wr.cell? ⟨w.heap.size + 1, 4, none⟩ = some (.int .i64 i)) (fun _ _ r _ => 16 - (intOf r).toNat)
    case atStart => exact ⟨0, 0, by omega, rfl, rfl, rfl, (fun s hs => absurd hs (Nat.not_lt_zero _)), by omega, by omega, HB3, by assumption, by assumption, by assumption, by assumption, by assumption, by assumption, by assumption, by assumption, by assumption, by assumption⟩
    case round =>
      clear sz3_0 c3_0_0 c3_0_1 c3_0_2 c3_0_3 sz3_1 c3_1_0 c3_1_1 c3_1_2 c3_1_3 c3_1_4 hsz3
      obtain ⟨k, Q, hk, rfl, rfl, rfl, hQ, hQ0, hQ1, HB0, sz0, c0_0, c0_1, c0_2, c0_3, c0_4, c0_5, c0_6, c0_7, c0_8⟩ := hrel
      have hT0 : Tab wr := Tab.of_below hT HB0
      have hwz := HB0.size
      have sz0a : w.heap.size < wr.heap.size := by omega
      by_cases hlt : k < 16
      · skip
        have hkI : (k : Int) < 16 := by omega
        have a0 := HLO.out k false
        have b0 := HHI.out k false
        have a1 := HLO.out k true
        have b1 := HHI.out k true
        have D0 := Lib.hid (CC.out k false)
        have D1 := Lib.hid (CC.out k true)
        clear CC HLO HHI
        generalize hy0 : cyc m d t h k n a b c i false = y0 at *
        generalize hy1 : cyc m d t h k n a b c i true = y1 at *
        have HY1 := Lib.hid hy1
        clear hy0 hy1
        have hm0 : (if y0 < L then y0 else L) = L := if_neg (by omega)
        have hm1 : (if y1 < L then y1 else L) = L := if_neg (by omega)
        go_wp2_with fail
        refine wp_loop_rounds 3 ?_
        rw [rounds_succ]
        go_wp2_with fail
        refine (D0.out _ (Tab.of_below hT0 (by repeat (first | (with_reducible exact Below.refl _ _) | (with_reducible apply bDrewN) | (with_reducible apply Below.drew) | ((with_reducible apply bSet); (focus first | (simp; done) | (simp; omega) | omega)) | ((with_reducible apply bAlloc); (focus first | (simp; done) | (simp; omega) | omega)))))).mono ?_
        rintro e w11 ⟨rfl, hb11⟩
        have hT11 : Tab w11 := Tab.of_below (Tab.of_below hT0 (by repeat (first | (with_reducible exact Below.refl _ _) | (with_reducible apply bDrewN) | (with_reducible apply Below.drew) | ((with_reducible apply bSet); (focus first | (simp; done) | (simp; omega) | omega)) | ((with_reducible apply bAlloc); (focus first | (simp; done) | (simp; omega) | omega))))) hb11
        have sz11_0 : w.heap.size < w11.heap.size := by have h := hb11.size; first | (simp at h; omega) | omega
        have c11_0_0 : w11.cell? ⟨w.heap.size, 0, none⟩ = some (.int .i64 m) := by rw [hb11.cell (p := ⟨w.heap.size, 0, none⟩) (by first | (simp; done) | (simp; omega) | omega)]; first | assumption | (simp [go_sem]; done) | (simp [go_sem, *]; done)
        have c11_0_1 : w11.cell? ⟨w.heap.size, 1, none⟩ = some (.int .i64 d) := by rw [hb11.cell (p := ⟨w.heap.size, 1, none⟩) (by first | (simp; done) | (simp; omega) | omega)]; first | assumption | (simp [go_sem]; done) | (simp [go_sem, *]; done)
        have c11_0_2 : w11.cell? ⟨w.heap.size, 2, none⟩ = some (.int .i64 t) := by rw [hb11.cell (p := ⟨w.heap.size, 2, none⟩) (by first | (simp; done) | (simp; omega) | omega)]; first | assumption | (simp [go_sem]; done) | (simp [go_sem, *]; done)
        have c11_0_3 : w11.cell? ⟨w.heap.size, 3, none⟩ = some (.int .i64 h) := by rw [hb11.cell (p := ⟨w.heap.size, 3, none⟩) (by first | (simp; done) | (simp; omega) | omega)]; first | assumption | (simp [go_sem]; done) | (simp [go_sem, *]; done)
        have sz11_1 : w.heap.size + 1 < w11.heap.size := by have h := hb11.size; first | (simp at h; omega) | omega
        have c11_1_0 : w11.cell? ⟨w.heap.size + 1, 0, none⟩ = some (.int .u8 n) := by rw [hb11.cell (p := ⟨w.heap.size + 1, 0, none⟩) (by first | (simp; done) | (simp; omega) | omega)]; first | assumption | (simp [go_sem]; done) | (simp [go_sem, *]; done)
        have c11_1_1 : w11.cell? ⟨w.heap.size + 1, 1, none⟩ = some (.int .i64 a) := by rw [hb11.cell (p := ⟨w.heap.size + 1, 1, none⟩) (by first | (simp; done) | (simp; omega) | omega)]; first | assumption | (simp [go_sem]; done) | (simp [go_sem, *]; done)
        have c11_1_2 : w11.cell? ⟨w.heap.size + 1, 2, none⟩ = some (.int .i64 b) := by rw [hb11.cell (p := ⟨w.heap.size + 1, 2, none⟩) (by first | (simp; done) | (simp; omega) | omega)]; first | assumption | (simp [go_sem]; done) | (simp [go_sem, *]; done)
        have c11_1_3 : w11.cell? ⟨w.heap.size + 1, 3, none⟩ = some (.int .i64 c) := by rw [hb11.cell (p := ⟨w.heap.size + 1, 3, none⟩) (by first | (simp; done) | (simp; omega) | omega)]; first | assumption | (simp [go_sem]; done) | (simp [go_sem, *]; done)
        have c11_1_4 : w11.cell? ⟨w.heap.size + 1, 4, none⟩ = some (.int .i64 i) := by rw [hb11.cell (p := ⟨w.heap.size + 1, 4, none⟩) (by first | (simp; done) | (simp; omega) | omega)]; first | assumption | (simp [go_sem]; done) | (simp [go_sem, *]; done)
        have sz11_2 : wr.heap.size < w11.heap.size := by have h := hb11.size; first | (simp at h; omega) | omega
        have c11_2_0 : w11.cell? ⟨wr.heap.size, 0, none⟩ = some (.bool false) := by rw [hb11.cell (p := ⟨wr.heap.size, 0, none⟩) (by first | (simp; done) | (simp; omega) | omega)]; first | assumption | (simp [go_sem]; done) | (simp [go_sem, *]; done)
        have c11_2_1 : w11.cell? ⟨wr.heap.size, 1, none⟩ = some (.bool true) := by rw [hb11.cell (p := ⟨wr.heap.size, 1, none⟩) (by first | (simp; done) | (simp; omega) | omega)]; first | assumption | (simp [go_sem]; done) | (simp [go_sem, *]; done)
        have HB11 : Below w.heap.size w w11 := by
          repeat (first | (with_reducible exact Below.refl _ _) | (with_reducible apply bDrewN) | (with_reducible apply Below.drew) | (with_reducible exact HB0) | ((with_reducible apply bThen hb11); (focus first | (simp; done) | (simp; omega) | omega)) | ((with_reducible apply bSet); (focus first | (simp; done) | (simp; omega) | omega)) | ((with_reducible apply bAlloc); (focus first | (simp; done) | (simp; omega) | omega)))
        have hsz11 := HB11.size
        clear hb11 sz0 c0_0 c0_1 c0_2 c0_3 c0_4 c0_5 c0_6 c0_7 c0_8 sz0a
        go_wp2_with fail
        rw [rounds_succ]
        go_wp2_with fail
        refine (D1.out _ (Tab.of_below hT11 (by repeat (first | (with_reducible exact Below.refl _ _) | (with_reducible apply bDrewN) | (with_reducible apply Below.drew) | ((with_reducible apply bSet); (focus first | (simp; done) | (simp; omega) | omega)) | ((with_reducible apply bAlloc); (focus first | (simp; done) | (simp; omega) | omega)))))).mono ?_
        rintro e w12 ⟨rfl, hb12⟩
        have hT12 : Tab w12 := Tab.of_below (Tab.of_below hT11 (by repeat (first | (with_reducible exact Below.refl _ _) | (with_reducible apply bDrewN) | (with_reducible apply Below.drew) | ((with_reducible apply bSet); (focus first | (simp; done) | (simp; omega) | omega)) | ((with_reducible apply bAlloc); (focus first | (simp; done) | (simp; omega) | omega))))) hb12
        have sz12_0 : w.heap.size < w12.heap.size := by have h := hb12.size; first | (simp at h; omega) | omega
        have c12_0_0 : w12.cell? ⟨w.heap.size, 0, none⟩ = some (.int .i64 m) := by rw [hb12.cell (p := ⟨w.heap.size, 0, none⟩) (by first | (simp; done) | (simp; omega) | omega)]; first | assumption | (simp [go_sem]; done) | (simp [go_sem, *]; done)
        have c12_0_1 : w12.cell? ⟨w.heap.size, 1, none⟩ = some (.int .i64 d) := by rw [hb12.cell (p := ⟨w.heap.size, 1, none⟩) (by first | (simp; done) | (simp; omega) | omega)]; first | assumption | (simp [go_sem]; done) | (simp [go_sem, *]; done)
        have c12_0_2 : w12.cell? ⟨w.heap.size, 2, none⟩ = some (.int .i64 t) := by rw [hb12.cell (p := ⟨w.heap.size, 2, none⟩) (by first | (simp; done) | (simp; omega) | omega)]; first | assumption | (simp [go_sem]; done) | (simp [go_sem, *]; done)
        have c12_0_3 : w12.cell? ⟨w.heap.size, 3, none⟩ = some (.int .i64 h) := by rw [hb12.cell (p := ⟨w.heap.size, 3, none⟩) (by first | (simp; done) | (simp; omega) | omega)]; first | assumption | (simp [go_sem]; done) | (simp [go_sem, *]; done)
        have sz12_1 : w.heap.size + 1 < w12.heap.size := by have h := hb12.size; first | (simp at h; omega) | omega
        have c12_1_0 : w12.cell? ⟨w.heap.size + 1, 0, none⟩ = some (.int .u8 n) := by rw [hb12.cell (p := ⟨w.heap.size + 1, 0, none⟩) (by first | (simp; done) | (simp; omega) | omega)]; first | assumption | (simp [go_sem]; done) | (simp [go_sem, *]; done)
        have c12_1_1 : w12.cell? ⟨w.heap.size + 1, 1, none⟩ = some (.int .i64 a) := by rw [hb12.cell (p := ⟨w.heap.size + 1, 1, none⟩) (by first | (simp; done) | (simp; omega) | omega)]; first | assumption | (simp [go_sem]; done) | (simp [go_sem, *]; done)
        have c12_1_2 : w12.cell? ⟨w.heap.size + 1, 2, none⟩ = some (.int .i64 b) := by rw [hb12.cell (p := ⟨w.heap.size + 1, 2, none⟩) (by first | (simp; done) | (simp; omega) | omega)]; first | assumption | (simp [go_sem]; done) | (simp [go_sem, *]; done)
        have c12_1_3 : w12.cell? ⟨w.heap.size + 1, 3, none⟩ = some (.int .i64 c) := by rw [hb12.cell (p := ⟨w.heap.size + 1, 3, none⟩) (by first | (simp; done) | (simp; omega) | omega)]; first | assumption | (simp [go_sem]; done) | (simp [go_sem, *]; done)
        have c12_1_4 : w12.cell? ⟨w.heap.size + 1, 4, none⟩ = some (.int .i64 i) := by rw [hb12.cell (p := ⟨w.heap.size + 1, 4, none⟩) (by first | (simp; done) | (simp; omega) | omega)]; first | assumption | (simp [go_sem]; done) | (simp [go_sem, *]; done)
        have sz12_2 : wr.heap.size < w12.heap.size := by have h := hb12.size; first | (simp at h; omega) | omega
        have c12_2_0 : w12.cell? ⟨wr.heap.size, 0, none⟩ = some (.bool false) := by rw [hb12.cell (p := ⟨wr.heap.size, 0, none⟩) (by first | (simp; done) | (simp; omega) | omega)]; first | assumption | (simp [go_sem]; done) | (simp [go_sem, *]; done)
        have c12_2_1 : w12.cell? ⟨wr.heap.size, 1, none⟩ = some (.bool true) := by rw [hb12.cell (p := ⟨wr.heap.size, 1, none⟩) (by first | (simp; done) | (simp; omega) | omega)]; first | assumption | (simp [go_sem]; done) | (simp [go_sem, *]; done)
        have HB12 : Below w.heap.size w w12 := by
          repeat (first | (with_reducible exact Below.refl _ _) | (with_reducible apply bDrewN) | (with_reducible apply Below.drew) | (with_reducible exact HB11) | ((with_reducible apply bThen hb12); (focus first | (simp; done) | (simp; omega) | omega)) | ((with_reducible apply bSet); (focus first | (simp; done) | (simp; omega) | omega)) | ((with_reducible apply bAlloc); (focus first | (simp; done) | (simp; omega) | omega)))
        have hsz12 := HB12.size
        clear hb12 sz11_0 c11_0_0 c11_0_1 c11_0_2 c11_0_3 sz11_1 c11_1_0 c11_1_1 c11_1_2 c11_1_3 c11_1_4 sz11_2 c11_2_0 c11_2_1 hsz11
        go_wp2_with fail
        rw [rounds_succ]
        go_wp2_with fail
        go_roundw
        case rel =>
          refine ⟨k + 1, max Q (max y0 y1), by omega, ?_, ?_, by go_num, ?_, ?_, ?_, ?_, ?_, ?_, ?_, ?_, ?_, ?_, ?_, ?_, ?_, ?_⟩
          · have e : min L (min y0 y1) = L := by omega
            simp [e]
          · rfl
          · show ∀ s : Nat, _
            intro s hs
            by_cases e : s = k
            · subst e
              rw [HY1.out]
              omega
            · have := Hid.out hQ s (by omega)
              omega
          · omega
          · omega
          · (repeat (first | (with_reducible exact Below.refl _ _) | (with_reducible apply bDrewN) | (with_reducible apply Below.drew) | (with_reducible exact HB12) | ((with_reducible apply bSet); (focus first | (simp; done) | (simp; omega) | omega)) | ((with_reducible apply bAlloc); (focus first | (simp; done) | (simp; omega) | omega))))
          all_goals first | assumption | (simp; omega) | (simp [go_sem, *]; done)
        case measure => simp [intOf]; omega
      · skip
        have hkI : ¬ (k : Int) < 16 := by omega
        obtain ⟨s1, hs1, es1⟩ := HMO.out
        have hs2 := Hid.out hQ s1 (by omega)
        rw [es1] at hs2
        have hQM : Q = M := by omega
        clear hs2 es1 hQ HMO
        subst hQM
        go_wp2_with fail
        refine (LE.out _).mono ?_
        rintro e w11 ⟨rfl, hb11⟩
        have hT11 : Tab w11 := Tab.of_below (Tab.of_below hT0 (by repeat (first | (with_reducible exact Below.refl _ _) | (with_reducible apply bDrewN) | (with_reducible apply Below.drew) | ((with_reducible apply bSet); (focus first | (simp; done) | (simp; omega) | omega)) | ((with_reducible apply bAlloc); (focus first | (simp; done) | (simp; omega) | omega))))) hb11
        have sz11_0 : w.heap.size < w11.heap.size := by have h := hb11.size; first | (simp at h; omega) | omega
        have c11_0_0 : w11.cell? ⟨w.heap.size, 0, none⟩ = some (.int .i64 m) := by rw [hb11.cell (p := ⟨w.heap.size, 0, none⟩) (by first | (simp; done) | (simp; omega) | omega)]; first | assumption | (simp [go_sem]; done) | (simp [go_sem, *]; done)
        have c11_0_1 : w11.cell? ⟨w.heap.size, 1, none⟩ = some (.int .i64 d) := by rw [hb11.cell (p := ⟨w.heap.size, 1, none⟩) (by first | (simp; done) | (simp; omega) | omega)]; first | assumption | (simp [go_sem]; done) | (simp [go_sem, *]; done)
        have c11_0_2 : w11.cell? ⟨w.heap.size, 2, none⟩ = some (.int .i64 t) := by rw [hb11.cell (p := ⟨w.heap.size, 2, none⟩) (by first | (simp; done) | (simp; omega) | omega)]; first | assumption | (simp [go_sem]; done) | (simp [go_sem, *]; done)
        have c11_0_3 : w11.cell? ⟨w.heap.size, 3, none⟩ = some (.int .i64 h) := by rw [hb11.cell (p := ⟨w.heap.size, 3, none⟩) (by first | (simp; done) | (simp; omega) | omega)]; first | assumption | (simp [go_sem]; done) | (simp [go_sem, *]; done)
        have sz11_1 : w.heap.size + 1 < w11.heap.size := by have h := hb11.size; first | (simp at h; omega) | omega
        have c11_1_0 : w11.cell? ⟨w.heap.size + 1, 0, none⟩ = some (.int .u8 n) := by rw [hb11.cell (p := ⟨w.heap.size + 1, 0, none⟩) (by first | (simp; done) | (simp; omega) | omega)]; first | assumption | (simp [go_sem]; done) | (simp [go_sem, *]; done)
        have c11_1_1 : w11.cell? ⟨w.heap.size + 1, 1, none⟩ = some (.int .i64 a) := by rw [hb11.cell (p := ⟨w.heap.size + 1, 1, none⟩) (by first | (simp; done) | (simp; omega) | omega)]; first | assumption | (simp [go_sem]; done) | (simp [go_sem, *]; done)
        have c11_1_2 : w11.cell? ⟨w.heap.size + 1, 2, none⟩ = some (.int .i64 b) := by rw [hb11.cell (p := ⟨w.heap.size + 1, 2, none⟩) (by first | (simp; done) | (simp; omega) | omega)]; first | assumption | (simp [go_sem]; done) | (simp [go_sem, *]; done)
        have c11_1_3 : w11.cell? ⟨w.heap.size + 1, 3, none⟩ = some (.int .i64 c) := by rw [hb11.cell (p := ⟨w.heap.size + 1, 3, none⟩) (by first | (simp; done) | (simp; omega) | omega)]; first | assumption | (simp [go_sem]; done) | (simp [go_sem, *]; done)
        have c11_1_4 : w11.cell? ⟨w.heap.size + 1, 4, none⟩ = some (.int .i64 i) := by rw [hb11.cell (p := ⟨w.heap.size + 1, 4, none⟩) (by first | (simp; done) | (simp; omega) | omega)]; first | assumption | (simp [go_sem]; done) | (simp [go_sem, *]; done)
        have HB11 : Below w.heap.size w w11 := by
          repeat (first | (with_reducible exact Below.refl _ _) | (with_reducible apply bDrewN) | (with_reducible apply Below.drew) | (with_reducible exact HB0) | ((with_reducible apply bThen hb11); (focus first | (simp; done) | (simp; omega) | omega)) | ((with_reducible apply bSet); (focus first | (simp; done) | (simp; omega) | omega)) | ((with_reducible apply bAlloc); (focus first | (simp; done) | (simp; omega) | omega)))
        have hsz11 := HB11.size
        clear hb11 sz0 c0_0 c0_1 c0_2 c0_3 c0_4 c0_5 c0_6 c0_7 c0_8 sz0a
        go_wp2_with fail
        refine (MO.out _ (Tab.of_below hT11 (by repeat (first | (with_reducible exact Below.refl _ _) | (with_reducible apply bDrewN) | (with_reducible apply Below.drew) | ((with_reducible apply bSet); (focus first | (simp; done) | (simp; omega) | omega)) | ((with_reducible apply bAlloc); (focus first | (simp; done) | (simp; omega) | omega)))))).mono ?_
        rintro e w12 ⟨rfl, hb12⟩
        have hT12 : Tab w12 := Tab.of_below (Tab.of_below hT11 (by repeat (first | (with_reducible exact Below.refl _ _) | (with_reducible apply bDrewN) | (with_reducible apply Below.drew) | ((with_reducible apply bSet); (focus first | (simp; done) | (simp; omega) | omega)) | ((with_reducible apply bAlloc); (focus first | (simp; done) | (simp; omega) | omega))))) hb12
        have sz12_0 : w.heap.size < w12.heap.size := by have h := hb12.size; first | (simp at h; omega) | omega
        have c12_0_0 : w12.cell? ⟨w.heap.size, 0, none⟩ = some (.int .i64 m) := by rw [hb12.cell (p := ⟨w.heap.size, 0, none⟩) (by first | (simp; done) | (simp; omega) | omega)]; first | assumption | (simp [go_sem]; done) | (simp [go_sem, *]; done)
        have c12_0_1 : w12.cell? ⟨w.heap.size, 1, none⟩ = some (.int .i64 d) := by rw [hb12.cell (p := ⟨w.heap.size, 1, none⟩) (by first | (simp; done) | (simp; omega) | omega)]; first | assumption | (simp [go_sem]; done) | (simp [go_sem, *]; done)
        have c12_0_2 : w12.cell? ⟨w.heap.size, 2, none⟩ = some (.int .i64 t) := by rw [hb12.cell (p := ⟨w.heap.size, 2, none⟩) (by first | (simp; done) | (simp; omega) | omega)]; first | assumption | (simp [go_sem]; done) | (simp [go_sem, *]; done)
        have c12_0_3 : w12.cell? ⟨w.heap.size, 3, none⟩ = some (.int .i64 h) := by rw [hb12.cell (p := ⟨w.heap.size, 3, none⟩) (by first | (simp; done) | (simp; omega) | omega)]; first | assumption | (simp [go_sem]; done) | (simp [go_sem, *]; done)
        have sz12_1 : w.heap.size + 1 < w12.heap.size := by have h := hb12.size; first | (simp at h; omega) | omega
        have c12_1_0 : w12.cell? ⟨w.heap.size + 1, 0, none⟩ = some (.int .u8 n) := by rw [hb12.cell (p := ⟨w.heap.size + 1, 0, none⟩) (by first | (simp; done) | (simp; omega) | omega)]; first | assumption | (simp [go_sem]; done) | (simp [go_sem, *]; done)
        have c12_1_1 : w12.cell? ⟨w.heap.size + 1, 1, none⟩ = some (.int .i64 a) := by rw [hb12.cell (p := ⟨w.heap.size + 1, 1, none⟩) (by first | (simp; done) | (simp; omega) | omega)]; first | assumption | (simp [go_sem]; done) | (simp [go_sem, *]; done)
        have c12_1_2 : w12.cell? ⟨w.heap.size + 1, 2, none⟩ = some (.int .i64 b) := by rw [hb12.cell (p := ⟨w.heap.size + 1, 2, none⟩) (by first | (simp; done) | (simp; omega) | omega)]; first | assumption | (simp [go_sem]; done) | (simp [go_sem, *]; done)
        have c12_1_3 : w12.cell? ⟨w.heap.size + 1, 3, none⟩ = some (.int .i64 c) := by rw [hb12.cell (p := ⟨w.heap.size + 1, 3, none⟩) (by first | (simp; done) | (simp; omega) | omega)]; first | assumption | (simp [go_sem]; done) | (simp [go_sem, *]; done)
        have c12_1_4 : w12.cell? ⟨w.heap.size + 1, 4, none⟩ = some (.int .i64 i) := by rw [hb12.cell (p := ⟨w.heap.size + 1, 4, none⟩) (by first | (simp; done) | (simp; omega) | omega)]; first | assumption | (simp [go_sem]; done) | (simp [go_sem, *]; done)
        have HB12 : Below w.heap.size w w12 := by
          repeat (first | (with_reducible exact Below.refl _ _) | (with_reducible apply bDrewN) | (with_reducible apply Below.drew) | (with_reducible exact HB11) | ((with_reducible apply bThen hb12); (focus first | (simp; done) | (simp; omega) | omega)) | ((with_reducible apply bSet); (focus first | (simp; done) | (simp; omega) | omega)) | ((with_reducible apply bAlloc); (focus first | (simp; done) | (simp; omega) | omega)))
        have hsz12 := HB12.size
        clear hb12 sz11_0 c11_0_0 c11_0_1 c11_0_2 c11_0_3 sz11_1 c11_1_0 c11_1_1 c11_1_2 c11_1_3 c11_1_4 hsz11
        go_wp2_with fail
        go_ret
        refine ⟨by simp [*], ?_⟩
        (repeat (first | (with_reducible exact Below.refl _ _) | (with_reducible apply bDrewN) | (with_reducible apply Below.drew) | (with_reducible exact HB12) | ((with_reducible apply bSet); (focus first | (simp; done) | (simp; omega) | omega)) | ((with_reducible apply bAlloc); (focus first | (simp; done) | (simp; omega) | omega))))

end Go.Proofs.YtjfenhnlonbmmaaDoor
