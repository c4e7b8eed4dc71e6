/- Layer 8: the law PipelineReads. -/
import Derived.Test.YtjfenhnlonbmmaaDoorPipE
import Derived.Deep.RegionHeld3
set_option linter.unusedVariables false
set_option linter.unusedSimpArgs false
namespace Go.Proofs.YtjfenhnlonbmmaaDoor
open Go.RowKit Go.Sort

theorem contains_take {xs : List Int} {k : Nat} {z : Int} (hk : k < xs.length) (hz : xs.getD k 0 = z) (r : Int) : (xs.take (k + 1)).contains r = ((xs.take k).contains r || z == r) := by
  have e : xs.take (k + 1) = xs.take k ++ [z] := by
    rw [List.take_add_one, List.getElem?_eq_getElem hk, ← hz, List.getD_eq_getElem?_getD, List.getElem?_eq_getElem hk]; rfl
  rw [e, Bool.eq_iff_iff]
  simp only [List.contains_eq_mem, decide_eq_true_eq, List.mem_append, List.mem_singleton, Bool.or_eq_true, beq_iff_eq]
  exact or_congr Iff.rfl ⟨fun h => h.symm, fun h => h.symm⟩

set_option maxHeartbeats 3200000 in
theorem reads_18 (a b c i : Int) (n2 : Nat) (a2 b2 c2 i2 : Int) (w : World) (hT : Tab w) (hR : wrR 18 a b c i ≠ 0) :
    Calls Tryd.prog 7 #[.agg #[.int .u8 18, .int .i64 a, .int .i64 b, .int .i64 c, .int .i64 i], .agg #[.int .u8 n2, .int .i64 a2, .int .i64 b2, .int .i64 c2, .int .i64 i2]] w fun e w' => e = .returned (.bool true) ∧ Below w.heap.size w w' := by
  have C1 := Lib.hid (fun (w : World) (hT : Tab w) => writes_any 18 a b c i w hT)
  have C2 := Lib.hid (fun (w : World) (hT : Tab w) => reads_any n2 a2 b2 c2 i2 w hT)
  have C3 := Lib.hid (fun (w : World) (hT : Tab w) => next_any 18 a b c i w hT)
  have C4 := Lib.hid (fun (w : World) (hT : Tab w) => hazard_any (wrR 18 a b c i) n2 a2 b2 c2 i2 w hT)
  have C5 := Lib.hid (fun (w : World) (hT : Tab w) => hazard_any 0 n2 a2 b2 c2 i2 w hT)
  rw [hzd_out (s := 0) (by omega)] at C5
  rw [rdl_rrl] at C2
  have hxs := rrl_le n2 a2 b2 c2 i2
  rw [show nxt 18 a b c i = wrR 18 a b c i by simp [nxt]] at C3
  unfold hzd at C4
  generalize rrl n2 a2 b2 c2 i2 = xs at *
  generalize wrR 18 a b c i = R at *
  rw [show (R != 0) = true by simpa using hR] at C1
  have hz := hT.size
  go_enter Tryd.func7, Tryd.ntmps7
  go_wp2_with fail
  refine (awake8_any _ (Tab.of_below hT (by repeat (first | (with_reducible exact Below.refl _ _) | (with_reducible apply bDrewN) | (with_reducible apply Below.drew) | ((with_reducible apply bSet); (focus first | (simp; done) | (simp; omega) | omega)) | ((with_reducible apply bAlloc); (focus first | (simp; done) | (simp; omega) | omega)))))).mono ?_
  rintro e w1 ⟨rfl, hb1⟩
  have hT1 : Tab w1 := Tab.of_below (Tab.of_below hT (by repeat (first | (with_reducible exact Below.refl _ _) | (with_reducible apply bDrewN) | (with_reducible apply Below.drew) | ((with_reducible apply bSet); (focus first | (simp; done) | (simp; omega) | omega)) | ((with_reducible apply bAlloc); (focus first | (simp; done) | (simp; omega) | omega))))) hb1
  have sz1_0 : w.heap.size < w1.heap.size := by have h := hb1.size; first | (simp at h; omega) | omega
  have c1_0_0 : w1.cell? ⟨w.heap.size, 0, none⟩ = some (.int .u8 18) := by rw [hb1.cell (p := ⟨w.heap.size, 0, none⟩) (by first | (simp; done) | (simp; omega) | omega)]; first | assumption | (simp [go_sem]; done) | (simp [go_sem, *]; done)
  have c1_0_1 : w1.cell? ⟨w.heap.size, 1, none⟩ = some (.int .i64 a) := by rw [hb1.cell (p := ⟨w.heap.size, 1, none⟩) (by first | (simp; done) | (simp; omega) | omega)]; first | assumption | (simp [go_sem]; done) | (simp [go_sem, *]; done)
  have c1_0_2 : w1.cell? ⟨w.heap.size, 2, none⟩ = some (.int .i64 b) := by rw [hb1.cell (p := ⟨w.heap.size, 2, none⟩) (by first | (simp; done) | (simp; omega) | omega)]; first | assumption | (simp [go_sem]; done) | (simp [go_sem, *]; done)
  have c1_0_3 : w1.cell? ⟨w.heap.size, 3, none⟩ = some (.int .i64 c) := by rw [hb1.cell (p := ⟨w.heap.size, 3, none⟩) (by first | (simp; done) | (simp; omega) | omega)]; first | assumption | (simp [go_sem]; done) | (simp [go_sem, *]; done)
  have c1_0_4 : w1.cell? ⟨w.heap.size, 4, none⟩ = some (.int .i64 i) := by rw [hb1.cell (p := ⟨w.heap.size, 4, none⟩) (by first | (simp; done) | (simp; omega) | omega)]; first | assumption | (simp [go_sem]; done) | (simp [go_sem, *]; done)
  have sz1_1 : w.heap.size + 1 < w1.heap.size := by have h := hb1.size; first | (simp at h; omega) | omega
  have c1_1_0 : w1.cell? ⟨w.heap.size + 1, 0, none⟩ = some (.int .u8 n2) := by rw [hb1.cell (p := ⟨w.heap.size + 1, 0, none⟩) (by first | (simp; done) | (simp; omega) | omega)]; first | assumption | (simp [go_sem]; done) | (simp [go_sem, *]; done)
  have c1_1_1 : w1.cell? ⟨w.heap.size + 1, 1, none⟩ = some (.int .i64 a2) := by rw [hb1.cell (p := ⟨w.heap.size + 1, 1, none⟩) (by first | (simp; done) | (simp; omega) | omega)]; first | assumption | (simp [go_sem]; done) | (simp [go_sem, *]; done)
  have c1_1_2 : w1.cell? ⟨w.heap.size + 1, 2, none⟩ = some (.int .i64 b2) := by rw [hb1.cell (p := ⟨w.heap.size + 1, 2, none⟩) (by first | (simp; done) | (simp; omega) | omega)]; first | assumption | (simp [go_sem]; done) | (simp [go_sem, *]; done)
  have c1_1_3 : w1.cell? ⟨w.heap.size + 1, 3, none⟩ = some (.int .i64 c2) := by rw [hb1.cell (p := ⟨w.heap.size + 1, 3, none⟩) (by first | (simp; done) | (simp; omega) | omega)]; first | assumption | (simp [go_sem]; done) | (simp [go_sem, *]; done)
  have c1_1_4 : w1.cell? ⟨w.heap.size + 1, 4, none⟩ = some (.int .i64 i2) := by rw [hb1.cell (p := ⟨w.heap.size + 1, 4, none⟩) (by first | (simp; done) | (simp; omega) | omega)]; first | assumption | (simp [go_sem]; done) | (simp [go_sem, *]; done)
  have HB1 : Below w.heap.size w w1 := by
    repeat (first | (with_reducible exact Below.refl _ _) | (with_reducible apply bDrewN) | (with_reducible apply Below.drew) | ((with_reducible apply bThen hb1); (focus first | (simp; done) | (simp; omega) | omega)) | ((with_reducible apply bSet); (focus first | (simp; done) | (simp; omega) | omega)) | ((with_reducible apply bAlloc); (focus first | (simp; done) | (simp; omega) | omega)))
  have hsz1 := HB1.size
  clear hb1 
  go_wp2_with fail
  refine (C1.out _ (Tab.of_below hT1 (by repeat (first | (with_reducible exact Below.refl _ _) | (with_reducible apply bDrewN) | (with_reducible apply Below.drew) | ((with_reducible apply bSet); (focus first | (simp; done) | (simp; omega) | omega)) | ((with_reducible apply bAlloc); (focus first | (simp; done) | (simp; omega) | omega)))))).mono ?_
  rintro e w2 ⟨rfl, hb2⟩
  have hT2 : Tab w2 := Tab.of_below (Tab.of_below hT1 (by repeat (first | (with_reducible exact Below.refl _ _) | (with_reducible apply bDrewN) | (with_reducible apply Below.drew) | ((with_reducible apply bSet); (focus first | (simp; done) | (simp; omega) | omega)) | ((with_reducible apply bAlloc); (focus first | (simp; done) | (simp; omega) | omega))))) hb2
  have sz2_0 : w.heap.size < w2.heap.size := by have h := hb2.size; first | (simp at h; omega) | omega
  have c2_0_0 : w2.cell? ⟨w.heap.size, 0, none⟩ = some (.int .u8 18) := by rw [hb2.cell (p := ⟨w.heap.size, 0, none⟩) (by first | (simp; done) | (simp; omega) | omega)]; first | assumption | (simp [go_sem]; done) | (simp [go_sem, *]; done)
  have c2_0_1 : w2.cell? ⟨w.heap.size, 1, none⟩ = some (.int .i64 a) := by rw [hb2.cell (p := ⟨w.heap.size, 1, none⟩) (by first | (simp; done) | (simp; omega) | omega)]; first | assumption | (simp [go_sem]; done) | (simp [go_sem, *]; done)
  have c2_0_2 : w2.cell? ⟨w.heap.size, 2, none⟩ = some (.int .i64 b) := by rw [hb2.cell (p := ⟨w.heap.size, 2, none⟩) (by first | (simp; done) | (simp; omega) | omega)]; first | assumption | (simp [go_sem]; done) | (simp [go_sem, *]; done)
  have c2_0_3 : w2.cell? ⟨w.heap.size, 3, none⟩ = some (.int .i64 c) := by rw [hb2.cell (p := ⟨w.heap.size, 3, none⟩) (by first | (simp; done) | (simp; omega) | omega)]; first | assumption | (simp [go_sem]; done) | (simp [go_sem, *]; done)
  have c2_0_4 : w2.cell? ⟨w.heap.size, 4, none⟩ = some (.int .i64 i) := by rw [hb2.cell (p := ⟨w.heap.size, 4, none⟩) (by first | (simp; done) | (simp; omega) | omega)]; first | assumption | (simp [go_sem]; done) | (simp [go_sem, *]; done)
  have sz2_1 : w.heap.size + 1 < w2.heap.size := by have h := hb2.size; first | (simp at h; omega) | omega
  have c2_1_0 : w2.cell? ⟨w.heap.size + 1, 0, none⟩ = some (.int .u8 n2) := by rw [hb2.cell (p := ⟨w.heap.size + 1, 0, none⟩) (by first | (simp; done) | (simp; omega) | omega)]; first | assumption | (simp [go_sem]; done) | (simp [go_sem, *]; done)
  have c2_1_1 : w2.cell? ⟨w.heap.size + 1, 1, none⟩ = some (.int .i64 a2) := by rw [hb2.cell (p := ⟨w.heap.size + 1, 1, none⟩) (by first | (simp; done) | (simp; omega) | omega)]; first | assumption | (simp [go_sem]; done) | (simp [go_sem, *]; done)
  have c2_1_2 : w2.cell? ⟨w.heap.size + 1, 2, none⟩ = some (.int .i64 b2) := by rw [hb2.cell (p := ⟨w.heap.size + 1, 2, none⟩) (by first | (simp; done) | (simp; omega) | omega)]; first | assumption | (simp [go_sem]; done) | (simp [go_sem, *]; done)
  have c2_1_3 : w2.cell? ⟨w.heap.size + 1, 3, none⟩ = some (.int .i64 c2) := by rw [hb2.cell (p := ⟨w.heap.size + 1, 3, none⟩) (by first | (simp; done) | (simp; omega) | omega)]; first | assumption | (simp [go_sem]; done) | (simp [go_sem, *]; done)
  have c2_1_4 : w2.cell? ⟨w.heap.size + 1, 4, none⟩ = some (.int .i64 i2) := by rw [hb2.cell (p := ⟨w.heap.size + 1, 4, none⟩) (by first | (simp; done) | (simp; omega) | omega)]; first | assumption | (simp [go_sem]; done) | (simp [go_sem, *]; done)
  have HB2 : Below w.heap.size w w2 := by
    repeat (first | (with_reducible exact Below.refl _ _) | (with_reducible apply bDrewN) | (with_reducible apply Below.drew) | (with_reducible exact HB1) | ((with_reducible apply bThen hb2); (focus first | (simp; done) | (simp; omega) | omega)) | ((with_reducible apply bSet); (focus first | (simp; done) | (simp; omega) | omega)) | ((with_reducible apply bAlloc); (focus first | (simp; done) | (simp; omega) | omega)))
  have hsz2 := HB2.size
  clear hb2 sz1_0 c1_0_0 c1_0_1 c1_0_2 c1_0_3 c1_0_4 sz1_1 c1_1_0 c1_1_1 c1_1_2 c1_1_3 c1_1_4 hsz1
  go_wp2_with fail
  refine (C2.out _ (Tab.of_below hT2 (by repeat (first | (with_reducible exact Below.refl _ _) | (with_reducible apply bDrewN) | (with_reducible apply Below.drew) | ((with_reducible apply bSet); (focus first | (simp; done) | (simp; omega) | omega)) | ((with_reducible apply bAlloc); (focus first | (simp; done) | (simp; omega) | omega)))))).mono ?_
  rintro e w3 ⟨v1, rfl, sl1, hb3⟩
  have hT3 : Tab w3 := Tab.of_below (Tab.of_below hT2 (by repeat (first | (with_reducible exact Below.refl _ _) | (with_reducible apply bDrewN) | (with_reducible apply Below.drew) | ((with_reducible apply bSet); (focus first | (simp; done) | (simp; omega) | omega)) | ((with_reducible apply bAlloc); (focus first | (simp; done) | (simp; omega) | omega))))) hb3
  have sz3_0 : w.heap.size < w3.heap.size := by have h := hb3.size; first | (simp at h; omega) | omega
  have c3_0_0 : w3.cell? ⟨w.heap.size, 0, none⟩ = some (.int .u8 18) := by rw [hb3.cell (p := ⟨w.heap.size, 0, none⟩) (by first | (simp; done) | (simp; omega) | omega)]; first | assumption | (simp [go_sem]; done) | (simp [go_sem, *]; done)
  have c3_0_1 : w3.cell? ⟨w.heap.size, 1, none⟩ = some (.int .i64 a) := by rw [hb3.cell (p := ⟨w.heap.size, 1, none⟩) (by first | (simp; done) | (simp; omega) | omega)]; first | assumption | (simp [go_sem]; done) | (simp [go_sem, *]; done)
  have c3_0_2 : w3.cell? ⟨w.heap.size, 2, none⟩ = some (.int .i64 b) := by rw [hb3.cell (p := ⟨w.heap.size, 2, none⟩) (by first | (simp; done) | (simp; omega) | omega)]; first | assumption | (simp [go_sem]; done) | (simp [go_sem, *]; done)
  have c3_0_3 : w3.cell? ⟨w.heap.size, 3, none⟩ = some (.int .i64 c) := by rw [hb3.cell (p := ⟨w.heap.size, 3, none⟩) (by first | (simp; done) | (simp; omega) | omega)]; first | assumption | (simp [go_sem]; done) | (simp [go_sem, *]; done)
  have c3_0_4 : w3.cell? ⟨w.heap.size, 4, none⟩ = some (.int .i64 i) := by rw [hb3.cell (p := ⟨w.heap.size, 4, none⟩) (by first | (simp; done) | (simp; omega) | omega)]; first | assumption | (simp [go_sem]; done) | (simp [go_sem, *]; done)
  have sz3_1 : w.heap.size + 1 < w3.heap.size := by have h := hb3.size; first | (simp at h; omega) | omega
  have c3_1_0 : w3.cell? ⟨w.heap.size + 1, 0, none⟩ = some (.int .u8 n2) := by rw [hb3.cell (p := ⟨w.heap.size + 1, 0, none⟩) (by first | (simp; done) | (simp; omega) | omega)]; first | assumption | (simp [go_sem]; done) | (simp [go_sem, *]; done)
  have c3_1_1 : w3.cell? ⟨w.heap.size + 1, 1, none⟩ = some (.int .i64 a2) := by rw [hb3.cell (p := ⟨w.heap.size + 1, 1, none⟩) (by first | (simp; done) | (simp; omega) | omega)]; first | assumption | (simp [go_sem]; done) | (simp [go_sem, *]; done)
  have c3_1_2 : w3.cell? ⟨w.heap.size + 1, 2, none⟩ = some (.int .i64 b2) := by rw [hb3.cell (p := ⟨w.heap.size + 1, 2, none⟩) (by first | (simp; done) | (simp; omega) | omega)]; first | assumption | (simp [go_sem]; done) | (simp [go_sem, *]; done)
  have c3_1_3 : w3.cell? ⟨w.heap.size + 1, 3, none⟩ = some (.int .i64 c2) := by rw [hb3.cell (p := ⟨w.heap.size + 1, 3, none⟩) (by first | (simp; done) | (simp; omega) | omega)]; first | assumption | (simp [go_sem]; done) | (simp [go_sem, *]; done)
  have c3_1_4 : w3.cell? ⟨w.heap.size + 1, 4, none⟩ = some (.int .i64 i2) := by rw [hb3.cell (p := ⟨w.heap.size + 1, 4, none⟩) (by first | (simp; done) | (simp; omega) | omega)]; first | assumption | (simp [go_sem]; done) | (simp [go_sem, *]; done)
  have HB3 : Below w.heap.size w w3 := by
    repeat (first | (with_reducible exact Below.refl _ _) | (with_reducible apply bDrewN) | (with_reducible apply Below.drew) | (with_reducible exact HB2) | ((with_reducible apply bThen hb3); (focus first | (simp; done) | (simp; omega) | omega)) | ((with_reducible apply bSet); (focus first | (simp; done) | (simp; omega) | omega)) | ((with_reducible apply bAlloc); (focus first | (simp; done) | (simp; omega) | omega)))
  have hsz3 := HB3.size
  clear hb3 sz2_0 c2_0_0 c2_0_1 c2_0_2 c2_0_3 c2_0_4 sz2_1 c2_1_0 c2_1_1 c2_1_2 c2_1_3 c2_1_4 hsz2
  by_cases hx : xs = []
  · skip
    subst hx
    obtain ⟨a1, cap1, rfl⟩ := sl1.nil
    rw [show ([] : List Int).contains R = false from rfl] at C4
    go_wp2_with fail
    refine wp_loop_rounds 1 ?_
    rw [rounds_succ]
    go_wp2_with fail
    have mk : ∀ W : World, Below w3.heap.size w3 W → Below w3.heap.size w3 W ∧ W.cell? ⟨w.heap.size, 0, none⟩ = some (.int .u8 18) ∧ W.cell? ⟨w.heap.size, 1, none⟩ = some (.int .i64 a) ∧ W.cell? ⟨w.heap.size, 2, none⟩ = some (.int .i64 b) ∧ W.cell? ⟨w.heap.size, 3, none⟩ = some (.int .i64 c) ∧ W.cell? ⟨w.heap.size, 4, none⟩ = some (.int .i64 i) ∧ W.cell? ⟨w.heap.size + 1, 0, none⟩ = some (.int .u8 n2) ∧ W.cell? ⟨w.heap.size + 1, 1, none⟩ = some (.int .i64 a2) ∧ W.cell? ⟨w.heap.size + 1, 2, none⟩ = some (.int .i64 b2) ∧ W.cell? ⟨w.heap.size + 1, 3, none⟩ = some (.int .i64 c2) ∧ W.cell? ⟨w.heap.size + 1, 4, none⟩ = some (.int .i64 i2) := fun W hb => ⟨hb, (hb.cell (p := ⟨w.heap.size, 0, none⟩) sz3_0).trans c3_0_0, (hb.cell (p := ⟨w.heap.size, 1, none⟩) sz3_0).trans c3_0_1, (hb.cell (p := ⟨w.heap.size, 2, none⟩) sz3_0).trans c3_0_2, (hb.cell (p := ⟨w.heap.size, 3, none⟩) sz3_0).trans c3_0_3, (hb.cell (p := ⟨w.heap.size, 4, none⟩) sz3_0).trans c3_0_4, (hb.cell (p := ⟨w.heap.size + 1, 0, none⟩) sz3_1).trans c3_1_0, (hb.cell (p := ⟨w.heap.size + 1, 1, none⟩) sz3_1).trans c3_1_1, (hb.cell (p := ⟨w.heap.size + 1, 2, none⟩) sz3_1).trans c3_1_2, (hb.cell (p := ⟨w.heap.size + 1, 3, none⟩) sz3_1).trans c3_1_3, (hb.cell (p := ⟨w.heap.size + 1, 4, none⟩) sz3_1).trans c3_1_4⟩
    have R0 := Lib.hid (show ∀ W : World, Below w3.heap.size w3 W → Calls Tryd.prog 14 #[.agg #[.int .u8 18, .int .i64 a, .int .i64 b, .int .i64 c, .int .i64 i]] W fun e w' => e = .returned (.int .i64 R) ∧ Below w3.heap.size w3 w' ∧ w'.cell? ⟨w.heap.size, 0, none⟩ = some (.int .u8 18) ∧ w'.cell? ⟨w.heap.size, 1, none⟩ = some (.int .i64 a) ∧ w'.cell? ⟨w.heap.size, 2, none⟩ = some (.int .i64 b) ∧ w'.cell? ⟨w.heap.size, 3, none⟩ = some (.int .i64 c) ∧ w'.cell? ⟨w.heap.size, 4, none⟩ = some (.int .i64 i) ∧ w'.cell? ⟨w.heap.size + 1, 0, none⟩ = some (.int .u8 n2) ∧ w'.cell? ⟨w.heap.size + 1, 1, none⟩ = some (.int .i64 a2) ∧ w'.cell? ⟨w.heap.size + 1, 2, none⟩ = some (.int .i64 b2) ∧ w'.cell? ⟨w.heap.size + 1, 3, none⟩ = some (.int .i64 c2) ∧ w'.cell? ⟨w.heap.size + 1, 4, none⟩ = some (.int .i64 i2) from fun W hb => (C3.out W (Tab.of_below hT3 hb)).mono fun e w' ⟨h1, h2⟩ => ⟨h1, mk w' (hb.trans (h2.mono hb.size))⟩)
    have R1 := Lib.hid (show ∀ W : World, Below w3.heap.size w3 W → Calls Tryd.prog 16 #[.int .i64 R, .agg #[.int .u8 n2, .int .i64 a2, .int .i64 b2, .int .i64 c2, .int .i64 i2]] W fun e w' => e = .returned (.bool false) ∧ Below w3.heap.size w3 w' ∧ w'.cell? ⟨w.heap.size, 0, none⟩ = some (.int .u8 18) ∧ w'.cell? ⟨w.heap.size, 1, none⟩ = some (.int .i64 a) ∧ w'.cell? ⟨w.heap.size, 2, none⟩ = some (.int .i64 b) ∧ w'.cell? ⟨w.heap.size, 3, none⟩ = some (.int .i64 c) ∧ w'.cell? ⟨w.heap.size, 4, none⟩ = some (.int .i64 i) ∧ w'.cell? ⟨w.heap.size + 1, 0, none⟩ = some (.int .u8 n2) ∧ w'.cell? ⟨w.heap.size + 1, 1, none⟩ = some (.int .i64 a2) ∧ w'.cell? ⟨w.heap.size + 1, 2, none⟩ = some (.int .i64 b2) ∧ w'.cell? ⟨w.heap.size + 1, 3, none⟩ = some (.int .i64 c2) ∧ w'.cell? ⟨w.heap.size + 1, 4, none⟩ = some (.int .i64 i2) from fun W hb => (C4.out W (Tab.of_below hT3 hb)).mono fun e w' ⟨h1, h2⟩ => ⟨h1, mk w' (hb.trans (h2.mono hb.size))⟩)
    have R2 := Lib.hid (show ∀ W : World, Below w3.heap.size w3 W → Calls Tryd.prog 16 #[.int .i64 0, .agg #[.int .u8 n2, .int .i64 a2, .int .i64 b2, .int .i64 c2, .int .i64 i2]] W fun e w' => e = .returned (.bool false) ∧ Below w3.heap.size w3 w' ∧ w'.cell? ⟨w.heap.size, 0, none⟩ = some (.int .u8 18) ∧ w'.cell? ⟨w.heap.size, 1, none⟩ = some (.int .i64 a) ∧ w'.cell? ⟨w.heap.size, 2, none⟩ = some (.int .i64 b) ∧ w'.cell? ⟨w.heap.size, 3, none⟩ = some (.int .i64 c) ∧ w'.cell? ⟨w.heap.size, 4, none⟩ = some (.int .i64 i) ∧ w'.cell? ⟨w.heap.size + 1, 0, none⟩ = some (.int .u8 n2) ∧ w'.cell? ⟨w.heap.size + 1, 1, none⟩ = some (.int .i64 a2) ∧ w'.cell? ⟨w.heap.size + 1, 2, none⟩ = some (.int .i64 b2) ∧ w'.cell? ⟨w.heap.size + 1, 3, none⟩ = some (.int .i64 c2) ∧ w'.cell? ⟨w.heap.size + 1, 4, none⟩ = some (.int .i64 i2) from fun W hb => (C5.out W (Tab.of_below hT3 hb)).mono fun e w' ⟨h1, h2⟩ => ⟨h1, mk w' (hb.trans (h2.mono hb.size))⟩)
    have hs0 := mk w3.drew (Below.refl _ _).drew
    clear mk
    first | go_region_held3 (fun w' => Below w3.heap.size w3 w' ∧ w'.cell? ⟨w.heap.size, 0, none⟩ = some (.int .u8 18) ∧ w'.cell? ⟨w.heap.size, 1, none⟩ = some (.int .i64 a) ∧ w'.cell? ⟨w.heap.size, 2, none⟩ = some (.int .i64 b) ∧ w'.cell? ⟨w.heap.size, 3, none⟩ = some (.int .i64 c) ∧ w'.cell? ⟨w.heap.size, 4, none⟩ = some (.int .i64 i) ∧ w'.cell? ⟨w.heap.size + 1, 0, none⟩ = some (.int .u8 n2) ∧ w'.cell? ⟨w.heap.size + 1, 1, none⟩ = some (.int .i64 a2) ∧ w'.cell? ⟨w.heap.size + 1, 2, none⟩ = some (.int .i64 b2) ∧ w'.cell? ⟨w.heap.size + 1, 3, none⟩ = some (.int .i64 c2) ∧ w'.cell? ⟨w.heap.size + 1, 4, none⟩ = some (.int .i64 i2)) (first | exact hs0 | assumption | (simp [*]; done)) (first | (go_at_call 14; (with_reducible refine (R0.out _ ?_).mono ?_); (simp [*]); rintro e w' ⟨rfl, hS⟩) | (go_at_call 16; first | ((with_reducible refine (R1.out _ ?_).mono ?_); (simp [*]); rintro e w' ⟨rfl, hS⟩) | ((with_reducible refine (R2.out _ ?_).mono ?_); (simp [*]); rintro e w' ⟨rfl, hS⟩))) | fail
    go_wp2_with fail
    go_ret
    refine ⟨by simp, ?_⟩
    first | exact bThen (W := w3) (by assumption) (by omega) HB3 | (go_split_ands; exact bThen (W := w3) (by assumption) (by omega) HB3)
  · skip
    obtain ⟨g1, cap1, rfl, hg1, hg1', hc1⟩ := sl1.some hx
    have HC := Lib.hid hc1
    clear hc1 sl1
    have hpos : 0 < xs.length := List.length_pos_iff.2 hx
    go_wp2_with fail
    go_loopw [8, 10, 37, 40] (fun rv x1 r x2 wr => ∃ (k : Nat) (u : Bool), k ≤ xs.length ∧ rv = .bool u ∧ r = .int .i64 k ∧ Hid (u = (xs.take k).contains R) ∧ w3 = wr) (fun _ _ r _ _ => xs.length - (intOf r).toNat)
    case atStart => exact ⟨0, false, by omega, rfl, rfl, rfl, rfl⟩
    case round =>
      obtain ⟨k, u, hk, rfl, rfl, hu, rfl⟩ := hrel
      by_cases hlt : k < xs.length
      · have d1 := HC.out k hlt
        have hkI : (k : Int) < xs.length := by omega
        generalize hz : xs.getD k 0 = z at d1
        have HZ := Lib.hid hz
        clear hz
        cases u
        · by_cases hzs : z = R
          · subst hzs
            go_wp2_with fail
            go_roundw
            case rel => exact ⟨k + 1, true, by omega, by simp, by go_num, show true = _ by rw [contains_take hlt HZ.out]; simp, by first | rfl | trivial⟩
            case measure => simp [intOf]; omega
          · have hb : (z == R) = false := by simpa using hzs
            go_wp2_with fail
            go_roundw
            case rel => exact ⟨k + 1, false, by omega, by simp, by go_num, show false = _ by rw [contains_take hlt HZ.out, ← Hid.out hu, hb]; rfl, by first | rfl | trivial⟩
            case measure => simp [intOf]; omega
        · go_wp2_with fail
          go_roundw
          case rel => exact ⟨k + 1, true, by omega, by simp, by go_num, show true = _ by rw [contains_take hlt HZ.out, ← Hid.out hu]; rfl, by first | rfl | trivial⟩
          case measure => simp [intOf]; omega
      · have hkI : ¬ (k : Int) < xs.length := by omega
        have e1 := Hid.out hu
        rw [List.take_of_length_le (by omega)] at e1
        clear hu
        rw [← e1] at C4
        clear e1
        cases u
        · skip
          go_wp2_with fail
          have mk : ∀ W : World, Below w3.heap.size w3 W → Below w3.heap.size w3 W ∧ W.cell? ⟨w.heap.size, 0, none⟩ = some (.int .u8 18) ∧ W.cell? ⟨w.heap.size, 1, none⟩ = some (.int .i64 a) ∧ W.cell? ⟨w.heap.size, 2, none⟩ = some (.int .i64 b) ∧ W.cell? ⟨w.heap.size, 3, none⟩ = some (.int .i64 c) ∧ W.cell? ⟨w.heap.size, 4, none⟩ = some (.int .i64 i) ∧ W.cell? ⟨w.heap.size + 1, 0, none⟩ = some (.int .u8 n2) ∧ W.cell? ⟨w.heap.size + 1, 1, none⟩ = some (.int .i64 a2) ∧ W.cell? ⟨w.heap.size + 1, 2, none⟩ = some (.int .i64 b2) ∧ W.cell? ⟨w.heap.size + 1, 3, none⟩ = some (.int .i64 c2) ∧ W.cell? ⟨w.heap.size + 1, 4, none⟩ = some (.int .i64 i2) := fun W hb => ⟨hb, (hb.cell (p := ⟨w.heap.size, 0, none⟩) sz3_0).trans c3_0_0, (hb.cell (p := ⟨w.heap.size, 1, none⟩) sz3_0).trans c3_0_1, (hb.cell (p := ⟨w.heap.size, 2, none⟩) sz3_0).trans c3_0_2, (hb.cell (p := ⟨w.heap.size, 3, none⟩) sz3_0).trans c3_0_3, (hb.cell (p := ⟨w.heap.size, 4, none⟩) sz3_0).trans c3_0_4, (hb.cell (p := ⟨w.heap.size + 1, 0, none⟩) sz3_1).trans c3_1_0, (hb.cell (p := ⟨w.heap.size + 1, 1, none⟩) sz3_1).trans c3_1_1, (hb.cell (p := ⟨w.heap.size + 1, 2, none⟩) sz3_1).trans c3_1_2, (hb.cell (p := ⟨w.heap.size + 1, 3, none⟩) sz3_1).trans c3_1_3, (hb.cell (p := ⟨w.heap.size + 1, 4, none⟩) sz3_1).trans c3_1_4⟩
          have R0 := Lib.hid (show ∀ W : World, Below w3.heap.size w3 W → Calls Tryd.prog 14 #[.agg #[.int .u8 18, .int .i64 a, .int .i64 b, .int .i64 c, .int .i64 i]] W fun e w' => e = .returned (.int .i64 R) ∧ Below w3.heap.size w3 w' ∧ w'.cell? ⟨w.heap.size, 0, none⟩ = some (.int .u8 18) ∧ w'.cell? ⟨w.heap.size, 1, none⟩ = some (.int .i64 a) ∧ w'.cell? ⟨w.heap.size, 2, none⟩ = some (.int .i64 b) ∧ w'.cell? ⟨w.heap.size, 3, none⟩ = some (.int .i64 c) ∧ w'.cell? ⟨w.heap.size, 4, none⟩ = some (.int .i64 i) ∧ w'.cell? ⟨w.heap.size + 1, 0, none⟩ = some (.int .u8 n2) ∧ w'.cell? ⟨w.heap.size + 1, 1, none⟩ = some (.int .i64 a2) ∧ w'.cell? ⟨w.heap.size + 1, 2, none⟩ = some (.int .i64 b2) ∧ w'.cell? ⟨w.heap.size + 1, 3, none⟩ = some (.int .i64 c2) ∧ w'.cell? ⟨w.heap.size + 1, 4, none⟩ = some (.int .i64 i2) from fun W hb => (C3.out W (Tab.of_below hT3 hb)).mono fun e w' ⟨h1, h2⟩ => ⟨h1, mk w' (hb.trans (h2.mono hb.size))⟩)
          have R1 := Lib.hid (show ∀ W : World, Below w3.heap.size w3 W → Calls Tryd.prog 16 #[.int .i64 R, .agg #[.int .u8 n2, .int .i64 a2, .int .i64 b2, .int .i64 c2, .int .i64 i2]] W fun e w' => e = .returned (.bool false) ∧ Below w3.heap.size w3 w' ∧ w'.cell? ⟨w.heap.size, 0, none⟩ = some (.int .u8 18) ∧ w'.cell? ⟨w.heap.size, 1, none⟩ = some (.int .i64 a) ∧ w'.cell? ⟨w.heap.size, 2, none⟩ = some (.int .i64 b) ∧ w'.cell? ⟨w.heap.size, 3, none⟩ = some (.int .i64 c) ∧ w'.cell? ⟨w.heap.size, 4, none⟩ = some (.int .i64 i) ∧ w'.cell? ⟨w.heap.size + 1, 0, none⟩ = some (.int .u8 n2) ∧ w'.cell? ⟨w.heap.size + 1, 1, none⟩ = some (.int .i64 a2) ∧ w'.cell? ⟨w.heap.size + 1, 2, none⟩ = some (.int .i64 b2) ∧ w'.cell? ⟨w.heap.size + 1, 3, none⟩ = some (.int .i64 c2) ∧ w'.cell? ⟨w.heap.size + 1, 4, none⟩ = some (.int .i64 i2) from fun W hb => (C4.out W (Tab.of_below hT3 hb)).mono fun e w' ⟨h1, h2⟩ => ⟨h1, mk w' (hb.trans (h2.mono hb.size))⟩)
          have R2 := Lib.hid (show ∀ W : World, Below w3.heap.size w3 W → Calls Tryd.prog 16 #[.int .i64 0, .agg #[.int .u8 n2, .int .i64 a2, .int .i64 b2, .int .i64 c2, .int .i64 i2]] W fun e w' => e = .returned (.bool false) ∧ Below w3.heap.size w3 w' ∧ w'.cell? ⟨w.heap.size, 0, none⟩ = some (.int .u8 18) ∧ w'.cell? ⟨w.heap.size, 1, none⟩ = some (.int .i64 a) ∧ w'.cell? ⟨w.heap.size, 2, none⟩ = some (.int .i64 b) ∧ w'.cell? ⟨w.heap.size, 3, none⟩ = some (.int .i64 c) ∧ w'.cell? ⟨w.heap.size, 4, none⟩ = some (.int .i64 i) ∧ w'.cell? ⟨w.heap.size + 1, 0, none⟩ = some (.int .u8 n2) ∧ w'.cell? ⟨w.heap.size + 1, 1, none⟩ = some (.int .i64 a2) ∧ w'.cell? ⟨w.heap.size + 1, 2, none⟩ = some (.int .i64 b2) ∧ w'.cell? ⟨w.heap.size + 1, 3, none⟩ = some (.int .i64 c2) ∧ w'.cell? ⟨w.heap.size + 1, 4, none⟩ = some (.int .i64 i2) from fun W hb => (C5.out W (Tab.of_below hT3 hb)).mono fun e w' ⟨h1, h2⟩ => ⟨h1, mk w' (hb.trans (h2.mono hb.size))⟩)
          have hs0 := mk w3.drew (Below.refl _ _).drew
          clear mk
          first | go_region_held3 (fun w' => Below w3.heap.size w3 w' ∧ w'.cell? ⟨w.heap.size, 0, none⟩ = some (.int .u8 18) ∧ w'.cell? ⟨w.heap.size, 1, none⟩ = some (.int .i64 a) ∧ w'.cell? ⟨w.heap.size, 2, none⟩ = some (.int .i64 b) ∧ w'.cell? ⟨w.heap.size, 3, none⟩ = some (.int .i64 c) ∧ w'.cell? ⟨w.heap.size, 4, none⟩ = some (.int .i64 i) ∧ w'.cell? ⟨w.heap.size + 1, 0, none⟩ = some (.int .u8 n2) ∧ w'.cell? ⟨w.heap.size + 1, 1, none⟩ = some (.int .i64 a2) ∧ w'.cell? ⟨w.heap.size + 1, 2, none⟩ = some (.int .i64 b2) ∧ w'.cell? ⟨w.heap.size + 1, 3, none⟩ = some (.int .i64 c2) ∧ w'.cell? ⟨w.heap.size + 1, 4, none⟩ = some (.int .i64 i2)) (first | exact hs0 | assumption | (simp [*]; done)) (first | (go_at_call 14; (with_reducible refine (R0.out _ ?_).mono ?_); (simp [*]); rintro e w' ⟨rfl, hS⟩) | (go_at_call 16; first | ((with_reducible refine (R1.out _ ?_).mono ?_); (simp [*]); rintro e w' ⟨rfl, hS⟩) | ((with_reducible refine (R2.out _ ?_).mono ?_); (simp [*]); rintro e w' ⟨rfl, hS⟩))) | fail
          go_wp2_with fail
          go_ret
          refine ⟨by simp, ?_⟩
          first | exact bThen (W := w3) (by assumption) (by omega) HB3 | (go_split_ands; exact bThen (W := w3) (by assumption) (by omega) HB3)
        · skip
          go_wp2_with fail
          have mk : ∀ W : World, Below w3.heap.size w3 W → Below w3.heap.size w3 W ∧ W.cell? ⟨w.heap.size, 0, none⟩ = some (.int .u8 18) ∧ W.cell? ⟨w.heap.size, 1, none⟩ = some (.int .i64 a) ∧ W.cell? ⟨w.heap.size, 2, none⟩ = some (.int .i64 b) ∧ W.cell? ⟨w.heap.size, 3, none⟩ = some (.int .i64 c) ∧ W.cell? ⟨w.heap.size, 4, none⟩ = some (.int .i64 i) ∧ W.cell? ⟨w.heap.size + 1, 0, none⟩ = some (.int .u8 n2) ∧ W.cell? ⟨w.heap.size + 1, 1, none⟩ = some (.int .i64 a2) ∧ W.cell? ⟨w.heap.size + 1, 2, none⟩ = some (.int .i64 b2) ∧ W.cell? ⟨w.heap.size + 1, 3, none⟩ = some (.int .i64 c2) ∧ W.cell? ⟨w.heap.size + 1, 4, none⟩ = some (.int .i64 i2) := fun W hb => ⟨hb, (hb.cell (p := ⟨w.heap.size, 0, none⟩) sz3_0).trans c3_0_0, (hb.cell (p := ⟨w.heap.size, 1, none⟩) sz3_0).trans c3_0_1, (hb.cell (p := ⟨w.heap.size, 2, none⟩) sz3_0).trans c3_0_2, (hb.cell (p := ⟨w.heap.size, 3, none⟩) sz3_0).trans c3_0_3, (hb.cell (p := ⟨w.heap.size, 4, none⟩) sz3_0).trans c3_0_4, (hb.cell (p := ⟨w.heap.size + 1, 0, none⟩) sz3_1).trans c3_1_0, (hb.cell (p := ⟨w.heap.size + 1, 1, none⟩) sz3_1).trans c3_1_1, (hb.cell (p := ⟨w.heap.size + 1, 2, none⟩) sz3_1).trans c3_1_2, (hb.cell (p := ⟨w.heap.size + 1, 3, none⟩) sz3_1).trans c3_1_3, (hb.cell (p := ⟨w.heap.size + 1, 4, none⟩) sz3_1).trans c3_1_4⟩
          have R0 := Lib.hid (show ∀ W : World, Below w3.heap.size w3 W → Calls Tryd.prog 14 #[.agg #[.int .u8 18, .int .i64 a, .int .i64 b, .int .i64 c, .int .i64 i]] W fun e w' => e = .returned (.int .i64 R) ∧ Below w3.heap.size w3 w' ∧ w'.cell? ⟨w.heap.size, 0, none⟩ = some (.int .u8 18) ∧ w'.cell? ⟨w.heap.size, 1, none⟩ = some (.int .i64 a) ∧ w'.cell? ⟨w.heap.size, 2, none⟩ = some (.int .i64 b) ∧ w'.cell? ⟨w.heap.size, 3, none⟩ = some (.int .i64 c) ∧ w'.cell? ⟨w.heap.size, 4, none⟩ = some (.int .i64 i) ∧ w'.cell? ⟨w.heap.size + 1, 0, none⟩ = some (.int .u8 n2) ∧ w'.cell? ⟨w.heap.size + 1, 1, none⟩ = some (.int .i64 a2) ∧ w'.cell? ⟨w.heap.size + 1, 2, none⟩ = some (.int .i64 b2) ∧ w'.cell? ⟨w.heap.size + 1, 3, none⟩ = some (.int .i64 c2) ∧ w'.cell? ⟨w.heap.size + 1, 4, none⟩ = some (.int .i64 i2) from fun W hb => (C3.out W (Tab.of_below hT3 hb)).mono fun e w' ⟨h1, h2⟩ => ⟨h1, mk w' (hb.trans (h2.mono hb.size))⟩)
          have R1 := Lib.hid (show ∀ W : World, Below w3.heap.size w3 W → Calls Tryd.prog 16 #[.int .i64 R, .agg #[.int .u8 n2, .int .i64 a2, .int .i64 b2, .int .i64 c2, .int .i64 i2]] W fun e w' => e = .returned (.bool true) ∧ Below w3.heap.size w3 w' ∧ w'.cell? ⟨w.heap.size, 0, none⟩ = some (.int .u8 18) ∧ w'.cell? ⟨w.heap.size, 1, none⟩ = some (.int .i64 a) ∧ w'.cell? ⟨w.heap.size, 2, none⟩ = some (.int .i64 b) ∧ w'.cell? ⟨w.heap.size, 3, none⟩ = some (.int .i64 c) ∧ w'.cell? ⟨w.heap.size, 4, none⟩ = some (.int .i64 i) ∧ w'.cell? ⟨w.heap.size + 1, 0, none⟩ = some (.int .u8 n2) ∧ w'.cell? ⟨w.heap.size + 1, 1, none⟩ = some (.int .i64 a2) ∧ w'.cell? ⟨w.heap.size + 1, 2, none⟩ = some (.int .i64 b2) ∧ w'.cell? ⟨w.heap.size + 1, 3, none⟩ = some (.int .i64 c2) ∧ w'.cell? ⟨w.heap.size + 1, 4, none⟩ = some (.int .i64 i2) from fun W hb => (C4.out W (Tab.of_below hT3 hb)).mono fun e w' ⟨h1, h2⟩ => ⟨h1, mk w' (hb.trans (h2.mono hb.size))⟩)
          have R2 := Lib.hid (show ∀ W : World, Below w3.heap.size w3 W → Calls Tryd.prog 16 #[.int .i64 0, .agg #[.int .u8 n2, .int .i64 a2, .int .i64 b2, .int .i64 c2, .int .i64 i2]] W fun e w' => e = .returned (.bool false) ∧ Below w3.heap.size w3 w' ∧ w'.cell? ⟨w.heap.size, 0, none⟩ = some (.int .u8 18) ∧ w'.cell? ⟨w.heap.size, 1, none⟩ = some (.int .i64 a) ∧ w'.cell? ⟨w.heap.size, 2, none⟩ = some (.int .i64 b) ∧ w'.cell? ⟨w.heap.size, 3, none⟩ = some (.int .i64 c) ∧ w'.cell? ⟨w.heap.size, 4, none⟩ = some (.int .i64 i) ∧ w'.cell? ⟨w.heap.size + 1, 0, none⟩ = some (.int .u8 n2) ∧ w'.cell? ⟨w.heap.size + 1, 1, none⟩ = some (.int .i64 a2) ∧ w'.cell? ⟨w.heap.size + 1, 2, none⟩ = some (.int .i64 b2) ∧ w'.cell? ⟨w.heap.size + 1, 3, none⟩ = some (.int .i64 c2) ∧ w'.cell? ⟨w.heap.size + 1, 4, none⟩ = some (.int .i64 i2) from fun W hb => (C5.out W (Tab.of_below hT3 hb)).mono fun e w' ⟨h1, h2⟩ => ⟨h1, mk w' (hb.trans (h2.mono hb.size))⟩)
          have hs0 := mk w3.drew (Below.refl _ _).drew
          clear mk
          first | go_region_held3 (fun w' => Below w3.heap.size w3 w' ∧ w'.cell? ⟨w.heap.size, 0, none⟩ = some (.int .u8 18) ∧ w'.cell? ⟨w.heap.size, 1, none⟩ = some (.int .i64 a) ∧ w'.cell? ⟨w.heap.size, 2, none⟩ = some (.int .i64 b) ∧ w'.cell? ⟨w.heap.size, 3, none⟩ = some (.int .i64 c) ∧ w'.cell? ⟨w.heap.size, 4, none⟩ = some (.int .i64 i) ∧ w'.cell? ⟨w.heap.size + 1, 0, none⟩ = some (.int .u8 n2) ∧ w'.cell? ⟨w.heap.size + 1, 1, none⟩ = some (.int .i64 a2) ∧ w'.cell? ⟨w.heap.size + 1, 2, none⟩ = some (.int .i64 b2) ∧ w'.cell? ⟨w.heap.size + 1, 3, none⟩ = some (.int .i64 c2) ∧ w'.cell? ⟨w.heap.size + 1, 4, none⟩ = some (.int .i64 i2)) (first | exact hs0 | assumption | (simp [*]; done)) (first | (go_at_call 14; (with_reducible refine (R0.out _ ?_).mono ?_); (simp [*]); rintro e w' ⟨rfl, hS⟩) | (go_at_call 16; first | ((with_reducible refine (R1.out _ ?_).mono ?_); (simp [*]); rintro e w' ⟨rfl, hS⟩) | ((with_reducible refine (R2.out _ ?_).mono ?_); (simp [*]); rintro e w' ⟨rfl, hS⟩))) | fail
          go_wp2_with fail
          go_ret
          refine ⟨by simp, ?_⟩
          first | exact bThen (W := w3) (by assumption) (by omega) HB3 | (go_split_ands; exact bThen (W := w3) (by assumption) (by omega) HB3)

set_option maxHeartbeats 3200000 in
theorem reads_20 (a b c i : Int) (n2 : Nat) (a2 b2 c2 i2 : Int) (w : World) (hT : Tab w) (hR : wrR 20 a b c i ≠ 0) :
    Calls Tryd.prog 7 #[.agg #[.int .u8 20, .int .i64 a, .int .i64 b, .int .i64 c, .int .i64 i], .agg #[.int .u8 n2, .int .i64 a2, .int .i64 b2, .int .i64 c2, .int .i64 i2]] w fun e w' => e = .returned (.bool true) ∧ Below w.heap.size w w' := by
  have C1 := Lib.hid (fun (w : World) (hT : Tab w) => writes_any 20 a b c i w hT)
  have C2 := Lib.hid (fun (w : World) (hT : Tab w) => reads_any n2 a2 b2 c2 i2 w hT)
  have C3 := Lib.hid (fun (w : World) (hT : Tab w) => next_any 20 a b c i w hT)
  have C4 := Lib.hid (fun (w : World) (hT : Tab w) => hazard_any (wrR 20 a b c i) n2 a2 b2 c2 i2 w hT)
  have C5 := Lib.hid (fun (w : World) (hT : Tab w) => hazard_any 0 n2 a2 b2 c2 i2 w hT)
  rw [hzd_out (s := 0) (by omega)] at C5
  rw [rdl_rrl] at C2
  have hxs := rrl_le n2 a2 b2 c2 i2
  rw [show nxt 20 a b c i = wrR 20 a b c i by simp [nxt]] at C3
  unfold hzd at C4
  generalize rrl n2 a2 b2 c2 i2 = xs at *
  generalize wrR 20 a b c i = R at *
  rw [show (R != 0) = true by simpa using hR] at C1
  have hz := hT.size
  go_enter Tryd.func7, Tryd.ntmps7
  go_wp2_with fail
  refine (awake8_any _ (Tab.of_below hT (by repeat (first | (with_reducible exact Below.refl _ _) | (with_reducible apply bDrewN) | (with_reducible apply Below.drew) | ((with_reducible apply bSet); (focus first | (simp; done) | (simp; omega) | omega)) | ((with_reducible apply bAlloc); (focus first | (simp; done) | (simp; omega) | omega)))))).mono ?_
  rintro e w1 ⟨rfl, hb1⟩
  have hT1 : Tab w1 := Tab.of_below (Tab.of_below hT (by repeat (first | (with_reducible exact Below.refl _ _) | (with_reducible apply bDrewN) | (with_reducible apply Below.drew) | ((with_reducible apply bSet); (focus first | (simp; done) | (simp; omega) | omega)) | ((with_reducible apply bAlloc); (focus first | (simp; done) | (simp; omega) | omega))))) hb1
  have sz1_0 : w.heap.size < w1.heap.size := by have h := hb1.size; first | (simp at h; omega) | omega
  have c1_0_0 : w1.cell? ⟨w.heap.size, 0, none⟩ = some (.int .u8 20) := by rw [hb1.cell (p := ⟨w.heap.size, 0, none⟩) (by first | (simp; done) | (simp; omega) | omega)]; first | assumption | (simp [go_sem]; done) | (simp [go_sem, *]; done)
  have c1_0_1 : w1.cell? ⟨w.heap.size, 1, none⟩ = some (.int .i64 a) := by rw [hb1.cell (p := ⟨w.heap.size, 1, none⟩) (by first | (simp; done) | (simp; omega) | omega)]; first | assumption | (simp [go_sem]; done) | (simp [go_sem, *]; done)
  have c1_0_2 : w1.cell? ⟨w.heap.size, 2, none⟩ = some (.int .i64 b) := by rw [hb1.cell (p := ⟨w.heap.size, 2, none⟩) (by first | (simp; done) | (simp; omega) | omega)]; first | assumption | (simp [go_sem]; done) | (simp [go_sem, *]; done)
  have c1_0_3 : w1.cell? ⟨w.heap.size, 3, none⟩ = some (.int .i64 c) := by rw [hb1.cell (p := ⟨w.heap.size, 3, none⟩) (by first | (simp; done) | (simp; omega) | omega)]; first | assumption | (simp [go_sem]; done) | (simp [go_sem, *]; done)
  have c1_0_4 : w1.cell? ⟨w.heap.size, 4, none⟩ = some (.int .i64 i) := by rw [hb1.cell (p := ⟨w.heap.size, 4, none⟩) (by first | (simp; done) | (simp; omega) | omega)]; first | assumption | (simp [go_sem]; done) | (simp [go_sem, *]; done)
  have sz1_1 : w.heap.size + 1 < w1.heap.size := by have h := hb1.size; first | (simp at h; omega) | omega
  have c1_1_0 : w1.cell? ⟨w.heap.size + 1, 0, none⟩ = some (.int .u8 n2) := by rw [hb1.cell (p := ⟨w.heap.size + 1, 0, none⟩) (by first | (simp; done) | (simp; omega) | omega)]; first | assumption | (simp [go_sem]; done) | (simp [go_sem, *]; done)
  have c1_1_1 : w1.cell? ⟨w.heap.size + 1, 1, none⟩ = some (.int .i64 a2) := by rw [hb1.cell (p := ⟨w.heap.size + 1, 1, none⟩) (by first | (simp; done) | (simp; omega) | omega)]; first | assumption | (simp [go_sem]; done) | (simp [go_sem, *]; done)
  have c1_1_2 : w1.cell? ⟨w.heap.size + 1, 2, none⟩ = some (.int .i64 b2) := by rw [hb1.cell (p := ⟨w.heap.size + 1, 2, none⟩) (by first | (simp; done) | (simp; omega) | omega)]; first | assumption | (simp [go_sem]; done) | (simp [go_sem, *]; done)
  have c1_1_3 : w1.cell? ⟨w.heap.size + 1, 3, none⟩ = some (.int .i64 c2) := by rw [hb1.cell (p := ⟨w.heap.size + 1, 3, none⟩) (by first | (simp; done) | (simp; omega) | omega)]; first | assumption | (simp [go_sem]; done) | (simp [go_sem, *]; done)
  have c1_1_4 : w1.cell? ⟨w.heap.size + 1, 4, none⟩ = some (.int .i64 i2) := by rw [hb1.cell (p := ⟨w.heap.size + 1, 4, none⟩) (by first | (simp; done) | (simp; omega) | omega)]; first | assumption | (simp [go_sem]; done) | (simp [go_sem, *]; done)
  have HB1 : Below w.heap.size w w1 := by
    repeat (first | (with_reducible exact Below.refl _ _) | (with_reducible apply bDrewN) | (with_reducible apply Below.drew) | ((with_reducible apply bThen hb1); (focus first | (simp; done) | (simp; omega) | omega)) | ((with_reducible apply bSet); (focus first | (simp; done) | (simp; omega) | omega)) | ((with_reducible apply bAlloc); (focus first | (simp; done) | (simp; omega) | omega)))
  have hsz1 := HB1.size
  clear hb1 
  go_wp2_with fail
  refine (C1.out _ (Tab.of_below hT1 (by repeat (first | (with_reducible exact Below.refl _ _) | (with_reducible apply bDrewN) | (with_reducible apply Below.drew) | ((with_reducible apply bSet); (focus first | (simp; done) | (simp; omega) | omega)) | ((with_reducible apply bAlloc); (focus first | (simp; done) | (simp; omega) | omega)))))).mono ?_
  rintro e w2 ⟨rfl, hb2⟩
  have hT2 : Tab w2 := Tab.of_below (Tab.of_below hT1 (by repeat (first | (with_reducible exact Below.refl _ _) | (with_reducible apply bDrewN) | (with_reducible apply Below.drew) | ((with_reducible apply bSet); (focus first | (simp; done) | (simp; omega) | omega)) | ((with_reducible apply bAlloc); (focus first | (simp; done) | (simp; omega) | omega))))) hb2
  have sz2_0 : w.heap.size < w2.heap.size := by have h := hb2.size; first | (simp at h; omega) | omega
  have c2_0_0 : w2.cell? ⟨w.heap.size, 0, none⟩ = some (.int .u8 20) := by rw [hb2.cell (p := ⟨w.heap.size, 0, none⟩) (by first | (simp; done) | (simp; omega) | omega)]; first | assumption | (simp [go_sem]; done) | (simp [go_sem, *]; done)
  have c2_0_1 : w2.cell? ⟨w.heap.size, 1, none⟩ = some (.int .i64 a) := by rw [hb2.cell (p := ⟨w.heap.size, 1, none⟩) (by first | (simp; done) | (simp; omega) | omega)]; first | assumption | (simp [go_sem]; done) | (simp [go_sem, *]; done)
  have c2_0_2 : w2.cell? ⟨w.heap.size, 2, none⟩ = some (.int .i64 b) := by rw [hb2.cell (p := ⟨w.heap.size, 2, none⟩) (by first | (simp; done) | (simp; omega) | omega)]; first | assumption | (simp [go_sem]; done) | (simp [go_sem, *]; done)
  have c2_0_3 : w2.cell? ⟨w.heap.size, 3, none⟩ = some (.int .i64 c) := by rw [hb2.cell (p := ⟨w.heap.size, 3, none⟩) (by first | (simp; done) | (simp; omega) | omega)]; first | assumption | (simp [go_sem]; done) | (simp [go_sem, *]; done)
  have c2_0_4 : w2.cell? ⟨w.heap.size, 4, none⟩ = some (.int .i64 i) := by rw [hb2.cell (p := ⟨w.heap.size, 4, none⟩) (by first | (simp; done) | (simp; omega) | omega)]; first | assumption | (simp [go_sem]; done) | (simp [go_sem, *]; done)
  have sz2_1 : w.heap.size + 1 < w2.heap.size := by have h := hb2.size; first | (simp at h; omega) | omega
  have c2_1_0 : w2.cell? ⟨w.heap.size + 1, 0, none⟩ = some (.int .u8 n2) := by rw [hb2.cell (p := ⟨w.heap.size + 1, 0, none⟩) (by first | (simp; done) | (simp; omega) | omega)]; first | assumption | (simp [go_sem]; done) | (simp [go_sem, *]; done)
  have c2_1_1 : w2.cell? ⟨w.heap.size + 1, 1, none⟩ = some (.int .i64 a2) := by rw [hb2.cell (p := ⟨w.heap.size + 1, 1, none⟩) (by first | (simp; done) | (simp; omega) | omega)]; first | assumption | (simp [go_sem]; done) | (simp [go_sem, *]; done)
  have c2_1_2 : w2.cell? ⟨w.heap.size + 1, 2, none⟩ = some (.int .i64 b2) := by rw [hb2.cell (p := ⟨w.heap.size + 1, 2, none⟩) (by first | (simp; done) | (simp; omega) | omega)]; first | assumption | (simp [go_sem]; done) | (simp [go_sem, *]; done)
  have c2_1_3 : w2.cell? ⟨w.heap.size + 1, 3, none⟩ = some (.int .i64 c2) := by rw [hb2.cell (p := ⟨w.heap.size + 1, 3, none⟩) (by first | (simp; done) | (simp; omega) | omega)]; first | assumption | (simp [go_sem]; done) | (simp [go_sem, *]; done)
  have c2_1_4 : w2.cell? ⟨w.heap.size + 1, 4, none⟩ = some (.int .i64 i2) := by rw [hb2.cell (p := ⟨w.heap.size + 1, 4, none⟩) (by first | (simp; done) | (simp; omega) | omega)]; first | assumption | (simp [go_sem]; done) | (simp [go_sem, *]; done)
  have HB2 : Below w.heap.size w w2 := by
    repeat (first | (with_reducible exact Below.refl _ _) | (with_reducible apply bDrewN) | (with_reducible apply Below.drew) | (with_reducible exact HB1) | ((with_reducible apply bThen hb2); (focus first | (simp; done) | (simp; omega) | omega)) | ((with_reducible apply bSet); (focus first | (simp; done) | (simp; omega) | omega)) | ((with_reducible apply bAlloc); (focus first | (simp; done) | (simp; omega) | omega)))
  have hsz2 := HB2.size
  clear hb2 sz1_0 c1_0_0 c1_0_1 c1_0_2 c1_0_3 c1_0_4 sz1_1 c1_1_0 c1_1_1 c1_1_2 c1_1_3 c1_1_4 hsz1
  go_wp2_with fail
  refine (C2.out _ (Tab.of_below hT2 (by repeat (first | (with_reducible exact Below.refl _ _) | (with_reducible apply bDrewN) | (with_reducible apply Below.drew) | ((with_reducible apply bSet); (focus first | (simp; done) | (simp; omega) | omega)) | ((with_reducible apply bAlloc); (focus first | (simp; done) | (simp; omega) | omega)))))).mono ?_
  rintro e w3 ⟨v1, rfl, sl1, hb3⟩
  have hT3 : Tab w3 := Tab.of_below (Tab.of_below hT2 (by repeat (first | (with_reducible exact Below.refl _ _) | (with_reducible apply bDrewN) | (with_reducible apply Below.drew) | ((with_reducible apply bSet); (focus first | (simp; done) | (simp; omega) | omega)) | ((with_reducible apply bAlloc); (focus first | (simp; done) | (simp; omega) | omega))))) hb3
  have sz3_0 : w.heap.size < w3.heap.size := by have h := hb3.size; first | (simp at h; omega) | omega
  have c3_0_0 : w3.cell? ⟨w.heap.size, 0, none⟩ = some (.int .u8 20) := by rw [hb3.cell (p := ⟨w.heap.size, 0, none⟩) (by first | (simp; done) | (simp; omega) | omega)]; first | assumption | (simp [go_sem]; done) | (simp [go_sem, *]; done)
  have c3_0_1 : w3.cell? ⟨w.heap.size, 1, none⟩ = some (.int .i64 a) := by rw [hb3.cell (p := ⟨w.heap.size, 1, none⟩) (by first | (simp; done) | (simp; omega) | omega)]; first | assumption | (simp [go_sem]; done) | (simp [go_sem, *]; done)
  have c3_0_2 : w3.cell? ⟨w.heap.size, 2, none⟩ = some (.int .i64 b) := by rw [hb3.cell (p := ⟨w.heap.size, 2, none⟩) (by first | (simp; done) | (simp; omega) | omega)]; first | assumption | (simp [go_sem]; done) | (simp [go_sem, *]; done)
  have c3_0_3 : w3.cell? ⟨w.heap.size, 3, none⟩ = some (.int .i64 c) := by rw [hb3.cell (p := ⟨w.heap.size, 3, none⟩) (by first | (simp; done) | (simp; omega) | omega)]; first | assumption | (simp [go_sem]; done) | (simp [go_sem, *]; done)
  have c3_0_4 : w3.cell? ⟨w.heap.size, 4, none⟩ = some (.int .i64 i) := by rw [hb3.cell (p := ⟨w.heap.size, 4, none⟩) (by first | (simp; done) | (simp; omega) | omega)]; first | assumption | (simp [go_sem]; done) | (simp [go_sem, *]; done)
  have sz3_1 : w.heap.size + 1 < w3.heap.size := by have h := hb3.size; first | (simp at h; omega) | omega
  have c3_1_0 : w3.cell? ⟨w.heap.size + 1, 0, none⟩ = some (.int .u8 n2) := by rw [hb3.cell (p := ⟨w.heap.size + 1, 0, none⟩) (by first | (simp; done) | (simp; omega) | omega)]; first | assumption | (simp [go_sem]; done) | (simp [go_sem, *]; done)
  have c3_1_1 : w3.cell? ⟨w.heap.size + 1, 1, none⟩ = some (.int .i64 a2) := by rw [hb3.cell (p := ⟨w.heap.size + 1, 1, none⟩) (by first | (simp; done) | (simp; omega) | omega)]; first | assumption | (simp [go_sem]; done) | (simp [go_sem, *]; done)
  have c3_1_2 : w3.cell? ⟨w.heap.size + 1, 2, none⟩ = some (.int .i64 b2) := by rw [hb3.cell (p := ⟨w.heap.size + 1, 2, none⟩) (by first | (simp; done) | (simp; omega) | omega)]; first | assumption | (simp [go_sem]; done) | (simp [go_sem, *]; done)
  have c3_1_3 : w3.cell? ⟨w.heap.size + 1, 3, none⟩ = some (.int .i64 c2) := by rw [hb3.cell (p := ⟨w.heap.size + 1, 3, none⟩) (by first | (simp; done) | (simp; omega) | omega)]; first | assumption | (simp [go_sem]; done) | (simp [go_sem, *]; done)
  have c3_1_4 : w3.cell? ⟨w.heap.size + 1, 4, none⟩ = some (.int .i64 i2) := by rw [hb3.cell (p := ⟨w.heap.size + 1, 4, none⟩) (by first | (simp; done) | (simp; omega) | omega)]; first | assumption | (simp [go_sem]; done) | (simp [go_sem, *]; done)
  have HB3 : Below w.heap.size w w3 := by
    repeat (first | (with_reducible exact Below.refl _ _) | (with_reducible apply bDrewN) | (with_reducible apply Below.drew) | (with_reducible exact HB2) | ((with_reducible apply bThen hb3); (focus first | (simp; done) | (simp; omega) | omega)) | ((with_reducible apply bSet); (focus first | (simp; done) | (simp; omega) | omega)) | ((with_reducible apply bAlloc); (focus first | (simp; done) | (simp; omega) | omega)))
  have hsz3 := HB3.size
  clear hb3 sz2_0 c2_0_0 c2_0_1 c2_0_2 c2_0_3 c2_0_4 sz2_1 c2_1_0 c2_1_1 c2_1_2 c2_1_3 c2_1_4 hsz2
  by_cases hx : xs = []
  · skip
    subst hx
    obtain ⟨a1, cap1, rfl⟩ := sl1.nil
    rw [show ([] : List Int).contains R = false from rfl] at C4
    go_wp2_with fail
    refine wp_loop_rounds 1 ?_
    rw [rounds_succ]
    go_wp2_with fail
    have mk : ∀ W : World, Below w3.heap.size w3 W → Below w3.heap.size w3 W ∧ W.cell? ⟨w.heap.size, 0, none⟩ = some (.int .u8 20) ∧ W.cell? ⟨w.heap.size, 1, none⟩ = some (.int .i64 a) ∧ W.cell? ⟨w.heap.size, 2, none⟩ = some (.int .i64 b) ∧ W.cell? ⟨w.heap.size, 3, none⟩ = some (.int .i64 c) ∧ W.cell? ⟨w.heap.size, 4, none⟩ = some (.int .i64 i) ∧ W.cell? ⟨w.heap.size + 1, 0, none⟩ = some (.int .u8 n2) ∧ W.cell? ⟨w.heap.size + 1, 1, none⟩ = some (.int .i64 a2) ∧ W.cell? ⟨w.heap.size + 1, 2, none⟩ = some (.int .i64 b2) ∧ W.cell? ⟨w.heap.size + 1, 3, none⟩ = some (.int .i64 c2) ∧ W.cell? ⟨w.heap.size + 1, 4, none⟩ = some (.int .i64 i2) := fun W hb => ⟨hb, (hb.cell (p := ⟨w.heap.size, 0, none⟩) sz3_0).trans c3_0_0, (hb.cell (p := ⟨w.heap.size, 1, none⟩) sz3_0).trans c3_0_1, (hb.cell (p := ⟨w.heap.size, 2, none⟩) sz3_0).trans c3_0_2, (hb.cell (p := ⟨w.heap.size, 3, none⟩) sz3_0).trans c3_0_3, (hb.cell (p := ⟨w.heap.size, 4, none⟩) sz3_0).trans c3_0_4, (hb.cell (p := ⟨w.heap.size + 1, 0, none⟩) sz3_1).trans c3_1_0, (hb.cell (p := ⟨w.heap.size + 1, 1, none⟩) sz3_1).trans c3_1_1, (hb.cell (p := ⟨w.heap.size + 1, 2, none⟩) sz3_1).trans c3_1_2, (hb.cell (p := ⟨w.heap.size + 1, 3, none⟩) sz3_1).trans c3_1_3, (hb.cell (p := ⟨w.heap.size + 1, 4, none⟩) sz3_1).trans c3_1_4⟩
    have R0 := Lib.hid (show ∀ W : World, Below w3.heap.size w3 W → Calls Tryd.prog 14 #[.agg #[.int .u8 20, .int .i64 a, .int .i64 b, .int .i64 c, .int .i64 i]] W fun e w' => e = .returned (.int .i64 R) ∧ Below w3.heap.size w3 w' ∧ w'.cell? ⟨w.heap.size, 0, none⟩ = some (.int .u8 20) ∧ w'.cell? ⟨w.heap.size, 1, none⟩ = some (.int .i64 a) ∧ w'.cell? ⟨w.heap.size, 2, none⟩ = some (.int .i64 b) ∧ w'.cell? ⟨w.heap.size, 3, none⟩ = some (.int .i64 c) ∧ w'.cell? ⟨w.heap.size, 4, none⟩ = some (.int .i64 i) ∧ w'.cell? ⟨w.heap.size + 1, 0, none⟩ = some (.int .u8 n2) ∧ w'.cell? ⟨w.heap.size + 1, 1, none⟩ = some (.int .i64 a2) ∧ w'.cell? ⟨w.heap.size + 1, 2, none⟩ = some (.int .i64 b2) ∧ w'.cell? ⟨w.heap.size + 1, 3, none⟩ = some (.int .i64 c2) ∧ w'.cell? ⟨w.heap.size + 1, 4, none⟩ = some (.int .i64 i2) from fun W hb => (C3.out W (Tab.of_below hT3 hb)).mono fun e w' ⟨h1, h2⟩ => ⟨h1, mk w' (hb.trans (h2.mono hb.size))⟩)
    have R1 := Lib.hid (show ∀ W : World, Below w3.heap.size w3 W → Calls Tryd.prog 16 #[.int .i64 R, .agg #[.int .u8 n2, .int .i64 a2, .int .i64 b2, .int .i64 c2, .int .i64 i2]] W fun e w' => e = .returned (.bool false) ∧ Below w3.heap.size w3 w' ∧ w'.cell? ⟨w.heap.size, 0, none⟩ = some (.int .u8 20) ∧ w'.cell? ⟨w.heap.size, 1, none⟩ = some (.int .i64 a) ∧ w'.cell? ⟨w.heap.size, 2, none⟩ = some (.int .i64 b) ∧ w'.cell? ⟨w.heap.size, 3, none⟩ = some (.int .i64 c) ∧ w'.cell? ⟨w.heap.size, 4, none⟩ = some (.int .i64 i) ∧ w'.cell? ⟨w.heap.size + 1, 0, none⟩ = some (.int .u8 n2) ∧ w'.cell? ⟨w.heap.size + 1, 1, none⟩ = some (.int .i64 a2) ∧ w'.cell? ⟨w.heap.size + 1, 2, none⟩ = some (.int .i64 b2) ∧ w'.cell? ⟨w.heap.size + 1, 3, none⟩ = some (.int .i64 c2) ∧ w'.cell? ⟨w.heap.size + 1, 4, none⟩ = some (.int .i64 i2) from fun W hb => (C4.out W (Tab.of_below hT3 hb)).mono fun e w' ⟨h1, h2⟩ => ⟨h1, mk w' (hb.trans (h2.mono hb.size))⟩)
    have R2 := Lib.hid (show ∀ W : World, Below w3.heap.size w3 W → Calls Tryd.prog 16 #[.int .i64 0, .agg #[.int .u8 n2, .int .i64 a2, .int .i64 b2, .int .i64 c2, .int .i64 i2]] W fun e w' => e = .returned (.bool false) ∧ Below w3.heap.size w3 w' ∧ w'.cell? ⟨w.heap.size, 0, none⟩ = some (.int .u8 20) ∧ w'.cell? ⟨w.heap.size, 1, none⟩ = some (.int .i64 a) ∧ w'.cell? ⟨w.heap.size, 2, none⟩ = some (.int .i64 b) ∧ w'.cell? ⟨w.heap.size, 3, none⟩ = some (.int .i64 c) ∧ w'.cell? ⟨w.heap.size, 4, none⟩ = some (.int .i64 i) ∧ w'.cell? ⟨w.heap.size + 1, 0, none⟩ = some (.int .u8 n2) ∧ w'.cell? ⟨w.heap.size + 1, 1, none⟩ = some (.int .i64 a2) ∧ w'.cell? ⟨w.heap.size + 1, 2, none⟩ = some (.int .i64 b2) ∧ w'.cell? ⟨w.heap.size + 1, 3, none⟩ = some (.int .i64 c2) ∧ w'.cell? ⟨w.heap.size + 1, 4, none⟩ = some (.int .i64 i2) from fun W hb => (C5.out W (Tab.of_below hT3 hb)).mono fun e w' ⟨h1, h2⟩ => ⟨h1, mk w' (hb.trans (h2.mono hb.size))⟩)
    have hs0 := mk w3.drew (Below.refl _ _).drew
    clear mk
    first | go_region_held3 (fun w' => Below w3.heap.size w3 w' ∧ w'.cell? ⟨w.heap.size, 0, none⟩ = some (.int .u8 20) ∧ w'.cell? ⟨w.heap.size, 1, none⟩ = some (.int .i64 a) ∧ w'.cell? ⟨w.heap.size, 2, none⟩ = some (.int .i64 b) ∧ w'.cell? ⟨w.heap.size, 3, none⟩ = some (.int .i64 c) ∧ w'.cell? ⟨w.heap.size, 4, none⟩ = some (.int .i64 i) ∧ w'.cell? ⟨w.heap.size + 1, 0, none⟩ = some (.int .u8 n2) ∧ w'.cell? ⟨w.heap.size + 1, 1, none⟩ = some (.int .i64 a2) ∧ w'.cell? ⟨w.heap.size + 1, 2, none⟩ = some (.int .i64 b2) ∧ w'.cell? ⟨w.heap.size + 1, 3, none⟩ = some (.int .i64 c2) ∧ w'.cell? ⟨w.heap.size + 1, 4, none⟩ = some (.int .i64 i2)) (first | exact hs0 | assumption | (simp [*]; done)) (first | (go_at_call 14; (with_reducible refine (R0.out _ ?_).mono ?_); (simp [*]); rintro e w' ⟨rfl, hS⟩) | (go_at_call 16; first | ((with_reducible refine (R1.out _ ?_).mono ?_); (simp [*]); rintro e w' ⟨rfl, hS⟩) | ((with_reducible refine (R2.out _ ?_).mono ?_); (simp [*]); rintro e w' ⟨rfl, hS⟩))) | fail
    go_wp2_with fail
    go_ret
    refine ⟨by simp, ?_⟩
    first | exact bThen (W := w3) (by assumption) (by omega) HB3 | (go_split_ands; exact bThen (W := w3) (by assumption) (by omega) HB3)
  · skip
    obtain ⟨g1, cap1, rfl, hg1, hg1', hc1⟩ := sl1.some hx
    have HC := Lib.hid hc1
    clear hc1 sl1
    have hpos : 0 < xs.length := List.length_pos_iff.2 hx
    go_wp2_with fail
    go_loopw [8, 10, 37, 40] (fun rv x1 r x2 wr => ∃ (k : Nat) (u : Bool), k ≤ xs.length ∧ rv = .bool u ∧ r = .int .i64 k ∧ Hid (u = (xs.take k).contains R) ∧ w3 = wr) (fun _ _ r _ _ => xs.length - (intOf r).toNat)
    case atStart => exact ⟨0, false, by omega, rfl, rfl, rfl, rfl⟩
    case round =>
      obtain ⟨k, u, hk, rfl, rfl, hu, rfl⟩ := hrel
      by_cases hlt : k < xs.length
      · have d1 := HC.out k hlt
        have hkI : (k : Int) < xs.length := by omega
        generalize hz : xs.getD k 0 = z at d1
        have HZ := Lib.hid hz
        clear hz
        cases u
        · by_cases hzs : z = R
          · subst hzs
            go_wp2_with fail
            go_roundw
            case rel => exact ⟨k + 1, true, by omega, by simp, by go_num, show true = _ by rw [contains_take hlt HZ.out]; simp, by first | rfl | trivial⟩
            case measure => simp [intOf]; omega
          · have hb : (z == R) = false := by simpa using hzs
            go_wp2_with fail
            go_roundw
            case rel => exact ⟨k + 1, false, by omega, by simp, by go_num, show false = _ by rw [contains_take hlt HZ.out, ← Hid.out hu, hb]; rfl, by first | rfl | trivial⟩
            case measure => simp [intOf]; omega
        · go_wp2_with fail
          go_roundw
          case rel => exact ⟨k + 1, true, by omega, by simp, by go_num, show true = _ by rw [contains_take hlt HZ.out, ← Hid.out hu]; rfl, by first | rfl | trivial⟩
          case measure => simp [intOf]; omega
      · have hkI : ¬ (k : Int) < xs.length := by omega
        have e1 := Hid.out hu
        rw [List.take_of_length_le (by omega)] at e1
        clear hu
        rw [← e1] at C4
        clear e1
        cases u
        · skip
          go_wp2_with fail
          have mk : ∀ W : World, Below w3.heap.size w3 W → Below w3.heap.size w3 W ∧ W.cell? ⟨w.heap.size, 0, none⟩ = some (.int .u8 20) ∧ W.cell? ⟨w.heap.size, 1, none⟩ = some (.int .i64 a) ∧ W.cell? ⟨w.heap.size, 2, none⟩ = some (.int .i64 b) ∧ W.cell? ⟨w.heap.size, 3, none⟩ = some (.int .i64 c) ∧ W.cell? ⟨w.heap.size, 4, none⟩ = some (.int .i64 i) ∧ W.cell? ⟨w.heap.size + 1, 0, none⟩ = some (.int .u8 n2) ∧ W.cell? ⟨w.heap.size + 1, 1, none⟩ = some (.int .i64 a2) ∧ W.cell? ⟨w.heap.size + 1, 2, none⟩ = some (.int .i64 b2) ∧ W.cell? ⟨w.heap.size + 1, 3, none⟩ = some (.int .i64 c2) ∧ W.cell? ⟨w.heap.size + 1, 4, none⟩ = some (.int .i64 i2) := fun W hb => ⟨hb, (hb.cell (p := ⟨w.heap.size, 0, none⟩) sz3_0).trans c3_0_0, (hb.cell (p := ⟨w.heap.size, 1, none⟩) sz3_0).trans c3_0_1, (hb.cell (p := ⟨w.heap.size, 2, none⟩) sz3_0).trans c3_0_2, (hb.cell (p := ⟨w.heap.size, 3, none⟩) sz3_0).trans c3_0_3, (hb.cell (p := ⟨w.heap.size, 4, none⟩) sz3_0).trans c3_0_4, (hb.cell (p := ⟨w.heap.size + 1, 0, none⟩) sz3_1).trans c3_1_0, (hb.cell (p := ⟨w.heap.size + 1, 1, none⟩) sz3_1).trans c3_1_1, (hb.cell (p := ⟨w.heap.size + 1, 2, none⟩) sz3_1).trans c3_1_2, (hb.cell (p := ⟨w.heap.size + 1, 3, none⟩) sz3_1).trans c3_1_3, (hb.cell (p := ⟨w.heap.size + 1, 4, none⟩) sz3_1).trans c3_1_4⟩
          have R0 := Lib.hid (show ∀ W : World, Below w3.heap.size w3 W → Calls Tryd.prog 14 #[.agg #[.int .u8 20, .int .i64 a, .int .i64 b, .int .i64 c, .int .i64 i]] W fun e w' => e = .returned (.int .i64 R) ∧ Below w3.heap.size w3 w' ∧ w'.cell? ⟨w.heap.size, 0, none⟩ = some (.int .u8 20) ∧ w'.cell? ⟨w.heap.size, 1, none⟩ = some (.int .i64 a) ∧ w'.cell? ⟨w.heap.size, 2, none⟩ = some (.int .i64 b) ∧ w'.cell? ⟨w.heap.size, 3, none⟩ = some (.int .i64 c) ∧ w'.cell? ⟨w.heap.size, 4, none⟩ = some (.int .i64 i) ∧ w'.cell? ⟨w.heap.size + 1, 0, none⟩ = some (.int .u8 n2) ∧ w'.cell? ⟨w.heap.size + 1, 1, none⟩ = some (.int .i64 a2) ∧ w'.cell? ⟨w.heap.size + 1, 2, none⟩ = some (.int .i64 b2) ∧ w'.cell? ⟨w.heap.size + 1, 3, none⟩ = some (.int .i64 c2) ∧ w'.cell? ⟨w.heap.size + 1, 4, none⟩ = some (.int .i64 i2) from fun W hb => (C3.out W (Tab.of_below hT3 hb)).mono fun e w' ⟨h1, h2⟩ => ⟨h1, mk w' (hb.trans (h2.mono hb.size))⟩)
          have R1 := Lib.hid (show ∀ W : World, Below w3.heap.size w3 W → Calls Tryd.prog 16 #[.int .i64 R, .agg #[.int .u8 n2, .int .i64 a2, .int .i64 b2, .int .i64 c2, .int .i64 i2]] W fun e w' => e = .returned (.bool false) ∧ Below w3.heap.size w3 w' ∧ w'.cell? ⟨w.heap.size, 0, none⟩ = some (.int .u8 20) ∧ w'.cell? ⟨w.heap.size, 1, none⟩ = some (.int .i64 a) ∧ w'.cell? ⟨w.heap.size, 2, none⟩ = some (.int .i64 b) ∧ w'.cell? ⟨w.heap.size, 3, none⟩ = some (.int .i64 c) ∧ w'.cell? ⟨w.heap.size, 4, none⟩ = some (.int .i64 i) ∧ w'.cell? ⟨w.heap.size + 1, 0, none⟩ = some (.int .u8 n2) ∧ w'.cell? ⟨w.heap.size + 1, 1, none⟩ = some (.int .i64 a2) ∧ w'.cell? ⟨w.heap.size + 1, 2, none⟩ = some (.int .i64 b2) ∧ w'.cell? ⟨w.heap.size + 1, 3, none⟩ = some (.int .i64 c2) ∧ w'.cell? ⟨w.heap.size + 1, 4, none⟩ = some (.int .i64 i2) from fun W hb => (C4.out W (Tab.of_below hT3 hb)).mono fun e w' ⟨h1, h2⟩ => ⟨h1, mk w' (hb.trans (h2.mono hb.size))⟩)
          have R2 := Lib.hid (show ∀ W : World, Below w3.heap.size w3 W → Calls Tryd.prog 16 #[.int .i64 0, .agg #[.int .u8 n2, .int .i64 a2, .int .i64 b2, .int .i64 c2, .int .i64 i2]] W fun e w' => e = .returned (.bool false) ∧ Below w3.heap.size w3 w' ∧ w'.cell? ⟨w.heap.size, 0, none⟩ = some (.int .u8 20) ∧ w'.cell? ⟨w.heap.size, 1, none⟩ = some (.int .i64 a) ∧ w'.cell? ⟨w.heap.size, 2, none⟩ = some (.int .i64 b) ∧ w'.cell? ⟨w.heap.size, 3, none⟩ = some (.int .i64 c) ∧ w'.cell? ⟨w.heap.size, 4, none⟩ = some (.int .i64 i) ∧ w'.cell? ⟨w.heap.size + 1, 0, none⟩ = some (.int .u8 n2) ∧ w'.cell? ⟨w.heap.size + 1, 1, none⟩ = some (.int .i64 a2) ∧ w'.cell? ⟨w.heap.size + 1, 2, none⟩ = some (.int .i64 b2) ∧ w'.cell? ⟨w.heap.size + 1, 3, none⟩ = some (.int .i64 c2) ∧ w'.cell? ⟨w.heap.size + 1, 4, none⟩ = some (.int .i64 i2) from fun W hb => (C5.out W (Tab.of_below hT3 hb)).mono fun e w' ⟨h1, h2⟩ => ⟨h1, mk w' (hb.trans (h2.mono hb.size))⟩)
          have hs0 := mk w3.drew (Below.refl _ _).drew
          clear mk
          first | go_region_held3 (fun w' => Below w3.heap.size w3 w' ∧ w'.cell? ⟨w.heap.size, 0, none⟩ = some (.int .u8 20) ∧ w'.cell? ⟨w.heap.size, 1, none⟩ = some (.int .i64 a) ∧ w'.cell? ⟨w.heap.size, 2, none⟩ = some (.int .i64 b) ∧ w'.cell? ⟨w.heap.size, 3, none⟩ = some (.int .i64 c) ∧ w'.cell? ⟨w.heap.size, 4, none⟩ = some (.int .i64 i) ∧ w'.cell? ⟨w.heap.size + 1, 0, none⟩ = some (.int .u8 n2) ∧ w'.cell? ⟨w.heap.size + 1, 1, none⟩ = some (.int .i64 a2) ∧ w'.cell? ⟨w.heap.size + 1, 2, none⟩ = some (.int .i64 b2) ∧ w'.cell? ⟨w.heap.size + 1, 3, none⟩ = some (.int .i64 c2) ∧ w'.cell? ⟨w.heap.size + 1, 4, none⟩ = some (.int .i64 i2)) (first | exact hs0 | assumption | (simp [*]; done)) (first | (go_at_call 14; (with_reducible refine (R0.out _ ?_).mono ?_); (simp [*]); rintro e w' ⟨rfl, hS⟩) | (go_at_call 16; first | ((with_reducible refine (R1.out _ ?_).mono ?_); (simp [*]); rintro e w' ⟨rfl, hS⟩) | ((with_reducible refine (R2.out _ ?_).mono ?_); (simp [*]); rintro e w' ⟨rfl, hS⟩))) | fail
          go_wp2_with fail
          go_ret
          refine ⟨by simp, ?_⟩
          first | exact bThen (W := w3) (by assumption) (by omega) HB3 | (go_split_ands; exact bThen (W := w3) (by assumption) (by omega) HB3)
        · skip
          go_wp2_with fail
          have mk : ∀ W : World, Below w3.heap.size w3 W → Below w3.heap.size w3 W ∧ W.cell? ⟨w.heap.size, 0, none⟩ = some (.int .u8 20) ∧ W.cell? ⟨w.heap.size, 1, none⟩ = some (.int .i64 a) ∧ W.cell? ⟨w.heap.size, 2, none⟩ = some (.int .i64 b) ∧ W.cell? ⟨w.heap.size, 3, none⟩ = some (.int .i64 c) ∧ W.cell? ⟨w.heap.size, 4, none⟩ = some (.int .i64 i) ∧ W.cell? ⟨w.heap.size + 1, 0, none⟩ = some (.int .u8 n2) ∧ W.cell? ⟨w.heap.size + 1, 1, none⟩ = some (.int .i64 a2) ∧ W.cell? ⟨w.heap.size + 1, 2, none⟩ = some (.int .i64 b2) ∧ W.cell? ⟨w.heap.size + 1, 3, none⟩ = some (.int .i64 c2) ∧ W.cell? ⟨w.heap.size + 1, 4, none⟩ = some (.int .i64 i2) := fun W hb => ⟨hb, (hb.cell (p := ⟨w.heap.size, 0, none⟩) sz3_0).trans c3_0_0, (hb.cell (p := ⟨w.heap.size, 1, none⟩) sz3_0).trans c3_0_1, (hb.cell (p := ⟨w.heap.size, 2, none⟩) sz3_0).trans c3_0_2, (hb.cell (p := ⟨w.heap.size, 3, none⟩) sz3_0).trans c3_0_3, (hb.cell (p := ⟨w.heap.size, 4, none⟩) sz3_0).trans c3_0_4, (hb.cell (p := ⟨w.heap.size + 1, 0, none⟩) sz3_1).trans c3_1_0, (hb.cell (p := ⟨w.heap.size + 1, 1, none⟩) sz3_1).trans c3_1_1, (hb.cell (p := ⟨w.heap.size + 1, 2, none⟩) sz3_1).trans c3_1_2, (hb.cell (p := ⟨w.heap.size + 1, 3, none⟩) sz3_1).trans c3_1_3, (hb.cell (p := ⟨w.heap.size + 1, 4, none⟩) sz3_1).trans c3_1_4⟩
          have R0 := Lib.hid (show ∀ W : World, Below w3.heap.size w3 W → Calls Tryd.prog 14 #[.agg #[.int .u8 20, .int .i64 a, .int .i64 b, .int .i64 c, .int .i64 i]] W fun e w' => e = .returned (.int .i64 R) ∧ Below w3.heap.size w3 w' ∧ w'.cell? ⟨w.heap.size, 0, none⟩ = some (.int .u8 20) ∧ w'.cell? ⟨w.heap.size, 1, none⟩ = some (.int .i64 a) ∧ w'.cell? ⟨w.heap.size, 2, none⟩ = some (.int .i64 b) ∧ w'.cell? ⟨w.heap.size, 3, none⟩ = some (.int .i64 c) ∧ w'.cell? ⟨w.heap.size, 4, none⟩ = some (.int .i64 i) ∧ w'.cell? ⟨w.heap.size + 1, 0, none⟩ = some (.int .u8 n2) ∧ w'.cell? ⟨w.heap.size + 1, 1, none⟩ = some (.int .i64 a2) ∧ w'.cell? ⟨w.heap.size + 1, 2, none⟩ = some (.int .i64 b2) ∧ w'.cell? ⟨w.heap.size + 1, 3, none⟩ = some (.int .i64 c2) ∧ w'.cell? ⟨w.heap.size + 1, 4, none⟩ = some (.int .i64 i2) from fun W hb => (C3.out W (Tab.of_below hT3 hb)).mono fun e w' ⟨h1, h2⟩ => ⟨h1, mk w' (hb.trans (h2.mono hb.size))⟩)
          have R1 := Lib.hid (show ∀ W : World, Below w3.heap.size w3 W → Calls Tryd.prog 16 #[.int .i64 R, .agg #[.int .u8 n2, .int .i64 a2, .int .i64 b2, .int .i64 c2, .int .i64 i2]] W fun e w' => e = .returned (.bool true) ∧ Below w3.heap.size w3 w' ∧ w'.cell? ⟨w.heap.size, 0, none⟩ = some (.int .u8 20) ∧ w'.cell? ⟨w.heap.size, 1, none⟩ = some (.int .i64 a) ∧ w'.cell? ⟨w.heap.size, 2, none⟩ = some (.int .i64 b) ∧ w'.cell? ⟨w.heap.size, 3, none⟩ = some (.int .i64 c) ∧ w'.cell? ⟨w.heap.size, 4, none⟩ = some (.int .i64 i) ∧ w'.cell? ⟨w.heap.size + 1, 0, none⟩ = some (.int .u8 n2) ∧ w'.cell? ⟨w.heap.size + 1, 1, none⟩ = some (.int .i64 a2) ∧ w'.cell? ⟨w.heap.size + 1, 2, none⟩ = some (.int .i64 b2) ∧ w'.cell? ⟨w.heap.size + 1, 3, none⟩ = some (.int .i64 c2) ∧ w'.cell? ⟨w.heap.size + 1, 4, none⟩ = some (.int .i64 i2) from fun W hb => (C4.out W (Tab.of_below hT3 hb)).mono fun e w' ⟨h1, h2⟩ => ⟨h1, mk w' (hb.trans (h2.mono hb.size))⟩)
          have R2 := Lib.hid (show ∀ W : World, Below w3.heap.size w3 W → Calls Tryd.prog 16 #[.int .i64 0, .agg #[.int .u8 n2, .int .i64 a2, .int .i64 b2, .int .i64 c2, .int .i64 i2]] W fun e w' => e = .returned (.bool false) ∧ Below w3.heap.size w3 w' ∧ w'.cell? ⟨w.heap.size, 0, none⟩ = some (.int .u8 20) ∧ w'.cell? ⟨w.heap.size, 1, none⟩ = some (.int .i64 a) ∧ w'.cell? ⟨w.heap.size, 2, none⟩ = some (.int .i64 b) ∧ w'.cell? ⟨w.heap.size, 3, none⟩ = some (.int .i64 c) ∧ w'.cell? ⟨w.heap.size, 4, none⟩ = some (.int .i64 i) ∧ w'.cell? ⟨w.heap.size + 1, 0, none⟩ = some (.int .u8 n2) ∧ w'.cell? ⟨w.heap.size + 1, 1, none⟩ = some (.int .i64 a2) ∧ w'.cell? ⟨w.heap.size + 1, 2, none⟩ = some (.int .i64 b2) ∧ w'.cell? ⟨w.heap.size + 1, 3, none⟩ = some (.int .i64 c2) ∧ w'.cell? ⟨w.heap.size + 1, 4, none⟩ = some (.int .i64 i2) from fun W hb => (C5.out W (Tab.of_below hT3 hb)).mono fun e w' ⟨h1, h2⟩ => ⟨h1, mk w' (hb.trans (h2.mono hb.size))⟩)
          have hs0 := mk w3.drew (Below.refl _ _).drew
          clear mk
          first | go_region_held3 (fun w' => Below w3.heap.size w3 w' ∧ w'.cell? ⟨w.heap.size, 0, none⟩ = some (.int .u8 20) ∧ w'.cell? ⟨w.heap.size, 1, none⟩ = some (.int .i64 a) ∧ w'.cell? ⟨w.heap.size, 2, none⟩ = some (.int .i64 b) ∧ w'.cell? ⟨w.heap.size, 3, none⟩ = some (.int .i64 c) ∧ w'.cell? ⟨w.heap.size, 4, none⟩ = some (.int .i64 i) ∧ w'.cell? ⟨w.heap.size + 1, 0, none⟩ = some (.int .u8 n2) ∧ w'.cell? ⟨w.heap.size + 1, 1, none⟩ = some (.int .i64 a2) ∧ w'.cell? ⟨w.heap.size + 1, 2, none⟩ = some (.int .i64 b2) ∧ w'.cell? ⟨w.heap.size + 1, 3, none⟩ = some (.int .i64 c2) ∧ w'.cell? ⟨w.heap.size + 1, 4, none⟩ = some (.int .i64 i2)) (first | exact hs0 | assumption | (simp [*]; done)) (first | (go_at_call 14; (with_reducible refine (R0.out _ ?_).mono ?_); (simp [*]); rintro e w' ⟨rfl, hS⟩) | (go_at_call 16; first | ((with_reducible refine (R1.out _ ?_).mono ?_); (simp [*]); rintro e w' ⟨rfl, hS⟩) | ((with_reducible refine (R2.out _ ?_).mono ?_); (simp [*]); rintro e w' ⟨rfl, hS⟩))) | fail
          go_wp2_with fail
          go_ret
          refine ⟨by simp, ?_⟩
          first | exact bThen (W := w3) (by assumption) (by omega) HB3 | (go_split_ands; exact bThen (W := w3) (by assumption) (by omega) HB3)

set_option maxHeartbeats 3200000 in
theorem reads_26 (a b c i : Int) (n2 : Nat) (a2 b2 c2 i2 : Int) (w : World) (hT : Tab w) (hR : wrR 26 a b c i ≠ 0) :
    Calls Tryd.prog 7 #[.agg #[.int .u8 26, .int .i64 a, .int .i64 b, .int .i64 c, .int .i64 i], .agg #[.int .u8 n2, .int .i64 a2, .int .i64 b2, .int .i64 c2, .int .i64 i2]] w fun e w' => e = .returned (.bool true) ∧ Below w.heap.size w w' := by
  have C1 := Lib.hid (fun (w : World) (hT : Tab w) => writes_any 26 a b c i w hT)
  have C2 := Lib.hid (fun (w : World) (hT : Tab w) => reads_any n2 a2 b2 c2 i2 w hT)
  have C3 := Lib.hid (fun (w : World) (hT : Tab w) => next_any 26 a b c i w hT)
  have C4 := Lib.hid (fun (w : World) (hT : Tab w) => hazard_any (wrR 26 a b c i) n2 a2 b2 c2 i2 w hT)
  have C5 := Lib.hid (fun (w : World) (hT : Tab w) => hazard_any 0 n2 a2 b2 c2 i2 w hT)
  rw [hzd_out (s := 0) (by omega)] at C5
  rw [rdl_rrl] at C2
  have hxs := rrl_le n2 a2 b2 c2 i2
  rw [show nxt 26 a b c i = wrR 26 a b c i by simp [nxt]] at C3
  unfold hzd at C4
  generalize rrl n2 a2 b2 c2 i2 = xs at *
  generalize wrR 26 a b c i = R at *
  rw [show (R != 0) = true by simpa using hR] at C1
  have hz := hT.size
  go_enter Tryd.func7, Tryd.ntmps7
  go_wp2_with fail
  refine (awake8_any _ (Tab.of_below hT (by repeat (first | (with_reducible exact Below.refl _ _) | (with_reducible apply bDrewN) | (with_reducible apply Below.drew) | ((with_reducible apply bSet); (focus first | (simp; done) | (simp; omega) | omega)) | ((with_reducible apply bAlloc); (focus first | (simp; done) | (simp; omega) | omega)))))).mono ?_
  rintro e w1 ⟨rfl, hb1⟩
  have hT1 : Tab w1 := Tab.of_below (Tab.of_below hT (by repeat (first | (with_reducible exact Below.refl _ _) | (with_reducible apply bDrewN) | (with_reducible apply Below.drew) | ((with_reducible apply bSet); (focus first | (simp; done) | (simp; omega) | omega)) | ((with_reducible apply bAlloc); (focus first | (simp; done) | (simp; omega) | omega))))) hb1
  have sz1_0 : w.heap.size < w1.heap.size := by have h := hb1.size; first | (simp at h; omega) | omega
  have c1_0_0 : w1.cell? ⟨w.heap.size, 0, none⟩ = some (.int .u8 26) := by rw [hb1.cell (p := ⟨w.heap.size, 0, none⟩) (by first | (simp; done) | (simp; omega) | omega)]; first | assumption | (simp [go_sem]; done) | (simp [go_sem, *]; done)
  have c1_0_1 : w1.cell? ⟨w.heap.size, 1, none⟩ = some (.int .i64 a) := by rw [hb1.cell (p := ⟨w.heap.size, 1, none⟩) (by first | (simp; done) | (simp; omega) | omega)]; first | assumption | (simp [go_sem]; done) | (simp [go_sem, *]; done)
  have c1_0_2 : w1.cell? ⟨w.heap.size, 2, none⟩ = some (.int .i64 b) := by rw [hb1.cell (p := ⟨w.heap.size, 2, none⟩) (by first | (simp; done) | (simp; omega) | omega)]; first | assumption | (simp [go_sem]; done) | (simp [go_sem, *]; done)
  have c1_0_3 : w1.cell? ⟨w.heap.size, 3, none⟩ = some (.int .i64 c) := by rw [hb1.cell (p := ⟨w.heap.size, 3, none⟩) (by first | (simp; done) | (simp; omega) | omega)]; first | assumption | (simp [go_sem]; done) | (simp [go_sem, *]; done)
  have c1_0_4 : w1.cell? ⟨w.heap.size, 4, none⟩ = some (.int .i64 i) := by rw [hb1.cell (p := ⟨w.heap.size, 4, none⟩) (by first | (simp; done) | (simp; omega) | omega)]; first | assumption | (simp [go_sem]; done) | (simp [go_sem, *]; done)
  have sz1_1 : w.heap.size + 1 < w1.heap.size := by have h := hb1.size; first | (simp at h; omega) | omega
  have c1_1_0 : w1.cell? ⟨w.heap.size + 1, 0, none⟩ = some (.int .u8 n2) := by rw [hb1.cell (p := ⟨w.heap.size + 1, 0, none⟩) (by first | (simp; done) | (simp; omega) | omega)]; first | assumption | (simp [go_sem]; done) | (simp [go_sem, *]; done)
  have c1_1_1 : w1.cell? ⟨w.heap.size + 1, 1, none⟩ = some (.int .i64 a2) := by rw [hb1.cell (p := ⟨w.heap.size + 1, 1, none⟩) (by first | (simp; done) | (simp; omega) | omega)]; first | assumption | (simp [go_sem]; done) | (simp [go_sem, *]; done)
  have c1_1_2 : w1.cell? ⟨w.heap.size + 1, 2, none⟩ = some (.int .i64 b2) := by rw [hb1.cell (p := ⟨w.heap.size + 1, 2, none⟩) (by first | (simp; done) | (simp; omega) | omega)]; first | assumption | (simp [go_sem]; done) | (simp [go_sem, *]; done)
  have c1_1_3 : w1.cell? ⟨w.heap.size + 1, 3, none⟩ = some (.int .i64 c2) := by rw [hb1.cell (p := ⟨w.heap.size + 1, 3, none⟩) (by first | (simp; done) | (simp; omega) | omega)]; first | assumption | (simp [go_sem]; done) | (simp [go_sem, *]; done)
  have c1_1_4 : w1.cell? ⟨w.heap.size + 1, 4, none⟩ = some (.int .i64 i2) := by rw [hb1.cell (p := ⟨w.heap.size + 1, 4, none⟩) (by first | (simp; done) | (simp; omega) | omega)]; first | assumption | (simp [go_sem]; done) | (simp [go_sem, *]; done)
  have HB1 : Below w.heap.size w w1 := by
    repeat (first | (with_reducible exact Below.refl _ _) | (with_reducible apply bDrewN) | (with_reducible apply Below.drew) | ((with_reducible apply bThen hb1); (focus first | (simp; done) | (simp; omega) | omega)) | ((with_reducible apply bSet); (focus first | (simp; done) | (simp; omega) | omega)) | ((with_reducible apply bAlloc); (focus first | (simp; done) | (simp; omega) | omega)))
  have hsz1 := HB1.size
  clear hb1 
  go_wp2_with fail
  refine (C1.out _ (Tab.of_below hT1 (by repeat (first | (with_reducible exact Below.refl _ _) | (with_reducible apply bDrewN) | (with_reducible apply Below.drew) | ((with_reducible apply bSet); (focus first | (simp; done) | (simp; omega) | omega)) | ((with_reducible apply bAlloc); (focus first | (simp; done) | (simp; omega) | omega)))))).mono ?_
  rintro e w2 ⟨rfl, hb2⟩
  have hT2 : Tab w2 := Tab.of_below (Tab.of_below hT1 (by repeat (first | (with_reducible exact Below.refl _ _) | (with_reducible apply bDrewN) | (with_reducible apply Below.drew) | ((with_reducible apply bSet); (focus first | (simp; done) | (simp; omega) | omega)) | ((with_reducible apply bAlloc); (focus first | (simp; done) | (simp; omega) | omega))))) hb2
  have sz2_0 : w.heap.size < w2.heap.size := by have h := hb2.size; first | (simp at h; omega) | omega
  have c2_0_0 : w2.cell? ⟨w.heap.size, 0, none⟩ = some (.int .u8 26) := by rw [hb2.cell (p := ⟨w.heap.size, 0, none⟩) (by first | (simp; done) | (simp; omega) | omega)]; first | assumption | (simp [go_sem]; done) | (simp [go_sem, *]; done)
  have c2_0_1 : w2.cell? ⟨w.heap.size, 1, none⟩ = some (.int .i64 a) := by rw [hb2.cell (p := ⟨w.heap.size, 1, none⟩) (by first | (simp; done) | (simp; omega) | omega)]; first | assumption | (simp [go_sem]; done) | (simp [go_sem, *]; done)
  have c2_0_2 : w2.cell? ⟨w.heap.size, 2, none⟩ = some (.int .i64 b) := by rw [hb2.cell (p := ⟨w.heap.size, 2, none⟩) (by first | (simp; done) | (simp; omega) | omega)]; first | assumption | (simp [go_sem]; done) | (simp [go_sem, *]; done)
  have c2_0_3 : w2.cell? ⟨w.heap.size, 3, none⟩ = some (.int .i64 c) := by rw [hb2.cell (p := ⟨w.heap.size, 3, none⟩) (by first | (simp; done) | (simp; omega) | omega)]; first | assumption | (simp [go_sem]; done) | (simp [go_sem, *]; done)
  have c2_0_4 : w2.cell? ⟨w.heap.size, 4, none⟩ = some (.int .i64 i) := by rw [hb2.cell (p := ⟨w.heap.size, 4, none⟩) (by first | (simp; done) | (simp; omega) | omega)]; first | assumption | (simp [go_sem]; done) | (simp [go_sem, *]; done)
  have sz2_1 : w.heap.size + 1 < w2.heap.size := by have h := hb2.size; first | (simp at h; omega) | omega
  have c2_1_0 : w2.cell? ⟨w.heap.size + 1, 0, none⟩ = some (.int .u8 n2) := by rw [hb2.cell (p := ⟨w.heap.size + 1, 0, none⟩) (by first | (simp; done) | (simp; omega) | omega)]; first | assumption | (simp [go_sem]; done) | (simp [go_sem, *]; done)
  have c2_1_1 : w2.cell? ⟨w.heap.size + 1, 1, none⟩ = some (.int .i64 a2) := by rw [hb2.cell (p := ⟨w.heap.size + 1, 1, none⟩) (by first | (simp; done) | (simp; omega) | omega)]; first | assumption | (simp [go_sem]; done) | (simp [go_sem, *]; done)
  have c2_1_2 : w2.cell? ⟨w.heap.size + 1, 2, none⟩ = some (.int .i64 b2) := by rw [hb2.cell (p := ⟨w.heap.size + 1, 2, none⟩) (by first | (simp; done) | (simp; omega) | omega)]; first | assumption | (simp [go_sem]; done) | (simp [go_sem, *]; done)
  have c2_1_3 : w2.cell? ⟨w.heap.size + 1, 3, none⟩ = some (.int .i64 c2) := by rw [hb2.cell (p := ⟨w.heap.size + 1, 3, none⟩) (by first | (simp; done) | (simp; omega) | omega)]; first | assumption | (simp [go_sem]; done) | (simp [go_sem, *]; done)
  have c2_1_4 : w2.cell? ⟨w.heap.size + 1, 4, none⟩ = some (.int .i64 i2) := by rw [hb2.cell (p := ⟨w.heap.size + 1, 4, none⟩) (by first | (simp; done) | (simp; omega) | omega)]; first | assumption | (simp [go_sem]; done) | (simp [go_sem, *]; done)
  have HB2 : Below w.heap.size w w2 := by
    repeat (first | (with_reducible exact Below.refl _ _) | (with_reducible apply bDrewN) | (with_reducible apply Below.drew) | (with_reducible exact HB1) | ((with_reducible apply bThen hb2); (focus first | (simp; done) | (simp; omega) | omega)) | ((with_reducible apply bSet); (focus first | (simp; done) | (simp; omega) | omega)) | ((with_reducible apply bAlloc); (focus first | (simp; done) | (simp; omega) | omega)))
  have hsz2 := HB2.size
  clear hb2 sz1_0 c1_0_0 c1_0_1 c1_0_2 c1_0_3 c1_0_4 sz1_1 c1_1_0 c1_1_1 c1_1_2 c1_1_3 c1_1_4 hsz1
  go_wp2_with fail
  refine (C2.out _ (Tab.of_below hT2 (by repeat (first | (with_reducible exact Below.refl _ _) | (with_reducible apply bDrewN) | (with_reducible apply Below.drew) | ((with_reducible apply bSet); (focus first | (simp; done) | (simp; omega) | omega)) | ((with_reducible apply bAlloc); (focus first | (simp; done) | (simp; omega) | omega)))))).mono ?_
  rintro e w3 ⟨v1, rfl, sl1, hb3⟩
  have hT3 : Tab w3 := Tab.of_below (Tab.of_below hT2 (by repeat (first | (with_reducible exact Below.refl _ _) | (with_reducible apply bDrewN) | (with_reducible apply Below.drew) | ((with_reducible apply bSet); (focus first | (simp; done) | (simp; omega) | omega)) | ((with_reducible apply bAlloc); (focus first | (simp; done) | (simp; omega) | omega))))) hb3
  have sz3_0 : w.heap.size < w3.heap.size := by have h := hb3.size; first | (simp at h; omega) | omega
  have c3_0_0 : w3.cell? ⟨w.heap.size, 0, none⟩ = some (.int .u8 26) := by rw [hb3.cell (p := ⟨w.heap.size, 0, none⟩) (by first | (simp; done) | (simp; omega) | omega)]; first | assumption | (simp [go_sem]; done) | (simp [go_sem, *]; done)
  have c3_0_1 : w3.cell? ⟨w.heap.size, 1, none⟩ = some (.int .i64 a) := by rw [hb3.cell (p := ⟨w.heap.size, 1, none⟩) (by first | (simp; done) | (simp; omega) | omega)]; first | assumption | (simp [go_sem]; done) | (simp [go_sem, *]; done)
  have c3_0_2 : w3.cell? ⟨w.heap.size, 2, none⟩ = some (.int .i64 b) := by rw [hb3.cell (p := ⟨w.heap.size, 2, none⟩) (by first | (simp; done) | (simp; omega) | omega)]; first | assumption | (simp [go_sem]; done) | (simp [go_sem, *]; done)
  have c3_0_3 : w3.cell? ⟨w.heap.size, 3, none⟩ = some (.int .i64 c) := by rw [hb3.cell (p := ⟨w.heap.size, 3, none⟩) (by first | (simp; done) | (simp; omega) | omega)]; first | assumption | (simp [go_sem]; done) | (simp [go_sem, *]; done)
  have c3_0_4 : w3.cell? ⟨w.heap.size, 4, none⟩ = some (.int .i64 i) := by rw [hb3.cell (p := ⟨w.heap.size, 4, none⟩) (by first | (simp; done) | (simp; omega) | omega)]; first | assumption | (simp [go_sem]; done) | (simp [go_sem, *]; done)
  have sz3_1 : w.heap.size + 1 < w3.heap.size := by have h := hb3.size; first | (simp at h; omega) | omega
  have c3_1_0 : w3.cell? ⟨w.heap.size + 1, 0, none⟩ = some (.int .u8 n2) := by rw [hb3.cell (p := ⟨w.heap.size + 1, 0, none⟩) (by first | (simp; done) | (simp; omega) | omega)]; first | assumption | (simp [go_sem]; done) | (simp [go_sem, *]; done)
  have c3_1_1 : w3.cell? ⟨w.heap.size + 1, 1, none⟩ = some (.int .i64 a2) := by rw [hb3.cell (p := ⟨w.heap.size + 1, 1, none⟩) (by first | (simp; done) | (simp; omega) | omega)]; first | assumption | (simp [go_sem]; done) | (simp [go_sem, *]; done)
  have c3_1_2 : w3.cell? ⟨w.heap.size + 1, 2, none⟩ = some (.int .i64 b2) := by rw [hb3.cell (p := ⟨w.heap.size + 1, 2, none⟩) (by first | (simp; done) | (simp; omega) | omega)]; first | assumption | (simp [go_sem]; done) | (simp [go_sem, *]; done)
  have c3_1_3 : w3.cell? ⟨w.heap.size + 1, 3, none⟩ = some (.int .i64 c2) := by rw [hb3.cell (p := ⟨w.heap.size + 1, 3, none⟩) (by first | (simp; done) | (simp; omega) | omega)]; first | assumption | (simp [go_sem]; done) | (simp [go_sem, *]; done)
  have c3_1_4 : w3.cell? ⟨w.heap.size + 1, 4, none⟩ = some (.int .i64 i2) := by rw [hb3.cell (p := ⟨w.heap.size + 1, 4, none⟩) (by first | (simp; done) | (simp; omega) | omega)]; first | assumption | (simp [go_sem]; done) | (simp [go_sem, *]; done)
  have HB3 : Below w.heap.size w w3 := by
    repeat (first | (with_reducible exact Below.refl _ _) | (with_reducible apply bDrewN) | (with_reducible apply Below.drew) | (with_reducible exact HB2) | ((with_reducible apply bThen hb3); (focus first | (simp; done) | (simp; omega) | omega)) | ((with_reducible apply bSet); (focus first | (simp; done) | (simp; omega) | omega)) | ((with_reducible apply bAlloc); (focus first | (simp; done) | (simp; omega) | omega)))
  have hsz3 := HB3.size
  clear hb3 sz2_0 c2_0_0 c2_0_1 c2_0_2 c2_0_3 c2_0_4 sz2_1 c2_1_0 c2_1_1 c2_1_2 c2_1_3 c2_1_4 hsz2
  by_cases hx : xs = []
  · skip
    subst hx
    obtain ⟨a1, cap1, rfl⟩ := sl1.nil
    rw [show ([] : List Int).contains R = false from rfl] at C4
    go_wp2_with fail
    refine wp_loop_rounds 1 ?_
    rw [rounds_succ]
    go_wp2_with fail
    have mk : ∀ W : World, Below w3.heap.size w3 W → Below w3.heap.size w3 W ∧ W.cell? ⟨w.heap.size, 0, none⟩ = some (.int .u8 26) ∧ W.cell? ⟨w.heap.size, 1, none⟩ = some (.int .i64 a) ∧ W.cell? ⟨w.heap.size, 2, none⟩ = some (.int .i64 b) ∧ W.cell? ⟨w.heap.size, 3, none⟩ = some (.int .i64 c) ∧ W.cell? ⟨w.heap.size, 4, none⟩ = some (.int .i64 i) ∧ W.cell? ⟨w.heap.size + 1, 0, none⟩ = some (.int .u8 n2) ∧ W.cell? ⟨w.heap.size + 1, 1, none⟩ = some (.int .i64 a2) ∧ W.cell? ⟨w.heap.size + 1, 2, none⟩ = some (.int .i64 b2) ∧ W.cell? ⟨w.heap.size + 1, 3, none⟩ = some (.int .i64 c2) ∧ W.cell? ⟨w.heap.size + 1, 4, none⟩ = some (.int .i64 i2) := fun W hb => ⟨hb, (hb.cell (p := ⟨w.heap.size, 0, none⟩) sz3_0).trans c3_0_0, (hb.cell (p := ⟨w.heap.size, 1, none⟩) sz3_0).trans c3_0_1, (hb.cell (p := ⟨w.heap.size, 2, none⟩) sz3_0).trans c3_0_2, (hb.cell (p := ⟨w.heap.size, 3, none⟩) sz3_0).trans c3_0_3, (hb.cell (p := ⟨w.heap.size, 4, none⟩) sz3_0).trans c3_0_4, (hb.cell (p := ⟨w.heap.size + 1, 0, none⟩) sz3_1).trans c3_1_0, (hb.cell (p := ⟨w.heap.size + 1, 1, none⟩) sz3_1).trans c3_1_1, (hb.cell (p := ⟨w.heap.size + 1, 2, none⟩) sz3_1).trans c3_1_2, (hb.cell (p := ⟨w.heap.size + 1, 3, none⟩) sz3_1).trans c3_1_3, (hb.cell (p := ⟨w.heap.size + 1, 4, none⟩) sz3_1).trans c3_1_4⟩
    have R0 := Lib.hid (show ∀ W : World, Below w3.heap.size w3 W → Calls Tryd.prog 14 #[.agg #[.int .u8 26, .int .i64 a, .int .i64 b, .int .i64 c, .int .i64 i]] W fun e w' => e = .returned (.int .i64 R) ∧ Below w3.heap.size w3 w' ∧ w'.cell? ⟨w.heap.size, 0, none⟩ = some (.int .u8 26) ∧ w'.cell? ⟨w.heap.size, 1, none⟩ = some (.int .i64 a) ∧ w'.cell? ⟨w.heap.size, 2, none⟩ = some (.int .i64 b) ∧ w'.cell? ⟨w.heap.size, 3, none⟩ = some (.int .i64 c) ∧ w'.cell? ⟨w.heap.size, 4, none⟩ = some (.int .i64 i) ∧ w'.cell? ⟨w.heap.size + 1, 0, none⟩ = some (.int .u8 n2) ∧ w'.cell? ⟨w.heap.size + 1, 1, none⟩ = some (.int .i64 a2) ∧ w'.cell? ⟨w.heap.size + 1, 2, none⟩ = some (.int .i64 b2) ∧ w'.cell? ⟨w.heap.size + 1, 3, none⟩ = some (.int .i64 c2) ∧ w'.cell? ⟨w.heap.size + 1, 4, none⟩ = some (.int .i64 i2) from fun W hb => (C3.out W (Tab.of_below hT3 hb)).mono fun e w' ⟨h1, h2⟩ => ⟨h1, mk w' (hb.trans (h2.mono hb.size))⟩)
    have R1 := Lib.hid (show ∀ W : World, Below w3.heap.size w3 W → Calls Tryd.prog 16 #[.int .i64 R, .agg #[.int .u8 n2, .int .i64 a2, .int .i64 b2, .int .i64 c2, .int .i64 i2]] W fun e w' => e = .returned (.bool false) ∧ Below w3.heap.size w3 w' ∧ w'.cell? ⟨w.heap.size, 0, none⟩ = some (.int .u8 26) ∧ w'.cell? ⟨w.heap.size, 1, none⟩ = some (.int .i64 a) ∧ w'.cell? ⟨w.heap.size, 2, none⟩ = some (.int .i64 b) ∧ w'.cell? ⟨w.heap.size, 3, none⟩ = some (.int .i64 c) ∧ w'.cell? ⟨w.heap.size, 4, none⟩ = some (.int .i64 i) ∧ w'.cell? ⟨w.heap.size + 1, 0, none⟩ = some (.int .u8 n2) ∧ w'.cell? ⟨w.heap.size + 1, 1, none⟩ = some (.int .i64 a2) ∧ w'.cell? ⟨w.heap.size + 1, 2, none⟩ = some (.int .i64 b2) ∧ w'.cell? ⟨w.heap.size + 1, 3, none⟩ = some (.int .i64 c2) ∧ w'.cell? ⟨w.heap.size + 1, 4, none⟩ = some (.int .i64 i2) from fun W hb => (C4.out W (Tab.of_below hT3 hb)).mono fun e w' ⟨h1, h2⟩ => ⟨h1, mk w' (hb.trans (h2.mono hb.size))⟩)
    have R2 := Lib.hid (show ∀ W : World, Below w3.heap.size w3 W → Calls Tryd.prog 16 #[.int .i64 0, .agg #[.int .u8 n2, .int .i64 a2, .int .i64 b2, .int .i64 c2, .int .i64 i2]] W fun e w' => e = .returned (.bool false) ∧ Below w3.heap.size w3 w' ∧ w'.cell? ⟨w.heap.size, 0, none⟩ = some (.int .u8 26) ∧ w'.cell? ⟨w.heap.size, 1, none⟩ = some (.int .i64 a) ∧ w'.cell? ⟨w.heap.size, 2, none⟩ = some (.int .i64 b) ∧ w'.cell? ⟨w.heap.size, 3, none⟩ = some (.int .i64 c) ∧ w'.cell? ⟨w.heap.size, 4, none⟩ = some (.int .i64 i) ∧ w'.cell? ⟨w.heap.size + 1, 0, none⟩ = some (.int .u8 n2) ∧ w'.cell? ⟨w.heap.size + 1, 1, none⟩ = some (.int .i64 a2) ∧ w'.cell? ⟨w.heap.size + 1, 2, none⟩ = some (.int .i64 b2) ∧ w'.cell? ⟨w.heap.size + 1, 3, none⟩ = some (.int .i64 c2) ∧ w'.cell? ⟨w.heap.size + 1, 4, none⟩ = some (.int .i64 i2) from fun W hb => (C5.out W (Tab.of_below hT3 hb)).mono fun e w' ⟨h1, h2⟩ => ⟨h1, mk w' (hb.trans (h2.mono hb.size))⟩)
    have hs0 := mk w3.drew (Below.refl _ _).drew
    clear mk
    first | go_region_held3 (fun w' => Below w3.heap.size w3 w' ∧ w'.cell? ⟨w.heap.size, 0, none⟩ = some (.int .u8 26) ∧ w'.cell? ⟨w.heap.size, 1, none⟩ = some (.int .i64 a) ∧ w'.cell? ⟨w.heap.size, 2, none⟩ = some (.int .i64 b) ∧ w'.cell? ⟨w.heap.size, 3, none⟩ = some (.int .i64 c) ∧ w'.cell? ⟨w.heap.size, 4, none⟩ = some (.int .i64 i) ∧ w'.cell? ⟨w.heap.size + 1, 0, none⟩ = some (.int .u8 n2) ∧ w'.cell? ⟨w.heap.size + 1, 1, none⟩ = some (.int .i64 a2) ∧ w'.cell? ⟨w.heap.size + 1, 2, none⟩ = some (.int .i64 b2) ∧ w'.cell? ⟨w.heap.size + 1, 3, none⟩ = some (.int .i64 c2) ∧ w'.cell? ⟨w.heap.size + 1, 4, none⟩ = some (.int .i64 i2)) (first | exact hs0 | assumption | (simp [*]; done)) (first | (go_at_call 14; (with_reducible refine (R0.out _ ?_).mono ?_); (simp [*]); rintro e w' ⟨rfl, hS⟩) | (go_at_call 16; first | ((with_reducible refine (R1.out _ ?_).mono ?_); (simp [*]); rintro e w' ⟨rfl, hS⟩) | ((with_reducible refine (R2.out _ ?_).mono ?_); (simp [*]); rintro e w' ⟨rfl, hS⟩))) | fail
    go_wp2_with fail
    go_ret
    refine ⟨by simp, ?_⟩
    first | exact bThen (W := w3) (by assumption) (by omega) HB3 | (go_split_ands; exact bThen (W := w3) (by assumption) (by omega) HB3)
  · skip
    obtain ⟨g1, cap1, rfl, hg1, hg1', hc1⟩ := sl1.some hx
    have HC := Lib.hid hc1
    clear hc1 sl1
    have hpos : 0 < xs.length := List.length_pos_iff.2 hx
    go_wp2_with fail
    go_loopw [8, 10, 37, 40] (fun rv x1 r x2 wr => ∃ (k : Nat) (u : Bool), k ≤ xs.length ∧ rv = .bool u ∧ r = .int .i64 k ∧ Hid (u = (xs.take k).contains R) ∧ w3 = wr) (fun _ _ r _ _ => xs.length - (intOf r).toNat)
    case atStart => exact ⟨0, false, by omega, rfl, rfl, rfl, rfl⟩
    case round =>
      obtain ⟨k, u, hk, rfl, rfl, hu, rfl⟩ := hrel
      by_cases hlt : k < xs.length
      · have d1 := HC.out k hlt
        have hkI : (k : Int) < xs.length := by omega
        generalize hz : xs.getD k 0 = z at d1
        have HZ := Lib.hid hz
        clear hz
        cases u
        · by_cases hzs : z = R
          · subst hzs
            go_wp2_with fail
            go_roundw
            case rel => exact ⟨k + 1, true, by omega, by simp, by go_num, show true = _ by rw [contains_take hlt HZ.out]; simp, by first | rfl | trivial⟩
            case measure => simp [intOf]; omega
          · have hb : (z == R) = false := by simpa using hzs
            go_wp2_with fail
            go_roundw
            case rel => exact ⟨k + 1, false, by omega, by simp, by go_num, show false = _ by rw [contains_take hlt HZ.out, ← Hid.out hu, hb]; rfl, by first | rfl | trivial⟩
            case measure => simp [intOf]; omega
        · go_wp2_with fail
          go_roundw
          case rel => exact ⟨k + 1, true, by omega, by simp, by go_num, show true = _ by rw [contains_take hlt HZ.out, ← Hid.out hu]; rfl, by first | rfl | trivial⟩
          case measure => simp [intOf]; omega
      · have hkI : ¬ (k : Int) < xs.length := by omega
        have e1 := Hid.out hu
        rw [List.take_of_length_le (by omega)] at e1
        clear hu
        rw [← e1] at C4
        clear e1
        cases u
        · skip
          go_wp2_with fail
          have mk : ∀ W : World, Below w3.heap.size w3 W → Below w3.heap.size w3 W ∧ W.cell? ⟨w.heap.size, 0, none⟩ = some (.int .u8 26) ∧ W.cell? ⟨w.heap.size, 1, none⟩ = some (.int .i64 a) ∧ W.cell? ⟨w.heap.size, 2, none⟩ = some (.int .i64 b) ∧ W.cell? ⟨w.heap.size, 3, none⟩ = some (.int .i64 c) ∧ W.cell? ⟨w.heap.size, 4, none⟩ = some (.int .i64 i) ∧ W.cell? ⟨w.heap.size + 1, 0, none⟩ = some (.int .u8 n2) ∧ W.cell? ⟨w.heap.size + 1, 1, none⟩ = some (.int .i64 a2) ∧ W.cell? ⟨w.heap.size + 1, 2, none⟩ = some (.int .i64 b2) ∧ W.cell? ⟨w.heap.size + 1, 3, none⟩ = some (.int .i64 c2) ∧ W.cell? ⟨w.heap.size + 1, 4, none⟩ = some (.int .i64 i2) := fun W hb => ⟨hb, (hb.cell (p := ⟨w.heap.size, 0, none⟩) sz3_0).trans c3_0_0, (hb.cell (p := ⟨w.heap.size, 1, none⟩) sz3_0).trans c3_0_1, (hb.cell (p := ⟨w.heap.size, 2, none⟩) sz3_0).trans c3_0_2, (hb.cell (p := ⟨w.heap.size, 3, none⟩) sz3_0).trans c3_0_3, (hb.cell (p := ⟨w.heap.size, 4, none⟩) sz3_0).trans c3_0_4, (hb.cell (p := ⟨w.heap.size + 1, 0, none⟩) sz3_1).trans c3_1_0, (hb.cell (p := ⟨w.heap.size + 1, 1, none⟩) sz3_1).trans c3_1_1, (hb.cell (p := ⟨w.heap.size + 1, 2, none⟩) sz3_1).trans c3_1_2, (hb.cell (p := ⟨w.heap.size + 1, 3, none⟩) sz3_1).trans c3_1_3, (hb.cell (p := ⟨w.heap.size + 1, 4, none⟩) sz3_1).trans c3_1_4⟩
          have R0 := Lib.hid (show ∀ W : World, Below w3.heap.size w3 W → Calls Tryd.prog 14 #[.agg #[.int .u8 26, .int .i64 a, .int .i64 b, .int .i64 c, .int .i64 i]] W fun e w' => e = .returned (.int .i64 R) ∧ Below w3.heap.size w3 w' ∧ w'.cell? ⟨w.heap.size, 0, none⟩ = some (.int .u8 26) ∧ w'.cell? ⟨w.heap.size, 1, none⟩ = some (.int .i64 a) ∧ w'.cell? ⟨w.heap.size, 2, none⟩ = some (.int .i64 b) ∧ w'.cell? ⟨w.heap.size, 3, none⟩ = some (.int .i64 c) ∧ w'.cell? ⟨w.heap.size, 4, none⟩ = some (.int .i64 i) ∧ w'.cell? ⟨w.heap.size + 1, 0, none⟩ = some (.int .u8 n2) ∧ w'.cell? ⟨w.heap.size + 1, 1, none⟩ = some (.int .i64 a2) ∧ w'.cell? ⟨w.heap.size + 1, 2, none⟩ = some (.int .i64 b2) ∧ w'.cell? ⟨w.heap.size + 1, 3, none⟩ = some (.int .i64 c2) ∧ w'.cell? ⟨w.heap.size + 1, 4, none⟩ = some (.int .i64 i2) from fun W hb => (C3.out W (Tab.of_below hT3 hb)).mono fun e w' ⟨h1, h2⟩ => ⟨h1, mk w' (hb.trans (h2.mono hb.size))⟩)
          have R1 := Lib.hid (show ∀ W : World, Below w3.heap.size w3 W → Calls Tryd.prog 16 #[.int .i64 R, .agg #[.int .u8 n2, .int .i64 a2, .int .i64 b2, .int .i64 c2, .int .i64 i2]] W fun e w' => e = .returned (.bool false) ∧ Below w3.heap.size w3 w' ∧ w'.cell? ⟨w.heap.size, 0, none⟩ = some (.int .u8 26) ∧ w'.cell? ⟨w.heap.size, 1, none⟩ = some (.int .i64 a) ∧ w'.cell? ⟨w.heap.size, 2, none⟩ = some (.int .i64 b) ∧ w'.cell? ⟨w.heap.size, 3, none⟩ = some (.int .i64 c) ∧ w'.cell? ⟨w.heap.size, 4, none⟩ = some (.int .i64 i) ∧ w'.cell? ⟨w.heap.size + 1, 0, none⟩ = some (.int .u8 n2) ∧ w'.cell? ⟨w.heap.size + 1, 1, none⟩ = some (.int .i64 a2) ∧ w'.cell? ⟨w.heap.size + 1, 2, none⟩ = some (.int .i64 b2) ∧ w'.cell? ⟨w.heap.size + 1, 3, none⟩ = some (.int .i64 c2) ∧ w'.cell? ⟨w.heap.size + 1, 4, none⟩ = some (.int .i64 i2) from fun W hb => (C4.out W (Tab.of_below hT3 hb)).mono fun e w' ⟨h1, h2⟩ => ⟨h1, mk w' (hb.trans (h2.mono hb.size))⟩)
          have R2 := Lib.hid (show ∀ W : World, Below w3.heap.size w3 W → Calls Tryd.prog 16 #[.int .i64 0, .agg #[.int .u8 n2, .int .i64 a2, .int .i64 b2, .int .i64 c2, .int .i64 i2]] W fun e w' => e = .returned (.bool false) ∧ Below w3.heap.size w3 w' ∧ w'.cell? ⟨w.heap.size, 0, none⟩ = some (.int .u8 26) ∧ w'.cell? ⟨w.heap.size, 1, none⟩ = some (.int .i64 a) ∧ w'.cell? ⟨w.heap.size, 2, none⟩ = some (.int .i64 b) ∧ w'.cell? ⟨w.heap.size, 3, none⟩ = some (.int .i64 c) ∧ w'.cell? ⟨w.heap.size, 4, none⟩ = some (.int .i64 i) ∧ w'.cell? ⟨w.heap.size + 1, 0, none⟩ = some (.int .u8 n2) ∧ w'.cell? ⟨w.heap.size + 1, 1, none⟩ = some (.int .i64 a2) ∧ w'.cell? ⟨w.heap.size + 1, 2, none⟩ = some (.int .i64 b2) ∧ w'.cell? ⟨w.heap.size + 1, 3, none⟩ = some (.int .i64 c2) ∧ w'.cell? ⟨w.heap.size + 1, 4, none⟩ = some (.int .i64 i2) from fun W hb => (C5.out W (Tab.of_below hT3 hb)).mono fun e w' ⟨h1, h2⟩ => ⟨h1, mk w' (hb.trans (h2.mono hb.size))⟩)
          have hs0 := mk w3.drew (Below.refl _ _).drew
          clear mk
          first | go_region_held3 (fun w' => Below w3.heap.size w3 w' ∧ w'.cell? ⟨w.heap.size, 0, none⟩ = some (.int .u8 26) ∧ w'.cell? ⟨w.heap.size, 1, none⟩ = some (.int .i64 a) ∧ w'.cell? ⟨w.heap.size, 2, none⟩ = some (.int .i64 b) ∧ w'.cell? ⟨w.heap.size, 3, none⟩ = some (.int .i64 c) ∧ w'.cell? ⟨w.heap.size, 4, none⟩ = some (.int .i64 i) ∧ w'.cell? ⟨w.heap.size + 1, 0, none⟩ = some (.int .u8 n2) ∧ w'.cell? ⟨w.heap.size + 1, 1, none⟩ = some (.int .i64 a2) ∧ w'.cell? ⟨w.heap.size + 1, 2, none⟩ = some (.int .i64 b2) ∧ w'.cell? ⟨w.heap.size + 1, 3, none⟩ = some (.int .i64 c2) ∧ w'.cell? ⟨w.heap.size + 1, 4, none⟩ = some (.int .i64 i2)) (first | exact hs0 | assumption | (simp [*]; done)) (first | (go_at_call 14; (with_reducible refine (R0.out _ ?_).mono ?_); (simp [*]); rintro e w' ⟨rfl, hS⟩) | (go_at_call 16; first | ((with_reducible refine (R1.out _ ?_).mono ?_); (simp [*]); rintro e w' ⟨rfl, hS⟩) | ((with_reducible refine (R2.out _ ?_).mono ?_); (simp [*]); rintro e w' ⟨rfl, hS⟩))) | fail
          go_wp2_with fail
          go_ret
          refine ⟨by simp, ?_⟩
          first | exact bThen (W := w3) (by assumption) (by omega) HB3 | (go_split_ands; exact bThen (W := w3) (by assumption) (by omega) HB3)
        · skip
          go_wp2_with fail
          have mk : ∀ W : World, Below w3.heap.size w3 W → Below w3.heap.size w3 W ∧ W.cell? ⟨w.heap.size, 0, none⟩ = some (.int .u8 26) ∧ W.cell? ⟨w.heap.size, 1, none⟩ = some (.int .i64 a) ∧ W.cell? ⟨w.heap.size, 2, none⟩ = some (.int .i64 b) ∧ W.cell? ⟨w.heap.size, 3, none⟩ = some (.int .i64 c) ∧ W.cell? ⟨w.heap.size, 4, none⟩ = some (.int .i64 i) ∧ W.cell? ⟨w.heap.size + 1, 0, none⟩ = some (.int .u8 n2) ∧ W.cell? ⟨w.heap.size + 1, 1, none⟩ = some (.int .i64 a2) ∧ W.cell? ⟨w.heap.size + 1, 2, none⟩ = some (.int .i64 b2) ∧ W.cell? ⟨w.heap.size + 1, 3, none⟩ = some (.int .i64 c2) ∧ W.cell? ⟨w.heap.size + 1, 4, none⟩ = some (.int .i64 i2) := fun W hb => ⟨hb, (hb.cell (p := ⟨w.heap.size, 0, none⟩) sz3_0).trans c3_0_0, (hb.cell (p := ⟨w.heap.size, 1, none⟩) sz3_0).trans c3_0_1, (hb.cell (p := ⟨w.heap.size, 2, none⟩) sz3_0).trans c3_0_2, (hb.cell (p := ⟨w.heap.size, 3, none⟩) sz3_0).trans c3_0_3, (hb.cell (p := ⟨w.heap.size, 4, none⟩) sz3_0).trans c3_0_4, (hb.cell (p := ⟨w.heap.size + 1, 0, none⟩) sz3_1).trans c3_1_0, (hb.cell (p := ⟨w.heap.size + 1, 1, none⟩) sz3_1).trans c3_1_1, (hb.cell (p := ⟨w.heap.size + 1, 2, none⟩) sz3_1).trans c3_1_2, (hb.cell (p := ⟨w.heap.size + 1, 3, none⟩) sz3_1).trans c3_1_3, (hb.cell (p := ⟨w.heap.size + 1, 4, none⟩) sz3_1).trans c3_1_4⟩
          have R0 := Lib.hid (show ∀ W : World, Below w3.heap.size w3 W → Calls Tryd.prog 14 #[.agg #[.int .u8 26, .int .i64 a, .int .i64 b, .int .i64 c, .int .i64 i]] W fun e w' => e = .returned (.int .i64 R) ∧ Below w3.heap.size w3 w' ∧ w'.cell? ⟨w.heap.size, 0, none⟩ = some (.int .u8 26) ∧ w'.cell? ⟨w.heap.size, 1, none⟩ = some (.int .i64 a) ∧ w'.cell? ⟨w.heap.size, 2, none⟩ = some (.int .i64 b) ∧ w'.cell? ⟨w.heap.size, 3, none⟩ = some (.int .i64 c) ∧ w'.cell? ⟨w.heap.size, 4, none⟩ = some (.int .i64 i) ∧ w'.cell? ⟨w.heap.size + 1, 0, none⟩ = some (.int .u8 n2) ∧ w'.cell? ⟨w.heap.size + 1, 1, none⟩ = some (.int .i64 a2) ∧ w'.cell? ⟨w.heap.size + 1, 2, none⟩ = some (.int .i64 b2) ∧ w'.cell? ⟨w.heap.size + 1, 3, none⟩ = some (.int .i64 c2) ∧ w'.cell? ⟨w.heap.size + 1, 4, none⟩ = some (.int .i64 i2) from fun W hb => (C3.out W (Tab.of_below hT3 hb)).mono fun e w' ⟨h1, h2⟩ => ⟨h1, mk w' (hb.trans (h2.mono hb.size))⟩)
          have R1 := Lib.hid (show ∀ W : World, Below w3.heap.size w3 W → Calls Tryd.prog 16 #[.int .i64 R, .agg #[.int .u8 n2, .int .i64 a2, .int .i64 b2, .int .i64 c2, .int .i64 i2]] W fun e w' => e = .returned (.bool true) ∧ Below w3.heap.size w3 w' ∧ w'.cell? ⟨w.heap.size, 0, none⟩ = some (.int .u8 26) ∧ w'.cell? ⟨w.heap.size, 1, none⟩ = some (.int .i64 a) ∧ w'.cell? ⟨w.heap.size, 2, none⟩ = some (.int .i64 b) ∧ w'.cell? ⟨w.heap.size, 3, none⟩ = some (.int .i64 c) ∧ w'.cell? ⟨w.heap.size, 4, none⟩ = some (.int .i64 i) ∧ w'.cell? ⟨w.heap.size + 1, 0, none⟩ = some (.int .u8 n2) ∧ w'.cell? ⟨w.heap.size + 1, 1, none⟩ = some (.int .i64 a2) ∧ w'.cell? ⟨w.heap.size + 1, 2, none⟩ = some (.int .i64 b2) ∧ w'.cell? ⟨w.heap.size + 1, 3, none⟩ = some (.int .i64 c2) ∧ w'.cell? ⟨w.heap.size + 1, 4, none⟩ = some (.int .i64 i2) from fun W hb => (C4.out W (Tab.of_below hT3 hb)).mono fun e w' ⟨h1, h2⟩ => ⟨h1, mk w' (hb.trans (h2.mono hb.size))⟩)
          have R2 := Lib.hid (show ∀ W : World, Below w3.heap.size w3 W → Calls Tryd.prog 16 #[.int .i64 0, .agg #[.int .u8 n2, .int .i64 a2, .int .i64 b2, .int .i64 c2, .int .i64 i2]] W fun e w' => e = .returned (.bool false) ∧ Below w3.heap.size w3 w' ∧ w'.cell? ⟨w.heap.size, 0, none⟩ = some (.int .u8 26) ∧ w'.cell? ⟨w.heap.size, 1, none⟩ = some (.int .i64 a) ∧ w'.cell? ⟨w.heap.size, 2, none⟩ = some (.int .i64 b) ∧ w'.cell? ⟨w.heap.size, 3, none⟩ = some (.int .i64 c) ∧ w'.cell? ⟨w.heap.size, 4, none⟩ = some (.int .i64 i) ∧ w'.cell? ⟨w.heap.size + 1, 0, none⟩ = some (.int .u8 n2) ∧ w'.cell? ⟨w.heap.size + 1, 1, none⟩ = some (.int .i64 a2) ∧ w'.cell? ⟨w.heap.size + 1, 2, none⟩ = some (.int .i64 b2) ∧ w'.cell? ⟨w.heap.size + 1, 3, none⟩ = some (.int .i64 c2) ∧ w'.cell? ⟨w.heap.size + 1, 4, none⟩ = some (.int .i64 i2) from fun W hb => (C5.out W (Tab.of_below hT3 hb)).mono fun e w' ⟨h1, h2⟩ => ⟨h1, mk w' (hb.trans (h2.mono hb.size))⟩)
          have hs0 := mk w3.drew (Below.refl _ _).drew
          clear mk
          first | go_region_held3 (fun w' => Below w3.heap.size w3 w' ∧ w'.cell? ⟨w.heap.size, 0, none⟩ = some (.int .u8 26) ∧ w'.cell? ⟨w.heap.size, 1, none⟩ = some (.int .i64 a) ∧ w'.cell? ⟨w.heap.size, 2, none⟩ = some (.int .i64 b) ∧ w'.cell? ⟨w.heap.size, 3, none⟩ = some (.int .i64 c) ∧ w'.cell? ⟨w.heap.size, 4, none⟩ = some (.int .i64 i) ∧ w'.cell? ⟨w.heap.size + 1, 0, none⟩ = some (.int .u8 n2) ∧ w'.cell? ⟨w.heap.size + 1, 1, none⟩ = some (.int .i64 a2) ∧ w'.cell? ⟨w.heap.size + 1, 2, none⟩ = some (.int .i64 b2) ∧ w'.cell? ⟨w.heap.size + 1, 3, none⟩ = some (.int .i64 c2) ∧ w'.cell? ⟨w.heap.size + 1, 4, none⟩ = some (.int .i64 i2)) (first | exact hs0 | assumption | (simp [*]; done)) (first | (go_at_call 14; (with_reducible refine (R0.out _ ?_).mono ?_); (simp [*]); rintro e w' ⟨rfl, hS⟩) | (go_at_call 16; first | ((with_reducible refine (R1.out _ ?_).mono ?_); (simp [*]); rintro e w' ⟨rfl, hS⟩) | ((with_reducible refine (R2.out _ ?_).mono ?_); (simp [*]); rintro e w' ⟨rfl, hS⟩))) | fail
          go_wp2_with fail
          go_ret
          refine ⟨by simp, ?_⟩
          first | exact bThen (W := w3) (by assumption) (by omega) HB3 | (go_split_ands; exact bThen (W := w3) (by assumption) (by omega) HB3)

set_option maxHeartbeats 3200000 in
theorem reads_zero (n : Nat) (a b c i : Int) (n2 : Nat) (a2 b2 c2 i2 : Int) (w : World) (hT : Tab w) (hR : wrR n a b c i = 0) :
    Calls Tryd.prog 7 #[.agg #[.int .u8 n, .int .i64 a, .int .i64 b, .int .i64 c, .int .i64 i], .agg #[.int .u8 n2, .int .i64 a2, .int .i64 b2, .int .i64 c2, .int .i64 i2]] w fun e w' => e = .returned (.bool true) ∧ Below w.heap.size w w' := by
  have C1 := Lib.hid (fun (w : World) (hT : Tab w) => writes_any n a b c i w hT)
  have C2 := Lib.hid (fun (w : World) (hT : Tab w) => reads_any n2 a2 b2 c2 i2 w hT)
  have C3 := Lib.hid (fun (w : World) (hT : Tab w) => next_any n a b c i w hT)
  have C4 := Lib.hid (fun (w : World) (hT : Tab w) => hazard_any (0) n2 a2 b2 c2 i2 w hT)
  have C5 := Lib.hid (fun (w : World) (hT : Tab w) => hazard_any 0 n2 a2 b2 c2 i2 w hT)
  rw [hzd_out (s := 0) (by omega)] at C5
  rw [rdl_rrl] at C2
  have hxs := rrl_le n2 a2 b2 c2 i2
  rw [show nxt n a b c i = 0 by simp [nxt, hR]] at C3
  clear C4
  generalize rrl n2 a2 b2 c2 i2 = xs at *
  rw [hR] at C1
  rw [show ((0 : Int) != 0) = false from rfl] at C1
  clear hR
  obtain ⟨R, HR⟩ : ∃ R : Int, Hid (R = 0) := ⟨0, rfl⟩
  rw [← HR.out] at C1
  have hz := hT.size
  go_enter Tryd.func7, Tryd.ntmps7
  go_wp2_with fail
  refine (awake8_any _ (Tab.of_below hT (by repeat (first | (with_reducible exact Below.refl _ _) | (with_reducible apply bDrewN) | (with_reducible apply Below.drew) | ((with_reducible apply bSet); (focus first | (simp; done) | (simp; omega) | omega)) | ((with_reducible apply bAlloc); (focus first | (simp; done) | (simp; omega) | omega)))))).mono ?_
  rintro e w1 ⟨rfl, hb1⟩
  have hT1 : Tab w1 := Tab.of_below (Tab.of_below hT (by repeat (first | (with_reducible exact Below.refl _ _) | (with_reducible apply bDrewN) | (with_reducible apply Below.drew) | ((with_reducible apply bSet); (focus first | (simp; done) | (simp; omega) | omega)) | ((with_reducible apply bAlloc); (focus first | (simp; done) | (simp; omega) | omega))))) hb1
  have sz1_0 : w.heap.size < w1.heap.size := by have h := hb1.size; first | (simp at h; omega) | omega
  have c1_0_0 : w1.cell? ⟨w.heap.size, 0, none⟩ = some (.int .u8 n) := by rw [hb1.cell (p := ⟨w.heap.size, 0, none⟩) (by first | (simp; done) | (simp; omega) | omega)]; first | assumption | (simp [go_sem]; done) | (simp [go_sem, *]; done)
  have c1_0_1 : w1.cell? ⟨w.heap.size, 1, none⟩ = some (.int .i64 a) := by rw [hb1.cell (p := ⟨w.heap.size, 1, none⟩) (by first | (simp; done) | (simp; omega) | omega)]; first | assumption | (simp [go_sem]; done) | (simp [go_sem, *]; done)
  have c1_0_2 : w1.cell? ⟨w.heap.size, 2, none⟩ = some (.int .i64 b) := by rw [hb1.cell (p := ⟨w.heap.size, 2, none⟩) (by first | (simp; done) | (simp; omega) | omega)]; first | assumption | (simp [go_sem]; done) | (simp [go_sem, *]; done)
  have c1_0_3 : w1.cell? ⟨w.heap.size, 3, none⟩ = some (.int .i64 c) := by rw [hb1.cell (p := ⟨w.heap.size, 3, none⟩) (by first | (simp; done) | (simp; omega) | omega)]; first | assumption | (simp [go_sem]; done) | (simp [go_sem, *]; done)
  have c1_0_4 : w1.cell? ⟨w.heap.size, 4, none⟩ = some (.int .i64 i) := by rw [hb1.cell (p := ⟨w.heap.size, 4, none⟩) (by first | (simp; done) | (simp; omega) | omega)]; first | assumption | (simp [go_sem]; done) | (simp [go_sem, *]; done)
  have sz1_1 : w.heap.size + 1 < w1.heap.size := by have h := hb1.size; first | (simp at h; omega) | omega
  have c1_1_0 : w1.cell? ⟨w.heap.size + 1, 0, none⟩ = some (.int .u8 n2) := by rw [hb1.cell (p := ⟨w.heap.size + 1, 0, none⟩) (by first | (simp; done) | (simp; omega) | omega)]; first | assumption | (simp [go_sem]; done) | (simp [go_sem, *]; done)
  have c1_1_1 : w1.cell? ⟨w.heap.size + 1, 1, none⟩ = some (.int .i64 a2) := by rw [hb1.cell (p := ⟨w.heap.size + 1, 1, none⟩) (by first | (simp; done) | (simp; omega) | omega)]; first | assumption | (simp [go_sem]; done) | (simp [go_sem, *]; done)
  have c1_1_2 : w1.cell? ⟨w.heap.size + 1, 2, none⟩ = some (.int .i64 b2) := by rw [hb1.cell (p := ⟨w.heap.size + 1, 2, none⟩) (by first | (simp; done) | (simp; omega) | omega)]; first | assumption | (simp [go_sem]; done) | (simp [go_sem, *]; done)
  have c1_1_3 : w1.cell? ⟨w.heap.size + 1, 3, none⟩ = some (.int .i64 c2) := by rw [hb1.cell (p := ⟨w.heap.size + 1, 3, none⟩) (by first | (simp; done) | (simp; omega) | omega)]; first | assumption | (simp [go_sem]; done) | (simp [go_sem, *]; done)
  have c1_1_4 : w1.cell? ⟨w.heap.size + 1, 4, none⟩ = some (.int .i64 i2) := by rw [hb1.cell (p := ⟨w.heap.size + 1, 4, none⟩) (by first | (simp; done) | (simp; omega) | omega)]; first | assumption | (simp [go_sem]; done) | (simp [go_sem, *]; done)
  have HB1 : Below w.heap.size w w1 := by
    repeat (first | (with_reducible exact Below.refl _ _) | (with_reducible apply bDrewN) | (with_reducible apply Below.drew) | ((with_reducible apply bThen hb1); (focus first | (simp; done) | (simp; omega) | omega)) | ((with_reducible apply bSet); (focus first | (simp; done) | (simp; omega) | omega)) | ((with_reducible apply bAlloc); (focus first | (simp; done) | (simp; omega) | omega)))
  have hsz1 := HB1.size
  clear hb1 
  go_wp2_with fail
  refine (C1.out _ (Tab.of_below hT1 (by repeat (first | (with_reducible exact Below.refl _ _) | (with_reducible apply bDrewN) | (with_reducible apply Below.drew) | ((with_reducible apply bSet); (focus first | (simp; done) | (simp; omega) | omega)) | ((with_reducible apply bAlloc); (focus first | (simp; done) | (simp; omega) | omega)))))).mono ?_
  rintro e w2 ⟨rfl, hb2⟩
  have hT2 : Tab w2 := Tab.of_below (Tab.of_below hT1 (by repeat (first | (with_reducible exact Below.refl _ _) | (with_reducible apply bDrewN) | (with_reducible apply Below.drew) | ((with_reducible apply bSet); (focus first | (simp; done) | (simp; omega) | omega)) | ((with_reducible apply bAlloc); (focus first | (simp; done) | (simp; omega) | omega))))) hb2
  have sz2_0 : w.heap.size < w2.heap.size := by have h := hb2.size; first | (simp at h; omega) | omega
  have c2_0_0 : w2.cell? ⟨w.heap.size, 0, none⟩ = some (.int .u8 n) := by rw [hb2.cell (p := ⟨w.heap.size, 0, none⟩) (by first | (simp; done) | (simp; omega) | omega)]; first | assumption | (simp [go_sem]; done) | (simp [go_sem, *]; done)
  have c2_0_1 : w2.cell? ⟨w.heap.size, 1, none⟩ = some (.int .i64 a) := by rw [hb2.cell (p := ⟨w.heap.size, 1, none⟩) (by first | (simp; done) | (simp; omega) | omega)]; first | assumption | (simp [go_sem]; done) | (simp [go_sem, *]; done)
  have c2_0_2 : w2.cell? ⟨w.heap.size, 2, none⟩ = some (.int .i64 b) := by rw [hb2.cell (p := ⟨w.heap.size, 2, none⟩) (by first | (simp; done) | (simp; omega) | omega)]; first | assumption | (simp [go_sem]; done) | (simp [go_sem, *]; done)
  have c2_0_3 : w2.cell? ⟨w.heap.size, 3, none⟩ = some (.int .i64 c) := by rw [hb2.cell (p := ⟨w.heap.size, 3, none⟩) (by first | (simp; done) | (simp; omega) | omega)]; first | assumption | (simp [go_sem]; done) | (simp [go_sem, *]; done)
  have c2_0_4 : w2.cell? ⟨w.heap.size, 4, none⟩ = some (.int .i64 i) := by rw [hb2.cell (p := ⟨w.heap.size, 4, none⟩) (by first | (simp; done) | (simp; omega) | omega)]; first | assumption | (simp [go_sem]; done) | (simp [go_sem, *]; done)
  have sz2_1 : w.heap.size + 1 < w2.heap.size := by have h := hb2.size; first | (simp at h; omega) | omega
  have c2_1_0 : w2.cell? ⟨w.heap.size + 1, 0, none⟩ = some (.int .u8 n2) := by rw [hb2.cell (p := ⟨w.heap.size + 1, 0, none⟩) (by first | (simp; done) | (simp; omega) | omega)]; first | assumption | (simp [go_sem]; done) | (simp [go_sem, *]; done)
  have c2_1_1 : w2.cell? ⟨w.heap.size + 1, 1, none⟩ = some (.int .i64 a2) := by rw [hb2.cell (p := ⟨w.heap.size + 1, 1, none⟩) (by first | (simp; done) | (simp; omega) | omega)]; first | assumption | (simp [go_sem]; done) | (simp [go_sem, *]; done)
  have c2_1_2 : w2.cell? ⟨w.heap.size + 1, 2, none⟩ = some (.int .i64 b2) := by rw [hb2.cell (p := ⟨w.heap.size + 1, 2, none⟩) (by first | (simp; done) | (simp; omega) | omega)]; first | assumption | (simp [go_sem]; done) | (simp [go_sem, *]; done)
  have c2_1_3 : w2.cell? ⟨w.heap.size + 1, 3, none⟩ = some (.int .i64 c2) := by rw [hb2.cell (p := ⟨w.heap.size + 1, 3, none⟩) (by first | (simp; done) | (simp; omega) | omega)]; first | assumption | (simp [go_sem]; done) | (simp [go_sem, *]; done)
  have c2_1_4 : w2.cell? ⟨w.heap.size + 1, 4, none⟩ = some (.int .i64 i2) := by rw [hb2.cell (p := ⟨w.heap.size + 1, 4, none⟩) (by first | (simp; done) | (simp; omega) | omega)]; first | assumption | (simp [go_sem]; done) | (simp [go_sem, *]; done)
  have HB2 : Below w.heap.size w w2 := by
    repeat (first | (with_reducible exact Below.refl _ _) | (with_reducible apply bDrewN) | (with_reducible apply Below.drew) | (with_reducible exact HB1) | ((with_reducible apply bThen hb2); (focus first | (simp; done) | (simp; omega) | omega)) | ((with_reducible apply bSet); (focus first | (simp; done) | (simp; omega) | omega)) | ((with_reducible apply bAlloc); (focus first | (simp; done) | (simp; omega) | omega)))
  have hsz2 := HB2.size
  clear hb2 sz1_0 c1_0_0 c1_0_1 c1_0_2 c1_0_3 c1_0_4 sz1_1 c1_1_0 c1_1_1 c1_1_2 c1_1_3 c1_1_4 hsz1
  go_wp2_with fail
  refine (C2.out _ (Tab.of_below hT2 (by repeat (first | (with_reducible exact Below.refl _ _) | (with_reducible apply bDrewN) | (with_reducible apply Below.drew) | ((with_reducible apply bSet); (focus first | (simp; done) | (simp; omega) | omega)) | ((with_reducible apply bAlloc); (focus first | (simp; done) | (simp; omega) | omega)))))).mono ?_
  rintro e w3 ⟨v1, rfl, sl1, hb3⟩
  have hT3 : Tab w3 := Tab.of_below (Tab.of_below hT2 (by repeat (first | (with_reducible exact Below.refl _ _) | (with_reducible apply bDrewN) | (with_reducible apply Below.drew) | ((with_reducible apply bSet); (focus first | (simp; done) | (simp; omega) | omega)) | ((with_reducible apply bAlloc); (focus first | (simp; done) | (simp; omega) | omega))))) hb3
  have sz3_0 : w.heap.size < w3.heap.size := by have h := hb3.size; first | (simp at h; omega) | omega
  have c3_0_0 : w3.cell? ⟨w.heap.size, 0, none⟩ = some (.int .u8 n) := by rw [hb3.cell (p := ⟨w.heap.size, 0, none⟩) (by first | (simp; done) | (simp; omega) | omega)]; first | assumption | (simp [go_sem]; done) | (simp [go_sem, *]; done)
  have c3_0_1 : w3.cell? ⟨w.heap.size, 1, none⟩ = some (.int .i64 a) := by rw [hb3.cell (p := ⟨w.heap.size, 1, none⟩) (by first | (simp; done) | (simp; omega) | omega)]; first | assumption | (simp [go_sem]; done) | (simp [go_sem, *]; done)
  have c3_0_2 : w3.cell? ⟨w.heap.size, 2, none⟩ = some (.int .i64 b) := by rw [hb3.cell (p := ⟨w.heap.size, 2, none⟩) (by first | (simp; done) | (simp; omega) | omega)]; first | assumption | (simp [go_sem]; done) | (simp [go_sem, *]; done)
  have c3_0_3 : w3.cell? ⟨w.heap.size, 3, none⟩ = some (.int .i64 c) := by rw [hb3.cell (p := ⟨w.heap.size, 3, none⟩) (by first | (simp; done) | (simp; omega) | omega)]; first | assumption | (simp [go_sem]; done) | (simp [go_sem, *]; done)
  have c3_0_4 : w3.cell? ⟨w.heap.size, 4, none⟩ = some (.int .i64 i) := by rw [hb3.cell (p := ⟨w.heap.size, 4, none⟩) (by first | (simp; done) | (simp; omega) | omega)]; first | assumption | (simp [go_sem]; done) | (simp [go_sem, *]; done)
  have sz3_1 : w.heap.size + 1 < w3.heap.size := by have h := hb3.size; first | (simp at h; omega) | omega
  have c3_1_0 : w3.cell? ⟨w.heap.size + 1, 0, none⟩ = some (.int .u8 n2) := by rw [hb3.cell (p := ⟨w.heap.size + 1, 0, none⟩) (by first | (simp; done) | (simp; omega) | omega)]; first | assumption | (simp [go_sem]; done) | (simp [go_sem, *]; done)
  have c3_1_1 : w3.cell? ⟨w.heap.size + 1, 1, none⟩ = some (.int .i64 a2) := by rw [hb3.cell (p := ⟨w.heap.size + 1, 1, none⟩) (by first | (simp; done) | (simp; omega) | omega)]; first | assumption | (simp [go_sem]; done) | (simp [go_sem, *]; done)
  have c3_1_2 : w3.cell? ⟨w.heap.size + 1, 2, none⟩ = some (.int .i64 b2) := by rw [hb3.cell (p := ⟨w.heap.size + 1, 2, none⟩) (by first | (simp; done) | (simp; omega) | omega)]; first | assumption | (simp [go_sem]; done) | (simp [go_sem, *]; done)
  have c3_1_3 : w3.cell? ⟨w.heap.size + 1, 3, none⟩ = some (.int .i64 c2) := by rw [hb3.cell (p := ⟨w.heap.size + 1, 3, none⟩) (by first | (simp; done) | (simp; omega) | omega)]; first | assumption | (simp [go_sem]; done) | (simp [go_sem, *]; done)
  have c3_1_4 : w3.cell? ⟨w.heap.size + 1, 4, none⟩ = some (.int .i64 i2) := by rw [hb3.cell (p := ⟨w.heap.size + 1, 4, none⟩) (by first | (simp; done) | (simp; omega) | omega)]; first | assumption | (simp [go_sem]; done) | (simp [go_sem, *]; done)
  have HB3 : Below w.heap.size w w3 := by
    repeat (first | (with_reducible exact Below.refl _ _) | (with_reducible apply bDrewN) | (with_reducible apply Below.drew) | (with_reducible exact HB2) | ((with_reducible apply bThen hb3); (focus first | (simp; done) | (simp; omega) | omega)) | ((with_reducible apply bSet); (focus first | (simp; done) | (simp; omega) | omega)) | ((with_reducible apply bAlloc); (focus first | (simp; done) | (simp; omega) | omega)))
  have hsz3 := HB3.size
  clear hb3 sz2_0 c2_0_0 c2_0_1 c2_0_2 c2_0_3 c2_0_4 sz2_1 c2_1_0 c2_1_1 c2_1_2 c2_1_3 c2_1_4 hsz2
  by_cases hx : xs = []
  · skip
    subst hx
    obtain ⟨a1, cap1, rfl⟩ := sl1.nil
    go_wp2_with fail
    refine wp_loop_rounds 1 ?_
    rw [rounds_succ]
    go_wp2_with fail
    have mk : ∀ W : World, Below w3.heap.size w3 W → Below w3.heap.size w3 W ∧ W.cell? ⟨w.heap.size, 0, none⟩ = some (.int .u8 n) ∧ W.cell? ⟨w.heap.size, 1, none⟩ = some (.int .i64 a) ∧ W.cell? ⟨w.heap.size, 2, none⟩ = some (.int .i64 b) ∧ W.cell? ⟨w.heap.size, 3, none⟩ = some (.int .i64 c) ∧ W.cell? ⟨w.heap.size, 4, none⟩ = some (.int .i64 i) ∧ W.cell? ⟨w.heap.size + 1, 0, none⟩ = some (.int .u8 n2) ∧ W.cell? ⟨w.heap.size + 1, 1, none⟩ = some (.int .i64 a2) ∧ W.cell? ⟨w.heap.size + 1, 2, none⟩ = some (.int .i64 b2) ∧ W.cell? ⟨w.heap.size + 1, 3, none⟩ = some (.int .i64 c2) ∧ W.cell? ⟨w.heap.size + 1, 4, none⟩ = some (.int .i64 i2) := fun W hb => ⟨hb, (hb.cell (p := ⟨w.heap.size, 0, none⟩) sz3_0).trans c3_0_0, (hb.cell (p := ⟨w.heap.size, 1, none⟩) sz3_0).trans c3_0_1, (hb.cell (p := ⟨w.heap.size, 2, none⟩) sz3_0).trans c3_0_2, (hb.cell (p := ⟨w.heap.size, 3, none⟩) sz3_0).trans c3_0_3, (hb.cell (p := ⟨w.heap.size, 4, none⟩) sz3_0).trans c3_0_4, (hb.cell (p := ⟨w.heap.size + 1, 0, none⟩) sz3_1).trans c3_1_0, (hb.cell (p := ⟨w.heap.size + 1, 1, none⟩) sz3_1).trans c3_1_1, (hb.cell (p := ⟨w.heap.size + 1, 2, none⟩) sz3_1).trans c3_1_2, (hb.cell (p := ⟨w.heap.size + 1, 3, none⟩) sz3_1).trans c3_1_3, (hb.cell (p := ⟨w.heap.size + 1, 4, none⟩) sz3_1).trans c3_1_4⟩
    have R0 := Lib.hid (show ∀ W : World, Below w3.heap.size w3 W → Calls Tryd.prog 14 #[.agg #[.int .u8 n, .int .i64 a, .int .i64 b, .int .i64 c, .int .i64 i]] W fun e w' => e = .returned (.int .i64 0) ∧ Below w3.heap.size w3 w' ∧ w'.cell? ⟨w.heap.size, 0, none⟩ = some (.int .u8 n) ∧ w'.cell? ⟨w.heap.size, 1, none⟩ = some (.int .i64 a) ∧ w'.cell? ⟨w.heap.size, 2, none⟩ = some (.int .i64 b) ∧ w'.cell? ⟨w.heap.size, 3, none⟩ = some (.int .i64 c) ∧ w'.cell? ⟨w.heap.size, 4, none⟩ = some (.int .i64 i) ∧ w'.cell? ⟨w.heap.size + 1, 0, none⟩ = some (.int .u8 n2) ∧ w'.cell? ⟨w.heap.size + 1, 1, none⟩ = some (.int .i64 a2) ∧ w'.cell? ⟨w.heap.size + 1, 2, none⟩ = some (.int .i64 b2) ∧ w'.cell? ⟨w.heap.size + 1, 3, none⟩ = some (.int .i64 c2) ∧ w'.cell? ⟨w.heap.size + 1, 4, none⟩ = some (.int .i64 i2) from fun W hb => (C3.out W (Tab.of_below hT3 hb)).mono fun e w' ⟨h1, h2⟩ => ⟨h1, mk w' (hb.trans (h2.mono hb.size))⟩)
    have R1 := Lib.hid (show ∀ W : World, Below w3.heap.size w3 W → Calls Tryd.prog 16 #[.int .i64 0, .agg #[.int .u8 n2, .int .i64 a2, .int .i64 b2, .int .i64 c2, .int .i64 i2]] W fun e w' => e = .returned (.bool false) ∧ Below w3.heap.size w3 w' ∧ w'.cell? ⟨w.heap.size, 0, none⟩ = some (.int .u8 n) ∧ w'.cell? ⟨w.heap.size, 1, none⟩ = some (.int .i64 a) ∧ w'.cell? ⟨w.heap.size, 2, none⟩ = some (.int .i64 b) ∧ w'.cell? ⟨w.heap.size, 3, none⟩ = some (.int .i64 c) ∧ w'.cell? ⟨w.heap.size, 4, none⟩ = some (.int .i64 i) ∧ w'.cell? ⟨w.heap.size + 1, 0, none⟩ = some (.int .u8 n2) ∧ w'.cell? ⟨w.heap.size + 1, 1, none⟩ = some (.int .i64 a2) ∧ w'.cell? ⟨w.heap.size + 1, 2, none⟩ = some (.int .i64 b2) ∧ w'.cell? ⟨w.heap.size + 1, 3, none⟩ = some (.int .i64 c2) ∧ w'.cell? ⟨w.heap.size + 1, 4, none⟩ = some (.int .i64 i2) from fun W hb => (C5.out W (Tab.of_below hT3 hb)).mono fun e w' ⟨h1, h2⟩ => ⟨h1, mk w' (hb.trans (h2.mono hb.size))⟩)
    have hs0 := mk w3.drew (Below.refl _ _).drew
    clear mk
    refine wp_region_held_drew (S := fun w' => Below w3.heap.size w3 w' ∧ w'.cell? ⟨w.heap.size, 0, none⟩ = some (.int .u8 n) ∧ w'.cell? ⟨w.heap.size, 1, none⟩ = some (.int .i64 a) ∧ w'.cell? ⟨w.heap.size, 2, none⟩ = some (.int .i64 b) ∧ w'.cell? ⟨w.heap.size, 3, none⟩ = some (.int .i64 c) ∧ w'.cell? ⟨w.heap.size, 4, none⟩ = some (.int .i64 i) ∧ w'.cell? ⟨w.heap.size + 1, 0, none⟩ = some (.int .u8 n2) ∧ w'.cell? ⟨w.heap.size + 1, 1, none⟩ = some (.int .i64 a2) ∧ w'.cell? ⟨w.heap.size + 1, 2, none⟩ = some (.int .i64 b2) ∧ w'.cell? ⟨w.heap.size + 1, 3, none⟩ = some (.int .i64 c2) ∧ w'.cell? ⟨w.heap.size + 1, 4, none⟩ = some (.int .i64 i2)) (by kernel_rfl) hs0 (fun hHeld => ?_)
    refine wpAnyH_take (i := 0) (oi := { dst := some 48, op := Go.Op.load 25 (Go.Operand.tmp 2), type := 25, pos := "law.go:137", after := #[], guard := none }) (v := ?_) rfl (by kernel_rfl) (by kernel_rfl) (by kernel_rfl) (fun _ _ _ h => h) (Or.inl ⟨by rfl, ?_⟩) hHeld ?_
    rotate_left
    · intro w hSw; (try dsimp only at hSw); go_simp; try (with_reducible rfl)
    try simp only [Act.put, List.setIfInBounds_toArray, List.set_cons_zero, List.set_cons_succ]
    refine wpAnyH_take (i := 2) (oi := { dst := some 50, op := Go.Op.load 25 (Go.Operand.tmp 3), type := 25, pos := "law.go:137", after := #[], guard := none }) (v := ?_) rfl (by kernel_rfl) (by kernel_rfl) (by kernel_rfl) (fun _ _ _ h => h) (Or.inl ⟨by rfl, ?_⟩) hHeld ?_
    rotate_left
    · intro w hSw; (try dsimp only at hSw); go_simp; try (with_reducible rfl)
    try simp only [Act.put, List.setIfInBounds_toArray, List.set_cons_zero, List.set_cons_succ]
    refine wpAnyH_take (i := 4) (oi := { dst := some 52, op := Go.Op.move (Go.Operand.tmp 7), type := 4, pos := "law.go:137", after := #[], guard := none }) (v := ?_) rfl (by kernel_rfl) (by kernel_rfl) (by kernel_rfl) (fun _ _ _ h => h) (Or.inl ⟨by rfl, ?_⟩) hHeld ?_
    rotate_left
    · intro w hSw; (try dsimp only at hSw); go_simp; try (with_reducible rfl)
    try simp only [Act.put, List.setIfInBounds_toArray, List.set_cons_zero, List.set_cons_succ]
    refine wpAnyH_ready (rs := [1]) (by kernel_rfl) (by simp) ?_
    refine AllReadyH.cons (o := { dst := some 49, op := Go.Op.call { callee := Go.Callee.value (Go.Operand.func 14), args := #[Go.Operand.tmp 48], argTypes := #[25] }, type := 28, pos := "law.go:137", after := #[{ on := 0, ground := Go.Ground.data }], guard := none }) rfl (fun K hK => ?_) AllReadyH.nil
    go_simp
    (with_reducible refine (R0.out _ ?_).mono ?_); (simp [*]); rintro e w' ⟨rfl, hS⟩
    first | (refine hK.out _ _ ?_ (fun hHeld => ?_)) | (go_wp2_with fail; refine hK.out _ _ ?_ (fun hHeld => ?_))
    · (try dsimp only); (first | assumption | (simp [*]; done))
    clear hK K
    try simp only [Act.put, List.setIfInBounds_toArray, List.set_cons_zero, List.set_cons_succ]
    refine wpAnyH_ready (rs := [3]) (by kernel_rfl) (by simp) ?_
    refine AllReadyH.cons (o := { dst := some 51, op := Go.Op.call { callee := Go.Callee.value (Go.Operand.func 16), args := #[Go.Operand.tmp 49, Go.Operand.tmp 50], argTypes := #[28, 25] }, type := 4, pos := "law.go:137", after := #[{ on := 1, ground := Go.Ground.data }, { on := 2, ground := Go.Ground.data }, { on := 1, ground := Go.Ground.chain }], guard := none }) rfl (fun K hK => ?_) AllReadyH.nil
    go_simp
    (with_reducible refine (R1.out _ ?_).mono ?_); (simp [*]); rintro e w' ⟨rfl, hS⟩
    first | (refine hK.out _ _ ?_ (fun hHeld => ?_)) | (go_wp2_with fail; refine hK.out _ _ ?_ (fun hHeld => ?_))
    · (try dsimp only); (first | assumption | (simp [*]; done))
    clear hK K
    try simp only [Act.put, List.setIfInBounds_toArray, List.set_cons_zero, List.set_cons_succ]
    refine wpAnyH_take (i := 5) (oi := { dst := some 53, op := Go.Op.move (Go.Operand.tmp 52), type := 4, pos := "law.go:137", after := #[{ on := 4, ground := Go.Ground.data }, { on := 3, ground := Go.Ground.chain }], guard := none }) (v := ?_) rfl (by kernel_rfl) (by kernel_rfl) (by kernel_rfl) (fun _ _ _ h => h) (Or.inl ⟨by rfl, ?_⟩) hHeld ?_
    rotate_left
    · intro w hSw; (try dsimp only at hSw); go_simp; try (with_reducible rfl)
    try simp only [Act.put, List.setIfInBounds_toArray, List.set_cons_zero, List.set_cons_succ]
    refine wpAnyH_take (i := 6) (oi := { dst := some 54, op := Go.Op.move (Go.Operand.tmp 8), type := 4, pos := "law.go:137", after := #[{ on := 5, ground := Go.Ground.guard }], guard := some (5, true) }) rfl (by kernel_rfl) (by kernel_rfl) (by kernel_rfl) (fun _ _ _ h => h) (Or.inr ⟨by rfl, rfl⟩) hHeld ?_
    try simp only [Act.put, List.setIfInBounds_toArray, List.set_cons_zero, List.set_cons_succ]
    refine wpAnyH_take (i := 7) (oi := { dst := some 55, op := Go.Op.pick (Go.Operand.tmp 53) (Go.Operand.tmp 54) (Go.Operand.const (Go.Value.bool false)), type := 4, pos := "law.go:137", after := #[{ on := 5, ground := Go.Ground.data }, { on := 6, ground := Go.Ground.data }], guard := none }) (v := ?_) rfl (by kernel_rfl) (by kernel_rfl) (by kernel_rfl) (fun _ _ _ h => h) (Or.inl ⟨by rfl, ?_⟩) hHeld ?_
    rotate_left
    · intro w hSw; (try dsimp only at hSw); go_simp; try (with_reducible rfl)
    try simp only [Act.put, List.setIfInBounds_toArray, List.set_cons_zero, List.set_cons_succ]
    refine wpAnyH_take (i := 8) (oi := { dst := some 56, op := Go.Op.binOp Go.BinOp.eql 4 (Go.Operand.tmp 51) (Go.Operand.tmp 55) 4, type := 4, pos := "law.go:137", after := #[{ on := 3, ground := Go.Ground.data }, { on := 7, ground := Go.Ground.data }], guard := none }) (v := ?_) rfl (by kernel_rfl) (by kernel_rfl) (by kernel_rfl) (fun _ _ _ h => h) (Or.inl ⟨by rfl, ?_⟩) hHeld ?_
    rotate_left
    · intro w hSw; (try dsimp only at hSw); go_simp; try (with_reducible rfl)
    try simp only [Act.put, List.setIfInBounds_toArray, List.set_cons_zero, List.set_cons_succ]
    refine wpAnyH_take (i := 9) (oi := { dst := some 57, op := Go.Op.move (Go.Operand.tmp 56), type := 4, pos := "law.go:137", after := #[{ on := 8, ground := Go.Ground.data }, { on := 5, ground := Go.Ground.chain }], guard := none }) (v := ?_) rfl (by kernel_rfl) (by kernel_rfl) (by kernel_rfl) (fun _ _ _ h => h) (Or.inl ⟨by rfl, ?_⟩) hHeld ?_
    rotate_left
    · intro w hSw; (try dsimp only at hSw); go_simp; try (with_reducible rfl)
    try simp only [Act.put, List.setIfInBounds_toArray, List.set_cons_zero, List.set_cons_succ]
    refine wpAnyH_take (i := 10) (oi := { dst := some 58, op := Go.Op.load 25 (Go.Operand.tmp 3), type := 25, pos := "law.go:137", after := #[{ on := 9, ground := Go.Ground.guard }], guard := some (9, true) }) (v := ?_) rfl (by kernel_rfl) (by kernel_rfl) (by kernel_rfl) (fun _ _ _ h => h) (Or.inl ⟨by rfl, ?_⟩) hHeld ?_
    rotate_left
    · intro w hSw; (try dsimp only at hSw); go_simp; try (with_reducible rfl)
    try simp only [Act.put, List.setIfInBounds_toArray, List.set_cons_zero, List.set_cons_succ]
    refine wpAnyH_ready (rs := [11]) (by kernel_rfl) (by simp) ?_
    refine AllReadyH.cons (o := { dst := some 59, op := Go.Op.call { callee := Go.Callee.value (Go.Operand.func 16), args := #[Go.Operand.const (Go.Value.int Go.IntKind.i64 0), Go.Operand.tmp 58], argTypes := #[28, 25] }, type := 4, pos := "law.go:137", after := #[{ on := 10, ground := Go.Ground.data }, { on := 9, ground := Go.Ground.chain }, { on := 9, ground := Go.Ground.guard }], guard := some (9, true) }) rfl (fun K hK => ?_) AllReadyH.nil
    go_simp
    (with_reducible refine (R1.out _ ?_).mono ?_); (simp [*]); rintro e w' ⟨rfl, hS⟩
    first | (refine hK.out _ _ ?_ (fun hHeld => ?_)) | (go_wp2_with fail; refine hK.out _ _ ?_ (fun hHeld => ?_))
    · (try dsimp only); (first | assumption | (simp [*]; done))
    clear hK K
    try simp only [Act.put, List.setIfInBounds_toArray, List.set_cons_zero, List.set_cons_succ]
    refine wpAnyH_take (i := 12) (oi := { dst := some 60, op := Go.Op.unOp Go.UnOp.not 4 (Go.Operand.tmp 59), type := 4, pos := "law.go:137", after := #[{ on := 11, ground := Go.Ground.data }, { on := 9, ground := Go.Ground.guard }], guard := some (9, true) }) (v := ?_) rfl (by kernel_rfl) (by kernel_rfl) (by kernel_rfl) (fun _ _ _ h => h) (Or.inl ⟨by rfl, ?_⟩) hHeld ?_
    rotate_left
    · intro w hSw; (try dsimp only at hSw); go_simp; try (with_reducible rfl)
    try simp only [Act.put, List.setIfInBounds_toArray, List.set_cons_zero, List.set_cons_succ]
    refine wpAnyH_take (i := 13) (oi := { dst := some 61, op := Go.Op.pick (Go.Operand.tmp 57) (Go.Operand.tmp 60) (Go.Operand.const (Go.Value.bool false)), type := 4, pos := "law.go:137", after := #[{ on := 9, ground := Go.Ground.data }, { on := 12, ground := Go.Ground.data }], guard := none }) (v := ?_) rfl (by kernel_rfl) (by kernel_rfl) (by kernel_rfl) (fun _ _ _ h => h) (Or.inl ⟨by rfl, ?_⟩) hHeld ?_
    rotate_left
    · intro w hSw; (try dsimp only at hSw); go_simp; try (with_reducible rfl)
    try simp only [Act.put, List.setIfInBounds_toArray, List.set_cons_zero, List.set_cons_succ]
    refine wpAnyH_take (i := 14) (oi := { dst := some 4, op := Go.Op.assign (Go.Operand.tmp 61), type := 4, pos := "law.go:137", after := #[{ on := 13, ground := Go.Ground.data }, { on := 11, ground := Go.Ground.chain }, { on := 0, ground := Go.Ground.phase }, { on := 1, ground := Go.Ground.phase }, { on := 2, ground := Go.Ground.phase }, { on := 3, ground := Go.Ground.phase }, { on := 4, ground := Go.Ground.phase }, { on := 5, ground := Go.Ground.phase }, { on := 6, ground := Go.Ground.phase }, { on := 7, ground := Go.Ground.phase }, { on := 8, ground := Go.Ground.phase }, { on := 9, ground := Go.Ground.phase }, { on := 10, ground := Go.Ground.phase }, { on := 11, ground := Go.Ground.phase }, { on := 12, ground := Go.Ground.phase }, { on := 13, ground := Go.Ground.phase }], guard := none }) (v := ?_) rfl (by kernel_rfl) (by kernel_rfl) (by kernel_rfl) (fun _ _ _ h => h) (Or.inl ⟨by rfl, ?_⟩) hHeld ?_
    rotate_left
    · intro w hSw; (try dsimp only at hSw); go_simp; try (with_reducible rfl)
    try simp only [Act.put, List.setIfInBounds_toArray, List.set_cons_zero, List.set_cons_succ]
    refine wpAnyH_done (by kernel_rfl) ?_ _
    go_wp2_with fail
    go_ret
    refine ⟨by simp, ?_⟩
    first | exact bThen (W := w3) (by assumption) (by omega) HB3 | (go_split_ands; exact bThen (W := w3) (by assumption) (by omega) HB3)
  · skip
    obtain ⟨g1, cap1, rfl, hg1, hg1', hc1⟩ := sl1.some hx
    have HC := Lib.hid hc1
    clear hc1 sl1
    have hpos : 0 < xs.length := List.length_pos_iff.2 hx
    go_wp2_with fail
    go_loopw [8, 10, 37, 40] (fun rv x1 r x2 wr => ∃ (k : Nat) (u : Bool), k ≤ xs.length ∧ rv = .bool u ∧ r = .int .i64 k ∧ Hid (u = (xs.take k).contains R) ∧ w3 = wr) (fun _ _ r _ _ => xs.length - (intOf r).toNat)
    case atStart => exact ⟨0, false, by omega, rfl, rfl, rfl, rfl⟩
    case round =>
      obtain ⟨k, u, hk, rfl, rfl, hu, rfl⟩ := hrel
      by_cases hlt : k < xs.length
      · have d1 := HC.out k hlt
        have hkI : (k : Int) < xs.length := by omega
        generalize hz : xs.getD k 0 = z at d1
        have HZ := Lib.hid hz
        clear hz
        cases u
        · by_cases hzs : z = R
          · subst hzs
            go_wp2_with fail
            go_roundw
            case rel => exact ⟨k + 1, true, by omega, by simp, by go_num, show true = _ by rw [contains_take hlt HZ.out]; simp, by first | rfl | trivial⟩
            case measure => simp [intOf]; omega
          · have hb : (z == R) = false := by simpa using hzs
            go_wp2_with fail
            go_roundw
            case rel => exact ⟨k + 1, false, by omega, by simp, by go_num, show false = _ by rw [contains_take hlt HZ.out, ← Hid.out hu, hb]; rfl, by first | rfl | trivial⟩
            case measure => simp [intOf]; omega
        · go_wp2_with fail
          go_roundw
          case rel => exact ⟨k + 1, true, by omega, by simp, by go_num, show true = _ by rw [contains_take hlt HZ.out, ← Hid.out hu]; rfl, by first | rfl | trivial⟩
          case measure => simp [intOf]; omega
      · have hkI : ¬ (k : Int) < xs.length := by omega
        have e1 := Hid.out hu
        rw [List.take_of_length_le (by omega)] at e1
        clear hu
        clear e1
        cases u
        · skip
          go_wp2_with fail
          have mk : ∀ W : World, Below w3.heap.size w3 W → Below w3.heap.size w3 W ∧ W.cell? ⟨w.heap.size, 0, none⟩ = some (.int .u8 n) ∧ W.cell? ⟨w.heap.size, 1, none⟩ = some (.int .i64 a) ∧ W.cell? ⟨w.heap.size, 2, none⟩ = some (.int .i64 b) ∧ W.cell? ⟨w.heap.size, 3, none⟩ = some (.int .i64 c) ∧ W.cell? ⟨w.heap.size, 4, none⟩ = some (.int .i64 i) ∧ W.cell? ⟨w.heap.size + 1, 0, none⟩ = some (.int .u8 n2) ∧ W.cell? ⟨w.heap.size + 1, 1, none⟩ = some (.int .i64 a2) ∧ W.cell? ⟨w.heap.size + 1, 2, none⟩ = some (.int .i64 b2) ∧ W.cell? ⟨w.heap.size + 1, 3, none⟩ = some (.int .i64 c2) ∧ W.cell? ⟨w.heap.size + 1, 4, none⟩ = some (.int .i64 i2) := fun W hb => ⟨hb, (hb.cell (p := ⟨w.heap.size, 0, none⟩) sz3_0).trans c3_0_0, (hb.cell (p := ⟨w.heap.size, 1, none⟩) sz3_0).trans c3_0_1, (hb.cell (p := ⟨w.heap.size, 2, none⟩) sz3_0).trans c3_0_2, (hb.cell (p := ⟨w.heap.size, 3, none⟩) sz3_0).trans c3_0_3, (hb.cell (p := ⟨w.heap.size, 4, none⟩) sz3_0).trans c3_0_4, (hb.cell (p := ⟨w.heap.size + 1, 0, none⟩) sz3_1).trans c3_1_0, (hb.cell (p := ⟨w.heap.size + 1, 1, none⟩) sz3_1).trans c3_1_1, (hb.cell (p := ⟨w.heap.size + 1, 2, none⟩) sz3_1).trans c3_1_2, (hb.cell (p := ⟨w.heap.size + 1, 3, none⟩) sz3_1).trans c3_1_3, (hb.cell (p := ⟨w.heap.size + 1, 4, none⟩) sz3_1).trans c3_1_4⟩
          have R0 := Lib.hid (show ∀ W : World, Below w3.heap.size w3 W → Calls Tryd.prog 14 #[.agg #[.int .u8 n, .int .i64 a, .int .i64 b, .int .i64 c, .int .i64 i]] W fun e w' => e = .returned (.int .i64 0) ∧ Below w3.heap.size w3 w' ∧ w'.cell? ⟨w.heap.size, 0, none⟩ = some (.int .u8 n) ∧ w'.cell? ⟨w.heap.size, 1, none⟩ = some (.int .i64 a) ∧ w'.cell? ⟨w.heap.size, 2, none⟩ = some (.int .i64 b) ∧ w'.cell? ⟨w.heap.size, 3, none⟩ = some (.int .i64 c) ∧ w'.cell? ⟨w.heap.size, 4, none⟩ = some (.int .i64 i) ∧ w'.cell? ⟨w.heap.size + 1, 0, none⟩ = some (.int .u8 n2) ∧ w'.cell? ⟨w.heap.size + 1, 1, none⟩ = some (.int .i64 a2) ∧ w'.cell? ⟨w.heap.size + 1, 2, none⟩ = some (.int .i64 b2) ∧ w'.cell? ⟨w.heap.size + 1, 3, none⟩ = some (.int .i64 c2) ∧ w'.cell? ⟨w.heap.size + 1, 4, none⟩ = some (.int .i64 i2) from fun W hb => (C3.out W (Tab.of_below hT3 hb)).mono fun e w' ⟨h1, h2⟩ => ⟨h1, mk w' (hb.trans (h2.mono hb.size))⟩)
          have R1 := Lib.hid (show ∀ W : World, Below w3.heap.size w3 W → Calls Tryd.prog 16 #[.int .i64 0, .agg #[.int .u8 n2, .int .i64 a2, .int .i64 b2, .int .i64 c2, .int .i64 i2]] W fun e w' => e = .returned (.bool false) ∧ Below w3.heap.size w3 w' ∧ w'.cell? ⟨w.heap.size, 0, none⟩ = some (.int .u8 n) ∧ w'.cell? ⟨w.heap.size, 1, none⟩ = some (.int .i64 a) ∧ w'.cell? ⟨w.heap.size, 2, none⟩ = some (.int .i64 b) ∧ w'.cell? ⟨w.heap.size, 3, none⟩ = some (.int .i64 c) ∧ w'.cell? ⟨w.heap.size, 4, none⟩ = some (.int .i64 i) ∧ w'.cell? ⟨w.heap.size + 1, 0, none⟩ = some (.int .u8 n2) ∧ w'.cell? ⟨w.heap.size + 1, 1, none⟩ = some (.int .i64 a2) ∧ w'.cell? ⟨w.heap.size + 1, 2, none⟩ = some (.int .i64 b2) ∧ w'.cell? ⟨w.heap.size + 1, 3, none⟩ = some (.int .i64 c2) ∧ w'.cell? ⟨w.heap.size + 1, 4, none⟩ = some (.int .i64 i2) from fun W hb => (C5.out W (Tab.of_below hT3 hb)).mono fun e w' ⟨h1, h2⟩ => ⟨h1, mk w' (hb.trans (h2.mono hb.size))⟩)
          have hs0 := mk w3.drew (Below.refl _ _).drew
          clear mk
          refine wp_region_held_drew (S := fun w' => Below w3.heap.size w3 w' ∧ w'.cell? ⟨w.heap.size, 0, none⟩ = some (.int .u8 n) ∧ w'.cell? ⟨w.heap.size, 1, none⟩ = some (.int .i64 a) ∧ w'.cell? ⟨w.heap.size, 2, none⟩ = some (.int .i64 b) ∧ w'.cell? ⟨w.heap.size, 3, none⟩ = some (.int .i64 c) ∧ w'.cell? ⟨w.heap.size, 4, none⟩ = some (.int .i64 i) ∧ w'.cell? ⟨w.heap.size + 1, 0, none⟩ = some (.int .u8 n2) ∧ w'.cell? ⟨w.heap.size + 1, 1, none⟩ = some (.int .i64 a2) ∧ w'.cell? ⟨w.heap.size + 1, 2, none⟩ = some (.int .i64 b2) ∧ w'.cell? ⟨w.heap.size + 1, 3, none⟩ = some (.int .i64 c2) ∧ w'.cell? ⟨w.heap.size + 1, 4, none⟩ = some (.int .i64 i2)) (by kernel_rfl) hs0 (fun hHeld => ?_)
          refine wpAnyH_take (i := 0) (oi := { dst := some 48, op := Go.Op.load 25 (Go.Operand.tmp 2), type := 25, pos := "law.go:137", after := #[], guard := none }) (v := ?_) rfl (by kernel_rfl) (by kernel_rfl) (by kernel_rfl) (fun _ _ _ h => h) (Or.inl ⟨by rfl, ?_⟩) hHeld ?_
          rotate_left
          · intro w hSw; (try dsimp only at hSw); go_simp; try (with_reducible rfl)
          try simp only [Act.put, List.setIfInBounds_toArray, List.set_cons_zero, List.set_cons_succ]
          refine wpAnyH_take (i := 2) (oi := { dst := some 50, op := Go.Op.load 25 (Go.Operand.tmp 3), type := 25, pos := "law.go:137", after := #[], guard := none }) (v := ?_) rfl (by kernel_rfl) (by kernel_rfl) (by kernel_rfl) (fun _ _ _ h => h) (Or.inl ⟨by rfl, ?_⟩) hHeld ?_
          rotate_left
          · intro w hSw; (try dsimp only at hSw); go_simp; try (with_reducible rfl)
          try simp only [Act.put, List.setIfInBounds_toArray, List.set_cons_zero, List.set_cons_succ]
          refine wpAnyH_take (i := 4) (oi := { dst := some 52, op := Go.Op.move (Go.Operand.tmp 7), type := 4, pos := "law.go:137", after := #[], guard := none }) (v := ?_) rfl (by kernel_rfl) (by kernel_rfl) (by kernel_rfl) (fun _ _ _ h => h) (Or.inl ⟨by rfl, ?_⟩) hHeld ?_
          rotate_left
          · intro w hSw; (try dsimp only at hSw); go_simp; try (with_reducible rfl)
          try simp only [Act.put, List.setIfInBounds_toArray, List.set_cons_zero, List.set_cons_succ]
          refine wpAnyH_ready (rs := [1]) (by kernel_rfl) (by simp) ?_
          refine AllReadyH.cons (o := { dst := some 49, op := Go.Op.call { callee := Go.Callee.value (Go.Operand.func 14), args := #[Go.Operand.tmp 48], argTypes := #[25] }, type := 28, pos := "law.go:137", after := #[{ on := 0, ground := Go.Ground.data }], guard := none }) rfl (fun K hK => ?_) AllReadyH.nil
          go_simp
          (with_reducible refine (R0.out _ ?_).mono ?_); (simp [*]); rintro e w' ⟨rfl, hS⟩
          first | (refine hK.out _ _ ?_ (fun hHeld => ?_)) | (go_wp2_with fail; refine hK.out _ _ ?_ (fun hHeld => ?_))
          · (try dsimp only); (first | assumption | (simp [*]; done))
          clear hK K
          try simp only [Act.put, List.setIfInBounds_toArray, List.set_cons_zero, List.set_cons_succ]
          refine wpAnyH_ready (rs := [3]) (by kernel_rfl) (by simp) ?_
          refine AllReadyH.cons (o := { dst := some 51, op := Go.Op.call { callee := Go.Callee.value (Go.Operand.func 16), args := #[Go.Operand.tmp 49, Go.Operand.tmp 50], argTypes := #[28, 25] }, type := 4, pos := "law.go:137", after := #[{ on := 1, ground := Go.Ground.data }, { on := 2, ground := Go.Ground.data }, { on := 1, ground := Go.Ground.chain }], guard := none }) rfl (fun K hK => ?_) AllReadyH.nil
          go_simp
          (with_reducible refine (R1.out _ ?_).mono ?_); (simp [*]); rintro e w' ⟨rfl, hS⟩
          first | (refine hK.out _ _ ?_ (fun hHeld => ?_)) | (go_wp2_with fail; refine hK.out _ _ ?_ (fun hHeld => ?_))
          · (try dsimp only); (first | assumption | (simp [*]; done))
          clear hK K
          try simp only [Act.put, List.setIfInBounds_toArray, List.set_cons_zero, List.set_cons_succ]
          refine wpAnyH_take (i := 5) (oi := { dst := some 53, op := Go.Op.move (Go.Operand.tmp 52), type := 4, pos := "law.go:137", after := #[{ on := 4, ground := Go.Ground.data }, { on := 3, ground := Go.Ground.chain }], guard := none }) (v := ?_) rfl (by kernel_rfl) (by kernel_rfl) (by kernel_rfl) (fun _ _ _ h => h) (Or.inl ⟨by rfl, ?_⟩) hHeld ?_
          rotate_left
          · intro w hSw; (try dsimp only at hSw); go_simp; try (with_reducible rfl)
          try simp only [Act.put, List.setIfInBounds_toArray, List.set_cons_zero, List.set_cons_succ]
          refine wpAnyH_take (i := 6) (oi := { dst := some 54, op := Go.Op.move (Go.Operand.tmp 8), type := 4, pos := "law.go:137", after := #[{ on := 5, ground := Go.Ground.guard }], guard := some (5, true) }) rfl (by kernel_rfl) (by kernel_rfl) (by kernel_rfl) (fun _ _ _ h => h) (Or.inr ⟨by rfl, rfl⟩) hHeld ?_
          try simp only [Act.put, List.setIfInBounds_toArray, List.set_cons_zero, List.set_cons_succ]
          refine wpAnyH_take (i := 7) (oi := { dst := some 55, op := Go.Op.pick (Go.Operand.tmp 53) (Go.Operand.tmp 54) (Go.Operand.const (Go.Value.bool false)), type := 4, pos := "law.go:137", after := #[{ on := 5, ground := Go.Ground.data }, { on := 6, ground := Go.Ground.data }], guard := none }) (v := ?_) rfl (by kernel_rfl) (by kernel_rfl) (by kernel_rfl) (fun _ _ _ h => h) (Or.inl ⟨by rfl, ?_⟩) hHeld ?_
          rotate_left
          · intro w hSw; (try dsimp only at hSw); go_simp; try (with_reducible rfl)
          try simp only [Act.put, List.setIfInBounds_toArray, List.set_cons_zero, List.set_cons_succ]
          refine wpAnyH_take (i := 8) (oi := { dst := some 56, op := Go.Op.binOp Go.BinOp.eql 4 (Go.Operand.tmp 51) (Go.Operand.tmp 55) 4, type := 4, pos := "law.go:137", after := #[{ on := 3, ground := Go.Ground.data }, { on := 7, ground := Go.Ground.data }], guard := none }) (v := ?_) rfl (by kernel_rfl) (by kernel_rfl) (by kernel_rfl) (fun _ _ _ h => h) (Or.inl ⟨by rfl, ?_⟩) hHeld ?_
          rotate_left
          · intro w hSw; (try dsimp only at hSw); go_simp; try (with_reducible rfl)
          try simp only [Act.put, List.setIfInBounds_toArray, List.set_cons_zero, List.set_cons_succ]
          refine wpAnyH_take (i := 9) (oi := { dst := some 57, op := Go.Op.move (Go.Operand.tmp 56), type := 4, pos := "law.go:137", after := #[{ on := 8, ground := Go.Ground.data }, { on := 5, ground := Go.Ground.chain }], guard := none }) (v := ?_) rfl (by kernel_rfl) (by kernel_rfl) (by kernel_rfl) (fun _ _ _ h => h) (Or.inl ⟨by rfl, ?_⟩) hHeld ?_
          rotate_left
          · intro w hSw; (try dsimp only at hSw); go_simp; try (with_reducible rfl)
          try simp only [Act.put, List.setIfInBounds_toArray, List.set_cons_zero, List.set_cons_succ]
          refine wpAnyH_take (i := 10) (oi := { dst := some 58, op := Go.Op.load 25 (Go.Operand.tmp 3), type := 25, pos := "law.go:137", after := #[{ on := 9, ground := Go.Ground.guard }], guard := some (9, true) }) (v := ?_) rfl (by kernel_rfl) (by kernel_rfl) (by kernel_rfl) (fun _ _ _ h => h) (Or.inl ⟨by rfl, ?_⟩) hHeld ?_
          rotate_left
          · intro w hSw; (try dsimp only at hSw); go_simp; try (with_reducible rfl)
          try simp only [Act.put, List.setIfInBounds_toArray, List.set_cons_zero, List.set_cons_succ]
          refine wpAnyH_ready (rs := [11]) (by kernel_rfl) (by simp) ?_
          refine AllReadyH.cons (o := { dst := some 59, op := Go.Op.call { callee := Go.Callee.value (Go.Operand.func 16), args := #[Go.Operand.const (Go.Value.int Go.IntKind.i64 0), Go.Operand.tmp 58], argTypes := #[28, 25] }, type := 4, pos := "law.go:137", after := #[{ on := 10, ground := Go.Ground.data }, { on := 9, ground := Go.Ground.chain }, { on := 9, ground := Go.Ground.guard }], guard := some (9, true) }) rfl (fun K hK => ?_) AllReadyH.nil
          go_simp
          (with_reducible refine (R1.out _ ?_).mono ?_); (simp [*]); rintro e w' ⟨rfl, hS⟩
          first | (refine hK.out _ _ ?_ (fun hHeld => ?_)) | (go_wp2_with fail; refine hK.out _ _ ?_ (fun hHeld => ?_))
          · (try dsimp only); (first | assumption | (simp [*]; done))
          clear hK K
          try simp only [Act.put, List.setIfInBounds_toArray, List.set_cons_zero, List.set_cons_succ]
          refine wpAnyH_take (i := 12) (oi := { dst := some 60, op := Go.Op.unOp Go.UnOp.not 4 (Go.Operand.tmp 59), type := 4, pos := "law.go:137", after := #[{ on := 11, ground := Go.Ground.data }, { on := 9, ground := Go.Ground.guard }], guard := some (9, true) }) (v := ?_) rfl (by kernel_rfl) (by kernel_rfl) (by kernel_rfl) (fun _ _ _ h => h) (Or.inl ⟨by rfl, ?_⟩) hHeld ?_
          rotate_left
          · intro w hSw; (try dsimp only at hSw); go_simp; try (with_reducible rfl)
          try simp only [Act.put, List.setIfInBounds_toArray, List.set_cons_zero, List.set_cons_succ]
          refine wpAnyH_take (i := 13) (oi := { dst := some 61, op := Go.Op.pick (Go.Operand.tmp 57) (Go.Operand.tmp 60) (Go.Operand.const (Go.Value.bool false)), type := 4, pos := "law.go:137", after := #[{ on := 9, ground := Go.Ground.data }, { on := 12, ground := Go.Ground.data }], guard := none }) (v := ?_) rfl (by kernel_rfl) (by kernel_rfl) (by kernel_rfl) (fun _ _ _ h => h) (Or.inl ⟨by rfl, ?_⟩) hHeld ?_
          rotate_left
          · intro w hSw; (try dsimp only at hSw); go_simp; try (with_reducible rfl)
          try simp only [Act.put, List.setIfInBounds_toArray, List.set_cons_zero, List.set_cons_succ]
          refine wpAnyH_take (i := 14) (oi := { dst := some 4, op := Go.Op.assign (Go.Operand.tmp 61), type := 4, pos := "law.go:137", after := #[{ on := 13, ground := Go.Ground.data }, { on := 11, ground := Go.Ground.chain }, { on := 0, ground := Go.Ground.phase }, { on := 1, ground := Go.Ground.phase }, { on := 2, ground := Go.Ground.phase }, { on := 3, ground := Go.Ground.phase }, { on := 4, ground := Go.Ground.phase }, { on := 5, ground := Go.Ground.phase }, { on := 6, ground := Go.Ground.phase }, { on := 7, ground := Go.Ground.phase }, { on := 8, ground := Go.Ground.phase }, { on := 9, ground := Go.Ground.phase }, { on := 10, ground := Go.Ground.phase }, { on := 11, ground := Go.Ground.phase }, { on := 12, ground := Go.Ground.phase }, { on := 13, ground := Go.Ground.phase }], guard := none }) (v := ?_) rfl (by kernel_rfl) (by kernel_rfl) (by kernel_rfl) (fun _ _ _ h => h) (Or.inl ⟨by rfl, ?_⟩) hHeld ?_
          rotate_left
          · intro w hSw; (try dsimp only at hSw); go_simp; try (with_reducible rfl)
          try simp only [Act.put, List.setIfInBounds_toArray, List.set_cons_zero, List.set_cons_succ]
          refine wpAnyH_done (by kernel_rfl) ?_ _
          go_wp2_with fail
          go_ret
          refine ⟨by simp, ?_⟩
          first | exact bThen (W := w3) (by assumption) (by omega) HB3 | (go_split_ands; exact bThen (W := w3) (by assumption) (by omega) HB3)
        · skip
          go_wp2_with fail
          have mk : ∀ W : World, Below w3.heap.size w3 W → Below w3.heap.size w3 W ∧ W.cell? ⟨w.heap.size, 0, none⟩ = some (.int .u8 n) ∧ W.cell? ⟨w.heap.size, 1, none⟩ = some (.int .i64 a) ∧ W.cell? ⟨w.heap.size, 2, none⟩ = some (.int .i64 b) ∧ W.cell? ⟨w.heap.size, 3, none⟩ = some (.int .i64 c) ∧ W.cell? ⟨w.heap.size, 4, none⟩ = some (.int .i64 i) ∧ W.cell? ⟨w.heap.size + 1, 0, none⟩ = some (.int .u8 n2) ∧ W.cell? ⟨w.heap.size + 1, 1, none⟩ = some (.int .i64 a2) ∧ W.cell? ⟨w.heap.size + 1, 2, none⟩ = some (.int .i64 b2) ∧ W.cell? ⟨w.heap.size + 1, 3, none⟩ = some (.int .i64 c2) ∧ W.cell? ⟨w.heap.size + 1, 4, none⟩ = some (.int .i64 i2) := fun W hb => ⟨hb, (hb.cell (p := ⟨w.heap.size, 0, none⟩) sz3_0).trans c3_0_0, (hb.cell (p := ⟨w.heap.size, 1, none⟩) sz3_0).trans c3_0_1, (hb.cell (p := ⟨w.heap.size, 2, none⟩) sz3_0).trans c3_0_2, (hb.cell (p := ⟨w.heap.size, 3, none⟩) sz3_0).trans c3_0_3, (hb.cell (p := ⟨w.heap.size, 4, none⟩) sz3_0).trans c3_0_4, (hb.cell (p := ⟨w.heap.size + 1, 0, none⟩) sz3_1).trans c3_1_0, (hb.cell (p := ⟨w.heap.size + 1, 1, none⟩) sz3_1).trans c3_1_1, (hb.cell (p := ⟨w.heap.size + 1, 2, none⟩) sz3_1).trans c3_1_2, (hb.cell (p := ⟨w.heap.size + 1, 3, none⟩) sz3_1).trans c3_1_3, (hb.cell (p := ⟨w.heap.size + 1, 4, none⟩) sz3_1).trans c3_1_4⟩
          have R0 := Lib.hid (show ∀ W : World, Below w3.heap.size w3 W → Calls Tryd.prog 14 #[.agg #[.int .u8 n, .int .i64 a, .int .i64 b, .int .i64 c, .int .i64 i]] W fun e w' => e = .returned (.int .i64 0) ∧ Below w3.heap.size w3 w' ∧ w'.cell? ⟨w.heap.size, 0, none⟩ = some (.int .u8 n) ∧ w'.cell? ⟨w.heap.size, 1, none⟩ = some (.int .i64 a) ∧ w'.cell? ⟨w.heap.size, 2, none⟩ = some (.int .i64 b) ∧ w'.cell? ⟨w.heap.size, 3, none⟩ = some (.int .i64 c) ∧ w'.cell? ⟨w.heap.size, 4, none⟩ = some (.int .i64 i) ∧ w'.cell? ⟨w.heap.size + 1, 0, none⟩ = some (.int .u8 n2) ∧ w'.cell? ⟨w.heap.size + 1, 1, none⟩ = some (.int .i64 a2) ∧ w'.cell? ⟨w.heap.size + 1, 2, none⟩ = some (.int .i64 b2) ∧ w'.cell? ⟨w.heap.size + 1, 3, none⟩ = some (.int .i64 c2) ∧ w'.cell? ⟨w.heap.size + 1, 4, none⟩ = some (.int .i64 i2) from fun W hb => (C3.out W (Tab.of_below hT3 hb)).mono fun e w' ⟨h1, h2⟩ => ⟨h1, mk w' (hb.trans (h2.mono hb.size))⟩)
          have R1 := Lib.hid (show ∀ W : World, Below w3.heap.size w3 W → Calls Tryd.prog 16 #[.int .i64 0, .agg #[.int .u8 n2, .int .i64 a2, .int .i64 b2, .int .i64 c2, .int .i64 i2]] W fun e w' => e = .returned (.bool false) ∧ Below w3.heap.size w3 w' ∧ w'.cell? ⟨w.heap.size, 0, none⟩ = some (.int .u8 n) ∧ w'.cell? ⟨w.heap.size, 1, none⟩ = some (.int .i64 a) ∧ w'.cell? ⟨w.heap.size, 2, none⟩ = some (.int .i64 b) ∧ w'.cell? ⟨w.heap.size, 3, none⟩ = some (.int .i64 c) ∧ w'.cell? ⟨w.heap.size, 4, none⟩ = some (.int .i64 i) ∧ w'.cell? ⟨w.heap.size + 1, 0, none⟩ = some (.int .u8 n2) ∧ w'.cell? ⟨w.heap.size + 1, 1, none⟩ = some (.int .i64 a2) ∧ w'.cell? ⟨w.heap.size + 1, 2, none⟩ = some (.int .i64 b2) ∧ w'.cell? ⟨w.heap.size + 1, 3, none⟩ = some (.int .i64 c2) ∧ w'.cell? ⟨w.heap.size + 1, 4, none⟩ = some (.int .i64 i2) from fun W hb => (C5.out W (Tab.of_below hT3 hb)).mono fun e w' ⟨h1, h2⟩ => ⟨h1, mk w' (hb.trans (h2.mono hb.size))⟩)
          have hs0 := mk w3.drew (Below.refl _ _).drew
          clear mk
          refine wp_region_held_drew (S := fun w' => Below w3.heap.size w3 w' ∧ w'.cell? ⟨w.heap.size, 0, none⟩ = some (.int .u8 n) ∧ w'.cell? ⟨w.heap.size, 1, none⟩ = some (.int .i64 a) ∧ w'.cell? ⟨w.heap.size, 2, none⟩ = some (.int .i64 b) ∧ w'.cell? ⟨w.heap.size, 3, none⟩ = some (.int .i64 c) ∧ w'.cell? ⟨w.heap.size, 4, none⟩ = some (.int .i64 i) ∧ w'.cell? ⟨w.heap.size + 1, 0, none⟩ = some (.int .u8 n2) ∧ w'.cell? ⟨w.heap.size + 1, 1, none⟩ = some (.int .i64 a2) ∧ w'.cell? ⟨w.heap.size + 1, 2, none⟩ = some (.int .i64 b2) ∧ w'.cell? ⟨w.heap.size + 1, 3, none⟩ = some (.int .i64 c2) ∧ w'.cell? ⟨w.heap.size + 1, 4, none⟩ = some (.int .i64 i2)) (by kernel_rfl) hs0 (fun hHeld => ?_)
          refine wpAnyH_take (i := 0) (oi := { dst := some 48, op := Go.Op.load 25 (Go.Operand.tmp 2), type := 25, pos := "law.go:137", after := #[], guard := none }) (v := ?_) rfl (by kernel_rfl) (by kernel_rfl) (by kernel_rfl) (fun _ _ _ h => h) (Or.inl ⟨by rfl, ?_⟩) hHeld ?_
          rotate_left
          · intro w hSw; (try dsimp only at hSw); go_simp; try (with_reducible rfl)
          try simp only [Act.put, List.setIfInBounds_toArray, List.set_cons_zero, List.set_cons_succ]
          refine wpAnyH_take (i := 2) (oi := { dst := some 50, op := Go.Op.load 25 (Go.Operand.tmp 3), type := 25, pos := "law.go:137", after := #[], guard := none }) (v := ?_) rfl (by kernel_rfl) (by kernel_rfl) (by kernel_rfl) (fun _ _ _ h => h) (Or.inl ⟨by rfl, ?_⟩) hHeld ?_
          rotate_left
          · intro w hSw; (try dsimp only at hSw); go_simp; try (with_reducible rfl)
          try simp only [Act.put, List.setIfInBounds_toArray, List.set_cons_zero, List.set_cons_succ]
          refine wpAnyH_take (i := 4) (oi := { dst := some 52, op := Go.Op.move (Go.Operand.tmp 7), type := 4, pos := "law.go:137", after := #[], guard := none }) (v := ?_) rfl (by kernel_rfl) (by kernel_rfl) (by kernel_rfl) (fun _ _ _ h => h) (Or.inl ⟨by rfl, ?_⟩) hHeld ?_
          rotate_left
          · intro w hSw; (try dsimp only at hSw); go_simp; try (with_reducible rfl)
          try simp only [Act.put, List.setIfInBounds_toArray, List.set_cons_zero, List.set_cons_succ]
          refine wpAnyH_ready (rs := [1]) (by kernel_rfl) (by simp) ?_
          refine AllReadyH.cons (o := { dst := some 49, op := Go.Op.call { callee := Go.Callee.value (Go.Operand.func 14), args := #[Go.Operand.tmp 48], argTypes := #[25] }, type := 28, pos := "law.go:137", after := #[{ on := 0, ground := Go.Ground.data }], guard := none }) rfl (fun K hK => ?_) AllReadyH.nil
          go_simp
          (with_reducible refine (R0.out _ ?_).mono ?_); (simp [*]); rintro e w' ⟨rfl, hS⟩
          first | (refine hK.out _ _ ?_ (fun hHeld => ?_)) | (go_wp2_with fail; refine hK.out _ _ ?_ (fun hHeld => ?_))
          · (try dsimp only); (first | assumption | (simp [*]; done))
          clear hK K
          try simp only [Act.put, List.setIfInBounds_toArray, List.set_cons_zero, List.set_cons_succ]
          refine wpAnyH_ready (rs := [3]) (by kernel_rfl) (by simp) ?_
          refine AllReadyH.cons (o := { dst := some 51, op := Go.Op.call { callee := Go.Callee.value (Go.Operand.func 16), args := #[Go.Operand.tmp 49, Go.Operand.tmp 50], argTypes := #[28, 25] }, type := 4, pos := "law.go:137", after := #[{ on := 1, ground := Go.Ground.data }, { on := 2, ground := Go.Ground.data }, { on := 1, ground := Go.Ground.chain }], guard := none }) rfl (fun K hK => ?_) AllReadyH.nil
          go_simp
          (with_reducible refine (R1.out _ ?_).mono ?_); (simp [*]); rintro e w' ⟨rfl, hS⟩
          first | (refine hK.out _ _ ?_ (fun hHeld => ?_)) | (go_wp2_with fail; refine hK.out _ _ ?_ (fun hHeld => ?_))
          · (try dsimp only); (first | assumption | (simp [*]; done))
          clear hK K
          try simp only [Act.put, List.setIfInBounds_toArray, List.set_cons_zero, List.set_cons_succ]
          refine wpAnyH_take (i := 5) (oi := { dst := some 53, op := Go.Op.move (Go.Operand.tmp 52), type := 4, pos := "law.go:137", after := #[{ on := 4, ground := Go.Ground.data }, { on := 3, ground := Go.Ground.chain }], guard := none }) (v := ?_) rfl (by kernel_rfl) (by kernel_rfl) (by kernel_rfl) (fun _ _ _ h => h) (Or.inl ⟨by rfl, ?_⟩) hHeld ?_
          rotate_left
          · intro w hSw; (try dsimp only at hSw); go_simp; try (with_reducible rfl)
          try simp only [Act.put, List.setIfInBounds_toArray, List.set_cons_zero, List.set_cons_succ]
          refine wpAnyH_take (i := 6) (oi := { dst := some 54, op := Go.Op.move (Go.Operand.tmp 8), type := 4, pos := "law.go:137", after := #[{ on := 5, ground := Go.Ground.guard }], guard := some (5, true) }) rfl (by kernel_rfl) (by kernel_rfl) (by kernel_rfl) (fun _ _ _ h => h) (Or.inr ⟨by rfl, rfl⟩) hHeld ?_
          try simp only [Act.put, List.setIfInBounds_toArray, List.set_cons_zero, List.set_cons_succ]
          refine wpAnyH_take (i := 7) (oi := { dst := some 55, op := Go.Op.pick (Go.Operand.tmp 53) (Go.Operand.tmp 54) (Go.Operand.const (Go.Value.bool false)), type := 4, pos := "law.go:137", after := #[{ on := 5, ground := Go.Ground.data }, { on := 6, ground := Go.Ground.data }], guard := none }) (v := ?_) rfl (by kernel_rfl) (by kernel_rfl) (by kernel_rfl) (fun _ _ _ h => h) (Or.inl ⟨by rfl, ?_⟩) hHeld ?_
          rotate_left
          · intro w hSw; (try dsimp only at hSw); go_simp; try (with_reducible rfl)
          try simp only [Act.put, List.setIfInBounds_toArray, List.set_cons_zero, List.set_cons_succ]
          refine wpAnyH_take (i := 8) (oi := { dst := some 56, op := Go.Op.binOp Go.BinOp.eql 4 (Go.Operand.tmp 51) (Go.Operand.tmp 55) 4, type := 4, pos := "law.go:137", after := #[{ on := 3, ground := Go.Ground.data }, { on := 7, ground := Go.Ground.data }], guard := none }) (v := ?_) rfl (by kernel_rfl) (by kernel_rfl) (by kernel_rfl) (fun _ _ _ h => h) (Or.inl ⟨by rfl, ?_⟩) hHeld ?_
          rotate_left
          · intro w hSw; (try dsimp only at hSw); go_simp; try (with_reducible rfl)
          try simp only [Act.put, List.setIfInBounds_toArray, List.set_cons_zero, List.set_cons_succ]
          refine wpAnyH_take (i := 9) (oi := { dst := some 57, op := Go.Op.move (Go.Operand.tmp 56), type := 4, pos := "law.go:137", after := #[{ on := 8, ground := Go.Ground.data }, { on := 5, ground := Go.Ground.chain }], guard := none }) (v := ?_) rfl (by kernel_rfl) (by kernel_rfl) (by kernel_rfl) (fun _ _ _ h => h) (Or.inl ⟨by rfl, ?_⟩) hHeld ?_
          rotate_left
          · intro w hSw; (try dsimp only at hSw); go_simp; try (with_reducible rfl)
          try simp only [Act.put, List.setIfInBounds_toArray, List.set_cons_zero, List.set_cons_succ]
          refine wpAnyH_take (i := 10) (oi := { dst := some 58, op := Go.Op.load 25 (Go.Operand.tmp 3), type := 25, pos := "law.go:137", after := #[{ on := 9, ground := Go.Ground.guard }], guard := some (9, true) }) (v := ?_) rfl (by kernel_rfl) (by kernel_rfl) (by kernel_rfl) (fun _ _ _ h => h) (Or.inl ⟨by rfl, ?_⟩) hHeld ?_
          rotate_left
          · intro w hSw; (try dsimp only at hSw); go_simp; try (with_reducible rfl)
          try simp only [Act.put, List.setIfInBounds_toArray, List.set_cons_zero, List.set_cons_succ]
          refine wpAnyH_ready (rs := [11]) (by kernel_rfl) (by simp) ?_
          refine AllReadyH.cons (o := { dst := some 59, op := Go.Op.call { callee := Go.Callee.value (Go.Operand.func 16), args := #[Go.Operand.const (Go.Value.int Go.IntKind.i64 0), Go.Operand.tmp 58], argTypes := #[28, 25] }, type := 4, pos := "law.go:137", after := #[{ on := 10, ground := Go.Ground.data }, { on := 9, ground := Go.Ground.chain }, { on := 9, ground := Go.Ground.guard }], guard := some (9, true) }) rfl (fun K hK => ?_) AllReadyH.nil
          go_simp
          (with_reducible refine (R1.out _ ?_).mono ?_); (simp [*]); rintro e w' ⟨rfl, hS⟩
          first | (refine hK.out _ _ ?_ (fun hHeld => ?_)) | (go_wp2_with fail; refine hK.out _ _ ?_ (fun hHeld => ?_))
          · (try dsimp only); (first | assumption | (simp [*]; done))
          clear hK K
          try simp only [Act.put, List.setIfInBounds_toArray, List.set_cons_zero, List.set_cons_succ]
          refine wpAnyH_take (i := 12) (oi := { dst := some 60, op := Go.Op.unOp Go.UnOp.not 4 (Go.Operand.tmp 59), type := 4, pos := "law.go:137", after := #[{ on := 11, ground := Go.Ground.data }, { on := 9, ground := Go.Ground.guard }], guard := some (9, true) }) (v := ?_) rfl (by kernel_rfl) (by kernel_rfl) (by kernel_rfl) (fun _ _ _ h => h) (Or.inl ⟨by rfl, ?_⟩) hHeld ?_
          rotate_left
          · intro w hSw; (try dsimp only at hSw); go_simp; try (with_reducible rfl)
          try simp only [Act.put, List.setIfInBounds_toArray, List.set_cons_zero, List.set_cons_succ]
          refine wpAnyH_take (i := 13) (oi := { dst := some 61, op := Go.Op.pick (Go.Operand.tmp 57) (Go.Operand.tmp 60) (Go.Operand.const (Go.Value.bool false)), type := 4, pos := "law.go:137", after := #[{ on := 9, ground := Go.Ground.data }, { on := 12, ground := Go.Ground.data }], guard := none }) (v := ?_) rfl (by kernel_rfl) (by kernel_rfl) (by kernel_rfl) (fun _ _ _ h => h) (Or.inl ⟨by rfl, ?_⟩) hHeld ?_
          rotate_left
          · intro w hSw; (try dsimp only at hSw); go_simp; try (with_reducible rfl)
          try simp only [Act.put, List.setIfInBounds_toArray, List.set_cons_zero, List.set_cons_succ]
          refine wpAnyH_take (i := 14) (oi := { dst := some 4, op := Go.Op.assign (Go.Operand.tmp 61), type := 4, pos := "law.go:137", after := #[{ on := 13, ground := Go.Ground.data }, { on := 11, ground := Go.Ground.chain }, { on := 0, ground := Go.Ground.phase }, { on := 1, ground := Go.Ground.phase }, { on := 2, ground := Go.Ground.phase }, { on := 3, ground := Go.Ground.phase }, { on := 4, ground := Go.Ground.phase }, { on := 5, ground := Go.Ground.phase }, { on := 6, ground := Go.Ground.phase }, { on := 7, ground := Go.Ground.phase }, { on := 8, ground := Go.Ground.phase }, { on := 9, ground := Go.Ground.phase }, { on := 10, ground := Go.Ground.phase }, { on := 11, ground := Go.Ground.phase }, { on := 12, ground := Go.Ground.phase }, { on := 13, ground := Go.Ground.phase }], guard := none }) (v := ?_) rfl (by kernel_rfl) (by kernel_rfl) (by kernel_rfl) (fun _ _ _ h => h) (Or.inl ⟨by rfl, ?_⟩) hHeld ?_
          rotate_left
          · intro w hSw; (try dsimp only at hSw); go_simp; try (with_reducible rfl)
          try simp only [Act.put, List.setIfInBounds_toArray, List.set_cons_zero, List.set_cons_succ]
          refine wpAnyH_done (by kernel_rfl) ?_ _
          go_wp2_with fail
          go_ret
          refine ⟨by simp, ?_⟩
          first | exact bThen (W := w3) (by assumption) (by omega) HB3 | (go_split_ands; exact bThen (W := w3) (by assumption) (by omega) HB3)

set_option maxHeartbeats 3200000 in
theorem reads_none (n : Nat) (a b c i : Int) (n2 : Nat) (a2 b2 c2 i2 : Int) (w : World) (hT : Tab w) (hR : wrR n a b c i ≠ 0) (h18 : ¬ n = 18) (h20 : ¬ n = 20) (h26 : ¬ n = 26) :
    Calls Tryd.prog 7 #[.agg #[.int .u8 n, .int .i64 a, .int .i64 b, .int .i64 c, .int .i64 i], .agg #[.int .u8 n2, .int .i64 a2, .int .i64 b2, .int .i64 c2, .int .i64 i2]] w fun e w' => e = .returned (.bool true) ∧ Below w.heap.size w w' := by
  have C1 := Lib.hid (fun (w : World) (hT : Tab w) => writes_any n a b c i w hT)
  have C2 := Lib.hid (fun (w : World) (hT : Tab w) => reads_any n2 a2 b2 c2 i2 w hT)
  have C3 := Lib.hid (fun (w : World) (hT : Tab w) => next_any n a b c i w hT)
  have C4 := Lib.hid (fun (w : World) (hT : Tab w) => hazard_any (0) n2 a2 b2 c2 i2 w hT)
  have C5 := Lib.hid (fun (w : World) (hT : Tab w) => hazard_any 0 n2 a2 b2 c2 i2 w hT)
  rw [hzd_out (s := 0) (by omega)] at C5
  rw [rdl_rrl] at C2
  have hxs := rrl_le n2 a2 b2 c2 i2
  rw [show nxt n a b c i = 0 by simp [nxt, h18, h20, h26]] at C3
  have g18 : ((n : Int) == 18) = false := by simp; omega
  have g20 : ((n : Int) == 20) = false := by simp; omega
  have g26 : ((n : Int) == 26) = false := by simp; omega
  clear C4
  generalize rrl n2 a2 b2 c2 i2 = xs at *
  generalize wrR n a b c i = R at *
  rw [show (R != 0) = true by simpa using hR] at C1
  have hz := hT.size
  go_enter Tryd.func7, Tryd.ntmps7
  go_wp2_with fail
  refine (awake8_any _ (Tab.of_below hT (by repeat (first | (with_reducible exact Below.refl _ _) | (with_reducible apply bDrewN) | (with_reducible apply Below.drew) | ((with_reducible apply bSet); (focus first | (simp; done) | (simp; omega) | omega)) | ((with_reducible apply bAlloc); (focus first | (simp; done) | (simp; omega) | omega)))))).mono ?_
  rintro e w1 ⟨rfl, hb1⟩
  have hT1 : Tab w1 := Tab.of_below (Tab.of_below hT (by repeat (first | (with_reducible exact Below.refl _ _) | (with_reducible apply bDrewN) | (with_reducible apply Below.drew) | ((with_reducible apply bSet); (focus first | (simp; done) | (simp; omega) | omega)) | ((with_reducible apply bAlloc); (focus first | (simp; done) | (simp; omega) | omega))))) hb1
  have sz1_0 : w.heap.size < w1.heap.size := by have h := hb1.size; first | (simp at h; omega) | omega
  have c1_0_0 : w1.cell? ⟨w.heap.size, 0, none⟩ = some (.int .u8 n) := by rw [hb1.cell (p := ⟨w.heap.size, 0, none⟩) (by first | (simp; done) | (simp; omega) | omega)]; first | assumption | (simp [go_sem]; done) | (simp [go_sem, *]; done)
  have c1_0_1 : w1.cell? ⟨w.heap.size, 1, none⟩ = some (.int .i64 a) := by rw [hb1.cell (p := ⟨w.heap.size, 1, none⟩) (by first | (simp; done) | (simp; omega) | omega)]; first | assumption | (simp [go_sem]; done) | (simp [go_sem, *]; done)
  have c1_0_2 : w1.cell? ⟨w.heap.size, 2, none⟩ = some (.int .i64 b) := by rw [hb1.cell (p := ⟨w.heap.size, 2, none⟩) (by first | (simp; done) | (simp; omega) | omega)]; first | assumption | (simp [go_sem]; done) | (simp [go_sem, *]; done)
  have c1_0_3 : w1.cell? ⟨w.heap.size, 3, none⟩ = some (.int .i64 c) := by rw [hb1.cell (p := ⟨w.heap.size, 3, none⟩) (by first | (simp; done) | (simp; omega) | omega)]; first | assumption | (simp [go_sem]; done) | (simp [go_sem, *]; done)
  have c1_0_4 : w1.cell? ⟨w.heap.size, 4, none⟩ = some (.int .i64 i) := by rw [hb1.cell (p := ⟨w.heap.size, 4, none⟩) (by first | (simp; done) | (simp; omega) | omega)]; first | assumption | (simp [go_sem]; done) | (simp [go_sem, *]; done)
  have sz1_1 : w.heap.size + 1 < w1.heap.size := by have h := hb1.size; first | (simp at h; omega) | omega
  have c1_1_0 : w1.cell? ⟨w.heap.size + 1, 0, none⟩ = some (.int .u8 n2) := by rw [hb1.cell (p := ⟨w.heap.size + 1, 0, none⟩) (by first | (simp; done) | (simp; omega) | omega)]; first | assumption | (simp [go_sem]; done) | (simp [go_sem, *]; done)
  have c1_1_1 : w1.cell? ⟨w.heap.size + 1, 1, none⟩ = some (.int .i64 a2) := by rw [hb1.cell (p := ⟨w.heap.size + 1, 1, none⟩) (by first | (simp; done) | (simp; omega) | omega)]; first | assumption | (simp [go_sem]; done) | (simp [go_sem, *]; done)
  have c1_1_2 : w1.cell? ⟨w.heap.size + 1, 2, none⟩ = some (.int .i64 b2) := by rw [hb1.cell (p := ⟨w.heap.size + 1, 2, none⟩) (by first | (simp; done) | (simp; omega) | omega)]; first | assumption | (simp [go_sem]; done) | (simp [go_sem, *]; done)
  have c1_1_3 : w1.cell? ⟨w.heap.size + 1, 3, none⟩ = some (.int .i64 c2) := by rw [hb1.cell (p := ⟨w.heap.size + 1, 3, none⟩) (by first | (simp; done) | (simp; omega) | omega)]; first | assumption | (simp [go_sem]; done) | (simp [go_sem, *]; done)
  have c1_1_4 : w1.cell? ⟨w.heap.size + 1, 4, none⟩ = some (.int .i64 i2) := by rw [hb1.cell (p := ⟨w.heap.size + 1, 4, none⟩) (by first | (simp; done) | (simp; omega) | omega)]; first | assumption | (simp [go_sem]; done) | (simp [go_sem, *]; done)
  have HB1 : Below w.heap.size w w1 := by
    repeat (first | (with_reducible exact Below.refl _ _) | (with_reducible apply bDrewN) | (with_reducible apply Below.drew) | ((with_reducible apply bThen hb1); (focus first | (simp; done) | (simp; omega) | omega)) | ((with_reducible apply bSet); (focus first | (simp; done) | (simp; omega) | omega)) | ((with_reducible apply bAlloc); (focus first | (simp; done) | (simp; omega) | omega)))
  have hsz1 := HB1.size
  clear hb1 
  go_wp2_with fail
  refine (C1.out _ (Tab.of_below hT1 (by repeat (first | (with_reducible exact Below.refl _ _) | (with_reducible apply bDrewN) | (with_reducible apply Below.drew) | ((with_reducible apply bSet); (focus first | (simp; done) | (simp; omega) | omega)) | ((with_reducible apply bAlloc); (focus first | (simp; done) | (simp; omega) | omega)))))).mono ?_
  rintro e w2 ⟨rfl, hb2⟩
  have hT2 : Tab w2 := Tab.of_below (Tab.of_below hT1 (by repeat (first | (with_reducible exact Below.refl _ _) | (with_reducible apply bDrewN) | (with_reducible apply Below.drew) | ((with_reducible apply bSet); (focus first | (simp; done) | (simp; omega) | omega)) | ((with_reducible apply bAlloc); (focus first | (simp; done) | (simp; omega) | omega))))) hb2
  have sz2_0 : w.heap.size < w2.heap.size := by have h := hb2.size; first | (simp at h; omega) | omega
  have c2_0_0 : w2.cell? ⟨w.heap.size, 0, none⟩ = some (.int .u8 n) := by rw [hb2.cell (p := ⟨w.heap.size, 0, none⟩) (by first | (simp; done) | (simp; omega) | omega)]; first | assumption | (simp [go_sem]; done) | (simp [go_sem, *]; done)
  have c2_0_1 : w2.cell? ⟨w.heap.size, 1, none⟩ = some (.int .i64 a) := by rw [hb2.cell (p := ⟨w.heap.size, 1, none⟩) (by first | (simp; done) | (simp; omega) | omega)]; first | assumption | (simp [go_sem]; done) | (simp [go_sem, *]; done)
  have c2_0_2 : w2.cell? ⟨w.heap.size, 2, none⟩ = some (.int .i64 b) := by rw [hb2.cell (p := ⟨w.heap.size, 2, none⟩) (by first | (simp; done) | (simp; omega) | omega)]; first | assumption | (simp [go_sem]; done) | (simp [go_sem, *]; done)
  have c2_0_3 : w2.cell? ⟨w.heap.size, 3, none⟩ = some (.int .i64 c) := by rw [hb2.cell (p := ⟨w.heap.size, 3, none⟩) (by first | (simp; done) | (simp; omega) | omega)]; first | assumption | (simp [go_sem]; done) | (simp [go_sem, *]; done)
  have c2_0_4 : w2.cell? ⟨w.heap.size, 4, none⟩ = some (.int .i64 i) := by rw [hb2.cell (p := ⟨w.heap.size, 4, none⟩) (by first | (simp; done) | (simp; omega) | omega)]; first | assumption | (simp [go_sem]; done) | (simp [go_sem, *]; done)
  have sz2_1 : w.heap.size + 1 < w2.heap.size := by have h := hb2.size; first | (simp at h; omega) | omega
  have c2_1_0 : w2.cell? ⟨w.heap.size + 1, 0, none⟩ = some (.int .u8 n2) := by rw [hb2.cell (p := ⟨w.heap.size + 1, 0, none⟩) (by first | (simp; done) | (simp; omega) | omega)]; first | assumption | (simp [go_sem]; done) | (simp [go_sem, *]; done)
  have c2_1_1 : w2.cell? ⟨w.heap.size + 1, 1, none⟩ = some (.int .i64 a2) := by rw [hb2.cell (p := ⟨w.heap.size + 1, 1, none⟩) (by first | (simp; done) | (simp; omega) | omega)]; first | assumption | (simp [go_sem]; done) | (simp [go_sem, *]; done)
  have c2_1_2 : w2.cell? ⟨w.heap.size + 1, 2, none⟩ = some (.int .i64 b2) := by rw [hb2.cell (p := ⟨w.heap.size + 1, 2, none⟩) (by first | (simp; done) | (simp; omega) | omega)]; first | assumption | (simp [go_sem]; done) | (simp [go_sem, *]; done)
  have c2_1_3 : w2.cell? ⟨w.heap.size + 1, 3, none⟩ = some (.int .i64 c2) := by rw [hb2.cell (p := ⟨w.heap.size + 1, 3, none⟩) (by first | (simp; done) | (simp; omega) | omega)]; first | assumption | (simp [go_sem]; done) | (simp [go_sem, *]; done)
  have c2_1_4 : w2.cell? ⟨w.heap.size + 1, 4, none⟩ = some (.int .i64 i2) := by rw [hb2.cell (p := ⟨w.heap.size + 1, 4, none⟩) (by first | (simp; done) | (simp; omega) | omega)]; first | assumption | (simp [go_sem]; done) | (simp [go_sem, *]; done)
  have HB2 : Below w.heap.size w w2 := by
    repeat (first | (with_reducible exact Below.refl _ _) | (with_reducible apply bDrewN) | (with_reducible apply Below.drew) | (with_reducible exact HB1) | ((with_reducible apply bThen hb2); (focus first | (simp; done) | (simp; omega) | omega)) | ((with_reducible apply bSet); (focus first | (simp; done) | (simp; omega) | omega)) | ((with_reducible apply bAlloc); (focus first | (simp; done) | (simp; omega) | omega)))
  have hsz2 := HB2.size
  clear hb2 sz1_0 c1_0_0 c1_0_1 c1_0_2 c1_0_3 c1_0_4 sz1_1 c1_1_0 c1_1_1 c1_1_2 c1_1_3 c1_1_4 hsz1
  go_wp2_with fail
  refine (C2.out _ (Tab.of_below hT2 (by repeat (first | (with_reducible exact Below.refl _ _) | (with_reducible apply bDrewN) | (with_reducible apply Below.drew) | ((with_reducible apply bSet); (focus first | (simp; done) | (simp; omega) | omega)) | ((with_reducible apply bAlloc); (focus first | (simp; done) | (simp; omega) | omega)))))).mono ?_
  rintro e w3 ⟨v1, rfl, sl1, hb3⟩
  have hT3 : Tab w3 := Tab.of_below (Tab.of_below hT2 (by repeat (first | (with_reducible exact Below.refl _ _) | (with_reducible apply bDrewN) | (with_reducible apply Below.drew) | ((with_reducible apply bSet); (focus first | (simp; done) | (simp; omega) | omega)) | ((with_reducible apply bAlloc); (focus first | (simp; done) | (simp; omega) | omega))))) hb3
  have sz3_0 : w.heap.size < w3.heap.size := by have h := hb3.size; first | (simp at h; omega) | omega
  have c3_0_0 : w3.cell? ⟨w.heap.size, 0, none⟩ = some (.int .u8 n) := by rw [hb3.cell (p := ⟨w.heap.size, 0, none⟩) (by first | (simp; done) | (simp; omega) | omega)]; first | assumption | (simp [go_sem]; done) | (simp [go_sem, *]; done)
  have c3_0_1 : w3.cell? ⟨w.heap.size, 1, none⟩ = some (.int .i64 a) := by rw [hb3.cell (p := ⟨w.heap.size, 1, none⟩) (by first | (simp; done) | (simp; omega) | omega)]; first | assumption | (simp [go_sem]; done) | (simp [go_sem, *]; done)
  have c3_0_2 : w3.cell? ⟨w.heap.size, 2, none⟩ = some (.int .i64 b) := by rw [hb3.cell (p := ⟨w.heap.size, 2, none⟩) (by first | (simp; done) | (simp; omega) | omega)]; first | assumption | (simp [go_sem]; done) | (simp [go_sem, *]; done)
  have c3_0_3 : w3.cell? ⟨w.heap.size, 3, none⟩ = some (.int .i64 c) := by rw [hb3.cell (p := ⟨w.heap.size, 3, none⟩) (by first | (simp; done) | (simp; omega) | omega)]; first | assumption | (simp [go_sem]; done) | (simp [go_sem, *]; done)
  have c3_0_4 : w3.cell? ⟨w.heap.size, 4, none⟩ = some (.int .i64 i) := by rw [hb3.cell (p := ⟨w.heap.size, 4, none⟩) (by first | (simp; done) | (simp; omega) | omega)]; first | assumption | (simp [go_sem]; done) | (simp [go_sem, *]; done)
  have sz3_1 : w.heap.size + 1 < w3.heap.size := by have h := hb3.size; first | (simp at h; omega) | omega
  have c3_1_0 : w3.cell? ⟨w.heap.size + 1, 0, none⟩ = some (.int .u8 n2) := by rw [hb3.cell (p := ⟨w.heap.size + 1, 0, none⟩) (by first | (simp; done) | (simp; omega) | omega)]; first | assumption | (simp [go_sem]; done) | (simp [go_sem, *]; done)
  have c3_1_1 : w3.cell? ⟨w.heap.size + 1, 1, none⟩ = some (.int .i64 a2) := by rw [hb3.cell (p := ⟨w.heap.size + 1, 1, none⟩) (by first | (simp; done) | (simp; omega) | omega)]; first | assumption | (simp [go_sem]; done) | (simp [go_sem, *]; done)
  have c3_1_2 : w3.cell? ⟨w.heap.size + 1, 2, none⟩ = some (.int .i64 b2) := by rw [hb3.cell (p := ⟨w.heap.size + 1, 2, none⟩) (by first | (simp; done) | (simp; omega) | omega)]; first | assumption | (simp [go_sem]; done) | (simp [go_sem, *]; done)
  have c3_1_3 : w3.cell? ⟨w.heap.size + 1, 3, none⟩ = some (.int .i64 c2) := by rw [hb3.cell (p := ⟨w.heap.size + 1, 3, none⟩) (by first | (simp; done) | (simp; omega) | omega)]; first | assumption | (simp [go_sem]; done) | (simp [go_sem, *]; done)
  have c3_1_4 : w3.cell? ⟨w.heap.size + 1, 4, none⟩ = some (.int .i64 i2) := by rw [hb3.cell (p := ⟨w.heap.size + 1, 4, none⟩) (by first | (simp; done) | (simp; omega) | omega)]; first | assumption | (simp [go_sem]; done) | (simp [go_sem, *]; done)
  have HB3 : Below w.heap.size w w3 := by
    repeat (first | (with_reducible exact Below.refl _ _) | (with_reducible apply bDrewN) | (with_reducible apply Below.drew) | (with_reducible exact HB2) | ((with_reducible apply bThen hb3); (focus first | (simp; done) | (simp; omega) | omega)) | ((with_reducible apply bSet); (focus first | (simp; done) | (simp; omega) | omega)) | ((with_reducible apply bAlloc); (focus first | (simp; done) | (simp; omega) | omega)))
  have hsz3 := HB3.size
  clear hb3 sz2_0 c2_0_0 c2_0_1 c2_0_2 c2_0_3 c2_0_4 sz2_1 c2_1_0 c2_1_1 c2_1_2 c2_1_3 c2_1_4 hsz2
  by_cases hx : xs = []
  · skip
    subst hx
    obtain ⟨a1, cap1, rfl⟩ := sl1.nil
    go_wp2_with fail
    refine wp_loop_rounds 1 ?_
    rw [rounds_succ]
    go_wp2_with fail
    have mk : ∀ W : World, Below w3.heap.size w3 W → Below w3.heap.size w3 W ∧ W.cell? ⟨w.heap.size, 0, none⟩ = some (.int .u8 n) ∧ W.cell? ⟨w.heap.size, 1, none⟩ = some (.int .i64 a) ∧ W.cell? ⟨w.heap.size, 2, none⟩ = some (.int .i64 b) ∧ W.cell? ⟨w.heap.size, 3, none⟩ = some (.int .i64 c) ∧ W.cell? ⟨w.heap.size, 4, none⟩ = some (.int .i64 i) ∧ W.cell? ⟨w.heap.size + 1, 0, none⟩ = some (.int .u8 n2) ∧ W.cell? ⟨w.heap.size + 1, 1, none⟩ = some (.int .i64 a2) ∧ W.cell? ⟨w.heap.size + 1, 2, none⟩ = some (.int .i64 b2) ∧ W.cell? ⟨w.heap.size + 1, 3, none⟩ = some (.int .i64 c2) ∧ W.cell? ⟨w.heap.size + 1, 4, none⟩ = some (.int .i64 i2) := fun W hb => ⟨hb, (hb.cell (p := ⟨w.heap.size, 0, none⟩) sz3_0).trans c3_0_0, (hb.cell (p := ⟨w.heap.size, 1, none⟩) sz3_0).trans c3_0_1, (hb.cell (p := ⟨w.heap.size, 2, none⟩) sz3_0).trans c3_0_2, (hb.cell (p := ⟨w.heap.size, 3, none⟩) sz3_0).trans c3_0_3, (hb.cell (p := ⟨w.heap.size, 4, none⟩) sz3_0).trans c3_0_4, (hb.cell (p := ⟨w.heap.size + 1, 0, none⟩) sz3_1).trans c3_1_0, (hb.cell (p := ⟨w.heap.size + 1, 1, none⟩) sz3_1).trans c3_1_1, (hb.cell (p := ⟨w.heap.size + 1, 2, none⟩) sz3_1).trans c3_1_2, (hb.cell (p := ⟨w.heap.size + 1, 3, none⟩) sz3_1).trans c3_1_3, (hb.cell (p := ⟨w.heap.size + 1, 4, none⟩) sz3_1).trans c3_1_4⟩
    have R0 := Lib.hid (show ∀ W : World, Below w3.heap.size w3 W → Calls Tryd.prog 14 #[.agg #[.int .u8 n, .int .i64 a, .int .i64 b, .int .i64 c, .int .i64 i]] W fun e w' => e = .returned (.int .i64 0) ∧ Below w3.heap.size w3 w' ∧ w'.cell? ⟨w.heap.size, 0, none⟩ = some (.int .u8 n) ∧ w'.cell? ⟨w.heap.size, 1, none⟩ = some (.int .i64 a) ∧ w'.cell? ⟨w.heap.size, 2, none⟩ = some (.int .i64 b) ∧ w'.cell? ⟨w.heap.size, 3, none⟩ = some (.int .i64 c) ∧ w'.cell? ⟨w.heap.size, 4, none⟩ = some (.int .i64 i) ∧ w'.cell? ⟨w.heap.size + 1, 0, none⟩ = some (.int .u8 n2) ∧ w'.cell? ⟨w.heap.size + 1, 1, none⟩ = some (.int .i64 a2) ∧ w'.cell? ⟨w.heap.size + 1, 2, none⟩ = some (.int .i64 b2) ∧ w'.cell? ⟨w.heap.size + 1, 3, none⟩ = some (.int .i64 c2) ∧ w'.cell? ⟨w.heap.size + 1, 4, none⟩ = some (.int .i64 i2) from fun W hb => (C3.out W (Tab.of_below hT3 hb)).mono fun e w' ⟨h1, h2⟩ => ⟨h1, mk w' (hb.trans (h2.mono hb.size))⟩)
    have R1 := Lib.hid (show ∀ W : World, Below w3.heap.size w3 W → Calls Tryd.prog 16 #[.int .i64 0, .agg #[.int .u8 n2, .int .i64 a2, .int .i64 b2, .int .i64 c2, .int .i64 i2]] W fun e w' => e = .returned (.bool false) ∧ Below w3.heap.size w3 w' ∧ w'.cell? ⟨w.heap.size, 0, none⟩ = some (.int .u8 n) ∧ w'.cell? ⟨w.heap.size, 1, none⟩ = some (.int .i64 a) ∧ w'.cell? ⟨w.heap.size, 2, none⟩ = some (.int .i64 b) ∧ w'.cell? ⟨w.heap.size, 3, none⟩ = some (.int .i64 c) ∧ w'.cell? ⟨w.heap.size, 4, none⟩ = some (.int .i64 i) ∧ w'.cell? ⟨w.heap.size + 1, 0, none⟩ = some (.int .u8 n2) ∧ w'.cell? ⟨w.heap.size + 1, 1, none⟩ = some (.int .i64 a2) ∧ w'.cell? ⟨w.heap.size + 1, 2, none⟩ = some (.int .i64 b2) ∧ w'.cell? ⟨w.heap.size + 1, 3, none⟩ = some (.int .i64 c2) ∧ w'.cell? ⟨w.heap.size + 1, 4, none⟩ = some (.int .i64 i2) from fun W hb => (C5.out W (Tab.of_below hT3 hb)).mono fun e w' ⟨h1, h2⟩ => ⟨h1, mk w' (hb.trans (h2.mono hb.size))⟩)
    have hs0 := mk w3.drew (Below.refl _ _).drew
    clear mk
    refine wp_region_held_drew (S := fun w' => Below w3.heap.size w3 w' ∧ w'.cell? ⟨w.heap.size, 0, none⟩ = some (.int .u8 n) ∧ w'.cell? ⟨w.heap.size, 1, none⟩ = some (.int .i64 a) ∧ w'.cell? ⟨w.heap.size, 2, none⟩ = some (.int .i64 b) ∧ w'.cell? ⟨w.heap.size, 3, none⟩ = some (.int .i64 c) ∧ w'.cell? ⟨w.heap.size, 4, none⟩ = some (.int .i64 i) ∧ w'.cell? ⟨w.heap.size + 1, 0, none⟩ = some (.int .u8 n2) ∧ w'.cell? ⟨w.heap.size + 1, 1, none⟩ = some (.int .i64 a2) ∧ w'.cell? ⟨w.heap.size + 1, 2, none⟩ = some (.int .i64 b2) ∧ w'.cell? ⟨w.heap.size + 1, 3, none⟩ = some (.int .i64 c2) ∧ w'.cell? ⟨w.heap.size + 1, 4, none⟩ = some (.int .i64 i2)) (by kernel_rfl) hs0 (fun hHeld => ?_)
    refine wpAnyH_take (i := 0) (oi := { dst := some 48, op := Go.Op.load 25 (Go.Operand.tmp 2), type := 25, pos := "law.go:137", after := #[], guard := none }) (v := ?_) rfl (by kernel_rfl) (by kernel_rfl) (by kernel_rfl) (fun _ _ _ h => h) (Or.inl ⟨by rfl, ?_⟩) hHeld ?_
    rotate_left
    · intro w hSw; (try dsimp only at hSw); go_simp; try (with_reducible rfl)
    try simp only [Act.put, List.setIfInBounds_toArray, List.set_cons_zero, List.set_cons_succ]
    refine wpAnyH_take (i := 2) (oi := { dst := some 50, op := Go.Op.load 25 (Go.Operand.tmp 3), type := 25, pos := "law.go:137", after := #[], guard := none }) (v := ?_) rfl (by kernel_rfl) (by kernel_rfl) (by kernel_rfl) (fun _ _ _ h => h) (Or.inl ⟨by rfl, ?_⟩) hHeld ?_
    rotate_left
    · intro w hSw; (try dsimp only at hSw); go_simp; try (with_reducible rfl)
    try simp only [Act.put, List.setIfInBounds_toArray, List.set_cons_zero, List.set_cons_succ]
    refine wpAnyH_take (i := 4) (oi := { dst := some 52, op := Go.Op.move (Go.Operand.tmp 7), type := 4, pos := "law.go:137", after := #[], guard := none }) (v := ?_) rfl (by kernel_rfl) (by kernel_rfl) (by kernel_rfl) (fun _ _ _ h => h) (Or.inl ⟨by rfl, ?_⟩) hHeld ?_
    rotate_left
    · intro w hSw; (try dsimp only at hSw); go_simp; try (with_reducible rfl)
    try simp only [Act.put, List.setIfInBounds_toArray, List.set_cons_zero, List.set_cons_succ]
    refine wpAnyH_ready (rs := [1]) (by kernel_rfl) (by simp) ?_
    refine AllReadyH.cons (o := { dst := some 49, op := Go.Op.call { callee := Go.Callee.value (Go.Operand.func 14), args := #[Go.Operand.tmp 48], argTypes := #[25] }, type := 28, pos := "law.go:137", after := #[{ on := 0, ground := Go.Ground.data }], guard := none }) rfl (fun K hK => ?_) AllReadyH.nil
    go_simp
    (with_reducible refine (R0.out _ ?_).mono ?_); (simp [*]); rintro e w' ⟨rfl, hS⟩
    first | (refine hK.out _ _ ?_ (fun hHeld => ?_)) | (go_wp2_with fail; refine hK.out _ _ ?_ (fun hHeld => ?_))
    · (try dsimp only); (first | assumption | (simp [*]; done))
    clear hK K
    try simp only [Act.put, List.setIfInBounds_toArray, List.set_cons_zero, List.set_cons_succ]
    refine wpAnyH_ready (rs := [3]) (by kernel_rfl) (by simp) ?_
    refine AllReadyH.cons (o := { dst := some 51, op := Go.Op.call { callee := Go.Callee.value (Go.Operand.func 16), args := #[Go.Operand.tmp 49, Go.Operand.tmp 50], argTypes := #[28, 25] }, type := 4, pos := "law.go:137", after := #[{ on := 1, ground := Go.Ground.data }, { on := 2, ground := Go.Ground.data }, { on := 1, ground := Go.Ground.chain }], guard := none }) rfl (fun K hK => ?_) AllReadyH.nil
    go_simp
    (with_reducible refine (R1.out _ ?_).mono ?_); (simp [*]); rintro e w' ⟨rfl, hS⟩
    first | (refine hK.out _ _ ?_ (fun hHeld => ?_)) | (go_wp2_with fail; refine hK.out _ _ ?_ (fun hHeld => ?_))
    · (try dsimp only); (first | assumption | (simp [*]; done))
    clear hK K
    try simp only [Act.put, List.setIfInBounds_toArray, List.set_cons_zero, List.set_cons_succ]
    refine wpAnyH_take (i := 5) (oi := { dst := some 53, op := Go.Op.move (Go.Operand.tmp 52), type := 4, pos := "law.go:137", after := #[{ on := 4, ground := Go.Ground.data }, { on := 3, ground := Go.Ground.chain }], guard := none }) (v := ?_) rfl (by kernel_rfl) (by kernel_rfl) (by kernel_rfl) (fun _ _ _ h => h) (Or.inl ⟨by rfl, ?_⟩) hHeld ?_
    rotate_left
    · intro w hSw; (try dsimp only at hSw); go_simp; try (with_reducible rfl)
    try simp only [Act.put, List.setIfInBounds_toArray, List.set_cons_zero, List.set_cons_succ]
    refine wpAnyH_take (i := 6) (oi := { dst := some 54, op := Go.Op.move (Go.Operand.tmp 8), type := 4, pos := "law.go:137", after := #[{ on := 5, ground := Go.Ground.guard }], guard := some (5, true) }) rfl (by kernel_rfl) (by kernel_rfl) (by kernel_rfl) (fun _ _ _ h => h) (Or.inr ⟨by rfl, rfl⟩) hHeld ?_
    try simp only [Act.put, List.setIfInBounds_toArray, List.set_cons_zero, List.set_cons_succ]
    refine wpAnyH_take (i := 7) (oi := { dst := some 55, op := Go.Op.pick (Go.Operand.tmp 53) (Go.Operand.tmp 54) (Go.Operand.const (Go.Value.bool false)), type := 4, pos := "law.go:137", after := #[{ on := 5, ground := Go.Ground.data }, { on := 6, ground := Go.Ground.data }], guard := none }) (v := ?_) rfl (by kernel_rfl) (by kernel_rfl) (by kernel_rfl) (fun _ _ _ h => h) (Or.inl ⟨by rfl, ?_⟩) hHeld ?_
    rotate_left
    · intro w hSw; (try dsimp only at hSw); go_simp; try (with_reducible rfl)
    try simp only [Act.put, List.setIfInBounds_toArray, List.set_cons_zero, List.set_cons_succ]
    refine wpAnyH_take (i := 8) (oi := { dst := some 56, op := Go.Op.binOp Go.BinOp.eql 4 (Go.Operand.tmp 51) (Go.Operand.tmp 55) 4, type := 4, pos := "law.go:137", after := #[{ on := 3, ground := Go.Ground.data }, { on := 7, ground := Go.Ground.data }], guard := none }) (v := ?_) rfl (by kernel_rfl) (by kernel_rfl) (by kernel_rfl) (fun _ _ _ h => h) (Or.inl ⟨by rfl, ?_⟩) hHeld ?_
    rotate_left
    · intro w hSw; (try dsimp only at hSw); go_simp; try (with_reducible rfl)
    try simp only [Act.put, List.setIfInBounds_toArray, List.set_cons_zero, List.set_cons_succ]
    refine wpAnyH_take (i := 9) (oi := { dst := some 57, op := Go.Op.move (Go.Operand.tmp 56), type := 4, pos := "law.go:137", after := #[{ on := 8, ground := Go.Ground.data }, { on := 5, ground := Go.Ground.chain }], guard := none }) (v := ?_) rfl (by kernel_rfl) (by kernel_rfl) (by kernel_rfl) (fun _ _ _ h => h) (Or.inl ⟨by rfl, ?_⟩) hHeld ?_
    rotate_left
    · intro w hSw; (try dsimp only at hSw); go_simp; try (with_reducible rfl)
    try simp only [Act.put, List.setIfInBounds_toArray, List.set_cons_zero, List.set_cons_succ]
    refine wpAnyH_take (i := 10) (oi := { dst := some 58, op := Go.Op.load 25 (Go.Operand.tmp 3), type := 25, pos := "law.go:137", after := #[{ on := 9, ground := Go.Ground.guard }], guard := some (9, true) }) (v := ?_) rfl (by kernel_rfl) (by kernel_rfl) (by kernel_rfl) (fun _ _ _ h => h) (Or.inl ⟨by rfl, ?_⟩) hHeld ?_
    rotate_left
    · intro w hSw; (try dsimp only at hSw); go_simp; try (with_reducible rfl)
    try simp only [Act.put, List.setIfInBounds_toArray, List.set_cons_zero, List.set_cons_succ]
    refine wpAnyH_ready (rs := [11]) (by kernel_rfl) (by simp) ?_
    refine AllReadyH.cons (o := { dst := some 59, op := Go.Op.call { callee := Go.Callee.value (Go.Operand.func 16), args := #[Go.Operand.const (Go.Value.int Go.IntKind.i64 0), Go.Operand.tmp 58], argTypes := #[28, 25] }, type := 4, pos := "law.go:137", after := #[{ on := 10, ground := Go.Ground.data }, { on := 9, ground := Go.Ground.chain }, { on := 9, ground := Go.Ground.guard }], guard := some (9, true) }) rfl (fun K hK => ?_) AllReadyH.nil
    go_simp
    (with_reducible refine (R1.out _ ?_).mono ?_); (simp [*]); rintro e w' ⟨rfl, hS⟩
    first | (refine hK.out _ _ ?_ (fun hHeld => ?_)) | (go_wp2_with fail; refine hK.out _ _ ?_ (fun hHeld => ?_))
    · (try dsimp only); (first | assumption | (simp [*]; done))
    clear hK K
    try simp only [Act.put, List.setIfInBounds_toArray, List.set_cons_zero, List.set_cons_succ]
    refine wpAnyH_take (i := 12) (oi := { dst := some 60, op := Go.Op.unOp Go.UnOp.not 4 (Go.Operand.tmp 59), type := 4, pos := "law.go:137", after := #[{ on := 11, ground := Go.Ground.data }, { on := 9, ground := Go.Ground.guard }], guard := some (9, true) }) (v := ?_) rfl (by kernel_rfl) (by kernel_rfl) (by kernel_rfl) (fun _ _ _ h => h) (Or.inl ⟨by rfl, ?_⟩) hHeld ?_
    rotate_left
    · intro w hSw; (try dsimp only at hSw); go_simp; try (with_reducible rfl)
    try simp only [Act.put, List.setIfInBounds_toArray, List.set_cons_zero, List.set_cons_succ]
    refine wpAnyH_take (i := 13) (oi := { dst := some 61, op := Go.Op.pick (Go.Operand.tmp 57) (Go.Operand.tmp 60) (Go.Operand.const (Go.Value.bool false)), type := 4, pos := "law.go:137", after := #[{ on := 9, ground := Go.Ground.data }, { on := 12, ground := Go.Ground.data }], guard := none }) (v := ?_) rfl (by kernel_rfl) (by kernel_rfl) (by kernel_rfl) (fun _ _ _ h => h) (Or.inl ⟨by rfl, ?_⟩) hHeld ?_
    rotate_left
    · intro w hSw; (try dsimp only at hSw); go_simp; try (with_reducible rfl)
    try simp only [Act.put, List.setIfInBounds_toArray, List.set_cons_zero, List.set_cons_succ]
    refine wpAnyH_take (i := 14) (oi := { dst := some 4, op := Go.Op.assign (Go.Operand.tmp 61), type := 4, pos := "law.go:137", after := #[{ on := 13, ground := Go.Ground.data }, { on := 11, ground := Go.Ground.chain }, { on := 0, ground := Go.Ground.phase }, { on := 1, ground := Go.Ground.phase }, { on := 2, ground := Go.Ground.phase }, { on := 3, ground := Go.Ground.phase }, { on := 4, ground := Go.Ground.phase }, { on := 5, ground := Go.Ground.phase }, { on := 6, ground := Go.Ground.phase }, { on := 7, ground := Go.Ground.phase }, { on := 8, ground := Go.Ground.phase }, { on := 9, ground := Go.Ground.phase }, { on := 10, ground := Go.Ground.phase }, { on := 11, ground := Go.Ground.phase }, { on := 12, ground := Go.Ground.phase }, { on := 13, ground := Go.Ground.phase }], guard := none }) (v := ?_) rfl (by kernel_rfl) (by kernel_rfl) (by kernel_rfl) (fun _ _ _ h => h) (Or.inl ⟨by rfl, ?_⟩) hHeld ?_
    rotate_left
    · intro w hSw; (try dsimp only at hSw); go_simp; try (with_reducible rfl)
    try simp only [Act.put, List.setIfInBounds_toArray, List.set_cons_zero, List.set_cons_succ]
    refine wpAnyH_done (by kernel_rfl) ?_ _
    go_wp2_with fail
    go_ret
    refine ⟨by simp, ?_⟩
    first | exact bThen (W := w3) (by assumption) (by omega) HB3 | (go_split_ands; exact bThen (W := w3) (by assumption) (by omega) HB3)
  · skip
    obtain ⟨g1, cap1, rfl, hg1, hg1', hc1⟩ := sl1.some hx
    have HC := Lib.hid hc1
    clear hc1 sl1
    have hpos : 0 < xs.length := List.length_pos_iff.2 hx
    go_wp2_with fail
    go_loopw [8, 10, 37, 40] (fun rv x1 r x2 wr => ∃ (k : Nat) (u : Bool), k ≤ xs.length ∧ rv = .bool u ∧ r = .int .i64 k ∧ Hid (u = (xs.take k).contains R) ∧ w3 = wr) (fun _ _ r _ _ => xs.length - (intOf r).toNat)
    case atStart => exact ⟨0, false, by omega, rfl, rfl, rfl, rfl⟩
    case round =>
      obtain ⟨k, u, hk, rfl, rfl, hu, rfl⟩ := hrel
      by_cases hlt : k < xs.length
      · have d1 := HC.out k hlt
        have hkI : (k : Int) < xs.length := by omega
        generalize hz : xs.getD k 0 = z at d1
        have HZ := Lib.hid hz
        clear hz
        cases u
        · by_cases hzs : z = R
          · subst hzs
            go_wp2_with fail
            go_roundw
            case rel => exact ⟨k + 1, true, by omega, by simp, by go_num, show true = _ by rw [contains_take hlt HZ.out]; simp, by first | rfl | trivial⟩
            case measure => simp [intOf]; omega
          · have hb : (z == R) = false := by simpa using hzs
            go_wp2_with fail
            go_roundw
            case rel => exact ⟨k + 1, false, by omega, by simp, by go_num, show false = _ by rw [contains_take hlt HZ.out, ← Hid.out hu, hb]; rfl, by first | rfl | trivial⟩
            case measure => simp [intOf]; omega
        · go_wp2_with fail
          go_roundw
          case rel => exact ⟨k + 1, true, by omega, by simp, by go_num, show true = _ by rw [contains_take hlt HZ.out, ← Hid.out hu]; rfl, by first | rfl | trivial⟩
          case measure => simp [intOf]; omega
      · have hkI : ¬ (k : Int) < xs.length := by omega
        have e1 := Hid.out hu
        rw [List.take_of_length_le (by omega)] at e1
        clear hu
        clear e1
        cases u
        · skip
          go_wp2_with fail
          have mk : ∀ W : World, Below w3.heap.size w3 W → Below w3.heap.size w3 W ∧ W.cell? ⟨w.heap.size, 0, none⟩ = some (.int .u8 n) ∧ W.cell? ⟨w.heap.size, 1, none⟩ = some (.int .i64 a) ∧ W.cell? ⟨w.heap.size, 2, none⟩ = some (.int .i64 b) ∧ W.cell? ⟨w.heap.size, 3, none⟩ = some (.int .i64 c) ∧ W.cell? ⟨w.heap.size, 4, none⟩ = some (.int .i64 i) ∧ W.cell? ⟨w.heap.size + 1, 0, none⟩ = some (.int .u8 n2) ∧ W.cell? ⟨w.heap.size + 1, 1, none⟩ = some (.int .i64 a2) ∧ W.cell? ⟨w.heap.size + 1, 2, none⟩ = some (.int .i64 b2) ∧ W.cell? ⟨w.heap.size + 1, 3, none⟩ = some (.int .i64 c2) ∧ W.cell? ⟨w.heap.size + 1, 4, none⟩ = some (.int .i64 i2) := fun W hb => ⟨hb, (hb.cell (p := ⟨w.heap.size, 0, none⟩) sz3_0).trans c3_0_0, (hb.cell (p := ⟨w.heap.size, 1, none⟩) sz3_0).trans c3_0_1, (hb.cell (p := ⟨w.heap.size, 2, none⟩) sz3_0).trans c3_0_2, (hb.cell (p := ⟨w.heap.size, 3, none⟩) sz3_0).trans c3_0_3, (hb.cell (p := ⟨w.heap.size, 4, none⟩) sz3_0).trans c3_0_4, (hb.cell (p := ⟨w.heap.size + 1, 0, none⟩) sz3_1).trans c3_1_0, (hb.cell (p := ⟨w.heap.size + 1, 1, none⟩) sz3_1).trans c3_1_1, (hb.cell (p := ⟨w.heap.size + 1, 2, none⟩) sz3_1).trans c3_1_2, (hb.cell (p := ⟨w.heap.size + 1, 3, none⟩) sz3_1).trans c3_1_3, (hb.cell (p := ⟨w.heap.size + 1, 4, none⟩) sz3_1).trans c3_1_4⟩
          have R0 := Lib.hid (show ∀ W : World, Below w3.heap.size w3 W → Calls Tryd.prog 14 #[.agg #[.int .u8 n, .int .i64 a, .int .i64 b, .int .i64 c, .int .i64 i]] W fun e w' => e = .returned (.int .i64 0) ∧ Below w3.heap.size w3 w' ∧ w'.cell? ⟨w.heap.size, 0, none⟩ = some (.int .u8 n) ∧ w'.cell? ⟨w.heap.size, 1, none⟩ = some (.int .i64 a) ∧ w'.cell? ⟨w.heap.size, 2, none⟩ = some (.int .i64 b) ∧ w'.cell? ⟨w.heap.size, 3, none⟩ = some (.int .i64 c) ∧ w'.cell? ⟨w.heap.size, 4, none⟩ = some (.int .i64 i) ∧ w'.cell? ⟨w.heap.size + 1, 0, none⟩ = some (.int .u8 n2) ∧ w'.cell? ⟨w.heap.size + 1, 1, none⟩ = some (.int .i64 a2) ∧ w'.cell? ⟨w.heap.size + 1, 2, none⟩ = some (.int .i64 b2) ∧ w'.cell? ⟨w.heap.size + 1, 3, none⟩ = some (.int .i64 c2) ∧ w'.cell? ⟨w.heap.size + 1, 4, none⟩ = some (.int .i64 i2) from fun W hb => (C3.out W (Tab.of_below hT3 hb)).mono fun e w' ⟨h1, h2⟩ => ⟨h1, mk w' (hb.trans (h2.mono hb.size))⟩)
          have R1 := Lib.hid (show ∀ W : World, Below w3.heap.size w3 W → Calls Tryd.prog 16 #[.int .i64 0, .agg #[.int .u8 n2, .int .i64 a2, .int .i64 b2, .int .i64 c2, .int .i64 i2]] W fun e w' => e = .returned (.bool false) ∧ Below w3.heap.size w3 w' ∧ w'.cell? ⟨w.heap.size, 0, none⟩ = some (.int .u8 n) ∧ w'.cell? ⟨w.heap.size, 1, none⟩ = some (.int .i64 a) ∧ w'.cell? ⟨w.heap.size, 2, none⟩ = some (.int .i64 b) ∧ w'.cell? ⟨w.heap.size, 3, none⟩ = some (.int .i64 c) ∧ w'.cell? ⟨w.heap.size, 4, none⟩ = some (.int .i64 i) ∧ w'.cell? ⟨w.heap.size + 1, 0, none⟩ = some (.int .u8 n2) ∧ w'.cell? ⟨w.heap.size + 1, 1, none⟩ = some (.int .i64 a2) ∧ w'.cell? ⟨w.heap.size + 1, 2, none⟩ = some (.int .i64 b2) ∧ w'.cell? ⟨w.heap.size + 1, 3, none⟩ = some (.int .i64 c2) ∧ w'.cell? ⟨w.heap.size + 1, 4, none⟩ = some (.int .i64 i2) from fun W hb => (C5.out W (Tab.of_below hT3 hb)).mono fun e w' ⟨h1, h2⟩ => ⟨h1, mk w' (hb.trans (h2.mono hb.size))⟩)
          have hs0 := mk w3.drew (Below.refl _ _).drew
          clear mk
          refine wp_region_held_drew (S := fun w' => Below w3.heap.size w3 w' ∧ w'.cell? ⟨w.heap.size, 0, none⟩ = some (.int .u8 n) ∧ w'.cell? ⟨w.heap.size, 1, none⟩ = some (.int .i64 a) ∧ w'.cell? ⟨w.heap.size, 2, none⟩ = some (.int .i64 b) ∧ w'.cell? ⟨w.heap.size, 3, none⟩ = some (.int .i64 c) ∧ w'.cell? ⟨w.heap.size, 4, none⟩ = some (.int .i64 i) ∧ w'.cell? ⟨w.heap.size + 1, 0, none⟩ = some (.int .u8 n2) ∧ w'.cell? ⟨w.heap.size + 1, 1, none⟩ = some (.int .i64 a2) ∧ w'.cell? ⟨w.heap.size + 1, 2, none⟩ = some (.int .i64 b2) ∧ w'.cell? ⟨w.heap.size + 1, 3, none⟩ = some (.int .i64 c2) ∧ w'.cell? ⟨w.heap.size + 1, 4, none⟩ = some (.int .i64 i2)) (by kernel_rfl) hs0 (fun hHeld => ?_)
          refine wpAnyH_take (i := 0) (oi := { dst := some 48, op := Go.Op.load 25 (Go.Operand.tmp 2), type := 25, pos := "law.go:137", after := #[], guard := none }) (v := ?_) rfl (by kernel_rfl) (by kernel_rfl) (by kernel_rfl) (fun _ _ _ h => h) (Or.inl ⟨by rfl, ?_⟩) hHeld ?_
          rotate_left
          · intro w hSw; (try dsimp only at hSw); go_simp; try (with_reducible rfl)
          try simp only [Act.put, List.setIfInBounds_toArray, List.set_cons_zero, List.set_cons_succ]
          refine wpAnyH_take (i := 2) (oi := { dst := some 50, op := Go.Op.load 25 (Go.Operand.tmp 3), type := 25, pos := "law.go:137", after := #[], guard := none }) (v := ?_) rfl (by kernel_rfl) (by kernel_rfl) (by kernel_rfl) (fun _ _ _ h => h) (Or.inl ⟨by rfl, ?_⟩) hHeld ?_
          rotate_left
          · intro w hSw; (try dsimp only at hSw); go_simp; try (with_reducible rfl)
          try simp only [Act.put, List.setIfInBounds_toArray, List.set_cons_zero, List.set_cons_succ]
          refine wpAnyH_take (i := 4) (oi := { dst := some 52, op := Go.Op.move (Go.Operand.tmp 7), type := 4, pos := "law.go:137", after := #[], guard := none }) (v := ?_) rfl (by kernel_rfl) (by kernel_rfl) (by kernel_rfl) (fun _ _ _ h => h) (Or.inl ⟨by rfl, ?_⟩) hHeld ?_
          rotate_left
          · intro w hSw; (try dsimp only at hSw); go_simp; try (with_reducible rfl)
          try simp only [Act.put, List.setIfInBounds_toArray, List.set_cons_zero, List.set_cons_succ]
          refine wpAnyH_ready (rs := [1]) (by kernel_rfl) (by simp) ?_
          refine AllReadyH.cons (o := { dst := some 49, op := Go.Op.call { callee := Go.Callee.value (Go.Operand.func 14), args := #[Go.Operand.tmp 48], argTypes := #[25] }, type := 28, pos := "law.go:137", after := #[{ on := 0, ground := Go.Ground.data }], guard := none }) rfl (fun K hK => ?_) AllReadyH.nil
          go_simp
          (with_reducible refine (R0.out _ ?_).mono ?_); (simp [*]); rintro e w' ⟨rfl, hS⟩
          first | (refine hK.out _ _ ?_ (fun hHeld => ?_)) | (go_wp2_with fail; refine hK.out _ _ ?_ (fun hHeld => ?_))
          · (try dsimp only); (first | assumption | (simp [*]; done))
          clear hK K
          try simp only [Act.put, List.setIfInBounds_toArray, List.set_cons_zero, List.set_cons_succ]
          refine wpAnyH_ready (rs := [3]) (by kernel_rfl) (by simp) ?_
          refine AllReadyH.cons (o := { dst := some 51, op := Go.Op.call { callee := Go.Callee.value (Go.Operand.func 16), args := #[Go.Operand.tmp 49, Go.Operand.tmp 50], argTypes := #[28, 25] }, type := 4, pos := "law.go:137", after := #[{ on := 1, ground := Go.Ground.data }, { on := 2, ground := Go.Ground.data }, { on := 1, ground := Go.Ground.chain }], guard := none }) rfl (fun K hK => ?_) AllReadyH.nil
          go_simp
          (with_reducible refine (R1.out _ ?_).mono ?_); (simp [*]); rintro e w' ⟨rfl, hS⟩
          first | (refine hK.out _ _ ?_ (fun hHeld => ?_)) | (go_wp2_with fail; refine hK.out _ _ ?_ (fun hHeld => ?_))
          · (try dsimp only); (first | assumption | (simp [*]; done))
          clear hK K
          try simp only [Act.put, List.setIfInBounds_toArray, List.set_cons_zero, List.set_cons_succ]
          refine wpAnyH_take (i := 5) (oi := { dst := some 53, op := Go.Op.move (Go.Operand.tmp 52), type := 4, pos := "law.go:137", after := #[{ on := 4, ground := Go.Ground.data }, { on := 3, ground := Go.Ground.chain }], guard := none }) (v := ?_) rfl (by kernel_rfl) (by kernel_rfl) (by kernel_rfl) (fun _ _ _ h => h) (Or.inl ⟨by rfl, ?_⟩) hHeld ?_
          rotate_left
          · intro w hSw; (try dsimp only at hSw); go_simp; try (with_reducible rfl)
          try simp only [Act.put, List.setIfInBounds_toArray, List.set_cons_zero, List.set_cons_succ]
          refine wpAnyH_take (i := 6) (oi := { dst := some 54, op := Go.Op.move (Go.Operand.tmp 8), type := 4, pos := "law.go:137", after := #[{ on := 5, ground := Go.Ground.guard }], guard := some (5, true) }) rfl (by kernel_rfl) (by kernel_rfl) (by kernel_rfl) (fun _ _ _ h => h) (Or.inr ⟨by rfl, rfl⟩) hHeld ?_
          try simp only [Act.put, List.setIfInBounds_toArray, List.set_cons_zero, List.set_cons_succ]
          refine wpAnyH_take (i := 7) (oi := { dst := some 55, op := Go.Op.pick (Go.Operand.tmp 53) (Go.Operand.tmp 54) (Go.Operand.const (Go.Value.bool false)), type := 4, pos := "law.go:137", after := #[{ on := 5, ground := Go.Ground.data }, { on := 6, ground := Go.Ground.data }], guard := none }) (v := ?_) rfl (by kernel_rfl) (by kernel_rfl) (by kernel_rfl) (fun _ _ _ h => h) (Or.inl ⟨by rfl, ?_⟩) hHeld ?_
          rotate_left
          · intro w hSw; (try dsimp only at hSw); go_simp; try (with_reducible rfl)
          try simp only [Act.put, List.setIfInBounds_toArray, List.set_cons_zero, List.set_cons_succ]
          refine wpAnyH_take (i := 8) (oi := { dst := some 56, op := Go.Op.binOp Go.BinOp.eql 4 (Go.Operand.tmp 51) (Go.Operand.tmp 55) 4, type := 4, pos := "law.go:137", after := #[{ on := 3, ground := Go.Ground.data }, { on := 7, ground := Go.Ground.data }], guard := none }) (v := ?_) rfl (by kernel_rfl) (by kernel_rfl) (by kernel_rfl) (fun _ _ _ h => h) (Or.inl ⟨by rfl, ?_⟩) hHeld ?_
          rotate_left
          · intro w hSw; (try dsimp only at hSw); go_simp; try (with_reducible rfl)
          try simp only [Act.put, List.setIfInBounds_toArray, List.set_cons_zero, List.set_cons_succ]
          refine wpAnyH_take (i := 9) (oi := { dst := some 57, op := Go.Op.move (Go.Operand.tmp 56), type := 4, pos := "law.go:137", after := #[{ on := 8, ground := Go.Ground.data }, { on := 5, ground := Go.Ground.chain }], guard := none }) (v := ?_) rfl (by kernel_rfl) (by kernel_rfl) (by kernel_rfl) (fun _ _ _ h => h) (Or.inl ⟨by rfl, ?_⟩) hHeld ?_
          rotate_left
          · intro w hSw; (try dsimp only at hSw); go_simp; try (with_reducible rfl)
          try simp only [Act.put, List.setIfInBounds_toArray, List.set_cons_zero, List.set_cons_succ]
          refine wpAnyH_take (i := 10) (oi := { dst := some 58, op := Go.Op.load 25 (Go.Operand.tmp 3), type := 25, pos := "law.go:137", after := #[{ on := 9, ground := Go.Ground.guard }], guard := some (9, true) }) (v := ?_) rfl (by kernel_rfl) (by kernel_rfl) (by kernel_rfl) (fun _ _ _ h => h) (Or.inl ⟨by rfl, ?_⟩) hHeld ?_
          rotate_left
          · intro w hSw; (try dsimp only at hSw); go_simp; try (with_reducible rfl)
          try simp only [Act.put, List.setIfInBounds_toArray, List.set_cons_zero, List.set_cons_succ]
          refine wpAnyH_ready (rs := [11]) (by kernel_rfl) (by simp) ?_
          refine AllReadyH.cons (o := { dst := some 59, op := Go.Op.call { callee := Go.Callee.value (Go.Operand.func 16), args := #[Go.Operand.const (Go.Value.int Go.IntKind.i64 0), Go.Operand.tmp 58], argTypes := #[28, 25] }, type := 4, pos := "law.go:137", after := #[{ on := 10, ground := Go.Ground.data }, { on := 9, ground := Go.Ground.chain }, { on := 9, ground := Go.Ground.guard }], guard := some (9, true) }) rfl (fun K hK => ?_) AllReadyH.nil
          go_simp
          (with_reducible refine (R1.out _ ?_).mono ?_); (simp [*]); rintro e w' ⟨rfl, hS⟩
          first | (refine hK.out _ _ ?_ (fun hHeld => ?_)) | (go_wp2_with fail; refine hK.out _ _ ?_ (fun hHeld => ?_))
          · (try dsimp only); (first | assumption | (simp [*]; done))
          clear hK K
          try simp only [Act.put, List.setIfInBounds_toArray, List.set_cons_zero, List.set_cons_succ]
          refine wpAnyH_take (i := 12) (oi := { dst := some 60, op := Go.Op.unOp Go.UnOp.not 4 (Go.Operand.tmp 59), type := 4, pos := "law.go:137", after := #[{ on := 11, ground := Go.Ground.data }, { on := 9, ground := Go.Ground.guard }], guard := some (9, true) }) (v := ?_) rfl (by kernel_rfl) (by kernel_rfl) (by kernel_rfl) (fun _ _ _ h => h) (Or.inl ⟨by rfl, ?_⟩) hHeld ?_
          rotate_left
          · intro w hSw; (try dsimp only at hSw); go_simp; try (with_reducible rfl)
          try simp only [Act.put, List.setIfInBounds_toArray, List.set_cons_zero, List.set_cons_succ]
          refine wpAnyH_take (i := 13) (oi := { dst := some 61, op := Go.Op.pick (Go.Operand.tmp 57) (Go.Operand.tmp 60) (Go.Operand.const (Go.Value.bool false)), type := 4, pos := "law.go:137", after := #[{ on := 9, ground := Go.Ground.data }, { on := 12, ground := Go.Ground.data }], guard := none }) (v := ?_) rfl (by kernel_rfl) (by kernel_rfl) (by kernel_rfl) (fun _ _ _ h => h) (Or.inl ⟨by rfl, ?_⟩) hHeld ?_
          rotate_left
          · intro w hSw; (try dsimp only at hSw); go_simp; try (with_reducible rfl)
          try simp only [Act.put, List.setIfInBounds_toArray, List.set_cons_zero, List.set_cons_succ]
          refine wpAnyH_take (i := 14) (oi := { dst := some 4, op := Go.Op.assign (Go.Operand.tmp 61), type := 4, pos := "law.go:137", after := #[{ on := 13, ground := Go.Ground.data }, { on := 11, ground := Go.Ground.chain }, { on := 0, ground := Go.Ground.phase }, { on := 1, ground := Go.Ground.phase }, { on := 2, ground := Go.Ground.phase }, { on := 3, ground := Go.Ground.phase }, { on := 4, ground := Go.Ground.phase }, { on := 5, ground := Go.Ground.phase }, { on := 6, ground := Go.Ground.phase }, { on := 7, ground := Go.Ground.phase }, { on := 8, ground := Go.Ground.phase }, { on := 9, ground := Go.Ground.phase }, { on := 10, ground := Go.Ground.phase }, { on := 11, ground := Go.Ground.phase }, { on := 12, ground := Go.Ground.phase }, { on := 13, ground := Go.Ground.phase }], guard := none }) (v := ?_) rfl (by kernel_rfl) (by kernel_rfl) (by kernel_rfl) (fun _ _ _ h => h) (Or.inl ⟨by rfl, ?_⟩) hHeld ?_
          rotate_left
          · intro w hSw; (try dsimp only at hSw); go_simp; try (with_reducible rfl)
          try simp only [Act.put, List.setIfInBounds_toArray, List.set_cons_zero, List.set_cons_succ]
          refine wpAnyH_done (by kernel_rfl) ?_ _
          go_wp2_with fail
          go_ret
          refine ⟨by simp, ?_⟩
          first | exact bThen (W := w3) (by assumption) (by omega) HB3 | (go_split_ands; exact bThen (W := w3) (by assumption) (by omega) HB3)
        · skip
          go_wp2_with fail
          have mk : ∀ W : World, Below w3.heap.size w3 W → Below w3.heap.size w3 W ∧ W.cell? ⟨w.heap.size, 0, none⟩ = some (.int .u8 n) ∧ W.cell? ⟨w.heap.size, 1, none⟩ = some (.int .i64 a) ∧ W.cell? ⟨w.heap.size, 2, none⟩ = some (.int .i64 b) ∧ W.cell? ⟨w.heap.size, 3, none⟩ = some (.int .i64 c) ∧ W.cell? ⟨w.heap.size, 4, none⟩ = some (.int .i64 i) ∧ W.cell? ⟨w.heap.size + 1, 0, none⟩ = some (.int .u8 n2) ∧ W.cell? ⟨w.heap.size + 1, 1, none⟩ = some (.int .i64 a2) ∧ W.cell? ⟨w.heap.size + 1, 2, none⟩ = some (.int .i64 b2) ∧ W.cell? ⟨w.heap.size + 1, 3, none⟩ = some (.int .i64 c2) ∧ W.cell? ⟨w.heap.size + 1, 4, none⟩ = some (.int .i64 i2) := fun W hb => ⟨hb, (hb.cell (p := ⟨w.heap.size, 0, none⟩) sz3_0).trans c3_0_0, (hb.cell (p := ⟨w.heap.size, 1, none⟩) sz3_0).trans c3_0_1, (hb.cell (p := ⟨w.heap.size, 2, none⟩) sz3_0).trans c3_0_2, (hb.cell (p := ⟨w.heap.size, 3, none⟩) sz3_0).trans c3_0_3, (hb.cell (p := ⟨w.heap.size, 4, none⟩) sz3_0).trans c3_0_4, (hb.cell (p := ⟨w.heap.size + 1, 0, none⟩) sz3_1).trans c3_1_0, (hb.cell (p := ⟨w.heap.size + 1, 1, none⟩) sz3_1).trans c3_1_1, (hb.cell (p := ⟨w.heap.size + 1, 2, none⟩) sz3_1).trans c3_1_2, (hb.cell (p := ⟨w.heap.size + 1, 3, none⟩) sz3_1).trans c3_1_3, (hb.cell (p := ⟨w.heap.size + 1, 4, none⟩) sz3_1).trans c3_1_4⟩
          have R0 := Lib.hid (show ∀ W : World, Below w3.heap.size w3 W → Calls Tryd.prog 14 #[.agg #[.int .u8 n, .int .i64 a, .int .i64 b, .int .i64 c, .int .i64 i]] W fun e w' => e = .returned (.int .i64 0) ∧ Below w3.heap.size w3 w' ∧ w'.cell? ⟨w.heap.size, 0, none⟩ = some (.int .u8 n) ∧ w'.cell? ⟨w.heap.size, 1, none⟩ = some (.int .i64 a) ∧ w'.cell? ⟨w.heap.size, 2, none⟩ = some (.int .i64 b) ∧ w'.cell? ⟨w.heap.size, 3, none⟩ = some (.int .i64 c) ∧ w'.cell? ⟨w.heap.size, 4, none⟩ = some (.int .i64 i) ∧ w'.cell? ⟨w.heap.size + 1, 0, none⟩ = some (.int .u8 n2) ∧ w'.cell? ⟨w.heap.size + 1, 1, none⟩ = some (.int .i64 a2) ∧ w'.cell? ⟨w.heap.size + 1, 2, none⟩ = some (.int .i64 b2) ∧ w'.cell? ⟨w.heap.size + 1, 3, none⟩ = some (.int .i64 c2) ∧ w'.cell? ⟨w.heap.size + 1, 4, none⟩ = some (.int .i64 i2) from fun W hb => (C3.out W (Tab.of_below hT3 hb)).mono fun e w' ⟨h1, h2⟩ => ⟨h1, mk w' (hb.trans (h2.mono hb.size))⟩)
          have R1 := Lib.hid (show ∀ W : World, Below w3.heap.size w3 W → Calls Tryd.prog 16 #[.int .i64 0, .agg #[.int .u8 n2, .int .i64 a2, .int .i64 b2, .int .i64 c2, .int .i64 i2]] W fun e w' => e = .returned (.bool false) ∧ Below w3.heap.size w3 w' ∧ w'.cell? ⟨w.heap.size, 0, none⟩ = some (.int .u8 n) ∧ w'.cell? ⟨w.heap.size, 1, none⟩ = some (.int .i64 a) ∧ w'.cell? ⟨w.heap.size, 2, none⟩ = some (.int .i64 b) ∧ w'.cell? ⟨w.heap.size, 3, none⟩ = some (.int .i64 c) ∧ w'.cell? ⟨w.heap.size, 4, none⟩ = some (.int .i64 i) ∧ w'.cell? ⟨w.heap.size + 1, 0, none⟩ = some (.int .u8 n2) ∧ w'.cell? ⟨w.heap.size + 1, 1, none⟩ = some (.int .i64 a2) ∧ w'.cell? ⟨w.heap.size + 1, 2, none⟩ = some (.int .i64 b2) ∧ w'.cell? ⟨w.heap.size + 1, 3, none⟩ = some (.int .i64 c2) ∧ w'.cell? ⟨w.heap.size + 1, 4, none⟩ = some (.int .i64 i2) from fun W hb => (C5.out W (Tab.of_below hT3 hb)).mono fun e w' ⟨h1, h2⟩ => ⟨h1, mk w' (hb.trans (h2.mono hb.size))⟩)
          have hs0 := mk w3.drew (Below.refl _ _).drew
          clear mk
          refine wp_region_held_drew (S := fun w' => Below w3.heap.size w3 w' ∧ w'.cell? ⟨w.heap.size, 0, none⟩ = some (.int .u8 n) ∧ w'.cell? ⟨w.heap.size, 1, none⟩ = some (.int .i64 a) ∧ w'.cell? ⟨w.heap.size, 2, none⟩ = some (.int .i64 b) ∧ w'.cell? ⟨w.heap.size, 3, none⟩ = some (.int .i64 c) ∧ w'.cell? ⟨w.heap.size, 4, none⟩ = some (.int .i64 i) ∧ w'.cell? ⟨w.heap.size + 1, 0, none⟩ = some (.int .u8 n2) ∧ w'.cell? ⟨w.heap.size + 1, 1, none⟩ = some (.int .i64 a2) ∧ w'.cell? ⟨w.heap.size + 1, 2, none⟩ = some (.int .i64 b2) ∧ w'.cell? ⟨w.heap.size + 1, 3, none⟩ = some (.int .i64 c2) ∧ w'.cell? ⟨w.heap.size + 1, 4, none⟩ = some (.int .i64 i2)) (by kernel_rfl) hs0 (fun hHeld => ?_)
          refine wpAnyH_take (i := 0) (oi := { dst := some 48, op := Go.Op.load 25 (Go.Operand.tmp 2), type := 25, pos := "law.go:137", after := #[], guard := none }) (v := ?_) rfl (by kernel_rfl) (by kernel_rfl) (by kernel_rfl) (fun _ _ _ h => h) (Or.inl ⟨by rfl, ?_⟩) hHeld ?_
          rotate_left
          · intro w hSw; (try dsimp only at hSw); go_simp; try (with_reducible rfl)
          try simp only [Act.put, List.setIfInBounds_toArray, List.set_cons_zero, List.set_cons_succ]
          refine wpAnyH_take (i := 2) (oi := { dst := some 50, op := Go.Op.load 25 (Go.Operand.tmp 3), type := 25, pos := "law.go:137", after := #[], guard := none }) (v := ?_) rfl (by kernel_rfl) (by kernel_rfl) (by kernel_rfl) (fun _ _ _ h => h) (Or.inl ⟨by rfl, ?_⟩) hHeld ?_
          rotate_left
          · intro w hSw; (try dsimp only at hSw); go_simp; try (with_reducible rfl)
          try simp only [Act.put, List.setIfInBounds_toArray, List.set_cons_zero, List.set_cons_succ]
          refine wpAnyH_take (i := 4) (oi := { dst := some 52, op := Go.Op.move (Go.Operand.tmp 7), type := 4, pos := "law.go:137", after := #[], guard := none }) (v := ?_) rfl (by kernel_rfl) (by kernel_rfl) (by kernel_rfl) (fun _ _ _ h => h) (Or.inl ⟨by rfl, ?_⟩) hHeld ?_
          rotate_left
          · intro w hSw; (try dsimp only at hSw); go_simp; try (with_reducible rfl)
          try simp only [Act.put, List.setIfInBounds_toArray, List.set_cons_zero, List.set_cons_succ]
          refine wpAnyH_ready (rs := [1]) (by kernel_rfl) (by simp) ?_
          refine AllReadyH.cons (o := { dst := some 49, op := Go.Op.call { callee := Go.Callee.value (Go.Operand.func 14), args := #[Go.Operand.tmp 48], argTypes := #[25] }, type := 28, pos := "law.go:137", after := #[{ on := 0, ground := Go.Ground.data }], guard := none }) rfl (fun K hK => ?_) AllReadyH.nil
          go_simp
          (with_reducible refine (R0.out _ ?_).mono ?_); (simp [*]); rintro e w' ⟨rfl, hS⟩
          first | (refine hK.out _ _ ?_ (fun hHeld => ?_)) | (go_wp2_with fail; refine hK.out _ _ ?_ (fun hHeld => ?_))
          · (try dsimp only); (first | assumption | (simp [*]; done))
          clear hK K
          try simp only [Act.put, List.setIfInBounds_toArray, List.set_cons_zero, List.set_cons_succ]
          refine wpAnyH_ready (rs := [3]) (by kernel_rfl) (by simp) ?_
          refine AllReadyH.cons (o := { dst := some 51, op := Go.Op.call { callee := Go.Callee.value (Go.Operand.func 16), args := #[Go.Operand.tmp 49, Go.Operand.tmp 50], argTypes := #[28, 25] }, type := 4, pos := "law.go:137", after := #[{ on := 1, ground := Go.Ground.data }, { on := 2, ground := Go.Ground.data }, { on := 1, ground := Go.Ground.chain }], guard := none }) rfl (fun K hK => ?_) AllReadyH.nil
          go_simp
          (with_reducible refine (R1.out _ ?_).mono ?_); (simp [*]); rintro e w' ⟨rfl, hS⟩
          first | (refine hK.out _ _ ?_ (fun hHeld => ?_)) | (go_wp2_with fail; refine hK.out _ _ ?_ (fun hHeld => ?_))
          · (try dsimp only); (first | assumption | (simp [*]; done))
          clear hK K
          try simp only [Act.put, List.setIfInBounds_toArray, List.set_cons_zero, List.set_cons_succ]
          refine wpAnyH_take (i := 5) (oi := { dst := some 53, op := Go.Op.move (Go.Operand.tmp 52), type := 4, pos := "law.go:137", after := #[{ on := 4, ground := Go.Ground.data }, { on := 3, ground := Go.Ground.chain }], guard := none }) (v := ?_) rfl (by kernel_rfl) (by kernel_rfl) (by kernel_rfl) (fun _ _ _ h => h) (Or.inl ⟨by rfl, ?_⟩) hHeld ?_
          rotate_left
          · intro w hSw; (try dsimp only at hSw); go_simp; try (with_reducible rfl)
          try simp only [Act.put, List.setIfInBounds_toArray, List.set_cons_zero, List.set_cons_succ]
          refine wpAnyH_take (i := 6) (oi := { dst := some 54, op := Go.Op.move (Go.Operand.tmp 8), type := 4, pos := "law.go:137", after := #[{ on := 5, ground := Go.Ground.guard }], guard := some (5, true) }) rfl (by kernel_rfl) (by kernel_rfl) (by kernel_rfl) (fun _ _ _ h => h) (Or.inr ⟨by rfl, rfl⟩) hHeld ?_
          try simp only [Act.put, List.setIfInBounds_toArray, List.set_cons_zero, List.set_cons_succ]
          refine wpAnyH_take (i := 7) (oi := { dst := some 55, op := Go.Op.pick (Go.Operand.tmp 53) (Go.Operand.tmp 54) (Go.Operand.const (Go.Value.bool false)), type := 4, pos := "law.go:137", after := #[{ on := 5, ground := Go.Ground.data }, { on := 6, ground := Go.Ground.data }], guard := none }) (v := ?_) rfl (by kernel_rfl) (by kernel_rfl) (by kernel_rfl) (fun _ _ _ h => h) (Or.inl ⟨by rfl, ?_⟩) hHeld ?_
          rotate_left
          · intro w hSw; (try dsimp only at hSw); go_simp; try (with_reducible rfl)
          try simp only [Act.put, List.setIfInBounds_toArray, List.set_cons_zero, List.set_cons_succ]
          refine wpAnyH_take (i := 8) (oi := { dst := some 56, op := Go.Op.binOp Go.BinOp.eql 4 (Go.Operand.tmp 51) (Go.Operand.tmp 55) 4, type := 4, pos := "law.go:137", after := #[{ on := 3, ground := Go.Ground.data }, { on := 7, ground := Go.Ground.data }], guard := none }) (v := ?_) rfl (by kernel_rfl) (by kernel_rfl) (by kernel_rfl) (fun _ _ _ h => h) (Or.inl ⟨by rfl, ?_⟩) hHeld ?_
          rotate_left
          · intro w hSw; (try dsimp only at hSw); go_simp; try (with_reducible rfl)
          try simp only [Act.put, List.setIfInBounds_toArray, List.set_cons_zero, List.set_cons_succ]
          refine wpAnyH_take (i := 9) (oi := { dst := some 57, op := Go.Op.move (Go.Operand.tmp 56), type := 4, pos := "law.go:137", after := #[{ on := 8, ground := Go.Ground.data }, { on := 5, ground := Go.Ground.chain }], guard := none }) (v := ?_) rfl (by kernel_rfl) (by kernel_rfl) (by kernel_rfl) (fun _ _ _ h => h) (Or.inl ⟨by rfl, ?_⟩) hHeld ?_
          rotate_left
          · intro w hSw; (try dsimp only at hSw); go_simp; try (with_reducible rfl)
          try simp only [Act.put, List.setIfInBounds_toArray, List.set_cons_zero, List.set_cons_succ]
          refine wpAnyH_take (i := 10) (oi := { dst := some 58, op := Go.Op.load 25 (Go.Operand.tmp 3), type := 25, pos := "law.go:137", after := #[{ on := 9, ground := Go.Ground.guard }], guard := some (9, true) }) (v := ?_) rfl (by kernel_rfl) (by kernel_rfl) (by kernel_rfl) (fun _ _ _ h => h) (Or.inl ⟨by rfl, ?_⟩) hHeld ?_
          rotate_left
          · intro w hSw; (try dsimp only at hSw); go_simp; try (with_reducible rfl)
          try simp only [Act.put, List.setIfInBounds_toArray, List.set_cons_zero, List.set_cons_succ]
          refine wpAnyH_ready (rs := [11]) (by kernel_rfl) (by simp) ?_
          refine AllReadyH.cons (o := { dst := some 59, op := Go.Op.call { callee := Go.Callee.value (Go.Operand.func 16), args := #[Go.Operand.const (Go.Value.int Go.IntKind.i64 0), Go.Operand.tmp 58], argTypes := #[28, 25] }, type := 4, pos := "law.go:137", after := #[{ on := 10, ground := Go.Ground.data }, { on := 9, ground := Go.Ground.chain }, { on := 9, ground := Go.Ground.guard }], guard := some (9, true) }) rfl (fun K hK => ?_) AllReadyH.nil
          go_simp
          (with_reducible refine (R1.out _ ?_).mono ?_); (simp [*]); rintro e w' ⟨rfl, hS⟩
          first | (refine hK.out _ _ ?_ (fun hHeld => ?_)) | (go_wp2_with fail; refine hK.out _ _ ?_ (fun hHeld => ?_))
          · (try dsimp only); (first | assumption | (simp [*]; done))
          clear hK K
          try simp only [Act.put, List.setIfInBounds_toArray, List.set_cons_zero, List.set_cons_succ]
          refine wpAnyH_take (i := 12) (oi := { dst := some 60, op := Go.Op.unOp Go.UnOp.not 4 (Go.Operand.tmp 59), type := 4, pos := "law.go:137", after := #[{ on := 11, ground := Go.Ground.data }, { on := 9, ground := Go.Ground.guard }], guard := some (9, true) }) (v := ?_) rfl (by kernel_rfl) (by kernel_rfl) (by kernel_rfl) (fun _ _ _ h => h) (Or.inl ⟨by rfl, ?_⟩) hHeld ?_
          rotate_left
          · intro w hSw; (try dsimp only at hSw); go_simp; try (with_reducible rfl)
          try simp only [Act.put, List.setIfInBounds_toArray, List.set_cons_zero, List.set_cons_succ]
          refine wpAnyH_take (i := 13) (oi := { dst := some 61, op := Go.Op.pick (Go.Operand.tmp 57) (Go.Operand.tmp 60) (Go.Operand.const (Go.Value.bool false)), type := 4, pos := "law.go:137", after := #[{ on := 9, ground := Go.Ground.data }, { on := 12, ground := Go.Ground.data }], guard := none }) (v := ?_) rfl (by kernel_rfl) (by kernel_rfl) (by kernel_rfl) (fun _ _ _ h => h) (Or.inl ⟨by rfl, ?_⟩) hHeld ?_
          rotate_left
          · intro w hSw; (try dsimp only at hSw); go_simp; try (with_reducible rfl)
          try simp only [Act.put, List.setIfInBounds_toArray, List.set_cons_zero, List.set_cons_succ]
          refine wpAnyH_take (i := 14) (oi := { dst := some 4, op := Go.Op.assign (Go.Operand.tmp 61), type := 4, pos := "law.go:137", after := #[{ on := 13, ground := Go.Ground.data }, { on := 11, ground := Go.Ground.chain }, { on := 0, ground := Go.Ground.phase }, { on := 1, ground := Go.Ground.phase }, { on := 2, ground := Go.Ground.phase }, { on := 3, ground := Go.Ground.phase }, { on := 4, ground := Go.Ground.phase }, { on := 5, ground := Go.Ground.phase }, { on := 6, ground := Go.Ground.phase }, { on := 7, ground := Go.Ground.phase }, { on := 8, ground := Go.Ground.phase }, { on := 9, ground := Go.Ground.phase }, { on := 10, ground := Go.Ground.phase }, { on := 11, ground := Go.Ground.phase }, { on := 12, ground := Go.Ground.phase }, { on := 13, ground := Go.Ground.phase }], guard := none }) (v := ?_) rfl (by kernel_rfl) (by kernel_rfl) (by kernel_rfl) (fun _ _ _ h => h) (Or.inl ⟨by rfl, ?_⟩) hHeld ?_
          rotate_left
          · intro w hSw; (try dsimp only at hSw); go_simp; try (with_reducible rfl)
          try simp only [Act.put, List.setIfInBounds_toArray, List.set_cons_zero, List.set_cons_succ]
          refine wpAnyH_done (by kernel_rfl) ?_ _
          go_wp2_with fail
          go_ret
          refine ⟨by simp, ?_⟩
          first | exact bThen (W := w3) (by assumption) (by omega) HB3 | (go_split_ands; exact bThen (W := w3) (by assumption) (by omega) HB3)

theorem readsLaw_any (n : Nat) (a b c i : Int) (n2 : Nat) (a2 b2 c2 i2 : Int) (w : World) (hT : Tab w) :
    Calls Tryd.prog 7 #[.agg #[.int .u8 n, .int .i64 a, .int .i64 b, .int .i64 c, .int .i64 i], .agg #[.int .u8 n2, .int .i64 a2, .int .i64 b2, .int .i64 c2, .int .i64 i2]] w fun e w' => e = .returned (.bool true) ∧ Below w.heap.size w w' := by
  by_cases hR : wrR n a b c i = 0
  · exact reads_zero n a b c i n2 a2 b2 c2 i2 w hT hR
  by_cases h18 : n = 18
  · subst h18; exact reads_18 a b c i n2 a2 b2 c2 i2 w hT hR
  by_cases h20 : n = 20
  · subst h20; exact reads_20 a b c i n2 a2 b2 c2 i2 w hT hR
  by_cases h26 : n = 26
  · subst h26; exact reads_26 a b c i n2 a2 b2 c2 i2 w hT hR
  exact reads_none n a b c i n2 a2 b2 c2 i2 w hT hR h18 h20 h26

end Go.Proofs.YtjfenhnlonbmmaaDoor
