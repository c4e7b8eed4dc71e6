/- The walk of the law IsaAccesses. -/
import Derived.Test.YtankanmggeimkaaDoorIsaR
import Derived.Test.YtankanmggeimkaaDoorIsaD
set_option linter.unusedVariables false
set_option linter.unusedSimpArgs false
namespace Go.Proofs.YtankanmggeimkaaDoor
open Go.RowKit Go.Sort

theorem SlI.nil {B : Nat} {w : World} {v : Value} (h : SlI B w v []) : ∃ a cap, v = .slice a 0 cap := by
  rcases h with ⟨_, h⟩ | ⟨h, _⟩
  · exact h
  · exact absurd rfl h
theorem SlI.some {B : Nat} {w : World} {v : Value} {xs : List Int} (h : SlI B w v xs) (hx : xs ≠ []) : ∃ g cap, v = .slice (some ⟨g, 0, none⟩) xs.length cap ∧ B ≤ g ∧ g < w.heap.size ∧ ∀ j, j < xs.length → w.cell? ⟨g, j, none⟩ = Option.some (.int .i64 (xs.getD j 0)) := by
  rcases h with ⟨h, _⟩ | ⟨_, h⟩
  · exact absurd h hx
  · exact h
theorem rrl_le (n : Nat) (a b c i : Int) : (rrl n a b c i).length ≤ 15 := by
  unfold rrl
  split
  · exact rL_le _ _ _ _ _ _ 15
  · simp

set_option maxHeartbeats 1600000 in
theorem accesses_any (n : Nat) (a b c i : Int) (w : World) (hT : Tab w) :
    Calls Tryd.prog 10 #[.agg #[.int .u8 n, .int .i64 a, .int .i64 b, .int .i64 c, .int .i64 i]] w fun e w' => e = .returned (.bool true) ∧ Below w.heap.size w w' := by
  have hxs := rrl_le n a b c i
  have HR := Lib.hid (fun (w : World) (hT : Tab w) => (reads_any n a b c i w hT))
  have HS := Lib.hid (fun (w : World) => rreads_any n a b c i w)
  rw [rdl_rrl] at HR
  generalize rrl n a b c i = xs at *
  have hz := hT.size
  go_enter Tryd.func10, Tryd.ntmps10
  go_wp2_with fail
  refine (awake_any _ (Tab.of_below hT (by repeat (first | (with_reducible exact Below.refl _ _) | (with_reducible apply bDrewN) | (with_reducible apply Below.drew) | ((with_reducible apply bSet); (focus first | (simp; done) | (simp; omega) | omega)) | ((with_reducible apply bAlloc); (focus first | (simp; done) | (simp; omega) | omega)))))).mono ?_
  rintro e w1 ⟨rfl, hb1⟩
  have hT1 : Tab w1 := Tab.of_below (Tab.of_below hT (by repeat (first | (with_reducible exact Below.refl _ _) | (with_reducible apply bDrewN) | (with_reducible apply Below.drew) | ((with_reducible apply bSet); (focus first | (simp; done) | (simp; omega) | omega)) | ((with_reducible apply bAlloc); (focus first | (simp; done) | (simp; omega) | omega))))) hb1
  have sz1_0 : w.heap.size < w1.heap.size := by have h := hb1.size; first | (simp at h; omega) | omega
  have c1_0_0 : w1.cell? ⟨w.heap.size, 0, none⟩ = some (.int .u8 n) := by rw [hb1.cell (p := ⟨w.heap.size, 0, none⟩) (by first | (simp; done) | (simp; omega) | omega)]; first | assumption | (simp [go_sem]; done) | (simp [go_sem, *]; done)
  have c1_0_1 : w1.cell? ⟨w.heap.size, 1, none⟩ = some (.int .i64 a) := by rw [hb1.cell (p := ⟨w.heap.size, 1, none⟩) (by first | (simp; done) | (simp; omega) | omega)]; first | assumption | (simp [go_sem]; done) | (simp [go_sem, *]; done)
  have c1_0_2 : w1.cell? ⟨w.heap.size, 2, none⟩ = some (.int .i64 b) := by rw [hb1.cell (p := ⟨w.heap.size, 2, none⟩) (by first | (simp; done) | (simp; omega) | omega)]; first | assumption | (simp [go_sem]; done) | (simp [go_sem, *]; done)
  have c1_0_3 : w1.cell? ⟨w.heap.size, 3, none⟩ = some (.int .i64 c) := by rw [hb1.cell (p := ⟨w.heap.size, 3, none⟩) (by first | (simp; done) | (simp; omega) | omega)]; first | assumption | (simp [go_sem]; done) | (simp [go_sem, *]; done)
  have c1_0_4 : w1.cell? ⟨w.heap.size, 4, none⟩ = some (.int .i64 i) := by rw [hb1.cell (p := ⟨w.heap.size, 4, none⟩) (by first | (simp; done) | (simp; omega) | omega)]; first | assumption | (simp [go_sem]; done) | (simp [go_sem, *]; done)
  have HB1 : Below w.heap.size w w1 := by
    repeat (first | (with_reducible exact Below.refl _ _) | (with_reducible apply bDrewN) | (with_reducible apply Below.drew) | ((with_reducible apply bThen hb1); (focus first | (simp; done) | (simp; omega) | omega)) | ((with_reducible apply bSet); (focus first | (simp; done) | (simp; omega) | omega)) | ((with_reducible apply bAlloc); (focus first | (simp; done) | (simp; omega) | omega)))
  have hsz1 := HB1.size
  clear hb1 
  go_wp2_with fail
  refine (HR.out _ (Tab.of_below hT1 (by repeat (first | (with_reducible exact Below.refl _ _) | (with_reducible apply bDrewN) | (with_reducible apply Below.drew) | ((with_reducible apply bSet); (focus first | (simp; done) | (simp; omega) | omega)) | ((with_reducible apply bAlloc); (focus first | (simp; done) | (simp; omega) | omega)))))).mono ?_
  rintro e w2 ⟨v1, rfl, sl1, hb2⟩
  have hT2 : Tab w2 := Tab.of_below (Tab.of_below hT1 (by repeat (first | (with_reducible exact Below.refl _ _) | (with_reducible apply bDrewN) | (with_reducible apply Below.drew) | ((with_reducible apply bSet); (focus first | (simp; done) | (simp; omega) | omega)) | ((with_reducible apply bAlloc); (focus first | (simp; done) | (simp; omega) | omega))))) hb2
  have sz2_0 : w.heap.size < w2.heap.size := by have h := hb2.size; first | (simp at h; omega) | omega
  have c2_0_0 : w2.cell? ⟨w.heap.size, 0, none⟩ = some (.int .u8 n) := by rw [hb2.cell (p := ⟨w.heap.size, 0, none⟩) (by first | (simp; done) | (simp; omega) | omega)]; first | assumption | (simp [go_sem]; done) | (simp [go_sem, *]; done)
  have c2_0_1 : w2.cell? ⟨w.heap.size, 1, none⟩ = some (.int .i64 a) := by rw [hb2.cell (p := ⟨w.heap.size, 1, none⟩) (by first | (simp; done) | (simp; omega) | omega)]; first | assumption | (simp [go_sem]; done) | (simp [go_sem, *]; done)
  have c2_0_2 : w2.cell? ⟨w.heap.size, 2, none⟩ = some (.int .i64 b) := by rw [hb2.cell (p := ⟨w.heap.size, 2, none⟩) (by first | (simp; done) | (simp; omega) | omega)]; first | assumption | (simp [go_sem]; done) | (simp [go_sem, *]; done)
  have c2_0_3 : w2.cell? ⟨w.heap.size, 3, none⟩ = some (.int .i64 c) := by rw [hb2.cell (p := ⟨w.heap.size, 3, none⟩) (by first | (simp; done) | (simp; omega) | omega)]; first | assumption | (simp [go_sem]; done) | (simp [go_sem, *]; done)
  have c2_0_4 : w2.cell? ⟨w.heap.size, 4, none⟩ = some (.int .i64 i) := by rw [hb2.cell (p := ⟨w.heap.size, 4, none⟩) (by first | (simp; done) | (simp; omega) | omega)]; first | assumption | (simp [go_sem]; done) | (simp [go_sem, *]; done)
  have HB2 : Below w.heap.size w w2 := by
    repeat (first | (with_reducible exact Below.refl _ _) | (with_reducible apply bDrewN) | (with_reducible apply Below.drew) | (with_reducible exact HB1) | ((with_reducible apply bThen hb2); (focus first | (simp; done) | (simp; omega) | omega)) | ((with_reducible apply bSet); (focus first | (simp; done) | (simp; omega) | omega)) | ((with_reducible apply bAlloc); (focus first | (simp; done) | (simp; omega) | omega)))
  have hsz2 := HB2.size
  clear hb2 sz1_0 c1_0_0 c1_0_1 c1_0_2 c1_0_3 c1_0_4 hsz1
  by_cases hx : xs = []
  · subst hx
    obtain ⟨a1, cap1, rfl⟩ := sl1.nil
    clear sl1
    go_wp2_with fail
    refine (HS.out _).mono ?_
    rintro e w3 ⟨v2, rfl, sl2, hb3⟩
    have hT3 : Tab w3 := Tab.of_below (Tab.of_below hT2 (by repeat (first | (with_reducible exact Below.refl _ _) | (with_reducible apply bDrewN) | (with_reducible apply Below.drew) | ((with_reducible apply bSet); (focus first | (simp; done) | (simp; omega) | omega)) | ((with_reducible apply bAlloc); (focus first | (simp; done) | (simp; omega) | omega))))) hb3
    have sz3_0 : w.heap.size < w3.heap.size := by have h := hb3.size; first | (simp at h; omega) | omega
    have c3_0_0 : w3.cell? ⟨w.heap.size, 0, none⟩ = some (.int .u8 n) := by rw [hb3.cell (p := ⟨w.heap.size, 0, none⟩) (by first | (simp; done) | (simp; omega) | omega)]; first | assumption | (simp [go_sem]; done) | (simp [go_sem, *]; done)
    have c3_0_1 : w3.cell? ⟨w.heap.size, 1, none⟩ = some (.int .i64 a) := by rw [hb3.cell (p := ⟨w.heap.size, 1, none⟩) (by first | (simp; done) | (simp; omega) | omega)]; first | assumption | (simp [go_sem]; done) | (simp [go_sem, *]; done)
    have c3_0_2 : w3.cell? ⟨w.heap.size, 2, none⟩ = some (.int .i64 b) := by rw [hb3.cell (p := ⟨w.heap.size, 2, none⟩) (by first | (simp; done) | (simp; omega) | omega)]; first | assumption | (simp [go_sem]; done) | (simp [go_sem, *]; done)
    have c3_0_3 : w3.cell? ⟨w.heap.size, 3, none⟩ = some (.int .i64 c) := by rw [hb3.cell (p := ⟨w.heap.size, 3, none⟩) (by first | (simp; done) | (simp; omega) | omega)]; first | assumption | (simp [go_sem]; done) | (simp [go_sem, *]; done)
    have c3_0_4 : w3.cell? ⟨w.heap.size, 4, none⟩ = some (.int .i64 i) := by rw [hb3.cell (p := ⟨w.heap.size, 4, none⟩) (by first | (simp; done) | (simp; omega) | omega)]; first | assumption | (simp [go_sem]; done) | (simp [go_sem, *]; done)
    have HB3 : Below w.heap.size w w3 := by
      repeat (first | (with_reducible exact Below.refl _ _) | (with_reducible apply bDrewN) | (with_reducible apply Below.drew) | (with_reducible exact HB2) | ((with_reducible apply bThen hb3); (focus first | (simp; done) | (simp; omega) | omega)) | ((with_reducible apply bSet); (focus first | (simp; done) | (simp; omega) | omega)) | ((with_reducible apply bAlloc); (focus first | (simp; done) | (simp; omega) | omega)))
    have hsz3 := HB3.size
    clear hb3 sz2_0 c2_0_0 c2_0_1 c2_0_2 c2_0_3 c2_0_4 hsz2
    obtain ⟨a2, cap2, rfl⟩ := sl2.nil
    go_wp2_with fail
    refine wp_loop_rounds 1 ?_
    rw [rounds_succ]
    go_wp2_with fail
    refine (writes_any n a b c i _ (Tab.of_below hT3 (by repeat (first | (with_reducible exact Below.refl _ _) | (with_reducible apply bDrewN) | (with_reducible apply Below.drew) | ((with_reducible apply bSet); (focus first | (simp; done) | (simp; omega) | omega)) | ((with_reducible apply bAlloc); (focus first | (simp; done) | (simp; omega) | omega)))))).mono ?_
    rintro e w4 ⟨rfl, hb4⟩
    have hT4 : Tab w4 := Tab.of_below (Tab.of_below hT3 (by repeat (first | (with_reducible exact Below.refl _ _) | (with_reducible apply bDrewN) | (with_reducible apply Below.drew) | ((with_reducible apply bSet); (focus first | (simp; done) | (simp; omega) | omega)) | ((with_reducible apply bAlloc); (focus first | (simp; done) | (simp; omega) | omega))))) hb4
    have sz4_0 : w.heap.size < w4.heap.size := by have h := hb4.size; first | (simp at h; omega) | omega
    have c4_0_0 : w4.cell? ⟨w.heap.size, 0, none⟩ = some (.int .u8 n) := by rw [hb4.cell (p := ⟨w.heap.size, 0, none⟩) (by first | (simp; done) | (simp; omega) | omega)]; first | assumption | (simp [go_sem]; done) | (simp [go_sem, *]; done)
    have c4_0_1 : w4.cell? ⟨w.heap.size, 1, none⟩ = some (.int .i64 a) := by rw [hb4.cell (p := ⟨w.heap.size, 1, none⟩) (by first | (simp; done) | (simp; omega) | omega)]; first | assumption | (simp [go_sem]; done) | (simp [go_sem, *]; done)
    have c4_0_2 : w4.cell? ⟨w.heap.size, 2, none⟩ = some (.int .i64 b) := by rw [hb4.cell (p := ⟨w.heap.size, 2, none⟩) (by first | (simp; done) | (simp; omega) | omega)]; first | assumption | (simp [go_sem]; done) | (simp [go_sem, *]; done)
    have c4_0_3 : w4.cell? ⟨w.heap.size, 3, none⟩ = some (.int .i64 c) := by rw [hb4.cell (p := ⟨w.heap.size, 3, none⟩) (by first | (simp; done) | (simp; omega) | omega)]; first | assumption | (simp [go_sem]; done) | (simp [go_sem, *]; done)
    have c4_0_4 : w4.cell? ⟨w.heap.size, 4, none⟩ = some (.int .i64 i) := by rw [hb4.cell (p := ⟨w.heap.size, 4, none⟩) (by first | (simp; done) | (simp; omega) | omega)]; first | assumption | (simp [go_sem]; done) | (simp [go_sem, *]; done)
    have HB4 : Below w.heap.size w w4 := by
      repeat (first | (with_reducible exact Below.refl _ _) | (with_reducible apply bDrewN) | (with_reducible apply Below.drew) | (with_reducible exact HB3) | ((with_reducible apply bThen hb4); (focus first | (simp; done) | (simp; omega) | omega)) | ((with_reducible apply bSet); (focus first | (simp; done) | (simp; omega) | omega)) | ((with_reducible apply bAlloc); (focus first | (simp; done) | (simp; omega) | omega)))
    have hsz4 := HB4.size
    clear hb4 sz3_0 c3_0_0 c3_0_1 c3_0_2 c3_0_3 c3_0_4 hsz3
    go_wp2_with fail
    refine (rwrites_any n a b c i _).mono ?_
    rintro e w5 ⟨rfl, hb5⟩
    have hT5 : Tab w5 := Tab.of_below (Tab.of_below hT4 (by repeat (first | (with_reducible exact Below.refl _ _) | (with_reducible apply bDrewN) | (with_reducible apply Below.drew) | ((with_reducible apply bSet); (focus first | (simp; done) | (simp; omega) | omega)) | ((with_reducible apply bAlloc); (focus first | (simp; done) | (simp; omega) | omega))))) hb5
    have sz5_0 : w.heap.size < w5.heap.size := by have h := hb5.size; first | (simp at h; omega) | omega
    have c5_0_0 : w5.cell? ⟨w.heap.size, 0, none⟩ = some (.int .u8 n) := by rw [hb5.cell (p := ⟨w.heap.size, 0, none⟩) (by first | (simp; done) | (simp; omega) | omega)]; first | assumption | (simp [go_sem]; done) | (simp [go_sem, *]; done)
    have c5_0_1 : w5.cell? ⟨w.heap.size, 1, none⟩ = some (.int .i64 a) := by rw [hb5.cell (p := ⟨w.heap.size, 1, none⟩) (by first | (simp; done) | (simp; omega) | omega)]; first | assumption | (simp [go_sem]; done) | (simp [go_sem, *]; done)
    have c5_0_2 : w5.cell? ⟨w.heap.size, 2, none⟩ = some (.int .i64 b) := by rw [hb5.cell (p := ⟨w.heap.size, 2, none⟩) (by first | (simp; done) | (simp; omega) | omega)]; first | assumption | (simp [go_sem]; done) | (simp [go_sem, *]; done)
    have c5_0_3 : w5.cell? ⟨w.heap.size, 3, none⟩ = some (.int .i64 c) := by rw [hb5.cell (p := ⟨w.heap.size, 3, none⟩) (by first | (simp; done) | (simp; omega) | omega)]; first | assumption | (simp [go_sem]; done) | (simp [go_sem, *]; done)
    have c5_0_4 : w5.cell? ⟨w.heap.size, 4, none⟩ = some (.int .i64 i) := by rw [hb5.cell (p := ⟨w.heap.size, 4, none⟩) (by first | (simp; done) | (simp; omega) | omega)]; first | assumption | (simp [go_sem]; done) | (simp [go_sem, *]; done)
    have HB5 : Below w.heap.size w w5 := by
      repeat (first | (with_reducible exact Below.refl _ _) | (with_reducible apply bDrewN) | (with_reducible apply Below.drew) | (with_reducible exact HB4) | ((with_reducible apply bThen hb5); (focus first | (simp; done) | (simp; omega) | omega)) | ((with_reducible apply bSet); (focus first | (simp; done) | (simp; omega) | omega)) | ((with_reducible apply bAlloc); (focus first | (simp; done) | (simp; omega) | omega)))
    have hsz5 := HB5.size
    clear hb5 sz4_0 c4_0_0 c4_0_1 c4_0_2 c4_0_3 c4_0_4 hsz4
    go_wp2_with fail
    go_ret
    refine ⟨rfl, ?_⟩
    (repeat (first | (with_reducible exact Below.refl _ _) | (with_reducible apply bDrewN) | (with_reducible apply Below.drew) | (with_reducible exact HB5) | ((with_reducible apply bSet); (focus first | (simp; done) | (simp; omega) | omega)) | ((with_reducible apply bAlloc); (focus first | (simp; done) | (simp; omega) | omega))))
  · obtain ⟨g1, cap1, rfl, hg1, hg1', hc1⟩ := sl1.some hx
    clear sl1
    go_wp2_with fail
    refine (HS.out _).mono ?_
    rintro e w3 ⟨v2, rfl, sl2, hb3⟩
    have hT3 : Tab w3 := Tab.of_below (Tab.of_below hT2 (by repeat (first | (with_reducible exact Below.refl _ _) | (with_reducible apply bDrewN) | (with_reducible apply Below.drew) | ((with_reducible apply bSet); (focus first | (simp; done) | (simp; omega) | omega)) | ((with_reducible apply bAlloc); (focus first | (simp; done) | (simp; omega) | omega))))) hb3
    have sz3_0 : w.heap.size < w3.heap.size := by have h := hb3.size; first | (simp at h; omega) | omega
    have c3_0_0 : w3.cell? ⟨w.heap.size, 0, none⟩ = some (.int .u8 n) := by rw [hb3.cell (p := ⟨w.heap.size, 0, none⟩) (by first | (simp; done) | (simp; omega) | omega)]; first | assumption | (simp [go_sem]; done) | (simp [go_sem, *]; done)
    have c3_0_1 : w3.cell? ⟨w.heap.size, 1, none⟩ = some (.int .i64 a) := by rw [hb3.cell (p := ⟨w.heap.size, 1, none⟩) (by first | (simp; done) | (simp; omega) | omega)]; first | assumption | (simp [go_sem]; done) | (simp [go_sem, *]; done)
    have c3_0_2 : w3.cell? ⟨w.heap.size, 2, none⟩ = some (.int .i64 b) := by rw [hb3.cell (p := ⟨w.heap.size, 2, none⟩) (by first | (simp; done) | (simp; omega) | omega)]; first | assumption | (simp [go_sem]; done) | (simp [go_sem, *]; done)
    have c3_0_3 : w3.cell? ⟨w.heap.size, 3, none⟩ = some (.int .i64 c) := by rw [hb3.cell (p := ⟨w.heap.size, 3, none⟩) (by first | (simp; done) | (simp; omega) | omega)]; first | assumption | (simp [go_sem]; done) | (simp [go_sem, *]; done)
    have c3_0_4 : w3.cell? ⟨w.heap.size, 4, none⟩ = some (.int .i64 i) := by rw [hb3.cell (p := ⟨w.heap.size, 4, none⟩) (by first | (simp; done) | (simp; omega) | omega)]; first | assumption | (simp [go_sem]; done) | (simp [go_sem, *]; done)
    have HB3 : Below w.heap.size w w3 := by
      repeat (first | (with_reducible exact Below.refl _ _) | (with_reducible apply bDrewN) | (with_reducible apply Below.drew) | (with_reducible exact HB2) | ((with_reducible apply bThen hb3); (focus first | (simp; done) | (simp; omega) | omega)) | ((with_reducible apply bSet); (focus first | (simp; done) | (simp; omega) | omega)) | ((with_reducible apply bAlloc); (focus first | (simp; done) | (simp; omega) | omega)))
    have hsz3 := HB3.size
    have hq1 : ∀ j, j < xs.length → w3.cell? ⟨g1, j, none⟩ = some (.int .i64 (xs.getD j 0)) := fun j hj => by rw [hb3.cell (p := ⟨g1, j, none⟩) (by omega)]; exact hc1 j hj
    clear hb3 sz2_0 c2_0_0 c2_0_1 c2_0_2 c2_0_3 c2_0_4 hsz2
    obtain ⟨g2, cap2, rfl, hg2, hg2', hc2⟩ := sl2.some hx
    clear sl2 hc1
    have HC1 := Lib.hid hq1
    have HC2 := Lib.hid hc2
    clear hq1 hc2
    have hpos : 0 < xs.length := List.length_pos_iff.2 hx
    go_wp2_with fail
    go_loopw [21] (fun r wr => ∃ (k q : Nat), k ≤ xs.length ∧ r = .int .i64 k ∧ wr = w3.drewN q) (fun r _ => xs.length - (intOf r).toNat)
    case atStart => exact ⟨0, 0, by omega, rfl, rfl⟩
    case round =>
      obtain ⟨k, q, hk, rfl, rfl⟩ := hrel
      by_cases hlt : k < xs.length
      · have d1 := HC1.out k hlt
        have d2 := HC2.out k hlt
        generalize xs.getD k 0 = z at d1 d2
        go_wp2_with fail
        go_quiet (fail)
        go_wp2_with fail
        exact ⟨⟨k + 1, _, by omega, by go_num, rfl⟩, by simp [intOf]; omega⟩
      · go_wp2_with fail
        refine (writes_any n a b c i _ (Tab.of_below hT3 (by repeat (first | (with_reducible exact Below.refl _ _) | (with_reducible apply bDrewN) | (with_reducible apply Below.drew) | ((with_reducible apply bSet); (focus first | (simp; done) | (simp; omega) | omega)) | ((with_reducible apply bAlloc); (focus first | (simp; done) | (simp; omega) | omega)))))).mono ?_
        rintro e w4 ⟨rfl, hb4⟩
        have hT4 : Tab w4 := Tab.of_below (Tab.of_below hT3 (by repeat (first | (with_reducible exact Below.refl _ _) | (with_reducible apply bDrewN) | (with_reducible apply Below.drew) | ((with_reducible apply bSet); (focus first | (simp; done) | (simp; omega) | omega)) | ((with_reducible apply bAlloc); (focus first | (simp; done) | (simp; omega) | omega))))) hb4
        have sz4_0 : w.heap.size < w4.heap.size := by have h := hb4.size; first | (simp at h; omega) | omega
        have c4_0_0 : w4.cell? ⟨w.heap.size, 0, none⟩ = some (.int .u8 n) := by rw [hb4.cell (p := ⟨w.heap.size, 0, none⟩) (by first | (simp; done) | (simp; omega) | omega)]; first | assumption | (simp [go_sem]; done) | (simp [go_sem, *]; done)
        have c4_0_1 : w4.cell? ⟨w.heap.size, 1, none⟩ = some (.int .i64 a) := by rw [hb4.cell (p := ⟨w.heap.size, 1, none⟩) (by first | (simp; done) | (simp; omega) | omega)]; first | assumption | (simp [go_sem]; done) | (simp [go_sem, *]; done)
        have c4_0_2 : w4.cell? ⟨w.heap.size, 2, none⟩ = some (.int .i64 b) := by rw [hb4.cell (p := ⟨w.heap.size, 2, none⟩) (by first | (simp; done) | (simp; omega) | omega)]; first | assumption | (simp [go_sem]; done) | (simp [go_sem, *]; done)
        have c4_0_3 : w4.cell? ⟨w.heap.size, 3, none⟩ = some (.int .i64 c) := by rw [hb4.cell (p := ⟨w.heap.size, 3, none⟩) (by first | (simp; done) | (simp; omega) | omega)]; first | assumption | (simp [go_sem]; done) | (simp [go_sem, *]; done)
        have c4_0_4 : w4.cell? ⟨w.heap.size, 4, none⟩ = some (.int .i64 i) := by rw [hb4.cell (p := ⟨w.heap.size, 4, none⟩) (by first | (simp; done) | (simp; omega) | omega)]; first | assumption | (simp [go_sem]; done) | (simp [go_sem, *]; done)
        have HB4 : Below w.heap.size w w4 := by
          repeat (first | (with_reducible exact Below.refl _ _) | (with_reducible apply bDrewN) | (with_reducible apply Below.drew) | (with_reducible exact HB3) | ((with_reducible apply bThen hb4); (focus first | (simp; done) | (simp; omega) | omega)) | ((with_reducible apply bSet); (focus first | (simp; done) | (simp; omega) | omega)) | ((with_reducible apply bAlloc); (focus first | (simp; done) | (simp; omega) | omega)))
        have hsz4 := HB4.size
        clear hb4 sz3_0 c3_0_0 c3_0_1 c3_0_2 c3_0_3 c3_0_4 hsz3
        go_wp2_with fail
        refine (rwrites_any n a b c i _).mono ?_
        rintro e w5 ⟨rfl, hb5⟩
        have hT5 : Tab w5 := Tab.of_below (Tab.of_below hT4 (by repeat (first | (with_reducible exact Below.refl _ _) | (with_reducible apply bDrewN) | (with_reducible apply Below.drew) | ((with_reducible apply bSet); (focus first | (simp; done) | (simp; omega) | omega)) | ((with_reducible apply bAlloc); (focus first | (simp; done) | (simp; omega) | omega))))) hb5
        have sz5_0 : w.heap.size < w5.heap.size := by have h := hb5.size; first | (simp at h; omega) | omega
        have c5_0_0 : w5.cell? ⟨w.heap.size, 0, none⟩ = some (.int .u8 n) := by rw [hb5.cell (p := ⟨w.heap.size, 0, none⟩) (by first | (simp; done) | (simp; omega) | omega)]; first | assumption | (simp [go_sem]; done) | (simp [go_sem, *]; done)
        have c5_0_1 : w5.cell? ⟨w.heap.size, 1, none⟩ = some (.int .i64 a) := by rw [hb5.cell (p := ⟨w.heap.size, 1, none⟩) (by first | (simp; done) | (simp; omega) | omega)]; first | assumption | (simp [go_sem]; done) | (simp [go_sem, *]; done)
        have c5_0_2 : w5.cell? ⟨w.heap.size, 2, none⟩ = some (.int .i64 b) := by rw [hb5.cell (p := ⟨w.heap.size, 2, none⟩) (by first | (simp; done) | (simp; omega) | omega)]; first | assumption | (simp [go_sem]; done) | (simp [go_sem, *]; done)
        have c5_0_3 : w5.cell? ⟨w.heap.size, 3, none⟩ = some (.int .i64 c) := by rw [hb5.cell (p := ⟨w.heap.size, 3, none⟩) (by first | (simp; done) | (simp; omega) | omega)]; first | assumption | (simp [go_sem]; done) | (simp [go_sem, *]; done)
        have c5_0_4 : w5.cell? ⟨w.heap.size, 4, none⟩ = some (.int .i64 i) := by rw [hb5.cell (p := ⟨w.heap.size, 4, none⟩) (by first | (simp; done) | (simp; omega) | omega)]; first | assumption | (simp [go_sem]; done) | (simp [go_sem, *]; done)
        have HB5 : Below w.heap.size w w5 := by
          repeat (first | (with_reducible exact Below.refl _ _) | (with_reducible apply bDrewN) | (with_reducible apply Below.drew) | (with_reducible exact HB4) | ((with_reducible apply bThen hb5); (focus first | (simp; done) | (simp; omega) | omega)) | ((with_reducible apply bSet); (focus first | (simp; done) | (simp; omega) | omega)) | ((with_reducible apply bAlloc); (focus first | (simp; done) | (simp; omega) | omega)))
        have hsz5 := HB5.size
        clear hb5 sz4_0 c4_0_0 c4_0_1 c4_0_2 c4_0_3 c4_0_4 hsz4
        go_wp2_with fail
        go_ret
        refine ⟨rfl, ?_⟩
        (repeat (first | (with_reducible exact Below.refl _ _) | (with_reducible apply bDrewN) | (with_reducible apply Below.drew) | (with_reducible exact HB5) | ((with_reducible apply bSet); (focus first | (simp; done) | (simp; omega) | omega)) | ((with_reducible apply bAlloc); (focus first | (simp; done) | (simp; omega) | omega))))

end Go.Proofs.YtankanmggeimkaaDoor
