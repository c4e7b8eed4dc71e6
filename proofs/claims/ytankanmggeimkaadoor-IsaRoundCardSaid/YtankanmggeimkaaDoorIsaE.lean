/- The walks of the laws IsaRound, IsaWords, IsaDistinct. -/
import Derived.Test.YtankanmggeimkaaDoorIsaD
import Derived.Test.YtankanmggeimkaaDoorIsaP
set_option linter.unusedVariables false
set_option linter.unusedSimpArgs false
namespace Go.Proofs.YtankanmggeimkaaDoor
open Go.RowKit

set_option maxHeartbeats 800000 in
theorem round_no (n : Nat) (a b c i : Int) (w : World) (hT : Tab w) (hv : vld n a b c i = false) :
    Calls Tryd.prog 5 #[.agg #[.int .u8 n, .int .i64 a, .int .i64 b, .int .i64 c, .int .i64 i]] w fun e w' => e = .returned (.bool true) ∧ Below w.heap.size w w' := by
  have hz := hT.size
  have hk : encE n a b c i = 3 := by simp [encE, hv]
  go_enter Tryd.func5, Tryd.ntmps5
  go_wp2_with fail
  refine (awake_any _ (hT.of_below ?_)).mono ?_
  · repeat (first | (with_reducible exact Below.refl _ _) | (with_reducible apply bDrewN) | (with_reducible apply Below.drew) | ((with_reducible apply bSet); (focus first | (simp; done) | (simp; omega) | omega)) | ((with_reducible apply bAlloc); (focus first | (simp; done) | (simp; omega) | omega)))
  rintro e w1 ⟨rfl, hb1⟩
  obtain ⟨hc1, hf1⟩ := bcell hb1
  have hT1 : Tab w1 := (hT.of_below (by repeat (first | (with_reducible exact Below.refl _ _) | (with_reducible apply bDrewN) | (with_reducible apply Below.drew) | ((with_reducible apply bSet); (focus first | (simp; done) | (simp; omega) | omega)) | ((with_reducible apply bAlloc); (focus first | (simp; done) | (simp; omega) | omega)))) : Tab (w.alloc _)).of_below hb1
  have s1 : w.heap.size < w1.heap.size := by have := hb1.size; simp at this; omega
  go_wp2_with fail
  refine (encode_any n a b c i _ hT1).mono ?_
  rintro e w2 ⟨rfl, hb2⟩
  obtain ⟨hc2, hf2⟩ := bcell hb2
  have s2 := hb2.size
  go_wp2_with fail
  refine (valid_any n a b c i _ (hT1.of_below hb2)).mono ?_
  rintro e w3 ⟨rfl, hb3⟩
  have s3 := hb3.size
  go_wp2_with fail
  go_ret
  refine ⟨rfl, ?_⟩
  repeat (first | (with_reducible exact Below.refl _ _) | (with_reducible apply bDrewN) | (with_reducible apply Below.drew) | ((with_reducible apply bThen hb3); (focus first | (simp; done) | (simp; omega) | omega)) | ((with_reducible apply bThen hb2); (focus first | (simp; done) | (simp; omega) | omega)) | ((with_reducible apply bThen hb1); (focus first | (simp; done) | (simp; omega) | omega)) | ((with_reducible apply bSet); (focus first | (simp; done) | (simp; omega) | omega)) | ((with_reducible apply bAlloc); (focus first | (simp; done) | (simp; omega) | omega)))

set_option maxHeartbeats 800000 in
theorem round_ok (n : Nat) (a b c i : Int) (w : World) (hT : Tab w) (hv : vld n a b c i = true) :
    Calls Tryd.prog 5 #[.agg #[.int .u8 n, .int .i64 a, .int .i64 b, .int .i64 c, .int .i64 i]] w fun e w' => e = .returned (.bool true) ∧ Below w.heap.size w w' := by
  have hz := hT.size
  have hk : encE n a b c i = 0 := by simp [encE, hv]
  have hW : encV n a b c i = encW n a b c i := by simp [encV, hv]
  have hbd := encW_bd hv
  have hd := decV_enc hv
  go_enter Tryd.func5, Tryd.ntmps5
  go_wp2_with fail
  refine (awake_any _ (hT.of_below ?_)).mono ?_
  · repeat (first | (with_reducible exact Below.refl _ _) | (with_reducible apply bDrewN) | (with_reducible apply Below.drew) | ((with_reducible apply bSet); (focus first | (simp; done) | (simp; omega) | omega)) | ((with_reducible apply bAlloc); (focus first | (simp; done) | (simp; omega) | omega)))
  rintro e w1 ⟨rfl, hb1⟩
  obtain ⟨hc1, hf1⟩ := bcell hb1
  have hT1 : Tab w1 := (hT.of_below (by repeat (first | (with_reducible exact Below.refl _ _) | (with_reducible apply bDrewN) | (with_reducible apply Below.drew) | ((with_reducible apply bSet); (focus first | (simp; done) | (simp; omega) | omega)) | ((with_reducible apply bAlloc); (focus first | (simp; done) | (simp; omega) | omega)))) : Tab (w.alloc _)).of_below hb1
  have s1 : w.heap.size < w1.heap.size := by have := hb1.size; simp at this; omega
  go_wp2_with fail
  refine (encode_any n a b c i _ hT1).mono ?_
  rintro e w2 ⟨rfl, hb2⟩
  obtain ⟨hc2, hf2⟩ := bcell hb2
  have s2 := hb2.size
  go_wp2_with fail
  refine (decode_any (encW n a b c i) _ hbd.1 hbd.2 (hT1.of_below hb2)).mono ?_
  rintro e w3 ⟨rfl, hb3⟩
  have s3 := hb3.size
  have r0 : w3.cell? ⟨w.heap.size, 0, none⟩ = some (.int .u8 n) := by rw [hb3.cell (p := ⟨w.heap.size, 0, none⟩) (by simp; omega), hc2 _ _ (by omega), hc1 _ _ (by simp)]; simp [go_sem]
  have r1 : w3.cell? ⟨w.heap.size, 1, none⟩ = some (.int .i64 a) := by rw [hb3.cell (p := ⟨w.heap.size, 1, none⟩) (by simp; omega), hc2 _ _ (by omega), hc1 _ _ (by simp)]; simp [go_sem]
  have r2 : w3.cell? ⟨w.heap.size, 2, none⟩ = some (.int .i64 b) := by rw [hb3.cell (p := ⟨w.heap.size, 2, none⟩) (by simp; omega), hc2 _ _ (by omega), hc1 _ _ (by simp)]; simp [go_sem]
  have r3 : w3.cell? ⟨w.heap.size, 3, none⟩ = some (.int .i64 c) := by rw [hb3.cell (p := ⟨w.heap.size, 3, none⟩) (by simp; omega), hc2 _ _ (by omega), hc1 _ _ (by simp)]; simp [go_sem]
  have r4 : w3.cell? ⟨w.heap.size, 4, none⟩ = some (.int .i64 i) := by rw [hb3.cell (p := ⟨w.heap.size, 4, none⟩) (by simp; omega), hc2 _ _ (by omega), hc1 _ _ (by simp)]; simp [go_sem]
  have s4 : w.heap.size < w3.heap.size := by omega
  clear hc1 hf1 hc2 hf2
  go_wp2_with fail
  go_ret
  refine ⟨rfl, ?_⟩
  repeat (first | (with_reducible exact Below.refl _ _) | (with_reducible apply bDrewN) | (with_reducible apply Below.drew) | ((with_reducible apply bThen hb3); (focus first | (simp; done) | (simp; omega) | omega)) | ((with_reducible apply bThen hb2); (focus first | (simp; done) | (simp; omega) | omega)) | ((with_reducible apply bThen hb1); (focus first | (simp; done) | (simp; omega) | omega)) | ((with_reducible apply bSet); (focus first | (simp; done) | (simp; omega) | omega)) | ((with_reducible apply bAlloc); (focus first | (simp; done) | (simp; omega) | omega)))

theorem round_any (n : Nat) (a b c i : Int) (w : World) (hT : Tab w) :
    Calls Tryd.prog 5 #[.agg #[.int .u8 n, .int .i64 a, .int .i64 b, .int .i64 c, .int .i64 i]] w fun e w' => e = .returned (.bool true) ∧ Below w.heap.size w w' := by
  cases hv : vld n a b c i
  · exact round_no n a b c i w hT hv
  · exact round_ok n a b c i w hT hv

end Go.Proofs.YtankanmggeimkaaDoor
