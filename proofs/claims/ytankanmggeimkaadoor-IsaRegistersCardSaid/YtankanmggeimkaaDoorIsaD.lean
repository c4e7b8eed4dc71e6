/- The chapter's examples: ontimelaw04.awake returns true. -/
import Derived.Test.YtankanmggeimkaaDoorIsaC
set_option linter.unusedVariables false
set_option linter.unusedSimpArgs false
namespace Go.Proofs.YtankanmggeimkaaDoor
open Go.RowKit

set_option maxHeartbeats 800000 in
theorem awake_any (w : World) (hT : Tab w) : Calls Tryd.prog 12 #[] w fun e w' => e = .returned (.bool true) ∧ Below w.heap.size w w' := by
  have hz := hT.size
  have v1 : encV 2 3 1 2 0 = 147095552 := by decide
  have k1 : encE 2 3 1 2 0 = 0 := by decide
  have v2 : encV 14 5 0 0 (-1) = 960757759 := by decide
  have k2 : encE 14 5 0 0 (-1) = 0 := by decide
  have v3 : encV 24 0 0 0 (-3) = 1610874877 := by decide
  have k3 : encE 24 0 0 0 (-3) = 0 := by decide
  have d1 : decV 147095552 = .tuple #[.agg #[.int .u8 2, .int .i64 3, .int .i64 1, .int .i64 2, .int .i64 0], .int .i64 0] := by
    unfold decV decR
    rw [if_pos (by decide)]
    rfl
  have d2 : decV 147095553 = .tuple #[.agg #[.int .u8 0, .int .i64 0, .int .i64 0, .int .i64 0, .int .i64 0], .int .i64 3] := by
    unfold decV decR
    rw [if_neg (by decide)]
  go_enter Tryd.func12, Tryd.ntmps12
  go_wp2_with fail
  refine (encode_any 2 3 1 2 0 _ hT).mono ?_
  rintro e w1 ⟨rfl, hb1⟩
  have hT1 := hT.of_below hb1
  have s1 := hb1.size
  go_wp2_with fail
  refine (encode_any 14 5 0 0 (-1) _ hT1).mono ?_
  rintro e w2 ⟨rfl, hb2⟩
  have hT2 := hT1.of_below hb2
  have s2 := hb2.size
  go_wp2_with fail
  refine (encode_any 24 0 0 0 (-3) _ hT2).mono ?_
  rintro e w3 ⟨rfl, hb3⟩
  have hT3 := hT2.of_below hb3
  have s3 := hb3.size
  go_wp2_with fail
  refine (decode_any 147095552 _ (by omega) (by omega) hT3).mono ?_
  rintro e w4 ⟨rfl, hb4⟩
  have hT4 := hT3.of_below hb4
  have s4 := hb4.size
  have HB4 : Below w.heap.size w w4 := (((hb1.trans (hb2.mono s1)).trans (hb3.mono (by omega))).trans (hb4.mono (by omega)))
  clear hb1 hb2 hb3 hb4 hT1 hT2 hT3
  go_wp2_with fail
  refine (decode_any 147095553 _ (by omega) (by omega) (hT4.of_below ?_)).mono ?_
  · repeat (first | (with_reducible exact Below.refl _ _) | (with_reducible apply bDrewN) | (with_reducible apply Below.drew) | ((with_reducible apply bSet); (focus first | (simp; done) | (simp; omega) | omega)) | ((with_reducible apply bAlloc); (focus first | (simp; done) | (simp; omega) | omega)))
  rintro e w5 ⟨rfl, hb5⟩
  obtain ⟨hc5, hf5⟩ := bcell hb5
  have s5 : w4.heap.size < w5.heap.size := by have := hb5.size; simp at this; omega
  have r0 : w5.cell? ⟨w4.heap.size, 0, none⟩ = some (.int .u8 2) := by rw [hc5 _ _ (by simp)]; simp [go_sem]
  have r1 : w5.cell? ⟨w4.heap.size, 1, none⟩ = some (.int .i64 3) := by rw [hc5 _ _ (by simp)]; simp [go_sem]
  have r2 : w5.cell? ⟨w4.heap.size, 2, none⟩ = some (.int .i64 1) := by rw [hc5 _ _ (by simp)]; simp [go_sem]
  have r3 : w5.cell? ⟨w4.heap.size, 3, none⟩ = some (.int .i64 2) := by rw [hc5 _ _ (by simp)]; simp [go_sem]
  have r4 : w5.cell? ⟨w4.heap.size, 4, none⟩ = some (.int .i64 0) := by rw [hc5 _ _ (by simp)]; simp [go_sem]
  clear hc5 hf5 s1 s2 s3 s4
  have s6 := HB4.size
  go_wp2_with fail


  go_ret
  refine ⟨rfl, ?_⟩
  repeat (first | (with_reducible exact Below.refl _ _) | (with_reducible apply bDrewN) | (with_reducible apply Below.drew) | (with_reducible exact HB4) | ((with_reducible apply bThen hb5); (focus first | (simp; done) | (simp; omega) | omega)) | ((with_reducible apply bSet); (focus first | (simp; done) | (simp; omega) | omega)) | ((with_reducible apply bAlloc); (focus first | (simp; done) | (simp; omega) | omega)))

end Go.Proofs.YtankanmggeimkaaDoor
