/- The walks of the laws IsaWords, IsaDistinct. -/
import Derived.Test.YtankanmggeimkaaDoorIsaD
import Derived.Test.YtankanmggeimkaaDoorIsaP
set_option linter.unusedVariables false
set_option linter.unusedSimpArgs false
namespace Go.Proofs.YtankanmggeimkaaDoor
open Go.RowKit

set_option maxHeartbeats 800000 in
theorem words_no (x : Int) (w : World) (hx0 : 0 ≤ x) (hx1 : x < 4294967296) (hT : Tab w) (hd : decV x = .tuple #[.agg #[.int .u8 0, .int .i64 0, .int .i64 0, .int .i64 0, .int .i64 0], .int .i64 3]) :
    Calls Tryd.prog 6 #[.int .u32 x] w fun e w' => e = .returned (.bool true) ∧ Below w.heap.size w w' := by
  have hz := hT.size
  go_enter Tryd.func6, Tryd.ntmps6
  go_wp2_with fail
  refine (awake_any _ hT).mono ?_
  rintro e w1 ⟨rfl, hb1⟩
  have hT1 : Tab w1 := hT.of_below hb1
  have s1 := hb1.size
  go_wp2_with fail
  refine (decode_any x _ hx0 hx1 hT1).mono ?_
  rintro e w2 ⟨rfl, hb2⟩
  have s2 := hb2.size
  go_wp2_with fail
  go_ret
  refine ⟨rfl, ?_⟩
  repeat (first | (with_reducible exact Below.refl _ _) | (with_reducible apply bDrewN) | (with_reducible apply Below.drew) | ((with_reducible apply bThen hb2); (focus first | (simp; done) | (simp; omega) | omega)) | ((with_reducible apply bThen hb1); (focus first | (simp; done) | (simp; omega) | omega)) | ((with_reducible apply bSet); (focus first | (simp; done) | (simp; omega) | omega)) | ((with_reducible apply bAlloc); (focus first | (simp; done) | (simp; omega) | omega)))

set_option maxHeartbeats 800000 in
theorem words_ok (x : Int) (n : Nat) (a b c i : Int) (w : World) (hx0 : 0 ≤ x) (hx1 : x < 4294967296) (hT : Tab w) (hd : decV x = .tuple #[.agg #[.int .u8 n, .int .i64 a, .int .i64 b, .int .i64 c, .int .i64 i], .int .i64 0])
    (hv : vld n a b c i = true) (he : encV n a b c i = x) (hk : encE n a b c i = 0) :
    Calls Tryd.prog 6 #[.int .u32 x] w fun e w' => e = .returned (.bool true) ∧ Below w.heap.size w w' := by
  have hz := hT.size
  go_enter Tryd.func6, Tryd.ntmps6
  go_wp2_with fail
  refine (awake_any _ hT).mono ?_
  rintro e w1 ⟨rfl, hb1⟩
  have hT1 : Tab w1 := hT.of_below hb1
  have s1 := hb1.size
  go_wp2_with fail
  refine (decode_any x _ hx0 hx1 hT1).mono ?_
  rintro e w2 ⟨rfl, hb2⟩
  have s2 := hb2.size
  have hT2 : Tab w2 := hT1.of_below hb2
  have HB2 : Below w.heap.size w w2 := hb1.trans (hb2.mono s1)
  clear hb1 hb2 s1 s2 hT1
  have s2 := HB2.size
  go_wp2_with fail
  refine (encode_any n a b c i _ (hT2.of_below ?_)).mono ?_
  · repeat (first | (with_reducible exact Below.refl _ _) | (with_reducible apply bDrewN) | (with_reducible apply Below.drew) | ((with_reducible apply bSet); (focus first | (simp; done) | (simp; omega) | omega)) | ((with_reducible apply bAlloc); (focus first | (simp; done) | (simp; omega) | omega)))
  rintro e w3 ⟨rfl, hb3⟩
  have s3 : w2.heap.size < w3.heap.size := by have := hb3.size; simp at this; omega
  have hT3 : Tab w3 := Tab.of_below (hT2.of_below (by repeat (first | (with_reducible exact Below.refl _ _) | (with_reducible apply bDrewN) | (with_reducible apply Below.drew) | ((with_reducible apply bSet); (focus first | (simp; done) | (simp; omega) | omega)) | ((with_reducible apply bAlloc); (focus first | (simp; done) | (simp; omega) | omega)))) : Tab (w2.alloc _)) hb3
  have r0 : w3.cell? ⟨w2.heap.size, 0, none⟩ = some (.int .u8 n) := by rw [hb3.cell (p := ⟨w2.heap.size, 0, none⟩) (by simp)]; simp [go_sem]
  have r1 : w3.cell? ⟨w2.heap.size, 1, none⟩ = some (.int .i64 a) := by rw [hb3.cell (p := ⟨w2.heap.size, 1, none⟩) (by simp)]; simp [go_sem]
  have r2 : w3.cell? ⟨w2.heap.size, 2, none⟩ = some (.int .i64 b) := by rw [hb3.cell (p := ⟨w2.heap.size, 2, none⟩) (by simp)]; simp [go_sem]
  have r3 : w3.cell? ⟨w2.heap.size, 3, none⟩ = some (.int .i64 c) := by rw [hb3.cell (p := ⟨w2.heap.size, 3, none⟩) (by simp)]; simp [go_sem]
  have r4 : w3.cell? ⟨w2.heap.size, 4, none⟩ = some (.int .i64 i) := by rw [hb3.cell (p := ⟨w2.heap.size, 4, none⟩) (by simp)]; simp [go_sem]
  have HB3 : Below w.heap.size w w3 := by
    repeat (first | (with_reducible exact Below.refl _ _) | (with_reducible apply bDrewN) | (with_reducible apply Below.drew) | (with_reducible exact HB2) | ((with_reducible apply bThen hb3); (focus first | (simp; done) | (simp; omega) | omega)) | ((with_reducible apply bSet); (focus first | (simp; done) | (simp; omega) | omega)) | ((with_reducible apply bAlloc); (focus first | (simp; done) | (simp; omega) | omega)))
  clear hb3
  go_wp2_with fail
  refine (valid_any n a b c i _ (hT3)).mono ?_
  rintro e w4 ⟨rfl, hb4⟩
  have s4 := hb4.size
  go_wp2_with fail
  go_ret
  refine ⟨rfl, ?_⟩
  repeat (first | (with_reducible exact Below.refl _ _) | (with_reducible apply bDrewN) | (with_reducible apply Below.drew) | (with_reducible exact HB3) | ((with_reducible apply bThen hb4); (focus first | (simp; done) | (simp; omega) | omega)) | ((with_reducible apply bSet); (focus first | (simp; done) | (simp; omega) | omega)) | ((with_reducible apply bAlloc); (focus first | (simp; done) | (simp; omega) | omega)))

theorem words_any (x : Int) (w : World) (hx0 : 0 ≤ x) (hx1 : x < 4294967296) (hT : Tab w) :
    Calls Tryd.prog 6 #[.int .u32 x] w fun e w' => e = .returned (.bool true) ∧ Below w.heap.size w w' := by
  by_cases h : vld (dN x) (dA x) (dB x) (dC x) (dI x) = true ∧ encW (dN x) (dA x) (dB x) (dC x) (dI x) = x
  · exact words_ok x _ _ _ _ _ w hx0 hx1 hT (by unfold decV decR; rw [if_pos h]) h.1 (by simp [encV, h.1, h.2]) (by simp [encE, h.1])
  · exact words_no x w hx0 hx1 hT (by unfold decV decR; rw [if_neg h])

theorem vld_of_encE {n : Nat} {a b c i : Int} (h : encE n a b c i = 0) : vld n a b c i = true := by
  cases hv : vld n a b c i
  · simp [encE, hv] at h
  · rfl
theorem encV_inj (n : Nat) (a b c i : Int) (n' : Nat) (a' b' c' i' : Int) (h : encE n a b c i = 0) (h' : encE n' a' b' c' i' = 0) (e : encV n a b c i = encV n' a' b' c' i') : n = n' ∧ a = a' ∧ b = b' ∧ c = c' ∧ i = i' := by
  have v := vld_of_encE h
  have v' := vld_of_encE h'
  simp only [encV, v, v', if_true] at e
  exact enc_inj v v' e

set_option maxHeartbeats 800000 in
theorem distinct_any (n : Nat) (a b c i : Int) (n' : Nat) (a' b' c' i' : Int) (w : World) (hT : Tab w) :
    Calls Tryd.prog 7 #[.agg #[.int .u8 n, .int .i64 a, .int .i64 b, .int .i64 c, .int .i64 i], .agg #[.int .u8 n', .int .i64 a', .int .i64 b', .int .i64 c', .int .i64 i']] w fun e w' => e = .returned (.bool true) ∧ Below w.heap.size w w' := by
  have hz := hT.size
  have HI := Lib.hid (encV_inj n a b c i n' a' b' c' i')
  go_enter Tryd.func7, Tryd.ntmps7
  go_wp2_with fail
  refine (awake_any _ (hT.of_below ?_)).mono ?_
  · repeat (first | (with_reducible exact Below.refl _ _) | (with_reducible apply bDrewN) | (with_reducible apply Below.drew) | ((with_reducible apply bSet); (focus first | (simp; done) | (simp; omega) | omega)) | ((with_reducible apply bAlloc); (focus first | (simp; done) | (simp; omega) | omega)))
  rintro e w1 ⟨rfl, hb1⟩
  have hT1 : Tab w1 := Tab.of_below (hT.of_below (by repeat (first | (with_reducible exact Below.refl _ _) | (with_reducible apply bDrewN) | (with_reducible apply Below.drew) | ((with_reducible apply bSet); (focus first | (simp; done) | (simp; omega) | omega)) | ((with_reducible apply bAlloc); (focus first | (simp; done) | (simp; omega) | omega))))) hb1
  have s1 : w.heap.size < w1.heap.size := by have := hb1.size; simp at this; omega
  have s1' : w.heap.size + 1 < w1.heap.size := by have := hb1.size; simp at this; omega
  have p00 : w1.cell? ⟨w.heap.size, 0, none⟩ = some (.int .u8 n) := by rw [hb1.cell (p := ⟨w.heap.size, 0, none⟩) (by first | (simp; done) | (simp; omega))]; simp [go_sem]
  have p01 : w1.cell? ⟨w.heap.size, 1, none⟩ = some (.int .i64 a) := by rw [hb1.cell (p := ⟨w.heap.size, 1, none⟩) (by first | (simp; done) | (simp; omega))]; simp [go_sem]
  have p02 : w1.cell? ⟨w.heap.size, 2, none⟩ = some (.int .i64 b) := by rw [hb1.cell (p := ⟨w.heap.size, 2, none⟩) (by first | (simp; done) | (simp; omega))]; simp [go_sem]
  have p03 : w1.cell? ⟨w.heap.size, 3, none⟩ = some (.int .i64 c) := by rw [hb1.cell (p := ⟨w.heap.size, 3, none⟩) (by first | (simp; done) | (simp; omega))]; simp [go_sem]
  have p04 : w1.cell? ⟨w.heap.size, 4, none⟩ = some (.int .i64 i) := by rw [hb1.cell (p := ⟨w.heap.size, 4, none⟩) (by first | (simp; done) | (simp; omega))]; simp [go_sem]
  have p10 : w1.cell? ⟨w.heap.size + 1, 0, none⟩ = some (.int .u8 n') := by rw [hb1.cell (p := ⟨w.heap.size + 1, 0, none⟩) (by first | (simp; done) | (simp; omega))]; simp [go_sem]
  have p11 : w1.cell? ⟨w.heap.size + 1, 1, none⟩ = some (.int .i64 a') := by rw [hb1.cell (p := ⟨w.heap.size + 1, 1, none⟩) (by first | (simp; done) | (simp; omega))]; simp [go_sem]
  have p12 : w1.cell? ⟨w.heap.size + 1, 2, none⟩ = some (.int .i64 b') := by rw [hb1.cell (p := ⟨w.heap.size + 1, 2, none⟩) (by first | (simp; done) | (simp; omega))]; simp [go_sem]
  have p13 : w1.cell? ⟨w.heap.size + 1, 3, none⟩ = some (.int .i64 c') := by rw [hb1.cell (p := ⟨w.heap.size + 1, 3, none⟩) (by first | (simp; done) | (simp; omega))]; simp [go_sem]
  have p14 : w1.cell? ⟨w.heap.size + 1, 4, none⟩ = some (.int .i64 i') := by rw [hb1.cell (p := ⟨w.heap.size + 1, 4, none⟩) (by first | (simp; done) | (simp; omega))]; simp [go_sem]
  have HB1 : Below w.heap.size w w1 := by
    repeat (first | (with_reducible exact Below.refl _ _) | (with_reducible apply bDrewN) | (with_reducible apply Below.drew) | ((with_reducible apply bThen hb1); (focus first | (simp; done) | (simp; omega) | omega)) | ((with_reducible apply bSet); (focus first | (simp; done) | (simp; omega) | omega)) | ((with_reducible apply bAlloc); (focus first | (simp; done) | (simp; omega) | omega)))
  clear hb1
  go_wp2_with fail
  refine (encode_any n a b c i _ hT1).mono ?_
  rintro e w2 ⟨rfl, hb2⟩
  have hT2 : Tab w2 := hT1.of_below hb2
  have s2 : w.heap.size < w2.heap.size := by have := hb2.size; omega
  have s2' : w.heap.size + 1 < w2.heap.size := by have := hb2.size; omega
  have q00 : w2.cell? ⟨w.heap.size, 0, none⟩ = some (.int .u8 n) := by rw [hb2.cell (p := ⟨w.heap.size, 0, none⟩) (by first | (simp; done) | (simp; omega) | omega)]; exact p00
  have q01 : w2.cell? ⟨w.heap.size, 1, none⟩ = some (.int .i64 a) := by rw [hb2.cell (p := ⟨w.heap.size, 1, none⟩) (by first | (simp; done) | (simp; omega) | omega)]; exact p01
  have q02 : w2.cell? ⟨w.heap.size, 2, none⟩ = some (.int .i64 b) := by rw [hb2.cell (p := ⟨w.heap.size, 2, none⟩) (by first | (simp; done) | (simp; omega) | omega)]; exact p02
  have q03 : w2.cell? ⟨w.heap.size, 3, none⟩ = some (.int .i64 c) := by rw [hb2.cell (p := ⟨w.heap.size, 3, none⟩) (by first | (simp; done) | (simp; omega) | omega)]; exact p03
  have q04 : w2.cell? ⟨w.heap.size, 4, none⟩ = some (.int .i64 i) := by rw [hb2.cell (p := ⟨w.heap.size, 4, none⟩) (by first | (simp; done) | (simp; omega) | omega)]; exact p04
  have q10 : w2.cell? ⟨w.heap.size + 1, 0, none⟩ = some (.int .u8 n') := by rw [hb2.cell (p := ⟨w.heap.size + 1, 0, none⟩) (by first | (simp; done) | (simp; omega) | omega)]; exact p10
  have q11 : w2.cell? ⟨w.heap.size + 1, 1, none⟩ = some (.int .i64 a') := by rw [hb2.cell (p := ⟨w.heap.size + 1, 1, none⟩) (by first | (simp; done) | (simp; omega) | omega)]; exact p11
  have q12 : w2.cell? ⟨w.heap.size + 1, 2, none⟩ = some (.int .i64 b') := by rw [hb2.cell (p := ⟨w.heap.size + 1, 2, none⟩) (by first | (simp; done) | (simp; omega) | omega)]; exact p12
  have q13 : w2.cell? ⟨w.heap.size + 1, 3, none⟩ = some (.int .i64 c') := by rw [hb2.cell (p := ⟨w.heap.size + 1, 3, none⟩) (by first | (simp; done) | (simp; omega) | omega)]; exact p13
  have q14 : w2.cell? ⟨w.heap.size + 1, 4, none⟩ = some (.int .i64 i') := by rw [hb2.cell (p := ⟨w.heap.size + 1, 4, none⟩) (by first | (simp; done) | (simp; omega) | omega)]; exact p14
  have HB2 : Below w.heap.size w w2 := HB1.trans (hb2.mono (by omega))
  clear hb2 p00 p01 p02 p03 p04 p10 p11 p12 p13 p14
  go_wp2_with fail
  refine (encode_any n' a' b' c' i' _ hT2).mono ?_
  rintro e w3 ⟨rfl, hb3⟩
  have s3 := hb3.size
  have r00 : w3.cell? ⟨w.heap.size, 0, none⟩ = some (.int .u8 n) := by rw [hb3.cell (p := ⟨w.heap.size, 0, none⟩) (by first | (simp; done) | (simp; omega) | omega)]; exact q00
  have r01 : w3.cell? ⟨w.heap.size, 1, none⟩ = some (.int .i64 a) := by rw [hb3.cell (p := ⟨w.heap.size, 1, none⟩) (by first | (simp; done) | (simp; omega) | omega)]; exact q01
  have r02 : w3.cell? ⟨w.heap.size, 2, none⟩ = some (.int .i64 b) := by rw [hb3.cell (p := ⟨w.heap.size, 2, none⟩) (by first | (simp; done) | (simp; omega) | omega)]; exact q02
  have r03 : w3.cell? ⟨w.heap.size, 3, none⟩ = some (.int .i64 c) := by rw [hb3.cell (p := ⟨w.heap.size, 3, none⟩) (by first | (simp; done) | (simp; omega) | omega)]; exact q03
  have r04 : w3.cell? ⟨w.heap.size, 4, none⟩ = some (.int .i64 i) := by rw [hb3.cell (p := ⟨w.heap.size, 4, none⟩) (by first | (simp; done) | (simp; omega) | omega)]; exact q04
  have r10 : w3.cell? ⟨w.heap.size + 1, 0, none⟩ = some (.int .u8 n') := by rw [hb3.cell (p := ⟨w.heap.size + 1, 0, none⟩) (by first | (simp; done) | (simp; omega) | omega)]; exact q10
  have r11 : w3.cell? ⟨w.heap.size + 1, 1, none⟩ = some (.int .i64 a') := by rw [hb3.cell (p := ⟨w.heap.size + 1, 1, none⟩) (by first | (simp; done) | (simp; omega) | omega)]; exact q11
  have r12 : w3.cell? ⟨w.heap.size + 1, 2, none⟩ = some (.int .i64 b') := by rw [hb3.cell (p := ⟨w.heap.size + 1, 2, none⟩) (by first | (simp; done) | (simp; omega) | omega)]; exact q12
  have r13 : w3.cell? ⟨w.heap.size + 1, 3, none⟩ = some (.int .i64 c') := by rw [hb3.cell (p := ⟨w.heap.size + 1, 3, none⟩) (by first | (simp; done) | (simp; omega) | omega)]; exact q13
  have r14 : w3.cell? ⟨w.heap.size + 1, 4, none⟩ = some (.int .i64 i') := by rw [hb3.cell (p := ⟨w.heap.size + 1, 4, none⟩) (by first | (simp; done) | (simp; omega) | omega)]; exact q14
  have HB3 : Below w.heap.size w w3 := HB2.trans (hb3.mono (by omega))
  clear hb3 q00 q01 q02 q03 q04 q10 q11 q12 q13 q14
  go_wp2_with fail
  all_goals go_ret
  all_goals refine ⟨?_, by repeat (first | (with_reducible exact Below.refl _ _) | (with_reducible apply bDrewN) | (with_reducible apply Below.drew) | (with_reducible exact HB3) | ((with_reducible apply bSet); (focus first | (simp; done) | (simp; omega) | omega)) | ((with_reducible apply bAlloc); (focus first | (simp; done) | (simp; omega) | omega)))⟩
  all_goals try (simp; done)
  · have e0 : n = n' := by omega
    have e1 : a = a' := by assumption
    have e2 : b = b' := by assumption
    have e3 : c = c' := by assumption
    have e4 : i = i' := by assumption
    subst e0 e1 e2 e3 e4
    simp
  all_goals
    have k := HI.out (by assumption) (by assumption)
    simp
    intro h
    have k2 := k (by simp [*])
    omega

end Go.Proofs.YtankanmggeimkaaDoor
