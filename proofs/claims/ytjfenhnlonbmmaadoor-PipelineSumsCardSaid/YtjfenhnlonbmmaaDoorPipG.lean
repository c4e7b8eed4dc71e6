/- Layer 8: the law PipelineSums. -/
import Derived.Test.YtjfenhnlonbmmaaDoorPipP
set_option linter.unusedVariables false
set_option linter.unusedSimpArgs false
namespace Go.Proofs.YtjfenhnlonbmmaaDoor
open Go.RowKit Go.Sort

set_option maxHeartbeats 3200000 in
theorem sums_any (m d t h s : Int) (v : Value) (l : List Ins) (w : World) (hT : Tab w) (hv : InsAt w v l) :
    Calls Tryd.prog 4 #[.agg #[.int .i64 m, .int .i64 d, .int .i64 t, .int .i64 h], .int .i64 s, v] w fun e w' => e = .returned (.bool true) ∧ Below w.heap.size w w' := by
  obtain ⟨p, cap, rfl, hp⟩ := hv
  have HP := Lib.hid hp
  clear hp
  have HV := Lib.hid (fun (w : World) => validT_any m d t h w)
  cases hok : okT m d t h
  · rw [hok] at HV
    have hz := hT.size
    go_enter Tryd.func4, Tryd.ntmps4
    go_wp2_with fail
    refine (awake8_any _ (Tab.of_below hT (by repeat (first | (with_reducible exact Below.refl _ _) | (with_reducible apply bDrewN) | (with_reducible apply Below.drew) | ((with_reducible apply bSet); (focus first | (simp; done) | (simp; omega) | omega)) | ((with_reducible apply bAlloc); (focus first | (simp; done) | (simp; omega) | omega)))))).mono ?_
    rintro e w1 ⟨rfl, hb1⟩
    have hT1 : Tab w1 := Tab.of_below (Tab.of_below hT (by repeat (first | (with_reducible exact Below.refl _ _) | (with_reducible apply bDrewN) | (with_reducible apply Below.drew) | ((with_reducible apply bSet); (focus first | (simp; done) | (simp; omega) | omega)) | ((with_reducible apply bAlloc); (focus first | (simp; done) | (simp; omega) | omega))))) hb1
    have sz1_0 : w.heap.size < w1.heap.size := by have h := hb1.size; first | (simp at h; omega) | omega
    have c1_0_0 : w1.cell? ⟨w.heap.size, 0, none⟩ = some (.int .i64 m) := by rw [hb1.cell (p := ⟨w.heap.size, 0, none⟩) (by first | (simp; done) | (simp; omega) | omega)]; first | assumption | (simp [go_sem]; done) | (simp [go_sem, *]; done)
    have c1_0_1 : w1.cell? ⟨w.heap.size, 1, none⟩ = some (.int .i64 d) := by rw [hb1.cell (p := ⟨w.heap.size, 1, none⟩) (by first | (simp; done) | (simp; omega) | omega)]; first | assumption | (simp [go_sem]; done) | (simp [go_sem, *]; done)
    have c1_0_2 : w1.cell? ⟨w.heap.size, 2, none⟩ = some (.int .i64 t) := by rw [hb1.cell (p := ⟨w.heap.size, 2, none⟩) (by first | (simp; done) | (simp; omega) | omega)]; first | assumption | (simp [go_sem]; done) | (simp [go_sem, *]; done)
    have c1_0_3 : w1.cell? ⟨w.heap.size, 3, none⟩ = some (.int .i64 h) := by rw [hb1.cell (p := ⟨w.heap.size, 3, none⟩) (by first | (simp; done) | (simp; omega) | omega)]; first | assumption | (simp [go_sem]; done) | (simp [go_sem, *]; done)
    have HB1 : Below w.heap.size w w1 := by
      repeat (first | (with_reducible exact Below.refl _ _) | (with_reducible apply bDrewN) | (with_reducible apply Below.drew) | ((with_reducible apply bThen hb1); (focus first | (simp; done) | (simp; omega) | omega)) | ((with_reducible apply bSet); (focus first | (simp; done) | (simp; omega) | omega)) | ((with_reducible apply bAlloc); (focus first | (simp; done) | (simp; omega) | omega)))
    have hsz1 := HB1.size
    clear hb1 
    go_wp2_with fail
    refine (HV.out _).mono ?_
    rintro e w2 ⟨rfl, hb2⟩
    have hT2 : Tab w2 := Tab.of_below (Tab.of_below hT1 (by repeat (first | (with_reducible exact Below.refl _ _) | (with_reducible apply bDrewN) | (with_reducible apply Below.drew) | ((with_reducible apply bSet); (focus first | (simp; done) | (simp; omega) | omega)) | ((with_reducible apply bAlloc); (focus first | (simp; done) | (simp; omega) | omega))))) hb2
    have sz2_0 : w.heap.size < w2.heap.size := by have h := hb2.size; first | (simp at h; omega) | omega
    have c2_0_0 : w2.cell? ⟨w.heap.size, 0, none⟩ = some (.int .i64 m) := by rw [hb2.cell (p := ⟨w.heap.size, 0, none⟩) (by first | (simp; done) | (simp; omega) | omega)]; first | assumption | (simp [go_sem]; done) | (simp [go_sem, *]; done)
    have c2_0_1 : w2.cell? ⟨w.heap.size, 1, none⟩ = some (.int .i64 d) := by rw [hb2.cell (p := ⟨w.heap.size, 1, none⟩) (by first | (simp; done) | (simp; omega) | omega)]; first | assumption | (simp [go_sem]; done) | (simp [go_sem, *]; done)
    have c2_0_2 : w2.cell? ⟨w.heap.size, 2, none⟩ = some (.int .i64 t) := by rw [hb2.cell (p := ⟨w.heap.size, 2, none⟩) (by first | (simp; done) | (simp; omega) | omega)]; first | assumption | (simp [go_sem]; done) | (simp [go_sem, *]; done)
    have c2_0_3 : w2.cell? ⟨w.heap.size, 3, none⟩ = some (.int .i64 h) := by rw [hb2.cell (p := ⟨w.heap.size, 3, none⟩) (by first | (simp; done) | (simp; omega) | omega)]; first | assumption | (simp [go_sem]; done) | (simp [go_sem, *]; done)
    have HB2 : Below w.heap.size w w2 := by
      repeat (first | (with_reducible exact Below.refl _ _) | (with_reducible apply bDrewN) | (with_reducible apply Below.drew) | (with_reducible exact HB1) | ((with_reducible apply bThen hb2); (focus first | (simp; done) | (simp; omega) | omega)) | ((with_reducible apply bSet); (focus first | (simp; done) | (simp; omega) | omega)) | ((with_reducible apply bAlloc); (focus first | (simp; done) | (simp; omega) | omega)))
    have hsz2 := HB2.size
    clear hb2 sz1_0 c1_0_0 c1_0_1 c1_0_2 c1_0_3 hsz1
    go_wp2_with fail
    go_ret
    refine ⟨rfl, ?_⟩
    (repeat (first | (with_reducible exact Below.refl _ _) | (with_reducible apply bDrewN) | (with_reducible apply Below.drew) | (with_reducible exact HB2) | ((with_reducible apply bSet); (focus first | (simp; done) | (simp; omega) | omega)) | ((with_reducible apply bAlloc); (focus first | (simp; done) | (simp; omega) | omega))))
  · rw [hok] at HV
    obtain ⟨hm, hd, ht, hh⟩ := okT_bd hok
    clear hok
    by_cases hl : l.length ≤ 40
    · have hlI : ¬ (40 : Int) < l.length := by omega
      have hz := hT.size
      go_enter Tryd.func4, Tryd.ntmps4
      go_wp2_with fail
      refine (awake8_any _ (Tab.of_below hT (by repeat (first | (with_reducible exact Below.refl _ _) | (with_reducible apply bDrewN) | (with_reducible apply Below.drew) | ((with_reducible apply bSet); (focus first | (simp; done) | (simp; omega) | omega)) | ((with_reducible apply bAlloc); (focus first | (simp; done) | (simp; omega) | omega)))))).mono ?_
      rintro e w1 ⟨rfl, hb1⟩
      have hT1 : Tab w1 := Tab.of_below (Tab.of_below hT (by repeat (first | (with_reducible exact Below.refl _ _) | (with_reducible apply bDrewN) | (with_reducible apply Below.drew) | ((with_reducible apply bSet); (focus first | (simp; done) | (simp; omega) | omega)) | ((with_reducible apply bAlloc); (focus first | (simp; done) | (simp; omega) | omega))))) hb1
      have sz1_0 : w.heap.size < w1.heap.size := by have h := hb1.size; first | (simp at h; omega) | omega
      have c1_0_0 : w1.cell? ⟨w.heap.size, 0, none⟩ = some (.int .i64 m) := by rw [hb1.cell (p := ⟨w.heap.size, 0, none⟩) (by first | (simp; done) | (simp; omega) | omega)]; first | assumption | (simp [go_sem]; done) | (simp [go_sem, *]; done)
      have c1_0_1 : w1.cell? ⟨w.heap.size, 1, none⟩ = some (.int .i64 d) := by rw [hb1.cell (p := ⟨w.heap.size, 1, none⟩) (by first | (simp; done) | (simp; omega) | omega)]; first | assumption | (simp [go_sem]; done) | (simp [go_sem, *]; done)
      have c1_0_2 : w1.cell? ⟨w.heap.size, 2, none⟩ = some (.int .i64 t) := by rw [hb1.cell (p := ⟨w.heap.size, 2, none⟩) (by first | (simp; done) | (simp; omega) | omega)]; first | assumption | (simp [go_sem]; done) | (simp [go_sem, *]; done)
      have c1_0_3 : w1.cell? ⟨w.heap.size, 3, none⟩ = some (.int .i64 h) := by rw [hb1.cell (p := ⟨w.heap.size, 3, none⟩) (by first | (simp; done) | (simp; omega) | omega)]; first | assumption | (simp [go_sem]; done) | (simp [go_sem, *]; done)
      have HB1 : Below w.heap.size w w1 := by
        repeat (first | (with_reducible exact Below.refl _ _) | (with_reducible apply bDrewN) | (with_reducible apply Below.drew) | ((with_reducible apply bThen hb1); (focus first | (simp; done) | (simp; omega) | omega)) | ((with_reducible apply bSet); (focus first | (simp; done) | (simp; omega) | omega)) | ((with_reducible apply bAlloc); (focus first | (simp; done) | (simp; omega) | omega)))
      have hsz1 := HB1.size
      clear hb1 
      go_wp2_with fail
      refine (HV.out _).mono ?_
      rintro e w2 ⟨rfl, hb2⟩
      have hT2 : Tab w2 := Tab.of_below (Tab.of_below hT1 (by repeat (first | (with_reducible exact Below.refl _ _) | (with_reducible apply bDrewN) | (with_reducible apply Below.drew) | ((with_reducible apply bSet); (focus first | (simp; done) | (simp; omega) | omega)) | ((with_reducible apply bAlloc); (focus first | (simp; done) | (simp; omega) | omega))))) hb2
      have sz2_0 : w.heap.size < w2.heap.size := by have h := hb2.size; first | (simp at h; omega) | omega
      have c2_0_0 : w2.cell? ⟨w.heap.size, 0, none⟩ = some (.int .i64 m) := by rw [hb2.cell (p := ⟨w.heap.size, 0, none⟩) (by first | (simp; done) | (simp; omega) | omega)]; first | assumption | (simp [go_sem]; done) | (simp [go_sem, *]; done)
      have c2_0_1 : w2.cell? ⟨w.heap.size, 1, none⟩ = some (.int .i64 d) := by rw [hb2.cell (p := ⟨w.heap.size, 1, none⟩) (by first | (simp; done) | (simp; omega) | omega)]; first | assumption | (simp [go_sem]; done) | (simp [go_sem, *]; done)
      have c2_0_2 : w2.cell? ⟨w.heap.size, 2, none⟩ = some (.int .i64 t) := by rw [hb2.cell (p := ⟨w.heap.size, 2, none⟩) (by first | (simp; done) | (simp; omega) | omega)]; first | assumption | (simp [go_sem]; done) | (simp [go_sem, *]; done)
      have c2_0_3 : w2.cell? ⟨w.heap.size, 3, none⟩ = some (.int .i64 h) := by rw [hb2.cell (p := ⟨w.heap.size, 3, none⟩) (by first | (simp; done) | (simp; omega) | omega)]; first | assumption | (simp [go_sem]; done) | (simp [go_sem, *]; done)
      have HB2 : Below w.heap.size w w2 := by
        repeat (first | (with_reducible exact Below.refl _ _) | (with_reducible apply bDrewN) | (with_reducible apply Below.drew) | (with_reducible exact HB1) | ((with_reducible apply bThen hb2); (focus first | (simp; done) | (simp; omega) | omega)) | ((with_reducible apply bSet); (focus first | (simp; done) | (simp; omega) | omega)) | ((with_reducible apply bAlloc); (focus first | (simp; done) | (simp; omega) | omega)))
      have hsz2 := HB2.size
      clear hb2 sz1_0 c1_0_0 c1_0_1 c1_0_2 c1_0_3 hsz1
      have S1 := Lib.hid (fun (w : World) (hT : Tab w) (hv : InsAt w (.slice p l.length cap) l) => seq_any m d t h s _ l w hT hv hl hm hd ht hh)
      have S2 := Lib.hid (fun (w : World) (hv : InsAt w (.slice p l.length cap) l) => rseq_any m d t h s _ l w hv hl hm hd ht hh)
      generalize eA : sqT m d t h s l = A at S1 S2
      generalize eX : sqS s l = X at S1 S2
      have HA := Lib.hid eA
      have HX0 := Lib.hid eX
      clear eA eX
      go_wp2_with fail
      refine (S1.out _ (Tab.of_below hT2 (by repeat (first | (with_reducible exact Below.refl _ _) | (with_reducible apply bDrewN) | (with_reducible apply Below.drew) | ((with_reducible apply bSet); (focus first | (simp; done) | (simp; omega) | omega)) | ((with_reducible apply bAlloc); (focus first | (simp; done) | (simp; omega) | omega))))) (InsAt.below (v := .slice p l.length cap) (l := l) ⟨_, _, rfl, HP.out⟩ (show Below w.heap.size w _ from by repeat (first | (with_reducible exact Below.refl _ _) | (with_reducible apply bDrewN) | (with_reducible apply Below.drew) | (with_reducible exact HB2) | ((with_reducible apply bSet); (focus first | (simp; done) | (simp; omega) | omega)) | ((with_reducible apply bAlloc); (focus first | (simp; done) | (simp; omega) | omega)))) (Nat.le_refl _))).mono ?_
      rintro e w3 ⟨rfl, hb3⟩
      have hT3 : Tab w3 := Tab.of_below (Tab.of_below hT2 (by repeat (first | (with_reducible exact Below.refl _ _) | (with_reducible apply bDrewN) | (with_reducible apply Below.drew) | ((with_reducible apply bSet); (focus first | (simp; done) | (simp; omega) | omega)) | ((with_reducible apply bAlloc); (focus first | (simp; done) | (simp; omega) | omega))))) hb3
      have sz3_0 : w.heap.size < w3.heap.size := by have h := hb3.size; first | (simp at h; omega) | omega
      have c3_0_0 : w3.cell? ⟨w.heap.size, 0, none⟩ = some (.int .i64 m) := by rw [hb3.cell (p := ⟨w.heap.size, 0, none⟩) (by first | (simp; done) | (simp; omega) | omega)]; first | assumption | (simp [go_sem]; done) | (simp [go_sem, *]; done)
      have c3_0_1 : w3.cell? ⟨w.heap.size, 1, none⟩ = some (.int .i64 d) := by rw [hb3.cell (p := ⟨w.heap.size, 1, none⟩) (by first | (simp; done) | (simp; omega) | omega)]; first | assumption | (simp [go_sem]; done) | (simp [go_sem, *]; done)
      have c3_0_2 : w3.cell? ⟨w.heap.size, 2, none⟩ = some (.int .i64 t) := by rw [hb3.cell (p := ⟨w.heap.size, 2, none⟩) (by first | (simp; done) | (simp; omega) | omega)]; first | assumption | (simp [go_sem]; done) | (simp [go_sem, *]; done)
      have c3_0_3 : w3.cell? ⟨w.heap.size, 3, none⟩ = some (.int .i64 h) := by rw [hb3.cell (p := ⟨w.heap.size, 3, none⟩) (by first | (simp; done) | (simp; omega) | omega)]; first | assumption | (simp [go_sem]; done) | (simp [go_sem, *]; done)
      have HB3 : Below w.heap.size w w3 := by
        repeat (first | (with_reducible exact Below.refl _ _) | (with_reducible apply bDrewN) | (with_reducible apply Below.drew) | (with_reducible exact HB2) | ((with_reducible apply bThen hb3); (focus first | (simp; done) | (simp; omega) | omega)) | ((with_reducible apply bSet); (focus first | (simp; done) | (simp; omega) | omega)) | ((with_reducible apply bAlloc); (focus first | (simp; done) | (simp; omega) | omega)))
      have hsz3 := HB3.size
      clear hb3 sz2_0 c2_0_0 c2_0_1 c2_0_2 c2_0_3 hsz2
      go_wp2_with fail
      go_loopw [9, 10, 35] (fun tv sv r wr => ∃ (k : Nat) (S Q : Int), k ≤ l.length ∧ sv = .int .i64 S ∧ tv = .int .i64 Q ∧ r = .int .i64 k ∧ Hid (S = sqS s (l.take k)) ∧ Hid (Q = sqT m d t h s (l.take k)) ∧ 0 ≤ Q ∧ Q ≤ 2001 * k ∧ Below w.heap.size w wr ∧ w.heap.size < wr.heap.size ∧ wr.cell? ⟨w.heap.size, 0, none⟩ = some (.int .i64 m) ∧ wr.cell? ⟨w.heap.size, 1, none⟩ = some (.int .i64 d) ∧ wr.cell? ⟨w.heap.size, 2, none⟩ = some (.int .i64 t) ∧ wr.cell? ⟨w.heap.size, 3, none⟩ = some (.int .i64 h)) (fun _ _ r _ => l.length - (intOf r).toNat)
      case atStart => exact ⟨0, s, 0, by omega, rfl, rfl, rfl, rfl, rfl, by omega, by omega, HB3, by assumption, by assumption, by assumption, by assumption, by assumption⟩
      case round =>
        clear sz3_0 c3_0_0 c3_0_1 c3_0_2 c3_0_3 hsz3
        obtain ⟨k, S, Q, hk, rfl, rfl, rfl, hS, hQ, hQ0, hQ1, HB0, sz0, c0_0, c0_1, c0_2, c0_3⟩ := hrel
        have hT0 : Tab wr := Tab.of_below hT HB0
        by_cases hlt : k < l.length
        · have hkI : (k : Int) < l.length := by omega
          have hP := HP.out
          rcases hP with rfl | ⟨lb, lo, rfl, hlb, hP⟩
          · simp at hlt
          have hI := (hP k hlt).below HB0 hlb
          clear hP
          have hlb' : lb < wr.heap.size := Nat.lt_of_lt_of_le hlb HB0.size
          generalize hx : l.getD k default = x at hI
          have HX := Lib.hid hx
          clear hx
          obtain ⟨n, a, b, c, i⟩ := x
          obtain ⟨i0, i1, i2, i3, i4⟩ := hI
          simp only at i0 i1 i2 i3 i4
          have hcb := cyI_bd hm hd ht hh S ⟨n, a, b, c, i⟩
          have hwr : IntKind.i64.wrap (Q + cyI m d t h S ⟨n, a, b, c, i⟩) = Q + cyI m d t h S ⟨n, a, b, c, i⟩ := IntWalk.i64_in _ (by omega)
          have HCY := Lib.hid (fun (w : World) (hT : Tab w) => cycles_any m d t h S n a b c i false w hT hm hd ht hh)
          rw [show cyc m d t h S n a b c i false = cyI m d t h S ⟨n, a, b, c, i⟩ from rfl] at HCY
          generalize hy : cyI m d t h S ⟨n, a, b, c, i⟩ = y at *
          have HY := Lib.hid hy
          clear hy
          go_wp2_with fail
          refine (HCY.out _ (Tab.of_below hT0 (by repeat (first | (with_reducible exact Below.refl _ _) | (with_reducible apply bDrewN) | (with_reducible apply Below.drew) | ((with_reducible apply bSet); (focus first | (simp; done) | (simp; omega) | omega)) | ((with_reducible apply bAlloc); (focus first | (simp; done) | (simp; omega) | omega)))))).mono ?_
          rintro e w11 ⟨rfl, hb11⟩
          have hT11 : Tab w11 := Tab.of_below (Tab.of_below hT0 (by repeat (first | (with_reducible exact Below.refl _ _) | (with_reducible apply bDrewN) | (with_reducible apply Below.drew) | ((with_reducible apply bSet); (focus first | (simp; done) | (simp; omega) | omega)) | ((with_reducible apply bAlloc); (focus first | (simp; done) | (simp; omega) | omega))))) hb11
          have sz11_0 : w.heap.size < w11.heap.size := by have h := hb11.size; first | (simp at h; omega) | omega
          have c11_0_0 : w11.cell? ⟨w.heap.size, 0, none⟩ = some (.int .i64 m) := by rw [hb11.cell (p := ⟨w.heap.size, 0, none⟩) (by first | (simp; done) | (simp; omega) | omega)]; first | assumption | (simp [go_sem]; done) | (simp [go_sem, *]; done)
          have c11_0_1 : w11.cell? ⟨w.heap.size, 1, none⟩ = some (.int .i64 d) := by rw [hb11.cell (p := ⟨w.heap.size, 1, none⟩) (by first | (simp; done) | (simp; omega) | omega)]; first | assumption | (simp [go_sem]; done) | (simp [go_sem, *]; done)
          have c11_0_2 : w11.cell? ⟨w.heap.size, 2, none⟩ = some (.int .i64 t) := by rw [hb11.cell (p := ⟨w.heap.size, 2, none⟩) (by first | (simp; done) | (simp; omega) | omega)]; first | assumption | (simp [go_sem]; done) | (simp [go_sem, *]; done)
          have c11_0_3 : w11.cell? ⟨w.heap.size, 3, none⟩ = some (.int .i64 h) := by rw [hb11.cell (p := ⟨w.heap.size, 3, none⟩) (by first | (simp; done) | (simp; omega) | omega)]; first | assumption | (simp [go_sem]; done) | (simp [go_sem, *]; done)
          have sz11_1 : wr.heap.size < w11.heap.size := by have h := hb11.size; first | (simp at h; omega) | omega
          have c11_1_0 : w11.cell? ⟨wr.heap.size, 0, none⟩ = some (.int .u8 n) := by rw [hb11.cell (p := ⟨wr.heap.size, 0, none⟩) (by first | (simp; done) | (simp; omega) | omega)]; first | assumption | (simp [go_sem]; done) | (simp [go_sem, *]; done)
          have c11_1_1 : w11.cell? ⟨wr.heap.size, 1, none⟩ = some (.int .i64 a) := by rw [hb11.cell (p := ⟨wr.heap.size, 1, none⟩) (by first | (simp; done) | (simp; omega) | omega)]; first | assumption | (simp [go_sem]; done) | (simp [go_sem, *]; done)
          have c11_1_2 : w11.cell? ⟨wr.heap.size, 2, none⟩ = some (.int .i64 b) := by rw [hb11.cell (p := ⟨wr.heap.size, 2, none⟩) (by first | (simp; done) | (simp; omega) | omega)]; first | assumption | (simp [go_sem]; done) | (simp [go_sem, *]; done)
          have c11_1_3 : w11.cell? ⟨wr.heap.size, 3, none⟩ = some (.int .i64 c) := by rw [hb11.cell (p := ⟨wr.heap.size, 3, none⟩) (by first | (simp; done) | (simp; omega) | omega)]; first | assumption | (simp [go_sem]; done) | (simp [go_sem, *]; done)
          have c11_1_4 : w11.cell? ⟨wr.heap.size, 4, none⟩ = some (.int .i64 i) := by rw [hb11.cell (p := ⟨wr.heap.size, 4, none⟩) (by first | (simp; done) | (simp; omega) | omega)]; first | assumption | (simp [go_sem]; done) | (simp [go_sem, *]; done)
          have HB11 : Below w.heap.size w w11 := by
            repeat (first | (with_reducible exact Below.refl _ _) | (with_reducible apply bDrewN) | (with_reducible apply Below.drew) | (with_reducible exact HB0) | ((with_reducible apply bThen hb11); (focus first | (simp; done) | (simp; omega) | omega)) | ((with_reducible apply bSet); (focus first | (simp; done) | (simp; omega) | omega)) | ((with_reducible apply bAlloc); (focus first | (simp; done) | (simp; omega) | omega)))
          have hsz11 := HB11.size
          clear hb11 sz0 c0_0 c0_1 c0_2 c0_3
          go_wp2_with fail
          refine (next_any n a b c i _ (Tab.of_below hT11 (by repeat (first | (with_reducible exact Below.refl _ _) | (with_reducible apply bDrewN) | (with_reducible apply Below.drew) | ((with_reducible apply bSet); (focus first | (simp; done) | (simp; omega) | omega)) | ((with_reducible apply bAlloc); (focus first | (simp; done) | (simp; omega) | omega)))))).mono ?_
          rintro e w12 ⟨rfl, hb12⟩
          have hT12 : Tab w12 := Tab.of_below (Tab.of_below hT11 (by repeat (first | (with_reducible exact Below.refl _ _) | (with_reducible apply bDrewN) | (with_reducible apply Below.drew) | ((with_reducible apply bSet); (focus first | (simp; done) | (simp; omega) | omega)) | ((with_reducible apply bAlloc); (focus first | (simp; done) | (simp; omega) | omega))))) hb12
          have sz12_0 : w.heap.size < w12.heap.size := by have h := hb12.size; first | (simp at h; omega) | omega
          have c12_0_0 : w12.cell? ⟨w.heap.size, 0, none⟩ = some (.int .i64 m) := by rw [hb12.cell (p := ⟨w.heap.size, 0, none⟩) (by first | (simp; done) | (simp; omega) | omega)]; first | assumption | (simp [go_sem]; done) | (simp [go_sem, *]; done)
          have c12_0_1 : w12.cell? ⟨w.heap.size, 1, none⟩ = some (.int .i64 d) := by rw [hb12.cell (p := ⟨w.heap.size, 1, none⟩) (by first | (simp; done) | (simp; omega) | omega)]; first | assumption | (simp [go_sem]; done) | (simp [go_sem, *]; done)
          have c12_0_2 : w12.cell? ⟨w.heap.size, 2, none⟩ = some (.int .i64 t) := by rw [hb12.cell (p := ⟨w.heap.size, 2, none⟩) (by first | (simp; done) | (simp; omega) | omega)]; first | assumption | (simp [go_sem]; done) | (simp [go_sem, *]; done)
          have c12_0_3 : w12.cell? ⟨w.heap.size, 3, none⟩ = some (.int .i64 h) := by rw [hb12.cell (p := ⟨w.heap.size, 3, none⟩) (by first | (simp; done) | (simp; omega) | omega)]; first | assumption | (simp [go_sem]; done) | (simp [go_sem, *]; done)
          have sz12_1 : wr.heap.size < w12.heap.size := by have h := hb12.size; first | (simp at h; omega) | omega
          have c12_1_0 : w12.cell? ⟨wr.heap.size, 0, none⟩ = some (.int .u8 n) := by rw [hb12.cell (p := ⟨wr.heap.size, 0, none⟩) (by first | (simp; done) | (simp; omega) | omega)]; first | assumption | (simp [go_sem]; done) | (simp [go_sem, *]; done)
          have c12_1_1 : w12.cell? ⟨wr.heap.size, 1, none⟩ = some (.int .i64 a) := by rw [hb12.cell (p := ⟨wr.heap.size, 1, none⟩) (by first | (simp; done) | (simp; omega) | omega)]; first | assumption | (simp [go_sem]; done) | (simp [go_sem, *]; done)
          have c12_1_2 : w12.cell? ⟨wr.heap.size, 2, none⟩ = some (.int .i64 b) := by rw [hb12.cell (p := ⟨wr.heap.size, 2, none⟩) (by first | (simp; done) | (simp; omega) | omega)]; first | assumption | (simp [go_sem]; done) | (simp [go_sem, *]; done)
          have c12_1_3 : w12.cell? ⟨wr.heap.size, 3, none⟩ = some (.int .i64 c) := by rw [hb12.cell (p := ⟨wr.heap.size, 3, none⟩) (by first | (simp; done) | (simp; omega) | omega)]; first | assumption | (simp [go_sem]; done) | (simp [go_sem, *]; done)
          have c12_1_4 : w12.cell? ⟨wr.heap.size, 4, none⟩ = some (.int .i64 i) := by rw [hb12.cell (p := ⟨wr.heap.size, 4, none⟩) (by first | (simp; done) | (simp; omega) | omega)]; first | assumption | (simp [go_sem]; done) | (simp [go_sem, *]; done)
          have HB12 : Below w.heap.size w w12 := by
            repeat (first | (with_reducible exact Below.refl _ _) | (with_reducible apply bDrewN) | (with_reducible apply Below.drew) | (with_reducible exact HB11) | ((with_reducible apply bThen hb12); (focus first | (simp; done) | (simp; omega) | omega)) | ((with_reducible apply bSet); (focus first | (simp; done) | (simp; omega) | omega)) | ((with_reducible apply bAlloc); (focus first | (simp; done) | (simp; omega) | omega)))
          have hsz12 := HB12.size
          clear hb12 sz11_0 c11_0_0 c11_0_1 c11_0_2 c11_0_3 sz11_1 c11_1_0 c11_1_1 c11_1_2 c11_1_3 c11_1_4 hsz11
          go_wp2_with fail
          go_roundw
          case rel =>
            refine ⟨k + 1, _, _, by omega, rfl, rfl, by go_num, ?_, ?_, ?_, ?_, ?_, ?_, ?_, ?_, ?_, ?_⟩
            · exact (sqS_take hlt s HX.out).symm
            · show _ = _
              rw [sqT_take m d t h hlt s HX.out, ← Hid.out hS, ← Hid.out hQ, HY.out]
            · omega
            · omega
            · (repeat (first | (with_reducible exact Below.refl _ _) | (with_reducible apply bDrewN) | (with_reducible apply Below.drew) | (with_reducible exact HB12) | ((with_reducible apply bSet); (focus first | (simp; done) | (simp; omega) | omega)) | ((with_reducible apply bAlloc); (focus first | (simp; done) | (simp; omega) | omega))))
            all_goals first | assumption | (simp; omega) | (simp [go_sem, *]; done)
          case measure => simp [intOf]; omega
        · skip
          have hkI : ¬ (k : Int) < l.length := by omega
          have e1 := Hid.out hS
          have e2 := Hid.out hQ
          rw [List.take_of_length_le (by omega)] at e1 e2
          rw [HX0.out] at e1
          rw [HA.out] at e2
          clear hS hQ
          subst e1 e2
          go_wp2_with fail
          refine (S2.out _ (InsAt.below (v := .slice p l.length cap) (l := l) ⟨_, _, rfl, HP.out⟩ (show Below w.heap.size w _ from by repeat (first | (with_reducible exact Below.refl _ _) | (with_reducible apply bDrewN) | (with_reducible apply Below.drew) | (with_reducible exact HB0) | ((with_reducible apply bSet); (focus first | (simp; done) | (simp; omega) | omega)) | ((with_reducible apply bAlloc); (focus first | (simp; done) | (simp; omega) | omega)))) (Nat.le_refl _))).mono ?_
          rintro e w11 ⟨rfl, hb11⟩
          have hT11 : Tab w11 := Tab.of_below (Tab.of_below hT0 (by repeat (first | (with_reducible exact Below.refl _ _) | (with_reducible apply bDrewN) | (with_reducible apply Below.drew) | ((with_reducible apply bSet); (focus first | (simp; done) | (simp; omega) | omega)) | ((with_reducible apply bAlloc); (focus first | (simp; done) | (simp; omega) | omega))))) hb11
          have HB11 : Below w.heap.size w w11 := by
            repeat (first | (with_reducible exact Below.refl _ _) | (with_reducible apply bDrewN) | (with_reducible apply Below.drew) | (with_reducible exact HB0) | ((with_reducible apply bThen hb11); (focus first | (simp; done) | (simp; omega) | omega)) | ((with_reducible apply bSet); (focus first | (simp; done) | (simp; omega) | omega)) | ((with_reducible apply bAlloc); (focus first | (simp; done) | (simp; omega) | omega)))
          have hsz11 := HB11.size
          clear hb11 sz0 c0_0 c0_1 c0_2 c0_3
          go_wp2_with fail
          go_ret
          refine ⟨by simp, ?_⟩
          (repeat (first | (with_reducible exact Below.refl _ _) | (with_reducible apply bDrewN) | (with_reducible apply Below.drew) | (with_reducible exact HB11) | ((with_reducible apply bSet); (focus first | (simp; done) | (simp; omega) | omega)) | ((with_reducible apply bAlloc); (focus first | (simp; done) | (simp; omega) | omega))))
    · have hlI : (40 : Int) < l.length := by omega
      have hz := hT.size
      go_enter Tryd.func4, Tryd.ntmps4
      go_wp2_with fail
      refine (awake8_any _ (Tab.of_below hT (by repeat (first | (with_reducible exact Below.refl _ _) | (with_reducible apply bDrewN) | (with_reducible apply Below.drew) | ((with_reducible apply bSet); (focus first | (simp; done) | (simp; omega) | omega)) | ((with_reducible apply bAlloc); (focus first | (simp; done) | (simp; omega) | omega)))))).mono ?_
      rintro e w1 ⟨rfl, hb1⟩
      have hT1 : Tab w1 := Tab.of_below (Tab.of_below hT (by repeat (first | (with_reducible exact Below.refl _ _) | (with_reducible apply bDrewN) | (with_reducible apply Below.drew) | ((with_reducible apply bSet); (focus first | (simp; done) | (simp; omega) | omega)) | ((with_reducible apply bAlloc); (focus first | (simp; done) | (simp; omega) | omega))))) hb1
      have sz1_0 : w.heap.size < w1.heap.size := by have h := hb1.size; first | (simp at h; omega) | omega
      have c1_0_0 : w1.cell? ⟨w.heap.size, 0, none⟩ = some (.int .i64 m) := by rw [hb1.cell (p := ⟨w.heap.size, 0, none⟩) (by first | (simp; done) | (simp; omega) | omega)]; first | assumption | (simp [go_sem]; done) | (simp [go_sem, *]; done)
      have c1_0_1 : w1.cell? ⟨w.heap.size, 1, none⟩ = some (.int .i64 d) := by rw [hb1.cell (p := ⟨w.heap.size, 1, none⟩) (by first | (simp; done) | (simp; omega) | omega)]; first | assumption | (simp [go_sem]; done) | (simp [go_sem, *]; done)
      have c1_0_2 : w1.cell? ⟨w.heap.size, 2, none⟩ = some (.int .i64 t) := by rw [hb1.cell (p := ⟨w.heap.size, 2, none⟩) (by first | (simp; done) | (simp; omega) | omega)]; first | assumption | (simp [go_sem]; done) | (simp [go_sem, *]; done)
      have c1_0_3 : w1.cell? ⟨w.heap.size, 3, none⟩ = some (.int .i64 h) := by rw [hb1.cell (p := ⟨w.heap.size, 3, none⟩) (by first | (simp; done) | (simp; omega) | omega)]; first | assumption | (simp [go_sem]; done) | (simp [go_sem, *]; done)
      have HB1 : Below w.heap.size w w1 := by
        repeat (first | (with_reducible exact Below.refl _ _) | (with_reducible apply bDrewN) | (with_reducible apply Below.drew) | ((with_reducible apply bThen hb1); (focus first | (simp; done) | (simp; omega) | omega)) | ((with_reducible apply bSet); (focus first | (simp; done) | (simp; omega) | omega)) | ((with_reducible apply bAlloc); (focus first | (simp; done) | (simp; omega) | omega)))
      have hsz1 := HB1.size
      clear hb1 
      go_wp2_with fail
      refine (HV.out _).mono ?_
      rintro e w2 ⟨rfl, hb2⟩
      have hT2 : Tab w2 := Tab.of_below (Tab.of_below hT1 (by repeat (first | (with_reducible exact Below.refl _ _) | (with_reducible apply bDrewN) | (with_reducible apply Below.drew) | ((with_reducible apply bSet); (focus first | (simp; done) | (simp; omega) | omega)) | ((with_reducible apply bAlloc); (focus first | (simp; done) | (simp; omega) | omega))))) hb2
      have sz2_0 : w.heap.size < w2.heap.size := by have h := hb2.size; first | (simp at h; omega) | omega
      have c2_0_0 : w2.cell? ⟨w.heap.size, 0, none⟩ = some (.int .i64 m) := by rw [hb2.cell (p := ⟨w.heap.size, 0, none⟩) (by first | (simp; done) | (simp; omega) | omega)]; first | assumption | (simp [go_sem]; done) | (simp [go_sem, *]; done)
      have c2_0_1 : w2.cell? ⟨w.heap.size, 1, none⟩ = some (.int .i64 d) := by rw [hb2.cell (p := ⟨w.heap.size, 1, none⟩) (by first | (simp; done) | (simp; omega) | omega)]; first | assumption | (simp [go_sem]; done) | (simp [go_sem, *]; done)
      have c2_0_2 : w2.cell? ⟨w.heap.size, 2, none⟩ = some (.int .i64 t) := by rw [hb2.cell (p := ⟨w.heap.size, 2, none⟩) (by first | (simp; done) | (simp; omega) | omega)]; first | assumption | (simp [go_sem]; done) | (simp [go_sem, *]; done)
      have c2_0_3 : w2.cell? ⟨w.heap.size, 3, none⟩ = some (.int .i64 h) := by rw [hb2.cell (p := ⟨w.heap.size, 3, none⟩) (by first | (simp; done) | (simp; omega) | omega)]; first | assumption | (simp [go_sem]; done) | (simp [go_sem, *]; done)
      have HB2 : Below w.heap.size w w2 := by
        repeat (first | (with_reducible exact Below.refl _ _) | (with_reducible apply bDrewN) | (with_reducible apply Below.drew) | (with_reducible exact HB1) | ((with_reducible apply bThen hb2); (focus first | (simp; done) | (simp; omega) | omega)) | ((with_reducible apply bSet); (focus first | (simp; done) | (simp; omega) | omega)) | ((with_reducible apply bAlloc); (focus first | (simp; done) | (simp; omega) | omega)))
      have hsz2 := HB2.size
      clear hb2 sz1_0 c1_0_0 c1_0_1 c1_0_2 c1_0_3 hsz1
      go_wp2_with fail
      go_ret
      refine ⟨rfl, ?_⟩
      (repeat (first | (with_reducible exact Below.refl _ _) | (with_reducible apply bDrewN) | (with_reducible apply Below.drew) | (with_reducible exact HB2) | ((with_reducible apply bSet); (focus first | (simp; done) | (simp; omega) | omega)) | ((with_reducible apply bAlloc); (focus first | (simp; done) | (simp; omega) | omega))))

end Go.Proofs.YtjfenhnlonbmmaaDoor
