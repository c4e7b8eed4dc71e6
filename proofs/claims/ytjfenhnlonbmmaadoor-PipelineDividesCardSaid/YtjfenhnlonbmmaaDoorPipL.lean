/- Layer 8: the law PipelineDivides. -/
import Derived.Test.YtjfenhnlonbmmaaDoorPipO
import Derived.Test.YtjfenhnlonbmmaaDoorPipP
import Derived.Deep.RegionHeld3
set_option linter.unusedVariables false
set_option linter.unusedSimpArgs false
namespace Go.Proofs.YtjfenhnlonbmmaaDoor
open Go.RowKit Go.Sort

theorem sz_ins (w : World) : (sizeOf (Tryd.prog.elem 34)).run Tryd.prog w = .ok 5 w := by kernel_rfl
theorem sl_low (p : Option Addr) (n cap K : Nat) (hK : K ≤ cap) (w : World) : (Instr.slice 34 (.slice p n cap) none (some (.int .i64 K)) none).run Tryd.prog w = .ok (.slice p K cap) w := by
  rw [run_slice_h (ht := show Tryd.prog.underlying 34 = some (.slice (Tryd.prog.elem 34)) by kernel_rfl) (h0 := by omega) (h2 := by omega), sz_ins]
  simp [Result.andThen, sliced]
  intro _
  cases p <;> simp [Addr.add]
theorem sl_high (p : Option Addr) (n cap K : Nat) (hK : K ≤ n) (w : World) : (Instr.slice 34 (.slice p n cap) (some (.int .i64 K)) none none).run Tryd.prog w = .ok (sliced p K n cap 5) w := by
  rw [run_slice_l (ht := show Tryd.prog.underlying 34 = some (.slice (Tryd.prog.elem 34)) by kernel_rfl) (h0 := by omega) (h1 := by omega), sz_ins]
  simp [Result.andThen]
theorem insAt_take {w : World} {p : Option Addr} {cap : Nat} {l : List Ins} (h : InsAt w (.slice p l.length cap) l) (K : Nat) (hK : K ≤ l.length) : InsAt w (.slice p K cap) (l.take K) := by
  obtain ⟨p', cap', e, h⟩ := h
  injection e with e1 e2 e3
  subst e1 e3
  have hl : (l.take K).length = K := by simp; omega
  refine ⟨p, cap, by rw [hl], ?_⟩
  rcases h with rfl | ⟨lb, lo, rfl, hlb, h⟩
  · left; simp
  · refine .inr ⟨lb, lo, rfl, hlb, fun k hk => ?_⟩
    rw [hl] at hk
    have := h k (by omega)
    rwa [show (l.take K).getD k default = l.getD k default by simp [List.getD_eq_getElem?_getD, List.getElem?_take, hk]]
theorem insAt_drop {w : World} {p : Option Addr} {cap : Nat} {l : List Ins} (h : InsAt w (.slice p l.length cap) l) (K : Nat) (hK : K ≤ l.length) (hc : l.length ≤ cap) : InsAt w (sliced p K l.length cap 5) (l.drop K) := by
  obtain ⟨p', cap', e, h⟩ := h
  injection e with e1 e2 e3
  subst e1 e3
  have hl : (l.drop K).length = l.length - K := by simp
  refine ⟨_, _, by rw [hl]; rfl, ?_⟩
  rcases h with rfl | ⟨lb, lo, rfl, hlb, h⟩
  · left; simp
  · by_cases e : cap = K
    · left
      apply List.eq_nil_of_length_eq_zero
      rw [hl]; omega
    · refine .inr ⟨lb, lo + K * 5, by rw [if_neg e]; simp [Addr.add], hlb, fun k hk => ?_⟩
      rw [hl] at hk
      have h1 := h (K + k) (by omega)
      rw [show (l.drop K).getD k default = l.getD (K + k) default by simp [List.getD_eq_getElem?_getD, List.getElem?_drop]]
      unfold InsCells at h1 ⊢
      rw [show lo + (K + k) * 5 = lo + K * 5 + k * 5 by omega] at h1
      exact h1

set_option maxHeartbeats 3200000 in
theorem divides_any (m d t h s : Int) (v : Value) (l : List Ins) (c : Int) (w : World) (hT : Tab w) (hv : InsAt w v l) (hcap : LenCap v) (hc0 : 0 ≤ c) (hc1 : c ≤ 255) :
    Calls Tryd.prog 5 #[.agg #[.int .i64 m, .int .i64 d, .int .i64 t, .int .i64 h], .int .i64 s, v, .int .u8 c] w fun e w' => e = .returned (.bool true) ∧ Below w.heap.size w w' := by
  obtain ⟨p, cap, rfl, hp⟩ := hv
  have hcl : l.length ≤ cap := by
    obtain ⟨p', n', cap', e, h1, _⟩ := hcap
    injection e with e1 e2 e3
    omega
  clear hcap
  have HP := Lib.hid hp
  clear hp
  have HV := Lib.hid (fun (w : World) => validT_any m d t h w)
  cases hok : okT m d t h
  · rw [hok] at HV
    have hz := hT.size
    go_enter Tryd.func5, Tryd.ntmps5
    go_wp2_with fail
    refine (awake8_any _ (Tab.of_below hT (by repeat (first | (with_reducible exact Below.refl _ _) | (with_reducible apply bDrewN) | (with_reducible apply Below.drew) | ((with_reducible apply bSet); (focus first | (simp; done) | (simp; omega) | omega)) | ((with_reducible apply bAlloc); (focus first | (simp; done) | (simp; omega) | omega)))))).mono ?_
    rintro e w1 ⟨rfl, hb1⟩
    have hT1 : Tab w1 := Tab.of_below (Tab.of_below hT (by repeat (first | (with_reducible exact Below.refl _ _) | (with_reducible apply bDrewN) | (with_reducible apply Below.drew) | ((with_reducible apply bSet); (focus first | (simp; done) | (simp; omega) | omega)) | ((with_reducible apply bAlloc); (focus first | (simp; done) | (simp; omega) | omega))))) hb1
    have sz1_0 : w.heap.size < w1.heap.size := by have h := hb1.size; first | (simp at h; omega) | omega
    have c1_0_0 : w1.cell? ⟨w.heap.size, 0, none⟩ = some (.int .i64 m) := by rw [hb1.cell (p := ⟨w.heap.size, 0, none⟩) (by first | (simp; done) | (simp; omega) | omega)]; first | assumption | (simp [go_sem]; done) | (simp [go_sem, *]; done)
    have c1_0_1 : w1.cell? ⟨w.heap.size, 1, none⟩ = some (.int .i64 d) := by rw [hb1.cell (p := ⟨w.heap.size, 1, none⟩) (by first | (simp; done) | (simp; omega) | omega)]; first | assumption | (simp [go_sem]; done) | (simp [go_sem, *]; done)
    have c1_0_2 : w1.cell? ⟨w.heap.size, 2, none⟩ = some (.int .i64 t) := by rw [hb1.cell (p := ⟨w.heap.size, 2, none⟩) (by first | (simp; done) | (simp; omega) | omega)]; first | assumption | (simp [go_sem]; done) | (simp [go_sem, *]; done)
    have c1_0_3 : w1.cell? ⟨w.heap.size, 3, none⟩ = some (.int .i64 h) := by rw [hb1.cell (p := ⟨w.heap.size, 3, none⟩) (by first | (simp; done) | (simp; omega) | omega)]; first | assumption | (simp [go_sem]; done) | (simp [go_sem, *]; done)
    have HB1 : Below w.heap.size w w1 := by
      repeat (first | (with_reducible exact Below.refl _ _) | (with_reducible apply bDrewN) | (with_reducible apply Below.drew) | ((with_reducible apply bThen hb1); (focus first | (simp; done) | (simp; omega) | omega)) | ((with_reducible apply bSet); (focus first | (simp; done) | (simp; omega) | omega)) | ((with_reducible apply bAlloc); (focus first | (simp; done) | (simp; omega) | omega)))
    have hsz1 := HB1.size
    clear hb1 
    go_wp2_with fail
    refine (HV.out _).mono ?_
    rintro e w2 ⟨rfl, hb2⟩
    have hT2 : Tab w2 := Tab.of_below (Tab.of_below hT1 (by repeat (first | (with_reducible exact Below.refl _ _) | (with_reducible apply bDrewN) | (with_reducible apply Below.drew) | ((with_reducible apply bSet); (focus first | (simp; done) | (simp; omega) | omega)) | ((with_reducible apply bAlloc); (focus first | (simp; done) | (simp; omega) | omega))))) hb2
    have sz2_0 : w.heap.size < w2.heap.size := by have h := hb2.size; first | (simp at h; omega) | omega
    have c2_0_0 : w2.cell? ⟨w.heap.size, 0, none⟩ = some (.int .i64 m) := by rw [hb2.cell (p := ⟨w.heap.size, 0, none⟩) (by first | (simp; done) | (simp; omega) | omega)]; first | assumption | (simp [go_sem]; done) | (simp [go_sem, *]; done)
    have c2_0_1 : w2.cell? ⟨w.heap.size, 1, none⟩ = some (.int .i64 d) := by rw [hb2.cell (p := ⟨w.heap.size, 1, none⟩) (by first | (simp; done) | (simp; omega) | omega)]; first | assumption | (simp [go_sem]; done) | (simp [go_sem, *]; done)
    have c2_0_2 : w2.cell? ⟨w.heap.size, 2, none⟩ = some (.int .i64 t) := by rw [hb2.cell (p := ⟨w.heap.size, 2, none⟩) (by first | (simp; done) | (simp; omega) | omega)]; first | assumption | (simp [go_sem]; done) | (simp [go_sem, *]; done)
    have c2_0_3 : w2.cell? ⟨w.heap.size, 3, none⟩ = some (.int .i64 h) := by rw [hb2.cell (p := ⟨w.heap.size, 3, none⟩) (by first | (simp; done) | (simp; omega) | omega)]; first | assumption | (simp [go_sem]; done) | (simp [go_sem, *]; done)
    have HB2 : Below w.heap.size w w2 := by
      repeat (first | (with_reducible exact Below.refl _ _) | (with_reducible apply bDrewN) | (with_reducible apply Below.drew) | (with_reducible exact HB1) | ((with_reducible apply bThen hb2); (focus first | (simp; done) | (simp; omega) | omega)) | ((with_reducible apply bSet); (focus first | (simp; done) | (simp; omega) | omega)) | ((with_reducible apply bAlloc); (focus first | (simp; done) | (simp; omega) | omega)))
    have hsz2 := HB2.size
    clear hb2 sz1_0 c1_0_0 c1_0_1 c1_0_2 c1_0_3 hsz1
    go_wp2_with fail
    go_ret
    refine ⟨rfl, ?_⟩
    (repeat (first | (with_reducible exact Below.refl _ _) | (with_reducible apply bDrewN) | (with_reducible apply Below.drew) | (with_reducible exact HB2) | ((with_reducible apply bSet); (focus first | (simp; done) | (simp; omega) | omega)) | ((with_reducible apply bAlloc); (focus first | (simp; done) | (simp; omega) | omega))))
  · rw [hok] at HV
    obtain ⟨hm, hd, ht, hh⟩ := okT_bd hok
    clear hok
    by_cases hl : l.length ≤ 40
    · have hlI : ¬ (40 : Int) < l.length := by omega
      have hz := hT.size
      go_enter Tryd.func5, Tryd.ntmps5
      go_wp2_with fail
      refine (awake8_any _ (Tab.of_below hT (by repeat (first | (with_reducible exact Below.refl _ _) | (with_reducible apply bDrewN) | (with_reducible apply Below.drew) | ((with_reducible apply bSet); (focus first | (simp; done) | (simp; omega) | omega)) | ((with_reducible apply bAlloc); (focus first | (simp; done) | (simp; omega) | omega)))))).mono ?_
      rintro e w1 ⟨rfl, hb1⟩
      have hT1 : Tab w1 := Tab.of_below (Tab.of_below hT (by repeat (first | (with_reducible exact Below.refl _ _) | (with_reducible apply bDrewN) | (with_reducible apply Below.drew) | ((with_reducible apply bSet); (focus first | (simp; done) | (simp; omega) | omega)) | ((with_reducible apply bAlloc); (focus first | (simp; done) | (simp; omega) | omega))))) hb1
      have sz1_0 : w.heap.size < w1.heap.size := by have h := hb1.size; first | (simp at h; omega) | omega
      have c1_0_0 : w1.cell? ⟨w.heap.size, 0, none⟩ = some (.int .i64 m) := by rw [hb1.cell (p := ⟨w.heap.size, 0, none⟩) (by first | (simp; done) | (simp; omega) | omega)]; first | assumption | (simp [go_sem]; done) | (simp [go_sem, *]; done)
      have c1_0_1 : w1.cell? ⟨w.heap.size, 1, none⟩ = some (.int .i64 d) := by rw [hb1.cell (p := ⟨w.heap.size, 1, none⟩) (by first | (simp; done) | (simp; omega) | omega)]; first | assumption | (simp [go_sem]; done) | (simp [go_sem, *]; done)
      have c1_0_2 : w1.cell? ⟨w.heap.size, 2, none⟩ = some (.int .i64 t) := by rw [hb1.cell (p := ⟨w.heap.size, 2, none⟩) (by first | (simp; done) | (simp; omega) | omega)]; first | assumption | (simp [go_sem]; done) | (simp [go_sem, *]; done)
      have c1_0_3 : w1.cell? ⟨w.heap.size, 3, none⟩ = some (.int .i64 h) := by rw [hb1.cell (p := ⟨w.heap.size, 3, none⟩) (by first | (simp; done) | (simp; omega) | omega)]; first | assumption | (simp [go_sem]; done) | (simp [go_sem, *]; done)
      have HB1 : Below w.heap.size w w1 := by
        repeat (first | (with_reducible exact Below.refl _ _) | (with_reducible apply bDrewN) | (with_reducible apply Below.drew) | ((with_reducible apply bThen hb1); (focus first | (simp; done) | (simp; omega) | omega)) | ((with_reducible apply bSet); (focus first | (simp; done) | (simp; omega) | omega)) | ((with_reducible apply bAlloc); (focus first | (simp; done) | (simp; omega) | omega)))
      have hsz1 := HB1.size
      clear hb1 
      go_wp2_with fail
      refine (HV.out _).mono ?_
      rintro e w2 ⟨rfl, hb2⟩
      have hT2 : Tab w2 := Tab.of_below (Tab.of_below hT1 (by repeat (first | (with_reducible exact Below.refl _ _) | (with_reducible apply bDrewN) | (with_reducible apply Below.drew) | ((with_reducible apply bSet); (focus first | (simp; done) | (simp; omega) | omega)) | ((with_reducible apply bAlloc); (focus first | (simp; done) | (simp; omega) | omega))))) hb2
      have sz2_0 : w.heap.size < w2.heap.size := by have h := hb2.size; first | (simp at h; omega) | omega
      have c2_0_0 : w2.cell? ⟨w.heap.size, 0, none⟩ = some (.int .i64 m) := by rw [hb2.cell (p := ⟨w.heap.size, 0, none⟩) (by first | (simp; done) | (simp; omega) | omega)]; first | assumption | (simp [go_sem]; done) | (simp [go_sem, *]; done)
      have c2_0_1 : w2.cell? ⟨w.heap.size, 1, none⟩ = some (.int .i64 d) := by rw [hb2.cell (p := ⟨w.heap.size, 1, none⟩) (by first | (simp; done) | (simp; omega) | omega)]; first | assumption | (simp [go_sem]; done) | (simp [go_sem, *]; done)
      have c2_0_2 : w2.cell? ⟨w.heap.size, 2, none⟩ = some (.int .i64 t) := by rw [hb2.cell (p := ⟨w.heap.size, 2, none⟩) (by first | (simp; done) | (simp; omega) | omega)]; first | assumption | (simp [go_sem]; done) | (simp [go_sem, *]; done)
      have c2_0_3 : w2.cell? ⟨w.heap.size, 3, none⟩ = some (.int .i64 h) := by rw [hb2.cell (p := ⟨w.heap.size, 3, none⟩) (by first | (simp; done) | (simp; omega) | omega)]; first | assumption | (simp [go_sem]; done) | (simp [go_sem, *]; done)
      have HB2 : Below w.heap.size w w2 := by
        repeat (first | (with_reducible exact Below.refl _ _) | (with_reducible apply bDrewN) | (with_reducible apply Below.drew) | (with_reducible exact HB1) | ((with_reducible apply bThen hb2); (focus first | (simp; done) | (simp; omega) | omega)) | ((with_reducible apply bSet); (focus first | (simp; done) | (simp; omega) | omega)) | ((with_reducible apply bAlloc); (focus first | (simp; done) | (simp; omega) | omega)))
      have hsz2 := HB2.size
      clear hb2 sz1_0 c1_0_0 c1_0_1 c1_0_2 c1_0_3 hsz1
      obtain ⟨K, hK⟩ : ∃ K : Nat, c % ((l.length : Int) + 1) = K := ⟨(c % ((l.length : Int) + 1)).toNat, by have := Int.emod_nonneg c (show (l.length : Int) + 1 ≠ 0 by omega); omega⟩
      have hKl : K ≤ l.length := by
        have := Int.emod_lt_of_pos c (show (0 : Int) < (l.length : Int) + 1 by omega)
        omega
      have sl1 := sl_low p l.length cap K (by omega)
      have sl2 := sl_high p l.length cap K hKl
      have I1 := Lib.hid (fun (w : World) (hv : InsAt w (.slice p l.length cap) l) => insAt_take hv K hKl)
      have I2 := Lib.hid (fun (w : World) (hv : InsAt w (.slice p l.length cap) l) => insAt_drop hv K hKl hcl)
      generalize sliced p K l.length cap 5 = V2 at sl2 I2
      have S1 := Lib.hid (fun (w : World) (hT : Tab w) (hv : InsAt w (.slice p l.length cap) l) => seq_any m d t h s _ (l.take K) w hT (I1.out w hv) (by simp; omega) hm hd ht hh)
      have S2 := Lib.hid (fun (w : World) (hT : Tab w) (hv : InsAt w (.slice p l.length cap) l) => seq_any m d t h (sqS s (l.take K)) _ (l.drop K) w hT (I2.out w hv) (by simp; omega) hm hd ht hh)
      have S3 := Lib.hid (fun (w : World) (hT : Tab w) (hv : InsAt w (.slice p l.length cap) l) => seq_any m d t h s _ l w hT hv hl hm hd ht hh)
      have eT := sqT_append m d t h s (l.take K) (l.drop K)
      have eS := sqS_append s (l.take K) (l.drop K)
      rw [List.take_append_drop] at eT eS
      rw [eT, eS] at S3
      have b1 := sqT_bd hm hd ht hh s (l.take K)
      have b2 := sqT_bd hm hd ht hh (sqS s (l.take K)) (l.drop K)
      have g1 : (l.take K).length ≤ 40 := by simp; omega
      have g2 : (l.drop K).length ≤ 40 := by simp; omega
      clear I1 I2 eT eS
      generalize sqT m d t h (sqS s (l.take K)) (l.drop K) = B at *
      generalize sqS (sqS s (l.take K)) (l.drop K) = Y at *
      generalize sqT m d t h s (l.take K) = A at *
      generalize sqS s (l.take K) = X at *
      have hA0 : 0 ≤ A := b1.1
      have hA1 : A ≤ 100000 := by omega
      have hB0 : 0 ≤ B := b2.1
      have hB1 : B ≤ 100000 := by omega
      clear b1 b2 g1 g2
      go_wp2_with fail
      have mk : ∀ W : World, Below w2.heap.size w2 W → Below w2.heap.size w2 W ∧ W.cell? ⟨w.heap.size, 0, none⟩ = some (.int .i64 m) ∧ W.cell? ⟨w.heap.size, 1, none⟩ = some (.int .i64 d) ∧ W.cell? ⟨w.heap.size, 2, none⟩ = some (.int .i64 t) ∧ W.cell? ⟨w.heap.size, 3, none⟩ = some (.int .i64 h) := fun W hb => ⟨hb, (hb.cell (p := ⟨w.heap.size, 0, none⟩) sz2_0).trans c2_0_0, (hb.cell (p := ⟨w.heap.size, 1, none⟩) sz2_0).trans c2_0_1, (hb.cell (p := ⟨w.heap.size, 2, none⟩) sz2_0).trans c2_0_2, (hb.cell (p := ⟨w.heap.size, 3, none⟩) sz2_0).trans c2_0_3⟩
      have R0 := Lib.hid (show ∀ W : World, Below w2.heap.size w2 W → Calls Tryd.prog 18 #[.agg #[.int .i64 m, .int .i64 d, .int .i64 t, .int .i64 h], .int .i64 s, .slice p K cap] W fun e w' => e = .returned (.tuple #[.int .i64 A, .int .i64 X]) ∧ Below w2.heap.size w2 w' ∧ w'.cell? ⟨w.heap.size, 0, none⟩ = some (.int .i64 m) ∧ w'.cell? ⟨w.heap.size, 1, none⟩ = some (.int .i64 d) ∧ w'.cell? ⟨w.heap.size, 2, none⟩ = some (.int .i64 t) ∧ w'.cell? ⟨w.heap.size, 3, none⟩ = some (.int .i64 h) from fun W hb => (S1.out W (Tab.of_below hT2 hb) (InsAt.below (v := .slice p l.length cap) (l := l) ⟨_, _, rfl, HP.out⟩ (show Below w.heap.size w _ from bThen (W := w2) hb (by omega) HB2) (Nat.le_refl _))).mono fun e w' ⟨h1, h2⟩ => ⟨h1, mk w' (hb.trans (h2.mono hb.size))⟩)
      have hs0 := mk w2.drew (Below.refl _ _).drew
      clear mk
      first | go_region_held3 (fun w' => Below w2.heap.size w2 w' ∧ w'.cell? ⟨w.heap.size, 0, none⟩ = some (.int .i64 m) ∧ w'.cell? ⟨w.heap.size, 1, none⟩ = some (.int .i64 d) ∧ w'.cell? ⟨w.heap.size, 2, none⟩ = some (.int .i64 t) ∧ w'.cell? ⟨w.heap.size, 3, none⟩ = some (.int .i64 h)) (first | exact hs0 | assumption | (simp [*]; done)) (first | (go_at_call 18; (with_reducible refine (R0.out _ ?_).mono ?_); (simp [*]); rintro e w' ⟨rfl, hS⟩)) | fail
      clear hs0 R0
      obtain ⟨w3, rfl⟩ : ∃ W : World, W = w' := ⟨_, rfl⟩
      have hb3 : Below w2.heap.size w2 w3 := by first | assumption | (go_split_ands; assumption)
      have hT3 : Tab w3 := Tab.of_below (Tab.of_below hT2 (by repeat (first | (with_reducible exact Below.refl _ _) | (with_reducible apply bDrewN) | (with_reducible apply Below.drew) | ((with_reducible apply bSet); (focus first | (simp; done) | (simp; omega) | omega)) | ((with_reducible apply bAlloc); (focus first | (simp; done) | (simp; omega) | omega))))) hb3
      have sz3_0 : w.heap.size < w3.heap.size := by have h := hb3.size; first | (simp at h; omega) | omega
      have c3_0_0 : w3.cell? ⟨w.heap.size, 0, none⟩ = some (.int .i64 m) := by rw [hb3.cell (p := ⟨w.heap.size, 0, none⟩) (by first | (simp; done) | (simp; omega) | omega)]; first | assumption | (simp [go_sem]; done) | (simp [go_sem, *]; done)
      have c3_0_1 : w3.cell? ⟨w.heap.size, 1, none⟩ = some (.int .i64 d) := by rw [hb3.cell (p := ⟨w.heap.size, 1, none⟩) (by first | (simp; done) | (simp; omega) | omega)]; first | assumption | (simp [go_sem]; done) | (simp [go_sem, *]; done)
      have c3_0_2 : w3.cell? ⟨w.heap.size, 2, none⟩ = some (.int .i64 t) := by rw [hb3.cell (p := ⟨w.heap.size, 2, none⟩) (by first | (simp; done) | (simp; omega) | omega)]; first | assumption | (simp [go_sem]; done) | (simp [go_sem, *]; done)
      have c3_0_3 : w3.cell? ⟨w.heap.size, 3, none⟩ = some (.int .i64 h) := by rw [hb3.cell (p := ⟨w.heap.size, 3, none⟩) (by first | (simp; done) | (simp; omega) | omega)]; first | assumption | (simp [go_sem]; done) | (simp [go_sem, *]; done)
      have HB3 : Below w.heap.size w w3 := by
        repeat (first | (with_reducible exact Below.refl _ _) | (with_reducible apply bDrewN) | (with_reducible apply Below.drew) | (with_reducible exact HB2) | ((with_reducible apply bThen hb3); (focus first | (simp; done) | (simp; omega) | omega)) | ((with_reducible apply bSet); (focus first | (simp; done) | (simp; omega) | omega)) | ((with_reducible apply bAlloc); (focus first | (simp; done) | (simp; omega) | omega)))
      have hsz3 := HB3.size
      clear hb3 sz2_0 c2_0_0 c2_0_1 c2_0_2 c2_0_3 hsz2
      go_wp2_with fail
      have mk : ∀ W : World, Below w3.heap.size w3 W → Below w3.heap.size w3 W ∧ W.cell? ⟨w.heap.size, 0, none⟩ = some (.int .i64 m) ∧ W.cell? ⟨w.heap.size, 1, none⟩ = some (.int .i64 d) ∧ W.cell? ⟨w.heap.size, 2, none⟩ = some (.int .i64 t) ∧ W.cell? ⟨w.heap.size, 3, none⟩ = some (.int .i64 h) := fun W hb => ⟨hb, (hb.cell (p := ⟨w.heap.size, 0, none⟩) sz3_0).trans c3_0_0, (hb.cell (p := ⟨w.heap.size, 1, none⟩) sz3_0).trans c3_0_1, (hb.cell (p := ⟨w.heap.size, 2, none⟩) sz3_0).trans c3_0_2, (hb.cell (p := ⟨w.heap.size, 3, none⟩) sz3_0).trans c3_0_3⟩
      have R0 := Lib.hid (show ∀ W : World, Below w3.heap.size w3 W → Calls Tryd.prog 18 #[.agg #[.int .i64 m, .int .i64 d, .int .i64 t, .int .i64 h], .int .i64 X, V2] W fun e w' => e = .returned (.tuple #[.int .i64 B, .int .i64 Y]) ∧ Below w3.heap.size w3 w' ∧ w'.cell? ⟨w.heap.size, 0, none⟩ = some (.int .i64 m) ∧ w'.cell? ⟨w.heap.size, 1, none⟩ = some (.int .i64 d) ∧ w'.cell? ⟨w.heap.size, 2, none⟩ = some (.int .i64 t) ∧ w'.cell? ⟨w.heap.size, 3, none⟩ = some (.int .i64 h) from fun W hb => (S2.out W (Tab.of_below hT3 hb) (InsAt.below (v := .slice p l.length cap) (l := l) ⟨_, _, rfl, HP.out⟩ (show Below w.heap.size w _ from bThen (W := w3) hb (by omega) HB3) (Nat.le_refl _))).mono fun e w' ⟨h1, h2⟩ => ⟨h1, mk w' (hb.trans (h2.mono hb.size))⟩)
      have hs0 := mk w3.drew (Below.refl _ _).drew
      clear mk
      first | go_region_held3 (fun w' => Below w3.heap.size w3 w' ∧ w'.cell? ⟨w.heap.size, 0, none⟩ = some (.int .i64 m) ∧ w'.cell? ⟨w.heap.size, 1, none⟩ = some (.int .i64 d) ∧ w'.cell? ⟨w.heap.size, 2, none⟩ = some (.int .i64 t) ∧ w'.cell? ⟨w.heap.size, 3, none⟩ = some (.int .i64 h)) (first | exact hs0 | assumption | (simp [*]; done)) (first | (go_at_call 18; (with_reducible refine (R0.out _ ?_).mono ?_); (simp [*]); rintro e w' ⟨rfl, hS⟩)) | fail
      clear hs0 R0
      obtain ⟨w4, rfl⟩ : ∃ W : World, W = w' := ⟨_, rfl⟩
      have hb4 : Below w3.heap.size w3 w4 := by first | assumption | (go_split_ands; assumption)
      have hT4 : Tab w4 := Tab.of_below (Tab.of_below hT3 (by repeat (first | (with_reducible exact Below.refl _ _) | (with_reducible apply bDrewN) | (with_reducible apply Below.drew) | ((with_reducible apply bSet); (focus first | (simp; done) | (simp; omega) | omega)) | ((with_reducible apply bAlloc); (focus first | (simp; done) | (simp; omega) | omega))))) hb4
      have sz4_0 : w.heap.size < w4.heap.size := by have h := hb4.size; first | (simp at h; omega) | omega
      have c4_0_0 : w4.cell? ⟨w.heap.size, 0, none⟩ = some (.int .i64 m) := by rw [hb4.cell (p := ⟨w.heap.size, 0, none⟩) (by first | (simp; done) | (simp; omega) | omega)]; first | assumption | (simp [go_sem]; done) | (simp [go_sem, *]; done)
      have c4_0_1 : w4.cell? ⟨w.heap.size, 1, none⟩ = some (.int .i64 d) := by rw [hb4.cell (p := ⟨w.heap.size, 1, none⟩) (by first | (simp; done) | (simp; omega) | omega)]; first | assumption | (simp [go_sem]; done) | (simp [go_sem, *]; done)
      have c4_0_2 : w4.cell? ⟨w.heap.size, 2, none⟩ = some (.int .i64 t) := by rw [hb4.cell (p := ⟨w.heap.size, 2, none⟩) (by first | (simp; done) | (simp; omega) | omega)]; first | assumption | (simp [go_sem]; done) | (simp [go_sem, *]; done)
      have c4_0_3 : w4.cell? ⟨w.heap.size, 3, none⟩ = some (.int .i64 h) := by rw [hb4.cell (p := ⟨w.heap.size, 3, none⟩) (by first | (simp; done) | (simp; omega) | omega)]; first | assumption | (simp [go_sem]; done) | (simp [go_sem, *]; done)
      have HB4 : Below w.heap.size w w4 := by
        repeat (first | (with_reducible exact Below.refl _ _) | (with_reducible apply bDrewN) | (with_reducible apply Below.drew) | (with_reducible exact HB3) | ((with_reducible apply bThen hb4); (focus first | (simp; done) | (simp; omega) | omega)) | ((with_reducible apply bSet); (focus first | (simp; done) | (simp; omega) | omega)) | ((with_reducible apply bAlloc); (focus first | (simp; done) | (simp; omega) | omega)))
      have hsz4 := HB4.size
      clear hb4 sz3_0 c3_0_0 c3_0_1 c3_0_2 c3_0_3 hsz3
      go_wp2_with fail
      refine (S3.out _ (Tab.of_below hT4 (by repeat (first | (with_reducible exact Below.refl _ _) | (with_reducible apply bDrewN) | (with_reducible apply Below.drew) | ((with_reducible apply bSet); (focus first | (simp; done) | (simp; omega) | omega)) | ((with_reducible apply bAlloc); (focus first | (simp; done) | (simp; omega) | omega))))) (InsAt.below (v := .slice p l.length cap) (l := l) ⟨_, _, rfl, HP.out⟩ (show Below w.heap.size w _ from by repeat (first | (with_reducible exact Below.refl _ _) | (with_reducible apply bDrewN) | (with_reducible apply Below.drew) | (with_reducible exact HB4) | ((with_reducible apply bSet); (focus first | (simp; done) | (simp; omega) | omega)) | ((with_reducible apply bAlloc); (focus first | (simp; done) | (simp; omega) | omega)))) (Nat.le_refl _))).mono ?_
      rintro e w5 ⟨rfl, hb5⟩
      have hT5 : Tab w5 := Tab.of_below (Tab.of_below hT4 (by repeat (first | (with_reducible exact Below.refl _ _) | (with_reducible apply bDrewN) | (with_reducible apply Below.drew) | ((with_reducible apply bSet); (focus first | (simp; done) | (simp; omega) | omega)) | ((with_reducible apply bAlloc); (focus first | (simp; done) | (simp; omega) | omega))))) hb5
      have sz5_0 : w.heap.size < w5.heap.size := by have h := hb5.size; first | (simp at h; omega) | omega
      have c5_0_0 : w5.cell? ⟨w.heap.size, 0, none⟩ = some (.int .i64 m) := by rw [hb5.cell (p := ⟨w.heap.size, 0, none⟩) (by first | (simp; done) | (simp; omega) | omega)]; first | assumption | (simp [go_sem]; done) | (simp [go_sem, *]; done)
      have c5_0_1 : w5.cell? ⟨w.heap.size, 1, none⟩ = some (.int .i64 d) := by rw [hb5.cell (p := ⟨w.heap.size, 1, none⟩) (by first | (simp; done) | (simp; omega) | omega)]; first | assumption | (simp [go_sem]; done) | (simp [go_sem, *]; done)
      have c5_0_2 : w5.cell? ⟨w.heap.size, 2, none⟩ = some (.int .i64 t) := by rw [hb5.cell (p := ⟨w.heap.size, 2, none⟩) (by first | (simp; done) | (simp; omega) | omega)]; first | assumption | (simp [go_sem]; done) | (simp [go_sem, *]; done)
      have c5_0_3 : w5.cell? ⟨w.heap.size, 3, none⟩ = some (.int .i64 h) := by rw [hb5.cell (p := ⟨w.heap.size, 3, none⟩) (by first | (simp; done) | (simp; omega) | omega)]; first | assumption | (simp [go_sem]; done) | (simp [go_sem, *]; done)
      have HB5 : Below w.heap.size w w5 := by
        repeat (first | (with_reducible exact Below.refl _ _) | (with_reducible apply bDrewN) | (with_reducible apply Below.drew) | (with_reducible exact HB4) | ((with_reducible apply bThen hb5); (focus first | (simp; done) | (simp; omega) | omega)) | ((with_reducible apply bSet); (focus first | (simp; done) | (simp; omega) | omega)) | ((with_reducible apply bAlloc); (focus first | (simp; done) | (simp; omega) | omega)))
      have hsz5 := HB5.size
      clear hb5 sz4_0 c4_0_0 c4_0_1 c4_0_2 c4_0_3 hsz4
      go_wp2_with fail
      go_ret
      refine ⟨by simp, ?_⟩
      (repeat (first | (with_reducible exact Below.refl _ _) | (with_reducible apply bDrewN) | (with_reducible apply Below.drew) | (with_reducible exact HB5) | ((with_reducible apply bSet); (focus first | (simp; done) | (simp; omega) | omega)) | ((with_reducible apply bAlloc); (focus first | (simp; done) | (simp; omega) | omega))))
    · have hlI : (40 : Int) < l.length := by omega
      have hz := hT.size
      go_enter Tryd.func5, Tryd.ntmps5
      go_wp2_with fail
      refine (awake8_any _ (Tab.of_below hT (by repeat (first | (with_reducible exact Below.refl _ _) | (with_reducible apply bDrewN) | (with_reducible apply Below.drew) | ((with_reducible apply bSet); (focus first | (simp; done) | (simp; omega) | omega)) | ((with_reducible apply bAlloc); (focus first | (simp; done) | (simp; omega) | omega)))))).mono ?_
      rintro e w1 ⟨rfl, hb1⟩
      have hT1 : Tab w1 := Tab.of_below (Tab.of_below hT (by repeat (first | (with_reducible exact Below.refl _ _) | (with_reducible apply bDrewN) | (with_reducible apply Below.drew) | ((with_reducible apply bSet); (focus first | (simp; done) | (simp; omega) | omega)) | ((with_reducible apply bAlloc); (focus first | (simp; done) | (simp; omega) | omega))))) hb1
      have sz1_0 : w.heap.size < w1.heap.size := by have h := hb1.size; first | (simp at h; omega) | omega
      have c1_0_0 : w1.cell? ⟨w.heap.size, 0, none⟩ = some (.int .i64 m) := by rw [hb1.cell (p := ⟨w.heap.size, 0, none⟩) (by first | (simp; done) | (simp; omega) | omega)]; first | assumption | (simp [go_sem]; done) | (simp [go_sem, *]; done)
      have c1_0_1 : w1.cell? ⟨w.heap.size, 1, none⟩ = some (.int .i64 d) := by rw [hb1.cell (p := ⟨w.heap.size, 1, none⟩) (by first | (simp; done) | (simp; omega) | omega)]; first | assumption | (simp [go_sem]; done) | (simp [go_sem, *]; done)
      have c1_0_2 : w1.cell? ⟨w.heap.size, 2, none⟩ = some (.int .i64 t) := by rw [hb1.cell (p := ⟨w.heap.size, 2, none⟩) (by first | (simp; done) | (simp; omega) | omega)]; first | assumption | (simp [go_sem]; done) | (simp [go_sem, *]; done)
      have c1_0_3 : w1.cell? ⟨w.heap.size, 3, none⟩ = some (.int .i64 h) := by rw [hb1.cell (p := ⟨w.heap.size, 3, none⟩) (by first | (simp; done) | (simp; omega) | omega)]; first | assumption | (simp [go_sem]; done) | (simp [go_sem, *]; done)
      have HB1 : Below w.heap.size w w1 := by
        repeat (first | (with_reducible exact Below.refl _ _) | (with_reducible apply bDrewN) | (with_reducible apply Below.drew) | ((with_reducible apply bThen hb1); (focus first | (simp; done) | (simp; omega) | omega)) | ((with_reducible apply bSet); (focus first | (simp; done) | (simp; omega) | omega)) | ((with_reducible apply bAlloc); (focus first | (simp; done) | (simp; omega) | omega)))
      have hsz1 := HB1.size
      clear hb1 
      go_wp2_with fail
      refine (HV.out _).mono ?_
      rintro e w2 ⟨rfl, hb2⟩
      have hT2 : Tab w2 := Tab.of_below (Tab.of_below hT1 (by repeat (first | (with_reducible exact Below.refl _ _) | (with_reducible apply bDrewN) | (with_reducible apply Below.drew) | ((with_reducible apply bSet); (focus first | (simp; done) | (simp; omega) | omega)) | ((with_reducible apply bAlloc); (focus first | (simp; done) | (simp; omega) | omega))))) hb2
      have sz2_0 : w.heap.size < w2.heap.size := by have h := hb2.size; first | (simp at h; omega) | omega
      have c2_0_0 : w2.cell? ⟨w.heap.size, 0, none⟩ = some (.int .i64 m) := by rw [hb2.cell (p := ⟨w.heap.size, 0, none⟩) (by first | (simp; done) | (simp; omega) | omega)]; first | assumption | (simp [go_sem]; done) | (simp [go_sem, *]; done)
      have c2_0_1 : w2.cell? ⟨w.heap.size, 1, none⟩ = some (.int .i64 d) := by rw [hb2.cell (p := ⟨w.heap.size, 1, none⟩) (by first | (simp; done) | (simp; omega) | omega)]; first | assumption | (simp [go_sem]; done) | (simp [go_sem, *]; done)
      have c2_0_2 : w2.cell? ⟨w.heap.size, 2, none⟩ = some (.int .i64 t) := by rw [hb2.cell (p := ⟨w.heap.size, 2, none⟩) (by first | (simp; done) | (simp; omega) | omega)]; first | assumption | (simp [go_sem]; done) | (simp [go_sem, *]; done)
      have c2_0_3 : w2.cell? ⟨w.heap.size, 3, none⟩ = some (.int .i64 h) := by rw [hb2.cell (p := ⟨w.heap.size, 3, none⟩) (by first | (simp; done) | (simp; omega) | omega)]; first | assumption | (simp [go_sem]; done) | (simp [go_sem, *]; done)
      have HB2 : Below w.heap.size w w2 := by
        repeat (first | (with_reducible exact Below.refl _ _) | (with_reducible apply bDrewN) | (with_reducible apply Below.drew) | (with_reducible exact HB1) | ((with_reducible apply bThen hb2); (focus first | (simp; done) | (simp; omega) | omega)) | ((with_reducible apply bSet); (focus first | (simp; done) | (simp; omega) | omega)) | ((with_reducible apply bAlloc); (focus first | (simp; done) | (simp; omega) | omega)))
      have hsz2 := HB2.size
      clear hb2 sz1_0 c1_0_0 c1_0_1 c1_0_2 c1_0_3 hsz1
      go_wp2_with fail
      go_ret
      refine ⟨rfl, ?_⟩
      (repeat (first | (with_reducible exact Below.refl _ _) | (with_reducible apply bDrewN) | (with_reducible apply Below.drew) | (with_reducible exact HB2) | ((with_reducible apply bSet); (focus first | (simp; done) | (simp; omega) | omega)) | ((with_reducible apply bAlloc); (focus first | (simp; done) | (simp; omega) | omega))))

end Go.Proofs.YtjfenhnlonbmmaaDoor
