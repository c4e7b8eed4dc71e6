/- Layer 8: the laws PipelineStates and PipelineCycles. -/
import Derived.Test.YtjfenhnlonbmmaaDoorPipE
import Derived.Deep.RegionHeld3
set_option linter.unusedVariables false
set_option linter.unusedSimpArgs false
namespace Go.Proofs.YtjfenhnlonbmmaaDoor
open Go.RowKit Go.Sort

set_option maxHeartbeats 3200000 in
theorem states_any (m d t h s : Int) (n : Nat) (a b c i : Int) (w : World) (hT : Tab w) :
    Calls Tryd.prog 3 #[.agg #[.int .i64 m, .int .i64 d, .int .i64 t, .int .i64 h], .int .i64 s, .agg #[.int .u8 n, .int .i64 a, .int .i64 b, .int .i64 c, .int .i64 i]] w fun e w' => e = .returned (.bool true) ∧ Below w.heap.size w w' := by
  have C1 := Lib.hid (fun (w : World) => validT_any m d t h w)
  have C2 := Lib.hid (fun (w : World) => rvalidT_any m d t h w)
  have C3 := Lib.hid (fun (w : World) (hT : Tab w) => next_any n a b c i w hT)
  have C4 := Lib.hid (fun (w : World) => rnext_any n a b c i w)
  have C5 := Lib.hid (fun (w : World) (hT : Tab w) => hazard_any s n a b c i w hT)
  have C6 := Lib.hid (fun (w : World) => rhazard_any s n a b c i w)
  generalize okT m d t h = x1 at *
  generalize nxt n a b c i = x2 at *
  generalize hzd s n a b c i = x3 at *
  have hz := hT.size
  go_enter Tryd.func3, Tryd.ntmps3
  go_wp2_with fail
  refine (awake8_any _ (Tab.of_below hT (by repeat (first | (with_reducible exact Below.refl _ _) | (with_reducible apply bDrewN) | (with_reducible apply Below.drew) | ((with_reducible apply bSet); (focus first | (simp; done) | (simp; omega) | omega)) | ((with_reducible apply bAlloc); (focus first | (simp; done) | (simp; omega) | omega)))))).mono ?_
  rintro e w1 ⟨rfl, hb1⟩
  have hT1 : Tab w1 := Tab.of_below (Tab.of_below hT (by repeat (first | (with_reducible exact Below.refl _ _) | (with_reducible apply bDrewN) | (with_reducible apply Below.drew) | ((with_reducible apply bSet); (focus first | (simp; done) | (simp; omega) | omega)) | ((with_reducible apply bAlloc); (focus first | (simp; done) | (simp; omega) | omega))))) hb1
  have sz1_0 : w.heap.size < w1.heap.size := by have h := hb1.size; first | (simp at h; omega) | omega
  have c1_0_0 : w1.cell? ⟨w.heap.size, 0, none⟩ = some (.int .i64 m) := by rw [hb1.cell (p := ⟨w.heap.size, 0, none⟩) (by first | (simp; done) | (simp; omega) | omega)]; first | assumption | (simp [go_sem]; done) | (simp [go_sem, *]; done)
  have c1_0_1 : w1.cell? ⟨w.heap.size, 1, none⟩ = some (.int .i64 d) := by rw [hb1.cell (p := ⟨w.heap.size, 1, none⟩) (by first | (simp; done) | (simp; omega) | omega)]; first | assumption | (simp [go_sem]; done) | (simp [go_sem, *]; done)
  have c1_0_2 : w1.cell? ⟨w.heap.size, 2, none⟩ = some (.int .i64 t) := by rw [hb1.cell (p := ⟨w.heap.size, 2, none⟩) (by first | (simp; done) | (simp; omega) | omega)]; first | assumption | (simp [go_sem]; done) | (simp [go_sem, *]; done)
  have c1_0_3 : w1.cell? ⟨w.heap.size, 3, none⟩ = some (.int .i64 h) := by rw [hb1.cell (p := ⟨w.heap.size, 3, none⟩) (by first | (simp; done) | (simp; omega) | omega)]; first | assumption | (simp [go_sem]; done) | (simp [go_sem, *]; done)
  have sz1_1 : w.heap.size + 1 < w1.heap.size := by have h := hb1.size; first | (simp at h; omega) | omega
  have c1_1_0 : w1.cell? ⟨w.heap.size + 1, 0, none⟩ = some (.int .u8 n) := by rw [hb1.cell (p := ⟨w.heap.size + 1, 0, none⟩) (by first | (simp; done) | (simp; omega) | omega)]; first | assumption | (simp [go_sem]; done) | (simp [go_sem, *]; done)
  have c1_1_1 : w1.cell? ⟨w.heap.size + 1, 1, none⟩ = some (.int .i64 a) := by rw [hb1.cell (p := ⟨w.heap.size + 1, 1, none⟩) (by first | (simp; done) | (simp; omega) | omega)]; first | assumption | (simp [go_sem]; done) | (simp [go_sem, *]; done)
  have c1_1_2 : w1.cell? ⟨w.heap.size + 1, 2, none⟩ = some (.int .i64 b) := by rw [hb1.cell (p := ⟨w.heap.size + 1, 2, none⟩) (by first | (simp; done) | (simp; omega) | omega)]; first | assumption | (simp [go_sem]; done) | (simp [go_sem, *]; done)
  have c1_1_3 : w1.cell? ⟨w.heap.size + 1, 3, none⟩ = some (.int .i64 c) := by rw [hb1.cell (p := ⟨w.heap.size + 1, 3, none⟩) (by first | (simp; done) | (simp; omega) | omega)]; first | assumption | (simp [go_sem]; done) | (simp [go_sem, *]; done)
  have c1_1_4 : w1.cell? ⟨w.heap.size + 1, 4, none⟩ = some (.int .i64 i) := by rw [hb1.cell (p := ⟨w.heap.size + 1, 4, none⟩) (by first | (simp; done) | (simp; omega) | omega)]; first | assumption | (simp [go_sem]; done) | (simp [go_sem, *]; done)
  have HB1 : Below w.heap.size w w1 := by
    repeat (first | (with_reducible exact Below.refl _ _) | (with_reducible apply bDrewN) | (with_reducible apply Below.drew) | ((with_reducible apply bThen hb1); (focus first | (simp; done) | (simp; omega) | omega)) | ((with_reducible apply bSet); (focus first | (simp; done) | (simp; omega) | omega)) | ((with_reducible apply bAlloc); (focus first | (simp; done) | (simp; omega) | omega)))
  have hsz1 := HB1.size
  clear hb1 
  go_wp2_with fail
  have mk : ∀ W : World, Below w1.heap.size w1 W → Below w1.heap.size w1 W ∧ W.cell? ⟨w.heap.size, 0, none⟩ = some (.int .i64 m) ∧ W.cell? ⟨w.heap.size, 1, none⟩ = some (.int .i64 d) ∧ W.cell? ⟨w.heap.size, 2, none⟩ = some (.int .i64 t) ∧ W.cell? ⟨w.heap.size, 3, none⟩ = some (.int .i64 h) ∧ W.cell? ⟨w.heap.size + 1, 0, none⟩ = some (.int .u8 n) ∧ W.cell? ⟨w.heap.size + 1, 1, none⟩ = some (.int .i64 a) ∧ W.cell? ⟨w.heap.size + 1, 2, none⟩ = some (.int .i64 b) ∧ W.cell? ⟨w.heap.size + 1, 3, none⟩ = some (.int .i64 c) ∧ W.cell? ⟨w.heap.size + 1, 4, none⟩ = some (.int .i64 i) := fun W hb => ⟨hb, (hb.cell (p := ⟨w.heap.size, 0, none⟩) sz1_0).trans c1_0_0, (hb.cell (p := ⟨w.heap.size, 1, none⟩) sz1_0).trans c1_0_1, (hb.cell (p := ⟨w.heap.size, 2, none⟩) sz1_0).trans c1_0_2, (hb.cell (p := ⟨w.heap.size, 3, none⟩) sz1_0).trans c1_0_3, (hb.cell (p := ⟨w.heap.size + 1, 0, none⟩) sz1_1).trans c1_1_0, (hb.cell (p := ⟨w.heap.size + 1, 1, none⟩) sz1_1).trans c1_1_1, (hb.cell (p := ⟨w.heap.size + 1, 2, none⟩) sz1_1).trans c1_1_2, (hb.cell (p := ⟨w.heap.size + 1, 3, none⟩) sz1_1).trans c1_1_3, (hb.cell (p := ⟨w.heap.size + 1, 4, none⟩) sz1_1).trans c1_1_4⟩
  have R0 := Lib.hid (show ∀ W : World, Below w1.heap.size w1 W → Calls Tryd.prog 12 #[.agg #[.int .i64 m, .int .i64 d, .int .i64 t, .int .i64 h]] W fun e w' => e = .returned (.bool x1) ∧ Below w1.heap.size w1 w' ∧ w'.cell? ⟨w.heap.size, 0, none⟩ = some (.int .i64 m) ∧ w'.cell? ⟨w.heap.size, 1, none⟩ = some (.int .i64 d) ∧ w'.cell? ⟨w.heap.size, 2, none⟩ = some (.int .i64 t) ∧ w'.cell? ⟨w.heap.size, 3, none⟩ = some (.int .i64 h) ∧ w'.cell? ⟨w.heap.size + 1, 0, none⟩ = some (.int .u8 n) ∧ w'.cell? ⟨w.heap.size + 1, 1, none⟩ = some (.int .i64 a) ∧ w'.cell? ⟨w.heap.size + 1, 2, none⟩ = some (.int .i64 b) ∧ w'.cell? ⟨w.heap.size + 1, 3, none⟩ = some (.int .i64 c) ∧ w'.cell? ⟨w.heap.size + 1, 4, none⟩ = some (.int .i64 i) from fun W hb => (C1.out W).mono fun e w' ⟨h1, h2⟩ => ⟨h1, mk w' (hb.trans (h2.mono hb.size))⟩)
  have R1 := Lib.hid (show ∀ W : World, Below w1.heap.size w1 W → Calls Tryd.prog 13 #[.agg #[.int .i64 m, .int .i64 d, .int .i64 t, .int .i64 h]] W fun e w' => e = .returned (.bool x1) ∧ Below w1.heap.size w1 w' ∧ w'.cell? ⟨w.heap.size, 0, none⟩ = some (.int .i64 m) ∧ w'.cell? ⟨w.heap.size, 1, none⟩ = some (.int .i64 d) ∧ w'.cell? ⟨w.heap.size, 2, none⟩ = some (.int .i64 t) ∧ w'.cell? ⟨w.heap.size, 3, none⟩ = some (.int .i64 h) ∧ w'.cell? ⟨w.heap.size + 1, 0, none⟩ = some (.int .u8 n) ∧ w'.cell? ⟨w.heap.size + 1, 1, none⟩ = some (.int .i64 a) ∧ w'.cell? ⟨w.heap.size + 1, 2, none⟩ = some (.int .i64 b) ∧ w'.cell? ⟨w.heap.size + 1, 3, none⟩ = some (.int .i64 c) ∧ w'.cell? ⟨w.heap.size + 1, 4, none⟩ = some (.int .i64 i) from fun W hb => (C2.out W).mono fun e w' ⟨h1, h2⟩ => ⟨h1, mk w' (hb.trans (h2.mono hb.size))⟩)
  have R2 := Lib.hid (show ∀ W : World, Below w1.heap.size w1 W → Calls Tryd.prog 14 #[.agg #[.int .u8 n, .int .i64 a, .int .i64 b, .int .i64 c, .int .i64 i]] W fun e w' => e = .returned (.int .i64 x2) ∧ Below w1.heap.size w1 w' ∧ w'.cell? ⟨w.heap.size, 0, none⟩ = some (.int .i64 m) ∧ w'.cell? ⟨w.heap.size, 1, none⟩ = some (.int .i64 d) ∧ w'.cell? ⟨w.heap.size, 2, none⟩ = some (.int .i64 t) ∧ w'.cell? ⟨w.heap.size, 3, none⟩ = some (.int .i64 h) ∧ w'.cell? ⟨w.heap.size + 1, 0, none⟩ = some (.int .u8 n) ∧ w'.cell? ⟨w.heap.size + 1, 1, none⟩ = some (.int .i64 a) ∧ w'.cell? ⟨w.heap.size + 1, 2, none⟩ = some (.int .i64 b) ∧ w'.cell? ⟨w.heap.size + 1, 3, none⟩ = some (.int .i64 c) ∧ w'.cell? ⟨w.heap.size + 1, 4, none⟩ = some (.int .i64 i) from fun W hb => (C3.out W (Tab.of_below hT1 hb)).mono fun e w' ⟨h1, h2⟩ => ⟨h1, mk w' (hb.trans (h2.mono hb.size))⟩)
  have R3 := Lib.hid (show ∀ W : World, Below w1.heap.size w1 W → Calls Tryd.prog 15 #[.agg #[.int .u8 n, .int .i64 a, .int .i64 b, .int .i64 c, .int .i64 i]] W fun e w' => e = .returned (.int .i64 x2) ∧ Below w1.heap.size w1 w' ∧ w'.cell? ⟨w.heap.size, 0, none⟩ = some (.int .i64 m) ∧ w'.cell? ⟨w.heap.size, 1, none⟩ = some (.int .i64 d) ∧ w'.cell? ⟨w.heap.size, 2, none⟩ = some (.int .i64 t) ∧ w'.cell? ⟨w.heap.size, 3, none⟩ = some (.int .i64 h) ∧ w'.cell? ⟨w.heap.size + 1, 0, none⟩ = some (.int .u8 n) ∧ w'.cell? ⟨w.heap.size + 1, 1, none⟩ = some (.int .i64 a) ∧ w'.cell? ⟨w.heap.size + 1, 2, none⟩ = some (.int .i64 b) ∧ w'.cell? ⟨w.heap.size + 1, 3, none⟩ = some (.int .i64 c) ∧ w'.cell? ⟨w.heap.size + 1, 4, none⟩ = some (.int .i64 i) from fun W hb => (C4.out W).mono fun e w' ⟨h1, h2⟩ => ⟨h1, mk w' (hb.trans (h2.mono hb.size))⟩)
  have R4 := Lib.hid (show ∀ W : World, Below w1.heap.size w1 W → Calls Tryd.prog 16 #[.int .i64 s, .agg #[.int .u8 n, .int .i64 a, .int .i64 b, .int .i64 c, .int .i64 i]] W fun e w' => e = .returned (.bool x3) ∧ Below w1.heap.size w1 w' ∧ w'.cell? ⟨w.heap.size, 0, none⟩ = some (.int .i64 m) ∧ w'.cell? ⟨w.heap.size, 1, none⟩ = some (.int .i64 d) ∧ w'.cell? ⟨w.heap.size, 2, none⟩ = some (.int .i64 t) ∧ w'.cell? ⟨w.heap.size, 3, none⟩ = some (.int .i64 h) ∧ w'.cell? ⟨w.heap.size + 1, 0, none⟩ = some (.int .u8 n) ∧ w'.cell? ⟨w.heap.size + 1, 1, none⟩ = some (.int .i64 a) ∧ w'.cell? ⟨w.heap.size + 1, 2, none⟩ = some (.int .i64 b) ∧ w'.cell? ⟨w.heap.size + 1, 3, none⟩ = some (.int .i64 c) ∧ w'.cell? ⟨w.heap.size + 1, 4, none⟩ = some (.int .i64 i) from fun W hb => (C5.out W (Tab.of_below hT1 hb)).mono fun e w' ⟨h1, h2⟩ => ⟨h1, mk w' (hb.trans (h2.mono hb.size))⟩)
  have R5 := Lib.hid (show ∀ W : World, Below w1.heap.size w1 W → Calls Tryd.prog 17 #[.int .i64 s, .agg #[.int .u8 n, .int .i64 a, .int .i64 b, .int .i64 c, .int .i64 i]] W fun e w' => e = .returned (.bool x3) ∧ Below w1.heap.size w1 w' ∧ w'.cell? ⟨w.heap.size, 0, none⟩ = some (.int .i64 m) ∧ w'.cell? ⟨w.heap.size, 1, none⟩ = some (.int .i64 d) ∧ w'.cell? ⟨w.heap.size, 2, none⟩ = some (.int .i64 t) ∧ w'.cell? ⟨w.heap.size, 3, none⟩ = some (.int .i64 h) ∧ w'.cell? ⟨w.heap.size + 1, 0, none⟩ = some (.int .u8 n) ∧ w'.cell? ⟨w.heap.size + 1, 1, none⟩ = some (.int .i64 a) ∧ w'.cell? ⟨w.heap.size + 1, 2, none⟩ = some (.int .i64 b) ∧ w'.cell? ⟨w.heap.size + 1, 3, none⟩ = some (.int .i64 c) ∧ w'.cell? ⟨w.heap.size + 1, 4, none⟩ = some (.int .i64 i) from fun W hb => (C6.out W).mono fun e w' ⟨h1, h2⟩ => ⟨h1, mk w' (hb.trans (h2.mono hb.size))⟩)
  have hs0 := mk w1.drew (Below.refl _ _).drew
  clear mk
  first | go_region_held3 (fun w' => Below w1.heap.size w1 w' ∧ w'.cell? ⟨w.heap.size, 0, none⟩ = some (.int .i64 m) ∧ w'.cell? ⟨w.heap.size, 1, none⟩ = some (.int .i64 d) ∧ w'.cell? ⟨w.heap.size, 2, none⟩ = some (.int .i64 t) ∧ w'.cell? ⟨w.heap.size, 3, none⟩ = some (.int .i64 h) ∧ w'.cell? ⟨w.heap.size + 1, 0, none⟩ = some (.int .u8 n) ∧ w'.cell? ⟨w.heap.size + 1, 1, none⟩ = some (.int .i64 a) ∧ w'.cell? ⟨w.heap.size + 1, 2, none⟩ = some (.int .i64 b) ∧ w'.cell? ⟨w.heap.size + 1, 3, none⟩ = some (.int .i64 c) ∧ w'.cell? ⟨w.heap.size + 1, 4, none⟩ = some (.int .i64 i)) (first | exact hs0 | assumption | (simp [*]; done)) (first | (go_at_call 12; (with_reducible refine (R0.out _ ?_).mono ?_); (simp [*]); rintro e w' ⟨rfl, hS⟩) | (go_at_call 13; (with_reducible refine (R1.out _ ?_).mono ?_); (simp [*]); rintro e w' ⟨rfl, hS⟩) | (go_at_call 14; (with_reducible refine (R2.out _ ?_).mono ?_); (simp [*]); rintro e w' ⟨rfl, hS⟩) | (go_at_call 15; (with_reducible refine (R3.out _ ?_).mono ?_); (simp [*]); rintro e w' ⟨rfl, hS⟩) | (go_at_call 16; (with_reducible refine (R4.out _ ?_).mono ?_); (simp [*]); rintro e w' ⟨rfl, hS⟩) | (go_at_call 17; (with_reducible refine (R5.out _ ?_).mono ?_); (simp [*]); rintro e w' ⟨rfl, hS⟩)) | fail
  go_wp2_with fail
  go_ret
  refine ⟨by simp, ?_⟩
  first | exact bThen (W := w1) (by assumption) (by omega) HB1 | (go_split_ands; exact bThen (W := w1) (by assumption) (by omega) HB1)

set_option maxHeartbeats 800000 in
theorem rleast_any (m d t h : Int) (n : Nat) (a b c i : Int) (w : World) (hm : 0 ≤ m ∧ m ≤ 1000) (hd : 0 ≤ d ∧ d ≤ 1000) :
    Calls Tryd.prog 27 #[.agg #[.int .i64 m, .int .i64 d, .int .i64 t, .int .i64 h], .agg #[.int .u8 n, .int .i64 a, .int .i64 b, .int .i64 c, .int .i64 i]] w fun e w' => e = .returned (.int .i64 (lst m d n)) ∧ Below w.heap.size w w' := by
  have C1 := Lib.hid (fun (w : World) => rbase_any m d t h n a b c i w hm hd)
  generalize lst m d n = x3 at *
  go_enter Tryd.func27, Tryd.ntmps27
  go_wp2_with fail
  refine (C1.out _).mono ?_
  rintro e w1 ⟨rfl, hb1⟩
  have HB1 : Below w.heap.size w w1 := by
    repeat (first | (with_reducible exact Below.refl _ _) | (with_reducible apply bDrewN) | (with_reducible apply Below.drew) | ((with_reducible apply bThen hb1); (focus first | (simp; done) | (simp; omega) | omega)) | ((with_reducible apply bSet); (focus first | (simp; done) | (simp; omega) | omega)) | ((with_reducible apply bAlloc); (focus first | (simp; done) | (simp; omega) | omega)))
  have hsz1 := HB1.size
  clear hb1 
  go_wp2_with fail
  go_ret
  refine ⟨rfl, ?_⟩
  (repeat (first | (with_reducible exact Below.refl _ _) | (with_reducible apply bDrewN) | (with_reducible apply Below.drew) | (with_reducible exact HB1) | ((with_reducible apply bSet); (focus first | (simp; done) | (simp; omega) | omega)) | ((with_reducible apply bAlloc); (focus first | (simp; done) | (simp; omega) | omega))))

set_option maxHeartbeats 3200000 in
theorem cyclesLaw_any (m d t h s : Int) (n : Nat) (a b c i : Int) (tk : Bool) (w : World) (hT : Tab w) :
    Calls Tryd.prog 8 #[.agg #[.int .i64 m, .int .i64 d, .int .i64 t, .int .i64 h], .int .i64 s, .agg #[.int .u8 n, .int .i64 a, .int .i64 b, .int .i64 c, .int .i64 i], .bool tk] w fun e w' => e = .returned (.bool true) ∧ Below w.heap.size w w' := by
  have HV := Lib.hid (fun (w : World) => rvalidT_any m d t h w)
  cases hok : okT m d t h
  · rw [hok] at HV
    have hz := hT.size
    go_enter Tryd.func8, Tryd.ntmps8
    go_wp2_with fail
    refine (awake8_any _ (Tab.of_below hT (by repeat (first | (with_reducible exact Below.refl _ _) | (with_reducible apply bDrewN) | (with_reducible apply Below.drew) | ((with_reducible apply bSet); (focus first | (simp; done) | (simp; omega) | omega)) | ((with_reducible apply bAlloc); (focus first | (simp; done) | (simp; omega) | omega)))))).mono ?_
    rintro e w1 ⟨rfl, hb1⟩
    have hT1 : Tab w1 := Tab.of_below (Tab.of_below hT (by repeat (first | (with_reducible exact Below.refl _ _) | (with_reducible apply bDrewN) | (with_reducible apply Below.drew) | ((with_reducible apply bSet); (focus first | (simp; done) | (simp; omega) | omega)) | ((with_reducible apply bAlloc); (focus first | (simp; done) | (simp; omega) | omega))))) hb1
    have sz1_0 : w.heap.size < w1.heap.size := by have h := hb1.size; first | (simp at h; omega) | omega
    have c1_0_0 : w1.cell? ⟨w.heap.size, 0, none⟩ = some (.int .i64 m) := by rw [hb1.cell (p := ⟨w.heap.size, 0, none⟩) (by first | (simp; done) | (simp; omega) | omega)]; first | assumption | (simp [go_sem]; done) | (simp [go_sem, *]; done)
    have c1_0_1 : w1.cell? ⟨w.heap.size, 1, none⟩ = some (.int .i64 d) := by rw [hb1.cell (p := ⟨w.heap.size, 1, none⟩) (by first | (simp; done) | (simp; omega) | omega)]; first | assumption | (simp [go_sem]; done) | (simp [go_sem, *]; done)
    have c1_0_2 : w1.cell? ⟨w.heap.size, 2, none⟩ = some (.int .i64 t) := by rw [hb1.cell (p := ⟨w.heap.size, 2, none⟩) (by first | (simp; done) | (simp; omega) | omega)]; first | assumption | (simp [go_sem]; done) | (simp [go_sem, *]; done)
    have c1_0_3 : w1.cell? ⟨w.heap.size, 3, none⟩ = some (.int .i64 h) := by rw [hb1.cell (p := ⟨w.heap.size, 3, none⟩) (by first | (simp; done) | (simp; omega) | omega)]; first | assumption | (simp [go_sem]; done) | (simp [go_sem, *]; done)
    have sz1_1 : w.heap.size + 1 < w1.heap.size := by have h := hb1.size; first | (simp at h; omega) | omega
    have c1_1_0 : w1.cell? ⟨w.heap.size + 1, 0, none⟩ = some (.int .u8 n) := by rw [hb1.cell (p := ⟨w.heap.size + 1, 0, none⟩) (by first | (simp; done) | (simp; omega) | omega)]; first | assumption | (simp [go_sem]; done) | (simp [go_sem, *]; done)
    have c1_1_1 : w1.cell? ⟨w.heap.size + 1, 1, none⟩ = some (.int .i64 a) := by rw [hb1.cell (p := ⟨w.heap.size + 1, 1, none⟩) (by first | (simp; done) | (simp; omega) | omega)]; first | assumption | (simp [go_sem]; done) | (simp [go_sem, *]; done)
    have c1_1_2 : w1.cell? ⟨w.heap.size + 1, 2, none⟩ = some (.int .i64 b) := by rw [hb1.cell (p := ⟨w.heap.size + 1, 2, none⟩) (by first | (simp; done) | (simp; omega) | omega)]; first | assumption | (simp [go_sem]; done) | (simp [go_sem, *]; done)
    have c1_1_3 : w1.cell? ⟨w.heap.size + 1, 3, none⟩ = some (.int .i64 c) := by rw [hb1.cell (p := ⟨w.heap.size + 1, 3, none⟩) (by first | (simp; done) | (simp; omega) | omega)]; first | assumption | (simp [go_sem]; done) | (simp [go_sem, *]; done)
    have c1_1_4 : w1.cell? ⟨w.heap.size + 1, 4, none⟩ = some (.int .i64 i) := by rw [hb1.cell (p := ⟨w.heap.size + 1, 4, none⟩) (by first | (simp; done) | (simp; omega) | omega)]; first | assumption | (simp [go_sem]; done) | (simp [go_sem, *]; done)
    have HB1 : Below w.heap.size w w1 := by
      repeat (first | (with_reducible exact Below.refl _ _) | (with_reducible apply bDrewN) | (with_reducible apply Below.drew) | ((with_reducible apply bThen hb1); (focus first | (simp; done) | (simp; omega) | omega)) | ((with_reducible apply bSet); (focus first | (simp; done) | (simp; omega) | omega)) | ((with_reducible apply bAlloc); (focus first | (simp; done) | (simp; omega) | omega)))
    have hsz1 := HB1.size
    clear hb1 
    go_wp2_with fail
    refine (HV.out _).mono ?_
    rintro e w2 ⟨rfl, hb2⟩
    have hT2 : Tab w2 := Tab.of_below (Tab.of_below hT1 (by repeat (first | (with_reducible exact Below.refl _ _) | (with_reducible apply bDrewN) | (with_reducible apply Below.drew) | ((with_reducible apply bSet); (focus first | (simp; done) | (simp; omega) | omega)) | ((with_reducible apply bAlloc); (focus first | (simp; done) | (simp; omega) | omega))))) hb2
    have sz2_0 : w.heap.size < w2.heap.size := by have h := hb2.size; first | (simp at h; omega) | omega
    have c2_0_0 : w2.cell? ⟨w.heap.size, 0, none⟩ = some (.int .i64 m) := by rw [hb2.cell (p := ⟨w.heap.size, 0, none⟩) (by first | (simp; done) | (simp; omega) | omega)]; first | assumption | (simp [go_sem]; done) | (simp [go_sem, *]; done)
    have c2_0_1 : w2.cell? ⟨w.heap.size, 1, none⟩ = some (.int .i64 d) := by rw [hb2.cell (p := ⟨w.heap.size, 1, none⟩) (by first | (simp; done) | (simp; omega) | omega)]; first | assumption | (simp [go_sem]; done) | (simp [go_sem, *]; done)
    have c2_0_2 : w2.cell? ⟨w.heap.size, 2, none⟩ = some (.int .i64 t) := by rw [hb2.cell (p := ⟨w.heap.size, 2, none⟩) (by first | (simp; done) | (simp; omega) | omega)]; first | assumption | (simp [go_sem]; done) | (simp [go_sem, *]; done)
    have c2_0_3 : w2.cell? ⟨w.heap.size, 3, none⟩ = some (.int .i64 h) := by rw [hb2.cell (p := ⟨w.heap.size, 3, none⟩) (by first | (simp; done) | (simp; omega) | omega)]; first | assumption | (simp [go_sem]; done) | (simp [go_sem, *]; done)
    have sz2_1 : w.heap.size + 1 < w2.heap.size := by have h := hb2.size; first | (simp at h; omega) | omega
    have c2_1_0 : w2.cell? ⟨w.heap.size + 1, 0, none⟩ = some (.int .u8 n) := by rw [hb2.cell (p := ⟨w.heap.size + 1, 0, none⟩) (by first | (simp; done) | (simp; omega) | omega)]; first | assumption | (simp [go_sem]; done) | (simp [go_sem, *]; done)
    have c2_1_1 : w2.cell? ⟨w.heap.size + 1, 1, none⟩ = some (.int .i64 a) := by rw [hb2.cell (p := ⟨w.heap.size + 1, 1, none⟩) (by first | (simp; done) | (simp; omega) | omega)]; first | assumption | (simp [go_sem]; done) | (simp [go_sem, *]; done)
    have c2_1_2 : w2.cell? ⟨w.heap.size + 1, 2, none⟩ = some (.int .i64 b) := by rw [hb2.cell (p := ⟨w.heap.size + 1, 2, none⟩) (by first | (simp; done) | (simp; omega) | omega)]; first | assumption | (simp [go_sem]; done) | (simp [go_sem, *]; done)
    have c2_1_3 : w2.cell? ⟨w.heap.size + 1, 3, none⟩ = some (.int .i64 c) := by rw [hb2.cell (p := ⟨w.heap.size + 1, 3, none⟩) (by first | (simp; done) | (simp; omega) | omega)]; first | assumption | (simp [go_sem]; done) | (simp [go_sem, *]; done)
    have c2_1_4 : w2.cell? ⟨w.heap.size + 1, 4, none⟩ = some (.int .i64 i) := by rw [hb2.cell (p := ⟨w.heap.size + 1, 4, none⟩) (by first | (simp; done) | (simp; omega) | omega)]; first | assumption | (simp [go_sem]; done) | (simp [go_sem, *]; done)
    have HB2 : Below w.heap.size w w2 := by
      repeat (first | (with_reducible exact Below.refl _ _) | (with_reducible apply bDrewN) | (with_reducible apply Below.drew) | (with_reducible exact HB1) | ((with_reducible apply bThen hb2); (focus first | (simp; done) | (simp; omega) | omega)) | ((with_reducible apply bSet); (focus first | (simp; done) | (simp; omega) | omega)) | ((with_reducible apply bAlloc); (focus first | (simp; done) | (simp; omega) | omega)))
    have hsz2 := HB2.size
    clear hb2 sz1_0 c1_0_0 c1_0_1 c1_0_2 c1_0_3 sz1_1 c1_1_0 c1_1_1 c1_1_2 c1_1_3 c1_1_4 hsz1
    go_wp2_with fail
    go_ret
    refine ⟨rfl, ?_⟩
    (repeat (first | (with_reducible exact Below.refl _ _) | (with_reducible apply bDrewN) | (with_reducible apply Below.drew) | (with_reducible exact HB2) | ((with_reducible apply bSet); (focus first | (simp; done) | (simp; omega) | omega)) | ((with_reducible apply bAlloc); (focus first | (simp; done) | (simp; omega) | omega))))
  · rw [hok] at HV
    obtain ⟨hm, hd, ht, hh⟩ := okT_bd hok
    clear hok
    have C1 := Lib.hid (fun (w : World) (hT : Tab w) => cycles_any m d t h s n a b c i tk w hT hm hd ht hh)
    have C2 := Lib.hid (fun (w : World) => rcycles_any m d t h s n a b c i tk w hm hd ht hh)
    have C3 := Lib.hid (fun (w : World) (hT : Tab w) => most_any m d t h n a b c i w hT hm hd ht hh)
    have C4 := Lib.hid (fun (w : World) => rmost_any m d t h n a b c i w hm hd ht hh)
    have C5 := Lib.hid (fun (w : World) => least_any m d t h n a b c i w hm hd)
    have C6 := Lib.hid (fun (w : World) => rleast_any m d t h n a b c i w hm hd)
    generalize cyc m d t h s n a b c i tk = x1 at *
    generalize mst m d t h n a b c i = x2 at *
    generalize lst m d n = x3 at *
    have hz := hT.size
    go_enter Tryd.func8, Tryd.ntmps8
    go_wp2_with fail
    refine (awake8_any _ (Tab.of_below hT (by repeat (first | (with_reducible exact Below.refl _ _) | (with_reducible apply bDrewN) | (with_reducible apply Below.drew) | ((with_reducible apply bSet); (focus first | (simp; done) | (simp; omega) | omega)) | ((with_reducible apply bAlloc); (focus first | (simp; done) | (simp; omega) | omega)))))).mono ?_
    rintro e w1 ⟨rfl, hb1⟩
    have hT1 : Tab w1 := Tab.of_below (Tab.of_below hT (by repeat (first | (with_reducible exact Below.refl _ _) | (with_reducible apply bDrewN) | (with_reducible apply Below.drew) | ((with_reducible apply bSet); (focus first | (simp; done) | (simp; omega) | omega)) | ((with_reducible apply bAlloc); (focus first | (simp; done) | (simp; omega) | omega))))) hb1
    have sz1_0 : w.heap.size < w1.heap.size := by have h := hb1.size; first | (simp at h; omega) | omega
    have c1_0_0 : w1.cell? ⟨w.heap.size, 0, none⟩ = some (.int .i64 m) := by rw [hb1.cell (p := ⟨w.heap.size, 0, none⟩) (by first | (simp; done) | (simp; omega) | omega)]; first | assumption | (simp [go_sem]; done) | (simp [go_sem, *]; done)
    have c1_0_1 : w1.cell? ⟨w.heap.size, 1, none⟩ = some (.int .i64 d) := by rw [hb1.cell (p := ⟨w.heap.size, 1, none⟩) (by first | (simp; done) | (simp; omega) | omega)]; first | assumption | (simp [go_sem]; done) | (simp [go_sem, *]; done)
    have c1_0_2 : w1.cell? ⟨w.heap.size, 2, none⟩ = some (.int .i64 t) := by rw [hb1.cell (p := ⟨w.heap.size, 2, none⟩) (by first | (simp; done) | (simp; omega) | omega)]; first | assumption | (simp [go_sem]; done) | (simp [go_sem, *]; done)
    have c1_0_3 : w1.cell? ⟨w.heap.size, 3, none⟩ = some (.int .i64 h) := by rw [hb1.cell (p := ⟨w.heap.size, 3, none⟩) (by first | (simp; done) | (simp; omega) | omega)]; first | assumption | (simp [go_sem]; done) | (simp [go_sem, *]; done)
    have sz1_1 : w.heap.size + 1 < w1.heap.size := by have h := hb1.size; first | (simp at h; omega) | omega
    have c1_1_0 : w1.cell? ⟨w.heap.size + 1, 0, none⟩ = some (.int .u8 n) := by rw [hb1.cell (p := ⟨w.heap.size + 1, 0, none⟩) (by first | (simp; done) | (simp; omega) | omega)]; first | assumption | (simp [go_sem]; done) | (simp [go_sem, *]; done)
    have c1_1_1 : w1.cell? ⟨w.heap.size + 1, 1, none⟩ = some (.int .i64 a) := by rw [hb1.cell (p := ⟨w.heap.size + 1, 1, none⟩) (by first | (simp; done) | (simp; omega) | omega)]; first | assumption | (simp [go_sem]; done) | (simp [go_sem, *]; done)
    have c1_1_2 : w1.cell? ⟨w.heap.size + 1, 2, none⟩ = some (.int .i64 b) := by rw [hb1.cell (p := ⟨w.heap.size + 1, 2, none⟩) (by first | (simp; done) | (simp; omega) | omega)]; first | assumption | (simp [go_sem]; done) | (simp [go_sem, *]; done)
    have c1_1_3 : w1.cell? ⟨w.heap.size + 1, 3, none⟩ = some (.int .i64 c) := by rw [hb1.cell (p := ⟨w.heap.size + 1, 3, none⟩) (by first | (simp; done) | (simp; omega) | omega)]; first | assumption | (simp [go_sem]; done) | (simp [go_sem, *]; done)
    have c1_1_4 : w1.cell? ⟨w.heap.size + 1, 4, none⟩ = some (.int .i64 i) := by rw [hb1.cell (p := ⟨w.heap.size + 1, 4, none⟩) (by first | (simp; done) | (simp; omega) | omega)]; first | assumption | (simp [go_sem]; done) | (simp [go_sem, *]; done)
    have HB1 : Below w.heap.size w w1 := by
      repeat (first | (with_reducible exact Below.refl _ _) | (with_reducible apply bDrewN) | (with_reducible apply Below.drew) | ((with_reducible apply bThen hb1); (focus first | (simp; done) | (simp; omega) | omega)) | ((with_reducible apply bSet); (focus first | (simp; done) | (simp; omega) | omega)) | ((with_reducible apply bAlloc); (focus first | (simp; done) | (simp; omega) | omega)))
    have hsz1 := HB1.size
    clear hb1 
    go_wp2_with fail
    refine (HV.out _).mono ?_
    rintro e w2 ⟨rfl, hb2⟩
    have hT2 : Tab w2 := Tab.of_below (Tab.of_below hT1 (by repeat (first | (with_reducible exact Below.refl _ _) | (with_reducible apply bDrewN) | (with_reducible apply Below.drew) | ((with_reducible apply bSet); (focus first | (simp; done) | (simp; omega) | omega)) | ((with_reducible apply bAlloc); (focus first | (simp; done) | (simp; omega) | omega))))) hb2
    have sz2_0 : w.heap.size < w2.heap.size := by have h := hb2.size; first | (simp at h; omega) | omega
    have c2_0_0 : w2.cell? ⟨w.heap.size, 0, none⟩ = some (.int .i64 m) := by rw [hb2.cell (p := ⟨w.heap.size, 0, none⟩) (by first | (simp; done) | (simp; omega) | omega)]; first | assumption | (simp [go_sem]; done) | (simp [go_sem, *]; done)
    have c2_0_1 : w2.cell? ⟨w.heap.size, 1, none⟩ = some (.int .i64 d) := by rw [hb2.cell (p := ⟨w.heap.size, 1, none⟩) (by first | (simp; done) | (simp; omega) | omega)]; first | assumption | (simp [go_sem]; done) | (simp [go_sem, *]; done)
    have c2_0_2 : w2.cell? ⟨w.heap.size, 2, none⟩ = some (.int .i64 t) := by rw [hb2.cell (p := ⟨w.heap.size, 2, none⟩) (by first | (simp; done) | (simp; omega) | omega)]; first | assumption | (simp [go_sem]; done) | (simp [go_sem, *]; done)
    have c2_0_3 : w2.cell? ⟨w.heap.size, 3, none⟩ = some (.int .i64 h) := by rw [hb2.cell (p := ⟨w.heap.size, 3, none⟩) (by first | (simp; done) | (simp; omega) | omega)]; first | assumption | (simp [go_sem]; done) | (simp [go_sem, *]; done)
    have sz2_1 : w.heap.size + 1 < w2.heap.size := by have h := hb2.size; first | (simp at h; omega) | omega
    have c2_1_0 : w2.cell? ⟨w.heap.size + 1, 0, none⟩ = some (.int .u8 n) := by rw [hb2.cell (p := ⟨w.heap.size + 1, 0, none⟩) (by first | (simp; done) | (simp; omega) | omega)]; first | assumption | (simp [go_sem]; done) | (simp [go_sem, *]; done)
    have c2_1_1 : w2.cell? ⟨w.heap.size + 1, 1, none⟩ = some (.int .i64 a) := by rw [hb2.cell (p := ⟨w.heap.size + 1, 1, none⟩) (by first | (simp; done) | (simp; omega) | omega)]; first | assumption | (simp [go_sem]; done) | (simp [go_sem, *]; done)
    have c2_1_2 : w2.cell? ⟨w.heap.size + 1, 2, none⟩ = some (.int .i64 b) := by rw [hb2.cell (p := ⟨w.heap.size + 1, 2, none⟩) (by first | (simp; done) | (simp; omega) | omega)]; first | assumption | (simp [go_sem]; done) | (simp [go_sem, *]; done)
    have c2_1_3 : w2.cell? ⟨w.heap.size + 1, 3, none⟩ = some (.int .i64 c) := by rw [hb2.cell (p := ⟨w.heap.size + 1, 3, none⟩) (by first | (simp; done) | (simp; omega) | omega)]; first | assumption | (simp [go_sem]; done) | (simp [go_sem, *]; done)
    have c2_1_4 : w2.cell? ⟨w.heap.size + 1, 4, none⟩ = some (.int .i64 i) := by rw [hb2.cell (p := ⟨w.heap.size + 1, 4, none⟩) (by first | (simp; done) | (simp; omega) | omega)]; first | assumption | (simp [go_sem]; done) | (simp [go_sem, *]; done)
    have HB2 : Below w.heap.size w w2 := by
      repeat (first | (with_reducible exact Below.refl _ _) | (with_reducible apply bDrewN) | (with_reducible apply Below.drew) | (with_reducible exact HB1) | ((with_reducible apply bThen hb2); (focus first | (simp; done) | (simp; omega) | omega)) | ((with_reducible apply bSet); (focus first | (simp; done) | (simp; omega) | omega)) | ((with_reducible apply bAlloc); (focus first | (simp; done) | (simp; omega) | omega)))
    have hsz2 := HB2.size
    clear hb2 sz1_0 c1_0_0 c1_0_1 c1_0_2 c1_0_3 sz1_1 c1_1_0 c1_1_1 c1_1_2 c1_1_3 c1_1_4 hsz1
    go_wp2_with fail
    have mk : ∀ W : World, Below w2.heap.size w2 W → Below w2.heap.size w2 W ∧ W.cell? ⟨w.heap.size, 0, none⟩ = some (.int .i64 m) ∧ W.cell? ⟨w.heap.size, 1, none⟩ = some (.int .i64 d) ∧ W.cell? ⟨w.heap.size, 2, none⟩ = some (.int .i64 t) ∧ W.cell? ⟨w.heap.size, 3, none⟩ = some (.int .i64 h) ∧ W.cell? ⟨w.heap.size + 1, 0, none⟩ = some (.int .u8 n) ∧ W.cell? ⟨w.heap.size + 1, 1, none⟩ = some (.int .i64 a) ∧ W.cell? ⟨w.heap.size + 1, 2, none⟩ = some (.int .i64 b) ∧ W.cell? ⟨w.heap.size + 1, 3, none⟩ = some (.int .i64 c) ∧ W.cell? ⟨w.heap.size + 1, 4, none⟩ = some (.int .i64 i) := fun W hb => ⟨hb, (hb.cell (p := ⟨w.heap.size, 0, none⟩) sz2_0).trans c2_0_0, (hb.cell (p := ⟨w.heap.size, 1, none⟩) sz2_0).trans c2_0_1, (hb.cell (p := ⟨w.heap.size, 2, none⟩) sz2_0).trans c2_0_2, (hb.cell (p := ⟨w.heap.size, 3, none⟩) sz2_0).trans c2_0_3, (hb.cell (p := ⟨w.heap.size + 1, 0, none⟩) sz2_1).trans c2_1_0, (hb.cell (p := ⟨w.heap.size + 1, 1, none⟩) sz2_1).trans c2_1_1, (hb.cell (p := ⟨w.heap.size + 1, 2, none⟩) sz2_1).trans c2_1_2, (hb.cell (p := ⟨w.heap.size + 1, 3, none⟩) sz2_1).trans c2_1_3, (hb.cell (p := ⟨w.heap.size + 1, 4, none⟩) sz2_1).trans c2_1_4⟩
    have R0 := Lib.hid (show ∀ W : World, Below w2.heap.size w2 W → Calls Tryd.prog 19 #[.agg #[.int .i64 m, .int .i64 d, .int .i64 t, .int .i64 h], .int .i64 s, .agg #[.int .u8 n, .int .i64 a, .int .i64 b, .int .i64 c, .int .i64 i], .bool tk] W fun e w' => e = .returned (.int .i64 x1) ∧ Below w2.heap.size w2 w' ∧ w'.cell? ⟨w.heap.size, 0, none⟩ = some (.int .i64 m) ∧ w'.cell? ⟨w.heap.size, 1, none⟩ = some (.int .i64 d) ∧ w'.cell? ⟨w.heap.size, 2, none⟩ = some (.int .i64 t) ∧ w'.cell? ⟨w.heap.size, 3, none⟩ = some (.int .i64 h) ∧ w'.cell? ⟨w.heap.size + 1, 0, none⟩ = some (.int .u8 n) ∧ w'.cell? ⟨w.heap.size + 1, 1, none⟩ = some (.int .i64 a) ∧ w'.cell? ⟨w.heap.size + 1, 2, none⟩ = some (.int .i64 b) ∧ w'.cell? ⟨w.heap.size + 1, 3, none⟩ = some (.int .i64 c) ∧ w'.cell? ⟨w.heap.size + 1, 4, none⟩ = some (.int .i64 i) from fun W hb => (C1.out W (Tab.of_below hT2 hb)).mono fun e w' ⟨h1, h2⟩ => ⟨h1, mk w' (hb.trans (h2.mono hb.size))⟩)
    have R1 := Lib.hid (show ∀ W : World, Below w2.heap.size w2 W → Calls Tryd.prog 23 #[.agg #[.int .i64 m, .int .i64 d, .int .i64 t, .int .i64 h], .int .i64 s, .agg #[.int .u8 n, .int .i64 a, .int .i64 b, .int .i64 c, .int .i64 i], .bool tk] W fun e w' => e = .returned (.int .i64 x1) ∧ Below w2.heap.size w2 w' ∧ w'.cell? ⟨w.heap.size, 0, none⟩ = some (.int .i64 m) ∧ w'.cell? ⟨w.heap.size, 1, none⟩ = some (.int .i64 d) ∧ w'.cell? ⟨w.heap.size, 2, none⟩ = some (.int .i64 t) ∧ w'.cell? ⟨w.heap.size, 3, none⟩ = some (.int .i64 h) ∧ w'.cell? ⟨w.heap.size + 1, 0, none⟩ = some (.int .u8 n) ∧ w'.cell? ⟨w.heap.size + 1, 1, none⟩ = some (.int .i64 a) ∧ w'.cell? ⟨w.heap.size + 1, 2, none⟩ = some (.int .i64 b) ∧ w'.cell? ⟨w.heap.size + 1, 3, none⟩ = some (.int .i64 c) ∧ w'.cell? ⟨w.heap.size + 1, 4, none⟩ = some (.int .i64 i) from fun W hb => (C2.out W).mono fun e w' ⟨h1, h2⟩ => ⟨h1, mk w' (hb.trans (h2.mono hb.size))⟩)
    have R2 := Lib.hid (show ∀ W : World, Below w2.heap.size w2 W → Calls Tryd.prog 24 #[.agg #[.int .i64 m, .int .i64 d, .int .i64 t, .int .i64 h], .agg #[.int .u8 n, .int .i64 a, .int .i64 b, .int .i64 c, .int .i64 i]] W fun e w' => e = .returned (.int .i64 x2) ∧ Below w2.heap.size w2 w' ∧ w'.cell? ⟨w.heap.size, 0, none⟩ = some (.int .i64 m) ∧ w'.cell? ⟨w.heap.size, 1, none⟩ = some (.int .i64 d) ∧ w'.cell? ⟨w.heap.size, 2, none⟩ = some (.int .i64 t) ∧ w'.cell? ⟨w.heap.size, 3, none⟩ = some (.int .i64 h) ∧ w'.cell? ⟨w.heap.size + 1, 0, none⟩ = some (.int .u8 n) ∧ w'.cell? ⟨w.heap.size + 1, 1, none⟩ = some (.int .i64 a) ∧ w'.cell? ⟨w.heap.size + 1, 2, none⟩ = some (.int .i64 b) ∧ w'.cell? ⟨w.heap.size + 1, 3, none⟩ = some (.int .i64 c) ∧ w'.cell? ⟨w.heap.size + 1, 4, none⟩ = some (.int .i64 i) from fun W hb => (C3.out W (Tab.of_below hT2 hb)).mono fun e w' ⟨h1, h2⟩ => ⟨h1, mk w' (hb.trans (h2.mono hb.size))⟩)
    have R3 := Lib.hid (show ∀ W : World, Below w2.heap.size w2 W → Calls Tryd.prog 25 #[.agg #[.int .i64 m, .int .i64 d, .int .i64 t, .int .i64 h], .agg #[.int .u8 n, .int .i64 a, .int .i64 b, .int .i64 c, .int .i64 i]] W fun e w' => e = .returned (.int .i64 x2) ∧ Below w2.heap.size w2 w' ∧ w'.cell? ⟨w.heap.size, 0, none⟩ = some (.int .i64 m) ∧ w'.cell? ⟨w.heap.size, 1, none⟩ = some (.int .i64 d) ∧ w'.cell? ⟨w.heap.size, 2, none⟩ = some (.int .i64 t) ∧ w'.cell? ⟨w.heap.size, 3, none⟩ = some (.int .i64 h) ∧ w'.cell? ⟨w.heap.size + 1, 0, none⟩ = some (.int .u8 n) ∧ w'.cell? ⟨w.heap.size + 1, 1, none⟩ = some (.int .i64 a) ∧ w'.cell? ⟨w.heap.size + 1, 2, none⟩ = some (.int .i64 b) ∧ w'.cell? ⟨w.heap.size + 1, 3, none⟩ = some (.int .i64 c) ∧ w'.cell? ⟨w.heap.size + 1, 4, none⟩ = some (.int .i64 i) from fun W hb => (C4.out W).mono fun e w' ⟨h1, h2⟩ => ⟨h1, mk w' (hb.trans (h2.mono hb.size))⟩)
    have R4 := Lib.hid (show ∀ W : World, Below w2.heap.size w2 W → Calls Tryd.prog 26 #[.agg #[.int .i64 m, .int .i64 d, .int .i64 t, .int .i64 h], .agg #[.int .u8 n, .int .i64 a, .int .i64 b, .int .i64 c, .int .i64 i]] W fun e w' => e = .returned (.int .i64 x3) ∧ Below w2.heap.size w2 w' ∧ w'.cell? ⟨w.heap.size, 0, none⟩ = some (.int .i64 m) ∧ w'.cell? ⟨w.heap.size, 1, none⟩ = some (.int .i64 d) ∧ w'.cell? ⟨w.heap.size, 2, none⟩ = some (.int .i64 t) ∧ w'.cell? ⟨w.heap.size, 3, none⟩ = some (.int .i64 h) ∧ w'.cell? ⟨w.heap.size + 1, 0, none⟩ = some (.int .u8 n) ∧ w'.cell? ⟨w.heap.size + 1, 1, none⟩ = some (.int .i64 a) ∧ w'.cell? ⟨w.heap.size + 1, 2, none⟩ = some (.int .i64 b) ∧ w'.cell? ⟨w.heap.size + 1, 3, none⟩ = some (.int .i64 c) ∧ w'.cell? ⟨w.heap.size + 1, 4, none⟩ = some (.int .i64 i) from fun W hb => (C5.out W).mono fun e w' ⟨h1, h2⟩ => ⟨h1, mk w' (hb.trans (h2.mono hb.size))⟩)
    have R5 := Lib.hid (show ∀ W : World, Below w2.heap.size w2 W → Calls Tryd.prog 27 #[.agg #[.int .i64 m, .int .i64 d, .int .i64 t, .int .i64 h], .agg #[.int .u8 n, .int .i64 a, .int .i64 b, .int .i64 c, .int .i64 i]] W fun e w' => e = .returned (.int .i64 x3) ∧ Below w2.heap.size w2 w' ∧ w'.cell? ⟨w.heap.size, 0, none⟩ = some (.int .i64 m) ∧ w'.cell? ⟨w.heap.size, 1, none⟩ = some (.int .i64 d) ∧ w'.cell? ⟨w.heap.size, 2, none⟩ = some (.int .i64 t) ∧ w'.cell? ⟨w.heap.size, 3, none⟩ = some (.int .i64 h) ∧ w'.cell? ⟨w.heap.size + 1, 0, none⟩ = some (.int .u8 n) ∧ w'.cell? ⟨w.heap.size + 1, 1, none⟩ = some (.int .i64 a) ∧ w'.cell? ⟨w.heap.size + 1, 2, none⟩ = some (.int .i64 b) ∧ w'.cell? ⟨w.heap.size + 1, 3, none⟩ = some (.int .i64 c) ∧ w'.cell? ⟨w.heap.size + 1, 4, none⟩ = some (.int .i64 i) from fun W hb => (C6.out W).mono fun e w' ⟨h1, h2⟩ => ⟨h1, mk w' (hb.trans (h2.mono hb.size))⟩)
    have hs0 := mk w2.drew (Below.refl _ _).drew
    clear mk
    first | go_region_held3 (fun w' => Below w2.heap.size w2 w' ∧ w'.cell? ⟨w.heap.size, 0, none⟩ = some (.int .i64 m) ∧ w'.cell? ⟨w.heap.size, 1, none⟩ = some (.int .i64 d) ∧ w'.cell? ⟨w.heap.size, 2, none⟩ = some (.int .i64 t) ∧ w'.cell? ⟨w.heap.size, 3, none⟩ = some (.int .i64 h) ∧ w'.cell? ⟨w.heap.size + 1, 0, none⟩ = some (.int .u8 n) ∧ w'.cell? ⟨w.heap.size + 1, 1, none⟩ = some (.int .i64 a) ∧ w'.cell? ⟨w.heap.size + 1, 2, none⟩ = some (.int .i64 b) ∧ w'.cell? ⟨w.heap.size + 1, 3, none⟩ = some (.int .i64 c) ∧ w'.cell? ⟨w.heap.size + 1, 4, none⟩ = some (.int .i64 i)) (first | exact hs0 | assumption | (simp [*]; done)) (first | (go_at_call 19; (with_reducible refine (R0.out _ ?_).mono ?_); (simp [*]); rintro e w' ⟨rfl, hS⟩) | (go_at_call 23; (with_reducible refine (R1.out _ ?_).mono ?_); (simp [*]); rintro e w' ⟨rfl, hS⟩) | (go_at_call 24; (with_reducible refine (R2.out _ ?_).mono ?_); (simp [*]); rintro e w' ⟨rfl, hS⟩) | (go_at_call 25; (with_reducible refine (R3.out _ ?_).mono ?_); (simp [*]); rintro e w' ⟨rfl, hS⟩) | (go_at_call 26; (with_reducible refine (R4.out _ ?_).mono ?_); (simp [*]); rintro e w' ⟨rfl, hS⟩) | (go_at_call 27; (with_reducible refine (R5.out _ ?_).mono ?_); (simp [*]); rintro e w' ⟨rfl, hS⟩)) | fail
    go_wp2_with fail
    go_ret
    refine ⟨by simp, ?_⟩
    first | exact bThen (W := w2) (by assumption) (by omega) HB2 | (go_split_ands; exact bThen (W := w2) (by assumption) (by omega) HB2)

end Go.Proofs.YtjfenhnlonbmmaaDoor
