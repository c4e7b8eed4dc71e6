/- ref.Places, by its contract. -/
import Derived.Test.YtikfjehollnjeaaDoorLivR
import Derived.Deep.DeepCutAuto
import Derived.Deep.CutRange
set_option linter.unusedVariables false
set_option linter.unusedSimpArgs false
namespace Go.Proofs.YtikfjehollnjeaaDoor
open Go.RowKit

/-- A row of integers by a function. -/
def FRow (w : World) (g n : Nat) (f : Nat → Int) : Prop := w.rowIs g 3 n (fun i => .int .i64 (f i))
theorem FRow.put {w : World} {g n : Nat} {f : Nat → Int} (h : FRow w g n f) (a : Nat) (x : Int) : FRow (w.setCell ⟨g, a, none⟩ (.int .i64 x)) g n (upd f a x) :=
  (World.rowIs.set h a _).congr fun i hi => by
    by_cases e : i = a
    · subst e; rw [if_pos rfl, upd_same]
    · rw [if_neg e, upd_ne _ _ e]
theorem FRow.made (w : World) (n : Nat) : FRow (w.alloc (.cells (madeCells #[Value.int .i64 0] n) 3)) w.heap.size n (fun _ => 0) := World.rowIs_made w _ n _

/-- What Places lays in the first k registers and slots. -/
def regF (C : List Int) (k a : Nat) : Int := if a < k ∧ 0 ≤ C.getD a (-1) then 2 + C.getD a (-1) else 0
def sloF (k a : Nat) : Int := if a < k then -1 else 0
def sloS (S : List Nat) (A : List Int) : Nat → Nat → Int
  | 0 => fun _ => -1
  | i + 1 => upd (sloS S A i) (S.getD i 0) (A.getD i (-1))
theorem regF_zero (C : List Int) : regF C 0 = fun _ => 0 := by
  funext a; unfold regF; rw [if_neg (by omega)]
theorem regF_yes {C : List Int} {k : Nat} (h : 0 ≤ C.getD k (-1)) : regF C (k + 1) = upd (regF C k) k (2 + C.getD k (-1)) := by
  funext a
  by_cases e : a = k
  · subst e; rw [upd_same]; unfold regF; rw [if_pos ⟨by omega, h⟩]
  · rw [upd_ne _ _ e]
    unfold regF
    by_cases h2 : a < k ∧ 0 ≤ C.getD a (-1)
    · rw [if_pos h2, if_pos ⟨by omega, h2.2⟩]
    · rw [if_neg h2, if_neg (by omega)]
theorem regF_no {C : List Int} {k : Nat} (h : ¬ 0 ≤ C.getD k (-1)) : regF C (k + 1) = regF C k := by
  funext a
  unfold regF
  by_cases h2 : a < k ∧ 0 ≤ C.getD a (-1)
  · rw [if_pos h2, if_pos ⟨by omega, h2.2⟩]
  · rw [if_neg h2, if_neg]
    rintro ⟨h3, h4⟩
    by_cases e : a = k
    · subst e; exact h h4
    · exact h2 ⟨by omega, h4⟩
theorem sloF_zero : sloF 0 = fun _ => 0 := by
  funext a; unfold sloF; rw [if_neg (by omega)]
theorem sloF_next (k : Nat) : sloF (k + 1) = upd (sloF k) k (-1) := by
  funext a
  by_cases e : a = k
  · subst e; rw [upd_same]; unfold sloF; rw [if_pos (by omega)]
  · rw [upd_ne _ _ e]
    unfold sloF
    by_cases h : a < k
    · rw [if_pos h, if_pos (by omega)]
    · rw [if_neg h, if_neg (by omega)]
theorem sloS_at (S : List Nat) (A : List Int) (hn : S.Nodup) : ∀ i a, i ≤ S.length → sloS S A i a = if a ∈ S.take i then A.getD (S.idxOf a) (-1) else -1
  | 0, a, _ => by rw [if_neg (by simp)]; rfl
  | i + 1, a, hi => by
    have hil : i < S.length := by omega
    have e0 : S.getD i 0 = S[i] := by rw [List.getD_eq_getElem?_getD, List.getElem?_eq_getElem hil]; rfl
    unfold sloS
    rw [List.take_succ_eq_append_getElem hil, e0]
    by_cases e : a = S[i]
    · subst e
      rw [upd_same, if_pos (List.mem_append_right _ (List.mem_singleton.2 rfl)), List.Nodup.idxOf_getElem hn]
    · rw [upd_ne _ _ e, sloS_at S A hn i a (by omega)]
      by_cases h : a ∈ S.take i
      · rw [if_pos h, if_pos (List.mem_append_left _ h)]
      · rw [if_neg h, if_neg]
        intro h2
        rcases List.mem_append.1 h2 with h3 | h3
        · exact h h3
        · exact e (List.mem_singleton.1 h3)
/-- The reference's places are the allocator's. -/
theorem places_same (C : List Int) (A : List Int) (R a : Nat) (ha : a < R) : placesG C (spillN C R) A R a = (regF C R a, sloS (spillN C R) A (spillN C R).length a) := by
  unfold placesG
  rw [pl2_at _ _ _ (spillN_nodup C R) _ _ (Nat.le_refl _), sloS_at _ _ (spillN_nodup C R) _ _ (Nat.le_refl _), List.take_length, pl1_at]
  by_cases h : C.getD a (-1) < 0
  · have hm : a ∈ spillN C R := mem_spillN.2 ⟨ha, h⟩
    rw [if_pos hm, if_pos hm]
    unfold regF
    rw [if_neg (by omega)]
  · have hm : a ∉ spillN C R := fun e => h (mem_spillN.1 e).2
    rw [if_neg hm, if_neg hm, if_pos ⟨ha, by omega⟩]
    unfold regF
    rw [if_pos ⟨ha, by omega⟩]

/-- What Places holds: registers (color 1), slots (color 2), the nodes without a color (color 3). -/
structure PlsAt (W1 : World) (R g1 g2 : Nat) (f1 f2 : Nat → Int) (S : List Nat) (col : Nat → Nat) (w : World) (sv : Value) : Prop where
  r1 : FRow w g1 R f1
  r2 : FRow w g2 R f2
  sp : IntsAt col 3 w sv (S.map Int.ofNat)
  c1 : col g1 = 1
  c2 : col g2 = 2
  low : ∀ k, k < W1.heap.size → col k = 0
  bel : Below W1.heap.size W1 w
section
variable {W1 w w' : World} {R g1 g2 : Nat} {f1 f2 : Nat → Int} {S : List Nat} {col : Nat → Nat} {sv : Value}
theorem PlsAt.big (h : PlsAt W1 R g1 g2 f1 f2 S col w sv) : W1.heap.size ≤ w.heap.size := h.bel.size
theorem PlsAt.l1 (h : PlsAt W1 R g1 g2 f1 f2 S col w sv) : g1 < w.heap.size := World.rowIs.lt h.r1
theorem PlsAt.l2 (h : PlsAt W1 R g1 g2 f1 f2 S col w sv) : g2 < w.heap.size := World.rowIs.lt h.r2
theorem PlsAt.h1 (h : PlsAt W1 R g1 g2 f1 f2 S col w sv) : W1.heap.size ≤ g1 := Nat.le_of_not_lt fun e => by have := h.low g1 e; rw [h.c1] at this; cases this
theorem PlsAt.h2 (h : PlsAt W1 R g1 g2 f1 f2 S col w sv) : W1.heap.size ≤ g2 := Nat.le_of_not_lt fun e => by have := h.low g2 e; rw [h.c2] at this; cases this
theorem PlsAt.tb (h : PlsAt W1 R g1 g2 f1 f2 S col w sv) {c : Nat} (hc : c ≠ 0) (ht : Touch col c w w') : Below W1.heap.size W1 w' := h.bel.trans (ht.below h.big fun k hk e => hc (by rw [← e]; exact h.low k hk))
theorem PlsAt.put1 (h : PlsAt W1 R g1 g2 f1 f2 S col w sv) (a : Nat) (x : Int) : PlsAt W1 R g1 g2 (upd f1 a x) f2 S (paint col w.heap.size 1) (w.setCell ⟨g1, a, none⟩ (.int .i64 x)) sv ∧ Touch col 1 w (w.setCell ⟨g1, a, none⟩ (.int .i64 x)) := by
  have ht := Touch.setCell (col := col) (c := 1) (w := w) (a := ⟨g1, a, none⟩) h.c1 (.int .i64 x)
  refine ⟨⟨h.r1.put a x, World.rowIs.of_block h.r2 (ht.block g2 h.l2 (by rw [h.c2]; decide)), h.sp.other ht (by decide), by rw [paint_lt h.l1]; exact h.c1, by rw [paint_lt h.l2]; exact h.c2, low_paint h.low h.big, h.tb (by decide) ht⟩, ht⟩
theorem PlsAt.put2 (h : PlsAt W1 R g1 g2 f1 f2 S col w sv) (a : Nat) (x : Int) : PlsAt W1 R g1 g2 f1 (upd f2 a x) S (paint col w.heap.size 2) (w.setCell ⟨g2, a, none⟩ (.int .i64 x)) sv ∧ Touch col 2 w (w.setCell ⟨g2, a, none⟩ (.int .i64 x)) := by
  have ht := Touch.setCell (col := col) (c := 2) (w := w) (a := ⟨g2, a, none⟩) h.c2 (.int .i64 x)
  refine ⟨⟨World.rowIs.of_block h.r1 (ht.block g1 h.l1 (by rw [h.c1]; decide)), h.r2.put a x, h.sp.other ht (by decide), by rw [paint_lt h.l1]; exact h.c1, by rw [paint_lt h.l2]; exact h.c2, low_paint h.low h.big, h.tb (by decide) ht⟩, ht⟩
theorem PlsAt.set3 (h : PlsAt W1 R g1 g2 f1 f2 S col w sv) {S' : List Nat} {sv' : Value} (hs : IntsAt (paint col w.heap.size 3) 3 w' sv' (S'.map Int.ofNat)) (ht : Touch col 3 w w') : PlsAt W1 R g1 g2 f1 f2 S' (paint col w.heap.size 3) w' sv' :=
  ⟨World.rowIs.of_block h.r1 (ht.block g1 h.l1 (by rw [h.c1]; decide)), World.rowIs.of_block h.r2 (ht.block g2 h.l2 (by rw [h.c2]; decide)), hs, by rw [paint_lt h.l1]; exact h.c1, by rw [paint_lt h.l2]; exact h.c2, low_paint h.low h.big, h.tb (by decide) ht⟩
theorem PlsAt.paint0 (h : PlsAt W1 R g1 g2 f1 f2 S col w sv) (hb : Below w.heap.size w w') : PlsAt W1 R g1 g2 f1 f2 S (paint col w.heap.size 0) w' sv :=
  ⟨World.rowIs.of_block h.r1 (hb.block g1 h.l1), World.rowIs.of_block h.r2 (hb.block g2 h.l2), ⟨(h.sp.below hb).1, fun k hk => by rw [paint_lt (own0_lt h.sp.1 hk)]; exact h.sp.2 k hk⟩, by rw [paint_lt h.l1]; exact h.c1, by rw [paint_lt h.l2]; exact h.c2, low_paint h.low h.big, h.bel.trans (hb.mono h.big)⟩
theorem PlsAt.empty (h : PlsAt W1 R g1 g2 f1 f2 [] col w sv) : PlsAt W1 R g1 g2 f1 f2 [] (paint col w.heap.size 3) (w.alloc (.cells #[] 3)) (.slice (some ⟨w.heap.size, 0, none⟩) 0 0) := by
  have hb : Below w.heap.size w (w.alloc (.cells #[] 3)) := bAlloc (Nat.le_refl _) (Below.refl _ _)
  refine h.set3 (S' := []) ⟨own_empty w 0 w.heap.size rfl (Nat.zero_le _), fun k hk => ?_⟩ (Touch.of_below hb)
  cases hk
  exact paint_ge (Nat.le_refl _)
end
/-- As they are made, in either order. -/
theorem PlsAt.made (W1 : World) (R : Nat) : ∃ col, PlsAt W1 R W1.heap.size (W1.heap.size + 1) (fun _ => 0) (fun _ => 0) [] col ((W1.alloc (.cells (madeCells #[Value.int .i64 0] R) 3)).alloc (.cells (madeCells #[Value.int .i64 0] R) 3)) (.slice none 0 0) := by
  have h1 := FRow.made W1 R
  have h2 := FRow.made (W1.alloc (.cells (madeCells #[Value.int .i64 0] R) 3)) R
  rw [show (W1.alloc (.cells (madeCells #[Value.int .i64 0] R) 3)).heap.size = W1.heap.size + 1 by simp] at h2
  refine ⟨fun k => if k < W1.heap.size then 0 else if k = W1.heap.size then 1 else 2, World.rowIs.of_block h1 (Below.heap_alloc _ _ _ (by simp)), h2, IntsAt.nil _ _ _, ?_, ?_, fun k hk => if_pos hk, bAlloc (by simp) (bAlloc (Nat.le_refl _) (Below.refl _ _))⟩
  · show (if W1.heap.size < W1.heap.size then 0 else if W1.heap.size = W1.heap.size then 1 else 2) = 1
    rw [if_neg (by omega), if_pos rfl]
  · show (if W1.heap.size + 1 < W1.heap.size then 0 else if W1.heap.size + 1 = W1.heap.size then 1 else 2) = 2
    rw [if_neg (by omega), if_neg (by omega)]
theorem PlsAt.swap (W1 : World) (R : Nat) : ∃ col, PlsAt W1 R (W1.heap.size + 1) W1.heap.size (fun _ => 0) (fun _ => 0) [] col ((W1.alloc (.cells (madeCells #[Value.int .i64 0] R) 3)).alloc (.cells (madeCells #[Value.int .i64 0] R) 3)) (.slice none 0 0) := by
  have h1 := FRow.made W1 R
  have h2 := FRow.made (W1.alloc (.cells (madeCells #[Value.int .i64 0] R) 3)) R
  rw [show (W1.alloc (.cells (madeCells #[Value.int .i64 0] R) 3)).heap.size = W1.heap.size + 1 by simp] at h2
  refine ⟨fun k => if k < W1.heap.size then 0 else if k = W1.heap.size then 2 else 1, h2, World.rowIs.of_block h1 (Below.heap_alloc _ _ _ (by simp)), IntsAt.nil _ _ _, ?_, ?_, fun k hk => if_pos hk, bAlloc (by simp) (bAlloc (Nat.le_refl _) (Below.refl _ _))⟩
  · show (if W1.heap.size + 1 < W1.heap.size then 0 else if W1.heap.size + 1 = W1.heap.size then 2 else 1) = 1
    rw [if_neg (by omega), if_neg (by omega)]
  · show (if W1.heap.size < W1.heap.size then 0 else if W1.heap.size = W1.heap.size then 2 else 1) = 2
    rw [if_neg (by omega), if_pos rfl]

/-- Two rows made in either order. -/
def Made2 (W1 : World) (R : Nat) (v1 v2 : Value) (wx : World) : Prop := ∃ g1 g2 col, v1 = .slice (some ⟨g1, 0, none⟩) R R ∧ v2 = .slice (some ⟨g2, 0, none⟩) R R ∧ PlsAt W1 R g1 g2 (fun _ => 0) (fun _ => 0) [] col wx (.slice none 0 0)

def PlacesPost (R : Nat) (E : List (List Int)) (w : World) (e : Ending) (w' : World) : Prop :=
  ∃ (C : List Int) (S : List Nat) (A : List Int) (g1 g2 : Nat), C = colorG R (adjG E) 8 ∧ S = spillN C R ∧ A = colorG S.length (adjG (amongE E S)) S.length ∧ e = .returned (.tuple #[.slice (some ⟨g1, 0, none⟩) R R, .slice (some ⟨g2, 0, none⟩) R R, .int .i64 (slN A S.length)]) ∧ FRow w' g1 R (regF C R) ∧ FRow w' g2 R (sloS S A S.length) ∧ Below w.heap.size w w'

set_option maxHeartbeats 6400000 in
set_option maxRecDepth 40000 in
theorem places_any (ev : Value) (E : List (List Int)) (w : World) (hE : RdR w ev E) (hm : RowsMax E 64) (hn : E.length ≤ 64) :
    Calls Tryd.prog 11 #[ev, .int .i64 2, .int .i64 8] w (PlacesPost E.length E w) := by
  obtain ⟨ep, ecap, rfl⟩ := hE.shape
  have hmkI := run_make_row' (P := Tryd.prog) 38 3 (.int .i64 0) 8 Tryd.underlying38 infoI rfl .i64 .i64 E.length (by omega) (by omega)
  have HCO := Lib.hid (refcolor_pos _ E 8 w hE (hm.mono (by omega)) (by omega) (by omega) (by omega))
  have HE := Lib.hid hE
  have HM := Lib.hid hm
  obtain ⟨R, hR⟩ : ∃ R, R = E.length := ⟨_, rfl⟩
  rw [← hR] at HCO HE hmkI hn ⊢
  have HR := Lib.hid hR
  clear hE hm hR
  go_enter Tryd.func11, Tryd.ntmps11
  go_wp2_with fail
  refine HCO.out.mono ?_
  rintro e w1 ⟨V, rfl, hV, hb1⟩
  have hCl := colorG_len R (adjG E) 8
  obtain ⟨C, hC⟩ : ∃ C, C = colorG R (adjG E) 8 := ⟨_, rfl⟩
  rw [← hC] at hV hCl
  have hrd : RdI w1 V C := RdI.of_own (base := w.heap.size) (by rw [hCl]; exact hV)
  obtain ⟨vp, vc, rfl⟩ := hrd.shape
  have HRD := Lib.hid hrd
  have HC := Lib.hid hC
  have HCR : Hid (∀ k, k < R → -1 ≤ C.getD k (-1) ∧ C.getD k (-1) ≤ 8) := (show ∀ k, k < R → _ from fun k hk => by
    obtain ⟨h1, h2⟩ := (colorG_ok (n := R) (A := adjG E) (k := 8) (adj_sym E) (adj_irr E)).rng k hk
    rw [← hC] at h1 h2
    omega)
  have HCL := Lib.hid hCl
  have HB1 := Lib.hid hb1
  have HE1 := Lib.hid (HE.out.below hb1 (Nat.le_refl _))
  clear hrd hV HCO hb1 hC hCl
  rw [HCL.out]
  go_upto_region 2 with fail
  go_cut [10, 11] (fun s10 s11 wx => Made2 w1 R s10 s11 wx)
  case first =>
    go_region
    all_goals (go_wp2_with fail)
    all_goals go_meet
    · obtain ⟨c, h⟩ := PlsAt.made w1 R
      exact ⟨_, _, _, rfl, rfl, h.paint0 (Below.refl _ _).drew⟩
    · obtain ⟨c, h⟩ := PlsAt.swap w1 R
      exact ⟨_, _, _, rfl, rfl, h.paint0 (Below.refl _ _).drew⟩
  case rest =>
    obtain ⟨g1, g2, c2, rfl, rfl, hP2⟩ := hcut
    have HP3 := Lib.hid hP2.empty
    have HZ := Lib.hid (show (wc.alloc (.cells #[] 3)).heap.size = wc.heap.size + 1 by simp)
    clear hP2
    go_wp2_with fail
    generalize wc.alloc (.cells #[] 3) = w3 at HP3 HZ ⊢
    generalize wc.heap.size = b3 at HP3 HZ ⊢
    clear HZ
    go_loopw [12, 13] (fun s12 s13 wx => ∃ (k : Nat) (q : Option Addr) (cq : Nat) (cx : Nat → Nat), s12 = .slice q (spillN C k).length cq ∧ s13 = .int .i64 k ∧ k ≤ R ∧ Hid (PlsAt w1 R g1 g2 (regF C k) (sloF k) (spillN C k) cx wx (.slice q (spillN C k).length cq))) (fun _ s13 _ => R - (intOf s13).toNat)
    case atStart => exact ⟨0, _, _, _, rfl, rfl, Nat.zero_le _, by rw [regF_zero, sloF_zero]; exact HP3⟩
    case round =>
      obtain ⟨k, q, cq, c5, rfl, rfl, hk, HA⟩ := hrel
      obtain ⟨w5, rfl⟩ : ∃ W : World, W = wr := ⟨_, rfl⟩
      by_cases hlt : k < R
      · have hkI : (k : Int) < R := by omega
        obtain ⟨mv, ov, cv, e1, hmv, hcv⟩ := rdI_cell HRD.out k (by rw [HCL.out]; exact hlt)
        rw [HCL.out] at e1
        injection e1 with e1 e2 e3
        subst e1 e3
        have hg : C.getD k 0 = C.getD k (-1) := by simp only [List.getD_eq_getElem?_getD, List.getElem?_eq_getElem (show k < C.length by rw [HCL.out]; exact hlt)]; rfl
        rw [hg] at hcv
        have hry := regF_yes (C := C) (k := k)
        have hrn := regF_no (C := C) (k := k)
        have hsn := spillN_next C k
        have hsl := spillN_len C k
        obtain ⟨r1, r2⟩ : -1 ≤ C.getD k (-1) ∧ C.getD k (-1) ≤ 8 := HCR.out k hlt
        generalize C.getD k (-1) = x at hcv hry hrn hsn r1 r2
        have HRY := Lib.hid hry
        have HRN := Lib.hid hrn
        have HSN := Lib.hid hsn
        clear hg hry hrn hsn e2
        obtain ⟨hA6, hT6⟩ := HA.out.put2 k (-1)
        rw [← sloF_next] at hA6
        have f2 := World.rowIs.cell HA.out.r2 hlt
        have z2 := World.rowIs.frozen HA.out.r2 k
        have l2 := HA.out.l2
        have HA6 := Lib.hid hA6
        have HB6 := Lib.hid (hA6.bel)
        clear hA6 hT6
        go_upto_region 8 with fail
        generalize w5.setCell ⟨g2, k, none⟩ (.int .i64 (-1)) = w6 at HA6 HB6 ⊢
        clear f2 z2 l2 HA
        have hcv := (HB6.out.cell (p := ⟨mv, ov + k, none⟩) hmv).trans hcv
        have hmv6 : mv < w6.heap.size := Nat.lt_of_lt_of_le hmv HB6.out.size
        by_cases hx : 0 ≤ x
        · have f1 := World.rowIs.cell HA6.out.r1 hlt
          have z1 := World.rowIs.frozen HA6.out.r1 k
          have l1 := HA6.out.l1
          obtain ⟨hA7, hT7⟩ := HA6.out.put1 k (2 + x)
          rw [← HRY.out hx] at hA7
          have hsx := HSN.out
          rw [if_neg (by omega)] at hsx
          have HSX := Lib.hid hsx
          have HA7 := Lib.hid hA7
          clear hA7 hT7 hsx HA6
          go_wp2_with fail
          go_roundw
          case rel => exact ⟨k + 1, q, cq, _, by rw [HSX.out], by go_num, by omega, by rw [HSX.out]; exact HA7⟩
          case measure => simp [intOf]; omega
        · have hsx := HSN.out
          rw [if_pos (by omega)] at hsx
          have HSX := Lib.hid hsx
          have HRX := Lib.hid (HRN.out hx)
          have hbb : Below w6.heap.size w6 (w6.alloc (.cells #[.int .i64 k] 3)) := bAlloc (Nat.le_refl _) (Below.refl _ _)
          have ho := own0_block HA6.out.sp.1 (w' := w6.alloc (.cells #[.int .i64 k] 3)) fun b hb => hbb.block b (own0_lt HA6.out.sp.1 hb)
          rw [List.length_map] at ho
          have HO := Lib.hid ho
          have HBb := Lib.hid hbb
          clear hsx hbb ho
          go_wp2_with (first | (at_builtin; refine wpList_append_cell rfl _ _ 38 3 (.int .i64 0) 8 rfl Tryd.underlying38 infoI rfl (by decide) 0 (.slice q (spillN C k).length cq) (spillN C k).length _ rfl HO.out w6.heap.size 1 (.int .i64 k) rfl (by simp [go_sem]) rfl (by omega) (Nat.zero_le _) ?_))
          intro p7 c7 w7 hO7 hgr7 hd7
          obtain ⟨hP7, hT7⟩ := HA6.out.sp.push (v' := .slice p7 ((spillN C k).length + 1) c7) (y := (k : Int)) HBb.out hgr7 (by rw [List.length_map, List.map_map]; exact hO7) (hd7.imp id fun h b e => by have := h b e; simp; omega)
          have hA7 := HA6.out.set3 (S' := spillN C k ++ [k]) (by rw [List.map_append]; exact hP7) hT7
          have HA7 := Lib.hid hA7
          clear hO7 hgr7 hd7 hP7 hT7 hA7 HO HBb HA6
          go_wp2_with fail
          go_roundw
          case rel => exact ⟨k + 1, p7, c7, _, by rw [HSX.out, List.length_append]; rfl, by go_num, by omega, by rw [HSX.out, HRX.out, List.length_append]; exact HA7⟩
          case measure => simp [intOf]; omega
      · have hkR : R = k := by omega
        subst hkR
        have hSl := spillN_len C R
        have hSn := spillN_nodup C R
        have hSr : ∀ i, i < (spillN C R).length → (spillN C R).getD i 0 < R := fun i hi => (mem_spillN (C := C)).1 (by rw [List.getD_eq_getElem?_getD, List.getElem?_eq_getElem hi]; exact List.getElem_mem hi) |>.1
        obtain ⟨S, hS⟩ : ∃ S, S = spillN C R := ⟨_, rfl⟩
        rw [← hS] at HA hSl hSn hSr ⊢
        have HS := Lib.hid hS
        have HSD := Lib.hid hSn
        have HSR := Lib.hid hSr
        have HPA := Lib.hid (part_any _ _ E S w5 (HE1.out.below HA.out.bel (Nat.le_refl _)) (HM.out.mono (by omega)) HA.out.sp.rd (by rw [← HR.out]; exact hSr) (by omega))
        clear hS hSn hSr hlt
        go_wp2_with fail
        refine HPA.out.mono ?_
        rintro e w6 ⟨u, rfl, hu, hb6⟩
        have HC6 := Lib.hid (refcolor_pos u (partE E S) S.length w6 hu ((partE_max E S).mono (by omega)) (by rw [partE_len]; omega) (by omega) (by omega))
        have HA6 := Lib.hid (HA.out.paint0 hb6)
        clear hu hb6 HPA HA
        go_wp2_with fail
        refine HC6.out.mono ?_
        rintro e w7 ⟨V, rfl, hV, hb7⟩
        rw [again_eq E (partE E S) S HSD.out (partE_len E S) (fun i k hi hk => partE_adj E S i k hi hk) S.length, partE_len] at hV
        have hAl := colorG_len S.length (adjG (amongE E S)) S.length
        obtain ⟨A, hAq⟩ : ∃ A, A = colorG S.length (adjG (amongE E S)) S.length := ⟨_, rfl⟩
        rw [← hAq] at hV hAl
        have hrd : RdI w7 V A := RdI.of_own (base := w6.heap.size) (by rw [hAl]; exact hV)
        obtain ⟨tp, tc, rfl⟩ := hrd.shape
        obtain ⟨c7, hA7, hL7⟩ : ∃ c, PlsAt w1 R g1 g2 (regF C R) (sloF R) S c w7 (.slice q S.length cq) ∧ ListAt c w7 (.slice tp A.length tc) A := ⟨_, HA6.out.paint0 hb7, ListAt.fresh hrd fun k hk => (by
          rcases hV.2 with ⟨e, _⟩ | ⟨g, _, _, e, h, _⟩
          · rw [e] at hk; cases hk
          · rw [e] at hk; cases hk; exact h)⟩
        rw [hAl] at hL7
        have hA7 : PlsAt w1 R g1 g2 (regF C R) (sloS S A 0) S c7 w7 (.slice q S.length cq) := ⟨hA7.r1, hA7.r2.congr fun i hi => by unfold sloF sloS; rw [if_pos hi], hA7.sp, hA7.c1, hA7.c2, hA7.low, hA7.bel⟩
        have HA7 := Lib.hid hA7
        have HL7 := Lib.hid hL7
        have HAQ := Lib.hid hAq
        have HAL := Lib.hid hAl
        have HAR : Hid (∀ k, k < S.length → -1 ≤ A.getD k (-1) ∧ A.getD k (-1) ≤ 64) := (show ∀ k, k < S.length → _ from fun k hk => by
          obtain ⟨h1, h2⟩ := (colorG_ok (n := S.length) (A := adjG (amongE E S)) (k := S.length) (adj_sym _) (adj_irr _)).rng k hk
          rw [← hAq] at h1 h2
          omega)
        clear hrd hV hA7 hL7 HA6 HC6 hb7 hAq hAl
        rw [HAL.out]
        go_wp2_with fail
        go_loopw [15, 16] (fun s15 s16 wx => ∃ (i : Nat) (cx : Nat → Nat), s15 = .int .i64 (slN A i) ∧ s16 = .int .i64 i ∧ i ≤ S.length ∧ Hid (PlsAt w1 R g1 g2 (regF C R) (sloS S A i) S cx wx (.slice q S.length cq)) ∧ Hid (ListAt cx wx (.slice tp S.length tc) A)) (fun _ s16 _ => S.length - (intOf s16).toNat)
        case atStart => exact ⟨0, c7, rfl, rfl, Nat.zero_le _, HA7, HL7⟩
        case round =>
          obtain ⟨i, c8, rfl, rfl, hi, HA, HL⟩ := hrel
          obtain ⟨w8, rfl⟩ : ∃ W : World, W = wr := ⟨_, rfl⟩
          by_cases hlt : i < S.length
          · have hiI : (i : Int) < S.length := by omega
            obtain ⟨ms, os, cs, e1, hms, hcs⟩ := rdI_cell HA.out.sp.rd i (by rw [List.length_map]; exact hlt)
            rw [List.length_map] at e1
            injection e1 with e1 e2 e3
            subst e1 e3
            clear e2
            have hgi : (S.map Int.ofNat).getD i 0 = (S.getD i 0 : Nat) := by
              rw [List.getD_eq_getElem?_getD, List.getD_eq_getElem?_getD, List.getElem?_map, List.getElem?_eq_getElem hlt]; rfl
            rw [hgi] at hcs
            have hrR := HSR.out i hlt
            obtain ⟨mu, ou, cu, e1, hmu, hcu⟩ := rdI_cell HL.out.1 i (by rw [HAL.out]; exact hlt)
            rw [HAL.out] at e1
            injection e1 with e1 e2 e3
            subst e1 e3
            clear e2
            have hg : A.getD i 0 = A.getD i (-1) := by simp only [List.getD_eq_getElem?_getD, List.getElem?_eq_getElem (show i < A.length by rw [HAL.out]; exact hlt)]; rfl
            rw [hg] at hcu
            obtain ⟨r1, r2⟩ := HAR.out i hlt
            have hp2 : sloS S A (i + 1) = upd (sloS S A i) (S.getD i 0) (A.getD i (-1)) := rfl
            have hs2 : slN A (i + 1) = max (slN A i) (A.getD i (-1) + 1) := rfl
            generalize A.getD i (-1) = x at hcu r1 r2 hp2 hs2
            generalize S.getD i 0 = r at hcs hrR hp2
            generalize slN A i = sl at hs2 ⊢
            have HP2 := Lib.hid hp2
            have HS2 := Lib.hid hs2
            have f2 := World.rowIs.cell HA.out.r2 hrR
            have z2 := World.rowIs.frozen HA.out.r2 r
            have l2 := HA.out.l2
            have hrI : (r : Int) < R := by omega
            obtain ⟨hA8, hT8⟩ := HA.out.put2 r x
            rw [← HP2.out] at hA8
            have hL8 := HL.out.other hT8 (by decide)
            have hne : mu ≠ g2 := fun e => by
              have h1 := HL.out.2 (by intro e; rw [e] at HAL; have := HAL.out; simp at this; omega) mu rfl
              rw [e, HA.out.c2] at h1; cases h1
            have hcw : ((w8.setCell ⟨g2, r, none⟩ (.int .i64 x)).drew).cell? ⟨mu, ou + i, none⟩ = some (.int .i64 x) := (World.cell?_setCell_other _ _ _ _ (by intro e; injection e with e _; exact hne e.symm)).trans hcu
            have hmw : mu < ((w8.setCell ⟨g2, r, none⟩ (.int .i64 x)).drew).heap.size := by simpa [World.setCell] using hmu
            have hA9 := hA8.paint0 (w' := (w8.setCell ⟨g2, r, none⟩ (.int .i64 x)).drew) (Below.refl _ _).drew
            have hL9 := (hL8.below (w' := (w8.setCell ⟨g2, r, none⟩ (.int .i64 x)).drew) (Below.refl _ _).drew).clean (n := (w8.setCell ⟨g2, r, none⟩ (.int .i64 x)).heap.size)
            have HA9 := Lib.hid hA9
            have HL9 := Lib.hid hL9
            clear hA8 hT8 hL8 hA9 hL9 hp2 hs2 hg hgi HA HL HA7 HL7
            go_wp2_with fail
            go_still_tail 10, (by kernel_rfl)
            go_upto_region 17 with fail
            generalize (w8.setCell ⟨g2, r, none⟩ (.int .i64 x)).drew = w9 at HA9 HL9 hcw hmw ⊢
            clear hcs hcu f2 z2 l2
            by_cases hx : x + 1 > sl
            · have HM : Hid (max sl (x + 1) = x + 1) := (show _ = _ by omega)
              go_wp2_with fail
              go_roundw
              case rel => exact ⟨i + 1, _, by rw [HS2.out, HM.out], by go_num, by omega, HA9, HL9⟩
              case measure => simp [intOf]; omega
            · have HM : Hid (max sl (x + 1) = sl) := (show _ = _ by omega)
              go_wp2_with fail
              go_roundw
              case rel => exact ⟨i + 1, _, by rw [HS2.out, HM.out], by go_num, by omega, HA9, HL9⟩
              case measure => simp [intOf]; omega
          · have hiS : i = S.length := by omega
            subst hiS
            go_wp2_with fail
            go_ret3
            exact ⟨C, S, A, g1, g2, HC.out, HS.out, HAQ.out, rfl, HA.out.r1, HA.out.r2, HB1.out.trans (HA.out.bel.mono HB1.out.size)⟩
end Go.Proofs.YtikfjehollnjeaaDoor
