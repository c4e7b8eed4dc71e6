/- Law LinkerChecks, walked. -/
import Derived.Test.YtepldfnplfhncaaDoorLinE
import Derived.Test.YtepldfnplfhncaaDoorLinN
import Derived.Deep.RegionHeld3
set_option linter.unusedVariables false
set_option linter.unusedSimpArgs false
namespace Go.Proofs.YtepldfnplfhncaaDoor
open Go.RowKit

set_option maxHeartbeats 3200000 in
set_option maxRecDepth 20000 in
theorem checks_any (cv ev : Value) (im : LIm) (w : World) (hT : Tab w) (h : LImAt w cv ev im) :
    Calls Tryd.prog 3 #[.agg #[cv, ev, .int .i64 im.sh, .int .i64 im.lk]] w fun e w' => e = .returned (.bool true) ∧ Below w.heap.size w w' := by
  have hb0 : Below w.heap.size w (w.alloc (.cells #[cv, ev, .int .i64 im.sh, .int .i64 im.lk] 25)) := bAlloc (Nat.le_refl _) (Below.refl _ _)
  have hx0 : Box4 (w.alloc (.cells #[cv, ev, .int .i64 im.sh, .int .i64 im.lk] 25)) w.heap.size cv ev im.sh im.lk := ⟨by simp [go_sem], by simp [go_sem], by simp [go_sem], by simp [go_sem]⟩
  have HI0 := Lib.hid (h.below hb0 (Nat.le_refl _))
  have HT0 := Lib.hid (hT.of_below hb0)
  obtain ⟨cp, ccap, rfl, -⟩ := h.code
  obtain ⟨ep, ecap, rfl, -⟩ := h.ents
  have HB0 := Lib.hid hb0
  have HX0 := Lib.hid hx0
  clear hb0 h hT hx0
  go_enter Tryd.func3, Tryd.ntmps3
  go_wp2_with fail
  refine (awake22 _ HT0.out).mono ?_
  rintro e w1 ⟨rfl, hb1⟩
  have HI1 := Lib.hid (HI0.out.below hb1 (Nat.le_refl _))
  have HT1 := Lib.hid (HT0.out.of_below hb1)
  have hx1 := HX0.out.below hb1 (by simp)
  have HB1 := Lib.hid (HB0.out.trans (hb1.mono (by simp)))
  have hz : w.heap.size < w1.heap.size := by have := hb1.size; simp at this; omega
  have b0 := hx1.c
  have b1 := hx1.e
  have b2 := hx1.s
  have b3 := hx1.l
  clear HI0 HT0 HB0 HX0 hb1 hx1
  by_cases s1 : im.code.length ≤ 5000
  · have s1I : (im.code.length : Int) ≤ 5000 := by omega
    by_cases s2 : im.ents.length ≤ 20
    · have s2I : (im.ents.length : Int) ≤ 20 := by omega
      go_wp2_with fail
      have mk : ∀ W : World, Below w1.heap.size w1 W → Below w1.heap.size w1 W ∧ W.cell? ⟨w.heap.size, 0, none⟩ = some (.slice cp im.code.length ccap) ∧ W.cell? ⟨w.heap.size, 1, none⟩ = some (.slice ep im.ents.length ecap) ∧ W.cell? ⟨w.heap.size, 2, none⟩ = some (.int .i64 im.sh) ∧ W.cell? ⟨w.heap.size, 3, none⟩ = some (.int .i64 im.lk) := fun W hb => ⟨hb, (hb.cell (p := ⟨w.heap.size, 0, none⟩) hz).trans b0, (hb.cell (p := ⟨w.heap.size, 1, none⟩) hz).trans b1, (hb.cell (p := ⟨w.heap.size, 2, none⟩) hz).trans b2, (hb.cell (p := ⟨w.heap.size, 3, none⟩) hz).trans b3⟩
      have R0 := Lib.hid (show ∀ W : World, Below w1.heap.size w1 W → Calls Tryd.prog 9 #[.agg #[.slice cp im.code.length ccap, .slice ep im.ents.length ecap, .int .i64 im.sh, .int .i64 im.lk]] W fun e w' => e = .returned (.int .i64 (chk im)) ∧ Below w1.heap.size w1 w' ∧ w'.cell? ⟨w.heap.size, 0, none⟩ = some (.slice cp im.code.length ccap) ∧ w'.cell? ⟨w.heap.size, 1, none⟩ = some (.slice ep im.ents.length ecap) ∧ w'.cell? ⟨w.heap.size, 2, none⟩ = some (.int .i64 im.sh) ∧ w'.cell? ⟨w.heap.size, 3, none⟩ = some (.int .i64 im.lk) from fun W hb => (check_any _ _ im W (HT1.out.of_below hb) (HI1.out.below hb (Nat.le_refl _))).mono fun e w' ⟨h1, h2⟩ => ⟨h1, mk w' (hb.trans (h2.mono hb.size))⟩)
      have R1 := Lib.hid (show ∀ W : World, Below w1.heap.size w1 W → Calls Tryd.prog 10 #[.agg #[.slice cp im.code.length ccap, .slice ep im.ents.length ecap, .int .i64 im.sh, .int .i64 im.lk]] W fun e w' => e = .returned (.int .i64 (chk im)) ∧ Below w1.heap.size w1 w' ∧ w'.cell? ⟨w.heap.size, 0, none⟩ = some (.slice cp im.code.length ccap) ∧ w'.cell? ⟨w.heap.size, 1, none⟩ = some (.slice ep im.ents.length ecap) ∧ w'.cell? ⟨w.heap.size, 2, none⟩ = some (.int .i64 im.sh) ∧ w'.cell? ⟨w.heap.size, 3, none⟩ = some (.int .i64 im.lk) from fun W hb => (rcheck_any _ _ im W (HT1.out.of_below hb) (HI1.out.below hb (Nat.le_refl _))).mono fun e w' ⟨h1, h2⟩ => ⟨h1, mk w' (hb.trans (h2.mono hb.size))⟩)
      have hs0 := mk w1.drew (Below.refl _ _).drew
      generalize chk im = E at R0 R1
      clear mk
      first | go_region_held3 (fun w' => Below w1.heap.size w1 w' ∧ w'.cell? ⟨w.heap.size, 0, none⟩ = some (.slice cp im.code.length ccap) ∧ w'.cell? ⟨w.heap.size, 1, none⟩ = some (.slice ep im.ents.length ecap) ∧ w'.cell? ⟨w.heap.size, 2, none⟩ = some (.int .i64 im.sh) ∧ w'.cell? ⟨w.heap.size, 3, none⟩ = some (.int .i64 im.lk)) (first | exact hs0 | assumption | (simp [*]; done)) (first | (go_at_call 9; (with_reducible refine (R0.out _ ?_).mono ?_); (simp [*]); rintro e w' ⟨rfl, hS⟩) | (go_at_call 10; (with_reducible refine (R1.out _ ?_).mono ?_); (simp [*]); rintro e w' ⟨rfl, hS⟩)) | fail
      go_wp2_with fail
      go_ret
      refine ⟨by simp, ?_⟩
      first | exact bThen (W := w1) (by assumption) (by omega) HB1.out | (go_split_ands; exact bThen (W := w1) (by assumption) (by omega) HB1.out)
    · have s2I : (im.ents.length : Int) > 20 := by omega
      go_wp2_with fail
      all_goals first | (exfalso; omega) | skip
      go_ret
      exact ⟨rfl, HB1.out⟩
  · have s1I : (im.code.length : Int) > 5000 := by omega
    go_wp2_with fail
    all_goals first | (exfalso; omega) | skip
    go_ret
    exact ⟨rfl, HB1.out⟩
end Go.Proofs.YtepldfnplfhncaaDoor
