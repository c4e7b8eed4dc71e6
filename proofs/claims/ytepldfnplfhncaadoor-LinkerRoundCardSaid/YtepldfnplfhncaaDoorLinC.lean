/- linker.checkInstr, by its contract. -/
import Derived.Test.YtepldfnplfhncaaDoorLinB
import Derived.LoopTactic
set_option linter.unusedVariables false
set_option linter.unusedSimpArgs false
namespace Go.Proofs.YtepldfnplfhncaaDoor
open Go.RowKit

theorem size_alloc1 (w : World) (o : Obj) : (w.alloc o).heap.size = w.heap.size + 1 := by simp
theorem between_any (n hi : Int) (w : World) : Calls Tryd.prog 21 #[.int .i64 n, .int .i64 hi] w fun e w' => e = .returned (.bool (decide (0 ≤ n ∧ n ≤ hi))) ∧ w = w' := by
  go_enter Tryd.func21, Tryd.ntmps21
  by_cases h : 0 ≤ n
  · go_wp2_with fail
    go_ret
    exact ⟨by simp [h], rfl⟩
  · go_wp2_with fail
    go_ret
    exact ⟨by simp; omega, rfl⟩
theorem good_any (s : ByteArray) (w : World) : Calls Tryd.prog 22 #[.string s] w fun e w' => e = .returned (.bool (decide (1 ≤ s.size ∧ s.size ≤ 12))) ∧ w = w' := by
  go_enter Tryd.func22, Tryd.ntmps22
  by_cases h : 1 ≤ s.size
  · have hI : (1 : Int) ≤ s.size := by omega
    by_cases h2 : s.size ≤ 12
    · have hJ : (s.size : Int) ≤ 12 := by omega
      go_wp2_with fail
      go_ret
      exact ⟨by simp [h, h2], rfl⟩
    · have hJ : ¬ (s.size : Int) ≤ 12 := by omega
      go_wp2_with fail
      go_ret
      exact ⟨by simp [h2], rfl⟩
  · have hI : ¬ (1 : Int) ≤ s.size := by omega
    go_wp2_with fail
    go_ret
    exact ⟨by simp [h], rfl⟩
theorem outside_any (n lo hi : Int) (w : World) : Calls Tryd.prog 24 #[.int .i64 n, .int .i64 lo, .int .i64 hi] w fun e w' => e = .returned (.bool (decide (n < lo ∨ hi < n))) ∧ w = w' := by
  go_enter Tryd.func24, Tryd.ntmps24
  by_cases h : n < lo
  · go_wp2_with fail
    go_ret
    exact ⟨by simp [h], rfl⟩
  · go_wp2_with fail
    go_ret
    exact ⟨by simp; omega, rfl⟩
theorem dI_range (x : Int) : -131072 ≤ dI x ∧ dI x ≤ 262143 := by
  unfold dI wI
  have h := Int.emod_nonneg x (show (262144 : Int) ≠ 0 by decide)
  have h2 := Int.emod_lt_of_pos x (show (0 : Int) < 262144 by decide)
  split
  · split <;> omega
  · omega
theorem isBr_iff (n : Nat) : isBr n = true ↔ (n = 22 ∨ n = 23 ∨ n = 24) := by
  unfold isBr
  simp only [Bool.or_eq_true, beq_iff_eq]
  omega

set_option maxHeartbeats 1600000 in
theorem checkInstr_any (cv ev : Value) (im : LIm) (nm : ByteArray) (st fin dat : Int) (a : Nat) (w : World) (hT : Tab w) (h : WdAt w cv im.code) (hw : ∀ k, k < im.code.length → 0 ≤ im.code.getD k 0 ∧ im.code.getD k 0 < 4294967296) (ha : a < im.code.length) (hl : im.code.length ≤ 4096) :
    Calls Tryd.prog 23 #[.agg #[cv, ev, .int .i64 im.sh, .int .i64 im.lk], .agg #[.string nm, .int .i64 st, .int .i64 fin, .int .i64 dat], .int .i64 a] w
      fun e w' => e = .returned (.int .i64 (wordE im.lk st fin a (im.code.getD a 0))) ∧ Below w.heap.size w w' := by
  obtain ⟨p, cap, rfl, hc⟩ := h
  obtain ⟨m, off, rfl, hm, hx⟩ := hc a ha
  obtain ⟨hx0, hx1⟩ := hw a ha
  clear hc hw
  have haI : (a : Int) < im.code.length := by omega
  have ha4 : a < 4096 := by omega
  generalize im.code.getD a 0 = x at hx hx0 hx1
  generalize hL : im.code.length = L at *
  clear hL
  go_enter Tryd.func23, Tryd.ntmps23
  go_wp2_with fail
  refine (decode_any x _ hx0 hx1 (hT.of_below (bAlloc (by simp) (bAlloc (Nat.le_refl _) (Below.refl _ _))))).mono ?_
  rintro e w1 ⟨rfl, hb1⟩
  have s1 : w.heap.size + 1 + 1 ≤ w1.heap.size := by have := hb1.size; simpa using this
  have c3 : w1.cell? ⟨w.heap.size, 3, none⟩ = some (.int .i64 im.lk) := by rw [hb1.cell (p := ⟨w.heap.size, 3, none⟩) (by simp; omega)]; simp [go_sem]
  have d1 : w1.cell? ⟨w.heap.size + 1, 1, none⟩ = some (.int .i64 st) := by rw [hb1.cell (p := ⟨w.heap.size + 1, 1, none⟩) (by simp)]; simp [go_sem]
  have d2 : w1.cell? ⟨w.heap.size + 1, 2, none⟩ = some (.int .i64 fin) := by rw [hb1.cell (p := ⟨w.heap.size + 1, 2, none⟩) (by simp)]; simp [go_sem]
  have HB1 : Below w.heap.size w w1 := below_then (bAlloc (by simp) (bAlloc (Nat.le_refl _) (Below.refl _ _))) hb1 (by simp; omega)
  have z0 : w.heap.size < w1.heap.size := by omega
  have z1 : w.heap.size + 1 < w1.heap.size := by omega
  clear hb1 hx hx0 hx1
  by_cases hd : dOk x
  · rw [decV_ok hd]
    have hWE : wordE im.lk st fin a x = if isBr (dN x) = true ∧ ((a : Int) + 1 + dI x < st ∨ fin ≤ (a : Int) + 1 + dI x) then 10 else if (dN x = 28 ∨ dN x = 29) ∧ im.lk ≤ dI x then 12 else 0 := by unfold wordE; rw [if_pos hd]
    have HWE := Lib.hid hWE
    obtain ⟨hi1, hi2⟩ := dI_range x
    clear hWE hd
    generalize dN x = n at HWE ⊢
    generalize dI x = i at HWE hi1 hi2 ⊢
    generalize dA x = aa
    generalize dB x = bb
    generalize dC x = cc
    have HB2 : Below w.heap.size w (w1.alloc (.cells #[.int .u8 n, .int .i64 aa, .int .i64 bb, .int .i64 cc, .int .i64 i] 64)) := bAlloc (by omega) HB1
    go_wp2_with fail
    cases hb : isBr n
    · refine (target_no n aa bb cc i a _ hb).mono ?_
      rintro e w2 ⟨rfl, hb2⟩
      have t0 : w2.cell? ⟨w1.heap.size, 0, none⟩ = some (.int .u8 n) := by rw [hb2.cell (p := ⟨w1.heap.size, 0, none⟩) (by simp)]; simp [go_sem]
      have t4 : w2.cell? ⟨w1.heap.size, 4, none⟩ = some (.int .i64 i) := by rw [hb2.cell (p := ⟨w1.heap.size, 4, none⟩) (by simp)]; simp [go_sem]
      have c3' : w2.cell? ⟨w.heap.size, 3, none⟩ = some (.int .i64 im.lk) := by rw [hb2.cell (p := ⟨w.heap.size, 3, none⟩) (by simp; omega)]; simp [go_sem, *]
      have s2 : w1.heap.size < w2.heap.size := by have := hb2.size; simp at this; omega
      have s3 : w.heap.size < w2.heap.size := by omega
      have HB3 := Lib.hid (below_then HB2 hb2 (by simp; omega))
      have hW : wordE im.lk st fin a x = if (n = 28 ∨ n = 29) ∧ im.lk ≤ i then 12 else 0 := by rw [HWE.out, if_neg (fun h => by rw [hb] at h; cases h.1)]
      have HW := Lib.hid hW
      clear hb2 HB2 c3 d1 d2 hW HWE
      by_cases hn : n = 28 ∨ n = 29
      · by_cases hl : im.lk ≤ i
        · have HR := Lib.hid (HW.out.trans (if_pos ⟨hn, hl⟩))
          rcases hn with rfl | rfl
          all_goals (
            go_wp2_with fail
            go_ret
            exact ⟨by rw [HR.out]; rfl, HB3.out⟩)
        · have HR := Lib.hid (HW.out.trans (if_neg (fun h => hl h.2)))
          rcases hn with rfl | rfl
          all_goals (
            go_wp2_with fail
            go_ret
            exact ⟨by rw [HR.out]; rfl, HB3.out⟩)
      · have h28 : ((n : Int) == 28) = false := by simp; omega
        have h29 : ((n : Int) == 29) = false := by simp; omega
        go_wp2_with fail
        go_ret
        exact ⟨by rw [HW.out, if_neg (fun h => hn h.1)]; rfl, HB3.out⟩
    · have hw64 : wrap64 ((a : Int) + 1 + i) = (a : Int) + 1 + i := by unfold wrap64; omega
      refine (target_ok n aa bb cc i a _ hb (by omega) (by omega)).mono ?_
      rintro e w2 ⟨rfl, hb2⟩
      rw [hw64]
      have hn3 := (isBr_iff n).1 hb
      have t0 : w2.cell? ⟨w1.heap.size, 0, none⟩ = some (.int .u8 n) := by rw [hb2.cell (p := ⟨w1.heap.size, 0, none⟩) (by simp)]; simp [go_sem]
      have d1' : w2.cell? ⟨w.heap.size + 1, 1, none⟩ = some (.int .i64 st) := by rw [hb2.cell (p := ⟨w.heap.size + 1, 1, none⟩) (by simp; omega)]; simp [go_sem, *]
      have d2' : w2.cell? ⟨w.heap.size + 1, 2, none⟩ = some (.int .i64 fin) := by rw [hb2.cell (p := ⟨w.heap.size + 1, 2, none⟩) (by simp; omega)]; simp [go_sem, *]
      have s2 : w1.heap.size < w2.heap.size := by have := hb2.size; simp at this; omega
      have s3 : w.heap.size + 1 < w2.heap.size := by omega
      have HB3 := Lib.hid (below_then HB2 hb2 (by simp; omega))
      have hW : wordE im.lk st fin a x = if (a : Int) + 1 + i < st ∨ fin ≤ (a : Int) + 1 + i then 10 else 0 := by
        rw [HWE.out]
        by_cases hc : (a : Int) + 1 + i < st ∨ fin ≤ (a : Int) + 1 + i
        · rw [if_pos ⟨hb, hc⟩, if_pos hc]
        · rw [if_neg (fun h => hc h.2), if_neg hc, if_neg (by omega)]
      have HW := Lib.hid hW
      have h28 : ((n : Int) == 28) = false := by simp; omega
      have h29 : ((n : Int) == 29) = false := by simp; omega
      clear hb2 HB2 c3 d1 d2 hW HWE hn3 hb
      generalize (a : Int) + 1 + i = t at HW ⊢
      by_cases h1 : t < st
      · have HR := Lib.hid (HW.out.trans (if_pos (.inl h1)))
        go_wp2_with fail
        go_ret
        exact ⟨by rw [HR.out]; rfl, HB3.out⟩
      · by_cases h2 : fin ≤ t
        · have HR := Lib.hid (HW.out.trans (if_pos (.inr h2)))
          go_wp2_with fail
          go_ret
          exact ⟨by rw [HR.out]; rfl, HB3.out⟩
        · have HR := Lib.hid (HW.out.trans (if_neg (fun h => by omega)))
          have h3 : st ≤ t := by omega
          have h4 : t < fin := by omega
          have h5 : decide (t < st) = false := by simp; omega
          have h6 : decide (fin ≤ t) = false := by simp; omega
          clear h1 h2
          go_wp2_with fail
          all_goals first | (exfalso; omega) | skip
          go_ret
          exact ⟨by rw [HR.out]; rfl, HB3.out⟩
  · rw [decV_no hd]
    have hWE : wordE im.lk st fin a x = 3 := by unfold wordE; rw [if_neg hd]
    go_wp2_with fail
    go_ret
    exact ⟨by rw [hWE]; rfl, bAlloc HB1.size HB1⟩
end Go.Proofs.YtepldfnplfhncaaDoor
