/- The law's same: two equal allocations. -/
import Derived.Test.YtikfjehollnjeaaDoorLivR
set_option linter.unusedVariables false
set_option linter.unusedSimpArgs false
namespace Go.Proofs.YtikfjehollnjeaaDoor
open Go.RowKit

/-- A slice of places that can be read. -/
def PlRd (w : World) (v : Value) (n : Nat) (P : Nat → Int × Int) : Prop :=
  ∃ p cap, v = .slice p n cap ∧ ∀ k, k < n → ∃ m off, p = some ⟨m, off, none⟩ ∧ m < w.heap.size ∧ w.cell? ⟨m, off + k * 2, none⟩ = some (.int .i64 (P k).1) ∧ w.cell? ⟨m, off + k * 2 + 1, none⟩ = some (.int .i64 (P k).2)
theorem PlRd.below {B : Nat} {w w' : World} {v : Value} {n : Nat} {P : Nat → Int × Int} (h : PlRd w v n P) (hb : Below B w w') (hB : w.heap.size ≤ B) : PlRd w' v n P := by
  obtain ⟨p, cap, hv, hc⟩ := h
  refine ⟨p, cap, hv, fun k hk => ?_⟩
  obtain ⟨m, off, hp, hm, h1, h2⟩ := hc k hk
  exact ⟨m, off, hp, Nat.lt_of_lt_of_le hm hb.size, (hb.cell (p := ⟨m, off + k * 2, none⟩) (Nat.lt_of_lt_of_le hm hB)).trans h1, (hb.cell (p := ⟨m, off + k * 2 + 1, none⟩) (Nat.lt_of_lt_of_le hm hB)).trans h2⟩
theorem PlRd.shape {w : World} {v : Value} {n : Nat} {P : Nat → Int × Int} (h : PlRd w v n P) : ∃ p cap, v = .slice p n cap := by
  obtain ⟨p, cap, hv, _⟩ := h
  exact ⟨p, cap, hv⟩
theorem PlRd.congr {w : World} {v : Value} {n : Nat} {P Q : Nat → Int × Int} (h : PlRd w v n P) (hq : ∀ k, k < n → P k = Q k) : PlRd w v n Q := by
  obtain ⟨p, cap, hv, hc⟩ := h
  refine ⟨p, cap, hv, fun k hk => ?_⟩
  rw [← hq k hk]; exact hc k hk
theorem PlRd.nil (w : World) (P : Nat → Int × Int) : PlRd w (.slice none 0 0) 0 P := ⟨none, 0, rfl, fun k hk => absurd hk (Nat.not_lt_zero k)⟩
theorem PlAt.rd {w : World} {g n : Nat} {P : Nat → Int × Int} (h : PlAt w g n P) (cap : Nat) : PlRd w (.slice (some ⟨g, 0, none⟩) n cap) n P :=
  ⟨_, cap, rfl, fun k hk => ⟨g, 0, rfl, World.rowIs.lt h, by rw [Nat.zero_add]; exact h.fst hk, by rw [Nat.zero_add]; exact h.snd hk⟩⟩
/-- The cells of the first i places. -/
def plList (P : Nat → Int × Int) (i : Nat) : List Value := (List.range i).flatMap fun k => [.int .i64 (P k).1, .int .i64 (P k).2]
theorem plList_next (P : Nat → Int × Int) (i : Nat) : plList P (i + 1) = plList P i ++ [.int .i64 (P i).1, .int .i64 (P i).2] := by
  unfold plList; rw [List.range_succ, List.flatMap_append]; simp
theorem plList_len (P : Nat → Int × Int) : ∀ i, (plList P i).length = i * 2
  | 0 => rfl
  | i + 1 => by rw [plList_next, List.length_append, plList_len P i]; simp; omega
theorem plList_at (P : Nat → Int × Int) : ∀ i k, k < i → (plList P i)[k * 2]? = some (.int .i64 (P k).1) ∧ (plList P i)[k * 2 + 1]? = some (.int .i64 (P k).2)
  | 0, k, h => absurd h (Nat.not_lt_zero k)
  | i + 1, k, h => by
    rw [plList_next]
    by_cases e : k = i
    · subst e
      rw [List.getElem?_append_right (by rw [plList_len]; omega), List.getElem?_append_right (by rw [plList_len]; omega), plList_len, Nat.sub_self, show k * 2 + 1 - k * 2 = 1 by omega]
      exact ⟨rfl, rfl⟩
    · have := plList_at P i k (by omega)
      rw [List.getElem?_append_left (by rw [plList_len]; omega), List.getElem?_append_left (by rw [plList_len]; omega)]
      exact this
theorem PlRd.of_own {w : World} {base n : Nat} {v : Value} {P : Nat → Int × Int} (h : w.ownsRow base 42 2 v n (plList P n)) : PlRd w v n P := by
  rcases h.2 with ⟨rfl, hn⟩ | ⟨g, cap, cur, rfl, hg, hh, hnc, hcap, hcs, htk⟩
  · subst hn; exact PlRd.nil w P
  · refine ⟨_, cap, rfl, fun k hk => ⟨g, 0, rfl, ltB hh, ?_, ?_⟩⟩
    · have h1 : (cur.toList.take (n * 2))[k * 2]? = (plList P n)[k * 2]? := by rw [htk]
      rw [List.getElem?_take, if_pos (by omega), (plList_at P n k hk).1] at h1
      simp only [World.cell?, hh, Option.isSome_none, Bool.false_eq_true, if_false, Nat.zero_add]
      rw [← Array.getElem?_toList, h1]
    · have h1 : (cur.toList.take (n * 2))[k * 2 + 1]? = (plList P n)[k * 2 + 1]? := by rw [htk]
      rw [List.getElem?_take, if_pos (by omega), (plList_at P n k hk).2] at h1
      simp only [World.cell?, hh, Option.isSome_none, Bool.false_eq_true, if_false, Nat.zero_add]
      rw [← Array.getElem?_toList, h1]

set_option maxHeartbeats 1600000 in
set_option maxRecDepth 40000 in
theorem same_eq (v u : Value) (n : Nat) (s : Int) (P : Nat → Int × Int) (w : World) (hv : PlRd w v n P) (hu : PlRd w u n P) (hn : n ≤ 100000) :
    Calls Tryd.prog 10 #[.agg #[v, .int .i64 s], .agg #[u, .int .i64 s]] w fun e w' => e = .returned (.bool true) ∧ Below w.heap.size w w' := by
  obtain ⟨p, c, rfl⟩ := hv.shape
  obtain ⟨q, d, rfl⟩ := hu.shape
  obtain ⟨W, hW⟩ : ∃ W, W = (w.alloc (.cells #[.slice p n c, .int .i64 s] 30)).alloc (.cells #[.slice q n d, .int .i64 s] 30) := ⟨_, rfl⟩
  have hbW : Below w.heap.size w W := by rw [hW]; exact bAlloc (by simp) (bAlloc (Nat.le_refl _) (Below.refl _ _))
  have a0 : W.cell? ⟨w.heap.size, 0, none⟩ = some (.slice p n c) := by rw [hW]; simp [go_sem]
  have a1 : W.cell? ⟨w.heap.size, 1, none⟩ = some (.int .i64 s) := by rw [hW]; simp [go_sem]
  have b0 : W.cell? ⟨w.heap.size + 1, 0, none⟩ = some (.slice q n d) := by rw [hW]; simp [go_sem]
  have b1 : W.cell? ⟨w.heap.size + 1, 1, none⟩ = some (.int .i64 s) := by rw [hW]; simp [go_sem]
  have HP := Lib.hid (hv.below hbW (Nat.le_refl _))
  have HQ := Lib.hid (hu.below hbW (Nat.le_refl _))
  have l0 : w.heap.size < W.heap.size := by rw [hW]; simp; omega
  have l1 : w.heap.size + 1 < W.heap.size := by rw [hW]; simp
  have HB := Lib.hid hbW
  have HW := Lib.hid hW
  clear hv hu hbW
  go_enter Tryd.func10, Tryd.ntmps10
  clear hW
  go_upto_region 1 with fail
  rw [← HW.out]
  clear HW
  go_wp2_with fail
  go_loopw [23] (fun sv wr => ∃ (k m : Nat), sv = .int .i64 k ∧ k ≤ n ∧ wr = W.drewN m) (fun sv _ => n - (intOf sv).toNat)
  case atStart => exact ⟨0, 0, rfl, Nat.zero_le _, rfl⟩
  case round =>
    obtain ⟨k, m, rfl, hk, rfl⟩ := hrel
    by_cases hlt : k < n
    · have hkI : (k : Int) < n := by omega
      obtain ⟨p', c', e1, hp⟩ := HP.out
      obtain ⟨q', d', e2, hq⟩ := HQ.out
      injection e1 with e1 _ e3
      injection e2 with e2 _ e4
      subst e1 e3 e2 e4
      obtain ⟨m1, o1, rfl, h1, x1, y1⟩ := hp k hlt
      obtain ⟨m2, o2, rfl, h2, x2, y2⟩ := hq k hlt
      generalize (P k).1 = px at x1 x2
      generalize (P k).2 = py at y1 y2
      clear hp hq
      go_wp2_with fail
      go_quiet (fail)
      go_wp2_with fail
      go_roundw
      case rel => exact ⟨k + 1, m + nq, by go_num, by omega, by simp [World.drewN_drewN]⟩
      case measure => simp [intOf]; omega
    · go_wp2_with fail
      go_ret
      exact ⟨rfl, bDrewN HB.out⟩
end Go.Proofs.YtikfjehollnjeaaDoor
