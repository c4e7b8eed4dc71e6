/- ints, wide and awake of the laws of layer 20; the law RegallocColors. -/
import Derived.Test.YtikfjehollnjeaaDoorRegI
set_option linter.unusedVariables false
set_option linter.unusedSimpArgs false
namespace Go.Proofs.YtikfjehollnjeaaDoor
open Go.RowKit

theorem ints_len (p q : Option Addr) (n m c d : Nat) (w : World) (h' : ((n : Int) != (m : Int)) = true) (h2 : n ≠ m) :
    Calls Tryd.prog 18 #[.slice p n c, .slice q m d] w fun e w' => e = .returned (.bool false) ∧ Below w.heap.size w w' := by
  go_enter Tryd.func18, Tryd.ntmps18
  go_wp2_with fail
  go_ret
  exact ⟨rfl, Below.refl _ _⟩

set_option maxHeartbeats 800000 in
theorem ints_same (p q : Option Addr) (xs ys : List Int) (c d : Nat) (w : World) (hlen : xs.length ≤ 100000) (hl : ys.length = xs.length)
    (h1 : ∀ k, k < xs.length → ∃ m off, p = some ⟨m, off, none⟩ ∧ w.cell? ⟨m, off + k, none⟩ = some (.int .i64 (xs.getD k 0))) (h2 : ∀ k, k < xs.length → ∃ m off, q = some ⟨m, off, none⟩ ∧ w.cell? ⟨m, off + k, none⟩ = some (.int .i64 (ys.getD k 0))) :
    Calls Tryd.prog 18 #[.slice p xs.length c, .slice q xs.length d] w fun e w' => e = .returned (.bool (decide (xs = ys))) ∧ Below w.heap.size w w' := by
  go_enter Tryd.func18, Tryd.ntmps18
  go_wp2_with fail
  go_loopw [13] (fun sv wr => ∃ (k n : Nat), sv = .int .i64 k ∧ k ≤ xs.length ∧ (∀ j, j < k → xs.getD j 0 = ys.getD j 0) ∧ wr = w.drewN n) (fun sv _ => xs.length - (intOf sv).toNat)
  case atStart => exact ⟨0, 0, rfl, Nat.zero_le _, fun j hj => by omega, rfl⟩
  case round =>
    obtain ⟨k, n, rfl, hk, heq, rfl⟩ := hrel
    have HQ := Lib.hid heq
    clear heq
    by_cases hlt : k < xs.length
    · obtain ⟨m1, o1, rfl, c1⟩ := h1 k hlt
      obtain ⟨m2, o2, rfl, c2⟩ := h2 k hlt
      clear h1 h2
      have hltI : (k : Int) < xs.length := by omega
      have hHL := Lib.hid hl
      clear hl
      generalize hx : xs.getD k 0 = x at c1
      generalize hy : ys.getD k 0 = y at c2
      have HX := Lib.hid hx
      have HY := Lib.hid hy
      clear hx hy
      by_cases hxy : x = y
      · subst hxy
        go_wp2_with fail
        go_quiet (fail)
        go_wp2_with fail
        go_roundw
        case rel =>
          refine ⟨k + 1, n + nq, by go_num, by omega, fun j hj => ?_, by simp [World.drewN_drewN]⟩
          rcases Nat.lt_succ_iff_lt_or_eq.1 hj with h | rfl
          · exact HQ.out j h
          · rw [HX.out, HY.out]
        case measure => simp [intOf]; omega
      · have hb : (x != y) = true := by simpa using hxy
        go_wp2_with fail
        go_quiet (fail)
        go_wp2_with fail
        go_ret
        refine ⟨?_, ?_⟩
        · have : xs ≠ ys := fun e => hxy (by rw [← HX.out, ← HY.out, e])
          simp [this]
        · exact bDrewN (bDrewN (Below.refl _ _))
    · go_wp2_with fail
      go_ret
      refine ⟨?_, bDrewN (Below.refl _ _)⟩
      have : xs = ys := List.ext_getElem (by omega) fun j h1 h2 => by
        have := HQ.out j (by omega)
        simpa [List.getD_eq_getElem?_getD, h1, h2] using this
      simp [this]

theorem ints_any (v u : Value) (xs ys : List Int) (w : World) (hv : RdI w v xs) (hu : RdI w u ys) (hlen : xs.length ≤ 100000) :
    Calls Tryd.prog 18 #[v, u] w fun e w' => e = .returned (.bool (decide (xs = ys))) ∧ Below w.heap.size w w' := by
  obtain ⟨p, c, rfl, hp⟩ := hv
  obtain ⟨q, d, rfl, hq⟩ := hu
  by_cases hl : ys.length = xs.length
  · have a := ints_same p q xs ys c d w hlen hl (fun k hk => by
      obtain ⟨m, off, e, _, hc⟩ := hp k hk
      exact ⟨m, off, e, hc⟩) (fun k hk => by
      obtain ⟨m, off, e, _, hc⟩ := hq k (by omega)
      exact ⟨m, off, e, hc⟩)
    rw [hl]
    exact a
  · have hne : xs ≠ ys := fun e => hl (by rw [e])
    have a := ints_len p q xs.length ys.length c d w (by simp; omega) (fun e => hl e.symm)
    simpa [hne] using a

/-- what wide leaves open -/
def Narrow (e : List (List Int)) : Prop := e.length ≤ 24 ∧ RowsMax e 40
def WidePost (e : List (List Int)) (r : Ending) : Prop := ∃ b, r = .returned (.bool b) ∧ (b = false → Narrow e)
def exE : List (List Int) := [[1, 2], [2], []]
theorem ex2 : colorG 3 (adjG exE) (max 2 0) = [-1, 1, 0] := by decide +kernel
theorem ex3 : colorG 3 (adjG exE) (max 3 0) = [2, 1, 0] := by decide +kernel

theorem lit_rd (w : World) (xs : List Int) (cap : Nat) : RdI (w.alloc (.cells (xs.map (Value.int .i64)).toArray 3)) (.slice (some ⟨w.heap.size, 0, none⟩) xs.length cap) xs := by
  refine ⟨_, cap, rfl, fun k hk => ⟨_, 0, rfl, by simp, ?_⟩⟩
  have h : (w.alloc (.cells (xs.map (Value.int .i64)).toArray 3)).heap[w.heap.size]? = some (.cells (xs.map (Value.int .i64)).toArray 3 (0, 0)) := heap_alloc_new w _
  simp only [World.cell?, h, Option.isSome_none, Bool.false_eq_true, if_false, Nat.zero_add]
  simp [List.getD_eq_getElem?_getD, List.getElem?_eq_getElem hk]
theorem ex_rd (w : World) : RdR ((((w.alloc (.cells #[.int .i64 1, .int .i64 2] 3)).alloc (.cells #[.int .i64 2] 3)).alloc (.cells #[] 3)).alloc (.cells #[.slice (some ⟨w.heap.size, 0, none⟩) 2 2, .slice (some ⟨w.heap.size + 1, 0, none⟩) 1 1, .slice (some ⟨w.heap.size + 1 + 1, 0, none⟩) 0 0] 38)) (.slice (some ⟨w.heap.size + 1 + 1 + 1, 0, none⟩) 3 3) exE := by
  have hb : ∀ (w : World) (o : Obj), Below w.heap.size w (w.alloc o) := fun w o => bAlloc (Nat.le_refl _) (Below.refl _ _)
  have r0 := (((lit_rd w [1, 2] 2).below (hb _ (.cells #[.int .i64 2] 3)) (Nat.le_refl _)).below (hb _ (.cells #[] 3)) (Nat.le_refl _)).below (hb _ (.cells #[.slice (some ⟨w.heap.size, 0, none⟩) 2 2, .slice (some ⟨w.heap.size + 1, 0, none⟩) 1 1, .slice (some ⟨w.heap.size + 1 + 1, 0, none⟩) 0 0] 38)) (Nat.le_refl _)
  have r1 := ((lit_rd (w.alloc (.cells #[.int .i64 1, .int .i64 2] 3)) [2] 1).below (hb _ (.cells #[] 3)) (Nat.le_refl _)).below (hb _ (.cells #[.slice (some ⟨w.heap.size, 0, none⟩) 2 2, .slice (some ⟨w.heap.size + 1, 0, none⟩) 1 1, .slice (some ⟨w.heap.size + 1 + 1, 0, none⟩) 0 0] 38)) (Nat.le_refl _)
  refine ⟨_, 3, fun a => [.slice (some ⟨w.heap.size, 0, none⟩) 2 2, .slice (some ⟨w.heap.size + 1, 0, none⟩) 1 1, .slice (some ⟨w.heap.size + 1 + 1, 0, none⟩) 0 0].getD a default, rfl, fun a ha => ?_⟩
  have ha3 : a < 3 := ha
  match a, ha3 with
  | 0, _ => exact ⟨⟨_, 0, rfl, by simp, by simp [go_sem]⟩, r0⟩
  | 1, _ => exact ⟨⟨_, 0, rfl, by simp, by simp [go_sem]⟩, by rw [Go.Deep.nblk_alloc] at r1; exact r1⟩
  | 2, _ => exact ⟨⟨_, 0, rfl, by simp, by simp [go_sem]⟩, ⟨_, 0, rfl, fun k hk => by simp [exE] at hk⟩⟩

theorem exE_max : RowsMax exE 5000 := fun a => by
  match a with
  | 0 => decide
  | 1 => decide
  | 2 => decide
  | a + 3 => simp [exE]

set_option maxHeartbeats 1600000 in
theorem awake_any (w : World) : Calls Tryd.prog 6 #[] w fun r w' => r = .returned (.bool true) ∧ Below w.heap.size w w' := by
  have HE := Lib.hid (ex_rd w)
  go_enter Tryd.func6, Tryd.ntmps6
  go_wp2_with fail
  have hB0 : Below w.heap.size w ((((w.alloc (.cells #[.int .i64 1, .int .i64 2] 3)).alloc (.cells #[.int .i64 2] 3)).alloc (.cells #[] 3)).alloc (.cells #[.slice (some ⟨w.heap.size, 0, none⟩) 2 2, .slice (some ⟨w.heap.size + 1, 0, none⟩) 1 1, .slice (some ⟨w.heap.size + 1 + 1, 0, none⟩) 0 0] 38)) := by
    repeat (first | exact Below.refl _ _ | (apply bAlloc; (simp; try omega)))
  have HB0 := Lib.hid hB0
  clear hB0
  generalize (((w.alloc (.cells #[.int .i64 1, .int .i64 2] 3)).alloc (.cells #[.int .i64 2] 3)).alloc (.cells #[] 3)).alloc (.cells #[.slice (some ⟨w.heap.size, 0, none⟩) 2 2, .slice (some ⟨w.heap.size + 1, 0, none⟩) 1 1, .slice (some ⟨w.heap.size + 1 + 1, 0, none⟩) 0 0] 38) = w1 at HE HB0 ⊢
  refine (color_any _ exE 2 w1 HE.out exE_max (by decide) (by omega) (by omega)).mono ?_
  rintro r w2 ⟨V, rfl, hO, hB⟩
  have hcx : colorG exE.length (adjG exE) (max 2 0) = [-1, 1, 0] := ex2
  rw [hcx] at hO
  have HO := Lib.hid hO
  have HB2 := Lib.hid hB
  clear hO hB hcx
  go_wp2_with fail
  refine (ints_any _ _ [-1, 1, 0] [-1, 1, 0] (w2.alloc (.cells #[.int .i64 (-1), .int .i64 1, .int .i64 0] 3)) (RdI.of_own (HO.out.alloc _)) (lit_rd w2 [-1, 1, 0] 3) (by decide)).mono ?_
  rintro r w3 ⟨rfl, hB3⟩
  have hB13 : Below w1.heap.size w1 w3 := bThen hB3 (by have := HB2.out.size; simp; omega) (bAlloc HB2.out.size HB2.out)
  have HB13 := Lib.hid hB13
  clear hB3 hB13 HO HB2
  have ht : decide ([(-1 : Int), 1, 0] = [-1, 1, 0]) = true := by decide
  go_wp2_with fail
  refine (color_any _ exE 3 w3 (HE.out.below HB13.out (Nat.le_refl _)) exE_max (by decide) (by omega) (by omega)).mono ?_
  rintro r w4 ⟨V4, rfl, hO, hB⟩
  have hcx : colorG exE.length (adjG exE) (max 3 0) = [2, 1, 0] := ex3
  rw [hcx] at hO
  have HO := Lib.hid hO
  have HB4 := Lib.hid hB
  clear hO hB hcx
  go_wp2_with fail
  refine (ints_any _ _ [2, 1, 0] [2, 1, 0] (w4.alloc (.cells #[.int .i64 2, .int .i64 1, .int .i64 0] 3)) (RdI.of_own (HO.out.alloc _)) (lit_rd w4 [2, 1, 0] 3) (by decide)).mono ?_
  rintro r w5 ⟨rfl, hB5⟩
  have hB15 : Below w1.heap.size w1 w5 := bThen hB5 (by have := HB4.out.size; have := HB13.out.size; simp; omega) (bAlloc (by have := HB4.out.size; have := HB13.out.size; omega) (bThen HB4.out HB13.out.size HB13.out))
  have ht : decide ([(2 : Int), 1, 0] = [2, 1, 0]) = true := by decide
  go_wp2_with fail
  go_ret
  exact ⟨rfl, bThen hB15 HB0.out.size HB0.out⟩
end Go.Proofs.YtikfjehollnjeaaDoor
