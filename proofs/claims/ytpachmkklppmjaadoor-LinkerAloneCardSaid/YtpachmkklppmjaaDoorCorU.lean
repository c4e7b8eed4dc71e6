/- ref.Words, by its contract. -/
import Derived.Test.YtpachmkklppmjaaDoorCorM
import Derived.LoopTactic
set_option linter.unusedVariables false
set_option linter.unusedSimpArgs false
namespace Go.Proofs.YtpachmkklppmjaaDoor
open Go.RowKit

theorem words_len (p q : Option Addr) (n m c d : Nat) (w : World) (h : ((n : Int) == (m : Int)) = false) (h' : ((n : Int) != (m : Int)) = true) (h2 : n ≠ m) :
    Calls Tryd.prog 9 #[.slice p n c, .slice q m d] w fun e w' => e = .returned (.bool false) ∧ Below w.heap.size w w' := by
  go_enter Tryd.func9, Tryd.ntmps9
  go_wp2_with fail
  go_ret
  exact ⟨rfl, Below.refl _ _⟩

set_option maxHeartbeats 800000 in
theorem words_same (p q : Option Addr) (xs ys : List Int) (c d : Nat) (w : World) (hlen : xs.length ≤ 140737488351232) (hl : ys.length = xs.length)
    (h1 : ∀ k, k < xs.length → ∃ m off, p = some ⟨m, off, none⟩ ∧ w.cell? ⟨m, off + k, none⟩ = some (.int .i32 (xs.getD k 0))) (h2 : ∀ k, k < xs.length → ∃ m off, q = some ⟨m, off, none⟩ ∧ w.cell? ⟨m, off + k, none⟩ = some (.int .i32 (ys.getD k 0))) :
    Calls Tryd.prog 9 #[.slice p xs.length c, .slice q xs.length d] w fun e w' => e = .returned (.bool (decide (xs = ys))) ∧ Below w.heap.size w w' := by
  go_enter Tryd.func9, Tryd.ntmps9
  go_wp2_with fail
  go_loopw [5] (fun sv wr => ∃ (k n : Nat), sv = .int .i64 k ∧ k ≤ xs.length ∧ (∀ j, j < k → xs.getD j 0 = ys.getD j 0) ∧ wr = w.drewN n) (fun sv _ => xs.length - (intOf sv).toNat)
  case atStart => exact ⟨0, 0, rfl, Nat.zero_le _, fun j hj => by omega, rfl⟩
  case round =>
    obtain ⟨k, n, rfl, hk, heq, rfl⟩ := hrel
    have HQ := Lib.hid heq
    clear heq
    by_cases hlt : k < xs.length
    · obtain ⟨m1, o1, rfl, c1⟩ := h1 k hlt
      obtain ⟨m2, o2, rfl, c2⟩ := h2 k hlt
      clear h1 h2
      have hltI : (k : Int) < xs.length := by omega
      have hHL := Lib.hid hl
      clear hl
      generalize hx : xs.getD k 0 = x at c1
      generalize hy : ys.getD k 0 = y at c2
      have HX := Lib.hid hx
      have HY := Lib.hid hy
      clear hx hy
      by_cases hxy : x = y
      · subst hxy
        go_wp2_with fail
        go_quiet (fail)
        go_wp2_with fail
        go_roundw
        case rel =>
          refine ⟨k + 1, n + nq, by go_num, by omega, fun j hj => ?_, by simp [World.drewN_drewN]⟩
          rcases Nat.lt_succ_iff_lt_or_eq.1 hj with h | rfl
          · exact HQ.out j h
          · rw [HX.out, HY.out]
        case measure => simp [intOf]; omega
      · have hb : (x != y) = true := by simpa using hxy
        go_wp2_with fail
        go_quiet (fail)
        go_wp2_with fail
        go_ret
        refine ⟨?_, ?_⟩
        · have : xs ≠ ys := fun e => hxy (by rw [← HX.out, ← HY.out, e])
          simp [this]
        · exact bDrewN (bDrewN (Below.refl _ _))
    · go_wp2_with fail
      go_ret
      refine ⟨?_, bDrewN (Below.refl _ _)⟩
      have : xs = ys := List.ext_getElem (by omega) fun j h1 h2 => by
        have := HQ.out j (by omega)
        simpa [List.getD_eq_getElem?_getD, h1, h2] using this
      simp [this]

theorem words_any (v u : Value) (xs ys : List Int) (w : World) (hv : RdAt w v xs) (hu : RdAt w u ys) (hlen : xs.length ≤ 140737488351232) :
    Calls Tryd.prog 9 #[v, u] w fun e w' => e = .returned (.bool (decide (xs = ys))) ∧ Below w.heap.size w w' := by
  obtain ⟨p, c, rfl, hp⟩ := hv
  obtain ⟨q, d, rfl, hq⟩ := hu
  by_cases hl : ys.length = xs.length
  · have a := words_same p q xs ys c d w hlen hl (fun k hk => by
      obtain ⟨m, off, e, _, hc⟩ := hp k hk
      exact ⟨m, off, e, hc⟩) (fun k hk => by
      obtain ⟨m, off, e, _, hc⟩ := hq k (by omega)
      exact ⟨m, off, e, hc⟩)
    rw [hl]
    exact a
  · have hne : xs ≠ ys := fun e => hl (by rw [e])
    have a := words_len p q xs.length ys.length c d w (by simp; omega) (by simp; omega) (fun e => hl e.symm)
    simpa [hne] using a

end Go.Proofs.YtpachmkklppmjaaDoor
