/- slices.Clone and slices.Equal of sets, liveness.last and back, by their contracts. -/
import Derived.Test.YtikfjehollnjeaaDoorLivD
set_option linter.unusedVariables false
set_option linter.unusedSimpArgs false
namespace Go.Proofs.YtikfjehollnjeaaDoor
open Go.RowKit

/-- A set of its own, in a block that was not there. -/
def FreshPost (m x : Nat) (w : World) (e : Ending) (w' : World) : Prop := ∃ u, e = .returned u ∧ SetV w' m u x ∧ (∀ k, u.ownBlock = some k → w.heap.size ≤ k) ∧ Below w.heap.size w w'
theorem grownBy.refl (w : World) (k : Option Nat) : w.grownBy w k := ⟨rfl, rfl, rfl, Nat.le_refl _, fun _ _ _ => rfl⟩

set_option maxHeartbeats 1600000 in
theorem sclone_any (m x : Nat) (v : Value) (w : World) (hm : m ≤ 1) (h : SetV w m v x) :
    Calls Tryd.prog 61 #[v] w (FreshPost m x w) := by
  obtain ⟨i0, hi0, hz0, hz1, hz2⟩ := info_parts infoU
  rcases h.2 with ⟨rfl, h0⟩ | ⟨g, cap, cur, rfl, _, hh, hnc, hcm, hcs, htk⟩
  · subst h0
    have heq := fun (w : World) => run_eql_slice_nil (P := Tryd.prog) w 66 106 none 0 0 Tryd.underlying66
    go_enter Tryd.func61, Tryd.ntmps61
    go_wp2_with fail
    go_ret
    exact ⟨_, rfl, World.ownsRow_nil _ _ _ _, fun k hk => (by cases hk), Below.refl _ _⟩
  · have heq := fun (w : World) => run_eql_slice_nil (P := Tryd.prog) w 66 106 (some ⟨g, 0, none⟩) m cap Tryd.underlying66
    have HC : Hid (∀ j u, (setW m x)[j]? = some u → (w.alloc (.cells #[] 106)).cell? ⟨g, j, none⟩ = some u) := fun j u hj => by
      have hjm : j < m := by
        obtain ⟨h, _⟩ := List.getElem?_eq_some_iff.1 hj
        simpa [setW] using h
      have hb : (w.alloc (.cells #[] 106)).heap[g]? = some (.cells cur 106 (0, 0)) := (Below.heap_alloc _ _ _ (ltB hh)).trans hh
      rw [← htk, Nat.mul_one, List.getElem?_take, if_pos hjm] at hj
      simp only [World.cell?, hb, Option.isSome_none, Bool.false_eq_true, if_false]
      rw [← Array.getElem?_toList, hj]
    have HO := Lib.hid (World.ownsRow_made (e := 106) (size := 1) (base := w.heap.size) w #[] 0 (Nat.le_refl _) (Nat.zero_le _) rfl)
    have H1 : Hid (∀ u ∈ setW m x, u.oneCell' = true) := fun u hu => by
      obtain ⟨_, rfl⟩ := List.mem_replicate.1 hu; rfl
    have hsl := setW_len m x
    have HSL := Lib.hid hsl
    clear h hh htk hcs hsl
    go_enter Tryd.func61, Tryd.ntmps61
    go_wp2_with (first | (at_builtin; refine wpList_append_own _ rfl _ _ 66 rfl w.heap.size 106 i0 (.int .u64 0) 1 8 Tryd.underlying66 hi0 hz0 hz1 hz2 rfl (by decide) _ 0 [] rfl HO.out ⟨g, 0, none⟩ m cap (setW m x) rfl ?c0 ?c1 H1.out ?c3 ?c4 ?c5 ?_))
    case c0 => rw [HSL.out, Nat.mul_one]
    case c1 =>
      intro j u hj
      have e : (⟨g, 0, none⟩ : Addr).add j = ⟨g, j, none⟩ := by unfold Addr.add; split <;> simp_all
      rw [e]; exact HC.out j u hj
    case c3 => unfold maxLen; omega
    case c4 => omega
    case c5 => simp
    intro v' w' hown hg hnil
    have hB : Below w.heap.size w w' := (bAlloc (o := .cells #[] 106) (Nat.le_refl _) (Below.refl _ _)).grown hg (by simp) (fun k hk => by simp [Value.ownBlock] at hk; omega)
    have HU : Hid (SetV w' m v' x) := own0_base (by simpa using hown) (fun k _ => Nat.zero_le _)
    have HL : Hid (∀ k, v'.ownBlock = some k → w.heap.size ≤ k) := fun k hk => (hown.lt k hk).1
    have HB := Lib.hid hB
    clear hown hg hnil hB
    go_wp2_with fail
    go_ret
    exact ⟨_, rfl, HU.out, HL.out, HB.out⟩

theorem sequal_any (m x y : Nat) (v u : Value) (w : World) (hm : m ≤ 1) (hx : x < 2 ^ (64 * m)) (hy : y < 2 ^ (64 * m)) (h : SetV w m v x) (hu : SetV w m u y) :
    Calls Tryd.prog 60 #[v, u] w fun e w' => e = .returned (.bool (decide (x = y))) ∧ Below w.heap.size w w' := by
  have hmm : m = 0 ∨ m = 1 := by omega
  rcases hmm with rfl | rfl
  · obtain ⟨p, cap, rfl⟩ := h.nil
    obtain ⟨p2, cap2, rfl⟩ := hu.nil
    have h0 : x = y := by simp at hx hy; omega
    rw [decide_eq_true h0]
    clear h hu hx hy h0
    go_enter Tryd.func60, Tryd.ntmps60
    go_wp2_with fail
    refine wp_loop_rounds 1 ?_
    rw [rounds_succ]
    go_wp2_with fail
    go_ret
    exact ⟨rfl, Below.refl _ _⟩
  · obtain ⟨b, cap, rfl, hb, hc, -⟩ := h.one
    obtain ⟨b2, cap2, rfl, hb2, hc2, -⟩ := hu.one
    clear h hu hx hy
    by_cases e : x = y
    · subst e
      rw [decide_eq_true rfl]
      go_enter Tryd.func60, Tryd.ntmps60
      go_wp2_with fail
      refine wp_loop_rounds 2 ?_
      rw [rounds_succ]
      go_wp2_with fail
      go_quiet (fail)
      go_wp2_with fail
      rw [rounds_succ]
      go_wp2_with fail
      go_ret
      exact ⟨rfl, by repeat (first | exact Below.refl _ _ | apply bDrewN)⟩
    · rw [decide_eq_false e]
      have en : ((x : Int) != (y : Int)) = true := by simp; omega
      clear e
      go_enter Tryd.func60, Tryd.ntmps60
      go_wp2_with fail
      refine wp_loop_rounds 2 ?_
      rw [rounds_succ]
      go_wp2_with fail
      go_quiet (fail)
      go_wp2_with fail
      go_ret
      exact ⟨rfl, by repeat (first | exact Below.refl _ _ | apply bDrewN)⟩

set_option maxHeartbeats 1600000 in
theorem last_any (m o : Nat) (cp : Option Addr) (cl cc kind : Nat) (code : List IIns) (x to els : Int) (v : Value) (w : World) (hm : m ≤ 1) (ho : o < 2 ^ (64 * m)) (hx : kind = 2 → 0 ≤ x ∧ x < 64 * m) (h : SetV w m v o) :
    Calls Tryd.prog 45 #[.agg #[.slice cp cl cc, .int .u8 kind, .int .i64 x, .int .i64 to, .int .i64 els], v] w (FreshPost m (lastB ⟨code, kind, x, to, els⟩ o) w) := by
  have hb0 : Below w.heap.size w (w.alloc (.cells #[.slice cp cl cc, .int .u8 kind, .int .i64 x, .int .i64 to, .int .i64 els] 61)) := bAlloc (Nat.le_refl _) (Below.refl _ _)
  have HB0 := Lib.hid hb0
  have HC := Lib.hid (sclone_any m o v _ hm (h.below hb0 (Nat.le_refl _)))
  clear hb0 h
  go_enter Tryd.func45, Tryd.ntmps45
  go_wp2_with fail
  refine HC.out.mono ?_
  rintro e w1 ⟨u, rfl, hu, hf, hb1⟩
  have hz : w.heap.size < w1.heap.size := by have := hb1.size; simp at this; omega
  have hk1 : w1.cell? ⟨w.heap.size, 1, none⟩ = some (.int .u8 kind) := by rw [hb1.cell (p := ⟨w.heap.size, 1, none⟩) (by simp)]; simp [go_sem]
  have hk2 : w1.cell? ⟨w.heap.size, 2, none⟩ = some (.int .i64 x) := by rw [hb1.cell (p := ⟨w.heap.size, 2, none⟩) (by simp)]; simp [go_sem]
  have HB1 := Lib.hid (bThen hb1 (by simp) HB0.out)
  have HU := Lib.hid hu
  have HF : Hid (∀ k, u.ownBlock = some k → w.heap.size < k) := fun k hk => by have := hf k hk; simp at this; omega
  clear hb1 hu hf HC HB0
  by_cases hk : kind = 2
  · subst hk
    obtain ⟨hx0, hx1⟩ := hx rfl
    obtain ⟨r, rfl⟩ := Int.eq_ofNat_of_zero_le hx0
    have HA := Lib.hid (add_any m o r u w1 hm (by omega) ho HU.out)
    clear hx hx0 hx1
    go_wp2_with fail
    refine HA.out.mono ?_
    rintro e w2 ⟨rfl, hu2, hg2⟩
    have HU2 := Lib.hid hu2
    have HB2 := Lib.hid (HB1.out.grown hg2 HB1.out.size fun k hk => by have := HF.out k hk; omega)
    clear hu2 hg2 HA
    go_wp2_with fail
    go_ret
    exact ⟨u, rfl, HU2.out, fun k hk => by have := HF.out k hk; omega, HB2.out⟩
  · have hn : ((kind : Int) == 2) = false := by simp; omega
    have HL : Hid (lastB ⟨code, kind, x, to, els⟩ o = o) := (show lastB _ _ = _ by unfold lastB; rw [if_neg hk])
    clear hk hx
    go_wp2_with fail
    go_ret
    exact ⟨u, rfl, by rw [HL.out]; exact HU.out, fun k hk => by have := HF.out k hk; omega, HB1.out⟩
end Go.Proofs.YtikfjehollnjeaaDoor
