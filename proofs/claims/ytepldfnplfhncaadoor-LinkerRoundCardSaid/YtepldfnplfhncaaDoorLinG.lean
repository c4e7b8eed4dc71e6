/- linker.Undefined at the example of layer 22: no name is undefined. -/
import Derived.Test.YtepldfnplfhncaaDoorLinF
import Derived.Test.YtepldfnplfhncaaDoorIter
set_option linter.unusedVariables false
set_option linter.unusedSimpArgs false
namespace Go.Proofs.YtepldfnplfhncaaDoor
open Go.RowKit Go.Maps Go.WideMaps

theorem RowC.grown {w w' : World} {b m : Nat} {l : List Value} (h : RowC w b l) (hg : w.grownBy w' (some m)) (hne : b ≠ m) : RowC w' b l :=
  ⟨Nat.lt_of_lt_of_le h.1 hg.size, fun k v hv => (World.cell?_of_block (a := ⟨b, k, none⟩) (hg.block b h.1 (fun e => hne (by injection e)))).trans (h.2 k v hv)⟩
theorem MapAt.grown {w w' : World} {k : TypeId} {b n m : Nat} {D : DataW Value} (h : MapAt w k b n D) (hg : w.grownBy w' (some m)) (hne : b ≠ m) : MapAt w' k b n D := World.ownsMap.kept h hg (fun e => hne (by injection e))
theorem MapAt.alloc {w : World} {k : TypeId} {b n : Nat} {D : DataW Value} (h : MapAt w k b n D) (o : Obj) : MapAt (w.alloc o) k b n D := h.below (B := w.heap.size) (bAlloc (Nat.le_refl _) (Below.refl _ _)) h.lt

set_option maxHeartbeats 3200000 in
set_option maxRecDepth 20000 in
theorem undef_ex (A L C R : Nat) (w : World) (hA : RowC w A [.string ⟨#[97]⟩, .int .i64 3, .string ⟨#[98]⟩, .int .i64 4]) (hL : RowC w L [.string ⟨#[116]⟩, .slice (some ⟨C, 0, none⟩) 2 2, .int .i64 0, .slice (some ⟨R, 0, none⟩) 1 1]) (hR : RowC w R [.int .i64 0, .string ⟨#[98]⟩, .bool false]) :
    Calls Tryd.prog 42 #[.slice (some ⟨A, 0, none⟩) 2 2, .slice (some ⟨L, 0, none⟩) 1 1] w fun e w' => e = .returned (.slice none 0 0) ∧ Below w.heap.size w w' := by
  have hmm := @run_makeMap Tryd.prog
  go_enter Tryd.func42, Tryd.ntmps42
  go_wp2_with fail
  have zA := hA.lt
  have zL := hL.lt
  have zR := hR.lt
  have hb0 : Below w.heap.size w ((w.alloc (.map #[] 0)).alloc (.map #[] 0)) := bAlloc (by simp) (bAlloc (Nat.le_refl _) (Below.refl _ _))
  have M1 : MapAt ((w.alloc (.map #[] 0)).alloc (.map #[] 0)) 9 w.heap.size 0 (.map []) := (World.ownsMap_made w _ _ _).alloc _
  have M2 : MapAt ((w.alloc (.map #[] 0)).alloc (.map #[] 0)) 9 (w.heap.size + 1) 0 (.map []) := by
    have h := World.ownsMap_made (w.alloc (.map #[] 0)) Tryd.prog 9 heldElem
    rw [size_alloc1] at h
    exact h
  have s0 : w.heap.size + 1 < ((w.alloc (.map #[] 0)).alloc (.map #[] 0)).heap.size := by simp
  have rA0 := (hA.alloc (.map #[] 0)).alloc (.map #[] 0)
  have rL0 := (hL.alloc (.map #[] 0)).alloc (.map #[] 0)
  have rR0 := (hR.alloc (.map #[] 0)).alloc (.map #[] 0)
  have HM1 := Lib.hid M1
  have HM2 := Lib.hid M2
  have HB0 := Lib.hid hb0
  clear M1 M2 hb0 hA hL hR
  generalize (w.alloc (.map #[] 0)).alloc (.map #[] 0) = w0 at rA0 rL0 rR0 HM1 HM2 HB0 s0 ⊢
  have zA0 := rA0.lt
  have A0_0 := rA0.at 0 rfl
  have A0_1 := rA0.at 1 rfl
  have A0_2 := rA0.at 2 rfl
  have A0_3 := rA0.at 3 rfl
  refine wp_loop_rounds 3 ?_
  rw [rounds_succ]
  go_wp2_with (first | (at_mapUpdate; refine wpList_mapUpdate_own _ rfl _ _ _ 114 rfl 9 4 keyS Tryd.underlying114 heldElem w.heap.size 0 _ rfl (HM1.out.alloc _) (by unfold maxLen; omega) _ _ _ rfl rfl (key_s ⟨#[97]⟩ (by decide)) (.held (.bool true)) [] rfl ?_))
  intro w1 hown1 hgrow1
  have HM1a : Hid (MapAt w1 9 w.heap.size 1 _) := hown1
  have HM2a : Hid (MapAt w1 9 (w.heap.size + 1) 0 (.map [])) := (HM2.out.alloc _).grown hgrow1 (by omega)
  have rA1 := (rA0.alloc (.cells #[.string ⟨#[97]⟩, .int .i64 3] 68)).grown hgrow1 (by omega)
  have rL1 := (rL0.alloc (.cells #[.string ⟨#[97]⟩, .int .i64 3] 68)).grown hgrow1 (by omega)
  have rR1 := (rR0.alloc (.cells #[.string ⟨#[97]⟩, .int .i64 3] 68)).grown hgrow1 (by omega)
  have HB1 := Lib.hid ((bAlloc (o := .cells #[.string ⟨#[97]⟩, .int .i64 3] 68) (by omega) HB0.out).grown hgrow1 (by simp; omega) (fun k hk => by cases hk; exact Nat.le_refl _))
  have s1 : w.heap.size + 1 < w1.heap.size := by have := hgrow1.size; simp at this; omega
  clear hown1 hgrow1 HM1 HM2 rA0 rL0 rR0 HB0 zA0 A0_0 A0_1 A0_2 A0_3
  have zA1 := rA1.lt
  have A1_0 := rA1.at 0 rfl
  have A1_1 := rA1.at 1 rfl
  have A1_2 := rA1.at 2 rfl
  have A1_3 := rA1.at 3 rfl
  go_wp2_with fail
  rw [rounds_succ]
  go_wp2_with (first | (at_mapUpdate; refine wpList_mapUpdate_own _ rfl _ _ _ 114 rfl 9 4 keyS Tryd.underlying114 heldElem w.heap.size 1 _ rfl (HM1a.out.alloc _) (by unfold maxLen; omega) _ _ _ rfl rfl (key_s ⟨#[98]⟩ (by decide)) (.held (.bool true)) [] rfl ?_))
  intro w2 hown2 hgrow2
  have HM1b : Hid (MapAt w2 9 w.heap.size 2 _) := hown2
  have HM2b : Hid (MapAt w2 9 (w.heap.size + 1) 0 (.map [])) := (HM2a.out.alloc _).grown hgrow2 (by omega)
  have rL2 := (rL1.alloc (.cells #[.string ⟨#[98]⟩, .int .i64 4] 68)).grown hgrow2 (by omega)
  have rR2 := (rR1.alloc (.cells #[.string ⟨#[98]⟩, .int .i64 4] 68)).grown hgrow2 (by omega)
  have HB2 := Lib.hid ((bAlloc (o := .cells #[.string ⟨#[98]⟩, .int .i64 4] 68) (by omega) HB1.out).grown hgrow2 (by simp; omega) (fun k hk => by cases hk; exact Nat.le_refl _))
  have s2 : w.heap.size + 1 < w2.heap.size := by have := hgrow2.size; simp at this; omega
  clear hown2 hgrow2 HM1a HM2a rA1 rL1 rR1 HB1 zA1 A1_0 A1_1 A1_2 A1_3
  have zL2 := rL2.lt
  have zR2 := rR2.lt
  have L2_0 := rL2.at 0 rfl
  have L2_1 := rL2.at 1 rfl
  have L2_2 := rL2.at 2 rfl
  have L2_3 := rL2.at 3 rfl
  have R2_0 := rR2.at 0 rfl
  have R2_1 := rR2.at 1 rfl
  have R2_2 := rR2.at 2 rfl
  have hlk := ((HM1b.out.alloc (.cells #[.string ⟨#[116]⟩, .slice (some ⟨C, 0, none⟩) 2 2, .int .i64 0, .slice (some ⟨R, 0, none⟩) 1 1] 51)).alloc (.cells #[.int .i64 0, .string ⟨#[98]⟩, .bool false] 66)).look_at (t := 114) (e := 4) (z := .bool false) (key := .string ⟨#[98]⟩) (v := .bool true) keyS Tryd.underlying114 rfl (key_s ⟨#[98]⟩ (by decide)) rfl
  go_wp2_with fail
  rw [rounds_succ]
  go_wp2_with fail
  refine wp_loop_rounds 2 ?_
  rw [rounds_succ]
  go_wp2_with fail
  refine wp_loop_rounds 2 ?_
  rw [rounds_succ]
  go_wp2_with fail
  rw [rounds_succ]
  go_wp2_with fail
  rw [rounds_succ]
  go_wp2_with fail
  have hM2 := (HM2b.out.alloc (.cells #[.string ⟨#[116]⟩, .slice (some ⟨C, 0, none⟩) 2 2, .int .i64 0, .slice (some ⟨R, 0, none⟩) 1 1] 51)).alloc (.cells #[.int .i64 0, .string ⟨#[98]⟩, .bool false] 66)
  have HM2c := Lib.hid hM2
  have HB3 := Lib.hid (bAlloc (o := .cells #[.int .i64 0, .string ⟨#[98]⟩, .bool false] 66) (by simp; omega) (bAlloc (o := .cells #[.string ⟨#[116]⟩, .slice (some ⟨C, 0, none⟩) 2 2, .int .i64 0, .slice (some ⟨R, 0, none⟩) 1 1] 51) (by omega) HB2.out))
  clear hM2 hlk
  generalize (w2.alloc (.cells #[.string ⟨#[116]⟩, .slice (some ⟨C, 0, none⟩) 2 2, .int .i64 0, .slice (some ⟨R, 0, none⟩) 1 1] 51)).alloc (.cells #[.int .i64 0, .string ⟨#[98]⟩, .bool false] 66) = w3 at HM2c HB3 ⊢
  refine (mapKeys_any _ w3).mono ?_
  rintro e w4 ⟨rfl, rfl⟩
  go_wp2_with fail
  refine (sortedKeys_empty _ 0 w3 HM2c.out).mono ?_
  rintro e w5 ⟨rfl, hb5⟩
  go_wp2_with fail
  go_ret
  exact ⟨rfl, bThen hb5 (by simp; have := HB3.out.size; omega) (bAlloc HB3.out.size HB3.out)⟩
end Go.Proofs.YtepldfnplfhncaaDoor
