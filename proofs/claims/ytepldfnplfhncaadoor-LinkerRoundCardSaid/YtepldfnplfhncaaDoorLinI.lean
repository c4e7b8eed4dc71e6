/- linker.linkable at the example of layer 22: OK. -/
import Derived.Test.YtepldfnplfhncaaDoorLinG
set_option linter.unusedVariables false
set_option linter.unusedSimpArgs false
namespace Go.Proofs.YtepldfnplfhncaaDoor
open Go.RowKit Go.Maps Go.WideMaps

set_option maxHeartbeats 6400000 in
set_option maxRecDepth 20000 in
theorem linkable_ex (A L C R : Nat) (w : World) (hT : Tab w) (hA : RowC w A [.string ⟨#[97]⟩, .int .i64 3, .string ⟨#[98]⟩, .int .i64 4]) (hL : RowC w L [.string ⟨#[116]⟩, .slice (some ⟨C, 0, none⟩) 2 2, .int .i64 0, .slice (some ⟨R, 0, none⟩) 1 1]) (hC : RowC w C [.int .u8 20, .int .i64 2, .int .i64 3, .int .i64 0, .int .i64 1, .int .u8 1, .int .i64 0, .int .i64 0, .int .i64 0, .int .i64 0]) (hR : RowC w R [.int .i64 0, .string ⟨#[98]⟩, .bool false]) :
    Calls Tryd.prog 30 #[.slice (some ⟨A, 0, none⟩) 2 2, .slice (some ⟨L, 0, none⟩) 1 1] w fun e w' => e = .returned (.int .i64 0) ∧ Below w.heap.size w w' := by
  have hmm := @run_makeMap Tryd.prog
  go_enter Tryd.func30, Tryd.ntmps30
  go_wp2_with fail
  have zA := hA.lt
  have zL := hL.lt
  have zC := hC.lt
  have zR := hR.lt
  have hb0 : Below w.heap.size w ((w.alloc (.map #[] 0)).alloc (.map #[] 0)) := bAlloc (by simp) (bAlloc (Nat.le_refl _) (Below.refl _ _))
  have HT := Lib.hid hT
  have HM1 := Lib.hid (show MapAt ((w.alloc (.map #[] 0)).alloc (.map #[] 0)) 9 w.heap.size 0 (.map []) from MapAt.alloc (World.ownsMap_made w _ _ _) _)
  have HM2 := Lib.hid (show MapAt ((w.alloc (.map #[] 0)).alloc (.map #[] 0)) 9 (w.heap.size + 1) 0 (.map []) by
    have h := World.ownsMap_made (w.alloc (.map #[] 0)) Tryd.prog 9 heldElem
    rw [size_alloc1] at h
    exact h)
  have s0 : w.heap.size + 1 < ((w.alloc (.map #[] 0)).alloc (.map #[] 0)).heap.size := by simp
  have rA0 := (hA.alloc (.map #[] 0)).alloc (.map #[] 0)
  have rL0 := (hL.alloc (.map #[] 0)).alloc (.map #[] 0)
  have rC0 := (hC.alloc (.map #[] 0)).alloc (.map #[] 0)
  have rR0 := (hR.alloc (.map #[] 0)).alloc (.map #[] 0)
  have HB0 := Lib.hid hb0
  clear hb0 hA hL hC hR hT
  generalize (w.alloc (.map #[] 0)).alloc (.map #[] 0) = w0 at rA0 rL0 rC0 rR0 HM1 HM2 HB0 s0 ⊢
  have zA0 := rA0.lt
  have A0_0 := rA0.at 0 rfl
  have A0_1 := rA0.at 1 rfl
  have A0_2 := rA0.at 2 rfl
  have A0_3 := rA0.at 3 rfl
  have hlk0 := MapAt.look_at (t := 114) (e := 4) (z := .bool false) (key := .string ⟨#[97]⟩) (v := .bool false) (HM1.out.alloc (.cells #[.string ⟨#[97]⟩, .int .i64 3] 68)) keyS Tryd.underlying114 rfl (key_s ⟨#[97]⟩ (by decide)) rfl
  refine wp_loop_rounds 3 ?_
  rw [rounds_succ]
  go_wp2_with (first | (at_mapUpdate; refine wpList_mapUpdate_own _ rfl _ _ _ 114 rfl 9 4 keyS Tryd.underlying114 heldElem (w.heap.size) 0 _ rfl (HM1.out.alloc _) (by unfold maxLen; omega) _ _ _ rfl rfl (key_s ⟨#[97]⟩ (by decide)) (.held (.bool true)) [] rfl ?_))
  intro w1 hown1 hgrow1
  have HM1a : Hid (MapAt w1 9 w.heap.size 1 ((DataW.map []).put (.string [97]) (.held (.bool true)))) := hown1
  have HM2a : Hid (MapAt w1 9 (w.heap.size + 1) 0 (.map [])) := (HM2.out.alloc _).grown hgrow1 (by omega)
  have rA1 := (rA0.alloc (.cells #[.string ⟨#[97]⟩, .int .i64 3] 68)).grown hgrow1 (by omega)
  have rL1 := (rL0.alloc (.cells #[.string ⟨#[97]⟩, .int .i64 3] 68)).grown hgrow1 (by omega)
  have rC1 := (rC0.alloc (.cells #[.string ⟨#[97]⟩, .int .i64 3] 68)).grown hgrow1 (by omega)
  have rR1 := (rR0.alloc (.cells #[.string ⟨#[97]⟩, .int .i64 3] 68)).grown hgrow1 (by omega)
  have HB1 := Lib.hid ((bAlloc (o := .cells #[.string ⟨#[97]⟩, .int .i64 3] 68) (by omega) HB0.out).grown hgrow1 (by simp; omega) (fun k hk => by cases hk; omega))
  have s1 : w.heap.size + 1 < w1.heap.size := by have := hgrow1.size; simp at this; omega
  have rX1 : RowC w1 w0.heap.size [.string ⟨#[97]⟩, .int .i64 3] := (RowC.made w0 [.string ⟨#[97]⟩, .int .i64 3] 68).grown hgrow1 (by omega)
  have zX1 := rX1.lt
  have X1_0 := rX1.at 0 rfl
  have X1_1 := rX1.at 1 rfl
  clear hown1 hgrow1 HM1 HM2 HB0 zA0 A0_0 A0_1 A0_2 A0_3 hlk0 rA0 rL0 rC0 rR0
  have zA1 := rA1.lt
  have A1_0 := rA1.at 0 rfl
  have A1_1 := rA1.at 1 rfl
  have A1_2 := rA1.at 2 rfl
  have A1_3 := rA1.at 3 rfl
  have hlk1 := MapAt.look_at (t := 114) (e := 4) (z := .bool false) (key := .string ⟨#[98]⟩) (v := .bool false) (HM1a.out.alloc (.cells #[.string ⟨#[98]⟩, .int .i64 4] 68)) keyS Tryd.underlying114 rfl (key_s ⟨#[98]⟩ (by decide)) rfl
  go_wp2_with fail
  rw [rounds_succ]
  go_wp2_with (first | (at_mapUpdate; refine wpList_mapUpdate_own _ rfl _ _ _ 114 rfl 9 4 keyS Tryd.underlying114 heldElem (w.heap.size) 1 _ rfl (HM1a.out.alloc _) (by unfold maxLen; omega) _ _ _ rfl rfl (key_s ⟨#[98]⟩ (by decide)) (.held (.bool true)) [] rfl ?_))
  intro w2 hown2 hgrow2
  have HM2b : Hid (MapAt w2 9 (w.heap.size + 1) 0 (.map [])) := (HM2a.out.alloc _).grown hgrow2 (by omega)
  have rA2 := (rA1.alloc (.cells #[.string ⟨#[98]⟩, .int .i64 4] 68)).grown hgrow2 (by omega)
  have rL2 := (rL1.alloc (.cells #[.string ⟨#[98]⟩, .int .i64 4] 68)).grown hgrow2 (by omega)
  have rC2 := (rC1.alloc (.cells #[.string ⟨#[98]⟩, .int .i64 4] 68)).grown hgrow2 (by omega)
  have rR2 := (rR1.alloc (.cells #[.string ⟨#[98]⟩, .int .i64 4] 68)).grown hgrow2 (by omega)
  have HB2 := Lib.hid ((bAlloc (o := .cells #[.string ⟨#[98]⟩, .int .i64 4] 68) (by omega) HB1.out).grown hgrow2 (by simp; omega) (fun k hk => by cases hk; omega))
  have s2 : w.heap.size + 1 < w2.heap.size := by have := hgrow2.size; simp at this; omega
  have rX2 : RowC w2 w1.heap.size [.string ⟨#[98]⟩, .int .i64 4] := (RowC.made w1 [.string ⟨#[98]⟩, .int .i64 4] 68).grown hgrow2 (by omega)
  have zX2 := rX2.lt
  have X2_0 := rX2.at 0 rfl
  have X2_1 := rX2.at 1 rfl
  clear X1_0 X1_1 zX1 rX1 hown2 hgrow2 HM1a HM2a HB1 zA1 A1_0 A1_1 A1_2 A1_3 hlk1 rA1 rL1 rC1 rR1
  have zL2 := rL2.lt
  have L2_0 := rL2.at 0 rfl
  have L2_1 := rL2.at 1 rfl
  have L2_2 := rL2.at 2 rfl
  have L2_3 := rL2.at 3 rfl
  go_wp2_with fail
  rw [rounds_succ]
  go_wp2_with fail
  refine wp_loop_rounds 2 ?_
  rw [rounds_succ]
  go_wp2_with fail
  refine (cvalid_ex C R (w2.alloc (.cells #[.string ⟨#[116]⟩, .slice (some ⟨C, 0, none⟩) 2 2, .int .i64 0, .slice (some ⟨R, 0, none⟩) 1 1] 51)) (HT.out.of_below (bAlloc (by omega) HB2.out)) (rC2.alloc _) (rR2.alloc _)).mono ?_
  rintro e w3 ⟨rfl, hb3⟩
  have HO3 := Lib.hid ((show RowC (w2.alloc (.cells #[.string ⟨#[116]⟩, .slice (some ⟨C, 0, none⟩) 2 2, .int .i64 0, .slice (some ⟨R, 0, none⟩) 1 1] 51)) w2.heap.size [.string ⟨#[116]⟩, .slice (some ⟨C, 0, none⟩) 2 2, .int .i64 0, .slice (some ⟨R, 0, none⟩) 1 1] from RowC.made w2 [.string ⟨#[116]⟩, .slice (some ⟨C, 0, none⟩) 2 2, .int .i64 0, .slice (some ⟨R, 0, none⟩) 1 1] 51).below hb3 (by simp))
  have HM2c := Lib.hid ((HM2b.out.alloc (.cells #[.string ⟨#[116]⟩, .slice (some ⟨C, 0, none⟩) 2 2, .int .i64 0, .slice (some ⟨R, 0, none⟩) 1 1] 51)).below hb3 (by simp; omega))
  have rA3 := (rA2.alloc (.cells #[.string ⟨#[116]⟩, .slice (some ⟨C, 0, none⟩) 2 2, .int .i64 0, .slice (some ⟨R, 0, none⟩) 1 1] 51)).below hb3 (by simp; omega)
  have rL3 := (rL2.alloc (.cells #[.string ⟨#[116]⟩, .slice (some ⟨C, 0, none⟩) 2 2, .int .i64 0, .slice (some ⟨R, 0, none⟩) 1 1] 51)).below hb3 (by simp; omega)
  have rR3 := (rR2.alloc (.cells #[.string ⟨#[116]⟩, .slice (some ⟨C, 0, none⟩) 2 2, .int .i64 0, .slice (some ⟨R, 0, none⟩) 1 1] 51)).below hb3 (by simp; omega)
  have HB3 := Lib.hid (bThen hb3 (by simp; omega) (bAlloc (o := .cells #[.string ⟨#[116]⟩, .slice (some ⟨C, 0, none⟩) 2 2, .int .i64 0, .slice (some ⟨R, 0, none⟩) 1 1] 51) (by omega) HB2.out))
  have s3 : w2.heap.size < w3.heap.size := by have := hb3.size; simp at this; omega
  clear hb3 HM2b HB2 zL2 L2_0 L2_1 L2_2 L2_3 rA2 rL2 rC2 rR2
  have O3_0 := HO3.out.at 0 rfl
  have O3_1 := HO3.out.at 1 rfl
  have O3_2 := HO3.out.at 2 rfl
  have O3_3 := HO3.out.at 3 rfl
  have hlk3 := MapAt.look_at (t := 114) (e := 4) (z := .bool false) (key := .string ⟨#[116]⟩) (v := .bool false) HM2c.out keyS Tryd.underlying114 rfl (key_s ⟨#[116]⟩ (by decide)) rfl
  go_wp2_with (first | (at_mapUpdate; refine wpList_mapUpdate_own _ rfl _ _ _ 114 rfl 9 4 keyS Tryd.underlying114 heldElem (w.heap.size + 1) 0 _ rfl HM2c.out (by unfold maxLen; omega) _ _ _ rfl rfl (key_s ⟨#[116]⟩ (by decide)) (.held (.bool true)) [] rfl ?_))
  intro w4 hown4 hgrow4
  have rA4 := rA3.grown hgrow4 (by omega)
  have rL4 := rL3.grown hgrow4 (by omega)
  have rR4 := rR3.grown hgrow4 (by omega)
  have rO4 := HO3.out.grown hgrow4 (by omega)
  have HB4 := Lib.hid (HB3.out.grown hgrow4 (by omega) (fun k hk => by cases hk; omega))
  have s4 : w2.heap.size < w4.heap.size := by have := hgrow4.size; omega
  clear hown4 hgrow4 HM2c HB3 O3_0 O3_1 O3_2 O3_3 hlk3 rA3 rL3 rR3 HO3
  have O4_0 := rO4.at 0 rfl
  have O4_1 := rO4.at 1 rfl
  have O4_2 := rO4.at 2 rfl
  have O4_3 := rO4.at 3 rfl
  go_wp2_with fail
  refine (good_any ⟨#[116]⟩ w4).mono ?_
  rintro e w' ⟨rfl, rfl⟩
  rw [show decide (1 ≤ (⟨#[116]⟩ : ByteArray).size ∧ (⟨#[116]⟩ : ByteArray).size ≤ 12) = true by decide]
  go_wp2_with fail
  rw [rounds_succ]
  go_wp2_with fail
  refine (undef_ex A L C R w4 rA4 rL4 rR4).mono ?_
  rintro e w5 ⟨rfl, hb5⟩
  go_wp2_with fail
  go_ret
  exact ⟨rfl, bThen hb5 HB4.out.size HB4.out⟩
end Go.Proofs.YtepldfnplfhncaaDoor
