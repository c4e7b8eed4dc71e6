/- linker.Link at the example of layer 22. -/
import Derived.Test.YtepldfnplfhncaaDoorLinK
import Derived.StillTailTactics
set_option linter.unusedVariables false
set_option linter.unusedSimpArgs false
namespace Go.Proofs.YtepldfnplfhncaaDoor
open Go.RowKit Go.Maps Go.WideMaps

theorem RowC.put {w : World} {b : Nat} {l : List Value} (h : RowC w b l) (k : Nat) (v : Value) : RowC (w.setCell ⟨b, k, none⟩ v) b (l.set k v) := by
  refine ⟨by simpa [World.setCell] using h.1, fun j u hj => ?_⟩
  rw [List.getElem?_set] at hj
  by_cases e : k = j
  · subst e
    rw [if_pos rfl] at hj
    by_cases hl : k < l.length
    · rw [if_pos hl] at hj
      injection hj with hj
      subst hj
      exact World.cell?_setCell_same _ _ _ (h.2 k l[k] (List.getElem?_eq_getElem hl))
    · rw [if_neg hl] at hj; cases hj
  · rw [if_neg e] at hj
    exact (World.cell?_setCell_other _ _ _ _ (by intro h; injection h with _ h; exact e h)).trans (h.2 j u hj)
theorem RowC.far {w : World} {b : Nat} {l : List Value} (h : RowC w b l) {a : Addr} (hne : b ≠ a.block) (v : Value) : RowC (w.setCell a v) b l :=
  ⟨by simpa [World.setCell] using h.1, fun k u hk => (World.cell?_setCell_other _ _ _ _ (by intro e; exact hne (by rw [e]))).trans (h.2 k u hk)⟩
/-- What Link leaves at the example. -/
def LinkPost (w : World) (e : Ending) (w' : World) : Prop :=
  ∃ g1 c1 g2 c2 pe qe, e = .returned (.tuple #[.agg #[.slice (some ⟨g1, 0, none⟩) 2 c1, .slice pe 1 qe, .int .i64 7, .int .i64 2], .slice (some ⟨g2, 0, none⟩) 2 c2, .int .i64 0]) ∧ g1 < w'.heap.size ∧ g2 < w'.heap.size ∧
    w'.cell? ⟨g1, 0, none⟩ = some (.int .u32 (encV 20 2 3 0 4)) ∧ w'.cell? ⟨g2, 3, none⟩ = some (.string ⟨#[98]⟩) ∧ w'.cell? ⟨g2, 4, none⟩ = some (.int .i64 3) ∧ w'.cell? ⟨g2, 5, none⟩ = some (.int .i64 1) ∧ Below w.heap.size w w'

set_option maxHeartbeats 6400000 in
set_option maxRecDepth 20000 in
theorem link_ex (A L C R : Nat) (w : World) (hT : Tab w) (hA : RowC w A [.string ⟨#[97]⟩, .int .i64 3, .string ⟨#[98]⟩, .int .i64 4]) (hL : RowC w L [.string ⟨#[116]⟩, .slice (some ⟨C, 0, none⟩) 2 2, .int .i64 0, .slice (some ⟨R, 0, none⟩) 1 1]) (hC : RowC w C [.int .u8 20, .int .i64 2, .int .i64 3, .int .i64 0, .int .i64 1, .int .u8 1, .int .i64 0, .int .i64 0, .int .i64 0, .int .i64 0]) (hR : RowC w R [.int .i64 0, .string ⟨#[98]⟩, .bool false]) :
    Calls Tryd.prog 16 #[.slice (some ⟨A, 0, none⟩) 2 2, .slice (some ⟨L, 0, none⟩) 1 1] w (LinkPost w) := by
  have hmm := @run_makeMap Tryd.prog
  have hTa : Tab (w.alloc (.cells #[.slice none 0 0, .slice none 0 0, .int .i64 0, .int .i64 0] 25)) := hT.of_below (bAlloc (Nat.le_refl _) (Below.refl _ _))
  have hlk := linkable_ex A L C R (w.alloc (.cells #[.slice none 0 0, .slice none 0 0, .int .i64 0, .int .i64 0] 25)) hTa (hA.alloc _) (hL.alloc _) (hC.alloc _) (hR.alloc _)
  have HA := Lib.hid (hA.alloc (.cells #[.slice none 0 0, .slice none 0 0, .int .i64 0, .int .i64 0] 25))
  have HL := Lib.hid (hL.alloc (.cells #[.slice none 0 0, .slice none 0 0, .int .i64 0, .int .i64 0] 25))
  have HC := Lib.hid (hC.alloc (.cells #[.slice none 0 0, .slice none 0 0, .int .i64 0, .int .i64 0] 25))
  have HR := Lib.hid (hR.alloc (.cells #[.slice none 0 0, .slice none 0 0, .int .i64 0, .int .i64 0] 25))
  have HT := Lib.hid hTa
  have HLK := Lib.hid hlk
  have HB := Lib.hid (show Below w.heap.size w (w.alloc (.cells #[.slice none 0 0, .slice none 0 0, .int .i64 0, .int .i64 0] 25)) from bAlloc (Nat.le_refl _) (Below.refl _ _))
  have HX := Lib.hid (show RowC (w.alloc (.cells #[.slice none 0 0, .slice none 0 0, .int .i64 0, .int .i64 0] 25)) w.heap.size [.slice none 0 0, .slice none 0 0, .int .i64 0, .int .i64 0] from RowC.made w [.slice none 0 0, .slice none 0 0, .int .i64 0, .int .i64 0] 25)
  have HXF := Lib.hid (show ∀ k, (w.alloc (.cells #[.slice none 0 0, .slice none 0 0, .int .i64 0, .int .i64 0] 25)).frozen? ⟨w.heap.size, k, none⟩ = false from fun k => by unfold World.frozen?; rw [heap_alloc_new w]; rfl)
  clear hTa hlk hA hL hC hR hT
  go_enter Tryd.func16, Tryd.ntmps16
  go_wp2_with fail
  refine HLK.out.mono ?_
  rintro e w1 ⟨rfl, hb1⟩
  have HA1 := Lib.hid (HA.out.below hb1 HA.out.lt)
  have HL1 := Lib.hid (HL.out.below hb1 HL.out.lt)
  have HC1 := Lib.hid (HC.out.below hb1 HC.out.lt)
  have HR1 := Lib.hid (HR.out.below hb1 HR.out.lt)
  have HX1 := Lib.hid (HX.out.below hb1 HX.out.lt)
  have HXF1 : Hid (∀ k, w1.frozen? ⟨w.heap.size, k, none⟩ = false) := (show ∀ k, _ from fun k => (World.frozen?_of_block (a := ⟨w.heap.size, k, none⟩) (hb1.block _ HX.out.lt)).trans (HXF.out k))
  have HT1 := Lib.hid (HT.out.of_below hb1)
  have HB1 := Lib.hid (bThen hb1 HB.out.size HB.out)
  clear HA HL HC HR HT HLK HB HX HXF hb1
  go_wp2_with fail
  obtain ⟨c0, hK⟩ := LkAt.made w1
  have HK := Lib.hid hK
  clear hK
  generalize (w1.alloc (.cells #[.slice none 0 0, .slice none 0 0, .int .i64 0, .int .i64 0] 25)).alloc (.map #[] 0) = w2 at HK ⊢
  obtain ⟨gm, hgm⟩ : ∃ g, g = w1.heap.size + 1 := ⟨_, rfl⟩
  rw [← hgm] at HK ⊢
  obtain ⟨gi, hgi⟩ : ∃ g, g = w1.heap.size := ⟨_, rfl⟩
  rw [← hgi] at HK ⊢
  clear hgm hgi
  refine wp_loop_rounds 3 ?_
  rw [rounds_succ]
  have rA := HA1.out.below HK.out.bel HA1.out.lt
  have zA := rA.lt
  have A_0 := rA.at 0 rfl
  have A_1 := rA.at 1 rfl
  have A_2 := rA.at 2 rfl
  have A_3 := rA.at 3 rfl
  clear rA
  have bxs := HK.out.im.box.s
  have lgi := HK.out.im.lt
  have bb : Below w2.heap.size w2 (((w2.alloc (.cells #[.string (⟨#[97]⟩ : ByteArray), .int .i64 3] 68)).alloc (.cells #[.string (⟨#[97]⟩ : ByteArray), .int .i64 0, .int .i64 0] 70)).alloc (.cells #[.string (⟨#[97]⟩ : ByteArray), .int .i64 0, .int .i64 0] 70)) := bAlloc (by simp; omega) (bAlloc (by simp) (bAlloc (Nat.le_refl _) (Below.refl _ _)))
  have HO := Lib.hid (own0_block HK.out.ls.1 (w' := (((w2.alloc (.cells #[.string (⟨#[97]⟩ : ByteArray), .int .i64 3] 68)).alloc (.cells #[.string (⟨#[97]⟩ : ByteArray), .int .i64 0, .int .i64 0] 70)).alloc (.cells #[.string (⟨#[97]⟩ : ByteArray), .int .i64 0, .int .i64 0] 70))) fun b hb => bb.block b (own0_lt HK.out.ls.1 hb))
  have HBB := Lib.hid bb
  have HS := Lib.hid (show RowC (((w2.alloc (.cells #[.string (⟨#[97]⟩ : ByteArray), .int .i64 3] 68)).alloc (.cells #[.string (⟨#[97]⟩ : ByteArray), .int .i64 0, .int .i64 0] 70)).alloc (.cells #[.string (⟨#[97]⟩ : ByteArray), .int .i64 0, .int .i64 0] 70)) w2.heap.size [.string (⟨#[97]⟩ : ByteArray), .int .i64 3] from ((RowC.made w2 [.string (⟨#[97]⟩ : ByteArray), .int .i64 3] 68).alloc _).alloc _)
  have HY := Lib.hid (show RowC (((w2.alloc (.cells #[.string (⟨#[97]⟩ : ByteArray), .int .i64 3] 68)).alloc (.cells #[.string (⟨#[97]⟩ : ByteArray), .int .i64 0, .int .i64 0] 70)).alloc (.cells #[.string (⟨#[97]⟩ : ByteArray), .int .i64 0, .int .i64 0] 70)) (w2.heap.size + 1) [.string (⟨#[97]⟩ : ByteArray), .int .i64 0, .int .i64 0] by have h := (RowC.made (w2.alloc (.cells #[.string (⟨#[97]⟩ : ByteArray), .int .i64 3] 68)) [.string (⟨#[97]⟩ : ByteArray), .int .i64 0, .int .i64 0] 70).alloc (.cells #[.string (⟨#[97]⟩ : ByteArray), .int .i64 0, .int .i64 0] 70); simpa only [size_alloc1] using h)
  have HZ := Lib.hid (show RowC (((w2.alloc (.cells #[.string (⟨#[97]⟩ : ByteArray), .int .i64 3] 68)).alloc (.cells #[.string (⟨#[97]⟩ : ByteArray), .int .i64 0, .int .i64 0] 70)).alloc (.cells #[.string (⟨#[97]⟩ : ByteArray), .int .i64 0, .int .i64 0] 70)) (w2.heap.size + 1 + 1) [.string (⟨#[97]⟩ : ByteArray), .int .i64 0, .int .i64 0] by have h := RowC.made ((w2.alloc (.cells #[.string (⟨#[97]⟩ : ByteArray), .int .i64 3] 68)).alloc (.cells #[.string (⟨#[97]⟩ : ByteArray), .int .i64 0, .int .i64 0] 70)) [.string (⟨#[97]⟩ : ByteArray), .int .i64 0, .int .i64 0] 70; simpa only [size_alloc1] using h)
  clear bb
  go_wp2_with (first | (at_builtin; refine wpList_append_one rfl _ _ 45 70 (.agg #[.string .empty, .int .i64 0, .int .i64 0]) 3 32 rfl Tryd.underlying45 infoSy rfl (by decide) (by decide) (.slice none 0 0) 0 _ rfl HO.out (w2.heap.size + 1 + 1) 1 [.string (⟨#[97]⟩ : ByteArray), .int .i64 0, .int .i64 0] rfl rfl HZ.out.2 (by simp [Value.oneCell']) (by omega) ?_))
  intro p0 q0 w30 hO hgr hd
  have HK3 := Lib.hid (HK.out.push (s := ((⟨#[97]⟩ : ByteArray), 0, 0)) HBB.out hgr hO (hd.imp id fun h b e => by have := h b e; simp at this ⊢; omega))
  have hne : ∀ b, w2.heap.size ≤ b → ((.slice none 0 0) : Value).ownBlock ≠ some b := fun b hb e => by have := own0_lt HK.out.ls.1 e; omega
  have HS3 := Lib.hid (HS.out.past hgr (hne _ (Nat.le_refl _)))
  have HY3 := Lib.hid (HY.out.past hgr (hne _ (Nat.le_succ _)))
  have hz3 : w2.heap.size + 1 < w30.heap.size := HY3.out.lt
  clear HO HBB HS HY HZ hO hgr hd hne bxs lgi
  clear zA A_0 A_1 A_2 A_3
  have S0 := HS3.out.at 0 rfl
  have S1 := HS3.out.at 1 rfl
  have Y0 := HY3.out.at 0 rfl
  have Y1 := HY3.out.at 1 rfl
  have Y2 := HY3.out.at 2 rfl
  go_wp2_with (first | (at_mapUpdate; refine wpList_mapUpdate_own _ rfl _ _ _ 88 rfl 9 70 keyS Tryd.underlying88 heldElem gm 0 _ rfl HK3.out.mp (by unfold maxLen; omega) _ _ _ rfl rfl (key_s (⟨#[97]⟩ : ByteArray) (by decide)) (.held (.agg #[.string (⟨#[97]⟩ : ByteArray), .int .i64 0, .int .i64 0])) [] rfl ?_))
  intro w40 hown hgr
  have HK4 : Hid (LkAt w1 gi gm [] [] 0 0 ([] ++ [((⟨#[97]⟩ : ByteArray), 0, 0)]) 1 (DataW.put (.map []) (.string [97]) (.held (.agg #[.string (⟨#[97]⟩ : ByteArray), .int .i64 0, .int .i64 0]))) _ w40 (.slice none 0 0) (.slice none 0 0) (.slice p0 (0 + 1) q0)) := HK3.out.map hown hgr
  have hgne : w2.heap.size ≠ gm := fun e => by have := HK.out.mp.lt; omega
  have rS4 := HS3.out.grown hgr hgne
  have hz4 : w2.heap.size < w40.heap.size := rS4.lt
  clear hown hgr hgne S0 S1 Y0 Y1 Y2 hz3 HS3 HY3 HK3 HK
  have S0 := rS4.at 0 rfl
  have S1 := rS4.at 1 rfl
  have bxs := HK4.out.im.box.s
  have lgi := HK4.out.im.lt
  have fzi := HK4.out.im.fz 2
  have HK5 := Lib.hid (HK4.out.setS 3)
  go_wp2_with fail
  clear S0 S1 bxs lgi fzi rS4 hz4 HK4
  generalize w40.setCell ⟨gi, 2, none⟩ (.int .i64 3) = w50 at HK5 ⊢
  rw [rounds_succ]
  have HKa0 := HK5
  clear HK5
  have rA := HA1.out.below HKa0.out.bel HA1.out.lt
  have zA := rA.lt
  have A_0 := rA.at 0 rfl
  have A_1 := rA.at 1 rfl
  have A_2 := rA.at 2 rfl
  have A_3 := rA.at 3 rfl
  clear rA
  have bxs := HKa0.out.im.box.s
  have lgi := HKa0.out.im.lt
  have bb : Below w50.heap.size w50 (((w50.alloc (.cells #[.string (⟨#[98]⟩ : ByteArray), .int .i64 4] 68)).alloc (.cells #[.string (⟨#[98]⟩ : ByteArray), .int .i64 3, .int .i64 1] 70)).alloc (.cells #[.string (⟨#[98]⟩ : ByteArray), .int .i64 3, .int .i64 1] 70)) := bAlloc (by simp; omega) (bAlloc (by simp) (bAlloc (Nat.le_refl _) (Below.refl _ _)))
  have HO := Lib.hid (own0_block HKa0.out.ls.1 (w' := (((w50.alloc (.cells #[.string (⟨#[98]⟩ : ByteArray), .int .i64 4] 68)).alloc (.cells #[.string (⟨#[98]⟩ : ByteArray), .int .i64 3, .int .i64 1] 70)).alloc (.cells #[.string (⟨#[98]⟩ : ByteArray), .int .i64 3, .int .i64 1] 70))) fun b hb => bb.block b (own0_lt HKa0.out.ls.1 hb))
  have HBB := Lib.hid bb
  have HS := Lib.hid (show RowC (((w50.alloc (.cells #[.string (⟨#[98]⟩ : ByteArray), .int .i64 4] 68)).alloc (.cells #[.string (⟨#[98]⟩ : ByteArray), .int .i64 3, .int .i64 1] 70)).alloc (.cells #[.string (⟨#[98]⟩ : ByteArray), .int .i64 3, .int .i64 1] 70)) w50.heap.size [.string (⟨#[98]⟩ : ByteArray), .int .i64 4] from ((RowC.made w50 [.string (⟨#[98]⟩ : ByteArray), .int .i64 4] 68).alloc _).alloc _)
  have HY := Lib.hid (show RowC (((w50.alloc (.cells #[.string (⟨#[98]⟩ : ByteArray), .int .i64 4] 68)).alloc (.cells #[.string (⟨#[98]⟩ : ByteArray), .int .i64 3, .int .i64 1] 70)).alloc (.cells #[.string (⟨#[98]⟩ : ByteArray), .int .i64 3, .int .i64 1] 70)) (w50.heap.size + 1) [.string (⟨#[98]⟩ : ByteArray), .int .i64 3, .int .i64 1] by have h := (RowC.made (w50.alloc (.cells #[.string (⟨#[98]⟩ : ByteArray), .int .i64 4] 68)) [.string (⟨#[98]⟩ : ByteArray), .int .i64 3, .int .i64 1] 70).alloc (.cells #[.string (⟨#[98]⟩ : ByteArray), .int .i64 3, .int .i64 1] 70); simpa only [size_alloc1] using h)
  have HZ := Lib.hid (show RowC (((w50.alloc (.cells #[.string (⟨#[98]⟩ : ByteArray), .int .i64 4] 68)).alloc (.cells #[.string (⟨#[98]⟩ : ByteArray), .int .i64 3, .int .i64 1] 70)).alloc (.cells #[.string (⟨#[98]⟩ : ByteArray), .int .i64 3, .int .i64 1] 70)) (w50.heap.size + 1 + 1) [.string (⟨#[98]⟩ : ByteArray), .int .i64 3, .int .i64 1] by have h := RowC.made ((w50.alloc (.cells #[.string (⟨#[98]⟩ : ByteArray), .int .i64 4] 68)).alloc (.cells #[.string (⟨#[98]⟩ : ByteArray), .int .i64 3, .int .i64 1] 70)) [.string (⟨#[98]⟩ : ByteArray), .int .i64 3, .int .i64 1] 70; simpa only [size_alloc1] using h)
  clear bb
  go_wp2_with (first | (at_builtin; refine wpList_append_one rfl _ _ 45 70 (.agg #[.string .empty, .int .i64 0, .int .i64 0]) 3 32 rfl Tryd.underlying45 infoSy rfl (by decide) (by decide) (.slice p0 (0 + 1) q0) 1 _ rfl HO.out (w50.heap.size + 1 + 1) 1 [.string (⟨#[98]⟩ : ByteArray), .int .i64 3, .int .i64 1] rfl rfl HZ.out.2 (by simp [Value.oneCell']) (by omega) ?_))
  intro p1 q1 w31 hO hgr hd
  have HK3 := Lib.hid (HKa0.out.push (s := ((⟨#[98]⟩ : ByteArray), 3, 1)) HBB.out hgr hO (hd.imp id fun h b e => by have := h b e; simp at this ⊢; omega))
  have hne : ∀ b, w50.heap.size ≤ b → ((.slice p0 (0 + 1) q0) : Value).ownBlock ≠ some b := fun b hb e => by have := own0_lt HKa0.out.ls.1 e; omega
  have HS3 := Lib.hid (HS.out.past hgr (hne _ (Nat.le_refl _)))
  have HY3 := Lib.hid (HY.out.past hgr (hne _ (Nat.le_succ _)))
  have hz3 : w50.heap.size + 1 < w31.heap.size := HY3.out.lt
  clear HO HBB HS HY HZ hO hgr hd hne bxs lgi
  clear zA A_0 A_1 A_2 A_3
  have S0 := HS3.out.at 0 rfl
  have S1 := HS3.out.at 1 rfl
  have Y0 := HY3.out.at 0 rfl
  have Y1 := HY3.out.at 1 rfl
  have Y2 := HY3.out.at 2 rfl
  go_wp2_with (first | (at_mapUpdate; refine wpList_mapUpdate_own _ rfl _ _ _ 88 rfl 9 70 keyS Tryd.underlying88 heldElem gm 1 _ rfl HK3.out.mp (by unfold maxLen; omega) _ _ _ rfl rfl (key_s (⟨#[98]⟩ : ByteArray) (by decide)) (.held (.agg #[.string (⟨#[98]⟩ : ByteArray), .int .i64 3, .int .i64 1])) [] rfl ?_))
  intro w41 hown hgr
  have HK4 : Hid (LkAt w1 gi gm [] [] 3 0 (([] ++ [((⟨#[97]⟩ : ByteArray), 0, 0)]) ++ [((⟨#[98]⟩ : ByteArray), 3, 1)]) 2 (DataW.put (DataW.put (.map []) (.string [97]) (.held (.agg #[.string (⟨#[97]⟩ : ByteArray), .int .i64 0, .int .i64 0]))) (.string [98]) (.held (.agg #[.string (⟨#[98]⟩ : ByteArray), .int .i64 3, .int .i64 1]))) _ w41 (.slice none 0 0) (.slice none 0 0) (.slice p1 (1 + 1) q1)) := HK3.out.map hown hgr
  have hgne : w50.heap.size ≠ gm := fun e => by have := HKa0.out.mp.lt; omega
  have rS4 := HS3.out.grown hgr hgne
  have hz4 : w50.heap.size < w41.heap.size := rS4.lt
  clear hown hgr hgne S0 S1 Y0 Y1 Y2 hz3 HS3 HY3 HK3 HKa0
  have S0 := rS4.at 0 rfl
  have S1 := rS4.at 1 rfl
  have bxs := HK4.out.im.box.s
  have lgi := HK4.out.im.lt
  have fzi := HK4.out.im.fz 2
  have HK5 := Lib.hid (HK4.out.setS 7)
  go_wp2_with fail
  clear S0 S1 bxs lgi fzi rS4 hz4 HK4
  generalize w41.setCell ⟨gi, 2, none⟩ (.int .i64 7) = w51 at HK5 ⊢
  rw [rounds_succ]
  have HKa1 := HK5
  clear HK5
  have lgi := HKa1.out.im.lt
  have bxl := HKa1.out.im.box.l
  have fzi := HKa1.out.im.fz 3
  have HK6 := Lib.hid (HKa1.out.setL 2)
  clear HKa1
  go_upto_region 17 with fail
  generalize w51.setCell ⟨gi, 3, none⟩ (.int .i64 2) = w6 at HK6 ⊢
  clear lgi bxl fzi
  have rL := HL1.out.below HK6.out.bel HL1.out.lt
  have zL := rL.lt
  have L_0 := rL.at 0 rfl
  have L_1 := rL.at 1 rfl
  have L_2 := rL.at 2 rfl
  have L_3 := rL.at 3 rfl
  clear rL
  have bxc := HK6.out.im.box.c
  have lgi := HK6.out.im.lt
  refine wp_loop_rounds 2 ?_
  rw [rounds_succ]
  go_wp2_with fail
  have rCo := (HC1.out.below HK6.out.bel HC1.out.lt).alloc (.cells #[.string ⟨#[116]⟩, .slice (some ⟨C, 0, none⟩) 2 2, .int .i64 0, .slice (some ⟨R, 0, none⟩) 1 1] 51)
  refine (clone_ex C (w6.alloc (.cells #[.string ⟨#[116]⟩, .slice (some ⟨C, 0, none⟩) 2 2, .int .i64 0, .slice (some ⟨R, 0, none⟩) 1 1] 51)) rCo).mono ?_
  rintro e w7 ⟨g, cc, cur, rfl, hg, hh, htk, hb7⟩
  have hs6 : (w6.alloc (.cells #[.string ⟨#[116]⟩, .slice (some ⟨C, 0, none⟩) 2 2, .int .i64 0, .slice (some ⟨R, 0, none⟩) 1 1] 51)).heap.size = w6.heap.size + 1 := by simp
  rw [hs6] at hg
  have hbO : Below w6.heap.size w6 w7 := (show Below w6.heap.size w6 (w6.alloc (.cells #[.string ⟨#[116]⟩, .slice (some ⟨C, 0, none⟩) 2 2, .int .i64 0, .slice (some ⟨R, 0, none⟩) 1 1] 51)) from bAlloc (Nat.le_refl _) (Below.refl _ _)).trans (hb7.mono (by simp))
  obtain ⟨c7, HK7, HCG, HCO'⟩ : ∃ c7, Hid (LkAt w1 gi gm [] [] 7 2 (([] ++ [((⟨#[97]⟩ : ByteArray), 0, 0)]) ++ [((⟨#[98]⟩ : ByteArray), 3, 1)]) 2 (DataW.put (DataW.put (.map []) (.string [97]) (.held (.agg #[.string (⟨#[97]⟩ : ByteArray), .int .i64 0, .int .i64 0]))) (.string [98]) (.held (.agg #[.string (⟨#[98]⟩ : ByteArray), .int .i64 3, .int .i64 1]))) c7 w7 (.slice none 0 0) (.slice none 0 0) (.slice p1 (1 + 1) q1)) ∧ Hid (c7 g = 0) ∧ Hid (c7 w6.heap.size = 0) := ⟨_, HK6.out.keep hbO, paint_ge (by omega), paint_ge (Nat.le_refl _)⟩
  have rO7 : RowC w7 w6.heap.size [.string ⟨#[116]⟩, .slice (some ⟨C, 0, none⟩) 2 2, .int .i64 0, .slice (some ⟨R, 0, none⟩) 1 1] := (RowC.made w6 [.string ⟨#[116]⟩, .slice (some ⟨C, 0, none⟩) 2 2, .int .i64 0, .slice (some ⟨R, 0, none⟩) 1 1] 51).below hb7 (by simp)
  have rG7 : RowC w7 g [.int .u8 20, .int .i64 2, .int .i64 3, .int .i64 0, .int .i64 1, .int .u8 1, .int .i64 0, .int .i64 0, .int .i64 0, .int .i64 0] := ⟨ltB hh, fun k u hk => by
    have hkl : k < 10 := by obtain ⟨h, _⟩ := List.getElem?_eq_some_iff.1 hk; simpa using h
    have h1 : (cur.toList.take 10)[k]? = some u := by rw [htk]; exact hk
    rw [List.getElem?_take, if_pos hkl] at h1
    simp only [World.cell?, hh, Option.isSome_none, Bool.false_eq_true, if_false]
    rw [← Array.getElem?_toList]; exact h1⟩
  have fG7 : w7.frozen? ⟨g, 4, none⟩ = false := by simp [World.frozen?, hh]
  have hB6 := HK6.out.im.big
  have hbg : w1.heap.size ≤ g := by omega
  have hbx : w.heap.size < w1.heap.size := HX1.out.lt
  have HO7 := Lib.hid rO7
  have HG7 := Lib.hid rG7
  have HBG := Lib.hid hbg
  obtain ⟨ob, hob⟩ : ∃ o, o = w6.heap.size := ⟨_, rfl⟩
  rw [← hob] at HO7 HCO' ⊢
  have HCO := HCO'
  have hog : ob ≠ g := by omega
  clear hh htk hb7 hbO hg hs6 rCo rO7 hB6 hbg hob HK6 HCO' bxc lgi
  clear zL L_0 L_1 L_2 L_3
  have zO := HO7.out.lt
  have O_0 := HO7.out.at 0 rfl
  have O_1 := HO7.out.at 1 rfl
  have O_2 := HO7.out.at 2 rfl
  have O_3 := HO7.out.at 3 rfl
  have rR := HR1.out.below HK7.out.bel HR1.out.lt
  have zR := rR.lt
  have R_0 := rR.at 0 rfl
  have R_1 := rR.at 1 rfl
  have R_2 := rR.at 2 rfl
  clear rR
  have zG := rG7.lt
  have G_0 := rG7.at 0 rfl
  have G_1 := rG7.at 1 rfl
  have G_2 := rG7.at 2 rfl
  have G_3 := rG7.at 3 rfl
  have G_4 := rG7.at 4 rfl
  have G_5 := rG7.at 5 rfl
  have G_6 := rG7.at 6 rfl
  have G_7 := rG7.at 7 rfl
  have G_8 := rG7.at 8 rfl
  have G_9 := rG7.at 9 rfl
  have hb8 : Below w7.heap.size w7 (w7.alloc (.cells #[.int .i64 0, .string ⟨#[98]⟩, .bool false] 66)) := bAlloc (Nat.le_refl _) (Below.refl _ _)
  have hg8 : paint c7 w7.heap.size 0 g = 0 := by rw [paint_lt rG7.lt]; exact HCG.out
  have ho8 : paint c7 w7.heap.size 0 ob = 0 := by rw [paint_lt HO7.out.lt]; exact HCO.out
  have HK8 := Lib.hid (HK7.out.keep hb8)
  have HG8 := Lib.hid (HG7.out.alloc (.cells #[.int .i64 0, .string ⟨#[98]⟩, .bool false] 66))
  have HO8 := Lib.hid (HO7.out.alloc (.cells #[.int .i64 0, .string ⟨#[98]⟩, .bool false] 66))
  have HR8 := Lib.hid (RowC.made w7 [.int .i64 0, .string ⟨#[98]⟩, .bool false] 66)
  have HF8 : Hid ((w7.alloc (.cells #[.int .i64 0, .string ⟨#[98]⟩, .bool false] 66)).frozen? ⟨g, 4, none⟩ = false) := (show _ = _ from (World.frozen?_of_block (a := ⟨g, 4, none⟩) (hb8.block g rG7.lt)).trans fG7)
  have HCG8 := Lib.hid hg8
  have HCO8 := Lib.hid ho8
  clear hg8 ho8 hb8 rG7 fG7
  go_wp2_with fail
  refine wp_loop_rounds 2 ?_
  rw [rounds_succ]
  go_wp2_with fail
  clear zO O_0 O_1 O_2 O_3
  clear zR R_0 R_1 R_2
  clear zG G_0 G_1 G_2 G_3 G_4 G_5 G_6 G_7 G_8 G_9
  clear HK7 HO7 HG7 HCG HCO
  obtain ⟨rb, hrb⟩ : ∃ b, b = w7.heap.size := ⟨_, rfl⟩
  rw [← hrb] at HR8 ⊢
  obtain ⟨c8, hc8⟩ : ∃ c, c = paint c7 w7.heap.size 0 := ⟨_, rfl⟩
  rw [← hc8] at HK8 HCG8 HCO8
  clear hrb hc8
  generalize (w7.alloc (.cells #[.int .i64 0, .string ⟨#[98]⟩, .bool false] 66)) = w8 at HK8 HG8 HO8 HR8 HF8 ⊢
  have hlk : (Instr.lookup 88 (.map (some gm)) (.string ⟨#[98]⟩) false).run Tryd.prog w8.drew = .ok (.agg #[.string ⟨#[98]⟩, .int .i64 3, .int .i64 1]) w8.drew := MapAt.look_at (t := 88) (e := 70) (z := .agg #[.string .empty, .int .i64 0, .int .i64 0]) (key := .string ⟨#[98]⟩) (v := .agg #[.string ⟨#[98]⟩, .int .i64 3, .int .i64 1]) (HK8.out.mp.of_block (w' := w8.drew) rfl) keyS Tryd.underlying88 (by kernel_rfl) (key_s ⟨#[98]⟩ (by decide)) rfl
  have hfd : ∀ W : World, (Instr.field 70 (.agg #[.string ⟨#[98]⟩, .int .i64 3, .int .i64 1]) 1).run Tryd.prog W = .ok (.int .i64 3) W := fun _ => by kernel_rfl
  have R8_0 := HR8.out.at 0 rfl
  have R8_1 := HR8.out.at 1 rfl
  have R8_z := HR8.out.lt
  have G8_4 := HG8.out.at 4 rfl
  have G8_z := HG8.out.lt
  have G8_f := HF8.out
  have HK9 := Lib.hid ((HK8.out.put (a := ⟨g, 4, none⟩) HCG8.out HBG.out (.int .i64 4)).keep (Below.refl _ _).drew)
  have HG9 := Lib.hid ((HG8.out.put 4 (.int .i64 4)).below (Below.refl _ _).drew (HG8.out.put 4 (.int .i64 4)).lt)
  have HO9 := Lib.hid ((HO8.out.far (a := ⟨g, 4, none⟩) hog (.int .i64 4)).below (Below.refl _ _).drew (HO8.out.far (a := ⟨g, 4, none⟩) hog (.int .i64 4)).lt)
  have HCG9 : Hid (_ = 0) := (show paint c8 (w8.setCell ⟨g, 4, none⟩ (.int .i64 4)).heap.size 0 g = 0 by rw [paint_lt (by simp [World.setCell]; have := HG8.out.lt; omega)]; exact HCG8.out)
  have HCO9 : Hid (_ = 0) := (show paint c8 (w8.setCell ⟨g, 4, none⟩ (.int .i64 4)).heap.size 0 ob = 0 by rw [paint_lt (by simp [World.setCell]; have := HO8.out.lt; omega)]; exact HCO8.out)
  go_still_tail 14, (by kernel_rfl)
  go_upto_region 27 with fail
  clear hlk hfd R8_0 R8_1 R8_z G8_4 G8_z G8_f HK8 HG8 HO8 HR8 HF8 HCG8 HCO8
  generalize paint c8 (w8.setCell ⟨g, 4, none⟩ (.int .i64 4)).heap.size 0 = c9 at HK9 HCG9 HCO9
  generalize (w8.setCell ⟨g, 4, none⟩ (.int .i64 4)).drew = w9 at HK9 HG9 HO9 ⊢
  go_wp2_with fail
  rw [rounds_succ]
  go_wp2_with fail
  refine wp_loop_rounds 3 ?_
  rw [rounds_succ]
  have zG := HG9.out.lt
  have G_0 := HG9.out.at 0 rfl
  have G_1 := HG9.out.at 1 rfl
  have G_2 := HG9.out.at 2 rfl
  have G_3 := HG9.out.at 3 rfl
  have G_4 := HG9.out.at 4 rfl
  have G_5 := HG9.out.at 5 rfl
  have G_6 := HG9.out.at 6 rfl
  have G_7 := HG9.out.at 7 rfl
  have G_8 := HG9.out.at 8 rfl
  have G_9 := HG9.out.at 9 rfl
  have hTe : Tab (w9.alloc (.cells #[.int .u8 20, .int .i64 2, .int .i64 3, .int .i64 0, .int .i64 4] 64)) := HT1.out.of_below ((HK9.out.bel).trans (bAlloc HK9.out.im.big (Below.refl _ _)))
  have HE := Lib.hid (encode_any 20 2 3 0 4 (w9.alloc (.cells #[.int .u8 20, .int .i64 2, .int .i64 3, .int .i64 0, .int .i64 4] 64)) hTe)
  clear hTe
  go_wp2_with fail
  refine HE.out.mono ?_
  rintro e wa0 ⟨rfl, hba⟩
  rw [show encE 20 2 3 0 4 = 0 by decide]
  have hb : Below w9.heap.size w9 wa0 := (show Below w9.heap.size w9 (w9.alloc (.cells #[.int .u8 20, .int .i64 2, .int .i64 3, .int .i64 0, .int .i64 4] 64)) from bAlloc (Nat.le_refl _) (Below.refl _ _)).trans (hba.mono (by simp))
  have HKa0 := Lib.hid (HK9.out.keep hb)
  have HGa0 := Lib.hid (HG9.out.below hb HG9.out.lt)
  have HOa0 := Lib.hid (HO9.out.below hb HO9.out.lt)
  have HCGa0 : Hid (paint c9 w9.heap.size 0 g = 0) := (show _ = _ by rw [paint_lt HG9.out.lt]; exact HCG9.out)
  have HCOa0 : Hid (paint c9 w9.heap.size 0 ob = 0) := (show _ = _ by rw [paint_lt HO9.out.lt]; exact HCO9.out)
  clear hb hba HE HK9 HG9 HO9 HCG9 HCO9
  clear zG G_0 G_1 G_2 G_3 G_4 G_5 G_6 G_7 G_8 G_9
  obtain ⟨ca0, hca⟩ : ∃ c, c = paint c9 w9.heap.size 0 := ⟨_, rfl⟩
  rw [← hca] at HKa0 HCGa0 HCOa0
  clear hca
  have bxc := HKa0.out.im.box.c
  have lgi := HKa0.out.im.lt
  have bb : Below wa0.heap.size wa0 (wa0.alloc (.cells #[.int .u32 (encV 20 2 3 0 4)] 73)) := bAlloc (Nat.le_refl _) (Below.refl _ _)
  have HO := Lib.hid (own0_block HKa0.out.im.code.1 (w' := wa0.alloc (.cells #[.int .u32 (encV 20 2 3 0 4)] 73)) fun b hb => bb.block b (own0_lt HKa0.out.im.code.1 hb))
  have HBB := Lib.hid bb
  clear bb
  go_wp2_with (first | (at_builtin; refine wpList_append_one rfl _ _ 22 73 (.int .u32 0) 1 4 rfl Tryd.underlying22 infoW rfl (by decide) (by decide) (.slice none 0 0) 0 _ rfl HO.out wa0.heap.size 1 [.int .u32 (encV 20 2 3 0 4)] rfl rfl (RowC.made wa0 [.int .u32 (encV 20 2 3 0 4)] 73).2 (by simp [Value.oneCell']) (by omega) ?_))
  intro pc0 qc0 wb0 hO hgr hd
  obtain ⟨bx, fz, lt, cb0, hK, hAp⟩ := HKa0.out.growC (x := encV 20 2 3 0 4) HBB.out hgr hO (hd.imp id fun h b e => by have := h b e; simp at this ⊢; omega)
  have HKb0 := Lib.hid hK
  have HGb0 := Lib.hid (hAp g _ HGa0.out HCGa0.out).1
  have HCGb0 := Lib.hid (hAp g _ HGa0.out HCGa0.out).2
  have HOb0 := Lib.hid (hAp ob _ HOa0.out HCOa0.out).1
  have HCOb0 := Lib.hid (hAp ob _ HOa0.out HCOa0.out).2
  have b0 := bx.c
  clear hK hAp hO hgr hd HO HBB bxc lgi bx HKa0 HGa0 HOa0 HCGa0 HCOa0
  go_wp2_with fail
  clear b0 fz lt
  generalize wb0.setCell ⟨gi, 0, none⟩ (.slice pc0 (0 + 1) qc0) = wc0 at HKb0 HGb0 HOb0 ⊢
  rw [rounds_succ]
  have zG := HGb0.out.lt
  have G_0 := HGb0.out.at 0 rfl
  have G_1 := HGb0.out.at 1 rfl
  have G_2 := HGb0.out.at 2 rfl
  have G_3 := HGb0.out.at 3 rfl
  have G_4 := HGb0.out.at 4 rfl
  have G_5 := HGb0.out.at 5 rfl
  have G_6 := HGb0.out.at 6 rfl
  have G_7 := HGb0.out.at 7 rfl
  have G_8 := HGb0.out.at 8 rfl
  have G_9 := HGb0.out.at 9 rfl
  have hTe : Tab (wc0.alloc (.cells #[.int .u8 1, .int .i64 0, .int .i64 0, .int .i64 0, .int .i64 0] 64)) := HT1.out.of_below ((HKb0.out.bel).trans (bAlloc HKb0.out.im.big (Below.refl _ _)))
  have HE := Lib.hid (encode_any 1 0 0 0 0 (wc0.alloc (.cells #[.int .u8 1, .int .i64 0, .int .i64 0, .int .i64 0, .int .i64 0] 64)) hTe)
  clear hTe
  go_wp2_with fail
  refine HE.out.mono ?_
  rintro e wa1 ⟨rfl, hba⟩
  rw [show encE 1 0 0 0 0 = 0 by decide]
  have hb : Below wc0.heap.size wc0 wa1 := (show Below wc0.heap.size wc0 (wc0.alloc (.cells #[.int .u8 1, .int .i64 0, .int .i64 0, .int .i64 0, .int .i64 0] 64)) from bAlloc (Nat.le_refl _) (Below.refl _ _)).trans (hba.mono (by simp))
  have HKa1 := Lib.hid (HKb0.out.keep hb)
  have HGa1 := Lib.hid (HGb0.out.below hb HGb0.out.lt)
  have HOa1 := Lib.hid (HOb0.out.below hb HOb0.out.lt)
  have HCGa1 : Hid (paint cb0 wc0.heap.size 0 g = 0) := (show _ = _ by rw [paint_lt HGb0.out.lt]; exact HCGb0.out)
  have HCOa1 : Hid (paint cb0 wc0.heap.size 0 ob = 0) := (show _ = _ by rw [paint_lt HOb0.out.lt]; exact HCOb0.out)
  clear hb hba HE HKb0 HGb0 HOb0 HCGb0 HCOb0
  clear zG G_0 G_1 G_2 G_3 G_4 G_5 G_6 G_7 G_8 G_9
  obtain ⟨ca1, hca⟩ : ∃ c, c = paint cb0 wc0.heap.size 0 := ⟨_, rfl⟩
  rw [← hca] at HKa1 HCGa1 HCOa1
  clear hca
  have bxc := HKa1.out.im.box.c
  have lgi := HKa1.out.im.lt
  have bb : Below wa1.heap.size wa1 (wa1.alloc (.cells #[.int .u32 (encV 1 0 0 0 0)] 73)) := bAlloc (Nat.le_refl _) (Below.refl _ _)
  have HO := Lib.hid (own0_block HKa1.out.im.code.1 (w' := wa1.alloc (.cells #[.int .u32 (encV 1 0 0 0 0)] 73)) fun b hb => bb.block b (own0_lt HKa1.out.im.code.1 hb))
  have HBB := Lib.hid bb
  clear bb
  go_wp2_with (first | (at_builtin; refine wpList_append_one rfl _ _ 22 73 (.int .u32 0) 1 4 rfl Tryd.underlying22 infoW rfl (by decide) (by decide) (.slice pc0 (0 + 1) qc0) 1 _ rfl HO.out wa1.heap.size 1 [.int .u32 (encV 1 0 0 0 0)] rfl rfl (RowC.made wa1 [.int .u32 (encV 1 0 0 0 0)] 73).2 (by simp [Value.oneCell']) (by omega) ?_))
  intro pc1 qc1 wb1 hO hgr hd
  obtain ⟨bx, fz, lt, cb1, hK, hAp⟩ := HKa1.out.growC (x := encV 1 0 0 0 0) HBB.out hgr hO (hd.imp id fun h b e => by have := h b e; simp at this ⊢; omega)
  have HKb1 := Lib.hid hK
  have HGb1 := Lib.hid (hAp g _ HGa1.out HCGa1.out).1
  have HCGb1 := Lib.hid (hAp g _ HGa1.out HCGa1.out).2
  have HOb1 := Lib.hid (hAp ob _ HOa1.out HCOa1.out).1
  have HCOb1 := Lib.hid (hAp ob _ HOa1.out HCOa1.out).2
  have b0 := bx.c
  clear hK hAp hO hgr hd HO HBB bxc lgi bx HKa1 HGa1 HOa1 HCGa1 HCOa1
  go_wp2_with fail
  clear b0 fz lt
  generalize wb1.setCell ⟨gi, 0, none⟩ (.slice pc1 (1 + 1) qc1) = wc1 at HKb1 HGb1 HOb1 ⊢
  rw [rounds_succ]
  have zO := HOb1.out.lt
  have O_0 := HOb1.out.at 0 rfl
  have O_1 := HOb1.out.at 1 rfl
  have O_2 := HOb1.out.at 2 rfl
  have O_3 := HOb1.out.at 3 rfl
  have hx := HKb1.out.im.box
  have bxc := hx.c
  have bxe := hx.e
  have lgi := HKb1.out.im.lt
  clear hx
  have bb : Below wc1.heap.size wc1 (wc1.alloc (.cells #[.string ⟨#[116]⟩, .int .i64 0, .int .i64 2, .int .i64 0] 61)) := bAlloc (Nat.le_refl _) (Below.refl _ _)
  have HO := Lib.hid (own0_block HKb1.out.im.ents.1 (w' := wc1.alloc (.cells #[.string ⟨#[116]⟩, .int .i64 0, .int .i64 2, .int .i64 0] 61)) fun b hb => bb.block b (own0_lt HKb1.out.im.ents.1 hb))
  have HBB := Lib.hid bb
  clear bb
  go_wp2_with (first | (at_builtin; refine wpList_append_one rfl _ _ 23 61 (.agg #[.string .empty, .int .i64 0, .int .i64 0, .int .i64 0]) 4 40 rfl Tryd.underlying23 infoE rfl (by decide) (by decide) (.slice none 0 0) 0 _ rfl HO.out wc1.heap.size 1 [.string ⟨#[116]⟩, .int .i64 0, .int .i64 2, .int .i64 0] rfl rfl (RowC.made wc1 [.string ⟨#[116]⟩, .int .i64 0, .int .i64 2, .int .i64 0] 61).2 (by simp [Value.oneCell']) (by omega) ?_))
  intro pe qe wd hO hgr hd
  obtain ⟨bx, fz, lt, cd, hK, -⟩ := HKb1.out.growE (x := ⟨⟨#[116]⟩, 0, 2, 0⟩) HBB.out hgr hO (hd.imp id fun h b e => by have := h b e; simp at this ⊢; omega)
  have HKd := Lib.hid hK
  have b1 := bx.e
  clear zO O_0 O_1 O_2 O_3
  clear hK hO hgr hd HO HBB bxc bxe lgi bx HKb1 HGb1 HOb1 HCGb1 HCOb1
  go_upto_region 37 with fail
  clear b1 fz lt
  generalize wd.setCell ⟨gi, 1, none⟩ (.slice pe (0 + 1) qe) = wz at HKd ⊢
  have hx := HKd.out.im.box
  have b0 := hx.c
  have b1 := hx.e
  have b2 := hx.s
  have b3 := hx.l
  have lgi := HKd.out.im.lt
  have rX := HX1.out.below HKd.out.bel HX1.out.lt
  have x0 := rX.at 0 rfl
  have x1 := rX.at 1 rfl
  have x2 := rX.at 2 rfl
  have x3 := rX.at 3 rfl
  have lx := rX.lt
  have fX : ∀ k, wz.frozen? ⟨w.heap.size, k, none⟩ = false := fun k => (World.frozen?_of_block (a := ⟨w.heap.size, k, none⟩) (HKd.out.bel.block _ HX1.out.lt)).trans (HXF1.out k)
  have f0 := fX 0
  have f1 := fX 1
  have f2 := fX 2
  have f3 := fX 3
  clear hx rX fX
  go_wp2_with fail
  rw [rounds_succ]
  go_wp2_with fail
  obtain ⟨g1, cp1, e1, hg1, hcg1, hce1, -⟩ := HKd.out.im.code.cell (j := 0) (by decide)
  obtain ⟨g2, cp2, e2, hg2, hcg2, hce3, -⟩ := HKd.out.ls.cell (j := 3) (by decide)
  obtain ⟨g2', cp2', e2', -, -, hce4, -⟩ := HKd.out.ls.cell (j := 4) (by decide)
  obtain ⟨g2'', cp2'', e2'', -, -, hce5, -⟩ := HKd.out.ls.cell (j := 5) (by decide)
  injection e1 with e1 _ e1c
  injection e2 with e2 _ e2c
  injection e2' with e2' _ _
  injection e2'' with e2'' _ _
  subst e1 e1c e2 e2c
  injection e2' with e2'
  injection e2' with e2'
  injection e2'' with e2''
  injection e2'' with e2''
  subst e2' e2''
  have low := HKd.out.im.low w.heap.size HX1.out.lt
  have n1 : g1 ≠ w.heap.size := fun e => by rw [e, low] at hcg1; cases hcg1
  have n2 : g2 ≠ w.heap.size := fun e => by rw [e, low] at hcg2; cases hcg2
  have hbz : Below w.heap.size w wz := HB1.out.trans (HKd.out.bel.mono HB1.out.size)
  refine bodyPost_ret (run_result_im3 Tryd.results16 _ _ w.heap.size (.slice (some ⟨g1, 0, none⟩) 2 qc1) (.slice pe 1 qe) (.int .i64 7) (.int .i64 2) (.slice (some ⟨g2, 0, none⟩) 2 q1) (.int .i64 0) rfl rfl rfl ?_ ?_ ?_ ?_) rfl ?_
  · simp [go_sem, x0]
  · simp [go_sem, x1]
  · simp [go_sem, x2]
  · simp [go_sem, x3]
  · have oc : ∀ (W : World) (b k j : Nat) (v : Value), b ≠ w.heap.size → (W.setCell ⟨w.heap.size, j, none⟩ v).cell? ⟨b, k, none⟩ = W.cell? ⟨b, k, none⟩ := fun W b k j v hne => World.cell?_setCell_other _ _ _ _ (by intro e; injection e with e _; exact hne e.symm)
    refine ⟨g1, _, g2, _, _, _, rfl, by simpa [World.setCell] using hg1, by simpa [World.setCell] using hg2, ?_, ?_, ?_, ?_, bSet (Nat.le_refl _) (bSet (Nat.le_refl _) (bSet (Nat.le_refl _) (bSet (Nat.le_refl _) hbz)))⟩
    · rw [oc _ _ _ _ _ n1, oc _ _ _ _ _ n1, oc _ _ _ _ _ n1, oc _ _ _ _ _ n1]; exact hce1
    · rw [oc _ _ _ _ _ n2, oc _ _ _ _ _ n2, oc _ _ _ _ _ n2, oc _ _ _ _ _ n2]; exact hce3
    · rw [oc _ _ _ _ _ n2, oc _ _ _ _ _ n2, oc _ _ _ _ _ n2, oc _ _ _ _ _ n2]; exact hce4
    · rw [oc _ _ _ _ _ n2, oc _ _ _ _ _ n2, oc _ _ _ _ _ n2, oc _ _ _ _ _ n2]; exact hce5
end Go.Proofs.YtepldfnplfhncaaDoor
