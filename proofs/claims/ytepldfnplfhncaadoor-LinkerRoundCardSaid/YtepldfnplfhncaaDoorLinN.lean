/- Layer 22: awake. -/
import Derived.Test.YtepldfnplfhncaaDoorLinL
set_option linter.unusedVariables false
set_option linter.unusedSimpArgs false
namespace Go.Proofs.YtepldfnplfhncaaDoor
open Go.RowKit

theorem dec_ex : decV (encV 20 2 3 0 4) = .tuple #[.agg #[.int .u8 20, .int .i64 2, .int .i64 3, .int .i64 0, .int .i64 4], .int .i64 0] := by
  rw [show encV 20 2 3 0 4 = 1351352324 by decide]
  unfold decV decR
  rw [if_pos (by decide)]
  rfl

set_option maxHeartbeats 3200000 in
set_option maxRecDepth 20000 in
theorem awake22 (w : World) (hT : Tab w) : Calls Tryd.prog 8 #[] w fun e w' => e = .returned (.bool true) ∧ Below w.heap.size w w' := by
  obtain ⟨cC, hcC⟩ : ∃ o : Obj, o = .cells #[.int .u8 20, .int .i64 2, .int .i64 3, .int .i64 0, .int .i64 1, .int .u8 1, .int .i64 0, .int .i64 0, .int .i64 0, .int .i64 0] 64 := ⟨_, rfl⟩
  obtain ⟨cR, hcR⟩ : ∃ o : Obj, o = .cells #[.int .i64 0, .string ⟨#[98]⟩, .bool false] 66 := ⟨_, rfl⟩
  obtain ⟨cO, hcO⟩ : ∃ o : Obj, o = .cells #[.string ⟨#[116]⟩, .slice (some ⟨w.heap.size, 0, none⟩) 2 2, .int .i64 0, .slice (some ⟨w.heap.size + 1, 0, none⟩) 1 1] 51 := ⟨_, rfl⟩
  obtain ⟨cA, hcA⟩ : ∃ o : Obj, o = .cells #[.string ⟨#[97]⟩, .int .i64 3, .string ⟨#[98]⟩, .int .i64 4] 68 := ⟨_, rfl⟩
  have hC : RowC (((((w.alloc cC).alloc cR).alloc cO).alloc cA).alloc cO) w.heap.size _ := ((((hcC ▸ RowC.made w [.int .u8 20, .int .i64 2, .int .i64 3, .int .i64 0, .int .i64 1, .int .u8 1, .int .i64 0, .int .i64 0, .int .i64 0, .int .i64 0] 64 : RowC (w.alloc cC) w.heap.size [.int .u8 20, .int .i64 2, .int .i64 3, .int .i64 0, .int .i64 1, .int .u8 1, .int .i64 0, .int .i64 0, .int .i64 0, .int .i64 0]).alloc cR).alloc cO).alloc cA).alloc cO
  have hR : RowC (((((w.alloc cC).alloc cR).alloc cO).alloc cA).alloc cO) (w.heap.size + 1) [.int .i64 0, .string ⟨#[98]⟩, .bool false] := by
    have h := ((((hcR ▸ RowC.made (w.alloc cC) [.int .i64 0, .string ⟨#[98]⟩, .bool false] 66 : RowC ((w.alloc cC).alloc cR) (w.alloc cC).heap.size [.int .i64 0, .string ⟨#[98]⟩, .bool false]).alloc cO).alloc cA).alloc cO)
    simpa only [size_alloc1] using h
  have hA : RowC (((((w.alloc cC).alloc cR).alloc cO).alloc cA).alloc cO) (w.heap.size + 1 + 1 + 1) [.string ⟨#[97]⟩, .int .i64 3, .string ⟨#[98]⟩, .int .i64 4] := by
    have h := (hcA ▸ RowC.made (((w.alloc cC).alloc cR).alloc cO) [.string ⟨#[97]⟩, .int .i64 3, .string ⟨#[98]⟩, .int .i64 4] 68 : RowC ((((w.alloc cC).alloc cR).alloc cO).alloc cA) (((w.alloc cC).alloc cR).alloc cO).heap.size [.string ⟨#[97]⟩, .int .i64 3, .string ⟨#[98]⟩, .int .i64 4]).alloc cO
    simpa only [size_alloc1] using h
  have hL : RowC (((((w.alloc cC).alloc cR).alloc cO).alloc cA).alloc cO) (w.heap.size + 1 + 1 + 1 + 1) [.string ⟨#[116]⟩, .slice (some ⟨w.heap.size, 0, none⟩) 2 2, .int .i64 0, .slice (some ⟨w.heap.size + 1, 0, none⟩) 1 1] := by
    have h := (hcO ▸ RowC.made ((((w.alloc cC).alloc cR).alloc cO).alloc cA) [.string ⟨#[116]⟩, .slice (some ⟨w.heap.size, 0, none⟩) 2 2, .int .i64 0, .slice (some ⟨w.heap.size + 1, 0, none⟩) 1 1] 51 : RowC (((((w.alloc cC).alloc cR).alloc cO).alloc cA).alloc cO) ((((w.alloc cC).alloc cR).alloc cO).alloc cA).heap.size [.string ⟨#[116]⟩, .slice (some ⟨w.heap.size, 0, none⟩) 2 2, .int .i64 0, .slice (some ⟨w.heap.size + 1, 0, none⟩) 1 1])
    simpa only [size_alloc1] using h
  have hB : Below w.heap.size w (((((w.alloc cC).alloc cR).alloc cO).alloc cA).alloc cO) := bAlloc (by simp; omega) (bAlloc (by simp; omega) (bAlloc (by simp; omega) (bAlloc (by simp) (bAlloc (Nat.le_refl _) (Below.refl _ _)))))
  have HL := Lib.hid (link_ex _ _ _ _ _ (hT.of_below hB) hA hL hC hR)
  have HB := Lib.hid hB
  have HT := Lib.hid hT
  clear hA hL hC hR hB hT
  subst hcC hcR hcO hcA
  go_enter Tryd.func8, Tryd.ntmps8
  go_wp2_with fail
  refine HL.out.mono ?_
  rintro e w1 ⟨g1, c1, g2, c2, pe, qe, rfl, hg1, hg2, x0, s0, s1, s2, hb⟩
  have HB1 := Lib.hid (HB.out.trans (hb.mono HB.out.size))
  clear HL HB hb
  obtain ⟨x, hx⟩ : ∃ x, x = encV 20 2 3 0 4 := ⟨_, rfl⟩
  have HX := Lib.hid hx
  rw [← hx] at x0
  have HD := Lib.hid (decode_any x (w1.alloc (.cells #[.slice (some ⟨g1, 0, none⟩) 2 c1, .slice pe 1 qe, .int .i64 7, .int .i64 2] 25)) (by rw [hx]; decide) (by rw [hx]; decide) (HT.out.of_below (bAlloc HB1.out.size HB1.out)))
  clear hx
  go_wp2_with fail
  refine HD.out.mono ?_
  rintro e w2 ⟨rfl, hb2⟩
  rw [HX.out, dec_ex]
  have b2 : w2.cell? ⟨w1.heap.size, 2, none⟩ = some (.int .i64 7) := (hb2.cell (p := ⟨w1.heap.size, 2, none⟩) (by simp)).trans (by simp [go_sem])
  have b3 : w2.cell? ⟨w1.heap.size, 3, none⟩ = some (.int .i64 2) := (hb2.cell (p := ⟨w1.heap.size, 3, none⟩) (by simp)).trans (by simp [go_sem])
  have hz : w1.heap.size < w2.heap.size := by have := hb2.size; simp at this; omega
  have HB2 := Lib.hid (HB1.out.trans ((show Below w.heap.size w1 (w1.alloc (.cells #[.slice (some ⟨g1, 0, none⟩) 2 c1, .slice pe 1 qe, .int .i64 7, .int .i64 2] 25)) from bAlloc HB1.out.size (Below.refl _ _)).trans (hb2.mono (by have := HB1.out.size; simp; omega))))
  clear hb2 x0 s0 s1 s2 hg1 hg2 HD
  go_wp2_with fail
  go_ret
  exact ⟨rfl, bAlloc (by have := HB2.out.size; omega) HB2.out⟩
end Go.Proofs.YtepldfnplfhncaaDoor
