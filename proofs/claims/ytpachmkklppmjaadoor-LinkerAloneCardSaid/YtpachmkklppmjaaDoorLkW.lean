/- Layer 22: awake, by Link's contract. -/
import Derived.Test.YtpachmkklppmjaaDoorLkO
import Derived.Test.YtpachmkklppmjaaDoorIsaC
set_option linter.unusedVariables false
set_option linter.unusedSimpArgs false
namespace Go.Proofs.YtpachmkklppmjaaDoor
open Go.RowKit

theorem dec_ex : decV (encV 20 2 3 0 4) = .tuple #[.agg #[.int .u8 20, .int .i64 2, .int .i64 3, .int .i64 0, .int .i64 4], .int .i64 0] := by
  rw [show encV 20 2 3 0 4 = 1351352324 by decide]
  unfold decV decR
  rw [if_pos (by decide)]
  rfl

theorem size_alloc1 (w : World) (o : Obj) : (w.alloc o).heap.size = w.heap.size + 1 := by simp
def exS : List LSh := [(⟨#[97]⟩, 3), (⟨#[98]⟩, 4)]
def exO : LOb := ⟨⟨#[116]⟩, [⟨20, 2, 3, 0, 1⟩, ⟨1, 0, 0, 0, 0⟩], [⟨0, ⟨#[98]⟩, false⟩], 0⟩
theorem ex_link : linkR exS [exO] = some ⟨[encV 20 2 3 0 4, 67108864], [⟨⟨#[116]⟩, 0, 2, 0⟩], 7, 2⟩ := by kernel_rfl
theorem ex_sym : symS exS = [(⟨#[97]⟩, 0, 0), (⟨#[98]⟩, 3, 1)] := by kernel_rfl
theorem link_ex (p4 p3 p0 p1 : Nat) (w : World) (hT : Tab w) (hA : RowC w p4 [.string ⟨#[97]⟩, .int .i64 3, .string ⟨#[98]⟩, .int .i64 4]) (hL : RowC w p3 [.string ⟨#[116]⟩, .slice (some ⟨p0, 0, none⟩) 2 2, .int .i64 0, .slice (some ⟨p1, 0, none⟩) 1 1])
    (hC : RowC w p0 [.int .u8 20, .int .i64 2, .int .i64 3, .int .i64 0, .int .i64 1, .int .u8 1, .int .i64 0, .int .i64 0, .int .i64 0, .int .i64 0]) (hR : RowC w p1 [.int .i64 0, .string ⟨#[98]⟩, .bool false]) :
    Calls Tryd.prog 6 #[.slice (some ⟨p4, 0, none⟩) 2 2, .slice (some ⟨p3, 0, none⟩) 1 1] w fun e w' => ∃ g1 o1 c1 g2 c2 pe qe,
      e = .returned (.tuple #[.agg #[.slice (some ⟨g1, o1, none⟩) 2 c1, .slice pe 1 qe, .int .i64 7, .int .i64 2], .slice (some ⟨g2, 0, none⟩) 2 c2, .int .i64 0]) ∧ g1 < w'.heap.size ∧ g2 < w'.heap.size ∧ w'.cell? ⟨g1, o1, none⟩ = some (.int .u32 (encV 20 2 3 0 4)) ∧
      w'.cell? ⟨g2, 3, none⟩ = some (.string ⟨#[98]⟩) ∧ w'.cell? ⟨g2, 4, none⟩ = some (.int .i64 3) ∧ w'.cell? ⟨g2, 5, none⟩ = some (.int .i64 1) ∧ Below w.heap.size w w' := by
  have hS : ShAt w (.slice (some ⟨p4, 0, none⟩) 2 2) exS := ⟨_, _, rfl, fun k hk => ⟨p4, 0, rfl, hA.lt, by
    match k, hk with
    | 0, _ => exact ⟨hA.at 0 rfl, hA.at 1 rfl⟩
    | 1, _ => exact ⟨hA.at 2 rfl, hA.at 3 rfl⟩⟩⟩
  have hO : ObsAt w (.slice (some ⟨p3, 0, none⟩) 1 1) [exO] := ⟨_, _, rfl, fun k hk => by
    match k, hk with
    | 0, _ => exact ⟨p3, 0, _, _, rfl, hL.lt, ⟨hL.at 0 rfl, hL.at 1 rfl, hL.at 2 rfl, hL.at 3 rfl⟩, ⟨_, _, rfl, .inr ⟨p0, 0, rfl, hC.lt, fun j u hj => by rw [Nat.zero_add]; exact hC.2 j u hj⟩⟩, ⟨_, _, rfl, Nat.le_refl _, .inr ⟨p1, 0, rfl, hR.lt, fun j u hj => by rw [Nat.zero_add]; exact hR.2 j u hj⟩⟩⟩⟩
  have hF : LFit exS [exO] := ⟨fun k hk => by
      match k, hk with
      | 0, _ => decide
      | 1, _ => decide, fun k hk => by
      match k, hk with
      | 0, _ => decide, fun k hk j hj => by
      match k, hk, j, hj with
      | 0, _, 0, _ => decide⟩
  refine (link_any _ _ exS [exO] w hT hS hO hF (by decide) (by decide) (fun k hk => by
    match k, hk with
    | 0, _ => decide) (fun k hk => by
    match k, hk with
    | 0, _ => decide)).mono ?_
  rintro e w' ⟨hb, h⟩
  rw [ex_link, ex_sym] at h
  obtain ⟨imv, lv, rfl, ⟨⟨cp, ccap, ep, ecap, rfl, hc, _⟩, _, _⟩, ⟨p, cap, rfl, hs⟩⟩ := h
  obtain ⟨cb, co, rfl, hcb, hc⟩ := hc.resolve_left (by intro h; cases h)
  obtain ⟨m, e, hm, hx⟩ := hs 1 (by decide)
  cases e
  exact ⟨cb, co, ccap, m, cap, ep, ecap, rfl, hcb, hm, hc 0 (by decide), hx 0 _ (by decide) rfl, hx 1 _ (by decide) rfl, hx 2 _ (by decide) rfl, hb⟩

set_option maxHeartbeats 3200000 in
set_option maxRecDepth 20000 in
theorem awake22 (w : World) (hT : Tab w) : Calls Tryd.prog 4 #[] w fun e w' => e = .returned (.bool true) ∧ Below w.heap.size w w' := by
  obtain ⟨cC, hcC⟩ : ∃ o : Obj, o = .cells #[.int .u8 20, .int .i64 2, .int .i64 3, .int .i64 0, .int .i64 1, .int .u8 1, .int .i64 0, .int .i64 0, .int .i64 0, .int .i64 0] 51 := ⟨_, rfl⟩
  obtain ⟨cR, hcR⟩ : ∃ o : Obj, o = .cells #[.int .i64 0, .string ⟨#[98]⟩, .bool false] 53 := ⟨_, rfl⟩
  obtain ⟨cO, hcO⟩ : ∃ o : Obj, o = .cells #[.string ⟨#[116]⟩, .slice (some ⟨w.heap.size, 0, none⟩) 2 2, .int .i64 0, .slice (some ⟨w.heap.size + 1, 0, none⟩) 1 1] 38 := ⟨_, rfl⟩
  obtain ⟨cA, hcA⟩ : ∃ o : Obj, o = .cells #[.string ⟨#[97]⟩, .int .i64 3, .string ⟨#[98]⟩, .int .i64 4] 55 := ⟨_, rfl⟩
  have hC : RowC (((((w.alloc cC).alloc cR).alloc cO).alloc cA).alloc cO) w.heap.size _ := ((((hcC ▸ RowC.made w [.int .u8 20, .int .i64 2, .int .i64 3, .int .i64 0, .int .i64 1, .int .u8 1, .int .i64 0, .int .i64 0, .int .i64 0, .int .i64 0] 51 : RowC (w.alloc cC) w.heap.size [.int .u8 20, .int .i64 2, .int .i64 3, .int .i64 0, .int .i64 1, .int .u8 1, .int .i64 0, .int .i64 0, .int .i64 0, .int .i64 0]).alloc cR).alloc cO).alloc cA).alloc cO
  have hR : RowC (((((w.alloc cC).alloc cR).alloc cO).alloc cA).alloc cO) (w.heap.size + 1) [.int .i64 0, .string ⟨#[98]⟩, .bool false] := by
    have h := ((((hcR ▸ RowC.made (w.alloc cC) [.int .i64 0, .string ⟨#[98]⟩, .bool false] 53 : RowC ((w.alloc cC).alloc cR) (w.alloc cC).heap.size [.int .i64 0, .string ⟨#[98]⟩, .bool false]).alloc cO).alloc cA).alloc cO)
    simpa only [size_alloc1] using h
  have hA : RowC (((((w.alloc cC).alloc cR).alloc cO).alloc cA).alloc cO) (w.heap.size + 1 + 1 + 1) [.string ⟨#[97]⟩, .int .i64 3, .string ⟨#[98]⟩, .int .i64 4] := by
    have h := (hcA ▸ RowC.made (((w.alloc cC).alloc cR).alloc cO) [.string ⟨#[97]⟩, .int .i64 3, .string ⟨#[98]⟩, .int .i64 4] 55 : RowC ((((w.alloc cC).alloc cR).alloc cO).alloc cA) (((w.alloc cC).alloc cR).alloc cO).heap.size [.string ⟨#[97]⟩, .int .i64 3, .string ⟨#[98]⟩, .int .i64 4]).alloc cO
    simpa only [size_alloc1] using h
  have hL : RowC (((((w.alloc cC).alloc cR).alloc cO).alloc cA).alloc cO) (w.heap.size + 1 + 1 + 1 + 1) [.string ⟨#[116]⟩, .slice (some ⟨w.heap.size, 0, none⟩) 2 2, .int .i64 0, .slice (some ⟨w.heap.size + 1, 0, none⟩) 1 1] := by
    have h := (hcO ▸ RowC.made ((((w.alloc cC).alloc cR).alloc cO).alloc cA) [.string ⟨#[116]⟩, .slice (some ⟨w.heap.size, 0, none⟩) 2 2, .int .i64 0, .slice (some ⟨w.heap.size + 1, 0, none⟩) 1 1] 38 : RowC (((((w.alloc cC).alloc cR).alloc cO).alloc cA).alloc cO) ((((w.alloc cC).alloc cR).alloc cO).alloc cA).heap.size [.string ⟨#[116]⟩, .slice (some ⟨w.heap.size, 0, none⟩) 2 2, .int .i64 0, .slice (some ⟨w.heap.size + 1, 0, none⟩) 1 1])
    simpa only [size_alloc1] using h
  have hB : Below w.heap.size w (((((w.alloc cC).alloc cR).alloc cO).alloc cA).alloc cO) := bAlloc (by simp; omega) (bAlloc (by simp; omega) (bAlloc (by simp; omega) (bAlloc (by simp) (bAlloc (Nat.le_refl _) (Below.refl _ _)))))
  have HL := Lib.hid (link_ex _ _ _ _ _ (hT.of_below hB) hA hL hC hR)
  have HB := Lib.hid hB
  have HT := Lib.hid hT
  clear hA hL hC hR hB hT
  subst hcC hcR hcO hcA
  go_enter Tryd.func4, Tryd.ntmps4
  go_wp2_with fail
  refine HL.out.mono ?_
  rintro e w1 ⟨g1, o1, c1, g2, c2, pe, qe, rfl, hg1, hg2, x0, s0, s1, s2, hb⟩
  have HB1 := Lib.hid (HB.out.trans (hb.mono HB.out.size))
  clear HL HB hb
  obtain ⟨x, hx⟩ : ∃ x, x = encV 20 2 3 0 4 := ⟨_, rfl⟩
  have HX := Lib.hid hx
  rw [← hx] at x0
  have HD := Lib.hid (decode_any x (w1.alloc (.cells #[.slice (some ⟨g1, o1, none⟩) 2 c1, .slice pe 1 qe, .int .i64 7, .int .i64 2] 30)) (by rw [hx]; decide) (by rw [hx]; decide) (HT.out.of_below (bAlloc HB1.out.size HB1.out)))
  clear hx
  go_wp2_with fail
  refine HD.out.mono ?_
  rintro e w2 ⟨rfl, hb2⟩
  rw [HX.out, dec_ex]
  have b2 : w2.cell? ⟨w1.heap.size, 2, none⟩ = some (.int .i64 7) := (hb2.cell (p := ⟨w1.heap.size, 2, none⟩) (by simp)).trans (by simp [go_sem])
  have b3 : w2.cell? ⟨w1.heap.size, 3, none⟩ = some (.int .i64 2) := (hb2.cell (p := ⟨w1.heap.size, 3, none⟩) (by simp)).trans (by simp [go_sem])
  have hz : w1.heap.size < w2.heap.size := by have := hb2.size; simp at this; omega
  have HB2 := Lib.hid (HB1.out.trans ((show Below w.heap.size w1 (w1.alloc (.cells #[.slice (some ⟨g1, o1, none⟩) 2 c1, .slice pe 1 qe, .int .i64 7, .int .i64 2] 30)) from bAlloc HB1.out.size (Below.refl _ _)).trans (hb2.mono (by have := HB1.out.size; simp; omega))))
  clear hb2 x0 s0 s1 s2 hg1 hg2 HD
  go_wp2_with fail
  go_ret
  exact ⟨rfl, bAlloc (by have := HB2.out.size; omega) HB2.out⟩
end Go.Proofs.YtpachmkklppmjaaDoor
