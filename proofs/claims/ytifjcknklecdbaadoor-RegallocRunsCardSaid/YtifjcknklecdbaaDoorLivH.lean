/- liveness.wellFormed: the walk. -/
import Derived.Test.YtifjcknklecdbaaDoorLivG
set_option linter.unusedVariables false
set_option linter.unusedSimpArgs false
namespace Go.Proofs.YtifjcknklecdbaaDoor
open Go.RowKit

theorem retB {a b : Bool} (h : b = a) : Ending.returned (.bool a) = .returned (.bool b) := by rw [h]

set_option maxHeartbeats 6400000 in
set_option maxRecDepth 100000 in
theorem wf_any (nm : ByteArray) (R : Int) (ap : Option Addr) (an ac : Nat) (bv : Value) (bs : List IBlk) (w : World) (hB : BksAt w bv bs) (hl : bs.length ≤ 1000) (hcl : ∀ k, k < bs.length → (bs.getD k default).code.length ≤ 1000) :
    Calls Tryd.prog 28 #[.agg #[.string nm, .int .i64 R, .slice ap an ac, bv]] w fun e w' => e = .returned (.bool (wfF R bs)) ∧ Below w.heap.size w w' := by
  obtain ⟨bp, bcap, rfl⟩ := hB.shape
  have hmf : ∀ (fn : Fn) (first cap : Array Value) (w : World), (Instr.makeFunc fn first cap).run Tryd.prog w = .ok (.func fn first cap) w := fun _ _ _ _ => rfl
  have hb0 : Below w.heap.size w (w.alloc (.cells #[.string nm, .int .i64 R, .slice ap an ac, .slice bp bs.length bcap] 25)) := bAlloc (Nat.le_refl _) (Below.refl _ _)
  have HB0 := Lib.hid hb0
  have HD := Lib.hid hB
  have HCL := Lib.hid hcl
  have r1 : (w.alloc (.cells #[.string nm, .int .i64 R, .slice ap an ac, .slice bp bs.length bcap] 25)).cell? ⟨w.heap.size, 1, none⟩ = some (.int .i64 R) := by simp [go_sem]
  have r3 : (w.alloc (.cells #[.string nm, .int .i64 R, .slice ap an ac, .slice bp bs.length bcap] 25)).cell? ⟨w.heap.size, 3, none⟩ = some (.slice bp bs.length bcap) := by simp [go_sem]
  have hz0 : w.heap.size < (w.alloc (.cells #[.string nm, .int .i64 R, .slice ap an ac, .slice bp bs.length bcap] 25)).heap.size := by simp
  have R1 := Lib.hid r1
  have R3 := Lib.hid r3
  clear hb0 hB hcl r1 r3
  by_cases h0 : bs.length = 0
  · have hf : wfF R bs = false := by
      have : bs = [] := List.length_eq_zero_iff.1 h0
      subst this; rfl
    have h0b : ((bs.length : Int) == 0) = true := beq_iff_eq.2 (by omega)
    rw [hf]
    clear hf hz0 h0
    go_enter Tryd.func28, Tryd.ntmps28
    go_wp2_with fail
    go_ret
    exact ⟨rfl, HB0.out⟩
  have h0b : ((bs.length : Int) == 0) = false := beq_eq_false_iff_ne.2 (by omega)
  by_cases h1 : R < 0
  · have hf : wfF R bs = false := by unfold wfF; rw [decide_eq_false (show ¬ (0 ≤ R ∧ R ≤ 10000) by omega)]; simp
    rw [hf]
    clear hf hz0 h0
    go_enter Tryd.func28, Tryd.ntmps28
    go_wp2_with fail
    go_ret
    exact ⟨rfl, HB0.out⟩
  have h1n : 0 ≤ R := by omega
  by_cases h2 : 10000 < R
  · have hf : wfF R bs = false := by unfold wfF; rw [decide_eq_false (show ¬ (0 ≤ R ∧ R ≤ 10000) by omega)]; simp
    rw [hf]
    clear hf hz0 h0 h1
    go_enter Tryd.func28, Tryd.ntmps28
    go_wp2_with fail
    go_ret
    exact ⟨rfl, HB0.out⟩
  have h2n : R ≤ 10000 := by omega
  have HR := Lib.hid (⟨h1n, h2n⟩ : 0 ≤ R ∧ R ≤ 10000)
  have HN0 := Lib.hid h0
  go_enter Tryd.func28, Tryd.ntmps28
  go_wp2_with fail
  generalize hW0 : w.alloc (.cells #[.string nm, .int .i64 R, .slice ap an ac, .slice bp bs.length bcap] 25) = W0 at HB0 R1 R3 hz0 ⊢
  clear hW0 h0 h0b h1 h2 h1n h2n
  go_loopw [32] (fun s32 wr => ∃ k : Nat, s32 = .int .i64 k ∧ k ≤ bs.length ∧ Hid (∀ j, j < k → okBlk R bs.length (bs.getD j default) = true) ∧ Hid (Below (w.heap.size + 1) W0 wr)) (fun s32 _ => bs.length - (intOf s32).toNat)
  case atStart => exact ⟨0, rfl, Nat.zero_le _, (fun j hj => absurd hj (Nat.not_lt_zero j)), Below.refl _ _⟩
  case round =>
    obtain ⟨k, rfl, hk, HOK, HX⟩ := hrel
    obtain ⟨w1, rfl⟩ : ∃ W : World, W = wr := ⟨_, rfl⟩
    by_cases hlt : k < bs.length
    · have hkI : (k : Int) < bs.length := by omega
      have hbw : Below w.heap.size w w1 := HB0.out.trans (HX.out.mono (by omega))
      obtain ⟨mb, ob, cap', cp, cc, e1, hmb, hin, c0, c1, c2, c3, c4⟩ := (HD.out.below hbw (Nat.le_refl _)).at k hlt
      injection e1 with e1 e2 e3
      subst e1 e3
      have hcl := HCL.out k hlt
      have hwf := fun (h : okBlk R bs.length (bs.getD k default) = false) => wf_no_block (R := R) hlt h
      have HNB := Lib.hid hwf
      have HYB := Lib.hid (show okBlk R bs.length (bs.getD k default) = true → ∀ j, j < k + 1 → okBlk R bs.length (bs.getD j default) = true from fun h j hj => by
        by_cases e : j = k
        · subst e; exact h
        · exact HOK.out j (by omega))
      clear hwf
      obtain ⟨⟨code, kind, bx, tgt, els⟩, hb⟩ : ∃ b, b = bs.getD k default := ⟨_, rfl⟩
      rw [← hb] at hin c0 c1 c2 c3 c4 hcl HNB HYB
      simp only at hin c0 c1 c2 c3 c4 hcl
      clear hb
      have hzx : w.heap.size < w1.heap.size := by have := HX.out.size; omega
      go_wp2_with fail
      have hb1 : Below w1.heap.size w1 (w1.alloc (.cells #[.slice cp code.length cc, .int .u8 kind, .int .i64 bx, .int .i64 tgt, .int .i64 els] 52)) := bAlloc (Nat.le_refl _) (Below.refl _ _)
      have hin1 := hin.below hb1 (Nat.le_refl _)
      have HIN := Lib.hid hin1
      have d0 : (w1.alloc (.cells #[.slice cp code.length cc, .int .u8 kind, .int .i64 bx, .int .i64 tgt, .int .i64 els] 52)).cell? ⟨w1.heap.size, 0, none⟩ = some (.slice cp code.length cc) := by simp [go_sem]
      have d1 : (w1.alloc (.cells #[.slice cp code.length cc, .int .u8 kind, .int .i64 bx, .int .i64 tgt, .int .i64 els] 52)).cell? ⟨w1.heap.size, 1, none⟩ = some (.int .u8 kind) := by simp [go_sem]
      have d2 : (w1.alloc (.cells #[.slice cp code.length cc, .int .u8 kind, .int .i64 bx, .int .i64 tgt, .int .i64 els] 52)).cell? ⟨w1.heap.size, 2, none⟩ = some (.int .i64 bx) := by simp [go_sem]
      have d3 : (w1.alloc (.cells #[.slice cp code.length cc, .int .u8 kind, .int .i64 bx, .int .i64 tgt, .int .i64 els] 52)).cell? ⟨w1.heap.size, 3, none⟩ = some (.int .i64 tgt) := by simp [go_sem]
      have d4 : (w1.alloc (.cells #[.slice cp code.length cc, .int .u8 kind, .int .i64 bx, .int .i64 tgt, .int .i64 els] 52)).cell? ⟨w1.heap.size, 4, none⟩ = some (.int .i64 els) := by simp [go_sem]
      have hz1 : w1.heap.size < (w1.alloc (.cells #[.slice cp code.length cc, .int .u8 kind, .int .i64 bx, .int .i64 tgt, .int .i64 els] 52)).heap.size := by simp
      have hz1u : (w1.alloc (.cells #[.slice cp code.length cc, .int .u8 kind, .int .i64 bx, .int .i64 tgt, .int .i64 els] 52)).heap.size ≤ w1.heap.size + 1 := by simp
      have HX1 := Lib.hid (bThen hb1 (by omega) HX.out)
      clear hb1 hin hin1 c0 c1 c2 c3 c4 hbw hmb
      generalize hW1 : w1.alloc (.cells #[.slice cp code.length cc, .int .u8 kind, .int .i64 bx, .int .i64 tgt, .int .i64 els] 52) = W1 at HIN HX1 d0 d1 d2 d3 d4 hz1 hz1u ⊢
      clear hW1
      have E0 := Lib.hid d0
      have E1 := Lib.hid d1
      have E2 := Lib.hid d2
      have E3 := Lib.hid d3
      have E4 := Lib.hid d4
      clear d0 d1 d2 d3 d4
      go_loopw [39] (fun s39 wx => ∃ j : Nat, s39 = .int .i64 j ∧ j ≤ code.length ∧ Hid (∀ i, i < j → okIns R (code.getD i default) = true) ∧ Hid (Below (w1.heap.size + 1) W1 wx)) (fun s39 _ => code.length - (intOf s39).toNat)
      case atStart => exact ⟨0, rfl, Nat.zero_le _, (fun j hj => absurd hj (Nat.not_lt_zero j)), Below.refl _ _⟩
      case round =>
        obtain ⟨j, rfl, hj, HIK, HY⟩ := hrel
        obtain ⟨w2, rfl⟩ : ∃ W : World, W = wr := ⟨_, rfl⟩
        have hzy : w1.heap.size < w2.heap.size := by have := HY.out.size; omega
        have hpost : Hid (∀ (W : World), Below w2.heap.size w2 W → Below w.heap.size w W) := fun W h => HB0.out.trans ((HX1.out.trans ((HY.out.trans (h.mono (by omega))).mono (by omega))).mono (by omega))
        by_cases hlj : j < code.length
        · have hjI : (j : Int) < code.length := by omega
          obtain ⟨mi, oi, ci, e1, hmi, c0, c1, c2, c3, c4, c5⟩ := (HIN.out.below HY.out hz1u).at j hlj
          injection e1 with e1 e2 e3
          subst e1 e3
          have HYI := Lib.hid (show okIns R (code.getD j default) = true → ∀ i, i < j + 1 → okIns R (code.getD i default) = true from fun h i hi => by
            by_cases e : i = j
            · subst e; exact h
            · exact HIK.out i (by omega))
          have HNI := Lib.hid (show okIns R (code.getD j default) = false → wfF R bs = false from fun h => HNB.out (blk_no_ins (b := ⟨code, kind, bx, tgt, els⟩) hlj h))
          obtain ⟨⟨op, dst, ix, iy, imm, sym⟩, hi⟩ : ∃ i, i = code.getD j default := ⟨_, rfl⟩
          rw [← hi] at c0 c1 c2 c3 c4 c5 HYI HNI
          simp only at c0 c1 c2 c3 c4 c5
          clear hi
          have hbi : Below w2.heap.size w2 (w2.alloc (.cells #[.int .u8 op, .int .i64 dst, .int .i64 ix, .int .i64 iy, .int .i64 imm, .string sym] 59)) := bAlloc (Nat.le_refl _) (Below.refl _ _)
          have HBI := Lib.hid hbi
          have f0 : (w2.alloc (.cells #[.int .u8 op, .int .i64 dst, .int .i64 ix, .int .i64 iy, .int .i64 imm, .string sym] 59)).cell? ⟨w2.heap.size, 0, none⟩ = some (.int .u8 op) := by simp [go_sem]
          have f1 : (w2.alloc (.cells #[.int .u8 op, .int .i64 dst, .int .i64 ix, .int .i64 iy, .int .i64 imm, .string sym] 59)).cell? ⟨w2.heap.size, 1, none⟩ = some (.int .i64 dst) := by simp [go_sem]
          have f2 : (w2.alloc (.cells #[.int .u8 op, .int .i64 dst, .int .i64 ix, .int .i64 iy, .int .i64 imm, .string sym] 59)).cell? ⟨w2.heap.size, 2, none⟩ = some (.int .i64 ix) := by simp [go_sem]
          have f3 : (w2.alloc (.cells #[.int .u8 op, .int .i64 dst, .int .i64 ix, .int .i64 iy, .int .i64 imm, .string sym] 59)).cell? ⟨w2.heap.size, 3, none⟩ = some (.int .i64 iy) := by simp [go_sem]
          have f4 : (w2.alloc (.cells #[.int .u8 op, .int .i64 dst, .int .i64 ix, .int .i64 iy, .int .i64 imm, .string sym] 59)).cell? ⟨w2.heap.size, 4, none⟩ = some (.int .i64 imm) := by simp [go_sem]
          have f5 : (w2.alloc (.cells #[.int .u8 op, .int .i64 dst, .int .i64 ix, .int .i64 iy, .int .i64 imm, .string sym] 59)).cell? ⟨w2.heap.size, 5, none⟩ = some (.string sym) := by simp [go_sem]
          have hzi : w2.heap.size < (w2.alloc (.cells #[.int .u8 op, .int .i64 dst, .int .i64 ix, .int .i64 iy, .int .i64 imm, .string sym] 59)).heap.size := by simp
          have F0 := Lib.hid (⟨f0, f1, f2, f3, f4, f5⟩ : _ ∧ _ ∧ _ ∧ _ ∧ _ ∧ _)
          clear hbi f0 f1 f2 f3 f4 f5 hmi
          by_cases ho : 1 ≤ op ∧ op ≤ 16
          · obtain ⟨ho1, ho2⟩ := ho
            have ho1I : (1 : Int) ≤ op := by omega
            have ho2I : (op : Int) ≤ 16 := by omega
            obtain ⟨f0, f1, f2, f3, f4, f5⟩ := F0.out
            go_wp2_with fail
            refine (uses_any op dst ix iy imm sym _).mono ?_
            rintro e w5 ⟨u, rfl, hu, huf, hb5⟩
            have g0 := (hb5.cell (p := ⟨w2.heap.size, 0, none⟩) (by simp)).trans f0
            have g1 := (hb5.cell (p := ⟨w2.heap.size, 1, none⟩) (by simp)).trans f1
            have g2 := (hb5.cell (p := ⟨w2.heap.size, 2, none⟩) (by simp)).trans f2
            have g3 := (hb5.cell (p := ⟨w2.heap.size, 3, none⟩) (by simp)).trans f3
            have g4 := (hb5.cell (p := ⟨w2.heap.size, 4, none⟩) (by simp)).trans f4
            have g5 := (hb5.cell (p := ⟨w2.heap.size, 5, none⟩) (by simp)).trans f5
            have hz5 : w2.heap.size < w5.heap.size := by have := hb5.size; omega
            have hb25 : Below w2.heap.size w2 w5 := bThen hb5 (by omega) HBI.out
            have HB25 := Lib.hid hb25
            have r1 : w5.cell? ⟨w.heap.size, 1, none⟩ = some (.int .i64 R) := ((HX1.out.trans ((HY.out.trans (hb25.mono (by omega))).mono (by omega))).cell (p := ⟨w.heap.size, 1, none⟩) (by simp)).trans R1.out
            have G0 := Lib.hid (⟨g0, g1, g2, g3, g4, g5⟩ : _ ∧ _ ∧ _ ∧ _ ∧ _ ∧ _)
            have HUL := Lib.hid (usesI_len ⟨op, dst, ix, iy, imm, sym⟩)
            generalize hl5 : usesI ⟨op, dst, ix, iy, imm, sym⟩ = l at hu HUL
            have HL := Lib.hid hl5
            obtain ⟨p5, cap5, rfl⟩ := hu.shape
            have HU := Lib.hid hu
            have hul : l.length ≤ 2 := HUL.out
            have RG := Lib.hid (fun r => register_any w.heap.size R r w5 r1)
            clear hu huf hb5 f0 f1 f2 f3 f4 f5 g0 g1 g2 g3 g4 g5 F0 HBI hb25 hl5 r1 hzi ho1I ho2I
            go_wp2_with fail
            go_loopw [54] (fun s54 wz => ∃ q : Nat, s54 = .int .i64 q ∧ q ≤ l.length ∧ Hid (∀ i, i < q → okR R (l.getD i 0) = true) ∧ w5 = wz) (fun s54 _ => l.length - (intOf s54).toNat)
            case atStart => exact ⟨0, rfl, Nat.zero_le _, (fun j hj => absurd hj (Nat.not_lt_zero j)), rfl⟩
            case round =>
              obtain ⟨q, rfl, hq, HQ, rfl⟩ := hrel
              by_cases hlq : q < l.length
              · have hqI : (q : Int) < l.length := by omega
                obtain ⟨mu, ou, cu, e1, hmu, hcu⟩ := rdI_cell HU.out q hlq
                injection e1 with e1 e2 e3
                subst e1 e3
                have HQY := Lib.hid (show okR R (l.getD q 0) = true → ∀ i, i < q + 1 → okR R (l.getD i 0) = true from fun h i hi => by
                  by_cases e : i = q
                  · subst e; exact h
                  · exact HQ.out i (by omega))
                have HQN := Lib.hid (show okR R (l.getD q 0) = false → wfF R bs = false from fun h => HNI.out (ins_no_use (i := ⟨op, dst, ix, iy, imm, sym⟩) (k := q) (by rw [HL.out]; exact hlq) (by rw [HL.out]; exact h)))
                generalize l.getD q 0 = y at hcu HQY HQN
                have RGy := Lib.hid (RG.out y)
                obtain ⟨b, hb⟩ : ∃ b, b = okR R y := ⟨_, rfl⟩
                rw [← hb] at HQY HQN
                have RGz : Hid (Calls Tryd.prog 43 #[.int .i64 y, .pointer (some ⟨w.heap.size, 0, none⟩)] w5 fun e w' => e = .returned (.bool b) ∧ w5 = w') := (show Calls _ _ _ _ _ by rw [hb]; exact RGy.out)
                clear RGy hb hmu
                go_wp2_with fail
                refine RGz.out.mono ?_
                rintro e w' ⟨rfl, rfl⟩
                cases b
                · have HWF := Lib.hid (HQN.out rfl)
                  go_wp2_with fail
                  go_ret
                  exact ⟨retB HWF.out, hpost.out _ HB25.out⟩
                · have HQ2 := Lib.hid (HQY.out rfl)
                  go_wp2_with fail
                  go_roundw
                  case rel => exact ⟨q + 1, by go_num, by omega, HQ2.out, by first | trivial | rfl⟩
                  case measure => simp [intOf]; omega
              · have hql : q = l.length := by omega
                subst hql
                obtain ⟨g0, g1, g2, g3, g4, g5⟩ := G0.out
                go_wp2_with fail
                refine (defines_any op dst ix iy imm sym _).mono ?_
                rintro e w6 ⟨rfl, hb6⟩
                have HB26 := Lib.hid (bThen hb6 HB25.out.size HB25.out)
                have r1 : w6.cell? ⟨w.heap.size, 1, none⟩ = some (.int .i64 R) := ((HX1.out.trans ((HY.out.trans (HB26.out.mono (by omega))).mono (by omega))).cell (p := ⟨w.heap.size, 1, none⟩) (by simp)).trans R1.out
                have RG6 := Lib.hid (register_any w.heap.size R dst w6 r1)
                clear hb6 r1 g0 g1 g2 g3 g4 g5 G0
                obtain ⟨hd, hdd⟩ : ∃ b, b = hasDef op := ⟨_, rfl⟩
                rw [← hdd]
                have HUS := Lib.hid (show ∀ k, k < (usesI ⟨op, dst, ix, iy, imm, sym⟩).length → okR R ((usesI ⟨op, dst, ix, iy, imm, sym⟩).getD k 0) = true from by rw [HL.out]; exact HQ.out)
                cases hd
                · have HI2 := Lib.hid (HYI.out (ins_yes (i := ⟨op, dst, ix, iy, imm, sym⟩) ⟨ho1, ho2⟩ HUS.out (fun h => by rw [← hdd] at h; cases h)))
                  clear hdd
                  go_wp2_with fail
                  go_roundw
                  case rel => exact ⟨j + 1, by go_num, by omega, HI2.out, HY.out.trans (HB26.out.mono (by omega))⟩
                  case measure => simp [intOf]; omega
                · obtain ⟨b, hb⟩ : ∃ b, b = okR R dst := ⟨_, rfl⟩
                  rw [← hb] at RG6
                  cases b
                  · have HWF := Lib.hid (HNI.out (ins_no_def (i := ⟨op, dst, ix, iy, imm, sym⟩) hdd.symm hb.symm))
                    clear hdd hb
                    go_wp2_with fail
                    refine RG6.out.mono ?_
                    rintro e w' ⟨rfl, rfl⟩
                    go_wp2_with fail
                    go_ret
                    exact ⟨retB HWF.out, hpost.out _ HB26.out⟩
                  · have HI2 := Lib.hid (HYI.out (ins_yes (i := ⟨op, dst, ix, iy, imm, sym⟩) ⟨ho1, ho2⟩ HUS.out (fun _ => hb.symm)))
                    clear hdd hb
                    go_wp2_with fail
                    refine RG6.out.mono ?_
                    rintro e w' ⟨rfl, rfl⟩
                    go_wp2_with fail
                    go_roundw
                    case rel => exact ⟨j + 1, by go_num, by omega, HI2.out, HY.out.trans (HB26.out.mono (by omega))⟩
                    case measure => simp [intOf]; omega
          · have HWF := Lib.hid (HNI.out (ins_no_op ho))
            rcases (show op < 1 ∨ (1 ≤ op ∧ 16 < op) by omega) with h | ⟨h, h'⟩
            · have hI : (op : Int) < 1 := by omega
              go_wp2_with fail
              go_ret
              exact ⟨retB HWF.out, hpost.out _ HBI.out⟩
            · have hI : ¬ (op : Int) < 1 := by omega
              have hI' : (16 : Int) < op := by omega
              go_wp2_with fail
              go_ret
              exact ⟨retB HWF.out, hpost.out _ HBI.out⟩
        · have hjl : j = code.length := by omega
          subst hjl
          by_cases hk3 : kind = 1 ∨ kind = 2 ∨ kind = 3
          · rcases hk3 with rfl | rfl | rfl
            · skip
              have HIKK := Lib.hid HIK.out
              have HNBk := HNB
              have HYBk := HYB
              have d0 := (HY.out.cell (p := ⟨w1.heap.size, 0, none⟩) (by simp)).trans E0.out
              have d1 := (HY.out.cell (p := ⟨w1.heap.size, 1, none⟩) (by simp)).trans E1.out
              have d2 := (HY.out.cell (p := ⟨w1.heap.size, 2, none⟩) (by simp)).trans E2.out
              have d3 := (HY.out.cell (p := ⟨w1.heap.size, 3, none⟩) (by simp)).trans E3.out
              have d4 := (HY.out.cell (p := ⟨w1.heap.size, 4, none⟩) (by simp)).trans E4.out
              have r3 := ((HX1.out.trans (HY.out.mono (by omega))).cell (p := ⟨w.heap.size, 3, none⟩) (by simp)).trans R3.out
              have r1 := ((HX1.out.trans (HY.out.mono (by omega))).cell (p := ⟨w.heap.size, 1, none⟩) (by simp)).trans R1.out
              go_wp2_with fail
              refine (succ_any cp code.length cc 1 code bx tgt els w2).mono ?_
              rintro e w5 ⟨u, rfl, hu, huf, hb5⟩
              have hz5 : w1.heap.size < w5.heap.size := by have := hb5.size; omega
              have HB25 := Lib.hid hb5
              have g1 := (hb5.cell (p := ⟨w1.heap.size, 1, none⟩) hzy).trans d1
              have g2 := (hb5.cell (p := ⟨w1.heap.size, 2, none⟩) hzy).trans d2
              have s3 := (hb5.cell (p := ⟨w.heap.size, 3, none⟩) (by show w.heap.size < _; omega)).trans r3
              have s1 := (hb5.cell (p := ⟨w.heap.size, 1, none⟩) (by show w.heap.size < _; omega)).trans r1
              have hzw5 : w.heap.size < w5.heap.size := by omega
              have RG := Lib.hid (register_any w.heap.size R bx w5 s1)
              have HUL : Hid ((succI ⟨code, 1, bx, tgt, els⟩).length ≤ 2) := (show _ ≤ 2 from succI_len ⟨code, 1, bx, tgt, els⟩)
              generalize hl5 : succI ⟨code, 1, bx, tgt, els⟩ = l at hu HUL
              have HL := Lib.hid hl5
              obtain ⟨p5, cap5, rfl⟩ := hu.shape
              have HU := Lib.hid hu
              have hul : l.length ≤ 2 := HUL.out
              clear hu huf hb5 hl5 d0 d1 d2 d3 d4 r1 r3 s1
              go_wp2_with fail
              go_loopw [92] (fun s92 wz => ∃ q : Nat, s92 = .int .i64 q ∧ q ≤ l.length ∧ Hid (∀ i, i < q → okR bs.length (l.getD i 0) = true) ∧ w5 = wz) (fun s92 _ => l.length - (intOf s92).toNat)
              case atStart => exact ⟨0, rfl, Nat.zero_le _, (fun j hj => absurd hj (Nat.not_lt_zero j)), rfl⟩
              case round =>
                obtain ⟨q, rfl, hq, HQ, rfl⟩ := hrel
                by_cases hlq : q < l.length
                · have hqI : (q : Int) < l.length := by omega
                  obtain ⟨mu, ou, cu, e1, hmu, hcu⟩ := rdI_cell HU.out q hlq
                  injection e1 with e1 e2 e3
                  subst e1 e3
                  have HQY := Lib.hid (show okR bs.length (l.getD q 0) = true → ∀ i, i < q + 1 → okR bs.length (l.getD i 0) = true from fun h i hi => by
                    by_cases e : i = q
                    · subst e; exact h
                    · exact HQ.out i (by omega))
                  have HQN := Lib.hid (show okR bs.length (l.getD q 0) = false → wfF R bs = false from fun h => HNBk.out (blk_no_succ (b := ⟨code, 1, bx, tgt, els⟩) (k := q) (by rw [HL.out]; exact hlq) (by rw [HL.out]; exact h)))
                  generalize l.getD q 0 = y at hcu HQY HQN
                  by_cases hy0 : y < 0
                  · have HWF := Lib.hid (HQN.out (decide_eq_false (fun h => by omega)))
                    go_wp2_with fail
                    go_ret
                    exact ⟨retB HWF.out, hpost.out _ HB25.out⟩
                  · by_cases hy1 : y < (bs.length : Int)
                    · have HQ2 := Lib.hid (HQY.out (decide_eq_true ⟨by omega, hy1⟩))
                      go_wp2_with fail
                      go_roundw
                      case rel => exact ⟨q + 1, by go_num, by omega, HQ2.out, by first | trivial | rfl⟩
                      case measure => simp [intOf]; omega
                    · have HWF := Lib.hid (HQN.out (decide_eq_false (fun h => hy1 h.2)))
                      go_wp2_with fail
                      go_ret
                      exact ⟨retB HWF.out, hpost.out _ HB25.out⟩
                · have hql : q = l.length := by omega
                  subst hql
                  have HUS := Lib.hid (show ∀ k, k < (succI ⟨code, 1, bx, tgt, els⟩).length → okR bs.length ((succI ⟨code, 1, bx, tgt, els⟩).getD k 0) = true from by rw [HL.out]; exact HQ.out)
                  have HB2 := Lib.hid (HYBk.out (blk_yes (b := ⟨code, 1, bx, tgt, els⟩) HIKK.out (by simp) HUS.out (fun h => by cases h)))
                  go_wp2_with fail
                  go_roundw
                  case rel => exact ⟨k + 1, by go_num, by omega, HB2.out, HX1.out.trans ((HY.out.trans (HB25.out.mono (by omega))).mono (by omega))⟩
                  case measure => simp [intOf]; omega
            · skip
              have HIKK := Lib.hid HIK.out
              have HNBk := HNB
              have HYBk := HYB
              have d0 := (HY.out.cell (p := ⟨w1.heap.size, 0, none⟩) (by simp)).trans E0.out
              have d1 := (HY.out.cell (p := ⟨w1.heap.size, 1, none⟩) (by simp)).trans E1.out
              have d2 := (HY.out.cell (p := ⟨w1.heap.size, 2, none⟩) (by simp)).trans E2.out
              have d3 := (HY.out.cell (p := ⟨w1.heap.size, 3, none⟩) (by simp)).trans E3.out
              have d4 := (HY.out.cell (p := ⟨w1.heap.size, 4, none⟩) (by simp)).trans E4.out
              have r3 := ((HX1.out.trans (HY.out.mono (by omega))).cell (p := ⟨w.heap.size, 3, none⟩) (by simp)).trans R3.out
              have r1 := ((HX1.out.trans (HY.out.mono (by omega))).cell (p := ⟨w.heap.size, 1, none⟩) (by simp)).trans R1.out
              go_wp2_with fail
              refine (succ_any cp code.length cc 2 code bx tgt els w2).mono ?_
              rintro e w5 ⟨u, rfl, hu, huf, hb5⟩
              have hz5 : w1.heap.size < w5.heap.size := by have := hb5.size; omega
              have HB25 := Lib.hid hb5
              have g1 := (hb5.cell (p := ⟨w1.heap.size, 1, none⟩) hzy).trans d1
              have g2 := (hb5.cell (p := ⟨w1.heap.size, 2, none⟩) hzy).trans d2
              have s3 := (hb5.cell (p := ⟨w.heap.size, 3, none⟩) (by show w.heap.size < _; omega)).trans r3
              have s1 := (hb5.cell (p := ⟨w.heap.size, 1, none⟩) (by show w.heap.size < _; omega)).trans r1
              have hzw5 : w.heap.size < w5.heap.size := by omega
              have RG := Lib.hid (register_any w.heap.size R bx w5 s1)
              have HUL : Hid ((succI ⟨code, 2, bx, tgt, els⟩).length ≤ 2) := (show _ ≤ 2 from succI_len ⟨code, 2, bx, tgt, els⟩)
              generalize hl5 : succI ⟨code, 2, bx, tgt, els⟩ = l at hu HUL
              have HL := Lib.hid hl5
              obtain ⟨p5, cap5, rfl⟩ := hu.shape
              have HU := Lib.hid hu
              have hul : l.length ≤ 2 := HUL.out
              clear hu huf hb5 hl5 d0 d1 d2 d3 d4 r1 r3 s1
              go_wp2_with fail
              go_loopw [92] (fun s92 wz => ∃ q : Nat, s92 = .int .i64 q ∧ q ≤ l.length ∧ Hid (∀ i, i < q → okR bs.length (l.getD i 0) = true) ∧ w5 = wz) (fun s92 _ => l.length - (intOf s92).toNat)
              case atStart => exact ⟨0, rfl, Nat.zero_le _, (fun j hj => absurd hj (Nat.not_lt_zero j)), rfl⟩
              case round =>
                obtain ⟨q, rfl, hq, HQ, rfl⟩ := hrel
                by_cases hlq : q < l.length
                · have hqI : (q : Int) < l.length := by omega
                  obtain ⟨mu, ou, cu, e1, hmu, hcu⟩ := rdI_cell HU.out q hlq
                  injection e1 with e1 e2 e3
                  subst e1 e3
                  have HQY := Lib.hid (show okR bs.length (l.getD q 0) = true → ∀ i, i < q + 1 → okR bs.length (l.getD i 0) = true from fun h i hi => by
                    by_cases e : i = q
                    · subst e; exact h
                    · exact HQ.out i (by omega))
                  have HQN := Lib.hid (show okR bs.length (l.getD q 0) = false → wfF R bs = false from fun h => HNBk.out (blk_no_succ (b := ⟨code, 2, bx, tgt, els⟩) (k := q) (by rw [HL.out]; exact hlq) (by rw [HL.out]; exact h)))
                  generalize l.getD q 0 = y at hcu HQY HQN
                  by_cases hy0 : y < 0
                  · have HWF := Lib.hid (HQN.out (decide_eq_false (fun h => by omega)))
                    go_wp2_with fail
                    go_ret
                    exact ⟨retB HWF.out, hpost.out _ HB25.out⟩
                  · by_cases hy1 : y < (bs.length : Int)
                    · have HQ2 := Lib.hid (HQY.out (decide_eq_true ⟨by omega, hy1⟩))
                      go_wp2_with fail
                      go_roundw
                      case rel => exact ⟨q + 1, by go_num, by omega, HQ2.out, by first | trivial | rfl⟩
                      case measure => simp [intOf]; omega
                    · have HWF := Lib.hid (HQN.out (decide_eq_false (fun h => hy1 h.2)))
                      go_wp2_with fail
                      go_ret
                      exact ⟨retB HWF.out, hpost.out _ HB25.out⟩
                · have hql : q = l.length := by omega
                  subst hql
                  have HUS := Lib.hid (show ∀ k, k < (succI ⟨code, 2, bx, tgt, els⟩).length → okR bs.length ((succI ⟨code, 2, bx, tgt, els⟩).getD k 0) = true from by rw [HL.out]; exact HQ.out)
                  obtain ⟨b, hb⟩ : ∃ b, b = okR R bx := ⟨_, rfl⟩
                  rw [← hb] at RG
                  cases b
                  · have HWF := Lib.hid (HNBk.out (blk_no_reg (b := ⟨code, 2, bx, tgt, els⟩) rfl hb.symm))
                    clear hb
                    go_wp2_with fail
                    refine RG.out.mono ?_
                    rintro e w' ⟨rfl, rfl⟩
                    go_wp2_with fail
                    go_ret
                    exact ⟨retB HWF.out, hpost.out _ HB25.out⟩
                  · have HB2 := Lib.hid (HYBk.out (blk_yes (b := ⟨code, 2, bx, tgt, els⟩) HIKK.out (by simp) HUS.out (fun _ => hb.symm)))
                    clear hb
                    go_wp2_with fail
                    refine RG.out.mono ?_
                    rintro e w' ⟨rfl, rfl⟩
                    go_wp2_with fail
                    go_roundw
                    case rel => exact ⟨k + 1, by go_num, by omega, HB2.out, HX1.out.trans ((HY.out.trans (HB25.out.mono (by omega))).mono (by omega))⟩
                    case measure => simp [intOf]; omega
            · skip
              have HIKK := Lib.hid HIK.out
              have HNBk := HNB
              have HYBk := HYB
              have d0 := (HY.out.cell (p := ⟨w1.heap.size, 0, none⟩) (by simp)).trans E0.out
              have d1 := (HY.out.cell (p := ⟨w1.heap.size, 1, none⟩) (by simp)).trans E1.out
              have d2 := (HY.out.cell (p := ⟨w1.heap.size, 2, none⟩) (by simp)).trans E2.out
              have d3 := (HY.out.cell (p := ⟨w1.heap.size, 3, none⟩) (by simp)).trans E3.out
              have d4 := (HY.out.cell (p := ⟨w1.heap.size, 4, none⟩) (by simp)).trans E4.out
              have r3 := ((HX1.out.trans (HY.out.mono (by omega))).cell (p := ⟨w.heap.size, 3, none⟩) (by simp)).trans R3.out
              have r1 := ((HX1.out.trans (HY.out.mono (by omega))).cell (p := ⟨w.heap.size, 1, none⟩) (by simp)).trans R1.out
              go_wp2_with fail
              refine (succ_any cp code.length cc 3 code bx tgt els w2).mono ?_
              rintro e w5 ⟨u, rfl, hu, huf, hb5⟩
              have hz5 : w1.heap.size < w5.heap.size := by have := hb5.size; omega
              have HB25 := Lib.hid hb5
              have g1 := (hb5.cell (p := ⟨w1.heap.size, 1, none⟩) hzy).trans d1
              have g2 := (hb5.cell (p := ⟨w1.heap.size, 2, none⟩) hzy).trans d2
              have s3 := (hb5.cell (p := ⟨w.heap.size, 3, none⟩) (by show w.heap.size < _; omega)).trans r3
              have s1 := (hb5.cell (p := ⟨w.heap.size, 1, none⟩) (by show w.heap.size < _; omega)).trans r1
              have hzw5 : w.heap.size < w5.heap.size := by omega
              have RG := Lib.hid (register_any w.heap.size R bx w5 s1)
              have HUL : Hid ((succI ⟨code, 3, bx, tgt, els⟩).length ≤ 2) := (show _ ≤ 2 from succI_len ⟨code, 3, bx, tgt, els⟩)
              generalize hl5 : succI ⟨code, 3, bx, tgt, els⟩ = l at hu HUL
              have HL := Lib.hid hl5
              obtain ⟨p5, cap5, rfl⟩ := hu.shape
              have HU := Lib.hid hu
              have hul : l.length ≤ 2 := HUL.out
              clear hu huf hb5 hl5 d0 d1 d2 d3 d4 r1 r3 s1
              go_wp2_with fail
              go_loopw [92] (fun s92 wz => ∃ q : Nat, s92 = .int .i64 q ∧ q ≤ l.length ∧ Hid (∀ i, i < q → okR bs.length (l.getD i 0) = true) ∧ w5 = wz) (fun s92 _ => l.length - (intOf s92).toNat)
              case atStart => exact ⟨0, rfl, Nat.zero_le _, (fun j hj => absurd hj (Nat.not_lt_zero j)), rfl⟩
              case round =>
                obtain ⟨q, rfl, hq, HQ, rfl⟩ := hrel
                by_cases hlq : q < l.length
                · have hqI : (q : Int) < l.length := by omega
                  obtain ⟨mu, ou, cu, e1, hmu, hcu⟩ := rdI_cell HU.out q hlq
                  injection e1 with e1 e2 e3
                  subst e1 e3
                  have HQY := Lib.hid (show okR bs.length (l.getD q 0) = true → ∀ i, i < q + 1 → okR bs.length (l.getD i 0) = true from fun h i hi => by
                    by_cases e : i = q
                    · subst e; exact h
                    · exact HQ.out i (by omega))
                  have HQN := Lib.hid (show okR bs.length (l.getD q 0) = false → wfF R bs = false from fun h => HNBk.out (blk_no_succ (b := ⟨code, 3, bx, tgt, els⟩) (k := q) (by rw [HL.out]; exact hlq) (by rw [HL.out]; exact h)))
                  generalize l.getD q 0 = y at hcu HQY HQN
                  by_cases hy0 : y < 0
                  · have HWF := Lib.hid (HQN.out (decide_eq_false (fun h => by omega)))
                    go_wp2_with fail
                    go_ret
                    exact ⟨retB HWF.out, hpost.out _ HB25.out⟩
                  · by_cases hy1 : y < (bs.length : Int)
                    · have HQ2 := Lib.hid (HQY.out (decide_eq_true ⟨by omega, hy1⟩))
                      go_wp2_with fail
                      go_roundw
                      case rel => exact ⟨q + 1, by go_num, by omega, HQ2.out, by first | trivial | rfl⟩
                      case measure => simp [intOf]; omega
                    · have HWF := Lib.hid (HQN.out (decide_eq_false (fun h => hy1 h.2)))
                      go_wp2_with fail
                      go_ret
                      exact ⟨retB HWF.out, hpost.out _ HB25.out⟩
                · have hql : q = l.length := by omega
                  subst hql
                  have HUS := Lib.hid (show ∀ k, k < (succI ⟨code, 3, bx, tgt, els⟩).length → okR bs.length ((succI ⟨code, 3, bx, tgt, els⟩).getD k 0) = true from by rw [HL.out]; exact HQ.out)
                  have HB2 := Lib.hid (HYBk.out (blk_yes (b := ⟨code, 3, bx, tgt, els⟩) HIKK.out (by simp) HUS.out (fun h => by cases h)))
                  go_wp2_with fail
                  go_roundw
                  case rel => exact ⟨k + 1, by go_num, by omega, HB2.out, HX1.out.trans ((HY.out.trans (HB25.out.mono (by omega))).mono (by omega))⟩
                  case measure => simp [intOf]; omega
          · have HWF := Lib.hid (HNB.out (blk_no_kind (b := ⟨code, kind, bx, tgt, els⟩) hk3))
            have k1 : ((kind : Int) != 1) = true := by rw [bne_iff_ne]; omega
            have k2 : ((kind : Int) != 2) = true := by rw [bne_iff_ne]; omega
            have k3 : ((kind : Int) != 3) = true := by rw [bne_iff_ne]; omega
            have d1 := (HY.out.cell (p := ⟨w1.heap.size, 1, none⟩) (by simp)).trans E1.out
            clear hk3
            go_wp2_with fail
            go_ret
            exact ⟨retB HWF.out, hpost.out _ (Below.refl _ _)⟩
    · have hkn : k = bs.length := by omega
      subst hkn
      have HWF := Lib.hid (wf_yes HN0.out HR.out HOK.out)
      go_wp2_with fail
      go_ret
      exact ⟨retB HWF.out, HB0.out.trans (HX.out.mono (by omega))⟩
end Go.Proofs.YtifjcknklecdbaaDoor
