/- ir.validIns, by its contract. -/
import Derived.Test.YtifjcknklecdbaaDoorIrB
import Derived.BigQuiet
set_option linter.unusedVariables false
set_option linter.unusedSimpArgs false
namespace Go.Proofs.YtifjcknklecdbaaDoor
open Go.RowKit Go.Maps

theorem drewN_cell (w : World) (q : Nat) (a : Addr) : (w.drewN q).cell? a = w.cell? a := by simp
theorem drewN_size (w : World) (q : Nat) : (w.drewN q).heap.size = w.heap.size := by simp
theorem drewN_heap (w : World) (q b : Nat) : (w.drewN q).heap[b]? = w.heap[b]? := by simp

set_option maxHeartbeats 12800000 in
set_option maxRecDepth 40000 in
theorem validIns_any (nm : ByteArray) (R : Int) (ap bp : Option Addr) (an ac bn bc m n : Nat) (K : Kinds) (i : IIns) (w : World) (hM : MpAt w m n (mapK K)) (hs : i.sym.size ≤ maxLen) (hop : i.op < 256) :
    Calls Tryd.prog 13 #[.agg #[.string nm, .int .i64 R, .slice ap an ac, .slice bp bn bc], .map (some m), .agg #[.int .u8 i.op, .int .i64 i.dst, .int .i64 i.x, .int .i64 i.y, .int .i64 i.imm, .string i.sym]] w fun e w' => e = .returned (.bool (vIns R K i)) ∧ Below w.heap.size w w' := by
  obtain ⟨op, dst, x, y, imm, sym⟩ := i
  simp only at hs hop ⊢
  obtain ⟨r, hr⟩ : ∃ r, r = vIns R K ⟨op, dst, x, y, imm, sym⟩ := ⟨_, rfl⟩
  rw [← hr]
  have HR := Lib.hid hr
  clear hr
  have hb0 : Below w.heap.size w (((w.alloc (.cells #[.string nm, .int .i64 R, .slice ap an ac, .slice bp bn bc] 25)).alloc (.cells #[.map (some m)] 54)).alloc (.cells #[.int .u8 op, .int .i64 dst, .int .i64 x, .int .i64 y, .int .i64 imm, .string sym] 59)) := bAlloc (by simp; omega) (bAlloc (by simp) (bAlloc (Nat.le_refl _) (Below.refl _ _)))
  have hF : (((w.alloc (.cells #[.string nm, .int .i64 R, .slice ap an ac, .slice bp bn bc] 25)).alloc (.cells #[.map (some m)] 54)).alloc (.cells #[.int .u8 op, .int .i64 dst, .int .i64 x, .int .i64 y, .int .i64 imm, .string sym] 59)).cell? ⟨w.heap.size, 1, none⟩ = some (.int .i64 R) ∧ (((w.alloc (.cells #[.string nm, .int .i64 R, .slice ap an ac, .slice bp bn bc] 25)).alloc (.cells #[.map (some m)] 54)).alloc (.cells #[.int .u8 op, .int .i64 dst, .int .i64 x, .int .i64 y, .int .i64 imm, .string sym] 59)).cell? ⟨w.heap.size + 1, 0, none⟩ = some (.map (some m)) := ⟨by simp [go_sem], by simp [go_sem]⟩
  have hI : (((w.alloc (.cells #[.string nm, .int .i64 R, .slice ap an ac, .slice bp bn bc] 25)).alloc (.cells #[.map (some m)] 54)).alloc (.cells #[.int .u8 op, .int .i64 dst, .int .i64 x, .int .i64 y, .int .i64 imm, .string sym] 59)).cell? ⟨w.heap.size + 1 + 1, 0, none⟩ = some (.int .u8 op) ∧ (((w.alloc (.cells #[.string nm, .int .i64 R, .slice ap an ac, .slice bp bn bc] 25)).alloc (.cells #[.map (some m)] 54)).alloc (.cells #[.int .u8 op, .int .i64 dst, .int .i64 x, .int .i64 y, .int .i64 imm, .string sym] 59)).cell? ⟨w.heap.size + 1 + 1, 1, none⟩ = some (.int .i64 dst) ∧ (((w.alloc (.cells #[.string nm, .int .i64 R, .slice ap an ac, .slice bp bn bc] 25)).alloc (.cells #[.map (some m)] 54)).alloc (.cells #[.int .u8 op, .int .i64 dst, .int .i64 x, .int .i64 y, .int .i64 imm, .string sym] 59)).cell? ⟨w.heap.size + 1 + 1, 2, none⟩ = some (.int .i64 x) ∧ (((w.alloc (.cells #[.string nm, .int .i64 R, .slice ap an ac, .slice bp bn bc] 25)).alloc (.cells #[.map (some m)] 54)).alloc (.cells #[.int .u8 op, .int .i64 dst, .int .i64 x, .int .i64 y, .int .i64 imm, .string sym] 59)).cell? ⟨w.heap.size + 1 + 1, 3, none⟩ = some (.int .i64 y) ∧ (((w.alloc (.cells #[.string nm, .int .i64 R, .slice ap an ac, .slice bp bn bc] 25)).alloc (.cells #[.map (some m)] 54)).alloc (.cells #[.int .u8 op, .int .i64 dst, .int .i64 x, .int .i64 y, .int .i64 imm, .string sym] 59)).cell? ⟨w.heap.size + 1 + 1, 4, none⟩ = some (.int .i64 imm) ∧ (((w.alloc (.cells #[.string nm, .int .i64 R, .slice ap an ac, .slice bp bn bc] 25)).alloc (.cells #[.map (some m)] 54)).alloc (.cells #[.int .u8 op, .int .i64 dst, .int .i64 x, .int .i64 y, .int .i64 imm, .string sym] 59)).cell? ⟨w.heap.size + 1 + 1, 5, none⟩ = some (.string sym) := ⟨by simp [go_sem], by simp [go_sem], by simp [go_sem], by simp [go_sem], by simp [go_sem], by simp [go_sem]⟩
  have hz : (((w.alloc (.cells #[.string nm, .int .i64 R, .slice ap an ac, .slice bp bn bc] 25)).alloc (.cells #[.map (some m)] 54)).alloc (.cells #[.int .u8 op, .int .i64 dst, .int .i64 x, .int .i64 y, .int .i64 imm, .string sym] 59)).heap.size = w.heap.size + 1 + 1 + 1 := by simp
  have hM0 := hM.of_block (hb0.block m hM.lt)
  clear hM
  go_enter Tryd.func13, Tryd.ntmps13
  go_upto_region 4 with fail
  generalize ((w.alloc (.cells #[.string nm, .int .i64 R, .slice ap an ac, .slice bp bn bc] 25)).alloc (.cells #[.map (some m)] 54)).alloc (.cells #[.int .u8 op, .int .i64 dst, .int .i64 x, .int .i64 y, .int .i64 imm, .string sym] 59) = w0 at hb0 hF hI hz hM0 ⊢
  obtain ⟨f1, m0⟩ := hF
  obtain ⟨i0, i1, i2, i3, i4, i5⟩ := hI
  have l0 : w.heap.size < w0.heap.size := by omega
  have l1 : w.heap.size + 1 < w0.heap.size := by omega
  have l2 : w.heap.size + 1 + 1 < w0.heap.size := by omega
  clear hz
  go_quiet (fail)
  generalize hw : w0.drewN nq = w1
  rw [← drewN_cell w0 nq ⟨w.heap.size, 1, none⟩, hw] at f1
  rw [← drewN_cell w0 nq ⟨w.heap.size + 1, 0, none⟩, hw] at m0
  rw [← drewN_cell w0 nq ⟨w.heap.size + 1 + 1, 0, none⟩, hw] at i0
  rw [← drewN_cell w0 nq ⟨w.heap.size + 1 + 1, 1, none⟩, hw] at i1
  rw [← drewN_cell w0 nq ⟨w.heap.size + 1 + 1, 2, none⟩, hw] at i2
  rw [← drewN_cell w0 nq ⟨w.heap.size + 1 + 1, 3, none⟩, hw] at i3
  rw [← drewN_cell w0 nq ⟨w.heap.size + 1 + 1, 4, none⟩, hw] at i4
  rw [← drewN_cell w0 nq ⟨w.heap.size + 1 + 1, 5, none⟩, hw] at i5
  rw [← drewN_size w0 nq, hw] at l0
  rw [← drewN_size w0 nq, hw] at l1
  rw [← drewN_size w0 nq, hw] at l2
  have hb1 : Below w.heap.size w w1 := by rw [← hw]; exact bDrewN hb0
  have hM1 : MpAt w1 m n (mapK K) := by rw [← hw]; exact hM0.of_block (drewN_heap _ _ _)
  clear hb0 hM0 hw
  have hb0 := hb1
  have hM0 := hM1
  clear hb1 hM1
  go_upto_region 5 with fail
  have HRG := Lib.hid (show ∀ (q : Nat) (v : Int), Calls Tryd.prog 26 #[.int .i64 v, .pointer (some ⟨w.heap.size, 0, none⟩)] (w1.drewN q) fun e w' => e = .returned (.bool (okR R v)) ∧ w' = w1.drewN q from fun q v => (register_ir w.heap.size R v (w1.drewN q) (by rw [drewN_cell]; exact f1) (by rw [drewN_size]; exact l0)).mono fun e w' ⟨h1, h2⟩ => ⟨h1, h2.symm⟩)
  go_quiet ((go_at_call 26; refine Calls.quiet_of_same (HRG.out _ _)))
  generalize hw : w1.drewN nq = w2
  rw [← drewN_cell w1 nq ⟨w.heap.size, 1, none⟩, hw] at f1
  rw [← drewN_cell w1 nq ⟨w.heap.size + 1, 0, none⟩, hw] at m0
  rw [← drewN_cell w1 nq ⟨w.heap.size + 1 + 1, 0, none⟩, hw] at i0
  rw [← drewN_cell w1 nq ⟨w.heap.size + 1 + 1, 1, none⟩, hw] at i1
  rw [← drewN_cell w1 nq ⟨w.heap.size + 1 + 1, 2, none⟩, hw] at i2
  rw [← drewN_cell w1 nq ⟨w.heap.size + 1 + 1, 3, none⟩, hw] at i3
  rw [← drewN_cell w1 nq ⟨w.heap.size + 1 + 1, 4, none⟩, hw] at i4
  rw [← drewN_cell w1 nq ⟨w.heap.size + 1 + 1, 5, none⟩, hw] at i5
  rw [← drewN_size w1 nq, hw] at l0
  rw [← drewN_size w1 nq, hw] at l1
  rw [← drewN_size w1 nq, hw] at l2
  have hb1 : Below w.heap.size w w2 := by rw [← hw]; exact bDrewN hb0
  have hM1 : MpAt w2 m n (mapK K) := by rw [← hw]; exact hM0.of_block (drewN_heap _ _ _)
  clear hb0 hM0 hw
  have hb0 := hb1
  have hM0 := hM1
  clear hb1 hM1
  clear HRG
  have HB := Lib.hid hb0
  have HBT := Lib.hid (fun (v lo hi : Int) => between_ir v lo hi w2)
  have HSY := Lib.hid (fun (ar : Bool) => symbol_ir ar (w.heap.size + 1) (w.heap.size + 1 + 1) m n K sym w2 m0 l1 i5 l2 hM0 hs)
  clear hb0 hM0 f1 m0 i1 i3 i5 l0 l1 hs
  have hz : ∀ v : Int, isz v = (v == 0) := fun v => by unfold isz; by_cases h : v = 0 <;> simp [h]
  have HV1 : Hid (op = 1 → r = ((((okR R dst && bw imm (-2147483648) 2147483647) && (x == 0)) && (y == 0)) && sym.toList.isEmpty)) := (show _ → _ from fun h => by rw [HR.out]; subst h; simp [vIns, hz, symK])
  have HV2 : Hid (op = 2 → r = ((((okR R dst && okR R x) && (y == 0)) && (imm == 0)) && sym.toList.isEmpty)) := (show _ → _ from fun h => by rw [HR.out]; subst h; simp [vIns, hz, symK])
  have HV3 : Hid (op = 3 → r = ((((okR R dst && okR R x) && okR R y) && bw imm (6) 23) && sym.toList.isEmpty)) := (show _ → _ from fun h => by rw [HR.out]; subst h; simp [vIns, hz, symK])
  have HV4 : Hid (op = 4 → r = ((((okR R dst && okR R x) && symK K sym true) && (y == 0)) && (imm == 0))) := (show _ → _ from fun h => by rw [HR.out]; subst h; simp [vIns, hz, symK])
  have HV6 : Hid (op = 6 → r = ((((okR R dst && okR R x) && symK K sym false) && (y == 0)) && (imm == 0))) := (show _ → _ from fun h => by rw [HR.out]; subst h; simp [vIns, hz, symK])
  have HV5 : Hid (op = 5 → r = ((((okR R x && okR R y) && symK K sym true) && (dst == 0)) && (imm == 0))) := (show _ → _ from fun h => by rw [HR.out]; subst h; simp [vIns, hz, symK])
  have HV7 : Hid (op = 7 → r = ((((okR R x && okR R y) && symK K sym false) && (dst == 0)) && (imm == 0))) := (show _ → _ from fun h => by rw [HR.out]; subst h; simp [vIns, hz, symK])
  have HV8 : Hid (op = 8 → r = ((((okR R x && bw imm (1) 131071) && (dst == 0)) && (y == 0)) && sym.toList.isEmpty)) := (show _ → _ from fun h => by rw [HR.out]; subst h; simp [vIns, hz, symK])
  have HV9 : Hid (op = 9 → r = ((((okR R dst && bw imm (0) 7) && (x == 0)) && (y == 0)) && sym.toList.isEmpty)) := (show _ → _ from fun h => by rw [HR.out]; subst h; simp [vIns, hz, symK])
  have HV10 : Hid (op = 10 → r = ((((okR R x && bw imm (0) 7) && (dst == 0)) && (y == 0)) && sym.toList.isEmpty)) := (show _ → _ from fun h => by rw [HR.out]; subst h; simp [vIns, hz, symK])
  have HV11 : Hid (op = 11 → r = ((((symK K sym false && (dst == 0)) && (x == 0)) && (y == 0)) && (imm == 0))) := (show _ → _ from fun h => by rw [HR.out]; subst h; simp [vIns, hz, symK])
  have HV12 : Hid (op = 12 → r = ((((symK K sym false && (dst == 0)) && (x == 0)) && (y == 0)) && (imm == 0))) := (show _ → _ from fun h => by rw [HR.out]; subst h; simp [vIns, hz, symK])
  have HV13 : Hid (op = 13 → r = ((((bw imm (0) 3 && (dst == 0)) && (x == 0)) && (y == 0)) && sym.toList.isEmpty)) := (show _ → _ from fun h => by rw [HR.out]; subst h; simp [vIns, hz, symK])
  have HV14 : Hid (op = 14 → r = ((((bw imm (0) 3 && (dst == 0)) && (x == 0)) && (y == 0)) && sym.toList.isEmpty)) := (show _ → _ from fun h => by rw [HR.out]; subst h; simp [vIns, hz, symK])
  have HV15 : Hid (op = 15 → r = ((((okR R dst && bw imm (0) 3) && (x == 0)) && (y == 0)) && sym.toList.isEmpty)) := (show _ → _ from fun h => by rw [HR.out]; subst h; simp [vIns, hz, symK])
  have HV16 : Hid (op = 16 → r = ((((bw x (0) 3 && bw imm (1) 131071) && (dst == 0)) && (y == 0)) && sym.toList.isEmpty)) := (show _ → _ from fun h => by rw [HR.out]; subst h; simp [vIns, hz, symK])
  have HVZ : Hid (op = 0 ∨ 16 < op → r = false) := (show _ → _ from fun h => by rw [HR.out]; unfold vIns; simp only; (repeat rw [if_neg (by omega)]))
  generalize okR R dst = D at HV1 HV2 HV3 HV4 HV6 HV5 HV7 HV8 HV9 HV10 HV11 HV12 HV13 HV14 HV15 HV16 ⊢
  generalize okR R x = X at HV1 HV2 HV3 HV4 HV6 HV5 HV7 HV8 HV9 HV10 HV11 HV12 HV13 HV14 HV15 HV16 ⊢
  generalize okR R y = Y at HV1 HV2 HV3 HV4 HV6 HV5 HV7 HV8 HV9 HV10 HV11 HV12 HV13 HV14 HV15 HV16 ⊢
  generalize (dst == 0) = nd at HV1 HV2 HV3 HV4 HV6 HV5 HV7 HV8 HV9 HV10 HV11 HV12 HV13 HV14 HV15 HV16 ⊢
  generalize (x == 0) = nx at HV1 HV2 HV3 HV4 HV6 HV5 HV7 HV8 HV9 HV10 HV11 HV12 HV13 HV14 HV15 HV16 ⊢
  generalize (y == 0) = ny at HV1 HV2 HV3 HV4 HV6 HV5 HV7 HV8 HV9 HV10 HV11 HV12 HV13 HV14 HV15 HV16 ⊢
  generalize (imm == 0) = ni at HV1 HV2 HV3 HV4 HV6 HV5 HV7 HV8 HV9 HV10 HV11 HV12 HV13 HV14 HV15 HV16 ⊢
  generalize sym.toList.isEmpty = ns at HV1 HV2 HV3 HV4 HV6 HV5 HV7 HV8 HV9 HV10 HV11 HV12 HV13 HV14 HV15 HV16 ⊢
  clear HR hz
  rcases (show op = 0 ∨ 16 < op ∨ op = 1 ∨ op = 2 ∨ op = 3 ∨ op = 4 ∨ op = 5 ∨ op = 6 ∨ op = 7 ∨ op = 8 ∨ op = 9 ∨ op = 10 ∨ op = 11 ∨ op = 12 ∨ op = 13 ∨ op = 14 ∨ op = 15 ∨ op = 16 by omega) with h0 | h17 | rfl | rfl | rfl | rfl | rfl | rfl | rfl | rfl | rfl | rfl | rfl | rfl | rfl | rfl | rfl | rfl
  · have hv := HVZ.out (.inl h0)
    subst h0
    have HVC := Lib.hid hv
    clear hv HVZ HV1 HV2 HV3 HV4 HV6 HV5 HV7 HV8 HV9 HV10 HV11 HV12 HV13 HV14 HV15 HV16
    go_wp2_with fail
    go_ret
    exact ⟨by rw [HVC.out]; rfl, HB.out⟩
  · have hv := HVZ.out (.inr h17)
    have HVC := Lib.hid hv
    clear hv HVZ HV1 HV2 HV3 HV4 HV6 HV5 HV7 HV8 HV9 HV10 HV11 HV12 HV13 HV14 HV15 HV16
    have g1 : ((op : Int) == 1) = false := beq_eq_false_iff_ne.2 (by omega)
    have g2 : ((op : Int) == 2) = false := beq_eq_false_iff_ne.2 (by omega)
    have g3 : ((op : Int) == 3) = false := beq_eq_false_iff_ne.2 (by omega)
    have g4 : ((op : Int) == 4) = false := beq_eq_false_iff_ne.2 (by omega)
    have g5 : ((op : Int) == 5) = false := beq_eq_false_iff_ne.2 (by omega)
    have g6 : ((op : Int) == 6) = false := beq_eq_false_iff_ne.2 (by omega)
    have g7 : ((op : Int) == 7) = false := beq_eq_false_iff_ne.2 (by omega)
    have g8 : ((op : Int) == 8) = false := beq_eq_false_iff_ne.2 (by omega)
    have g9 : ((op : Int) == 9) = false := beq_eq_false_iff_ne.2 (by omega)
    have g10 : ((op : Int) == 10) = false := beq_eq_false_iff_ne.2 (by omega)
    have g11 : ((op : Int) == 11) = false := beq_eq_false_iff_ne.2 (by omega)
    have g12 : ((op : Int) == 12) = false := beq_eq_false_iff_ne.2 (by omega)
    have g13 : ((op : Int) == 13) = false := beq_eq_false_iff_ne.2 (by omega)
    have g14 : ((op : Int) == 14) = false := beq_eq_false_iff_ne.2 (by omega)
    have g15 : ((op : Int) == 15) = false := beq_eq_false_iff_ne.2 (by omega)
    have g16 : ((op : Int) == 16) = false := beq_eq_false_iff_ne.2 (by omega)
    go_wp2_with fail
    go_ret
    exact ⟨by rw [HVC.out]; rfl, HB.out⟩
  · have hv := HV1.out rfl
    have HVC := Lib.hid hv
    clear hv HVZ HV1 HV2 HV3 HV4 HV6 HV5 HV7 HV8 HV9 HV10 HV11 HV12 HV13 HV14 HV15 HV16
    cases D
    · skip
      go_wp2_with fail
      go_ret
      exact ⟨by rw [HVC.out] <;> simp, HB.out⟩
    · skip
      go_wp2_with fail
      refine (HBT.out imm (-2147483648) 2147483647).mono ?_
      rintro e w' ⟨rfl, rfl⟩
      generalize bw imm (-2147483648) 2147483647 = bc at HVC ⊢
      cases bc
      · skip
        go_wp2_with fail
        go_ret
        exact ⟨by rw [HVC.out] <;> simp, HB.out⟩
      · skip
        cases nx
        · skip
          go_wp2_with fail
          go_ret
          exact ⟨by rw [HVC.out] <;> simp, HB.out⟩
        · skip
          cases ny
          · skip
            go_wp2_with fail
            go_ret
            exact ⟨by rw [HVC.out] <;> simp, HB.out⟩
          · skip
            cases ns
            · skip
              go_wp2_with fail
              go_ret
              exact ⟨by rw [HVC.out] <;> simp, HB.out⟩
            · skip
              go_wp2_with fail
              go_ret
              exact ⟨by rw [HVC.out] <;> simp, HB.out⟩
  · have hv := HV2.out rfl
    have HVC := Lib.hid hv
    clear hv HVZ HV1 HV2 HV3 HV4 HV6 HV5 HV7 HV8 HV9 HV10 HV11 HV12 HV13 HV14 HV15 HV16
    cases D
    · skip
      go_wp2_with fail
      go_ret
      exact ⟨by rw [HVC.out] <;> simp, HB.out⟩
    · skip
      cases X
      · skip
        go_wp2_with fail
        go_ret
        exact ⟨by rw [HVC.out] <;> simp, HB.out⟩
      · skip
        cases ny
        · skip
          go_wp2_with fail
          go_ret
          exact ⟨by rw [HVC.out] <;> simp, HB.out⟩
        · skip
          cases ni
          · skip
            go_wp2_with fail
            go_ret
            exact ⟨by rw [HVC.out] <;> simp, HB.out⟩
          · skip
            cases ns
            · skip
              go_wp2_with fail
              go_ret
              exact ⟨by rw [HVC.out] <;> simp, HB.out⟩
            · skip
              go_wp2_with fail
              go_ret
              exact ⟨by rw [HVC.out] <;> simp, HB.out⟩
  · have hv := HV3.out rfl
    have HVC := Lib.hid hv
    clear hv HVZ HV1 HV2 HV3 HV4 HV6 HV5 HV7 HV8 HV9 HV10 HV11 HV12 HV13 HV14 HV15 HV16
    cases D
    · skip
      go_wp2_with fail
      go_ret
      exact ⟨by rw [HVC.out] <;> simp, HB.out⟩
    · skip
      cases X
      · skip
        go_wp2_with fail
        go_ret
        exact ⟨by rw [HVC.out] <;> simp, HB.out⟩
      · skip
        cases Y
        · skip
          go_wp2_with fail
          go_ret
          exact ⟨by rw [HVC.out] <;> simp, HB.out⟩
        · skip
          go_wp2_with fail
          refine (HBT.out imm (6) 23).mono ?_
          rintro e w' ⟨rfl, rfl⟩
          generalize bw imm (6) 23 = bc at HVC ⊢
          cases bc
          · skip
            go_wp2_with fail
            go_ret
            exact ⟨by rw [HVC.out] <;> simp, HB.out⟩
          · skip
            cases ns
            · skip
              go_wp2_with fail
              go_ret
              exact ⟨by rw [HVC.out] <;> simp, HB.out⟩
            · skip
              go_wp2_with fail
              go_ret
              exact ⟨by rw [HVC.out] <;> simp, HB.out⟩
  · have hv := HV4.out rfl
    have HVC := Lib.hid hv
    clear hv HVZ HV1 HV2 HV3 HV4 HV6 HV5 HV7 HV8 HV9 HV10 HV11 HV12 HV13 HV14 HV15 HV16
    cases D
    · skip
      go_wp2_with fail
      go_ret
      exact ⟨by rw [HVC.out] <;> simp, HB.out⟩
    · skip
      cases X
      · skip
        go_wp2_with fail
        go_ret
        exact ⟨by rw [HVC.out] <;> simp, HB.out⟩
      · skip
        go_wp2_with fail
        refine (HSY.out true).mono ?_
        rintro e w' ⟨rfl, rfl⟩
        generalize symK K sym true = bc at HVC ⊢
        cases bc
        · skip
          go_wp2_with fail
          go_ret
          exact ⟨by rw [HVC.out] <;> simp, HB.out⟩
        · skip
          cases ny
          · skip
            go_wp2_with fail
            go_ret
            exact ⟨by rw [HVC.out] <;> simp, HB.out⟩
          · skip
            cases ni
            · skip
              go_wp2_with fail
              go_ret
              exact ⟨by rw [HVC.out] <;> simp, HB.out⟩
            · skip
              go_wp2_with fail
              go_ret
              exact ⟨by rw [HVC.out] <;> simp, HB.out⟩
  · have hv := HV5.out rfl
    have HVC := Lib.hid hv
    clear hv HVZ HV1 HV2 HV3 HV4 HV6 HV5 HV7 HV8 HV9 HV10 HV11 HV12 HV13 HV14 HV15 HV16
    cases X
    · skip
      go_wp2_with fail
      go_ret
      exact ⟨by rw [HVC.out] <;> simp, HB.out⟩
    · skip
      cases Y
      · skip
        go_wp2_with fail
        go_ret
        exact ⟨by rw [HVC.out] <;> simp, HB.out⟩
      · skip
        go_wp2_with fail
        refine (HSY.out true).mono ?_
        rintro e w' ⟨rfl, rfl⟩
        generalize symK K sym true = bc at HVC ⊢
        cases bc
        · skip
          go_wp2_with fail
          go_ret
          exact ⟨by rw [HVC.out] <;> simp, HB.out⟩
        · skip
          cases nd
          · skip
            go_wp2_with fail
            go_ret
            exact ⟨by rw [HVC.out] <;> simp, HB.out⟩
          · skip
            cases ni
            · skip
              go_wp2_with fail
              go_ret
              exact ⟨by rw [HVC.out] <;> simp, HB.out⟩
            · skip
              go_wp2_with fail
              go_ret
              exact ⟨by rw [HVC.out] <;> simp, HB.out⟩
  · have hv := HV6.out rfl
    have HVC := Lib.hid hv
    clear hv HVZ HV1 HV2 HV3 HV4 HV6 HV5 HV7 HV8 HV9 HV10 HV11 HV12 HV13 HV14 HV15 HV16
    cases D
    · skip
      go_wp2_with fail
      go_ret
      exact ⟨by rw [HVC.out] <;> simp, HB.out⟩
    · skip
      cases X
      · skip
        go_wp2_with fail
        go_ret
        exact ⟨by rw [HVC.out] <;> simp, HB.out⟩
      · skip
        go_wp2_with fail
        refine (HSY.out false).mono ?_
        rintro e w' ⟨rfl, rfl⟩
        generalize symK K sym false = bc at HVC ⊢
        cases bc
        · skip
          go_wp2_with fail
          go_ret
          exact ⟨by rw [HVC.out] <;> simp, HB.out⟩
        · skip
          cases ny
          · skip
            go_wp2_with fail
            go_ret
            exact ⟨by rw [HVC.out] <;> simp, HB.out⟩
          · skip
            cases ni
            · skip
              go_wp2_with fail
              go_ret
              exact ⟨by rw [HVC.out] <;> simp, HB.out⟩
            · skip
              go_wp2_with fail
              go_ret
              exact ⟨by rw [HVC.out] <;> simp, HB.out⟩
  · have hv := HV7.out rfl
    have HVC := Lib.hid hv
    clear hv HVZ HV1 HV2 HV3 HV4 HV6 HV5 HV7 HV8 HV9 HV10 HV11 HV12 HV13 HV14 HV15 HV16
    cases X
    · skip
      go_wp2_with fail
      go_ret
      exact ⟨by rw [HVC.out] <;> simp, HB.out⟩
    · skip
      cases Y
      · skip
        go_wp2_with fail
        go_ret
        exact ⟨by rw [HVC.out] <;> simp, HB.out⟩
      · skip
        go_wp2_with fail
        refine (HSY.out false).mono ?_
        rintro e w' ⟨rfl, rfl⟩
        generalize symK K sym false = bc at HVC ⊢
        cases bc
        · skip
          go_wp2_with fail
          go_ret
          exact ⟨by rw [HVC.out] <;> simp, HB.out⟩
        · skip
          cases nd
          · skip
            go_wp2_with fail
            go_ret
            exact ⟨by rw [HVC.out] <;> simp, HB.out⟩
          · skip
            cases ni
            · skip
              go_wp2_with fail
              go_ret
              exact ⟨by rw [HVC.out] <;> simp, HB.out⟩
            · skip
              go_wp2_with fail
              go_ret
              exact ⟨by rw [HVC.out] <;> simp, HB.out⟩
  · have hv := HV8.out rfl
    have HVC := Lib.hid hv
    clear hv HVZ HV1 HV2 HV3 HV4 HV6 HV5 HV7 HV8 HV9 HV10 HV11 HV12 HV13 HV14 HV15 HV16
    cases X
    · skip
      go_wp2_with fail
      go_ret
      exact ⟨by rw [HVC.out] <;> simp, HB.out⟩
    · skip
      go_wp2_with fail
      refine (HBT.out imm (1) 131071).mono ?_
      rintro e w' ⟨rfl, rfl⟩
      generalize bw imm (1) 131071 = bc at HVC ⊢
      cases bc
      · skip
        go_wp2_with fail
        go_ret
        exact ⟨by rw [HVC.out] <;> simp, HB.out⟩
      · skip
        cases nd
        · skip
          go_wp2_with fail
          go_ret
          exact ⟨by rw [HVC.out] <;> simp, HB.out⟩
        · skip
          cases ny
          · skip
            go_wp2_with fail
            go_ret
            exact ⟨by rw [HVC.out] <;> simp, HB.out⟩
          · skip
            cases ns
            · skip
              go_wp2_with fail
              go_ret
              exact ⟨by rw [HVC.out] <;> simp, HB.out⟩
            · skip
              go_wp2_with fail
              go_ret
              exact ⟨by rw [HVC.out] <;> simp, HB.out⟩
  · have hv := HV9.out rfl
    have HVC := Lib.hid hv
    clear hv HVZ HV1 HV2 HV3 HV4 HV6 HV5 HV7 HV8 HV9 HV10 HV11 HV12 HV13 HV14 HV15 HV16
    cases D
    · skip
      go_wp2_with fail
      go_ret
      exact ⟨by rw [HVC.out] <;> simp, HB.out⟩
    · skip
      go_wp2_with fail
      refine (HBT.out imm (0) 7).mono ?_
      rintro e w' ⟨rfl, rfl⟩
      generalize bw imm (0) 7 = bc at HVC ⊢
      cases bc
      · skip
        go_wp2_with fail
        go_ret
        exact ⟨by rw [HVC.out] <;> simp, HB.out⟩
      · skip
        cases nx
        · skip
          go_wp2_with fail
          go_ret
          exact ⟨by rw [HVC.out] <;> simp, HB.out⟩
        · skip
          cases ny
          · skip
            go_wp2_with fail
            go_ret
            exact ⟨by rw [HVC.out] <;> simp, HB.out⟩
          · skip
            cases ns
            · skip
              go_wp2_with fail
              go_ret
              exact ⟨by rw [HVC.out] <;> simp, HB.out⟩
            · skip
              go_wp2_with fail
              go_ret
              exact ⟨by rw [HVC.out] <;> simp, HB.out⟩
  · have hv := HV10.out rfl
    have HVC := Lib.hid hv
    clear hv HVZ HV1 HV2 HV3 HV4 HV6 HV5 HV7 HV8 HV9 HV10 HV11 HV12 HV13 HV14 HV15 HV16
    cases X
    · skip
      go_wp2_with fail
      go_ret
      exact ⟨by rw [HVC.out] <;> simp, HB.out⟩
    · skip
      go_wp2_with fail
      refine (HBT.out imm (0) 7).mono ?_
      rintro e w' ⟨rfl, rfl⟩
      generalize bw imm (0) 7 = bc at HVC ⊢
      cases bc
      · skip
        go_wp2_with fail
        go_ret
        exact ⟨by rw [HVC.out] <;> simp, HB.out⟩
      · skip
        cases nd
        · skip
          go_wp2_with fail
          go_ret
          exact ⟨by rw [HVC.out] <;> simp, HB.out⟩
        · skip
          cases ny
          · skip
            go_wp2_with fail
            go_ret
            exact ⟨by rw [HVC.out] <;> simp, HB.out⟩
          · skip
            cases ns
            · skip
              go_wp2_with fail
              go_ret
              exact ⟨by rw [HVC.out] <;> simp, HB.out⟩
            · skip
              go_wp2_with fail
              go_ret
              exact ⟨by rw [HVC.out] <;> simp, HB.out⟩
  · have hv := HV11.out rfl
    have HVC := Lib.hid hv
    clear hv HVZ HV1 HV2 HV3 HV4 HV6 HV5 HV7 HV8 HV9 HV10 HV11 HV12 HV13 HV14 HV15 HV16
    go_wp2_with fail
    refine (HSY.out false).mono ?_
    rintro e w' ⟨rfl, rfl⟩
    generalize symK K sym false = bc at HVC ⊢
    cases bc
    · skip
      go_wp2_with fail
      go_ret
      exact ⟨by rw [HVC.out] <;> simp, HB.out⟩
    · skip
      cases nd
      · skip
        go_wp2_with fail
        go_ret
        exact ⟨by rw [HVC.out] <;> simp, HB.out⟩
      · skip
        cases nx
        · skip
          go_wp2_with fail
          go_ret
          exact ⟨by rw [HVC.out] <;> simp, HB.out⟩
        · skip
          cases ny
          · skip
            go_wp2_with fail
            go_ret
            exact ⟨by rw [HVC.out] <;> simp, HB.out⟩
          · skip
            cases ni
            · skip
              go_wp2_with fail
              go_ret
              exact ⟨by rw [HVC.out] <;> simp, HB.out⟩
            · skip
              go_wp2_with fail
              go_ret
              exact ⟨by rw [HVC.out] <;> simp, HB.out⟩
  · have hv := HV12.out rfl
    have HVC := Lib.hid hv
    clear hv HVZ HV1 HV2 HV3 HV4 HV6 HV5 HV7 HV8 HV9 HV10 HV11 HV12 HV13 HV14 HV15 HV16
    go_wp2_with fail
    refine (HSY.out false).mono ?_
    rintro e w' ⟨rfl, rfl⟩
    generalize symK K sym false = bc at HVC ⊢
    cases bc
    · skip
      go_wp2_with fail
      go_ret
      exact ⟨by rw [HVC.out] <;> simp, HB.out⟩
    · skip
      cases nd
      · skip
        go_wp2_with fail
        go_ret
        exact ⟨by rw [HVC.out] <;> simp, HB.out⟩
      · skip
        cases nx
        · skip
          go_wp2_with fail
          go_ret
          exact ⟨by rw [HVC.out] <;> simp, HB.out⟩
        · skip
          cases ny
          · skip
            go_wp2_with fail
            go_ret
            exact ⟨by rw [HVC.out] <;> simp, HB.out⟩
          · skip
            cases ni
            · skip
              go_wp2_with fail
              go_ret
              exact ⟨by rw [HVC.out] <;> simp, HB.out⟩
            · skip
              go_wp2_with fail
              go_ret
              exact ⟨by rw [HVC.out] <;> simp, HB.out⟩
  · have hv := HV13.out rfl
    have HVC := Lib.hid hv
    clear hv HVZ HV1 HV2 HV3 HV4 HV6 HV5 HV7 HV8 HV9 HV10 HV11 HV12 HV13 HV14 HV15 HV16
    go_wp2_with fail
    refine (HBT.out imm (0) 3).mono ?_
    rintro e w' ⟨rfl, rfl⟩
    generalize bw imm (0) 3 = bc at HVC ⊢
    cases bc
    · skip
      go_wp2_with fail
      go_ret
      exact ⟨by rw [HVC.out] <;> simp, HB.out⟩
    · skip
      cases nd
      · skip
        go_wp2_with fail
        go_ret
        exact ⟨by rw [HVC.out] <;> simp, HB.out⟩
      · skip
        cases nx
        · skip
          go_wp2_with fail
          go_ret
          exact ⟨by rw [HVC.out] <;> simp, HB.out⟩
        · skip
          cases ny
          · skip
            go_wp2_with fail
            go_ret
            exact ⟨by rw [HVC.out] <;> simp, HB.out⟩
          · skip
            cases ns
            · skip
              go_wp2_with fail
              go_ret
              exact ⟨by rw [HVC.out] <;> simp, HB.out⟩
            · skip
              go_wp2_with fail
              go_ret
              exact ⟨by rw [HVC.out] <;> simp, HB.out⟩
  · have hv := HV14.out rfl
    have HVC := Lib.hid hv
    clear hv HVZ HV1 HV2 HV3 HV4 HV6 HV5 HV7 HV8 HV9 HV10 HV11 HV12 HV13 HV14 HV15 HV16
    go_wp2_with fail
    refine (HBT.out imm (0) 3).mono ?_
    rintro e w' ⟨rfl, rfl⟩
    generalize bw imm (0) 3 = bc at HVC ⊢
    cases bc
    · skip
      go_wp2_with fail
      go_ret
      exact ⟨by rw [HVC.out] <;> simp, HB.out⟩
    · skip
      cases nd
      · skip
        go_wp2_with fail
        go_ret
        exact ⟨by rw [HVC.out] <;> simp, HB.out⟩
      · skip
        cases nx
        · skip
          go_wp2_with fail
          go_ret
          exact ⟨by rw [HVC.out] <;> simp, HB.out⟩
        · skip
          cases ny
          · skip
            go_wp2_with fail
            go_ret
            exact ⟨by rw [HVC.out] <;> simp, HB.out⟩
          · skip
            cases ns
            · skip
              go_wp2_with fail
              go_ret
              exact ⟨by rw [HVC.out] <;> simp, HB.out⟩
            · skip
              go_wp2_with fail
              go_ret
              exact ⟨by rw [HVC.out] <;> simp, HB.out⟩
  · have hv := HV15.out rfl
    have HVC := Lib.hid hv
    clear hv HVZ HV1 HV2 HV3 HV4 HV6 HV5 HV7 HV8 HV9 HV10 HV11 HV12 HV13 HV14 HV15 HV16
    cases D
    · skip
      go_wp2_with fail
      go_ret
      exact ⟨by rw [HVC.out] <;> simp, HB.out⟩
    · skip
      go_wp2_with fail
      refine (HBT.out imm (0) 3).mono ?_
      rintro e w' ⟨rfl, rfl⟩
      generalize bw imm (0) 3 = bc at HVC ⊢
      cases bc
      · skip
        go_wp2_with fail
        go_ret
        exact ⟨by rw [HVC.out] <;> simp, HB.out⟩
      · skip
        cases nx
        · skip
          go_wp2_with fail
          go_ret
          exact ⟨by rw [HVC.out] <;> simp, HB.out⟩
        · skip
          cases ny
          · skip
            go_wp2_with fail
            go_ret
            exact ⟨by rw [HVC.out] <;> simp, HB.out⟩
          · skip
            cases ns
            · skip
              go_wp2_with fail
              go_ret
              exact ⟨by rw [HVC.out] <;> simp, HB.out⟩
            · skip
              go_wp2_with fail
              go_ret
              exact ⟨by rw [HVC.out] <;> simp, HB.out⟩
  · have hv := HV16.out rfl
    have HVC := Lib.hid hv
    clear hv HVZ HV1 HV2 HV3 HV4 HV6 HV5 HV7 HV8 HV9 HV10 HV11 HV12 HV13 HV14 HV15 HV16
    go_wp2_with fail
    refine (HBT.out x (0) 3).mono ?_
    rintro e w' ⟨rfl, rfl⟩
    generalize bw x (0) 3 = bc at HVC ⊢
    cases bc
    · skip
      go_wp2_with fail
      go_ret
      exact ⟨by rw [HVC.out] <;> simp, HB.out⟩
    · skip
      go_wp2_with fail
      refine (HBT.out imm (1) 131071).mono ?_
      rintro e w' ⟨rfl, rfl⟩
      generalize bw imm (1) 131071 = bc at HVC ⊢
      cases bc
      · skip
        go_wp2_with fail
        go_ret
        exact ⟨by rw [HVC.out] <;> simp, HB.out⟩
      · skip
        cases nd
        · skip
          go_wp2_with fail
          go_ret
          exact ⟨by rw [HVC.out] <;> simp, HB.out⟩
        · skip
          cases ny
          · skip
            go_wp2_with fail
            go_ret
            exact ⟨by rw [HVC.out] <;> simp, HB.out⟩
          · skip
            cases ns
            · skip
              go_wp2_with fail
              go_ret
              exact ⟨by rw [HVC.out] <;> simp, HB.out⟩
            · skip
              go_wp2_with fail
              go_ret
              exact ⟨by rw [HVC.out] <;> simp, HB.out⟩
end Go.Proofs.YtifjcknklecdbaaDoor
