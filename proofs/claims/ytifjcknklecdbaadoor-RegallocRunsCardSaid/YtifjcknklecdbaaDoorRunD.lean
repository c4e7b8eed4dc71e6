/- Loads and stores of the runner. -/
import Derived.Test.YtifjcknklecdbaaDoorRunC
import Derived.RegionTactic
import Derived.BigRegion
import Derived.BigQuiet
import Derived.IntWalk
import Derived.Deep.RegionHeld3
import Derived.StillTailTactics
set_option linter.unusedVariables false
set_option linter.unusedSimpArgs false
namespace Go.Proofs.YtifjcknklecdbaaDoor
open Go.RowKit Go.Maps

/-- What an instruction leaves. -/
def InsPost (q : RK) (L : List (Nat × List Value)) (s : RS) (out : Except Int RS) (e : Ending) (w' : World) : Prop :=
  match out with
  | .error er => e = .returned (.int .i64 er) ∧ Hid (RunRel q L s w')
  | .ok s' => e = .returned (.int .i64 0) ∧ Hid (RunRel q L s' w')
theorem zero32s (w : World) : (zeroValue 27).run Tryd.prog w = .ok (.slice none 0 0) w := by kernel_rfl

set_option maxHeartbeats 3200000 in
set_option maxRecDepth 20000 in
theorem access_any {ap : Int → Int → Int → Int × Int} {q : RK} {L : List (Nat × List Value)} {s : RS} {w : World} (h : RunRel q L s w) (op : Nat) (dst x y imm : Int) (sym : ByteArray) (hop : op = 4 ∨ op = 5 ∨ op = 6 ∨ op = 7) (hF : q.F sym = some (q.V (q.idx sym)) ∧ q.idx sym < q.nm) (hs : sym.size ≤ maxLen) (hx : okR q.R x = true) (hd : op = 4 ∨ op = 6 → okR q.R dst = true) (hy : op = 5 ∨ op = 7 → okR q.R y = true) :
    Calls Tryd.prog 50 #[.pointer (some ⟨q.gb, 0, none⟩), .agg #[.int .u8 op, .int .i64 dst, .int .i64 x, .int .i64 y, .int .i64 imm, .string sym]] w (InsPost q L s (insR ap q.idx q.inp s ⟨op, dst, x, y, imm, sym⟩)) := by
  simp only [okR, decide_eq_true_eq] at hx hd hy
  obtain ⟨xn, rfl⟩ := Int.eq_ofNat_of_zero_le hx.1
  have hxn : xn < q.R := by omega
  have h1 := h.made [.int .u8 op, .int .i64 dst, .int .i64 xn, .int .i64 y, .int .i64 imm, .string sym] 59
  clear h
  go_enter Tryd.func50, Tryd.ntmps50
  go_upto_region 1 with fail
  obtain ⟨w1, hw1⟩ : ∃ W, W = w.alloc (.cells #[.int .u8 op, .int .i64 dst, .int .i64 xn, .int .i64 y, .int .i64 imm, .string sym] 59) := ⟨_, rfl⟩
  rw [← hw1] at h1 ⊢
  clear hw1
  have r1 := h1.at (b := w.heap.size) (cs := [.int .u8 op, .int .i64 dst, .int .i64 xn, .int .i64 y, .int .i64 imm, .string sym]) List.mem_cons_self
  have l1 := r1.lt
  have a0 := r1.at 0 rfl
  have a1 := r1.at 1 rfl
  have a2 := r1.at 2 rfl
  have a3 := r1.at 3 rfl
  have a5 := r1.at 5 rfl
  obtain ⟨col, ov, h1⟩ := h1
  obtain ⟨hl, ⟨c0, _⟩, ⟨c5, _, _⟩, _⟩ := h1.cells
  obtain ⟨g, cap, hrv, hg, hcx, hfx, hput⟩ := h1.reg hxn
  obtain ⟨p, cp, hV⟩ := h1.arrShape hF.2
  have hlk : ∀ n, (Instr.lookup 70 (.map (some q.mb)) (.string sym) false).run Tryd.prog (w1.drewN n) = .ok (.slice p (s.mem (q.idx sym)).length cp) (w1.drewN n) := fun n => by
    have h2 := (h1.x.mp.of_block (w' := w1.drewN n) rfl).look Tryd.underlying70 (zero32s _) sym hs
    rw [hF.1, hV] at h2
    exact h2
  rw [hrv] at c0
  obtain ⟨vx, hvx⟩ : ∃ v, v = s.regs.getD xn 0 := ⟨_, rfl⟩
  rw [← hvx] at hcx
  have HVX := Lib.hid (show s.get xn = vx from hvx.symm)
  clear hvx
  have H1 := Lib.hid h1
  have HV := Lib.hid hV
  have HRV := Lib.hid hrv
  have HD := Lib.hid hd
  have HY := Lib.hid hy
  have HOP := Lib.hid hop
  clear h1 r1 hput hV hrv hd hy hop
  go_quiet (fail)
  obtain ⟨n1, hn1⟩ : ∃ n, n = nq := ⟨_, rfl⟩
  rw [← hn1]
  clear hn1 hlk
  go_upto_region 2 with fail
  go_quiet (fail)
  obtain ⟨w3, hw3⟩ : ∃ W, W = (w1.drewN n1).drewN nq := ⟨_, rfl⟩
  have hb13 : Below w1.heap.size w1 w3 := by rw [hw3]; exact bDrewN (bDrewN (Below.refl _ _))
  rw [← hw3]
  clear hw3
  have H3 := Lib.hid (H1.out.keep hb13)
  have r3 := (RunRel.keep ⟨_, _, H1.out⟩ hb13).at (b := w.heap.size) (cs := [.int .u8 op, .int .i64 dst, .int .i64 xn, .int .i64 y, .int .i64 imm, .string sym]) List.mem_cons_self
  have b0 := r3.at 0 rfl
  have b1 := r3.at 1 rfl
  have b3 := r3.at 3 rfl
  have l3 := r3.lt
  clear H1 hb13 a0 a1 a2 a3 a5 c0 c5 hl hg hcx hfx l1 r3
  have HS : Hid (insR ap q.idx q.inp s ⟨op, dst, (xn : Int), y, imm, sym⟩ = if wrap64 vx < 0 ∨ ((s.mem (q.idx sym)).length : Int) ≤ wrap64 vx then .error 10 else if op = 4 ∨ op = 6 then .ok (s.set dst ((s.mem (q.idx sym)).getD (wrap64 vx).toNat 0)) else .ok { s with mem := upd s.mem (q.idx sym) ((s.mem (q.idx sym)).set (wrap64 vx).toNat (s.get y)) }) := (show _ = _ by
    have hvx := HVX.out
    rcases HOP.out with e | e | e | e <;> subst e <;> simp only [insR, hvx] <;> simp)
  by_cases h0 : wrap64 vx < 0
  · have h0' : decide (wrap64 vx < 0) = true := by simpa using h0
    go_wp2_with fail
    go_ret
    rw [HS.out, if_pos (.inl h0)]
    exact ⟨rfl, Lib.hid (RunRel.drop ⟨_, _, H3.out⟩)⟩
  obtain ⟨k, hk⟩ := Int.eq_ofNat_of_zero_le (show 0 ≤ wrap64 vx by omega)
  rw [hk] at HS ⊢
  clear h0 hk HVX
  by_cases h1 : k < (s.mem (q.idx sym)).length
  · have h1I : (k : Int) < (s.mem (q.idx sym)).length := by omega
    rw [if_neg (by omega)] at HS
    rw [Int.toNat_natCast] at HS
    obtain ⟨ga, ca, hVa, hga, hca, hfa, _⟩ := H3.out.arr hF.2 h1
    have e0 := HV.out.symm.trans hVa
    injection e0 with e1 _ e3
    subst e1 e3
    obtain ⟨hl, ⟨c0, _⟩, _⟩ := H3.out.cells
    rw [HRV.out] at c0
    clear hVa
    by_cases hld : op = 4 ∨ op = 6
    · obtain ⟨d0, d1⟩ := HD.out hld
      obtain ⟨dn, rfl⟩ := Int.eq_ofNat_of_zero_le d0
      have hdn : dn < q.R := by omega
      obtain ⟨g2, cap2, hrv2, hg2, hc2, hf2, _⟩ := H3.out.reg hdn
      have e4 := HRV.out.symm.trans hrv2
      injection e4 with e5 _ e6
      injection e5 with e5
      injection e5 with e5 _
      subst e5 e6
      clear hrv2
      obtain ⟨vm, hvm⟩ : ∃ v, v = (s.mem (q.idx sym)).getD k 0 := ⟨_, rfl⟩
      rw [← hvm] at hca HS
      clear hvm
      rw [if_pos hld] at HS
      have HP : Hid (∀ W, Below w3.heap.size w3 W → RunRel q L (s.set dn vm) (W.setCell ⟨g, dn, none⟩ (.int .i32 vm))) := (show ∀ W, _ from fun W hb => by
        obtain ⟨g', c', e, _, _, _, hp⟩ := (H3.out.keep hb).reg hdn
        have e2 := HRV.out.symm.trans e
        injection e2 with e3 _ _
        injection e3 with e3
        injection e3 with e3 _
        subst e3
        exact RunRel.drop ⟨_, _, hp vm⟩)
      rcases hld with rfl | rfl
      all_goals (
        go_upto_region 6 with fail
        go_region
        all_goals (
          go_wp2_with fail
          go_ret
          rw [HS.out]
          exact ⟨rfl, Lib.hid ((HP.out w3 (Below.refl _ _)).keep (by first | exact Below.refl _ _ | exact Below.drew (Below.refl _ _) | exact bDrewN (Below.refl _ _)))⟩))
    · have hop : op = 5 ∨ op = 7 := by have := HOP.out; omega
      obtain ⟨d0, d1⟩ := HY.out hop
      obtain ⟨yn, rfl⟩ := Int.eq_ofNat_of_zero_le d0
      have hyn : yn < q.R := by omega
      obtain ⟨g2, cap2, hrv2, hg2, hc2, hf2, _⟩ := H3.out.reg hyn
      have e4 := HRV.out.symm.trans hrv2
      injection e4 with e5 _ e6
      injection e5 with e5
      injection e5 with e5 _
      subst e5 e6
      clear hrv2
      obtain ⟨vy, hvy⟩ : ∃ v, v = s.regs.getD yn 0 := ⟨_, rfl⟩
      rw [← hvy] at hc2
      rw [if_neg hld, show s.get (yn : Int) = vy from hvy.symm] at HS
      clear hvy
      have HP : Hid (∀ W, Below w3.heap.size w3 W → RunRel q L { s with mem := upd s.mem (q.idx sym) ((s.mem (q.idx sym)).set k vy) } (W.setCell ⟨ga, k, none⟩ (.int .i32 vy))) := (show ∀ W, _ from fun W hb => by
        obtain ⟨g', c', e, _, _, _, hp⟩ := (H3.out.keep hb).arr hF.2 h1
        have e2 := HV.out.symm.trans e
        injection e2 with e3 _ _
        injection e3 with e3
        injection e3 with e3 _
        subst e3
        exact RunRel.drop ⟨_, _, hp vy⟩)
      rcases hop with rfl | rfl
      all_goals (
        go_upto_region 7 with fail
        go_region
        all_goals (
          go_wp2_with fail
          go_ret
          rw [HS.out]
          exact ⟨rfl, Lib.hid ((HP.out w3 (Below.refl _ _)).keep (by first | exact Below.refl _ _ | exact Below.drew (Below.refl _ _) | exact bDrewN (Below.refl _ _)))⟩))
  · have h1I : ¬ (k : Int) < (s.mem (q.idx sym)).length := by omega
    have h1g : (k : Int) ≥ (s.mem (q.idx sym)).length := by omega
    rw [if_pos (.inr (by omega))] at HS
    go_wp2_with fail
    go_ret
    rw [HS.out]
    exact ⟨rfl, Lib.hid (RunRel.drop ⟨_, _, H3.out⟩)⟩
end Go.Proofs.YtifjcknklecdbaaDoor
