/- The generator's resolve, by its contract. -/
import Derived.Test.YtlajdcikhbocdaaDoorGenE
import Derived.BigRegion
import Derived.IntWalk
set_option linter.unusedVariables false
set_option linter.unusedSimpArgs false
namespace Go.Proofs.YtlajdcikhbocdaaDoor
open Go.RowKit Go.Maps

theorem own_setN {w : World} {T : TypeId} {n base size : Nat} {g cap : Nat} {vals : List Value} (h : w.ownsRow base T size (.slice (some ⟨g, 0, Option.none⟩) n cap) n vals) (a : Nat) (u : Value) : (w.setCell ⟨g, a, Option.none⟩ u).ownsRow base T size (.slice (some ⟨g, 0, Option.none⟩) n cap) n (vals.set a u) := by
  obtain ⟨h1, h2⟩ := h
  refine ⟨by simpa using h1, ?_⟩
  rcases h2 with ⟨e, _⟩ | ⟨g', cap', cur, e, hb, hh, hnc, hcm, hcs, htk⟩
  · cases e
  · injection e with e1 e2 e3
    injection e1 with e1
    injection e1 with e1
    subst e1 e3
    refine .inr ⟨g, cap, cur.setIfInBounds a u, rfl, hb, ?_, hnc, hcm, by simpa using hcs, ?_⟩
    · simp [World.setCell, Array.getElem?_modify, hh]
    · rw [← htk, Array.toList_setIfInBounds, List.take_set]
theorem codeV_set (m : Int) : ∀ (l : List GI) (a : Nat), (codeV l).set (a * 5 + 4) (.int .i64 m) = codeV (l.set a { l.getD a default with imm := m })
  | [], a => rfl
  | x :: l, 0 => rfl
  | x :: l, a + 1 => by
    have h := codeV_set m l a
    rw [List.set_cons_succ, List.getD_cons_succ]
    show (giV x ++ codeV l).set ((a + 1) * 5 + 4) _ = giV x ++ codeV _
    rw [← h, show (a + 1) * 5 + 4 = a * 5 + 4 + 5 by omega]
    rfl
theorem codeV_imm : ∀ (l : List GI) (a : Nat), a < l.length → (codeV l)[a * 5 + 4]? = some (.int .i64 (l.getD a default).imm)
  | [], a, h => by simp at h
  | x :: l, 0, _ => rfl
  | x :: l, a + 1, h => by
    have h2 := codeV_imm l a (by simpa using h)
    show (giV x ++ codeV l)[(a + 1) * 5 + 4]? = _
    rw [List.getD_cons_succ, ← h2, show (a + 1) * 5 + 4 = a * 5 + 4 + 5 by omega]
    rfl
theorem brV_at : ∀ (l : List (Int × Int)) (a : Nat), a < l.length → (brV l)[a * 2]? = some (.int .i64 (l.getD a (0, 0)).1) ∧ (brV l)[a * 2 + 1]? = some (.int .i64 (l.getD a (0, 0)).2)
  | [], a, h => by simp at h
  | x :: l, 0, _ => ⟨rfl, rfl⟩
  | x :: l, a + 1, h => by
    have h2 := brV_at l a (by simpa using h)
    rw [List.getD_cons_succ]
    refine ⟨?_, ?_⟩
    · rw [← h2.1]
      show ([Value.int .i64 x.1, .int .i64 x.2] ++ brV l)[(a + 1) * 2]? = _
      rw [show (a + 1) * 2 = a * 2 + 2 by omega]; rfl
    · rw [← h2.2]
      show ([Value.int .i64 x.1, .int .i64 x.2] ++ brV l)[(a + 1) * 2 + 1]? = _
      rw [show (a + 1) * 2 + 1 = a * 2 + 1 + 2 by omega]; rfl
section
variable {q : GK} {R : List (Nat × List Value)} {g : Gen} {col : Nat → Nat} {w w' : World} {rv sv bv : Value} {cb cc : Nat}
/-- An operand is stored. -/
theorem GenAt.setImm (h : GenAt q R g col w (.slice (some ⟨cb, 0, none⟩) g.code.length cc) rv sv bv) {a : Nat} (ha : a < g.code.length) (m : Int) :
    GenAt q R { g with code := g.code.set a { g.code.getD a default with imm := m } } (paint col w.heap.size 3) (w.setCell ⟨cb, a * 5 + 4, none⟩ (.int .i64 m)) (.slice (some ⟨cb, 0, none⟩) g.code.length cc) rv sv bv := by
  have hcb : col cb = 3 := h.code.2 cb rfl
  have ht : Touch col 3 w (w.setCell ⟨cb, a * 5 + 4, none⟩ (.int .i64 m)) := Touch.setCell (a := ⟨cb, a * 5 + 4, none⟩) hcb _
  have hlt := own0_lt h.code.1 rfl
  refine ⟨h.x.touch ht (by decide) (by decide), ⟨?_, fun k hk => ?_⟩, h.refs.other ht (by decide), h.sts.other ht (by decide), h.brs.other ht (by decide), h.box.other ht (by decide)⟩
  · have := own_setN h.code.1 (a * 5 + 4) (.int .i64 m)
    rw [codeV_set] at this
    rw [show (g.code.set a { g.code.getD a default with imm := m }).length = g.code.length from List.length_set ..]
    exact this
  · cases hk
    rw [paint_lt hlt]; exact hcb
theorem GenAt.immAt (h : GenAt q R g col w (.slice (some ⟨cb, 0, none⟩) g.code.length cc) rv sv bv) {a : Nat} (ha : a < g.code.length) : cb < w.heap.size ∧ w.cell? ⟨cb, a * 5 + 4, none⟩ = some (.int .i64 (g.code.getD a default).imm) ∧ w.frozen? ⟨cb, a * 5 + 4, none⟩ = false := by
  obtain ⟨g', c', e, h1, _, h2, h3⟩ := h.code.cell (j := a * 5 + 4) (by omega)
  injection e with e
  injection e with e
  injection e with e
  subst e
  rw [codeV_imm _ _ ha] at h2
  exact ⟨h1, h2, h3⟩
end
/-- What resolve holds: the slices of the generator stay where they are. -/
def ResRel (q : GK) (R : List (Nat × List Value)) (g : Gen) (cv rv sv bv : Value) (w : World) : Prop := ∃ col, GenAt q R g col w cv rv sv bv
theorem ResRel.keep {q : GK} {R : List (Nat × List Value)} {g : Gen} {cv rv sv bv : Value} {w w' : World} (h : ResRel q R g cv rv sv bv w) (hb : Below w.heap.size w w') : ResRel q R g cv rv sv bv w' := by
  obtain ⟨col, h⟩ := h
  exact ⟨_, h.keep hb⟩

def ResI (q : GK) (R : List (Nat × List Value)) (g : Gen) (cv rv sv bv : Value) (k : Nat) (w : World) : Prop := ∃ C : List GI, C = (g.brs.take k).foldl (fixG g.starts) g.code ∧ C.length = g.code.length ∧ ResRel q R { g with code := C } cv rv sv bv w

set_option maxHeartbeats 3200000 in
set_option maxRecDepth 20000 in
theorem resolve_any {q : GK} {R : List (Nat × List Value)} {g : Gen} {w : World} (h : GenRel q R g w) (hb : ∀ j, j < g.brs.length → ∃ a k : Nat, g.brs.getD j (0, 0) = ((a : Int), (k : Int)) ∧ a < g.code.length ∧ k < g.starts.length) (hst : ∀ k, 0 ≤ g.starts.getD k 0 ∧ g.starts.getD k 0 ≤ 1000000) (hl : g.code.length ≤ 1000000) (hbrl : g.brs.length ≤ 1000000) :
    Calls Tryd.prog 27 #[.pointer (some ⟨q.gb, 0, none⟩)] w fun e w' => e = .returned (.tuple #[]) ∧ Hid (GenRel q R { g with code := resG g } w') := by
  obtain ⟨col, cv, rv, sv, bv, hA⟩ := h
  obtain ⟨bp, bc, rfl⟩ := hA.brs.shape
  have HR := Lib.hid (show ResRel q R g cv rv sv (.slice bp g.brs.length bc) w from ⟨col, hA⟩)
  have HB := Lib.hid hb
  have HST := Lib.hid hst
  obtain ⟨hlt, -, c3, c4, c5, c6⟩ := hA.cells
  clear hA hb hst c3 c4 c5
  go_enter Tryd.func27, Tryd.ntmps27
  go_wp2_with fail
  clear c6 hlt
  go_loopw [9] (fun s9 wx => ∃ k : Nat, s9 = .int .i64 k ∧ k ≤ g.brs.length ∧ Hid (ResI q R g cv rv sv (.slice bp g.brs.length bc) k wx)) (fun s9 _ => g.brs.length - (intOf s9).toNat)
  case atStart => exact ⟨0, rfl, Nat.zero_le _, g.code, rfl, rfl, HR.out⟩
  case round =>
    clear HR
    obtain ⟨k, rfl, hk, HV⟩ := hrel
    obtain ⟨w1, rfl⟩ : ∃ W : World, W = wr := ⟨_, rfl⟩
    obtain ⟨C, hC, hCl, hV⟩ := HV.out
    have HC := Lib.hid hC
    clear HV hC
    by_cases hlt : k < g.brs.length
    · have hltI : (k : Int) < g.brs.length := by omega
      obtain ⟨a, j, hbr, ha, hj⟩ := HB.out k hlt
      have hs := HST.out j
      obtain ⟨col, hA⟩ := hV
      obtain ⟨bb, bcap, e1, hbl, -, x0, -⟩ := hA.brs.cell (j := k * 2) (by show _ < g.brs.length * 2; omega)
      obtain ⟨bb', bcap', e2, -, -, x1, -⟩ := hA.brs.cell (j := k * 2 + 1) (by show _ < g.brs.length * 2; omega)
      injection e1 with e1 _ e3
      subst e1 e3
      injection e2 with e2 _ e2c
      subst e2c
      injection e2 with e2
      injection e2 with e2
      subst e2
      have hba := brV_at g.brs k hlt
      rw [hbr] at hba
      rw [show brV ({ g with code := C } : Gen).brs = brV g.brs from rfl, hba.1] at x0
      rw [show brV ({ g with code := C } : Gen).brs = brV g.brs from rfl, hba.2] at x1
      obtain ⟨sb, sc, e4, hsl, -, y0, -⟩ := hA.sts.cell (j := j) (by show _ < g.starts.length * 1; omega)
      have e4 : sv = .slice (some ⟨sb, 0, none⟩) g.starts.length sc := e4
      subst e4
      have y1 : w1.cell? ⟨sb, j, none⟩ = some (.int .i64 (g.starts.getD j 0)) := by
        rw [y0]
        show (g.starts.map (Value.int .i64))[j]? = _
        rw [List.getElem?_map, List.getElem?_eq_getElem hj, List.getD_eq_getElem?_getD, List.getElem?_eq_getElem hj]; rfl
      clear y0
      obtain ⟨cb, cc, e5, hcl, -, -, -⟩ := hA.code.cell (j := a * 5 + 4) (by show _ < C.length * 5; omega)
      have e5 : cv = .slice (some ⟨cb, 0, none⟩) C.length cc := e5
      subst e5
      have HW := Lib.hid (show ∃ col', GenAt q R { g with code := C.set a { C.getD a default with imm := g.starts.getD j 0 - a - 1 } } col' ((w1.setCell ⟨cb, a * 5 + 4, none⟩ (.int .i64 (g.starts.getD j 0 - a - 1))).alloc (.cells #[.int .i64 a, .int .i64 j] 102)).drew (.slice (some ⟨cb, 0, none⟩) C.length cc) rv (.slice (some ⟨sb, 0, none⟩) g.starts.length sc) (.slice (some ⟨bb, 0, none⟩) g.brs.length bc) from ⟨_, (hA.setImm (a := a) (by show a < C.length; omega) (g.starts.getD j 0 - a - 1)).keep (Below.drew (bAlloc (Nat.le_refl _) (Below.refl _ _)))⟩)
      have HNX : Hid (fixG g.starts C ((a : Int), (j : Int)) = (g.brs.take (k + 1)).foldl (fixG g.starts) g.code) := (show _ = _ by
        have e : g.brs[k] = ((a : Int), (j : Int)) := by
          rw [← hbr, List.getD_eq_getElem?_getD, List.getElem?_eq_getElem hlt]; rfl
        rw [List.take_succ_eq_append_getElem hlt, List.foldl_append, ← HC.out, e]; rfl)
      obtain ⟨hgl, -, c3, -, c5, -⟩ := hA.cells
      obtain ⟨-, m0, m1⟩ := hA.immAt (a := a) (by show a < C.length; omega)
      have hwr1 : IntKind.i64.wrap (g.starts.getD j 0 - (a : Int)) = g.starts.getD j 0 - a := IntWalk.i64_in _ (by omega)
      have hwr2 : IntKind.i64.wrap (g.starts.getD j 0 - (a : Int) - 1) = g.starts.getD j 0 - a - 1 := IntWalk.i64_in _ (by omega)
      have haI : (a : Int) < C.length := by omega
      have haC : a < C.length := by omega
      have hjI : (j : Int) < g.starts.length := by omega
      have HCL := Lib.hid hCl
      have HA2 := Lib.hid ha
      have HFX : Hid (C.set a { C.getD a default with imm := g.starts.getD j 0 - a - 1 } = (g.brs.take (k + 1)).foldl (fixG g.starts) g.code) := (show _ = _ from HNX.out)
      clear hA hba hbr hs hCl ha hl HNX
      generalize g.starts.getD j 0 = st at y1 hwr1 hwr2 HFX HW
      go_wp2_with fail
      clear x0 x1 hltI
      go_region
      all_goals (
        go_wp2_with fail
        go_roundw
        case rel => exact ⟨k + 1, by go_num, by omega, _, HFX.out, by rw [List.length_set]; exact HCL.out, HW.out⟩
        case measure => simp [intOf]; omega)
    · have hkn : k = g.brs.length := by omega
      subst hkn
      have HE : Hid (C = resG g) := (show _ = _ by rw [HC.out, List.take_length]; rfl)
      have HV := Lib.hid hV
      clear hV hCl
      go_wp2_with fail
      go_end0
      obtain ⟨col, hA⟩ := HV.out
      exact ⟨rfl, by rw [← HE.out]; exact ⟨col, _, _, _, _, hA⟩⟩
end Go.Proofs.YtlajdcikhbocdaaDoor
