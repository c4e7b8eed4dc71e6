import Derived.Test.YtkcfbonchhidlaaGreatDoorGenW
import Derived.Test.YtkcfbonchhidlaaGreatDoorGenY
import Derived.Deep.RegionLaw
set_option linter.unusedVariables false
set_option linter.unusedSimpArgs false
namespace Go.Proofs.YtkcfbonchhidlaaGreatDoor
open Go.RowKit Go.Maps

def Small (R : Int) (A : List Arr) (bs : List IBlk) : Prop := bs.length ≤ 20 ∧ R ≤ 60 ∧ A.length ≤ 8 ∧ ∀ k, k < bs.length → (bs.getD k default).code.length ≤ 30 ∧ sumC bs (k + 1) ≤ 300
end Go.Proofs.YtkcfbonchhidlaaGreatDoor

set_option linter.unusedVariables false
set_option linter.unusedSimpArgs false
namespace Go.Proofs.YtkcfbonchhidlaaGreatDoor
open Go.RowKit Go.Maps

theorem GsRd.of_own {w : World} {v : Value} {l : List GI} (h : w.ownsRow 0 36 5 v l.length (codeV l)) : GsRd w v l := by
  rcases h.2 with ⟨rfl, h0⟩ | ⟨g, cap, cur, rfl, _, hh, hnc, _⟩
  · exact ⟨none, 0, by rw [h0], .inl (List.length_eq_zero_iff.1 h0)⟩
  · refine ⟨_, _, rfl, .inr ⟨g, 0, rfl, ltB hh, fun j u hj => ?_⟩⟩
    have := h.cells (g := g) rfl j u hj
    have e2 : (⟨g, 0, none⟩ : Addr).add j = ⟨g, 0 + j, none⟩ := by
      unfold Addr.add
      split
      · rename_i e; subst e; rfl
      · rfl
    rwa [e2] at this
theorem RfRd.of_own {w : World} {v : Value} {l : List GR} (h : w.ownsRow 0 104 3 v l.length (refV l)) : RfRd w v l := by
  rcases h.2 with ⟨rfl, h0⟩ | ⟨g, cap, cur, rfl, _, hh, hnc, _⟩
  · exact ⟨none, 0, by rw [h0], by omega, .inl (List.length_eq_zero_iff.1 h0)⟩
  · refine ⟨_, _, rfl, hnc, .inr ⟨g, 0, rfl, ltB hh, fun j u hj => ?_⟩⟩
    have := h.cells (g := g) rfl j u hj
    have e2 : (⟨g, 0, none⟩ : Addr).add j = ⟨g, 0 + j, none⟩ := by
      unfold Addr.add
      split
      · rename_i e; subst e; rfl
      · rfl
    rwa [e2] at this
def ObjPost (nm : ByteArray) (A : List Arr) (w : World) (e : Ending) (w' : World) : Prop :=
  ∃ (cv rv : Value) (data : Int) (code : List GI) (refs : List GR), e = .returned (.tuple #[.agg #[.string nm, cv, .int .i64 data, rv], .int .i64 0]) ∧ GsRd w' cv code ∧ RfRd w' rv refs ∧ valO code data (refs.map fun r => (r.at', r.lk)) = true ∧ addrG A A.length ≤ data ∧ Below w.heap.size w w'
theorem TkOk.obj {nm : ByteArray} {R : Nat} {av bv : Value} {A : List Arr} {bs : List IBlk} {w : World} (h : TkOk w av bv A bs) (hv : vFun R A (mentB bs bs.length) bs = true) (hR : R ≤ 60) :
    Calls Tryz.prog 10 #[.agg #[.string nm, .int .i64 R, av, bv]] w (ObjPost nm A w) := by
  refine (task_yes nm R av bv A bs w h hv hR).mono ?_
  rintro e w' ⟨c, n, cv, rv, rfl, ⟨hp, hn⟩, hc, hr, hb⟩
  have ha := arr_small hv
  have h1 := addrG_small (fun k hk => (ha.2 k hk).2) A.length (Nat.le_refl _)
  obtain ⟨hvo, -⟩ := all_ok hn hp hv h.lb h.lt (data := addrG A A.length + n) (by omega)
  exact ⟨cv, rv, _, _, _, rfl, GsRd.of_own hc, RfRd.of_own hr, hvo, by omega, hb⟩

def exI : IIns := ⟨10, 0, 0, 0, 2, ⟨#[]⟩⟩
def exB : List IBlk := [⟨[exI], 3, 0, 0, 0⟩]
theorem exV : vFun (1 : Nat) [] (mentB exB exB.length) exB = true := by kernel_rfl
theorem exTk {w : World} {b0 b1 : Nat} (hT : TabZ w) (h0 : b0 < w.heap.size) (h1 : b1 < w.heap.size)
    (i0 : w.cell? ⟨b0, 0, none⟩ = some (.int .u8 10)) (i1 : w.cell? ⟨b0, 1, none⟩ = some (.int .i64 0)) (i2 : w.cell? ⟨b0, 2, none⟩ = some (.int .i64 0)) (i3 : w.cell? ⟨b0, 3, none⟩ = some (.int .i64 0)) (i4 : w.cell? ⟨b0, 4, none⟩ = some (.int .i64 2)) (i5 : w.cell? ⟨b0, 5, none⟩ = some (.string ⟨#[]⟩))
    (c0 : w.cell? ⟨b1, 0, none⟩ = some (.slice (some ⟨b0, 0, none⟩) 1 1)) (c1 : w.cell? ⟨b1, 1, none⟩ = some (.int .u8 3)) (c2 : w.cell? ⟨b1, 2, none⟩ = some (.int .i64 0)) (c3 : w.cell? ⟨b1, 3, none⟩ = some (.int .i64 0)) (c4 : w.cell? ⟨b1, 4, none⟩ = some (.int .i64 0)) :
    TkOk w (.slice none 0 0) (.slice (some ⟨b1, 0, none⟩) 1 1) [] exB := by
  refine ⟨⟨none, 0, rfl, fun k hk => by simp at hk⟩, ⟨_, _, rfl, fun k hk => ?_⟩, fun k hk => by simp at hk, fun k hk j hj => ?_, fun k hk => ?_, by simp, by decide, by decide, hT⟩
  · have hk0 : k = 0 := by have : k < 1 := hk; omega
    subst hk0
    refine ⟨b1, 0, some ⟨b0, 0, none⟩, 1, rfl, h1, ⟨_, _, rfl, fun j hj => ?_⟩, c0, c1, c2, c3, c4⟩
    have hj0 : j = 0 := by have : j < 1 := hj; omega
    subst hj0
    exact ⟨b0, 0, rfl, h0, i0, i1, i2, i3, i4, i5⟩
  · have hk0 : k = 0 := by have : k < 1 := hk; omega
    subst hk0
    have hj0 : j = 0 := by have : j < 1 := hj; omega
    subst hj0
    exact ⟨by show (0 : Nat) ≤ maxLen; exact Nat.zero_le _, by decide⟩
  · have hk0 : k = 0 := by have : k < 1 := hk; omega
    subst hk0
    exact ⟨by decide, by decide⟩

set_option maxHeartbeats 3200000 in
set_option maxRecDepth 20000 in
theorem awake21 (w : World) (hT : Tab w) (hZ : TabZ w) :
    Calls Tryz.prog 4 #[] w fun e w' => e = .returned (.bool true) ∧ Below w.heap.size w w' := by
  have HT := Lib.hid hT
  have HZ := Lib.hid hZ
  go_enter Tryz.func4, Tryz.ntmps4
  go_wp2_with fail
  refine (const_any 3 131072 w (by decide)).mono ?_
  rintro e w1 ⟨lv, rfl, hl, hb1⟩
  have hcg : constG 3 131072 = [⟨14, 3, 0, 0, 8⟩, ⟨16, 3, 3, 0, 14⟩, ⟨17, 3, 3, 0, 0⟩] := by kernel_rfl
  rw [hcg] at hl
  have HL := Lib.hid hl
  have HB1 := Lib.hid hb1
  have HZ1 := Lib.hid (HZ.out.of_below hb1)
  clear hl hb1 hT hZ hcg
  obtain ⟨lp, lc, rfl⟩ := HL.out.shape
  go_wp2_with fail
  have hb2 : Below w1.heap.size w1 ((w1.alloc (.cells #[.int .u8 10, .int .i64 0, .int .i64 0, .int .i64 0, .int .i64 2, .string ⟨#[]⟩] 54)).alloc (.cells #[.slice (some ⟨w1.heap.size, 0, none⟩) 1 1, .int .u8 3, .int .i64 0, .int .i64 0, .int .i64 0] 57)) := bAlloc (by simp) (bAlloc (Nat.le_refl _) (Below.refl _ _))
  refine ((exTk (b0 := w1.heap.size) (b1 := w1.heap.size + 1) (HZ1.out.of_below hb2) (by simp; omega) (by simp) (by simp [go_sem]) (by simp [go_sem]) (by simp [go_sem]) (by simp [go_sem]) (by simp [go_sem]) (by simp [go_sem]) (by simp [go_sem]) (by simp [go_sem]) (by simp [go_sem]) (by simp [go_sem]) (by simp [go_sem])).obj (nm := ⟨#[102]⟩) exV (by decide)).mono ?_
  rintro e w2 ⟨cv, rv, data, code, refs, rfl, hc, hr, hvo, -, hb3⟩
  have HB2 := Lib.hid (HB1.out.trans ((hb2.trans (hb3.mono hb2.size)).mono HB1.out.size))
  have hb12 := hb2.trans (hb3.mono hb2.size)
  have HL2 := Lib.hid (HL.out.below hb12 (Nat.le_refl _))
  have HC := Lib.hid hc
  have HR := Lib.hid hr
  have HVO := Lib.hid hvo
  have HT2 := Lib.hid (HT.out.of_below HB2.out)
  clear hb2 hb3 hb12 hc hr hvo HL HZ1 HB1
  obtain ⟨m, off, cap, e0, hm, x0, x1, x2, x3, x4⟩ := HL2.out.get (k := 0) (by decide)
  obtain ⟨m', off', cap', e1, -, y0, y1, y2, y3, y4⟩ := HL2.out.get (k := 2) (by decide)
  injection e0 with e0a _ e0c
  subst e0a e0c
  injection e1 with e1a _ _
  injection e1a with e1b
  injection e1b with e1c e1d
  subst e1c e1d
  have x0 : w2.cell? ⟨m, off, none⟩ = some (.int .u8 14) := x0
  have x1 : w2.cell? ⟨m, off + 1, none⟩ = some (.int .i64 3) := x1
  have x2 : w2.cell? ⟨m, off + 2, none⟩ = some (.int .i64 0) := x2
  have x3 : w2.cell? ⟨m, off + 3, none⟩ = some (.int .i64 0) := x3
  have x4 : w2.cell? ⟨m, off + 4, none⟩ = some (.int .i64 8) := x4
  have y0 : w2.cell? ⟨m, off + 10, none⟩ = some (.int .u8 17) := y0
  have y1 : w2.cell? ⟨m, off + 11, none⟩ = some (.int .i64 3) := y1
  have y2 : w2.cell? ⟨m, off + 12, none⟩ = some (.int .i64 3) := y2
  have y3 : w2.cell? ⟨m, off + 13, none⟩ = some (.int .i64 0) := y3
  have y4 : w2.cell? ⟨m, off + 14, none⟩ = some (.int .i64 0) := y4
  clear HL2
  obtain ⟨cvp, cvc, rfl⟩ := HC.out.shape
  obtain ⟨rvp, rvc, rfl, -, -⟩ := id HR.out
  have hbx : ∀ o : Obj, Below w2.heap.size w2 (w2.alloc o) := fun o => bAlloc (Nat.le_refl _) (Below.refl _ _)
  have HBX := Lib.hid hbx
  clear hbx
  go_wp2_with fail
  refine (objValid_any _ _ _ _ _ _ _ (HT2.out.of_below (HBX.out _)) (HC.out.below (HBX.out _) (Nat.le_refl _)) (HR.out.below (HBX.out _) (Nat.le_refl _))).mono ?_
  rintro e w3 ⟨rfl, hb3⟩
  rw [HVO.out]
  have HBE := Lib.hid (HB2.out.trans (((HBX.out _).trans (hb3.mono (by simp))).mono HB2.out.size))
  clear hb3 x0 x1 x2 x3 x4 y0 y1 y2 y3 y4 hm
  go_wp2_with fail
  go_ret
  exact ⟨rfl, HBE.out⟩
end Go.Proofs.YtkcfbonchhidlaaGreatDoor

