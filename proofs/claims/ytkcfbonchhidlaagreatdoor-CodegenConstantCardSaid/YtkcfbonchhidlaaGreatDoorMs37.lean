import Derived.Test.YtkcfbonchhidlaaGreatDoorMs36
import Derived.Test.YtkcfbonchhidlaaGreatDoorMs30
import Derived.BigRegion
import Derived.IntWalk
import Derived.Deep.RegionLaw
set_option linter.unusedVariables false
set_option linter.unusedSimpArgs false
namespace Go.Proofs.YtkcfbonchhidlaaGreatDoor
open Go.RowKit Go.Maps

def refC (r : GR) : List Value := [.int .i64 r.at', .string r.nm, .bool r.lk]
def refV (l : List GR) : List Value := l.flatMap refC
def brV (l : List (Int × Int)) : List Value := l.flatMap fun b => [Value.int .i64 b.1, .int .i64 b.2]
theorem refV_push (l : List GR) (r : GR) : refV (l ++ [r]) = refV l ++ [.int .i64 r.at', .string r.nm, .bool r.lk] := by simp [refV, refC]
theorem brV_push (l : List (Int × Int)) (b : Int × Int) : brV (l ++ [b]) = brV l ++ [.int .i64 b.1, .int .i64 b.2] := by simp [brV]

structure GK where
  B : Nat
  W0 : World
  gb : Nat
  mb : Nat
  n : Nat
  pg : Nat
  c : Cfg
  F : ByteArray → Option Value
structure BoxG (col : Nat → Nat) (w : World) (b : Nat) (l : List Value) : Prop where
  row : RowC2 w b l
  fz : ∀ k, w.frozen? ⟨b, k, none⟩ = false
  cb : col b = 1
theorem BoxG.lt {col : Nat → Nat} {w : World} {b : Nat} {l : List Value} (h : BoxG col w b l) : b < w.heap.size := h.row.1
theorem BoxG.other {col : Nat → Nat} {c : Nat} {w w' : World} {b : Nat} {l : List Value} (h : BoxG col w b l) (ht : Touch col c w w') (hne : 1 ≠ c) : BoxG (paint col w.heap.size c) w' b l := by
  have hb := ht.block b h.lt (by rw [h.cb]; exact hne)
  refine ⟨⟨Nat.lt_of_lt_of_le h.lt ht.size, fun k v hv => (World.cell?_of_block (a := ⟨b, k, none⟩) hb).trans (h.row.2 k v hv)⟩, fun k => ?_, by rw [paint_lt h.lt]; exact h.cb⟩
  exact (World.frozen?_of_block (a := ⟨b, k, none⟩) hb).trans (h.fz k)
theorem BoxG.set {col : Nat → Nat} {w : World} {b : Nat} {l : List Value} (h : BoxG col w b l) (k : Nat) (v : Value) : BoxG col (w.setCell ⟨b, k, none⟩ v) b (l.set k v) := by
  refine ⟨⟨by simpa [World.setCell] using h.lt, fun j u hu => ?_⟩, fun j => by rw [World.frozen?_setCell]; exact h.fz j, h.cb⟩
  rw [List.getElem?_set] at hu
  by_cases e : k = j
  · subst e
    rw [if_pos rfl] at hu
    split at hu
    · rename_i hlt
      have h1 := h.row.2 k l[k] (List.getElem?_eq_getElem hlt)
      cases hu
      exact World.cell?_setCell_same _ _ _ h1
    · cases hu
  · rw [if_neg e] at hu
    exact (World.cell?_setCell_other _ _ _ _ (by intro e2; injection e2 with _ e2; exact e (by first | exact e2 | exact e2.symm))).trans (h.row.2 j u hu)
structure GenX (q : GK) (R : List (Nat × List Value)) (col : Nat → Nat) (w : World) : Prop where
  mp : MpAt w q.mb q.n q.F
  cm : col q.mb = 2
  pl : PlAt w q.pg q.c.P.length fun k => q.c.P.getD k (0, 0)
  cp : col q.pg = 0
  lp : q.pg < w.heap.size
  low : ∀ k, k < q.B → col k = 0
  bel : Below q.B q.W0 w
  big : q.B ≤ w.heap.size
  rows : ∀ p ∈ R, RowC2 w p.1 p.2 ∧ col p.1 = 0
theorem GenX.touch {q : GK} {R : List (Nat × List Value)} {col : Nat → Nat} {c : Nat} {w w' : World} (h : GenX q R col w) (ht : Touch col c w w') (h0 : c ≠ 0) (h2 : c ≠ 2) : GenX q R (paint col w.heap.size c) w' := by
  refine ⟨h.mp.of_block (ht.block _ h.mp.lt (by rw [h.cm]; exact fun e => h2 e.symm)), by rw [paint_lt h.mp.lt]; exact h.cm, World.rowIs.of_block h.pl (ht.block _ h.lp (by rw [h.cp]; exact fun e => h0 e.symm)), by rw [paint_lt h.lp]; exact h.cp, Nat.lt_of_lt_of_le h.lp ht.size, low_paint h.low h.big, h.bel.trans (ht.below h.big fun k hk e => by rw [h.low k hk] at e; exact h0 e.symm), Nat.le_trans h.big ht.size, fun p hp => ?_⟩
  obtain ⟨h1, hc⟩ := h.rows p hp
  have hb := ht.block p.1 h1.lt (by rw [hc]; exact fun e => h0 e.symm)
  exact ⟨⟨Nat.lt_of_lt_of_le h1.lt ht.size, fun k v hv => (World.cell?_of_block (a := ⟨p.1, k, none⟩) hb).trans (h1.2 k v hv)⟩, by rw [paint_lt h1.lt]; exact hc⟩
theorem GenX.keep {q : GK} {R : List (Nat × List Value)} {col : Nat → Nat} {w w' : World} (h : GenX q R col w) (hb : Below w.heap.size w w') : GenX q R (paint col w.heap.size 0) w' := by
  refine ⟨h.mp.of_block (hb.block _ h.mp.lt), by rw [paint_lt h.mp.lt]; exact h.cm, World.rowIs.of_block h.pl (hb.block _ h.lp), by rw [paint_lt h.lp]; exact h.cp, Nat.lt_of_lt_of_le h.lp hb.size, low_paint h.low h.big, h.bel.trans (hb.mono h.big), Nat.le_trans h.big hb.size, fun p hp => ?_⟩
  obtain ⟨h1, hc⟩ := h.rows p hp
  exact ⟨h1.below hb h1.lt, by rw [paint_lt h1.lt]; exact hc⟩
structure GenAt (q : GK) (R : List (Nat × List Value)) (g : Gen) (col : Nat → Nat) (w : World) (cv rv sv bv : Value) : Prop where
  x : GenX q R col w
  code : OwnC 36 5 col 3 w cv g.code.length (codeV g.code)
  refs : OwnC 104 3 col 4 w rv g.refs.length (refV g.refs)
  sts : OwnC 3 1 col 5 w sv g.starts.length (g.starts.map (Value.int .i64))
  brs : OwnC 131 2 col 6 w bv g.brs.length (brV g.brs)
  box : BoxG col w q.gb [.slice (some ⟨q.pg, 0, none⟩) q.c.P.length q.c.P.length, .int .i64 q.c.sp, .map (some q.mb), cv, rv, sv, bv]
def GenRel (q : GK) (R : List (Nat × List Value)) (g : Gen) (w : World) : Prop := ∃ col cv rv sv bv, GenAt q R g col w cv rv sv bv
section
variable {q : GK} {R : List (Nat × List Value)} {g : Gen} {col : Nat → Nat} {w w' w3 : World} {cv rv sv bv v' : Value}
theorem GenAt.keep (h : GenAt q R g col w cv rv sv bv) (hb : Below w.heap.size w w') : GenAt q R g (paint col w.heap.size 0) w' cv rv sv bv :=
  have ht : Touch col 0 w w' := Touch.of_below hb
  ⟨h.x.keep hb, h.code.other ht (by decide), h.refs.other ht (by decide), h.sts.other ht (by decide), h.brs.other ht (by decide), h.box.other ht (by decide)⟩
theorem GenRel.keep (h : GenRel q R g w) (hb : Below w.heap.size w w') : GenRel q R g w' := by
  obtain ⟨col, cv, rv, sv, bv, h⟩ := h
  exact ⟨_, _, _, _, _, h.keep hb⟩
theorem GenRel.bel (h : GenRel q R g w) : Below q.B q.W0 w := by
  obtain ⟨col, cv, rv, sv, bv, h⟩ := h
  exact h.x.bel
theorem GenRel.big (h : GenRel q R g w) : q.B ≤ w.heap.size := by
  obtain ⟨col, cv, rv, sv, bv, h⟩ := h
  exact h.x.big
theorem GenRel.at (h : GenRel q R g w) {b : Nat} {cs : List Value} (hp : (b, cs) ∈ R) : RowC2 w b cs := by
  obtain ⟨col, cv, rv, sv, bv, h⟩ := h
  exact (h.x.rows _ hp).1
theorem GenRel.sub {R' : List (Nat × List Value)} (h : GenRel q R g w) (hs : ∀ p ∈ R', p ∈ R) : GenRel q R' g w := by
  obtain ⟨col, cv, rv, sv, bv, h⟩ := h
  exact ⟨col, cv, rv, sv, bv, ⟨h.x.mp, h.x.cm, h.x.pl, h.x.cp, h.x.lp, h.x.low, h.x.bel, h.x.big, fun p hp => h.x.rows p (hs p hp)⟩, h.code, h.refs, h.sts, h.brs, h.box⟩
theorem GenRel.drop {p : Nat × List Value} (h : GenRel q (p :: R) g w) : GenRel q R g w := h.sub fun p hp => List.mem_cons_of_mem _ hp
theorem GenRel.row (h : GenRel q R g w) (hb : Below w.heap.size w w') {b : Nat} {cs : List Value} (hr : RowC2 w' b cs) (hB : w.heap.size ≤ b) : GenRel q ((b, cs) :: R) g w' := by
  obtain ⟨col, cv, rv, sv, bv, h⟩ := h
  have hk := h.keep hb
  refine ⟨_, _, _, _, _, ⟨hk.x.mp, hk.x.cm, hk.x.pl, hk.x.cp, hk.x.lp, hk.x.low, hk.x.bel, hk.x.big, fun p hp => ?_⟩, hk.code, hk.refs, hk.sts, hk.brs, hk.box⟩
  rcases List.mem_cons.1 hp with rfl | hp
  · exact ⟨hr, paint_ge hB⟩
  · exact hk.x.rows p hp
theorem GenRel.made (h : GenRel q R g w) (cs : List Value) (t : TypeId) : GenRel q ((w.heap.size, cs) :: R) g (w.alloc (.cells cs.toArray t)) :=
  h.row (bAlloc (Nat.le_refl _) (Below.refl _ _)) (RowC2.made w cs t) (Nat.le_refl _)
theorem GenAt.cells (h : GenAt q R g col w cv rv sv bv) : q.gb < w.heap.size ∧ (w.cell? ⟨q.gb, 0, none⟩ = some (.slice (some ⟨q.pg, 0, none⟩) q.c.P.length q.c.P.length) ∧ w.cell? ⟨q.gb, 1, none⟩ = some (.int .i64 q.c.sp) ∧ w.cell? ⟨q.gb, 2, none⟩ = some (.map (some q.mb))) ∧ (w.cell? ⟨q.gb, 3, none⟩ = some cv ∧ w.cell? ⟨q.gb, 4, none⟩ = some rv ∧ w.cell? ⟨q.gb, 5, none⟩ = some sv ∧ w.cell? ⟨q.gb, 6, none⟩ = some bv) :=
  ⟨h.box.lt, ⟨h.box.row.at 0 rfl, h.box.row.at 1 rfl, h.box.row.at 2 rfl⟩, h.box.row.at 3 rfl, h.box.row.at 4 rfl, h.box.row.at 5 rfl, h.box.row.at 6 rfl⟩
theorem GenAt.frozen (h : GenAt q R g col w cv rv sv bv) : (w.frozen? ⟨q.gb, 3, none⟩ = false ∧ w.frozen? ⟨q.gb, 4, none⟩ = false) ∧ w.frozen? ⟨q.gb, 5, none⟩ = false ∧ w.frozen? ⟨q.gb, 6, none⟩ = false :=
  ⟨⟨h.box.fz 3, h.box.fz 4⟩, h.box.fz 5, h.box.fz 6⟩
theorem GenRel.place (h : GenRel q R g w) {k : Nat} (hk : k < q.c.P.length) : w.cell? ⟨q.pg, k * 2, none⟩ = some (.int .i64 (q.c.P.getD k (0, 0)).1) ∧ w.cell? ⟨q.pg, k * 2 + 1, none⟩ = some (.int .i64 (q.c.P.getD k (0, 0)).2) ∧ q.pg < w.heap.size := by
  obtain ⟨col, cv, rv, sv, bv, h⟩ := h
  exact ⟨h.x.pl.fst hk, h.x.pl.snd hk, h.x.lp⟩
theorem GenAt.putCode (h : GenAt q R g col w cv rv sv bv) {l : List GI} {n : Nat} (hn : n = (g.code ++ l).length) (hg : w.grownBy w3 cv.ownBlock) (hv : w3.ownsRow 0 36 5 v' n (codeV g.code ++ codeV l)) (hk : v'.ownBlock = cv.ownBlock ∨ ∀ k, v'.ownBlock = some k → w.heap.size ≤ k) :
    (w3.cell? ⟨q.gb, 3, none⟩ = some cv ∧ w3.frozen? ⟨q.gb, 3, none⟩ = false ∧ q.gb < w3.heap.size) ∧ GenRel q R (emitG l g) (w3.setCell ⟨q.gb, 3, none⟩ v') := by
  subst hn
  obtain ⟨hc, ht⟩ := h.code.push (Below.refl _ _) hg hv hk
  have hx := h.x.touch ht (by decide) (by decide)
  have hb := h.box.other ht (by decide)
  have h2 : Touch (paint col w.heap.size 3) 1 w3 (w3.setCell ⟨q.gb, 3, none⟩ v') := Touch.setCell (a := ⟨q.gb, 3, none⟩) hb.cb v'
  refine ⟨⟨hb.row.at 3 rfl, hb.fz 3, hb.lt⟩, _, v', rv, sv, bv, hx.touch h2 (by decide) (by decide), ?_, (h.refs.other ht (by decide)).other h2 (by decide), (h.sts.other ht (by decide)).other h2 (by decide), (h.brs.other ht (by decide)).other h2 (by decide), ?_⟩
  · have := hc.other h2 (by decide)
    rw [← codeV_app] at this
    exact this
  · have := hb.set 3 v'
    exact ⟨this.row, this.fz, by rw [paint_lt hb.lt]; exact hb.cb⟩
theorem GenAt.putRefs (h : GenAt q R g col w cv rv sv bv) {r : GR} (hg : w.grownBy w3 rv.ownBlock) (hv : w3.ownsRow 0 104 3 v' (g.refs.length + 1) (refV g.refs ++ [.int .i64 r.at', .string r.nm, .bool r.lk])) (hk : v'.ownBlock = rv.ownBlock ∨ ∀ k, v'.ownBlock = some k → w.heap.size ≤ k) :
    (w3.cell? ⟨q.gb, 4, none⟩ = some rv ∧ w3.frozen? ⟨q.gb, 4, none⟩ = false ∧ q.gb < w3.heap.size) ∧ GenRel q R { g with refs := g.refs ++ [r] } (w3.setCell ⟨q.gb, 4, none⟩ v') := by
  obtain ⟨hc, ht⟩ := h.refs.push (Below.refl _ _) hg hv hk
  have hx := h.x.touch ht (by decide) (by decide)
  have hb := h.box.other ht (by decide)
  have h2 : Touch (paint col w.heap.size 4) 1 w3 (w3.setCell ⟨q.gb, 4, none⟩ v') := Touch.setCell (a := ⟨q.gb, 4, none⟩) hb.cb v'
  refine ⟨⟨hb.row.at 4 rfl, hb.fz 4, hb.lt⟩, _, cv, v', sv, bv, hx.touch h2 (by decide) (by decide), (h.code.other ht (by decide)).other h2 (by decide), ?_, (h.sts.other ht (by decide)).other h2 (by decide), (h.brs.other ht (by decide)).other h2 (by decide), ?_⟩
  · have := hc.other h2 (by decide)
    rw [← refV_push] at this
    simpa using this
  · have := hb.set 4 v'
    exact ⟨this.row, this.fz, by rw [paint_lt hb.lt]; exact hb.cb⟩
theorem GenAt.putSts (h : GenAt q R g col w cv rv sv bv) {r : Int} (hg : w.grownBy w3 sv.ownBlock) (hv : w3.ownsRow 0 3 1 v' (g.starts.length + 1) (g.starts.map (Value.int .i64) ++ [.int .i64 r])) (hk : v'.ownBlock = sv.ownBlock ∨ ∀ k, v'.ownBlock = some k → w.heap.size ≤ k) :
    (w3.cell? ⟨q.gb, 5, none⟩ = some sv ∧ w3.frozen? ⟨q.gb, 5, none⟩ = false ∧ q.gb < w3.heap.size) ∧ GenRel q R { g with starts := g.starts ++ [r] } (w3.setCell ⟨q.gb, 5, none⟩ v') := by
  obtain ⟨hc, ht⟩ := h.sts.push (Below.refl _ _) hg hv hk
  have hx := h.x.touch ht (by decide) (by decide)
  have hb := h.box.other ht (by decide)
  have h2 : Touch (paint col w.heap.size 5) 1 w3 (w3.setCell ⟨q.gb, 5, none⟩ v') := Touch.setCell (a := ⟨q.gb, 5, none⟩) hb.cb v'
  refine ⟨⟨hb.row.at 5 rfl, hb.fz 5, hb.lt⟩, _, cv, rv, v', bv, hx.touch h2 (by decide) (by decide), (h.code.other ht (by decide)).other h2 (by decide), (h.refs.other ht (by decide)).other h2 (by decide), ?_, (h.brs.other ht (by decide)).other h2 (by decide), ?_⟩
  · have := hc.other h2 (by decide)
    simpa using this
  · have := hb.set 5 v'
    exact ⟨this.row, this.fz, by rw [paint_lt hb.lt]; exact hb.cb⟩
theorem GenAt.putBrs (h : GenAt q R g col w cv rv sv bv) {r : Int × Int} (hg : w.grownBy w3 bv.ownBlock) (hv : w3.ownsRow 0 131 2 v' (g.brs.length + 1) (brV g.brs ++ [.int .i64 r.1, .int .i64 r.2])) (hk : v'.ownBlock = bv.ownBlock ∨ ∀ k, v'.ownBlock = some k → w.heap.size ≤ k) :
    (w3.cell? ⟨q.gb, 6, none⟩ = some bv ∧ w3.frozen? ⟨q.gb, 6, none⟩ = false ∧ q.gb < w3.heap.size) ∧ GenRel q R { g with brs := g.brs ++ [r] } (w3.setCell ⟨q.gb, 6, none⟩ v') := by
  obtain ⟨hc, ht⟩ := h.brs.push (Below.refl _ _) hg hv hk
  have hx := h.x.touch ht (by decide) (by decide)
  have hb := h.box.other ht (by decide)
  have h2 : Touch (paint col w.heap.size 6) 1 w3 (w3.setCell ⟨q.gb, 6, none⟩ v') := Touch.setCell (a := ⟨q.gb, 6, none⟩) hb.cb v'
  refine ⟨⟨hb.row.at 6 rfl, hb.fz 6, hb.lt⟩, _, cv, rv, sv, v', hx.touch h2 (by decide) (by decide), (h.code.other ht (by decide)).other h2 (by decide), (h.refs.other ht (by decide)).other h2 (by decide), (h.sts.other ht (by decide)).other h2 (by decide), ?_, ?_⟩
  · have := hc.other h2 (by decide)
    rw [← brV_push] at this
    simpa using this
  · have := hb.set 6 v'
    exact ⟨this.row, this.fz, by rw [paint_lt hb.lt]; exact hb.cb⟩
end
end Go.Proofs.YtkcfbonchhidlaaGreatDoor

set_option linter.unusedVariables false
set_option linter.unusedSimpArgs false
namespace Go.Proofs.YtkcfbonchhidlaaGreatDoor
open Go.RowKit Go.Maps

theorem own_setN {w : World} {T : TypeId} {n base size : Nat} {g cap : Nat} {vals : List Value} (h : w.ownsRow base T size (.slice (some ⟨g, 0, Option.none⟩) n cap) n vals) (a : Nat) (u : Value) : (w.setCell ⟨g, a, Option.none⟩ u).ownsRow base T size (.slice (some ⟨g, 0, Option.none⟩) n cap) n (vals.set a u) := by
  obtain ⟨h1, h2⟩ := h
  refine ⟨by simpa using h1, ?_⟩
  rcases h2 with ⟨e, _⟩ | ⟨g', cap', cur, e, hb, hh, hnc, hcm, hcs, htk⟩
  · cases e
  · injection e with e1 e2 e3
    injection e1 with e1
    injection e1 with e1
    subst e1 e3
    refine .inr ⟨g, cap, cur.setIfInBounds a u, rfl, hb, ?_, hnc, hcm, by simpa using hcs, ?_⟩
    · simp [World.setCell, Array.getElem?_modify, hh]
    · rw [← htk, Array.toList_setIfInBounds, List.take_set]
theorem codeV_set (m : Int) : ∀ (l : List GI) (a : Nat), (codeV l).set (a * 5 + 4) (.int .i64 m) = codeV (l.set a { l.getD a default with imm := m })
  | [], a => rfl
  | x :: l, 0 => rfl
  | x :: l, a + 1 => by
    have h := codeV_set m l a
    rw [List.set_cons_succ, List.getD_cons_succ]
    show (giV x ++ codeV l).set ((a + 1) * 5 + 4) _ = giV x ++ codeV _
    rw [← h, show (a + 1) * 5 + 4 = a * 5 + 4 + 5 by omega]
    rfl
theorem codeV_imm : ∀ (l : List GI) (a : Nat), a < l.length → (codeV l)[a * 5 + 4]? = some (.int .i64 (l.getD a default).imm)
  | [], a, h => by simp at h
  | x :: l, 0, _ => rfl
  | x :: l, a + 1, h => by
    have h2 := codeV_imm l a (by simpa using h)
    show (giV x ++ codeV l)[(a + 1) * 5 + 4]? = _
    rw [List.getD_cons_succ, ← h2, show (a + 1) * 5 + 4 = a * 5 + 4 + 5 by omega]
    rfl
theorem brV_at : ∀ (l : List (Int × Int)) (a : Nat), a < l.length → (brV l)[a * 2]? = some (.int .i64 (l.getD a (0, 0)).1) ∧ (brV l)[a * 2 + 1]? = some (.int .i64 (l.getD a (0, 0)).2)
  | [], a, h => by simp at h
  | x :: l, 0, _ => ⟨rfl, rfl⟩
  | x :: l, a + 1, h => by
    have h2 := brV_at l a (by simpa using h)
    rw [List.getD_cons_succ]
    refine ⟨?_, ?_⟩
    · rw [← h2.1]
      show ([Value.int .i64 x.1, .int .i64 x.2] ++ brV l)[(a + 1) * 2]? = _
      rw [show (a + 1) * 2 = a * 2 + 2 by omega]; rfl
    · rw [← h2.2]
      show ([Value.int .i64 x.1, .int .i64 x.2] ++ brV l)[(a + 1) * 2 + 1]? = _
      rw [show (a + 1) * 2 + 1 = a * 2 + 1 + 2 by omega]; rfl
section
variable {q : GK} {R : List (Nat × List Value)} {g : Gen} {col : Nat → Nat} {w w' : World} {rv sv bv : Value} {cb cc : Nat}
theorem GenAt.setImm (h : GenAt q R g col w (.slice (some ⟨cb, 0, none⟩) g.code.length cc) rv sv bv) {a : Nat} (ha : a < g.code.length) (m : Int) :
    GenAt q R { g with code := g.code.set a { g.code.getD a default with imm := m } } (paint col w.heap.size 3) (w.setCell ⟨cb, a * 5 + 4, none⟩ (.int .i64 m)) (.slice (some ⟨cb, 0, none⟩) g.code.length cc) rv sv bv := by
  have hcb : col cb = 3 := h.code.2 cb rfl
  have ht : Touch col 3 w (w.setCell ⟨cb, a * 5 + 4, none⟩ (.int .i64 m)) := Touch.setCell (a := ⟨cb, a * 5 + 4, none⟩) hcb _
  have hlt := own0_lt h.code.1 rfl
  refine ⟨h.x.touch ht (by decide) (by decide), ⟨?_, fun k hk => ?_⟩, h.refs.other ht (by decide), h.sts.other ht (by decide), h.brs.other ht (by decide), h.box.other ht (by decide)⟩
  · have := own_setN h.code.1 (a * 5 + 4) (.int .i64 m)
    rw [codeV_set] at this
    rw [show (g.code.set a { g.code.getD a default with imm := m }).length = g.code.length from List.length_set ..]
    exact this
  · cases hk
    rw [paint_lt hlt]; exact hcb
theorem GenAt.immAt (h : GenAt q R g col w (.slice (some ⟨cb, 0, none⟩) g.code.length cc) rv sv bv) {a : Nat} (ha : a < g.code.length) : cb < w.heap.size ∧ w.cell? ⟨cb, a * 5 + 4, none⟩ = some (.int .i64 (g.code.getD a default).imm) ∧ w.frozen? ⟨cb, a * 5 + 4, none⟩ = false := by
  obtain ⟨g', c', e, h1, _, h2, h3⟩ := h.code.cell (j := a * 5 + 4) (by omega)
  injection e with e
  injection e with e
  injection e with e
  subst e
  rw [codeV_imm _ _ ha] at h2
  exact ⟨h1, h2, h3⟩
end
def ResRel (q : GK) (R : List (Nat × List Value)) (g : Gen) (cv rv sv bv : Value) (w : World) : Prop := ∃ col, GenAt q R g col w cv rv sv bv
theorem ResRel.keep {q : GK} {R : List (Nat × List Value)} {g : Gen} {cv rv sv bv : Value} {w w' : World} (h : ResRel q R g cv rv sv bv w) (hb : Below w.heap.size w w') : ResRel q R g cv rv sv bv w' := by
  obtain ⟨col, h⟩ := h
  exact ⟨_, h.keep hb⟩

def ResI (q : GK) (R : List (Nat × List Value)) (g : Gen) (cv rv sv bv : Value) (k : Nat) (w : World) : Prop := ∃ C : List GI, C = (g.brs.take k).foldl (fixG g.starts) g.code ∧ C.length = g.code.length ∧ ResRel q R { g with code := C } cv rv sv bv w

set_option maxHeartbeats 3200000 in
set_option maxRecDepth 20000 in
theorem resolve_any {q : GK} {R : List (Nat × List Value)} {g : Gen} {w : World} (h : GenRel q R g w) (hb : ∀ j, j < g.brs.length → ∃ a k : Nat, g.brs.getD j (0, 0) = ((a : Int), (k : Int)) ∧ a < g.code.length ∧ k < g.starts.length) (hst : ∀ k, 0 ≤ g.starts.getD k 0 ∧ g.starts.getD k 0 ≤ 1000000) (hl : g.code.length ≤ 1000000) (hbrl : g.brs.length ≤ 1000000) :
    Calls Tryz.prog 24 #[.pointer (some ⟨q.gb, 0, none⟩)] w fun e w' => e = .returned (.tuple #[]) ∧ Hid (GenRel q R { g with code := resG g } w') := by
  obtain ⟨col, cv, rv, sv, bv, hA⟩ := h
  obtain ⟨bp, bc, rfl⟩ := hA.brs.shape
  have HR := Lib.hid (show ResRel q R g cv rv sv (.slice bp g.brs.length bc) w from ⟨col, hA⟩)
  have HB := Lib.hid hb
  have HST := Lib.hid hst
  obtain ⟨hlt, -, c3, c4, c5, c6⟩ := hA.cells
  clear hA hb hst c3 c4 c5
  go_enter Tryz.func24, Tryz.ntmps24
  go_wp2_with fail
  clear c6 hlt
  go_loopw [9] (fun s9 wx => ∃ k : Nat, s9 = .int .i64 k ∧ k ≤ g.brs.length ∧ Hid (ResI q R g cv rv sv (.slice bp g.brs.length bc) k wx)) (fun s9 _ => g.brs.length - (intOf s9).toNat)
  case atStart => exact ⟨0, rfl, Nat.zero_le _, g.code, rfl, rfl, HR.out⟩
  case round =>
    clear HR
    obtain ⟨k, rfl, hk, HV⟩ := hrel
    obtain ⟨w1, rfl⟩ : ∃ W : World, W = wr := ⟨_, rfl⟩
    obtain ⟨C, hC, hCl, hV⟩ := HV.out
    have HC := Lib.hid hC
    clear HV hC
    by_cases hlt : k < g.brs.length
    · have hltI : (k : Int) < g.brs.length := by omega
      obtain ⟨a, j, hbr, ha, hj⟩ := HB.out k hlt
      have hs := HST.out j
      obtain ⟨col, hA⟩ := hV
      obtain ⟨bb, bcap, e1, hbl, -, x0, -⟩ := hA.brs.cell (j := k * 2) (by show _ < g.brs.length * 2; omega)
      obtain ⟨bb', bcap', e2, -, -, x1, -⟩ := hA.brs.cell (j := k * 2 + 1) (by show _ < g.brs.length * 2; omega)
      injection e1 with e1 _ e3
      subst e1 e3
      injection e2 with e2 _ e2c
      subst e2c
      injection e2 with e2
      injection e2 with e2
      subst e2
      have hba := brV_at g.brs k hlt
      rw [hbr] at hba
      rw [show brV ({ g with code := C } : Gen).brs = brV g.brs from rfl, hba.1] at x0
      rw [show brV ({ g with code := C } : Gen).brs = brV g.brs from rfl, hba.2] at x1
      obtain ⟨sb, sc, e4, hsl, -, y0, -⟩ := hA.sts.cell (j := j) (by show _ < g.starts.length * 1; omega)
      have e4 : sv = .slice (some ⟨sb, 0, none⟩) g.starts.length sc := e4
      subst e4
      have y1 : w1.cell? ⟨sb, j, none⟩ = some (.int .i64 (g.starts.getD j 0)) := by
        rw [y0]
        show (g.starts.map (Value.int .i64))[j]? = _
        rw [List.getElem?_map, List.getElem?_eq_getElem hj, List.getD_eq_getElem?_getD, List.getElem?_eq_getElem hj]; rfl
      clear y0
      obtain ⟨cb, cc, e5, hcl, -, -, -⟩ := hA.code.cell (j := a * 5 + 4) (by show _ < C.length * 5; omega)
      have e5 : cv = .slice (some ⟨cb, 0, none⟩) C.length cc := e5
      subst e5
      have HW := Lib.hid (show ∃ col', GenAt q R { g with code := C.set a { C.getD a default with imm := g.starts.getD j 0 - a - 1 } } col' ((w1.setCell ⟨cb, a * 5 + 4, none⟩ (.int .i64 (g.starts.getD j 0 - a - 1))).alloc (.cells #[.int .i64 a, .int .i64 j] 131)).drew (.slice (some ⟨cb, 0, none⟩) C.length cc) rv (.slice (some ⟨sb, 0, none⟩) g.starts.length sc) (.slice (some ⟨bb, 0, none⟩) g.brs.length bc) from ⟨_, (hA.setImm (a := a) (by show a < C.length; omega) (g.starts.getD j 0 - a - 1)).keep (Below.drew (bAlloc (Nat.le_refl _) (Below.refl _ _)))⟩)
      have HNX : Hid (fixG g.starts C ((a : Int), (j : Int)) = (g.brs.take (k + 1)).foldl (fixG g.starts) g.code) := (show _ = _ by
        have e : g.brs[k] = ((a : Int), (j : Int)) := by
          rw [← hbr, List.getD_eq_getElem?_getD, List.getElem?_eq_getElem hlt]; rfl
        rw [List.take_succ_eq_append_getElem hlt, List.foldl_append, ← HC.out, e]; rfl)
      obtain ⟨hgl, -, c3, -, c5, -⟩ := hA.cells
      obtain ⟨-, m0, m1⟩ := hA.immAt (a := a) (by show a < C.length; omega)
      have hwr1 : IntKind.i64.wrap (g.starts.getD j 0 - (a : Int)) = g.starts.getD j 0 - a := IntWalk.i64_in _ (by omega)
      have hwr2 : IntKind.i64.wrap (g.starts.getD j 0 - (a : Int) - 1) = g.starts.getD j 0 - a - 1 := IntWalk.i64_in _ (by omega)
      have haI : (a : Int) < C.length := by omega
      have haC : a < C.length := by omega
      have hjI : (j : Int) < g.starts.length := by omega
      have HCL := Lib.hid hCl
      have HA2 := Lib.hid ha
      have HFX : Hid (C.set a { C.getD a default with imm := g.starts.getD j 0 - a - 1 } = (g.brs.take (k + 1)).foldl (fixG g.starts) g.code) := (show _ = _ from HNX.out)
      clear hA hba hbr hs hCl ha hl HNX
      generalize g.starts.getD j 0 = st at y1 hwr1 hwr2 HFX HW
      go_wp2_with fail
      clear x0 x1 hltI
      go_region
      all_goals (
        go_wp2_with fail
        go_roundw
        case rel => exact ⟨k + 1, by go_num, by omega, _, HFX.out, by rw [List.length_set]; exact HCL.out, HW.out⟩
        case measure => simp [intOf]; omega)
    · have hkn : k = g.brs.length := by omega
      subst hkn
      have HE : Hid (C = resG g) := (show _ = _ by rw [HC.out, List.take_length]; rfl)
      have HV := Lib.hid hV
      clear hV hCl
      go_wp2_with fail
      go_end0
      obtain ⟨col, hA⟩ := HV.out
      exact ⟨rfl, by rw [← HE.out]; exact ⟨col, _, _, _, _, hA⟩⟩
end Go.Proofs.YtkcfbonchhidlaaGreatDoor

set_option linter.unusedVariables false
set_option linter.unusedSimpArgs false
namespace Go.Proofs.YtkcfbonchhidlaaGreatDoor
open Go.RowKit Go.Maps

theorem infoIn : (Tryz.prog.info? 36).map (fun i => (i.zero, i.size, i.bytes)) = some (some (.agg #[.int .u8 0, .int .i64 0, .int .i64 0, .int .i64 0, .int .i64 0]), 5, 40) := by kernel_rfl
theorem codeV_one (l : List GI) : ∀ u ∈ codeV l, u.oneCell' = true := by
  intro u hu
  obtain ⟨i, _, hu⟩ := List.mem_flatMap.1 hu
  simp only [giV, List.mem_cons, List.not_mem_nil, or_false] at hu
  rcases hu with rfl | rfl | rfl | rfl | rfl <;> rfl
theorem wpList_append_gs {w : World} {ops : Array Oper} {rest : List Oper} {o : Oper} {a : Act} {Q : Exit → Act → World → Prop} (hgd : o.guard = none) (s x : Operand)
    (ho : o.op = .call { callee := .builtin .append, args := #[s, x], argTypes := #[23, 23] })
    (v : Value) (l0 : List GI) (hs : a.eval s = v) (hown : w.ownsRow 0 36 5 v l0.length (codeV l0))
    (xv : Value) (l : List GI) (hx : a.eval x = xv) (hl : GsRd w xv l) (hne : l ≠ []) (h63 : l0.length + l.length ≤ 1000000)
    (h : ∀ p c' w', w'.ownsRow 0 36 5 (.slice p (l0 ++ l).length c') (l0 ++ l).length (codeV l0 ++ codeV l) → w.grownBy w' v.ownBlock → ((Value.slice p (l0 ++ l).length c').ownBlock = v.ownBlock ∨ ∀ k, (Value.slice p (l0 ++ l).length c').ownBlock = some k → w.heap.size ≤ k) → wpList Tryz.prog ops Q rest (a.put o.dst (.slice p (l0 ++ l).length c')) w') : wpList Tryz.prog ops Q (o :: rest) a w := by
  refine wpList_plain hgd fun K hK => ?_
  obtain ⟨i, hi, hie⟩ := Option.map_eq_some_iff.1 infoIn
  simp only [Prod.mk.injEq] at hie
  obtain ⟨q, cap, rfl, hq⟩ := hl
  obtain ⟨g, off, rfl, hg, hc⟩ := hq.resolve_left hne
  have hpos : 0 < l.length := List.length_pos_iff.2 hne
  obtain ⟨v', w', hrun, h2, h3, _, h5⟩ := run_append_own_at (P := Tryz.prog) w 0 23 o.type 36 i _ 5 40 Tryz.underlying23 hi hie.1 hie.2.1 hie.2.2 rfl (by decide) v l0.length (codeV l0) hown ⟨g, off, none⟩ l.length cap (codeV l) (codeV_len l) (fun j u hj => by
    have e2 : (⟨g, off, none⟩ : Addr).add j = ⟨g, off + j, none⟩ := by
      unfold Addr.add
      split
      · rename_i e; subst e; rfl
      · rfl
    rw [e2]; exact hc j u hj) (codeV_one l) (by unfold maxLen; omega) (by omega) (Nat.zero_le _)
  rw [← List.length_append] at h2
  have hsl : ∃ p c', v' = .slice p (l0 ++ l).length c' := by
    rcases h2.2 with ⟨rfl, hh⟩ | ⟨g, cap, cur, rfl, _⟩
    · rw [List.length_append] at hh; omega
    · exact ⟨_, _, rfl⟩
  obtain ⟨p, c', rfl⟩ := hsl
  unfold Oper.wp execOp
  simp only [ho, resolve, invoke, builtin, Sem.run_bind, Sem.run_pure, Result.andThen_ok, List.map_toArray, List.map_cons, List.map_nil, hs, hx, hrun]
  exact hK _ _ (h p c' w' h2 h3 (h5.imp id fun e k hk => by rw [e] at hk; cases hk; exact Nat.le_refl _))

set_option maxHeartbeats 1600000 in
set_option maxRecDepth 20000 in
theorem emit_any {q : GK} {R : List (Nat × List Value)} {g : Gen} {w : World} (h : GenRel q R g w) {lv : Value} {l : List GI} (hl : GsRd w lv l) (hne : l ≠ []) (h63 : g.code.length + l.length ≤ 1000000) :
    Calls Tryz.prog 21 #[.pointer (some ⟨q.gb, 0, none⟩), lv] w fun e w' => e = .returned (.tuple #[]) ∧ Hid (GenRel q R (emitG l g) w') := by
  obtain ⟨col, cv, rv, sv, bv, h⟩ := h
  obtain ⟨hlt, -, c3, -⟩ := h.cells
  have HL := Lib.hid hl
  have HO := Lib.hid h.code.1
  have HG := Lib.hid h
  clear hl h
  go_enter Tryz.func21, Tryz.ntmps21
  go_wp2_with (first | (at_builtin; refine wpList_append_gs rfl _ _ rfl cv g.code rfl HO.out lv l rfl HL.out hne h63 ?_))
  intro p c' w3 hO hgr hd
  obtain ⟨⟨b3, f3, lt3⟩, hK⟩ := HG.out.putCode (l := l) (List.length_append ..).symm hgr hO hd
  have HK := Lib.hid hK
  clear hO hgr hd hK HG HO HL c3 hlt
  go_wp2_with fail
  go_end0
  exact ⟨rfl, HK⟩

theorem step_append_els {w : World} {ops : Array Oper} {o : Oper} {a : Act} {K : Act → World → Prop} {Q : Exit → Act → World → Prop} {E : Prop} (hgd : o.guard = none) (s x : Operand) (t e : TypeId) (z : Value) (size bytes : Nat)
    (ho : o.op = .call { callee := .builtin .append, args := #[s, x], argTypes := #[t, t] }) (ht : Tryz.prog.underlying t = some (.slice e)) (hinfo : (Tryz.prog.info? e).map (fun i => (i.zero, i.size, i.bytes)) = some (some z, size, bytes)) (hz1 : z.cells.size = size) (hsz : 0 < size) (hby : bytes ≤ 64)
    (v : Value) (n : Nat) (xs : List Value) (hs : a.eval s = v) (hown : w.ownsRow 0 e size v n xs)
    (g c : Nat) (ys : List Value) (hx : a.eval x = .slice (some ⟨g, 0, none⟩) 1 c) (hyl : ys.length = size) (hy : ∀ j u, ys[j]? = some u → w.cell? ⟨g, j, none⟩ = some u) (hy1 : ∀ u ∈ ys, u.oneCell' = true)
    (h63 : n ≤ 1000000)
    (h : ∀ p c' w', w'.ownsRow 0 e size (.slice p (n + 1) c') (n + 1) (xs ++ ys) → w.grownBy w' v.ownBlock → ((Value.slice p (n + 1) c').ownBlock = v.ownBlock ∨ ∀ k, (Value.slice p (n + 1) c').ownBlock = some k → w.heap.size ≤ k) → K (a.put o.dst (.slice p (n + 1) c')) w') : if Region.wanted o (yielded ops a.tmps) = true then Oper.wp Tryz.prog o a w K Q else E := by
  have hw : Region.wanted o (yielded ops a.tmps) = true := by simp [Region.wanted, hgd]
  rw [if_pos hw]
  obtain ⟨i, hi, hie⟩ := Option.map_eq_some_iff.1 hinfo
  simp only [Prod.mk.injEq] at hie
  obtain ⟨v', w', hrun, h2, h3, _, h5⟩ := run_append_own_at (P := Tryz.prog) w 0 t o.type e i z size bytes ht hi hie.1 hie.2.1 hie.2.2 hz1 hsz v n xs hown ⟨g, 0, none⟩ 1 c ys (by rw [hyl, Nat.one_mul]) (fun j u hj => by
    have e2 : (⟨g, 0, none⟩ : Addr).add j = ⟨g, j, none⟩ := by unfold Addr.add; split <;> simp_all
    rw [e2]; exact hy j u hj) hy1 (by unfold maxLen; omega) (by have : (n + 1) * bytes ≤ 1000001 * 64 := Nat.mul_le_mul (by omega) hby; omega) (Nat.zero_le _)
  have hsl : ∃ p c', v' = .slice p (n + 1) c' := by
    rcases h2.2 with ⟨rfl, hh⟩ | ⟨g, cap, cur, rfl, _⟩
    · omega
    · exact ⟨_, _, rfl⟩
  obtain ⟨p, c', rfl⟩ := hsl
  unfold Oper.wp execOp
  simp only [ho, resolve, invoke, builtin, Sem.run_bind, Sem.run_pure, Result.andThen_ok, List.map_toArray, List.map_cons, List.map_nil, hs, hx, hrun]
  exact h p c' w' h2 h3 (h5.imp id fun e k hk => by rw [e] at hk; cases hk; exact Nat.le_refl _)

def SzG (g : Gen) (n : Nat) : Prop := g.code.length ≤ n ∧ g.refs.length ≤ n ∧ g.brs.length ≤ n
theorem SzG.le {g : Gen} {n m : Nat} (h : SzG g n) (hm : n ≤ m) : SzG g m := ⟨Nat.le_trans h.1 hm, Nat.le_trans h.2.1 hm, Nat.le_trans h.2.2 hm⟩
theorem SzG.emit {g : Gen} {n : Nat} (h : SzG g n) (l : List GI) : SzG (emitG l g) (n + l.length) := ⟨by show (g.code ++ l).length ≤ _; rw [List.length_append]; have := h.1; omega, Nat.le_trans h.2.1 (Nat.le_add_right _ _), Nat.le_trans h.2.2 (Nat.le_add_right _ _)⟩

theorem infoRef : (Tryz.prog.info? 104).map (fun i => (i.zero, i.size, i.bytes)) = some (some (.agg #[.int .i64 0, .string .empty, .bool false]), 3, 32) := by kernel_rfl
theorem infoBr : (Tryz.prog.info? 131).map (fun i => (i.zero, i.size, i.bytes)) = some (some (.agg #[.int .i64 0, .int .i64 0]), 2, 16) := by kernel_rfl
theorem GsRd.one (w : World) (op : Nat) (a b c im : Int) (t : TypeId) : GsRd (w.alloc (.cells #[.int .u8 op, .int .i64 a, .int .i64 b, .int .i64 c, .int .i64 im] t)) (.slice (some ⟨w.heap.size, 0, none⟩) 1 1) [⟨op, a, b, c, im⟩] := GsRd.made w _ _ _ 1 rfl rfl

theorem GenAt.made {q : GK} {R : List (Nat × List Value)} {g : Gen} {col : Nat → Nat} {w : World} {cv rv sv bv : Value} (h : GenAt q R g col w cv rv sv bv) (o : Obj) : GenAt q R g (paint col w.heap.size 0) (w.drew.alloc o) cv rv sv bv :=
  h.keep (bAlloc (Nat.le_refl _) (Below.drew (Below.refl _ _)))

set_option maxHeartbeats 3200000 in
set_option maxRecDepth 20000 in
theorem refer_any {q : GK} {R : List (Nat × List Value)} {g : Gen} {w : World} (h : GenRel q R g w) {op : Nat} (hop : op = 20 ∨ op = 21 ∨ op = 28 ∨ op = 29) (a b c im : Int) (nm : ByteArray) (hz : SzG g 900000) :
    Calls Tryz.prog 41 #[.pointer (some ⟨q.gb, 0, none⟩), .agg #[.int .u8 op, .int .i64 a, .int .i64 b, .int .i64 c, .int .i64 im], .string nm] w fun e w' => e = .returned (.tuple #[]) ∧ Hid (GenRel q R (referG ⟨op, a, b, c, im⟩ nm g) w') := by
  have hW := h.made [.int .u8 op, .int .i64 a, .int .i64 b, .int .i64 c, .int .i64 im] 36
  obtain ⟨hz1, hz2, -⟩ := hz
  obtain ⟨lk, hlk⟩ : ∃ lk : Bool, lk = decide (op = 28 ∨ op = 29) := ⟨_, rfl⟩
  have HRE : Hid (∀ p : Gen → Prop, p (emitG [⟨op, a, b, c, im⟩] { g with refs := g.refs ++ [⟨g.code.length, nm, lk⟩] }) → p (referG ⟨op, a, b, c, im⟩ nm g)) := (show ∀ p : Gen → Prop, _ from fun p hp => by rw [hlk] at hp; exact hp)
  have hcs : (((op : Int) == 28) = true ∧ lk = true) ∨ (((op : Int) == 28) = false ∧ ((op : Int) == 29) = true ∧ lk = true) ∨ (((op : Int) == 28) = false ∧ ((op : Int) == 29) = false ∧ lk = false) := by
    rcases hop with rfl | rfl | rfl | rfl
    · exact .inr (.inr ⟨by decide, by decide, hlk⟩)
    · exact .inr (.inr ⟨by decide, by decide, hlk⟩)
    · exact .inl ⟨by decide, hlk⟩
    · exact .inr (.inl ⟨by decide, by decide, hlk⟩)
  clear hlk hop
  rcases hcs with ⟨e8, rfl⟩ | ⟨e8, e9, rfl⟩ | ⟨e8, e9, rfl⟩
  all_goals (
    go_enter Tryz.func41, Tryz.ntmps41
    go_upto_region 2 with fail
    obtain ⟨w1, hw1⟩ : ∃ W : World, W = w.alloc (.cells #[.int .u8 op, .int .i64 a, .int .i64 b, .int .i64 c, .int .i64 im] 36) := ⟨_, rfl⟩
    rw [← hw1]
    have hW : GenRel q ((w.heap.size, [.int .u8 op, .int .i64 a, .int .i64 b, .int .i64 c, .int .i64 im]) :: R) g w1 := by rw [hw1]; exact hW
    clear hw1
    obtain ⟨col, cv, rv, sv, bv, hA⟩ := hW
    obtain ⟨hlt, ⟨c0, c1, c2⟩, c3, c4, c5, c6⟩ := hA.cells
    obtain ⟨⟨f3, f4⟩, f5, f6⟩ := hA.frozen
    obtain ⟨cp, cc, rfl⟩ := hA.code.shape
    obtain ⟨rp, rc, rfl⟩ := hA.refs.shape
    have HM := Lib.hid (fun o : Obj => hA.made o)
    have HO := Lib.hid (fun o : Obj => (hA.made o).refs.1)
    clear hA
    go_region_law (refine step_append_els rfl _ _ 48 104 _ 3 32 rfl Tryz.underlying48 infoRef rfl (by decide) (by decide) _ g.refs.length (refV g.refs) rfl (HO.out _) w1.heap.size 1 [.int .i64 g.code.length, .string nm, .bool _] rfl rfl (RowC2.made w1.drew [.int .i64 g.code.length, .string nm, .bool _] 104).2 (by simp [Value.oneCell']) (by omega) ?_; intro p c' w3 hO hgr hd; obtain ⟨⟨b3, f3, l3⟩, hK⟩ := (HM.out _).putRefs (r := ⟨g.code.length, nm, _⟩) hgr hO hd; have HK3 := Lib.hid hK)
    all_goals (
      clear HM HO b3 f3 l3 hK hgr hO hd hlt c0 c1 c2 c3 c4 c5 c6 f4 f5 f6
      try clear e9
      obtain ⟨w4, hw4⟩ : ∃ W : World, W = w3.setCell ⟨q.gb, 4, none⟩ (.slice p (g.refs.length + 1) c') := ⟨_, rfl⟩
      rw [← hw4] at HK3 ⊢
      clear hw4
      have r0 := HK3.out.at (List.mem_cons_self ..)
      have l0 := r0.lt
      have a0 := r0.at 0 rfl
      have a1 := r0.at 1 rfl
      have a2 := r0.at 2 rfl
      have a3 := r0.at 3 rfl
      have a4 := r0.at 4 rfl
      clear r0
      go_wp2_with fail
      refine (emit_any (l := [⟨op, a, b, c, im⟩]) (HK3.out.keep (by repeat (first | (with_reducible exact Below.refl _ _) | (with_reducible apply Below.drew) | ((with_reducible apply bAlloc); (focus first | (exact Nat.le_refl _) | (simp; done) | (simp; omega)))))) (GsRd.one _ op _ _ _ _ _) (by simp) (by simp; omega)).mono ?_
      rintro e w5 ⟨rfl, HK⟩
      go_wp2_with fail
      go_end0
      exact ⟨rfl, HRE.out (fun g => GenRel q R g w5) HK.out.drop⟩))

set_option maxHeartbeats 3200000 in
set_option maxRecDepth 20000 in
theorem jump_any {q : GK} {R : List (Nat × List Value)} {g : Gen} {w : World} (h : GenRel q R g w) (op : Nat) (a b c im k : Int) (hz : SzG g 900000) :
    Calls Tryz.prog 44 #[.pointer (some ⟨q.gb, 0, none⟩), .agg #[.int .u8 op, .int .i64 a, .int .i64 b, .int .i64 c, .int .i64 im], .int .i64 k] w fun e w' => e = .returned (.tuple #[]) ∧ Hid (GenRel q R (jumpG ⟨op, a, b, c, im⟩ k g) w') := by
  have hW := h.made [.int .u8 op, .int .i64 a, .int .i64 b, .int .i64 c, .int .i64 im] 36
  obtain ⟨hz1, -, hz2⟩ := hz
  clear h
  go_enter Tryz.func44, Tryz.ntmps44
  go_upto_region 1 with fail
  obtain ⟨w1, hw1⟩ : ∃ W : World, W = w.alloc (.cells #[.int .u8 op, .int .i64 a, .int .i64 b, .int .i64 c, .int .i64 im] 36) := ⟨_, rfl⟩
  rw [← hw1]
  have hW : GenRel q ((w.heap.size, [.int .u8 op, .int .i64 a, .int .i64 b, .int .i64 c, .int .i64 im]) :: R) g w1 := by rw [hw1]; exact hW
  clear hw1
  obtain ⟨col, cv, rv, sv, bv, hA⟩ := hW
  obtain ⟨hlt, ⟨c0, c1, c2⟩, c3, c4, c5, c6⟩ := hA.cells
  obtain ⟨⟨f3, f4⟩, f5, f6⟩ := hA.frozen
  obtain ⟨cp, cc, rfl⟩ := hA.code.shape
  obtain ⟨bp, bc, rfl⟩ := hA.brs.shape
  have HM := Lib.hid (fun o : Obj => hA.made o)
  have HO := Lib.hid (fun o : Obj => (hA.made o).brs.1)
  clear hA
  go_region_law (refine step_append_els rfl _ _ 93 131 _ 2 16 rfl Tryz.underlying93 infoBr rfl (by decide) (by decide) _ g.brs.length (brV g.brs) rfl (HO.out _) w1.heap.size 1 [.int .i64 g.code.length, .int .i64 k] rfl rfl (RowC2.made w1.drew [.int .i64 g.code.length, .int .i64 k] 131).2 (by simp [Value.oneCell']) (by omega) ?_; intro p c' w3 hO hgr hd; obtain ⟨⟨b3, f3, l3⟩, hK⟩ := (HM.out _).putBrs (r := (g.code.length, k)) hgr hO hd; have HK3 := Lib.hid hK)
  all_goals (
    clear HM HO b3 f3 l3 hK hgr hO hd hlt c0 c1 c2 c3 c4 c5 c6 f4 f5 f6
    obtain ⟨w4, hw4⟩ : ∃ W : World, W = w3.setCell ⟨q.gb, 6, none⟩ (.slice p (g.brs.length + 1) c') := ⟨_, rfl⟩
    rw [← hw4] at HK3 ⊢
    clear hw4
    have r0 := HK3.out.at (List.mem_cons_self ..)
    have l0 := r0.lt
    have a0 := r0.at 0 rfl
    have a1 := r0.at 1 rfl
    have a2 := r0.at 2 rfl
    have a3 := r0.at 3 rfl
    have a4 := r0.at 4 rfl
    clear r0
    go_wp2_with fail
    refine (emit_any (l := [⟨op, a, b, c, im⟩]) (HK3.out.keep (by repeat (first | (with_reducible exact Below.refl _ _) | (with_reducible apply Below.drew) | ((with_reducible apply bAlloc); (focus first | (exact Nat.le_refl _) | (simp; done) | (simp; omega)))))) (GsRd.one _ op _ _ _ _ _) (by simp) (by simp; omega)).mono ?_
    rintro e w5 ⟨rfl, HK⟩
    go_wp2_with fail
    go_end0
    exact ⟨rfl, HK.out.drop⟩)
end Go.Proofs.YtkcfbonchhidlaaGreatDoor

set_option linter.unusedVariables false
set_option linter.unusedSimpArgs false
namespace Go.Proofs.YtkcfbonchhidlaaGreatDoor
open Go.RowKit Go.Maps

theorem GsRd.drew {w : World} {v : Value} {l : List GI} (h : GsRd w v l) : GsRd w.drew v l := h.below (Below.drew (Below.refl _ _)) (Nat.le_refl _)
structure CfOk (c : Cfg) : Prop where
  sp : 0 ≤ c.sp ∧ c.sp ≤ 1000
  pl : ∀ k, k < c.P.length → (0 ≤ (c.P.getD k (0, 0)).1 ∧ (c.P.getD k (0, 0)).1 ≤ 15) ∧ -1 ≤ (c.P.getD k (0, 0)).2 ∧ (c.P.getD k (0, 0)).2 ≤ 1000

set_option maxHeartbeats 3200000 in
set_option maxRecDepth 20000 in
theorem read_any {q : GK} {R : List (Nat × List Value)} {g : Gen} {w : World} (h : GenRel q R g w) (hc : CfOk q.c) {v : Int} (hv : okR q.c.P.length v = true) (scr : Int) (hz : SzG g 900000) :
    Calls Tryz.prog 36 #[.pointer (some ⟨q.gb, 0, none⟩), .int .i64 v, .int .i64 scr] w fun e w' => e = .returned (.int .i64 (readG q.c v scr g).1) ∧ Hid (GenRel q R (readG q.c v scr g).2 w') := by
  obtain ⟨hz1, -, -⟩ := hz
  have hvv : 0 ≤ v ∧ v < q.c.P.length := of_decide_eq_true hv
  obtain ⟨k, rfl⟩ := Int.eq_ofNat_of_zero_le hvv.1
  have hk : k < q.c.P.length := by omega
  have hkI : (k : Int) < q.c.P.length := by omega
  clear hvv hv
  obtain ⟨p0, p1, hpl⟩ := h.place hk
  have hsp := hc.sp
  have hpk := hc.pl k hk
  have HP : Hid (placeG q.c (k : Int) = q.c.P.getD k (0, 0)) := (show _ = _ by unfold placeG; rw [Int.toNat_natCast])
  generalize q.c.P.getD k (0, 0) = pl at p0 p1 hpk HP
  obtain ⟨x, y⟩ := pl
  simp only at p0 p1 hpk
  have hwr : IntKind.i64.wrap (q.c.sp + y) = q.c.sp + y := IntWalk.i64_in _ (by omega)
  have hW := h.made [.int .i64 x, .int .i64 y] 123
  have HW := Lib.hid hW
  obtain ⟨col, cv, rv, sv, bv, hA⟩ := h
  obtain ⟨hlt, ⟨c0, c1, c2⟩, -⟩ := hA.cells
  clear hA hW hpk hsp
  by_cases hx : x = 0
  · have HE : Hid (readG q.c (k : Int) scr g = (scr, emitG [⟨18, scr, 0, 0, q.c.sp + y⟩] g)) := (show _ = _ by unfold readG; rw [HP.out]; simp [hx])
    rw [HE.out]
    subst hx
    go_enter Tryz.func36, Tryz.ntmps36
    go_upto_region 4 with fail
    obtain ⟨w1, hw1⟩ : ∃ W : World, W = w.alloc (.cells #[.int .i64 0, .int .i64 y] 123) := ⟨_, rfl⟩
    rw [← hw1]
    have HW1 : Hid (GenRel q ((w.heap.size, [.int .i64 0, .int .i64 y]) :: R) g w1) := by rw [hw1]; exact HW
    clear hw1 HW c0 c1 c2 p0 p1 hpl hlt
    have r0 := HW1.out.at (List.mem_cons_self ..)
    have l0 := r0.lt
    have q1 := r0.at 1 rfl
    obtain ⟨col, cv, rv, sv, bv, hA⟩ := HW1.out
    obtain ⟨hlt2, ⟨d0, d1, d2⟩, -⟩ := hA.cells
    clear hA r0
    go_region_with (go_at_call 21; refine (emit_any (l := [⟨18, scr, 0, 0, q.c.sp + y⟩]) (HW1.out.keep (by repeat (first | (with_reducible exact Below.refl _ _) | (with_reducible apply Below.drew) | ((with_reducible apply bAlloc); (focus first | (exact Nat.le_refl _) | (simp; done) | (simp; omega)))))) (GsRd.drew (GsRd.one _ 18 _ _ _ _ _)) (by simp) (by simp; omega)).mono ?_; rintro e w5 ⟨rfl, HK⟩)
    all_goals (
      go_wp2_with fail
      go_ret
      exact ⟨rfl, HK.out.drop⟩)
  · have HE : Hid (readG q.c (k : Int) scr g = (x, g)) := (show _ = _ by unfold readG; rw [HP.out]; simp [hx])
    rw [HE.out]
    go_enter Tryz.func36, Tryz.ntmps36
    go_wp2_with fail
    go_ret
    exact ⟨rfl, HW.out.drop⟩

set_option maxHeartbeats 3200000 in
set_option maxRecDepth 20000 in
theorem write_any {q : GK} {R : List (Nat × List Value)} {g : Gen} {w : World} (h : GenRel q R g w) (hc : CfOk q.c) {v : Int} (hv : okR q.c.P.length v = true) (set : Int → Gen → Gen) (f : FuncId) (caps : Array Value) (hf : Enters Tryz.prog f)
    (hset : ∀ (r : Int) (R' : List (Nat × List Value)) (w1 : World), (∀ p ∈ R, p ∈ R') → 1 ≤ r ∧ r ≤ 15 → GenRel q R' g w1 → Calls Tryz.prog f (#[.int .i64 r] ++ caps) w1 fun e w' => e = .returned (.tuple #[]) ∧ Hid (GenRel q R' (set r g) w')) (hz : ∀ r, SzG (set r g) 900000) :
    Calls Tryz.prog 33 #[.pointer (some ⟨q.gb, 0, none⟩), .int .i64 v, .func (.func f) #[] caps] w fun e w' => e = .returned (.tuple #[]) ∧ Hid (GenRel q R (writeG q.c v set g) w') := by
  have hvv : 0 ≤ v ∧ v < q.c.P.length := of_decide_eq_true hv
  obtain ⟨k, rfl⟩ := Int.eq_ofNat_of_zero_le hvv.1
  have hk : k < q.c.P.length := by omega
  have hkI : (k : Int) < q.c.P.length := by omega
  clear hvv hv
  have hent' : ∀ args w, (callFunc f args).run Tryz.prog w = .ok (.enter f args) w := hf
  obtain ⟨p0, p1, hpl⟩ := h.place hk
  have hsp := hc.sp
  have hpk := hc.pl k hk
  have HP : Hid (placeG q.c (k : Int) = q.c.P.getD k (0, 0)) := (show _ = _ by unfold placeG; rw [Int.toNat_natCast])
  generalize q.c.P.getD k (0, 0) = pl at p0 p1 hpk HP
  obtain ⟨x, y⟩ := pl
  simp only at p0 p1 hpk
  have hwr : IntKind.i64.wrap (q.c.sp + y) = q.c.sp + y := IntWalk.i64_in _ (by omega)
  have HW := Lib.hid (h.made [.int .i64 x, .int .i64 y] 123)
  have HS := Lib.hid hset
  have HZ := Lib.hid hz
  obtain ⟨col, cv, rv, sv, bv, hA⟩ := h
  obtain ⟨hlt, ⟨c0, c1, c2⟩, -⟩ := hA.cells
  clear hA hf hset hz hsp
  by_cases hx : x = 0
  · have HE : Hid (writeG q.c (k : Int) set g = emitG [⟨19, 1, 0, 0, q.c.sp + y⟩] (set 1 g)) := (show _ = _ by unfold writeG; rw [HP.out]; simp [hx])
    rw [HE.out]
    subst hx
    clear hpk
    go_enter Tryz.func33, Tryz.ntmps33
    go_wp2_with fail
    refine (HS.out 1 _ _ (fun p hp => List.mem_cons_of_mem _ hp) (by decide) HW.out).mono ?_
    rintro e w2 ⟨rfl, HK⟩
    have r0 := HK.out.at (List.mem_cons_self ..)
    have l0 := r0.lt
    have q1 := r0.at 1 rfl
    obtain ⟨col, cv, rv, sv, bv, hA⟩ := HK.out
    obtain ⟨hlt2, ⟨d0, d1, d2⟩, -⟩ := hA.cells
    clear hA r0 c0 c1 c2 p0 p1 hlt hpl
    have HZ1 := Lib.hid (HZ.out 1).1
    go_upto_region 4 with fail
    go_region_with (go_at_call 21; refine (emit_any (l := [⟨19, 1, 0, 0, q.c.sp + y⟩]) (HK.out.keep (by repeat (first | (with_reducible exact Below.refl _ _) | (with_reducible apply Below.drew) | ((with_reducible apply bAlloc); (focus first | (exact Nat.le_refl _) | (simp; done) | (simp; omega)))))) (GsRd.drew (GsRd.one _ 19 _ _ _ _ _)) (by simp) (by have := HZ1.out; simp; omega)).mono ?_; rintro e w5 ⟨rfl, HK2⟩)
    all_goals (
      go_wp2_with fail
      go_end0
      exact ⟨rfl, HK2.out.drop⟩)
  · have HE : Hid (writeG q.c (k : Int) set g = set x g) := (show _ = _ by unfold writeG; rw [HP.out]; simp [hx])
    rw [HE.out]
    have hx1 : 1 ≤ x ∧ x ≤ 15 := by omega
    clear hpk
    go_enter Tryz.func33, Tryz.ntmps33
    go_wp2_with fail
    refine (HS.out x _ _ (fun p hp => List.mem_cons_of_mem _ hp) hx1 HW.out).mono ?_
    rintro e w2 ⟨rfl, HK⟩
    go_wp2_with fail
    try simp only [Exit.inBlock, Exit.then]
    refine bodyPost_ret (results_none rfl _ _ _) rfl ?_
    exact ⟨rfl, HK.out.drop⟩
end Go.Proofs.YtkcfbonchhidlaaGreatDoor

