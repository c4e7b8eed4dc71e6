/- The generator of code in memory, told by colors; emit, by its contract. -/
import Derived.Test.YtlajdcikhbocdaaDoorGenD
import Derived.Test.YtlajdcikhbocdaaDoorMgF
set_option linter.unusedVariables false
set_option linter.unusedSimpArgs false
namespace Go.Proofs.YtlajdcikhbocdaaDoor
open Go.RowKit Go.Maps

def refC (r : GR) : List Value := [.int .i64 r.at', .string r.nm, .bool r.lk]
def refV (l : List GR) : List Value := l.flatMap refC
def brV (l : List (Int × Int)) : List Value := l.flatMap fun b => [Value.int .i64 b.1, .int .i64 b.2]
theorem refV_push (l : List GR) (r : GR) : refV (l ++ [r]) = refV l ++ [.int .i64 r.at', .string r.nm, .bool r.lk] := by simp [refV, refC]
theorem brV_push (l : List (Int × Int)) (b : Int × Int) : brV (l ++ [b]) = brV l ++ [.int .i64 b.1, .int .i64 b.2] := by simp [brV]

/-- What a generator works with: its box (block gb), the map of arrays (mb), the places (pg). -/
structure GK where
  B : Nat
  W0 : World
  gb : Nat
  mb : Nat
  n : Nat
  pg : Nat
  c : Cfg
  F : ByteArray → Option Value
/-- The box of the generator: the first cells of block b, color 1, all can be written. -/
structure BoxG (col : Nat → Nat) (w : World) (b : Nat) (l : List Value) : Prop where
  row : RowC2 w b l
  fz : ∀ k, w.frozen? ⟨b, k, none⟩ = false
  cb : col b = 1
theorem BoxG.lt {col : Nat → Nat} {w : World} {b : Nat} {l : List Value} (h : BoxG col w b l) : b < w.heap.size := h.row.1
theorem BoxG.other {col : Nat → Nat} {c : Nat} {w w' : World} {b : Nat} {l : List Value} (h : BoxG col w b l) (ht : Touch col c w w') (hne : 1 ≠ c) : BoxG (paint col w.heap.size c) w' b l := by
  have hb := ht.block b h.lt (by rw [h.cb]; exact hne)
  refine ⟨⟨Nat.lt_of_lt_of_le h.lt ht.size, fun k v hv => (World.cell?_of_block (a := ⟨b, k, none⟩) hb).trans (h.row.2 k v hv)⟩, fun k => ?_, by rw [paint_lt h.lt]; exact h.cb⟩
  exact (World.frozen?_of_block (a := ⟨b, k, none⟩) hb).trans (h.fz k)
theorem BoxG.set {col : Nat → Nat} {w : World} {b : Nat} {l : List Value} (h : BoxG col w b l) (k : Nat) (v : Value) : BoxG col (w.setCell ⟨b, k, none⟩ v) b (l.set k v) := by
  refine ⟨⟨by simpa [World.setCell] using h.lt, fun j u hu => ?_⟩, fun j => by rw [World.frozen?_setCell]; exact h.fz j, h.cb⟩
  rw [List.getElem?_set] at hu
  by_cases e : k = j
  · subst e
    rw [if_pos rfl] at hu
    split at hu
    · rename_i hlt
      have h1 := h.row.2 k l[k] (List.getElem?_eq_getElem hlt)
      cases hu
      exact World.cell?_setCell_same _ _ _ h1
    · cases hu
  · rw [if_neg e] at hu
    exact (World.cell?_setCell_other _ _ _ _ (by intro e2; injection e2 with _ e2; exact e (by first | exact e2 | exact e2.symm))).trans (h.row.2 j u hu)
/-- What does not turn in the generator's work: the map of arrays, the places, rows that are only read. -/
structure GenX (q : GK) (R : List (Nat × List Value)) (col : Nat → Nat) (w : World) : Prop where
  mp : MpAt w q.mb q.n q.F
  cm : col q.mb = 2
  pl : PlAt w q.pg q.c.P.length fun k => q.c.P.getD k (0, 0)
  cp : col q.pg = 0
  lp : q.pg < w.heap.size
  low : ∀ k, k < q.B → col k = 0
  bel : Below q.B q.W0 w
  big : q.B ≤ w.heap.size
  rows : ∀ p ∈ R, RowC2 w p.1 p.2 ∧ col p.1 = 0
theorem GenX.touch {q : GK} {R : List (Nat × List Value)} {col : Nat → Nat} {c : Nat} {w w' : World} (h : GenX q R col w) (ht : Touch col c w w') (h0 : c ≠ 0) (h2 : c ≠ 2) : GenX q R (paint col w.heap.size c) w' := by
  refine ⟨h.mp.of_block (ht.block _ h.mp.lt (by rw [h.cm]; exact fun e => h2 e.symm)), by rw [paint_lt h.mp.lt]; exact h.cm, World.rowIs.of_block h.pl (ht.block _ h.lp (by rw [h.cp]; exact fun e => h0 e.symm)), by rw [paint_lt h.lp]; exact h.cp, Nat.lt_of_lt_of_le h.lp ht.size, low_paint h.low h.big, h.bel.trans (ht.below h.big fun k hk e => by rw [h.low k hk] at e; exact h0 e.symm), Nat.le_trans h.big ht.size, fun p hp => ?_⟩
  obtain ⟨h1, hc⟩ := h.rows p hp
  have hb := ht.block p.1 h1.lt (by rw [hc]; exact fun e => h0 e.symm)
  exact ⟨⟨Nat.lt_of_lt_of_le h1.lt ht.size, fun k v hv => (World.cell?_of_block (a := ⟨p.1, k, none⟩) hb).trans (h1.2 k v hv)⟩, by rw [paint_lt h1.lt]; exact hc⟩
theorem GenX.keep {q : GK} {R : List (Nat × List Value)} {col : Nat → Nat} {w w' : World} (h : GenX q R col w) (hb : Below w.heap.size w w') : GenX q R (paint col w.heap.size 0) w' := by
  refine ⟨h.mp.of_block (hb.block _ h.mp.lt), by rw [paint_lt h.mp.lt]; exact h.cm, World.rowIs.of_block h.pl (hb.block _ h.lp), by rw [paint_lt h.lp]; exact h.cp, Nat.lt_of_lt_of_le h.lp hb.size, low_paint h.low h.big, h.bel.trans (hb.mono h.big), Nat.le_trans h.big hb.size, fun p hp => ?_⟩
  obtain ⟨h1, hc⟩ := h.rows p hp
  exact ⟨h1.below hb h1.lt, by rw [paint_lt h1.lt]; exact hc⟩
/-- The generator as it stands. -/
structure GenAt (q : GK) (R : List (Nat × List Value)) (g : Gen) (col : Nat → Nat) (w : World) (cv rv sv bv : Value) : Prop where
  x : GenX q R col w
  code : OwnC 53 5 col 3 w cv g.code.length (codeV g.code)
  refs : OwnC 82 3 col 4 w rv g.refs.length (refV g.refs)
  sts : OwnC 3 1 col 5 w sv g.starts.length (g.starts.map (Value.int .i64))
  brs : OwnC 102 2 col 6 w bv g.brs.length (brV g.brs)
  box : BoxG col w q.gb [.slice (some ⟨q.pg, 0, none⟩) q.c.P.length q.c.P.length, .int .i64 q.c.sp, .map (some q.mb), cv, rv, sv, bv]
def GenRel (q : GK) (R : List (Nat × List Value)) (g : Gen) (w : World) : Prop := ∃ col cv rv sv bv, GenAt q R g col w cv rv sv bv
section
variable {q : GK} {R : List (Nat × List Value)} {g : Gen} {col : Nat → Nat} {w w' w3 : World} {cv rv sv bv v' : Value}
theorem GenAt.keep (h : GenAt q R g col w cv rv sv bv) (hb : Below w.heap.size w w') : GenAt q R g (paint col w.heap.size 0) w' cv rv sv bv :=
  have ht : Touch col 0 w w' := Touch.of_below hb
  ⟨h.x.keep hb, h.code.other ht (by decide), h.refs.other ht (by decide), h.sts.other ht (by decide), h.brs.other ht (by decide), h.box.other ht (by decide)⟩
theorem GenRel.keep (h : GenRel q R g w) (hb : Below w.heap.size w w') : GenRel q R g w' := by
  obtain ⟨col, cv, rv, sv, bv, h⟩ := h
  exact ⟨_, _, _, _, _, h.keep hb⟩
theorem GenRel.bel (h : GenRel q R g w) : Below q.B q.W0 w := by
  obtain ⟨col, cv, rv, sv, bv, h⟩ := h
  exact h.x.bel
theorem GenRel.big (h : GenRel q R g w) : q.B ≤ w.heap.size := by
  obtain ⟨col, cv, rv, sv, bv, h⟩ := h
  exact h.x.big
theorem GenRel.at (h : GenRel q R g w) {b : Nat} {cs : List Value} (hp : (b, cs) ∈ R) : RowC2 w b cs := by
  obtain ⟨col, cv, rv, sv, bv, h⟩ := h
  exact (h.x.rows _ hp).1
theorem GenRel.sub {R' : List (Nat × List Value)} (h : GenRel q R g w) (hs : ∀ p ∈ R', p ∈ R) : GenRel q R' g w := by
  obtain ⟨col, cv, rv, sv, bv, h⟩ := h
  exact ⟨col, cv, rv, sv, bv, ⟨h.x.mp, h.x.cm, h.x.pl, h.x.cp, h.x.lp, h.x.low, h.x.bel, h.x.big, fun p hp => h.x.rows p (hs p hp)⟩, h.code, h.refs, h.sts, h.brs, h.box⟩
theorem GenRel.drop {p : Nat × List Value} (h : GenRel q (p :: R) g w) : GenRel q R g w := h.sub fun p hp => List.mem_cons_of_mem _ hp
/-- Rows that are made or read. -/
theorem GenRel.row (h : GenRel q R g w) (hb : Below w.heap.size w w') {b : Nat} {cs : List Value} (hr : RowC2 w' b cs) (hB : w.heap.size ≤ b) : GenRel q ((b, cs) :: R) g w' := by
  obtain ⟨col, cv, rv, sv, bv, h⟩ := h
  have hk := h.keep hb
  refine ⟨_, _, _, _, _, ⟨hk.x.mp, hk.x.cm, hk.x.pl, hk.x.cp, hk.x.lp, hk.x.low, hk.x.bel, hk.x.big, fun p hp => ?_⟩, hk.code, hk.refs, hk.sts, hk.brs, hk.box⟩
  rcases List.mem_cons.1 hp with rfl | hp
  · exact ⟨hr, paint_ge hB⟩
  · exact hk.x.rows p hp
theorem GenRel.made (h : GenRel q R g w) (cs : List Value) (t : TypeId) : GenRel q ((w.heap.size, cs) :: R) g (w.alloc (.cells cs.toArray t)) :=
  h.row (bAlloc (Nat.le_refl _) (Below.refl _ _)) (RowC2.made w cs t) (Nat.le_refl _)
/-- What is read of the box. -/
theorem GenAt.cells (h : GenAt q R g col w cv rv sv bv) : q.gb < w.heap.size ∧ (w.cell? ⟨q.gb, 0, none⟩ = some (.slice (some ⟨q.pg, 0, none⟩) q.c.P.length q.c.P.length) ∧ w.cell? ⟨q.gb, 1, none⟩ = some (.int .i64 q.c.sp) ∧ w.cell? ⟨q.gb, 2, none⟩ = some (.map (some q.mb))) ∧ (w.cell? ⟨q.gb, 3, none⟩ = some cv ∧ w.cell? ⟨q.gb, 4, none⟩ = some rv ∧ w.cell? ⟨q.gb, 5, none⟩ = some sv ∧ w.cell? ⟨q.gb, 6, none⟩ = some bv) :=
  ⟨h.box.lt, ⟨h.box.row.at 0 rfl, h.box.row.at 1 rfl, h.box.row.at 2 rfl⟩, h.box.row.at 3 rfl, h.box.row.at 4 rfl, h.box.row.at 5 rfl, h.box.row.at 6 rfl⟩
theorem GenAt.frozen (h : GenAt q R g col w cv rv sv bv) : (w.frozen? ⟨q.gb, 3, none⟩ = false ∧ w.frozen? ⟨q.gb, 4, none⟩ = false) ∧ w.frozen? ⟨q.gb, 5, none⟩ = false ∧ w.frozen? ⟨q.gb, 6, none⟩ = false :=
  ⟨⟨h.box.fz 3, h.box.fz 4⟩, h.box.fz 5, h.box.fz 6⟩
theorem GenRel.place (h : GenRel q R g w) {k : Nat} (hk : k < q.c.P.length) : w.cell? ⟨q.pg, k * 2, none⟩ = some (.int .i64 (q.c.P.getD k (0, 0)).1) ∧ w.cell? ⟨q.pg, k * 2 + 1, none⟩ = some (.int .i64 (q.c.P.getD k (0, 0)).2) ∧ q.pg < w.heap.size := by
  obtain ⟨col, cv, rv, sv, bv, h⟩ := h
  exact ⟨h.x.pl.fst hk, h.x.pl.snd hk, h.x.lp⟩
/-- The code has grown; behind the store of the new slice. -/
theorem GenAt.putCode (h : GenAt q R g col w cv rv sv bv) {l : List GI} {n : Nat} (hn : n = (g.code ++ l).length) (hg : w.grownBy w3 cv.ownBlock) (hv : w3.ownsRow 0 53 5 v' n (codeV g.code ++ codeV l)) (hk : v'.ownBlock = cv.ownBlock ∨ ∀ k, v'.ownBlock = some k → w.heap.size ≤ k) :
    (w3.cell? ⟨q.gb, 3, none⟩ = some cv ∧ w3.frozen? ⟨q.gb, 3, none⟩ = false ∧ q.gb < w3.heap.size) ∧ GenRel q R (emitG l g) (w3.setCell ⟨q.gb, 3, none⟩ v') := by
  subst hn
  obtain ⟨hc, ht⟩ := h.code.push (Below.refl _ _) hg hv hk
  have hx := h.x.touch ht (by decide) (by decide)
  have hb := h.box.other ht (by decide)
  have h2 : Touch (paint col w.heap.size 3) 1 w3 (w3.setCell ⟨q.gb, 3, none⟩ v') := Touch.setCell (a := ⟨q.gb, 3, none⟩) hb.cb v'
  refine ⟨⟨hb.row.at 3 rfl, hb.fz 3, hb.lt⟩, _, v', rv, sv, bv, hx.touch h2 (by decide) (by decide), ?_, (h.refs.other ht (by decide)).other h2 (by decide), (h.sts.other ht (by decide)).other h2 (by decide), (h.brs.other ht (by decide)).other h2 (by decide), ?_⟩
  · have := hc.other h2 (by decide)
    rw [← codeV_app] at this
    exact this
  · have := hb.set 3 v'
    exact ⟨this.row, this.fz, by rw [paint_lt hb.lt]; exact hb.cb⟩
theorem GenAt.putRefs (h : GenAt q R g col w cv rv sv bv) {r : GR} (hg : w.grownBy w3 rv.ownBlock) (hv : w3.ownsRow 0 82 3 v' (g.refs.length + 1) (refV g.refs ++ [.int .i64 r.at', .string r.nm, .bool r.lk])) (hk : v'.ownBlock = rv.ownBlock ∨ ∀ k, v'.ownBlock = some k → w.heap.size ≤ k) :
    (w3.cell? ⟨q.gb, 4, none⟩ = some rv ∧ w3.frozen? ⟨q.gb, 4, none⟩ = false ∧ q.gb < w3.heap.size) ∧ GenRel q R { g with refs := g.refs ++ [r] } (w3.setCell ⟨q.gb, 4, none⟩ v') := by
  obtain ⟨hc, ht⟩ := h.refs.push (Below.refl _ _) hg hv hk
  have hx := h.x.touch ht (by decide) (by decide)
  have hb := h.box.other ht (by decide)
  have h2 : Touch (paint col w.heap.size 4) 1 w3 (w3.setCell ⟨q.gb, 4, none⟩ v') := Touch.setCell (a := ⟨q.gb, 4, none⟩) hb.cb v'
  refine ⟨⟨hb.row.at 4 rfl, hb.fz 4, hb.lt⟩, _, cv, v', sv, bv, hx.touch h2 (by decide) (by decide), (h.code.other ht (by decide)).other h2 (by decide), ?_, (h.sts.other ht (by decide)).other h2 (by decide), (h.brs.other ht (by decide)).other h2 (by decide), ?_⟩
  · have := hc.other h2 (by decide)
    rw [← refV_push] at this
    simpa using this
  · have := hb.set 4 v'
    exact ⟨this.row, this.fz, by rw [paint_lt hb.lt]; exact hb.cb⟩
theorem GenAt.putSts (h : GenAt q R g col w cv rv sv bv) {r : Int} (hg : w.grownBy w3 sv.ownBlock) (hv : w3.ownsRow 0 3 1 v' (g.starts.length + 1) (g.starts.map (Value.int .i64) ++ [.int .i64 r])) (hk : v'.ownBlock = sv.ownBlock ∨ ∀ k, v'.ownBlock = some k → w.heap.size ≤ k) :
    (w3.cell? ⟨q.gb, 5, none⟩ = some sv ∧ w3.frozen? ⟨q.gb, 5, none⟩ = false ∧ q.gb < w3.heap.size) ∧ GenRel q R { g with starts := g.starts ++ [r] } (w3.setCell ⟨q.gb, 5, none⟩ v') := by
  obtain ⟨hc, ht⟩ := h.sts.push (Below.refl _ _) hg hv hk
  have hx := h.x.touch ht (by decide) (by decide)
  have hb := h.box.other ht (by decide)
  have h2 : Touch (paint col w.heap.size 5) 1 w3 (w3.setCell ⟨q.gb, 5, none⟩ v') := Touch.setCell (a := ⟨q.gb, 5, none⟩) hb.cb v'
  refine ⟨⟨hb.row.at 5 rfl, hb.fz 5, hb.lt⟩, _, cv, rv, v', bv, hx.touch h2 (by decide) (by decide), (h.code.other ht (by decide)).other h2 (by decide), (h.refs.other ht (by decide)).other h2 (by decide), ?_, (h.brs.other ht (by decide)).other h2 (by decide), ?_⟩
  · have := hc.other h2 (by decide)
    simpa using this
  · have := hb.set 5 v'
    exact ⟨this.row, this.fz, by rw [paint_lt hb.lt]; exact hb.cb⟩
theorem GenAt.putBrs (h : GenAt q R g col w cv rv sv bv) {r : Int × Int} (hg : w.grownBy w3 bv.ownBlock) (hv : w3.ownsRow 0 102 2 v' (g.brs.length + 1) (brV g.brs ++ [.int .i64 r.1, .int .i64 r.2])) (hk : v'.ownBlock = bv.ownBlock ∨ ∀ k, v'.ownBlock = some k → w.heap.size ≤ k) :
    (w3.cell? ⟨q.gb, 6, none⟩ = some bv ∧ w3.frozen? ⟨q.gb, 6, none⟩ = false ∧ q.gb < w3.heap.size) ∧ GenRel q R { g with brs := g.brs ++ [r] } (w3.setCell ⟨q.gb, 6, none⟩ v') := by
  obtain ⟨hc, ht⟩ := h.brs.push (Below.refl _ _) hg hv hk
  have hx := h.x.touch ht (by decide) (by decide)
  have hb := h.box.other ht (by decide)
  have h2 : Touch (paint col w.heap.size 6) 1 w3 (w3.setCell ⟨q.gb, 6, none⟩ v') := Touch.setCell (a := ⟨q.gb, 6, none⟩) hb.cb v'
  refine ⟨⟨hb.row.at 6 rfl, hb.fz 6, hb.lt⟩, _, cv, rv, sv, v', hx.touch h2 (by decide) (by decide), (h.code.other ht (by decide)).other h2 (by decide), (h.refs.other ht (by decide)).other h2 (by decide), (h.sts.other ht (by decide)).other h2 (by decide), ?_, ?_⟩
  · have := hc.other h2 (by decide)
    rw [← brV_push] at this
    simpa using this
  · have := hb.set 6 v'
    exact ⟨this.row, this.fz, by rw [paint_lt hb.lt]; exact hb.cb⟩
end
end Go.Proofs.YtlajdcikhbocdaaDoor
