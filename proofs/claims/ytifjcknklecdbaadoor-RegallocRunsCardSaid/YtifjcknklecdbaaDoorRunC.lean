/- The runner of the intermediate form in memory, told by colors: its box 1, the map of names 2, the registers 3, the outputs 5, array k: 10 + k, all else 0. No walk here. -/
import Derived.Test.YtifjcknklecdbaaDoorMs24
import Derived.Test.YtifjcknklecdbaaDoorIrD
import Derived.Test.YtifjcknklecdbaaDoorMs07
set_option linter.unusedVariables false
set_option linter.unusedSimpArgs false
namespace Go.Proofs.YtifjcknklecdbaaDoor
open Go.RowKit Go.Maps

def outV (l : List (Int × Int)) : List Value := l.flatMap fun b => [Value.int .i64 b.1, .int .i32 b.2]
theorem outV_push (l : List (Int × Int)) (b : Int × Int) : outV (l ++ [b]) = outV l ++ [.int .i64 b.1, .int .i32 b.2] := by simp [outV]
/-- A slice of words that can be read. -/
def RdI32 (w : World) (v : Value) (xs : List Int) : Prop :=
  ∃ p cap, v = .slice p xs.length cap ∧ ∀ k, k < xs.length → ∃ m off, p = some ⟨m, off, none⟩ ∧ m < w.heap.size ∧ w.cell? ⟨m, off + k, none⟩ = some (.int .i32 (xs.getD k 0))
theorem RdI32.below {B : Nat} {w w' : World} {v : Value} {xs : List Int} (h : RdI32 w v xs) (hb : Below B w w') (hB : w.heap.size ≤ B) : RdI32 w' v xs := by
  obtain ⟨p, cap, hp, hc⟩ := h
  refine ⟨p, cap, hp, fun k hk => ?_⟩
  obtain ⟨m, off, e, hm, hx⟩ := hc k hk
  exact ⟨m, off, e, Nat.lt_of_lt_of_le hm hb.size, (hb.cell (p := ⟨m, off + k, none⟩) (Nat.lt_of_lt_of_le hm hB)).trans hx⟩
theorem RdI32.shape {w : World} {v : Value} {xs : List Int} (h : RdI32 w v xs) : ∃ p cap, v = .slice p xs.length cap := by
  obtain ⟨p, cap, hp, _⟩ := h
  exact ⟨p, cap, hp⟩
/-- What a runner works with. -/
structure RK where
  B : Nat
  W0 : World
  gb : Nat
  mb : Nat
  n : Nat
  R : Nat
  rv : Value
  iv : Value
  inp : List Int
  F : ByteArray → Option Value
  nm : Nat
  V : Nat → Value
  idx : ByteArray → Nat
  fr : List Nat
/-- The runner's box: all cells can be written. -/
structure BoxR (col : Nat → Nat) (w : World) (b : Nat) (l : List Value) : Prop where
  row : RowC2 w b l
  fz : ∀ k, w.frozen? ⟨b, k, none⟩ = false
  cb : col b = 1
theorem BoxR.lt {col : Nat → Nat} {w : World} {b : Nat} {l : List Value} (h : BoxR col w b l) : b < w.heap.size := h.row.1
theorem BoxR.other {col : Nat → Nat} {c : Nat} {w w' : World} {b : Nat} {l : List Value} (h : BoxR col w b l) (ht : Touch col c w w') (hne : 1 ≠ c) : BoxR (paint col w.heap.size c) w' b l := by
  have hb := ht.block b h.lt (by rw [h.cb]; exact hne)
  refine ⟨⟨Nat.lt_of_lt_of_le h.lt ht.size, fun k v hv => (World.cell?_of_block (a := ⟨b, k, none⟩) hb).trans (h.row.2 k v hv)⟩, fun k => ?_, by rw [paint_lt h.lt]; exact h.cb⟩
  exact (World.frozen?_of_block (a := ⟨b, k, none⟩) hb).trans (h.fz k)
theorem BoxR.set {col : Nat → Nat} {w : World} {b : Nat} {l : List Value} (h : BoxR col w b l) (k : Nat) (v : Value) : BoxR (paint col w.heap.size 1) (w.setCell ⟨b, k, none⟩ v) b (l.set k v) := by
  refine ⟨⟨by simpa [World.setCell] using h.lt, fun j u hu => ?_⟩, fun j => by rw [World.frozen?_setCell]; exact h.fz j, by rw [paint_lt h.lt]; exact h.cb⟩
  rw [List.getElem?_set] at hu
  by_cases e : k = j
  · subst e
    rw [if_pos rfl] at hu
    split at hu
    · rename_i hlt
      have h1 := h.row.2 k l[k] (List.getElem?_eq_getElem hlt)
      cases hu
      exact World.cell?_setCell_same _ _ _ h1
    · cases hu
  · rw [if_neg e] at hu
    exact (World.cell?_setCell_other _ _ _ _ (by intro e2; injection e2 with _ e2; exact e (by first | exact e2 | exact e2.symm))).trans (h.row.2 j u hu)
/-- What does not turn while the runner works. -/
structure RunX (q : RK) (L : List (Nat × List Value)) (col : Nat → Nat) (w : World) : Prop where
  mp : MpAt w q.mb q.n q.F
  cm : col q.mb = 2
  low : ∀ k, k < q.B → col k = 0
  bel : Below q.B q.W0 w
  big : q.B ≤ w.heap.size
  le : q.W0.heap.size ≤ q.B
  inn : RdI32 q.W0 q.iv q.inp
  rows : ∀ p ∈ L, RowC2 w p.1 p.2 ∧ col p.1 = 0
  fro : ∀ b ∈ q.fr, b < w.heap.size ∧ col b = 0 ∧ ∀ k, w.frozen? ⟨b, k, none⟩ = false
theorem RunX.touch {q : RK} {L : List (Nat × List Value)} {col : Nat → Nat} {c : Nat} {w w' : World} (h : RunX q L col w) (ht : Touch col c w w') (h0 : c ≠ 0) (h2 : c ≠ 2) : RunX q L (paint col w.heap.size c) w' := by
  refine ⟨h.mp.of_block (ht.block _ h.mp.lt (by rw [h.cm]; exact fun e => h2 e.symm)), by rw [paint_lt h.mp.lt]; exact h.cm, low_paint h.low h.big, h.bel.trans (ht.below h.big fun k hk e => by rw [h.low k hk] at e; exact h0 e.symm), Nat.le_trans h.big ht.size, h.le, h.inn, fun p hp => ?_, fun b hb => ?_⟩
  · obtain ⟨h1, hc⟩ := h.rows p hp
    have hb := ht.block p.1 h1.lt (by rw [hc]; exact fun e => h0 e.symm)
    exact ⟨⟨Nat.lt_of_lt_of_le h1.lt ht.size, fun k v hv => (World.cell?_of_block (a := ⟨p.1, k, none⟩) hb).trans (h1.2 k v hv)⟩, by rw [paint_lt h1.lt]; exact hc⟩
  · obtain ⟨h1, hc, hf⟩ := h.fro b hb
    have hbk := ht.block b h1 (by rw [hc]; exact fun e => h0 e.symm)
    exact ⟨Nat.lt_of_lt_of_le h1 ht.size, by rw [paint_lt h1]; exact hc, fun k => (World.frozen?_of_block (a := ⟨b, k, none⟩) hbk).trans (hf k)⟩
theorem RunX.keep {q : RK} {L : List (Nat × List Value)} {col : Nat → Nat} {w w' : World} (h : RunX q L col w) (hb : Below w.heap.size w w') : RunX q L (paint col w.heap.size 0) w' := by
  refine ⟨h.mp.of_block (hb.block _ h.mp.lt), by rw [paint_lt h.mp.lt]; exact h.cm, low_paint h.low h.big, h.bel.trans (hb.mono h.big), Nat.le_trans h.big hb.size, h.le, h.inn, fun p hp => ?_, fun b hf => ?_⟩
  · obtain ⟨h1, hc⟩ := h.rows p hp
    exact ⟨h1.below hb h1.lt, by rw [paint_lt h1.lt]; exact hc⟩
  · obtain ⟨h1, hc, hz⟩ := h.fro b hf
    exact ⟨Nat.lt_of_lt_of_le h1 hb.size, by rw [paint_lt h1]; exact hc, fun k => (World.frozen?_of_block (a := ⟨b, k, none⟩) (hb.block b h1)).trans (hz k)⟩
def boxL (q : RK) (s : RS) (ov : Value) : List Value := q.rv :: (s.ctr.map (.int .i32) ++ [.map (some q.mb), .bool s.lck, .string s.held, q.iv, ov, .int .i64 s.read])
/-- The runner as it stands. -/
structure RunAt (q : RK) (L : List (Nat × List Value)) (s : RS) (col : Nat → Nat) (w : World) (ov : Value) : Prop where
  x : RunX q L col w
  box : BoxR col w q.gb (boxL q s ov)
  regs : OwnC 21 1 col 3 w q.rv q.R (s.regs.map (.int .i32))
  lr : s.regs.length = q.R
  lc : s.ctr.length = 4
  mem : ∀ k, k < q.nm → OwnC 21 1 col (10 + k) w (q.V k) (s.mem k).length ((s.mem k).map (.int .i32))
  out : OwnC 43 2 col 5 w ov s.out.length (outV s.out)
def RunRel (q : RK) (L : List (Nat × List Value)) (s : RS) (w : World) : Prop := ∃ col ov, RunAt q L s col w ov
section
variable {q : RK} {L : List (Nat × List Value)} {s : RS} {col : Nat → Nat} {w w' w3 : World} {ov v' : Value}
theorem RunAt.keep (h : RunAt q L s col w ov) (hb : Below w.heap.size w w') : RunAt q L s (paint col w.heap.size 0) w' ov :=
  have ht : Touch col 0 w w' := Touch.of_below hb
  ⟨h.x.keep hb, h.box.other ht (by decide), h.regs.other ht (by decide), h.lr, h.lc, fun k hk => (h.mem k hk).other ht (by omega), h.out.other ht (by decide)⟩
theorem RunRel.keep (h : RunRel q L s w) (hb : Below w.heap.size w w') : RunRel q L s w' := by
  obtain ⟨col, ov, h⟩ := h
  exact ⟨_, _, h.keep hb⟩
theorem RunRel.bel (h : RunRel q L s w) : Below q.B q.W0 w := by
  obtain ⟨col, ov, h⟩ := h
  exact h.x.bel
theorem RunRel.big (h : RunRel q L s w) : q.B ≤ w.heap.size := by
  obtain ⟨col, ov, h⟩ := h
  exact h.x.big
theorem RunRel.at (h : RunRel q L s w) {b : Nat} {cs : List Value} (hp : (b, cs) ∈ L) : RowC2 w b cs := by
  obtain ⟨col, ov, h⟩ := h
  exact (h.x.rows _ hp).1
theorem RunRel.sub {L' : List (Nat × List Value)} (h : RunRel q L s w) (hs : ∀ p ∈ L', p ∈ L) : RunRel q L' s w := by
  obtain ⟨col, ov, h⟩ := h
  exact ⟨col, ov, ⟨h.x.mp, h.x.cm, h.x.low, h.x.bel, h.x.big, h.x.le, h.x.inn, fun p hp => h.x.rows p (hs p hp), h.x.fro⟩, h.box, h.regs, h.lr, h.lc, h.mem, h.out⟩
theorem RunRel.drop {p : Nat × List Value} (h : RunRel q (p :: L) s w) : RunRel q L s w := h.sub fun p hp => List.mem_cons_of_mem _ hp
theorem RunRel.row (h : RunRel q L s w) (hb : Below w.heap.size w w') {b : Nat} {cs : List Value} (hr : RowC2 w' b cs) (hB : w.heap.size ≤ b) : RunRel q ((b, cs) :: L) s w' := by
  obtain ⟨col, ov, h⟩ := h
  have hk := h.keep hb
  refine ⟨_, _, ⟨hk.x.mp, hk.x.cm, hk.x.low, hk.x.bel, hk.x.big, hk.x.le, hk.x.inn, fun p hp => ?_, hk.x.fro⟩, hk.box, hk.regs, hk.lr, hk.lc, hk.mem, hk.out⟩
  rcases List.mem_cons.1 hp with rfl | hp
  · exact ⟨hr, paint_ge hB⟩
  · exact hk.x.rows p hp
theorem RunRel.made (h : RunRel q L s w) (cs : List Value) (t : TypeId) : RunRel q ((w.heap.size, cs) :: L) s (w.alloc (.cells cs.toArray t)) :=
  h.row (bAlloc (Nat.le_refl _) (Below.refl _ _)) (RowC2.made w cs t) (Nat.le_refl _)
theorem RunRel.inn (h : RunRel q L s w) : RdI32 w q.iv q.inp := by
  obtain ⟨col, ov, h⟩ := h
  exact h.x.inn.below h.x.bel h.x.le
theorem boxL_ctr (hl : s.ctr.length = 4) (k : Nat) (hk : k < 4) : (boxL q s ov)[1 + k]? = some (.int .i32 (s.ctr.getD k 0)) := by
  unfold boxL
  rw [Nat.add_comm 1 k, List.getElem?_cons_succ, List.getElem?_append_left (by simp; omega), List.getElem?_map, List.getElem?_eq_getElem (by omega), List.getD_eq_getElem?_getD, List.getElem?_eq_getElem (by omega)]
  rfl
theorem boxL_more (hl : s.ctr.length = 4) (k : Nat) : (boxL q s ov)[5 + k]? = [Value.map (some q.mb), .bool s.lck, .string s.held, q.iv, ov, .int .i64 s.read][k]? := by
  unfold boxL
  rw [show 5 + k = (4 + k) + 1 by omega, List.getElem?_cons_succ, List.getElem?_append_right (by simp; omega), List.length_map, hl, Nat.add_sub_cancel_left]
/-- What is read of the box. -/
theorem RunAt.cells (h : RunAt q L s col w ov) : q.gb < w.heap.size ∧ (w.cell? ⟨q.gb, 0, none⟩ = some q.rv ∧ (∀ k, k < 4 → w.cell? ⟨q.gb, 1 + k, none⟩ = some (.int .i32 (s.ctr.getD k 0)))) ∧ (w.cell? ⟨q.gb, 5, none⟩ = some (.map (some q.mb)) ∧ w.cell? ⟨q.gb, 6, none⟩ = some (.bool s.lck) ∧ w.cell? ⟨q.gb, 7, none⟩ = some (.string s.held)) ∧ w.cell? ⟨q.gb, 8, none⟩ = some q.iv ∧ w.cell? ⟨q.gb, 9, none⟩ = some ov ∧ w.cell? ⟨q.gb, 10, none⟩ = some (.int .i64 s.read) ∧ ∀ k, w.frozen? ⟨q.gb, k, none⟩ = false :=
  ⟨h.box.lt, ⟨h.box.row.at 0 rfl, fun k hk => h.box.row.at _ (boxL_ctr h.lc k hk)⟩, ⟨h.box.row.at 5 (boxL_more h.lc 0), h.box.row.at 6 (boxL_more h.lc 1), h.box.row.at 7 (boxL_more h.lc 2)⟩, h.box.row.at 8 (boxL_more h.lc 3), h.box.row.at 9 (boxL_more h.lc 4), h.box.row.at 10 (boxL_more h.lc 5), h.box.fz⟩
/-- A store into the box that gives the box of another state. -/
theorem RunAt.putBox (h : RunAt q L s col w ov) (k : Nat) (v : Value) {t : RS} (hv : (boxL q s ov).set k v = boxL q t ov) (hr : t.regs = s.regs) (hc : t.ctr.length = 4) (hm : t.mem = s.mem) (ho : t.out = s.out) : RunAt q L t (paint col w.heap.size 1) (w.setCell ⟨q.gb, k, none⟩ v) ov := by
  have ht : Touch col 1 w (w.setCell ⟨q.gb, k, none⟩ v) := Touch.setCell (a := ⟨q.gb, k, none⟩) h.box.cb v
  refine ⟨h.x.touch ht (by decide) (by decide), hv ▸ h.box.set k v, ?_, by rw [hr]; exact h.lr, hc, fun j hj => ?_, ?_⟩
  · rw [hr]; exact h.regs.other ht (by decide)
  · rw [hm]; exact (h.mem j hj).other ht (by omega)
  · rw [ho]; exact h.out.other ht (by decide)
theorem own_put {c : Nat} {g cap n j : Nat} {xs : List Value} {e : TypeId} (h : OwnC e 1 col c w (.slice (some ⟨g, 0, none⟩) n cap) n xs) (hj : j < n) (u : Value) : OwnC e 1 (paint col w.heap.size c) c (w.setCell ⟨g, j, none⟩ u) (.slice (some ⟨g, 0, none⟩) n cap) n (xs.set j u) := by
  refine ⟨own_setCell h.1 hj u, fun k hk => ?_⟩
  rw [paint_lt (own0_lt h.1 hk)]
  exact h.2 k hk
/-- A register. -/
theorem RunAt.reg (h : RunAt q L s col w ov) {k : Nat} (hk : k < q.R) : ∃ g cap, q.rv = .slice (some ⟨g, 0, none⟩) q.R cap ∧ g < w.heap.size ∧ w.cell? ⟨g, k, none⟩ = some (.int .i32 (s.regs.getD k 0)) ∧ w.frozen? ⟨g, k, none⟩ = false ∧ ∀ v : Int, RunAt q L { s with regs := s.regs.set k v } (paint col w.heap.size 3) (w.setCell ⟨g, k, none⟩ (.int .i32 v)) ov := by
  obtain ⟨g, cap, hv, hg, hc, hcell, hf⟩ := h.regs.cell (j := k) (by omega)
  refine ⟨g, cap, hv, hg, ?_, hf, fun v => ?_⟩
  · rw [hcell, List.getElem?_map, List.getElem?_eq_getElem (by rw [h.lr]; exact hk), List.getD_eq_getElem?_getD, List.getElem?_eq_getElem (by rw [h.lr]; exact hk)]
    rfl
  · have ht : Touch col 3 w (w.setCell ⟨g, k, none⟩ (.int .i32 v)) := Touch.setCell (a := ⟨g, k, none⟩) hc _
    refine ⟨h.x.touch ht (by decide) (by decide), h.box.other ht (by decide), ?_, by simpa using h.lr, h.lc, fun j hj => (h.mem j hj).other ht (by omega), h.out.other ht (by decide)⟩
    have ho := h.regs
    rw [hv] at ho ⊢
    have h2 := own_put ho hk (.int .i32 v)
    rw [← List.map_set] at h2
    exact h2
/-- A cell of an array. -/
theorem RunAt.arr (h : RunAt q L s col w ov) {a k : Nat} (ha : a < q.nm) (hk : k < (s.mem a).length) : ∃ g cap, q.V a = .slice (some ⟨g, 0, none⟩) (s.mem a).length cap ∧ g < w.heap.size ∧ w.cell? ⟨g, k, none⟩ = some (.int .i32 ((s.mem a).getD k 0)) ∧ w.frozen? ⟨g, k, none⟩ = false ∧ ∀ v : Int, RunAt q L { s with mem := upd s.mem a ((s.mem a).set k v) } (paint col w.heap.size (10 + a)) (w.setCell ⟨g, k, none⟩ (.int .i32 v)) ov := by
  obtain ⟨g, cap, hv, hg, hc, hcell, hf⟩ := (h.mem a ha).cell (j := k) (by omega)
  refine ⟨g, cap, hv, hg, ?_, hf, fun v => ?_⟩
  · rw [hcell, List.getElem?_map, List.getElem?_eq_getElem hk, List.getD_eq_getElem?_getD, List.getElem?_eq_getElem hk]
    rfl
  · have ht : Touch col (10 + a) w (w.setCell ⟨g, k, none⟩ (.int .i32 v)) := Touch.setCell (a := ⟨g, k, none⟩) hc _
    refine ⟨h.x.touch ht (by omega) (by omega), h.box.other ht (by omega), h.regs.other ht (by omega), h.lr, h.lc, fun j hj => ?_, h.out.other ht (by omega)⟩
    by_cases e : j = a
    · subst e
      have ho := h.mem j hj
      show OwnC _ _ _ _ _ _ (upd s.mem j _ j).length ((upd s.mem j _ j).map _)
      rw [upd_same, List.length_set]
      rw [hv] at ho ⊢
      have h2 := own_put ho hk (.int .i32 v)
      rw [← List.map_set] at h2
      exact h2
    · show OwnC _ _ _ _ _ _ (upd s.mem a _ j).length ((upd s.mem a _ j).map _)
      rw [upd_ne _ _ e]
      exact (h.mem j hj).other ht (by omega)
theorem RunAt.arrShape (h : RunAt q L s col w ov) {a : Nat} (ha : a < q.nm) : ∃ p cap, q.V a = .slice p (s.mem a).length cap := (h.mem a ha).shape
theorem RunAt.regShape (h : RunAt q L s col w ov) : ∃ p cap, q.rv = .slice p q.R cap := h.regs.shape
/-- An output is sent: behind the store of the new slice. -/
theorem RunAt.putOut (h : RunAt q L s col w ov) {W2 : World} {x : Int × Int} (hb : Below w.heap.size w W2) (hg : W2.grownBy w3 ov.ownBlock) (hv : w3.ownsRow 0 43 2 v' (s.out.length + 1) (outV s.out ++ [.int .i64 x.1, .int .i32 x.2])) (hk : v'.ownBlock = ov.ownBlock ∨ ∀ k, v'.ownBlock = some k → W2.heap.size ≤ k) :
    (w3.cell? ⟨q.gb, 9, none⟩ = some ov ∧ w3.frozen? ⟨q.gb, 9, none⟩ = false ∧ q.gb < w3.heap.size) ∧ RunRel q L { s with out := s.out ++ [x] } (w3.setCell ⟨q.gb, 9, none⟩ v') := by
  obtain ⟨hc, ht⟩ := h.out.push hb hg hv hk
  have hx := h.x.touch ht (by decide) (by decide)
  have hbx := h.box.other ht (by decide)
  have h2 : Touch (paint col w.heap.size 5) 1 w3 (w3.setCell ⟨q.gb, 9, none⟩ v') := Touch.setCell (a := ⟨q.gb, 9, none⟩) hbx.cb v'
  have c9 : (boxL q s ov)[9]? = some ov := boxL_more h.lc 4
  refine ⟨⟨hbx.row.at 9 c9, hbx.fz 9, hbx.lt⟩, _, v', hx.touch h2 (by decide) (by decide), ?_, (h.regs.other ht (by decide)).other h2 (by decide), h.lr, h.lc, fun k hk => ((h.mem k hk).other ht (by omega)).other h2 (by omega), ?_⟩
  · have h3 := hbx.set 9 v'
    have e : (boxL q s ov).set 9 v' = boxL q { s with out := s.out ++ [x] } v' := by
      obtain ⟨regs, ctr, mem, lck, held, out, read⟩ := s
      have hl : ctr.length = 4 := h.lc
      match ctr, hl with
      | [a, b, c, d], _ => rfl
    rw [e] at h3
    exact h3
  · have h3 := hc.other h2 (by decide)
    rw [← outV_push] at h3
    have e : (s.out ++ [x]).length = s.out.length + 1 := by simp
    show OwnC _ _ _ _ _ _ (s.out ++ [x]).length _
    rw [e]
    exact h3
end
end Go.Proofs.YtifjcknklecdbaaDoor
