/- ir.Run while it lays its copies, told by colors: the outcome's box 8, its slices of arrays 6 and of objects 7, the rest as in RunC. No walk here. -/
import Derived.Test.YtifjcknklecdbaaDoorRunC
set_option linter.unusedVariables false
set_option linter.unusedSimpArgs false
namespace Go.Proofs.YtifjcknklecdbaaDoor
open Go.RowKit Go.Maps

theorem ownBaseJ {w : World} {base : Nat} {e : TypeId} {size : Nat} {v : Value} {n : Nat} {xs : List Value} (h : w.ownsRow base e size v n xs) {k : Nat} (hk : v.ownBlock = some k) : base ≤ k := (h.lt k hk).1
theorem own0_of {w : World} {base : Nat} {e : TypeId} {size : Nat} {v : Value} {n : Nat} {xs : List Value} (h : w.ownsRow base e size v n xs) : w.ownsRow 0 e size v n xs := by
  refine ⟨h.1, ?_⟩
  rcases h.2 with h2 | ⟨g, cap, cur, h1, _, h3⟩
  · exact .inl h2
  · exact .inr ⟨g, cap, cur, h1, Nat.zero_le _, h3⟩
section
variable {q : RK} {L : List (Nat × List Value)} {s : RS} {col : Nat → Nat} {w w' w3 : World} {ov : Value}
/-- What is laid anew may have any color that the runner does not hold. -/
theorem RunAt.touch (h : RunAt q L s col w ov) {c : Nat} (ht : Touch col c w w') (h0 : c ≠ 0) (h1 : c ≠ 1) (h2 : c ≠ 2) (h3 : c ≠ 3) (h5 : c ≠ 5) (hm : ∀ k, k < q.nm → 10 + k ≠ c) : RunAt q L s (paint col w.heap.size c) w' ov :=
  ⟨h.x.touch ht h0 h2, h.box.other ht (fun e => h1 e.symm), h.regs.other ht (fun e => h3 e.symm), h.lr, h.lc, fun k hk => (h.mem k hk).other ht (hm k hk), h.out.other ht (fun e => h5 e.symm)⟩
/-- ir.Run's structures: na arrays and no objects are laid. -/
structure LpAt (q : RK) (L : List (Nat × List Value)) (ob na no : Nat) (s : RS) (col : Nat → Nat) (w : World) (ov va vo : Value) : Prop where
  run : RunAt q L s col w ov
  nm : q.nm = na + no
  row : RowC2 w ob [va, vo, .slice none 0 0, .int .i64 0, .int .i64 0, .int .i64 0]
  fz : ∀ k, w.frozen? ⟨ob, k, none⟩ = false
  cb : col ob = 8
  arr : OwnC 27 1 col 6 w va na ((List.range na).map q.V)
  obj : OwnC 27 1 col 7 w vo no ((List.range no).map fun k => q.V (na + k))
def LpRel (q : RK) (L : List (Nat × List Value)) (ob na no : Nat) (s : RS) (w : World) : Prop := ∃ col ov va vo, LpAt q L ob na no s col w ov va vo
variable {ob na no : Nat} {va vo : Value}
theorem LpAt.keep (h : LpAt q L ob na no s col w ov va vo) (hb : Below w.heap.size w w') : LpAt q L ob na no s (paint col w.heap.size 0) w' ov va vo := by
  have ht : Touch col 0 w w' := Touch.of_below hb
  have hbk := hb.block ob h.row.lt
  exact ⟨h.run.keep hb, h.nm, h.row.below hb h.row.lt, fun k => (World.frozen?_of_block (a := ⟨ob, k, none⟩) hbk).trans (h.fz k), by rw [paint_lt h.row.lt]; exact h.cb, h.arr.other ht (by decide), h.obj.other ht (by decide)⟩
theorem LpRel.keep (h : LpRel q L ob na no s w) (hb : Below w.heap.size w w') : LpRel q L ob na no s w' := by
  obtain ⟨col, ov, va, vo, h⟩ := h
  exact ⟨_, _, _, _, h.keep hb⟩
/-- A store into the outcome's box. -/
theorem row_set {l : List Value} {b : Nat} (h : RowC2 w b l) (k : Nat) (v : Value) : RowC2 (w.setCell ⟨b, k, none⟩ v) b (l.set k v) := by
  refine ⟨by simpa [World.setCell] using h.lt, fun j u hu => ?_⟩
  rw [List.getElem?_set] at hu
  by_cases e : k = j
  · subst e
    rw [if_pos rfl] at hu
    split at hu
    · rename_i hlt
      have h1 := h.2 k l[k] (List.getElem?_eq_getElem hlt)
      cases hu
      exact World.cell?_setCell_same _ _ _ h1
    · cases hu
  · rw [if_neg e] at hu
    exact (World.cell?_setCell_other _ _ _ _ (by intro e2; injection e2 with _ e2; exact e (by first | exact e2 | exact e2.symm))).trans (h.2 j u hu)
/-- An array more: its copy v' was made (W1), the slice of arrays has grown (w3): behind the store into the outcome. -/
theorem LpAt.addArr (h : LpAt q L ob na 0 s col w ov va vo) {W1 W2 : World} {v' va' : Value} (hb : Below w.heap.size w W1) (hv : W1.ownsRow w.heap.size 21 1 v' (s.mem na).length ((s.mem na).map (.int .i32))) (hb2 : Below W1.heap.size W1 W2)
    (hg : W2.grownBy w3 va.ownBlock) (ha : w3.ownsRow 0 27 1 va' (na + 1) ((List.range na).map q.V ++ [v'])) (hk : va'.ownBlock = va.ownBlock ∨ ∀ k, va'.ownBlock = some k → W2.heap.size ≤ k) :
    (w3.cell? ⟨ob, 0, none⟩ = some va ∧ w3.frozen? ⟨ob, 0, none⟩ = false ∧ ob < w3.heap.size) ∧ LpRel { q with nm := na + 1, V := upd q.V na v' } L ob (na + 1) 0 s (w3.setCell ⟨ob, 0, none⟩ va') := by
  have hq : q.nm = na := h.nm
  have t1 : Touch col (10 + na) w W1 := Touch.of_below hb
  have r1 := h.run.touch t1 (by omega) (by omega) (by omega) (by omega) (by omega) (fun k hk => by omega)
  have n1 : OwnC 21 1 (paint col w.heap.size (10 + na)) (10 + na) W1 v' (s.mem na).length ((s.mem na).map (.int .i32)) := ⟨own0_of hv, fun k hk => paint_ge (ownBaseJ hv hk)⟩
  have a1 := h.arr.other t1 (by omega)
  have o1 := h.obj.other t1 (by omega)
  have c1 : paint col w.heap.size (10 + na) ob = 8 := by rw [paint_lt h.row.lt]; exact h.cb
  have row1 := h.row.below hb h.row.lt
  have fz1 : ∀ k, W1.frozen? ⟨ob, k, none⟩ = false := fun k => (World.frozen?_of_block (a := ⟨ob, k, none⟩) (hb.block ob h.row.lt)).trans (h.fz k)
  generalize paint col w.heap.size (10 + na) = col1 at r1 n1 a1 o1 c1
  obtain ⟨a2, t2⟩ := a1.push hb2 hg ha hk
  have r2 := r1.touch t2 (by decide) (by decide) (by decide) (by decide) (by decide) (fun k hk => by omega)
  have n2 := n1.other t2 (by omega)
  have o2 := o1.other t2 (by decide)
  have hblk := t2.block ob row1.lt (by rw [c1]; decide)
  have row2 : RowC2 w3 ob [va, vo, .slice none 0 0, .int .i64 0, .int .i64 0, .int .i64 0] := ⟨Nat.lt_of_lt_of_le row1.lt t2.size, fun k v hv => (World.cell?_of_block (a := ⟨ob, k, none⟩) hblk).trans (row1.2 k v hv)⟩
  have fz2 : ∀ k, w3.frozen? ⟨ob, k, none⟩ = false := fun k => (World.frozen?_of_block (a := ⟨ob, k, none⟩) hblk).trans (fz1 k)
  have c2 : paint col1 W1.heap.size 6 ob = 8 := by rw [paint_lt row1.lt]; exact c1
  generalize paint col1 W1.heap.size 6 = col2 at r2 n2 a2 o2 c2
  have t3 : Touch col2 8 w3 (w3.setCell ⟨ob, 0, none⟩ va') := Touch.setCell (a := ⟨ob, 0, none⟩) c2 va'
  have r3 := r2.touch t3 (by decide) (by decide) (by decide) (by decide) (by decide) (fun k hk => by omega)
  refine ⟨⟨row2.at 0 rfl, fz2 0, row2.lt⟩, _, ov, va', vo, ⟨⟨⟨r3.x.mp, r3.x.cm, r3.x.low, r3.x.bel, r3.x.big, r3.x.le, r3.x.inn, r3.x.rows, r3.x.fro⟩, r3.box, r3.regs, r3.lr, r3.lc, fun k hk => ?_, r3.out⟩, rfl, row_set row2 0 va', fun k => by rw [World.frozen?_setCell]; exact fz2 k, by rw [paint_lt row2.lt]; exact c2, ?_, ?_⟩⟩
  · show OwnC _ _ _ _ _ (upd q.V na v' k) _ _
    by_cases e : k = na
    · subst e
      rw [upd_same]
      exact n2.other t3 (by omega)
    · rw [upd_ne _ _ e]
      exact r3.mem k (by rw [hq]; have : k < na + 1 := hk; omega)
  · have h3 := a2.other t3 (by decide)
    have e : (List.range (na + 1)).map (upd q.V na v') = (List.range na).map q.V ++ [v'] := by
      rw [List.range_succ, List.map_append, List.map_cons, List.map_nil, upd_same]
      congr 1
      exact List.map_congr_left fun k hk => upd_ne _ _ (by have := List.mem_range.1 hk; omega)
    show OwnC _ _ _ _ _ _ _ ((List.range (na + 1)).map (upd q.V na v'))
    rw [e]
    exact h3
  · exact o2.other t3 (by decide)
/-- An object more: behind the store into the outcome. -/
theorem LpAt.addObj (h : LpAt q L ob na no s col w ov va vo) {W1 W2 : World} {v' vo' : Value} (hb : Below w.heap.size w W1) (hv : W1.ownsRow w.heap.size 21 1 v' (s.mem (na + no)).length ((s.mem (na + no)).map (.int .i32))) (hb2 : Below W1.heap.size W1 W2)
    (hg : W2.grownBy w3 vo.ownBlock) (ha : w3.ownsRow 0 27 1 vo' (no + 1) ((List.range no).map (fun k => q.V (na + k)) ++ [v'])) (hk : vo'.ownBlock = vo.ownBlock ∨ ∀ k, vo'.ownBlock = some k → W2.heap.size ≤ k) :
    (w3.cell? ⟨ob, 1, none⟩ = some vo ∧ w3.frozen? ⟨ob, 1, none⟩ = false ∧ ob < w3.heap.size) ∧ LpRel { q with nm := na + (no + 1), V := upd q.V (na + no) v' } L ob na (no + 1) s (w3.setCell ⟨ob, 1, none⟩ vo') := by
  have hq : q.nm = na + no := h.nm
  have t1 : Touch col (10 + (na + no)) w W1 := Touch.of_below hb
  have r1 := h.run.touch t1 (by omega) (by omega) (by omega) (by omega) (by omega) (fun k hk => by omega)
  have n1 : OwnC 21 1 (paint col w.heap.size (10 + (na + no))) (10 + (na + no)) W1 v' (s.mem (na + no)).length ((s.mem (na + no)).map (.int .i32)) := ⟨own0_of hv, fun k hk => paint_ge (ownBaseJ hv hk)⟩
  have a1 := h.arr.other t1 (by omega)
  have o1 := h.obj.other t1 (by omega)
  have c1 : paint col w.heap.size (10 + (na + no)) ob = 8 := by rw [paint_lt h.row.lt]; exact h.cb
  have row1 := h.row.below hb h.row.lt
  have fz1 : ∀ k, W1.frozen? ⟨ob, k, none⟩ = false := fun k => (World.frozen?_of_block (a := ⟨ob, k, none⟩) (hb.block ob h.row.lt)).trans (h.fz k)
  generalize paint col w.heap.size (10 + (na + no)) = col1 at r1 n1 a1 o1 c1
  obtain ⟨o2, t2⟩ := o1.push hb2 hg ha hk
  have r2 := r1.touch t2 (by decide) (by decide) (by decide) (by decide) (by decide) (fun k hk => by omega)
  have n2 := n1.other t2 (by omega)
  have a2 := a1.other t2 (by decide)
  have hblk := t2.block ob row1.lt (by rw [c1]; decide)
  have row2 : RowC2 w3 ob [va, vo, .slice none 0 0, .int .i64 0, .int .i64 0, .int .i64 0] := ⟨Nat.lt_of_lt_of_le row1.lt t2.size, fun k v hv => (World.cell?_of_block (a := ⟨ob, k, none⟩) hblk).trans (row1.2 k v hv)⟩
  have fz2 : ∀ k, w3.frozen? ⟨ob, k, none⟩ = false := fun k => (World.frozen?_of_block (a := ⟨ob, k, none⟩) hblk).trans (fz1 k)
  have c2 : paint col1 W1.heap.size 7 ob = 8 := by rw [paint_lt row1.lt]; exact c1
  generalize paint col1 W1.heap.size 7 = col2 at r2 n2 a2 o2 c2
  have t3 : Touch col2 8 w3 (w3.setCell ⟨ob, 1, none⟩ vo') := Touch.setCell (a := ⟨ob, 1, none⟩) c2 vo'
  have r3 := r2.touch t3 (by decide) (by decide) (by decide) (by decide) (by decide) (fun k hk => by omega)
  refine ⟨⟨row2.at 1 rfl, fz2 1, row2.lt⟩, _, ov, va, vo', ⟨⟨⟨r3.x.mp, r3.x.cm, r3.x.low, r3.x.bel, r3.x.big, r3.x.le, r3.x.inn, r3.x.rows, r3.x.fro⟩, r3.box, r3.regs, r3.lr, r3.lc, fun k hk => ?_, r3.out⟩, rfl, row_set row2 1 vo', fun k => by rw [World.frozen?_setCell]; exact fz2 k, by rw [paint_lt row2.lt]; exact c2, ?_, ?_⟩⟩
  · show OwnC _ _ _ _ _ (upd q.V (na + no) v' k) _ _
    by_cases e : k = na + no
    · subst e
      rw [upd_same]
      exact n2.other t3 (by omega)
    · rw [upd_ne _ _ e]
      exact r3.mem k (by rw [hq]; have : k < na + (no + 1) := hk; omega)
  · have h3 := a2.other t3 (by decide)
    have e : (List.range na).map (upd q.V (na + no) v') = (List.range na).map q.V := List.map_congr_left fun k hk => upd_ne _ _ (by have := List.mem_range.1 hk; omega)
    show OwnC _ _ _ _ _ _ _ ((List.range na).map (upd q.V (na + no) v'))
    rw [e]
    exact h3
  · have h3 := o2.other t3 (by decide)
    have e : (List.range (no + 1)).map (fun k => upd q.V (na + no) v' (na + k)) = (List.range no).map (fun k => q.V (na + k)) ++ [v'] := by
      rw [List.range_succ, List.map_append, List.map_cons, List.map_nil, upd_same]
      congr 1
      exact List.map_congr_left fun k hk => upd_ne _ _ (by have := List.mem_range.1 hk; omega)
    show OwnC _ _ _ _ _ _ _ ((List.range (no + 1)).map (fun k => upd q.V (na + no) v' (na + k)))
    rw [e]
    exact h3
/-- The map of names gets a name more. -/
theorem LpAt.addName (h : LpAt q L ob na no s col w ov va vo) {F : ByteArray → Option Value} {n : Nat} (hm : MpAt w3 q.mb n F) (hg : w.grownBy w3 (some q.mb)) : LpRel { q with n := n, F := F } L ob na no s w3 := by
  have t : Touch col 2 w w3 := Touch.of_grown hg (fun k e => by cases e; exact h.run.x.cm)
  have x := h.run.x
  have hblk := t.block ob h.row.lt (by rw [h.cb]; decide)
  have ht0 : ∀ k, k < q.B → col k ≠ 2 := fun k hk e => by rw [x.low k hk] at e; omega
  refine ⟨_, ov, va, vo, ⟨⟨⟨hm, by rw [paint_lt x.mp.lt]; exact x.cm, low_paint x.low x.big, x.bel.trans (t.below x.big ht0), Nat.le_trans x.big t.size, x.le, x.inn, fun p hp => ?_, fun b hb => ?_⟩, h.run.box.other t (by decide), h.run.regs.other t (by decide), h.run.lr, h.run.lc, fun k hk => (h.run.mem k hk).other t (by omega), h.run.out.other t (by decide)⟩, h.nm, ⟨Nat.lt_of_lt_of_le h.row.lt t.size, fun k v hv => (World.cell?_of_block (a := ⟨ob, k, none⟩) hblk).trans (h.row.2 k v hv)⟩, fun k => (World.frozen?_of_block (a := ⟨ob, k, none⟩) hblk).trans (h.fz k), by rw [paint_lt h.row.lt]; exact h.cb, h.arr.other t (by decide), h.obj.other t (by decide)⟩⟩
  · obtain ⟨h1, hc⟩ := x.rows p hp
    have hb := t.block p.1 h1.lt (by rw [hc]; decide)
    exact ⟨⟨Nat.lt_of_lt_of_le h1.lt t.size, fun k v hv => (World.cell?_of_block (a := ⟨p.1, k, none⟩) hb).trans (h1.2 k v hv)⟩, by rw [paint_lt h1.lt]; exact hc⟩
  · obtain ⟨h1, hc, hz⟩ := x.fro b hb
    have hbk := t.block b h1 (by rw [hc]; decide)
    exact ⟨Nat.lt_of_lt_of_le h1 t.size, by rw [paint_lt h1]; exact hc, fun k => (World.frozen?_of_block (a := ⟨b, k, none⟩) hbk).trans (hz k)⟩
end
end Go.Proofs.YtifjcknklecdbaaDoor
