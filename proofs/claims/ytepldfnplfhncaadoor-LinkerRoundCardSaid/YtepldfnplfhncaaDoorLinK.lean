/- linker.Link at the example of layer 22: what it holds in memory. No walk here. -/
import Derived.Test.YtepldfnplfhncaaDoorLinJ
import Derived.Test.YtepldfnplfhncaaDoorLinH
set_option linter.unusedVariables false
set_option linter.unusedSimpArgs false
namespace Go.Proofs.YtepldfnplfhncaaDoor
open Go.RowKit Go.Maps Go.WideMaps

/-- The symbols of the list. -/
def symV (s : ByteArray × Int × Int) : List Value := [.string s.1, .int .i64 s.2.1, .int .i64 s.2.2]
def symsV (L : List (ByteArray × Int × Int)) : List Value := L.flatMap symV
theorem infoSy : (Tryd.prog.info? 70).map (fun i => (i.zero, i.size, i.bytes)) = some (some (.agg #[.string .empty, .int .i64 0, .int .i64 0]), 3, 32) := by kernel_rfl

/-- What Link holds: its image variable, its list of symbols (color 4), its map of symbols (color 5). -/
structure LkAt (W0 : World) (gi gm : Nat) (C : List Int) (E : List LEn) (sh lk : Int) (L : List (ByteArray × Int × Int)) (n : Nat) (D : DataW Value) (col : Nat → Nat) (w : World) (cv ev lv : Value) : Prop where
  im : ImV W0.heap.size gi C E sh lk col w cv ev
  ls : OwnC 70 3 col 4 w lv L.length (symsV L)
  mp : MapAt w 9 gm n D
  cm : col gm = 5
  bel : Below W0.heap.size W0 w
section
variable {W0 : World} {gi gm : Nat} {C : List Int} {E : List LEn} {sh lk : Int} {L : List (ByteArray × Int × Int)} {n : Nat} {D : DataW Value} {col : Nat → Nat} {w w' : World} {cv ev lv : Value}
theorem MapAt.of_block {k : TypeId} {b : Nat} (h : MapAt w k b n D) (hb : w'.heap[b]? = w.heap[b]?) : MapAt w' k b n D := by
  obtain ⟨es, clock, h1, h2⟩ := h
  exact ⟨es, clock, hb.trans h1, h2⟩
theorem LkAt.tb (h : LkAt W0 gi gm C E sh lk L n D col w cv ev lv) {c : Nat} (hc : c ≠ 0) (ht : Touch col c w w') : Below W0.heap.size W0 w' := h.bel.trans (ht.below h.im.big fun k hk e => hc (by rw [← e]; exact h.im.low k hk))
theorem RowC.of_block {b : Nat} {l : List Value} (h : RowC w b l) (hb : w'.heap[b]? = w.heap[b]?) : RowC w' b l :=
  ⟨ltB (hb.trans (Array.getElem?_eq_getElem h.1)), fun k u hk => (World.cell?_of_block (a := ⟨b, k, none⟩) hb).trans (h.2 k u hk)⟩
/-- Other blocks turn. -/
theorem LkAt.keep (h : LkAt W0 gi gm C E sh lk L n D col w cv ev lv) (hb : Below w.heap.size w w') : LkAt W0 gi gm C E sh lk L n D (paint col w.heap.size 0) w' cv ev lv := by
  have ht : Touch col 0 w w' := Touch.of_below hb
  exact ⟨h.im.keep hb, h.ls.other ht (by decide), h.mp.below hb h.mp.lt, by rw [paint_lt h.mp.lt]; exact h.cm, h.bel.trans (hb.mono h.im.big)⟩
/-- A symbol is appended to the list. -/
theorem LkAt.push (h : LkAt W0 gi gm C E sh lk L n D col w cv ev lv) {w2 w3 : World} {lv' : Value} {s : ByteArray × Int × Int} (hb : Below w.heap.size w w2) (hg : w2.grownBy w3 lv.ownBlock) (hv : w3.ownsRow 0 70 3 lv' (L.length + 1) (symsV L ++ symV s))
    (hk : lv'.ownBlock = lv.ownBlock ∨ ∀ k, lv'.ownBlock = some k → w2.heap.size ≤ k) : LkAt W0 gi gm C E sh lk (L ++ [s]) n D (paint col w.heap.size 4) w3 cv ev lv' := by
  obtain ⟨hc, ht⟩ := h.ls.push hb hg hv hk
  refine ⟨h.im.other ht (by decide) (by decide) (by decide), ?_, h.mp.of_block (ht.block gm h.mp.lt (by rw [h.cm]; decide)), by rw [paint_lt h.mp.lt]; exact h.cm, h.tb (by decide) ht⟩
  have e : symsV (L ++ [s]) = symsV L ++ symV s := by simp [symsV]
  rw [e, List.length_append]; exact hc
/-- The map has turned. -/
theorem LkAt.map (h : LkAt W0 gi gm C E sh lk L n D col w cv ev lv) {n' : Nat} {D' : DataW Value} (hm : MapAt w' 9 gm n' D') (hg : w.grownBy w' (some gm)) : LkAt W0 gi gm C E sh lk L n' D' (paint col w.heap.size 5) w' cv ev lv := by
  have ht : Touch col 5 w w' := Touch.of_grown hg fun k hk => by cases hk; exact h.cm
  exact ⟨h.im.other ht (by decide) (by decide) (by decide), h.ls.other ht (by decide), hm, by rw [paint_lt h.mp.lt]; exact h.cm, h.tb (by decide) ht⟩
theorem LkAt.setS (h : LkAt W0 gi gm C E sh lk L n D col w cv ev lv) (x : Int) : LkAt W0 gi gm C E x lk L n D col (w.setCell ⟨gi, 2, none⟩ (.int .i64 x)) cv ev lv := by
  obtain ⟨h1, ht⟩ := h.im.setS x
  exact ⟨h1, ⟨(h.ls.other ht (by decide)).1, h.ls.2⟩, h.mp.of_block (ht.block gm h.mp.lt (by rw [h.cm]; decide)), h.cm, h.tb (by decide) ht⟩
theorem LkAt.setL (h : LkAt W0 gi gm C E sh lk L n D col w cv ev lv) (x : Int) : LkAt W0 gi gm C E sh x L n D col (w.setCell ⟨gi, 3, none⟩ (.int .i64 x)) cv ev lv := by
  obtain ⟨h1, ht⟩ := h.im.setL x
  exact ⟨h1, ⟨(h.ls.other ht (by decide)).1, h.ls.2⟩, h.mp.of_block (ht.block gm h.mp.lt (by rw [h.cm]; decide)), h.cm, h.tb (by decide) ht⟩
/-- A cell of a block that the structures have nothing to do with is stored to. -/
theorem LkAt.put (h : LkAt W0 gi gm C E sh lk L n D col w cv ev lv) {a : Addr} (h0 : col a.block = 0) (hB : W0.heap.size ≤ a.block) (v : Value) : LkAt W0 gi gm C E sh lk L n D col (w.setCell a v) cv ev lv := by
  have ht := Touch.setCell (col := col) (c := 0) (w := w) (a := a) h0 v
  have hi := h.im.other ht (by decide) (by decide) (by decide)
  refine ⟨⟨hi.box, hi.fz, hi.lt, h.im.cg, ⟨hi.ents.1, h.im.ents.2⟩, ⟨hi.code.1, h.im.code.2⟩, h.im.low, hi.big⟩, ⟨(h.ls.other ht (by decide)).1, h.ls.2⟩, h.mp.of_block (ht.block gm h.mp.lt (by rw [h.cm]; decide)), h.cm, bSet hB h.bel⟩
theorem LkAt.growC (h : LkAt W0 gi gm C E sh lk L n D col w cv ev lv) {w2 w3 : World} {cv' : Value} {x : Int} (hb : Below w.heap.size w w2) (hg : w2.grownBy w3 cv.ownBlock) (hv : w3.ownsRow 0 73 1 cv' (C.length + 1) (wordsV C ++ [.int .u32 x]))
    (hk : cv'.ownBlock = cv.ownBlock ∨ ∀ k, cv'.ownBlock = some k → w2.heap.size ≤ k) : Box4 w3 gi cv ev sh lk ∧ w3.frozen? ⟨gi, 0, none⟩ = false ∧ gi < w3.heap.size ∧ ∃ col', LkAt W0 gi gm (C ++ [x]) E sh lk L n D col' (w3.setCell ⟨gi, 0, none⟩ cv') cv' ev lv ∧ (∀ b l, RowC w b l → col b = 0 → RowC (w3.setCell ⟨gi, 0, none⟩ cv') b l ∧ col' b = 0) := by
  obtain ⟨a, b, c, col', h1, ht, he, hB⟩ := h.im.growC hb hg hv hk
  have ht2 := Touch.setCell (col := paint col w.heap.size 3) (c := 1) (w := w3) (a := ⟨gi, 0, none⟩) (by rw [paint_lt h.im.lt]; exact h.im.cg) cv'
  have hl := (h.ls.other ht (by decide)).other ht2 (by decide)
  refine ⟨a, b, c, col', ⟨h1, ⟨hl.1, fun k hk => by rw [he k ?_]; exact h.ls.2 k hk; exact own0_lt h.ls.1 hk⟩, ?_, by rw [he gm h.mp.lt]; exact h.cm, h.bel.trans hB⟩, fun b l hr h0 => ⟨?_, by rw [he b hr.1]; exact h0⟩⟩
  · exact (h.mp.of_block (ht.block gm h.mp.lt (by rw [h.cm]; decide))).of_block (ht2.block gm (Nat.lt_of_lt_of_le h.mp.lt ht.size) (by rw [paint_lt h.mp.lt, h.cm]; decide))
  · exact (hr.of_block (ht.block b hr.1 (by rw [h0]; decide))).of_block (ht2.block b (Nat.lt_of_lt_of_le hr.1 ht.size) (by rw [paint_lt hr.1, h0]; decide))
theorem LkAt.growE (h : LkAt W0 gi gm C E sh lk L n D col w cv ev lv) {w2 w3 : World} {ev' : Value} {x : LEn} (hb : Below w.heap.size w w2) (hg : w2.grownBy w3 ev.ownBlock) (hv : w3.ownsRow 0 61 4 ev' (E.length + 1) (entsV E ++ entCells x))
    (hk : ev'.ownBlock = ev.ownBlock ∨ ∀ k, ev'.ownBlock = some k → w2.heap.size ≤ k) : Box4 w3 gi cv ev sh lk ∧ w3.frozen? ⟨gi, 1, none⟩ = false ∧ gi < w3.heap.size ∧ ∃ col', LkAt W0 gi gm C (E ++ [x]) sh lk L n D col' (w3.setCell ⟨gi, 1, none⟩ ev') cv ev' lv ∧ (∀ b l, RowC w b l → col b = 0 → RowC (w3.setCell ⟨gi, 1, none⟩ ev') b l ∧ col' b = 0) := by
  obtain ⟨a, b, c, col', h1, ht, he, hB⟩ := h.im.growE hb hg hv hk
  have ht2 := Touch.setCell (col := paint col w.heap.size 2) (c := 1) (w := w3) (a := ⟨gi, 1, none⟩) (by rw [paint_lt h.im.lt]; exact h.im.cg) ev'
  have hl := (h.ls.other ht (by decide)).other ht2 (by decide)
  refine ⟨a, b, c, col', ⟨h1, ⟨hl.1, fun k hk => by rw [he k ?_]; exact h.ls.2 k hk; exact own0_lt h.ls.1 hk⟩, ?_, by rw [he gm h.mp.lt]; exact h.cm, h.bel.trans hB⟩, fun b l hr h0 => ⟨?_, by rw [he b hr.1]; exact h0⟩⟩
  · exact (h.mp.of_block (ht.block gm h.mp.lt (by rw [h.cm]; decide))).of_block (ht2.block gm (Nat.lt_of_lt_of_le h.mp.lt ht.size) (by rw [paint_lt h.mp.lt, h.cm]; decide))
  · exact (hr.of_block (ht.block b hr.1 (by rw [h0]; decide))).of_block (ht2.block b (Nat.lt_of_lt_of_le hr.1 ht.size) (by rw [paint_lt hr.1, h0]; decide))
/-- A block that was made behind the structures is as it was, when one of their rows has grown. -/
theorem RowC.past {w2 w3 : World} {b : Nat} {l : List Value} (h : RowC w2 b l) {v : Value} (hg : w2.grownBy w3 v.ownBlock) (hne : v.ownBlock ≠ some b) : RowC w3 b l :=
  ⟨Nat.lt_of_lt_of_le h.1 hg.size, fun k u hk => (World.cell?_of_block (a := ⟨b, k, none⟩) (hg.block b h.1 (fun e => hne e.symm))).trans (h.2 k u hk)⟩
end
/-- As they are made. -/
theorem LkAt.made (W0 : World) : ∃ col, LkAt W0 W0.heap.size (W0.heap.size + 1) [] [] 0 0 [] 0 (.map []) col ((W0.alloc (.cells #[.slice none 0 0, .slice none 0 0, .int .i64 0, .int .i64 0] 25)).alloc (.map #[] 0)) (.slice none 0 0) (.slice none 0 0) (.slice none 0 0) := by
  obtain ⟨col, h⟩ := ImV.made W0
  have hs : (W0.alloc (.cells #[.slice none 0 0, .slice none 0 0, .int .i64 0, .int .i64 0] 25)).heap.size = W0.heap.size + 1 := by simp
  have hb : Below (W0.alloc (.cells #[.slice none 0 0, .slice none 0 0, .int .i64 0, .int .i64 0] 25)).heap.size (W0.alloc (.cells #[.slice none 0 0, .slice none 0 0, .int .i64 0, .int .i64 0] 25)) ((W0.alloc (.cells #[.slice none 0 0, .slice none 0 0, .int .i64 0, .int .i64 0] 25)).alloc (.map #[] 0)) := bAlloc (Nat.le_refl _) (Below.refl _ _)
  have ht : Touch col 5 (W0.alloc (.cells #[.slice none 0 0, .slice none 0 0, .int .i64 0, .int .i64 0] 25)) ((W0.alloc (.cells #[.slice none 0 0, .slice none 0 0, .int .i64 0, .int .i64 0] 25)).alloc (.map #[] 0)) := Touch.of_below hb
  refine ⟨paint col (W0.heap.size + 1) 5, ?_, OwnC.nil _ _ _ _ _, ?_, paint_ge (Nat.le_refl _), bAlloc (by simp) (bAlloc (Nat.le_refl _) (Below.refl _ _))⟩
  · have h2 := h.other ht (by decide) (by decide) (by decide)
    rw [hs] at h2; exact h2
  · have h2 := World.ownsMap_made (W0.alloc (.cells #[.slice none 0 0, .slice none 0 0, .int .i64 0, .int .i64 0] 25)) Tryd.prog 9 heldElem
    rw [hs] at h2; exact h2
end Go.Proofs.YtepldfnplfhncaaDoor
