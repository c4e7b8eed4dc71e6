/- What linker.Decode holds in memory; string(bytes); the reader's contracts over it. -/
import Derived.Test.YtepldfnplfhncaaDoorLinR
import Derived.Test.YtepldfnplfhncaaDoorLinK
import Derived.Laws.BytesArg
set_option linter.unusedVariables false
set_option linter.unusedSimpArgs false
namespace Go.Proofs.YtepldfnplfhncaaDoor
open Go.RowKit

theorem manyR_snoc {α : Type} (f : Rd → α × Rd) : ∀ (n : Nat) (r : Rd), manyR f (n + 1) r = ((manyR f n r).1 ++ [(f (manyR f n r).2).1], (f (manyR f n r).2).2)
  | 0, r => rfl
  | n + 1, r => by
    have h := manyR_snoc f n (f r).2
    show ((f r).1 :: (manyR f (n + 1) (f r).2).1, (manyR f (n + 1) (f r).2).2) = _
    rw [h]; rfl
theorem manyR_len {α : Type} (f : Rd → α × Rd) : ∀ (n : Nat) (r : Rd), (manyR f n r).1.length = n
  | 0, r => rfl
  | n + 1, r => by rw [manyR_snoc, List.length_append, manyR_len f n r]; rfl
theorem takeR_sub (k : Nat) (r : Rd) : (∀ c ∈ (takeR k r).2.1, c ∈ r.1) ∧ (takeR k r).2.1.length ≤ r.1.length := by
  unfold takeR
  split
  · exact ⟨fun c h => h, Nat.le_refl _⟩
  · exact ⟨fun c h => List.mem_of_mem_drop h, by rw [List.length_drop]; omega⟩
theorem takeR_mem (k : Nat) (r : Rd) : ∀ c ∈ (takeR k r).1, c ∈ r.1 := by
  unfold takeR
  split
  · intro c h; cases h
  · exact fun c h => List.mem_of_mem_take h
theorem numR_lt (k : Nat) (r : Rd) (hb : ∀ c ∈ r.1, c < 256) : (numR k r).1 < 256 ^ k := by
  have h1 := ofB_lt (takeR k r).1 (fun c hc => hb c (takeR_mem k r c hc))
  have h2 := takeR_len k r.1 r.2
  exact Nat.lt_of_lt_of_le h1 (Nat.pow_le_pow_right (by decide) h2)

/-- string(b) of a slice of bytes. -/
theorem BtAt.text {w : World} {v : Value} {l : List Nat} (h : BtAt w v l) : (convert 31 9 v).run Tryd.prog w = .ok (.string (strN l)) w := by
  obtain ⟨p, cap, rfl, _, h⟩ := h
  have hS : strOfNums (l.map Int.ofNat) = strN l := by
    unfold strOfNums strN
    rw [List.map_map]
    congr 2
  rcases h with h | ⟨m, off, rfl, hm, hx⟩
  · subst h
    cases p with
    | none => exact run_convert_bytes_nil w 31 5 Tryd.underlying31 Tryd.underlying5 0 cap _ Tryd.underlying9
    | some a =>
      rw [run_convert_bytes_string w 31 9 5 _ _ cap Tryd.underlying31 Tryd.underlying5 Tryd.underlying9]
      have hl : (loadCells a ([] : List Nat).length).run Tryd.prog w = .ok (([] : List Int).map (Value.int .u8)).toArray w := run_loadCells_list (P := Tryd.prog) w a [] (fun j v hj => by simp at hj)
      rw [run_bytesToString w a _ cap [] hl]
      rfl
  · have := run_convert_bytes_arg (P := Tryd.prog) w 31 5 Tryd.underlying31 Tryd.underlying5 m off l.length cap (l.map Int.ofNat) (by simp) (fun i hi => by
      rw [hx i hi]
      simp [List.getD_eq_getElem?_getD, List.getElem?_eq_getElem hi]) _ Tryd.underlying9
    rw [hS] at this
    exact this
theorem wpList_conv {w : World} {ops : Array Oper} {rest : List Oper} {o : Oper} {a : Act} {Q : Exit → Act → World → Prop} (hgd : o.guard = none) (s : Operand) (src dst : TypeId) (ho : o.op = .convert src dst s) (v r : Value) (hs : a.eval s = v)
    (hrun : (convert src dst v).run Tryd.prog w = .ok r w) (h : wpList Tryd.prog ops Q rest (a.put o.dst r) w) : wpList Tryd.prog ops Q (o :: rest) a w := by
  refine wpList_plain hgd fun K hK => ?_
  unfold Oper.wp execOp
  simp only [ho, Sem.run_bind, Sem.run_pure, Result.andThen_ok, hs, hrun]
  exact hK _ _ h

/-- What Decode holds: the image variable (colors 1, 2, 3), the reader (color 4), rows of color 5; from block B on. -/
structure DecAt (B : Nat) (W0 : World) (gi g : Nat) (C : List Int) (E : List LEn) (sh lk : Int) (R : List (Nat × List Value)) (r : Rd) (cv ev : Value) (col : Nat → Nat) (w : World) (v : Value) : Prop where
  im : ImV B gi C E sh lk col w cv ev
  rd : RdrAt g w v r.1 r.2
  cg : col g = 4
  vb : ∀ k, v.ownBlock = some k → k < B
  byt : ∀ c ∈ r.1, c < 256
  len : r.1.length ≤ 1000000
  bel : Below B W0 w
  rows : ∀ p ∈ R, RowC w p.1 p.2 ∧ col p.1 = 5 ∧ ∀ k, w.frozen? ⟨p.1, k, none⟩ = false
def DecRel (B : Nat) (W0 : World) (gi g : Nat) (C : List Int) (E : List LEn) (sh lk : Int) (R : List (Nat × List Value)) (r : Rd) (cv ev : Value) (w : World) : Prop := ∃ col v, DecAt B W0 gi g C E sh lk R r cv ev col w v
section
variable {B gi g : Nat} {W0 w w' : World} {C C' : List Int} {E E' : List LEn} {sh lk sh' lk' : Int} {R : List (Nat × List Value)} {r r' : Rd} {cv ev cv' ev' : Value} {col col' : Nat → Nat} {v v' : Value}
theorem DecAt.move (h : DecAt B W0 gi g C E sh lk R r cv ev col w v) (hs : w.heap.size ≤ w'.heap.size) (hg : w'.heap[g]? = w.heap[g]?) (hb : Below B w w') (hr : ∀ p ∈ R, w'.heap[p.1]? = w.heap[p.1]?) (him : ImV B gi C' E' sh' lk' col' w' cv' ev') (hc : ∀ k, k < w.heap.size → col' k = col k) :
    DecAt B W0 gi g C' E' sh' lk' R r cv' ev' col' w' v :=
  ⟨him, h.rd.other hs hg fun k hk _ => hb.block k (h.vb k hk), by rw [hc g h.rd.lt]; exact h.cg, h.vb, h.byt, h.len, h.bel.trans hb, fun p hp => ⟨(h.rows p hp).1.of_block (hr p hp), by rw [hc _ (h.rows p hp).1.lt]; exact (h.rows p hp).2.1, fz_block (h.rows p hp).2.2 (hr p hp)⟩⟩
/-- Blocks of a color that is not 0, 4 or 5 have turned. -/
theorem DecAt.touch (h : DecAt B W0 gi g C E sh lk R r cv ev col w v) {c : Nat} (ht : Touch col c w w') (h0 : c ≠ 0) (h4 : c ≠ 4) (h5 : c ≠ 5) (him : ImV B gi C' E' sh' lk' col' w' cv' ev') (hc : ∀ k, k < w.heap.size → col' k = col k) :
    DecAt B W0 gi g C' E' sh' lk' R r cv' ev' col' w' v :=
  h.move ht.size (ht.block g h.rd.lt (by rw [h.cg]; exact fun e => h4 e.symm)) (ht.below h.im.big fun k hk e => h0 (by rw [← e]; exact h.im.low k hk)) (fun p hp => ht.block _ (h.rows p hp).1.lt (by rw [(h.rows p hp).2.1]; exact fun e => h5 e.symm)) him hc
/-- The reader has turned. -/
theorem DecAt.read (h : DecAt B W0 gi g C E sh lk R r cv ev col w v) (hg : w.grownBy w' (some g)) (hr : RdrAt g w' v' r'.1 r'.2) (ho : v'.ownBlock = v.ownBlock ∨ v'.ownBlock = none) (hs : (∀ c ∈ r'.1, c ∈ r.1) ∧ r'.1.length ≤ r.1.length) :
    DecAt B W0 gi g C E sh lk R r' cv ev (paint col w.heap.size 4) w' v' := by
  have ht : Touch col 4 w w' := Touch.of_grown hg fun k hk => by cases hk; exact h.cg
  refine ⟨h.im.other ht (by decide) (by decide) (by decide), hr, by rw [paint_lt h.rd.lt]; exact h.cg, fun k hk => ?_, fun c hc => h.byt c (hs.1 c hc), Nat.le_trans hs.2 h.len, h.bel.trans (ht.below h.im.big fun k hk e => by rw [h.im.low k hk] at e; cases e), fun p hp => ?_⟩
  · rcases ho with e | e
    · exact h.vb k (by rw [← e]; exact hk)
    · rw [e] at hk; cases hk
  · obtain ⟨h1, h2, h3⟩ := h.rows p hp
    have hb := ht.block _ h1.lt (by rw [h2]; decide)
    exact ⟨h1.of_block hb, by rw [paint_lt h1.lt]; exact h2, fz_block h3 hb⟩
theorem DecAt.setS (h : DecAt B W0 gi g C E sh lk R r cv ev col w v) (x : Int) : DecAt B W0 gi g C E x lk R r cv ev col (w.setCell ⟨gi, 2, none⟩ (.int .i64 x)) v :=
  h.touch (h.im.setS x).2 (by decide) (by decide) (by decide) (h.im.setS x).1 fun _ _ => rfl
theorem DecAt.setL (h : DecAt B W0 gi g C E sh lk R r cv ev col w v) (x : Int) : DecAt B W0 gi g C E sh x R r cv ev col (w.setCell ⟨gi, 3, none⟩ (.int .i64 x)) v :=
  h.touch (h.im.setL x).2 (by decide) (by decide) (by decide) (h.im.setL x).1 fun _ _ => rfl
/-- A row is made. -/
theorem DecAt.row (h : DecAt B W0 gi g C E sh lk [] r cv ev col w v) (cs : List Value) (t : TypeId) : DecAt B W0 gi g C E sh lk [(w.heap.size, cs)] r cv ev (paint col w.heap.size 5) (w.alloc (.cells cs.toArray t)) v := by
  have hb : Below w.heap.size w (w.alloc (.cells cs.toArray t)) := bAlloc (Nat.le_refl _) (Below.refl _ _)
  have ht : Touch col 5 w (w.alloc (.cells cs.toArray t)) := Touch.of_below hb
  have h1 := h.move hb.size (hb.block g h.rd.lt) (hb.mono h.im.big) (fun p hp => by cases hp) (h.im.other ht (by decide) (by decide) (by decide)) fun k hk => paint_lt hk
  refine ⟨h1.im, h1.rd, h1.cg, h1.vb, h1.byt, h1.len, h1.bel, fun p hp => ?_⟩
  rw [List.mem_singleton] at hp
  subst hp
  refine ⟨RowC.made w cs t, paint_ge (Nat.le_refl _), fun k => ?_⟩
  unfold World.frozen?
  rw [heap_alloc_new w]; rfl
theorem RowC.put1 {w : World} {b : Nat} {l : List Value} (h : RowC w b l) (k : Nat) (v : Value) : RowC (w.setCell ⟨b, k, none⟩ v) b (l.set k v) := by
  refine ⟨by simpa [World.setCell] using h.1, fun j u hj => ?_⟩
  rw [List.getElem?_set] at hj
  by_cases e : k = j
  · subst e
    rw [if_pos rfl] at hj
    by_cases hl : k < l.length
    · rw [if_pos hl] at hj
      injection hj with hj
      subst hj
      exact World.cell?_setCell_same _ _ _ (h.2 k l[k] (List.getElem?_eq_getElem hl))
    · rw [if_neg hl] at hj; cases hj
  · rw [if_neg e] at hj
    exact (World.cell?_setCell_other _ _ _ _ (by intro h; injection h with _ h; exact e h)).trans (h.2 j u hj)
/-- A cell of the row is stored to. -/
theorem DecAt.setRow {b : Nat} {cs : List Value} (h : DecAt B W0 gi g C E sh lk [(b, cs)] r cv ev col w v) (j : Nat) (x : Value) : DecAt B W0 gi g C E sh lk [(b, cs.set j x)] r cv ev (paint col w.heap.size 5) (w.setCell ⟨b, j, none⟩ x) v := by
  obtain ⟨h1, h2, h3⟩ := h.rows (b, cs) (List.mem_singleton_self _)
  have ht : Touch col 5 w (w.setCell ⟨b, j, none⟩ x) := Touch.setCell (a := ⟨b, j, none⟩) h2 x
  have h' : DecAt B W0 gi g C E sh lk [] r cv ev col w v := ⟨h.im, h.rd, h.cg, h.vb, h.byt, h.len, h.bel, fun p hp => by cases hp⟩
  have hm := h'.move ht.size (ht.block g h.rd.lt (by rw [h.cg]; decide)) (ht.below h.im.big fun k hk e => by rw [h.im.low k hk] at e; cases e) (fun p hp => by cases hp) (h.im.other ht (by decide) (by decide) (by decide)) fun k hk => paint_lt hk
  refine ⟨hm.im, hm.rd, hm.cg, hm.vb, hm.byt, hm.len, hm.bel, fun p hp => ?_⟩
  rw [List.mem_singleton] at hp
  subst hp
  exact ⟨h1.put1 j x, by rw [paint_lt h1.lt]; exact h2, fun k => by rw [World.frozen?_setCell]; exact h3 k⟩
theorem DecAt.drop (h : DecAt B W0 gi g C E sh lk R r cv ev col w v) : DecAt B W0 gi g C E sh lk [] r cv ev col w v := ⟨h.im, h.rd, h.cg, h.vb, h.byt, h.len, h.bel, fun p hp => by cases hp⟩
end
theorem num_dec {B gi g k : Nat} {W0 w : World} {C : List Int} {E : List LEn} {sh lk : Int} {R : List (Nat × List Value)} {r : Rd} {cv ev : Value} (h : DecRel B W0 gi g C E sh lk R r cv ev w) (hk : k ≤ 4) :
    Calls Tryd.prog 27 #[.pointer (some ⟨g, 0, none⟩), .int .i64 k] w fun e w' => e = .returned (.int .i64 ((numR k r).1 : Nat)) ∧ Hid (DecRel B W0 gi g C E sh lk R (numR k r).2 cv ev w') := by
  obtain ⟨col, v, h⟩ := h
  refine (number_any g k v r.1 r.2 w h.rd hk h.len h.byt).mono ?_
  rintro e w' ⟨v', rfl, hr, hg, hs, ho⟩
  exact ⟨rfl, _, v', h.read hg hr ho (takeR_sub k r)⟩
theorem take_dec {B gi g k : Nat} {W0 w : World} {C : List Int} {E : List LEn} {sh lk : Int} {R : List (Nat × List Value)} {r : Rd} {cv ev : Value} (h : DecRel B W0 gi g C E sh lk R r cv ev w) (hk : k ≤ 1000) :
    Calls Tryd.prog 28 #[.pointer (some ⟨g, 0, none⟩), .int .i64 k] w fun e w' => ∃ u, e = .returned u ∧ Hid (BtAt w' u (takeR k r).1) ∧ Hid (DecRel B W0 gi g C E sh lk R (takeR k r).2 cv ev w') := by
  obtain ⟨col, v, h⟩ := h
  refine (take_any g k v r.1 r.2 w h.rd hk h.len).mono ?_
  rintro e w' ⟨u, v', rfl, hu, hr, hg, hs, ho⟩
  exact ⟨u, rfl, hu, _, v', h.read hg hr ho (takeR_sub k r)⟩
section
variable {B gi g : Nat} {W0 w w' : World} {C : List Int} {E : List LEn} {sh lk : Int} {R : List (Nat × List Value)} {r : Rd} {cv ev : Value}
theorem DecRel.setS (h : DecRel B W0 gi g C E sh lk R r cv ev w) (x : Int) : DecRel B W0 gi g C E x lk R r cv ev (w.setCell ⟨gi, 2, none⟩ (.int .i64 x)) := by
  obtain ⟨col, v, h⟩ := h
  exact ⟨col, v, h.setS x⟩
theorem DecRel.setL (h : DecRel B W0 gi g C E sh lk R r cv ev w) (x : Int) : DecRel B W0 gi g C E sh x R r cv ev (w.setCell ⟨gi, 3, none⟩ (.int .i64 x)) := by
  obtain ⟨col, v, h⟩ := h
  exact ⟨col, v, h.setL x⟩
theorem DecRel.row (h : DecRel B W0 gi g C E sh lk [] r cv ev w) (cs : List Value) (t : TypeId) : DecRel B W0 gi g C E sh lk [(w.heap.size, cs)] r cv ev (w.alloc (.cells cs.toArray t)) := by
  obtain ⟨col, v, h⟩ := h
  exact ⟨_, v, h.row cs t⟩
theorem DecRel.setRow {b : Nat} {cs : List Value} (h : DecRel B W0 gi g C E sh lk [(b, cs)] r cv ev w) (j : Nat) (x : Value) : DecRel B W0 gi g C E sh lk [(b, cs.set j x)] r cv ev (w.setCell ⟨b, j, none⟩ x) := by
  obtain ⟨col, v, h⟩ := h
  exact ⟨_, v, h.setRow j x⟩
theorem DecRel.drop (h : DecRel B W0 gi g C E sh lk R r cv ev w) : DecRel B W0 gi g C E sh lk [] r cv ev w := by
  obtain ⟨col, v, h⟩ := h
  exact ⟨_, v, h.drop⟩
theorem DecRel.bel (h : DecRel B W0 gi g C E sh lk R r cv ev w) : Below B W0 w := by
  obtain ⟨col, v, h⟩ := h
  exact h.bel
theorem DecRel.byt (h : DecRel B W0 gi g C E sh lk R r cv ev w) : ∀ c ∈ r.1, c < 256 := by
  obtain ⟨col, v, h⟩ := h
  exact h.byt
/-- The image variable. -/
theorem DecRel.box (h : DecRel B W0 gi g C E sh lk R r cv ev w) : Box4 w gi cv ev sh lk ∧ gi < w.heap.size ∧ ∀ k, w.frozen? ⟨gi, k, none⟩ = false := by
  obtain ⟨col, v, h⟩ := h
  exact ⟨h.im.box, h.im.lt, h.im.fz⟩
/-- The row. -/
theorem DecRel.at {b : Nat} {cs : List Value} (h : DecRel B W0 gi g C E sh lk [(b, cs)] r cv ev w) : RowC w b cs ∧ ∀ k, w.frozen? ⟨b, k, none⟩ = false := by
  obtain ⟨col, v, h⟩ := h
  obtain ⟨h1, _, h3⟩ := h.rows (b, cs) (List.mem_singleton_self _)
  exact ⟨h1, h3⟩
/-- The entries, as a row of their own. -/
theorem DecRel.ents (h : DecRel B W0 gi g C E sh lk R r cv ev w) (hb : Below w.heap.size w w') : w'.ownsRow 0 61 4 ev E.length (entsV E) := by
  obtain ⟨col, v, h⟩ := h
  exact own0_block h.im.ents.1 fun b hk => hb.block b (own0_lt h.im.ents.1 hk)
theorem DecRel.code (h : DecRel B W0 gi g C E sh lk R r cv ev w) (hb : Below w.heap.size w w') : w'.ownsRow 0 73 1 cv C.length (wordsV C) := by
  obtain ⟨col, v, h⟩ := h
  exact own0_block h.im.code.1 fun b hk => hb.block b (own0_lt h.im.code.1 hk)
theorem DecRel.keep (h : DecRel B W0 gi g C E sh lk [] r cv ev w) (hb : Below w.heap.size w w') : DecRel B W0 gi g C E sh lk [] r cv ev w' := by
  obtain ⟨col, v, h⟩ := h
  exact ⟨_, v, h.move hb.size (hb.block g h.rd.lt) (hb.mono h.im.big) (fun p hp => by cases hp) (h.im.keep hb) fun k hk => paint_lt hk⟩
theorem DecRel.rdr (h : DecRel B W0 gi g C E sh lk R r cv ev w) : ∃ p cap, w.cell? ⟨g, 0, none⟩ = some (.slice p r.1.length cap) ∧ w.cell? ⟨g, 1, none⟩ = some (.bool r.2) ∧ g < w.heap.size := by
  obtain ⟨col, v, h⟩ := h
  obtain ⟨p, cap, e⟩ := h.rd.rd.shape
  exact ⟨p, cap, by rw [h.rd.c0, e], h.rd.c1, h.rd.lt⟩
theorem DecRel.img (h : DecRel B W0 gi g C E sh lk R r cv ev w) : ∃ col, ImV B gi C E sh lk col w cv ev := by
  obtain ⟨col, v, h⟩ := h
  exact ⟨col, h.im⟩
theorem ImV.put0 {col : Nat → Nat} (h : ImV B gi C E sh lk col w cv ev) {b : Nat} (hb : b < B) (j : Nat) (x : Value) : ∃ col', ImV B gi C E sh lk col' (w.setCell ⟨b, j, none⟩ x) cv ev :=
  ⟨_, h.other (Touch.setCell (a := ⟨b, j, none⟩) (h.low b hb) x) (by decide) (by decide) (by decide)⟩
theorem DecRel.growE (h : DecRel B W0 gi g C E sh lk R r cv ev w) {w2 w3 : World} {ev' : Value} {x : LEn} (hb : Below w.heap.size w w2) (hg : w2.grownBy w3 ev.ownBlock) (hv : w3.ownsRow 0 61 4 ev' (E.length + 1) (entsV E ++ entCells x))
    (hk : ev'.ownBlock = ev.ownBlock ∨ ∀ k, ev'.ownBlock = some k → w2.heap.size ≤ k) : Box4 w3 gi cv ev sh lk ∧ w3.frozen? ⟨gi, 1, none⟩ = false ∧ gi < w3.heap.size ∧ DecRel B W0 gi g C (E ++ [x]) sh lk [] r cv ev' (w3.setCell ⟨gi, 1, none⟩ ev') := by
  obtain ⟨col, v, h⟩ := h
  obtain ⟨h1, h2, h3, col', h4, h5, h6, h7⟩ := h.im.growE hb hg hv hk
  refine ⟨h1, h2, h3, col', v, h.drop.move (by rw [size_set]; exact h5.size) ?_ h7 (fun p hp => by cases hp) h4 h6⟩
  refine (Below.heap_setCell _ _ _ _ (fun e => ?_)).trans (h5.block g h.rd.lt (by rw [h.cg]; decide))
  have h8 := h.cg
  have h9 := h.im.cg
  have e' : g = gi := e
  rw [e', h9] at h8; cases h8
theorem DecRel.growC (h : DecRel B W0 gi g C E sh lk R r cv ev w) {w2 w3 : World} {cv' : Value} {x : Int} (hb : Below w.heap.size w w2) (hg : w2.grownBy w3 cv.ownBlock) (hv : w3.ownsRow 0 73 1 cv' (C.length + 1) (wordsV C ++ [.int .u32 x]))
    (hk : cv'.ownBlock = cv.ownBlock ∨ ∀ k, cv'.ownBlock = some k → w2.heap.size ≤ k) : Box4 w3 gi cv ev sh lk ∧ w3.frozen? ⟨gi, 0, none⟩ = false ∧ gi < w3.heap.size ∧ DecRel B W0 gi g (C ++ [x]) E sh lk [] r cv' ev (w3.setCell ⟨gi, 0, none⟩ cv') := by
  obtain ⟨col, v, h⟩ := h
  obtain ⟨h1, h2, h3, col', h4, h5, h6, h7⟩ := h.im.growC hb hg hv hk
  refine ⟨h1, h2, h3, col', v, h.drop.move (by rw [size_set]; exact h5.size) ?_ h7 (fun p hp => by cases hp) h4 h6⟩
  refine (Below.heap_setCell _ _ _ _ (fun e => ?_)).trans (h5.block g h.rd.lt (by rw [h.cg]; decide))
  have h8 := h.cg
  have h9 := h.im.cg
  have e' : g = gi := e
  rw [e', h9] at h8; cases h8
end
end Go.Proofs.YtepldfnplfhncaaDoor
