/- Layer 22: an image variable and its rows, a buffer of bytes, a reader of bytes. No walk here. -/
import Derived.Test.YtepldfnplfhncaaDoorLinD
import Derived.Test.YtepldfnplfhncaaDoorLinA
import Derived.Test.YtepldfnplfhncaaDoorTou
import Derived.Laws.ResultCell
set_option linter.unusedVariables false
set_option linter.unusedSimpArgs false
namespace Go.Proofs.YtepldfnplfhncaaDoor
open Go.RowKit

def entCells (e : LEn) : List Value := [.string e.nm, .int .i64 e.st, .int .i64 e.fin, .int .i64 e.dat]
def entsV (E : List LEn) : List Value := E.flatMap entCells
def wordsV (C : List Int) : List Value := C.map (Value.int .u32)
def u8s (l : List Nat) : List Value := l.map fun (c : Nat) => Value.int .u8 (c : Int)
theorem entsV_len (E : List LEn) : (entsV E).length = E.length * 4 := by
  induction E with
  | nil => rfl
  | cons a E ih =>
    show (entCells a ++ entsV E).length = _
    rw [List.length_append, List.length_cons, ih]
    show 4 + E.length * 4 = _
    omega
theorem entsV_at : ∀ (E : List LEn) (k j : Nat), k < E.length → j < 4 → (entsV E)[k * 4 + j]? = (entCells (E.getD k default))[j]?
  | a :: E, 0, j, _, hj => by
    show (entCells a ++ entsV E)[0 * 4 + j]? = _
    rw [List.getElem?_append_left (by show 0 * 4 + j < 4; omega), Nat.zero_mul, Nat.zero_add]
    rfl
  | a :: E, k + 1, j, hk, hj => by
    show (entCells a ++ entsV E)[(k + 1) * 4 + j]? = _
    rw [List.getElem?_append_right (by show 4 ≤ _; omega), show (k + 1) * 4 + j - (entCells a).length = k * 4 + j by show (k + 1) * 4 + j - 4 = _; omega, entsV_at E k j (by simpa using hk) hj]
    rfl
theorem entsV_push (E : List LEn) (e : LEn) : entsV (E ++ [e]) = entsV E ++ entCells e := by simp [entsV]
theorem wordsV_push (C : List Int) (x : Int) : wordsV (C ++ [x]) = wordsV C ++ [.int .u32 x] := by simp [wordsV]
theorem u8s_push (l : List Nat) (c : Nat) : u8s (l ++ [c]) = u8s l ++ [.int .u8 (c : Int)] := by simp [u8s]
theorem u8s_len (l : List Nat) : (u8s l).length = l.length := by simp [u8s]
theorem infoW : (Tryd.prog.info? 73).map (fun i => (i.zero, i.size, i.bytes)) = some (some (.int .u32 0), 1, 4) := by kernel_rfl
theorem infoE : (Tryd.prog.info? 61).map (fun i => (i.zero, i.size, i.bytes)) = some (some (.agg #[.string .empty, .int .i64 0, .int .i64 0, .int .i64 0]), 4, 40) := by kernel_rfl
theorem infoU8 : (Tryd.prog.info? 5).map (fun i => (i.zero, i.size, i.bytes)) = some (some (.int .u8 0), 1, 1) := by kernel_rfl

/-- An image variable in block gi (color 1), its entries (color 2) and its code (color 3) in rows of their own; from block B on. -/
structure ImV (B gi : Nat) (C : List Int) (E : List LEn) (sh lk : Int) (col : Nat → Nat) (w : World) (cv ev : Value) : Prop where
  box : Box4 w gi cv ev sh lk
  fz : ∀ k, w.frozen? ⟨gi, k, none⟩ = false
  lt : gi < w.heap.size
  cg : col gi = 1
  ents : OwnC 61 4 col 2 w ev E.length (entsV E)
  code : OwnC 73 1 col 3 w cv C.length (wordsV C)
  low : ∀ k, k < B → col k = 0
  big : B ≤ w.heap.size
section
variable {B gi : Nat} {C : List Int} {E : List LEn} {sh lk : Int} {col : Nat → Nat} {w w' : World} {cv ev : Value}
theorem Box4.of_block {b : Nat} (h : Box4 w b cv ev sh lk) (hb : w'.heap[b]? = w.heap[b]?) : Box4 w' b cv ev sh lk :=
  ⟨(World.cell?_of_block hb).trans h.c, (World.cell?_of_block hb).trans h.e, (World.cell?_of_block hb).trans h.s, (World.cell?_of_block hb).trans h.l⟩
theorem ImV.ge (h : ImV B gi C E sh lk col w cv ev) : B ≤ gi := Nat.le_of_not_lt fun e => by have := h.low gi e; rw [h.cg] at this; cases this
theorem fz_block {b : Nat} (h : ∀ k, w.frozen? ⟨b, k, none⟩ = false) (hb : w'.heap[b]? = w.heap[b]?) : ∀ k, w'.frozen? ⟨b, k, none⟩ = false := fun k => (World.frozen?_of_block (a := ⟨b, k, none⟩) hb).trans (h k)
/-- Blocks of another color turn. -/
theorem ImV.other (h : ImV B gi C E sh lk col w cv ev) {c : Nat} (ht : Touch col c w w') (h1 : 1 ≠ c) (h2 : 2 ≠ c) (h3 : 3 ≠ c) : ImV B gi C E sh lk (paint col w.heap.size c) w' cv ev := by
  have hg := ht.block gi h.lt (by rw [h.cg]; exact h1)
  exact ⟨h.box.of_block hg, fz_block h.fz hg, Nat.lt_of_lt_of_le h.lt ht.size, by rw [paint_lt h.lt]; exact h.cg, h.ents.other ht h2, h.code.other ht h3, low_paint h.low h.big, Nat.le_trans h.big ht.size⟩
theorem ImV.keep (h : ImV B gi C E sh lk col w cv ev) (hb : Below w.heap.size w w') : ImV B gi C E sh lk (paint col w.heap.size 0) w' cv ev := h.other (Touch.of_below hb) (by decide) (by decide) (by decide)
theorem ImV.setS (h : ImV B gi C E sh lk col w cv ev) (x : Int) : ImV B gi C E x lk col (w.setCell ⟨gi, 2, none⟩ (.int .i64 x)) cv ev ∧ Touch col 1 w (w.setCell ⟨gi, 2, none⟩ (.int .i64 x)) := by
  have ht := Touch.setCell (col := col) (c := 1) (w := w) (a := ⟨gi, 2, none⟩) h.cg (.int .i64 x)
  have he := h.ents.other ht (by decide)
  have hc := h.code.other ht (by decide)
  refine ⟨⟨⟨?_, ?_, World.cell?_setCell_same _ _ _ h.box.s, ?_⟩, fun k => by rw [World.frozen?_setCell]; exact h.fz k, by simpa [World.setCell] using h.lt, h.cg, ⟨he.1, h.ents.2⟩, ⟨hc.1, h.code.2⟩, h.low, by simpa [World.setCell] using h.big⟩, ht⟩
  · exact (World.cell?_setCell_other _ _ _ _ (by simp)).trans h.box.c
  · exact (World.cell?_setCell_other _ _ _ _ (by simp)).trans h.box.e
  · exact (World.cell?_setCell_other _ _ _ _ (by simp)).trans h.box.l
theorem ImV.setL (h : ImV B gi C E sh lk col w cv ev) (x : Int) : ImV B gi C E sh x col (w.setCell ⟨gi, 3, none⟩ (.int .i64 x)) cv ev ∧ Touch col 1 w (w.setCell ⟨gi, 3, none⟩ (.int .i64 x)) := by
  have ht := Touch.setCell (col := col) (c := 1) (w := w) (a := ⟨gi, 3, none⟩) h.cg (.int .i64 x)
  have he := h.ents.other ht (by decide)
  have hc := h.code.other ht (by decide)
  refine ⟨⟨⟨?_, ?_, ?_, World.cell?_setCell_same _ _ _ h.box.l⟩, fun k => by rw [World.frozen?_setCell]; exact h.fz k, by simpa [World.setCell] using h.lt, h.cg, ⟨he.1, h.ents.2⟩, ⟨hc.1, h.code.2⟩, h.low, by simpa [World.setCell] using h.big⟩, ht⟩
  · exact (World.cell?_setCell_other _ _ _ _ (by simp)).trans h.box.c
  · exact (World.cell?_setCell_other _ _ _ _ (by simp)).trans h.box.e
  · exact (World.cell?_setCell_other _ _ _ _ (by simp)).trans h.box.s
/-- The code has grown: the new slice, before it is stored. -/
theorem ImV.growC (h : ImV B gi C E sh lk col w cv ev) {w2 w3 : World} {cv' : Value} {x : Int} (hb : Below w.heap.size w w2) (hg : w2.grownBy w3 cv.ownBlock) (hv : w3.ownsRow 0 73 1 cv' (C.length + 1) (wordsV C ++ [.int .u32 x]))
    (hk : cv'.ownBlock = cv.ownBlock ∨ ∀ k, cv'.ownBlock = some k → w2.heap.size ≤ k) : Box4 w3 gi cv ev sh lk ∧ w3.frozen? ⟨gi, 0, none⟩ = false ∧ gi < w3.heap.size ∧
    ∃ col', ImV B gi (C ++ [x]) E sh lk col' (w3.setCell ⟨gi, 0, none⟩ cv') cv' ev ∧ Touch col 3 w w3 ∧ (∀ k, k < w.heap.size → col' k = col k) ∧ Below B w (w3.setCell ⟨gi, 0, none⟩ cv') := by
  obtain ⟨hc, ht⟩ := h.code.push hb hg hv hk
  have hgl := ht.block gi h.lt (by rw [h.cg]; decide)
  have hlt : gi < w3.heap.size := Nat.lt_of_lt_of_le h.lt ht.size
  have hbx := h.box.of_block hgl
  have hp : paint col w.heap.size 3 gi = 1 := by rw [paint_lt h.lt]; exact h.cg
  have he := h.ents.other ht (by decide)
  have ht2 := Touch.setCell (col := paint col w.heap.size 3) (c := 1) (w := w3) (a := ⟨gi, 0, none⟩) hp cv'
  refine ⟨hbx, fz_block h.fz hgl 0, hlt, paint col w.heap.size 3, ⟨⟨World.cell?_setCell_same _ _ _ hbx.c, ?_, ?_, ?_⟩, fun k => by rw [World.frozen?_setCell]; exact fz_block h.fz hgl k, by simpa [World.setCell] using hlt, hp, ⟨(he.other ht2 (by decide)).1, he.2⟩, ⟨?_, hc.2⟩, low_paint h.low h.big, by have := Nat.le_trans h.big ht.size; simpa [World.setCell] using this⟩, ht, fun k hk => paint_lt hk, ?_⟩
  · exact (World.cell?_setCell_other _ _ _ _ (by simp)).trans hbx.e
  · exact (World.cell?_setCell_other _ _ _ _ (by simp)).trans hbx.s
  · exact (World.cell?_setCell_other _ _ _ _ (by simp)).trans hbx.l
  · have h1 := (hc.other ht2 (by decide)).1
    rw [wordsV_push, List.length_append]; exact h1
  · exact bSet h.ge (ht.below h.big fun k hk e => by rw [h.low k hk] at e; cases e)
/-- The entries have grown. -/
theorem ImV.growE (h : ImV B gi C E sh lk col w cv ev) {w2 w3 : World} {ev' : Value} {x : LEn} (hb : Below w.heap.size w w2) (hg : w2.grownBy w3 ev.ownBlock) (hv : w3.ownsRow 0 61 4 ev' (E.length + 1) (entsV E ++ entCells x))
    (hk : ev'.ownBlock = ev.ownBlock ∨ ∀ k, ev'.ownBlock = some k → w2.heap.size ≤ k) : Box4 w3 gi cv ev sh lk ∧ w3.frozen? ⟨gi, 1, none⟩ = false ∧ gi < w3.heap.size ∧
    ∃ col', ImV B gi C (E ++ [x]) sh lk col' (w3.setCell ⟨gi, 1, none⟩ ev') cv ev' ∧ Touch col 2 w w3 ∧ (∀ k, k < w.heap.size → col' k = col k) ∧ Below B w (w3.setCell ⟨gi, 1, none⟩ ev') := by
  obtain ⟨hc, ht⟩ := h.ents.push hb hg hv hk
  have hgl := ht.block gi h.lt (by rw [h.cg]; decide)
  have hlt : gi < w3.heap.size := Nat.lt_of_lt_of_le h.lt ht.size
  have hbx := h.box.of_block hgl
  have hp : paint col w.heap.size 2 gi = 1 := by rw [paint_lt h.lt]; exact h.cg
  have he := h.code.other ht (by decide)
  have ht2 := Touch.setCell (col := paint col w.heap.size 2) (c := 1) (w := w3) (a := ⟨gi, 1, none⟩) hp ev'
  refine ⟨hbx, fz_block h.fz hgl 1, hlt, paint col w.heap.size 2, ⟨⟨?_, World.cell?_setCell_same _ _ _ hbx.e, ?_, ?_⟩, fun k => by rw [World.frozen?_setCell]; exact fz_block h.fz hgl k, by simpa [World.setCell] using hlt, hp, ⟨?_, hc.2⟩, ⟨(he.other ht2 (by decide)).1, he.2⟩, low_paint h.low h.big, by have := Nat.le_trans h.big ht.size; simpa [World.setCell] using this⟩, ht, fun k hk => paint_lt hk, ?_⟩
  · exact (World.cell?_setCell_other _ _ _ _ (by simp)).trans hbx.c
  · exact (World.cell?_setCell_other _ _ _ _ (by simp)).trans hbx.s
  · exact (World.cell?_setCell_other _ _ _ _ (by simp)).trans hbx.l
  · have h1 := (hc.other ht2 (by decide)).1
    rw [entsV_push, List.length_append]; exact h1
  · exact bSet h.ge (ht.below h.big fun k hk e => by rw [h.low k hk] at e; cases e)
theorem ImV.lim (h : ImV B gi C E sh lk col w cv ev) (hw : ∀ k, k < C.length → 0 ≤ C.getD k 0 ∧ C.getD k 0 < 4294967296) : LImAt w cv ev ⟨C, E, sh, lk⟩ := by
  refine ⟨?_, ?_, hw⟩
  · obtain ⟨p, cap, e⟩ := h.code.shape
    refine ⟨p, cap, e, fun k hk => ?_⟩
    obtain ⟨g, cap', e', hg, _, hc, _⟩ := h.code.cell (j := k) (by have : k < C.length := hk; omega)
    rw [e] at e'
    injection e' with e1 e2 e3
    refine ⟨g, 0, e1, hg, ?_⟩
    rw [Nat.zero_add, hc]
    have hk' : k < C.length := hk
    simp [wordsV, List.getElem?_eq_getElem hk', List.getD_eq_getElem?_getD]
  · obtain ⟨p, cap, e⟩ := h.ents.shape
    refine ⟨p, cap, e, fun k hk => ?_⟩
    have hk' : k < E.length := hk
    have hcell : ∀ j, j < 4 → ∃ g, p = some ⟨g, 0, none⟩ ∧ g < w.heap.size ∧ w.cell? ⟨g, k * 4 + j, none⟩ = (entCells (E.getD k default))[j]? := by
      intro j hj
      obtain ⟨g, cap', e', hg, _, hc, _⟩ := h.ents.cell (j := k * 4 + j) (by omega)
      rw [e] at e'
      injection e' with e1 e2 e3
      exact ⟨g, e1, hg, hc.trans (entsV_at E k j hk' hj)⟩
    obtain ⟨g, rfl, hg, h0⟩ := hcell 0 (by omega)
    have hj : ∀ j, j < 4 → w.cell? ⟨g, 0 + k * 4 + j, none⟩ = (entCells (E.getD k default))[j]? := fun j hj => by
      obtain ⟨g', e, _, h1⟩ := hcell j hj
      injection e with e
      injection e with e
      subst e
      rw [Nat.zero_add]; exact h1
    exact ⟨g, 0, rfl, hg, hj 0 (by omega), hj 1 (by omega), hj 2 (by omega), hj 3 (by omega)⟩
end
/-- The image variable as it is made. -/
theorem ImV.made (w : World) : ∃ col, ImV w.heap.size w.heap.size [] [] 0 0 col (w.alloc (.cells #[.slice none 0 0, .slice none 0 0, .int .i64 0, .int .i64 0] 25)) (.slice none 0 0) (.slice none 0 0) := by
  have hh := heap_alloc_new w (.cells #[.slice none 0 0, .slice none 0 0, .int .i64 0, .int .i64 0] 25)
  refine ⟨fun k => if k < w.heap.size then 0 else 1, ⟨by simp [go_sem], by simp [go_sem], by simp [go_sem], by simp [go_sem]⟩, fun k => ?_, by simp, if_neg (by omega), OwnC.nil _ _ _ _ _, OwnC.nil _ _ _ _ _, fun k hk => if_pos hk, by simp⟩
  unfold World.frozen?; rw [hh]; rfl

/-- An image variable is loaded. -/
theorem load_image (w : World) (b : Nat) (v0 v1 v2 v3 : Value) (h0 : w.cell? ⟨b, 0, none⟩ = some v0) (h1 : w.cell? ⟨b, 1, none⟩ = some v1) (h2 : w.cell? ⟨b, 2, none⟩ = some v2) (h3 : w.cell? ⟨b, 3, none⟩ = some v3) :
    (loadVar 25 ⟨b, 0, none⟩).run Tryd.prog w = .ok (.agg #[v0, v1, v2, v3]) w := by
  have hag : ∀ w : World, (isAgg 25).run Tryd.prog w = .ok true w := fun _ => by kernel_rfl
  have hsz : ∀ w : World, (sizeOf 25).run Tryd.prog w = .ok 4 w := fun _ => by kernel_rfl
  have hl : ∀ j v, [v0, v1, v2, v3][j]? = some v → w.cell? ((⟨b, 0, none⟩ : Addr).add j) = some v := by
    intro j v hj
    match j, hj with
    | 0, hj => obtain rfl : v0 = v := by simpa using hj
               exact h0
    | 1, hj => obtain rfl : v1 = v := by simpa using hj
               exact h1
    | 2, hj => obtain rfl : v2 = v := by simpa using hj
               exact h2
    | 3, hj => obtain rfl : v3 = v := by simpa using hj
               exact h3
    | j + 4, hj => simp at hj
  simp only [loadVar, Sem.run_bind, Sem.run_pure, Result.andThen, hag, hsz, if_true]
  have e := run_loadCells_list (P := Tryd.prog) _ ⟨b, 0, none⟩ [v0, v1, v2, v3] hl
  rw [show ([v0, v1, v2, v3] : List Value).length = 4 from rfl] at e
  simp [e, Result.andThen, Sem.run_pure]
theorem run_result_im2 {fn : Func} {p u : Tmp} (hr : fn.results = #[.cell p 25, .tmp u]) (tmps : Array Value) (w : World) (b : Nat) (v0 v1 v2 v3 r : Value)
    (hp : tmps.getD p undef = .pointer (some ⟨b, 0, none⟩)) (hu : tmps.getD u undef = r) (h0 : w.cell? ⟨b, 0, none⟩ = some v0) (h1 : w.cell? ⟨b, 1, none⟩ = some v1) (h2 : w.cell? ⟨b, 2, none⟩ = some v2) (h3 : w.cell? ⟨b, 3, none⟩ = some v3) :
    (results fn tmps).run Tryd.prog w = .ok (.tuple #[.agg #[v0, v1, v2, v3], r]) w := by
  rw [results_cell_tmp hr, hp, hu]
  simp only [asAddr, Sem.run_pure, Result.andThen, load_image w b v0 v1 v2 v3 h0 h1 h2 h3]
theorem run_result_im3 {fn : Func} {p u t : Tmp} (hr : fn.results = #[.cell p 25, .tmp u, .tmp t]) (tmps : Array Value) (w : World) (b : Nat) (v0 v1 v2 v3 r q : Value)
    (hp : tmps.getD p undef = .pointer (some ⟨b, 0, none⟩)) (hu : tmps.getD u undef = r) (ht : tmps.getD t undef = q) (h0 : w.cell? ⟨b, 0, none⟩ = some v0) (h1 : w.cell? ⟨b, 1, none⟩ = some v1) (h2 : w.cell? ⟨b, 2, none⟩ = some v2) (h3 : w.cell? ⟨b, 3, none⟩ = some v3) :
    (results fn tmps).run Tryd.prog w = .ok (.tuple #[.agg #[v0, v1, v2, v3], r, q]) w := by
  have h := load_image w b v0 v1 v2 v3 h0 h1 h2 h3
  have hp' : tmps[p]?.getD undef = .pointer (some ⟨b, 0, none⟩) := by simpa using hp
  have hu' : tmps[u]?.getD undef = r := by simpa using hu
  have ht' : tmps[t]?.getD undef = q := by simpa using ht
  simp only [results, hr]
  simp [Sem.run_bind, Sem.run_pure, Result.andThen, hp', hu', ht', asAddr, h]

/-- A variable in block g that holds a slice of bytes, a row of its own; from block B on. -/
structure BufAt (B g : Nat) (w : World) (v : Value) (l : List Nat) : Prop where
  row : w.ownsRow B 5 1 v l.length (u8s l)
  box : w.cell? ⟨g, 0, none⟩ = some v
  fz : w.frozen? ⟨g, 0, none⟩ = false
  ne : v.ownBlock ≠ some g
  lt : g < w.heap.size
  ge : B ≤ g
theorem own_ge {w : World} {B : Nat} {e : TypeId} {size : Nat} {v : Value} {n : Nat} {xs : List Value} (h : w.ownsRow B e size v n xs) {k : Nat} (hk : v.ownBlock = some k) : B ≤ k := by
  rcases h.2 with ⟨rfl, _⟩ | ⟨g', cap, cur, rfl, hb, hc, _⟩
  · cases hk
  · cases hk; exact hb
theorem BufAt.keep {B g : Nat} {w w' : World} {v : Value} {l : List Nat} (h : BufAt B g w v l) (hb : Below w.heap.size w w') : BufAt B g w' v l :=
  ⟨own0_block h.row fun k hk => hb.block k (own0_lt h.row hk), (hb.cell h.lt).trans h.box, (World.frozen?_of_block (hb.block g h.lt)).trans h.fz, h.ne, Nat.lt_of_lt_of_le h.lt hb.size, h.ge⟩
/-- The row has grown: the new slice, before and behind its store. -/
theorem BufAt.grow {B g : Nat} {w w2 w3 : World} {v v' : Value} {l t : List Nat} {n : Nat} (h : BufAt B g w v l) (hb : Below w.heap.size w w2) (hg : w2.grownBy w3 v.ownBlock) (hn : n = (l ++ t).length) (hv : w3.ownsRow B 5 1 v' n (u8s l ++ u8s t))
    (hk : v'.ownBlock = v.ownBlock ∨ ∀ k, v'.ownBlock = some k → w2.heap.size ≤ k) : w3.cell? ⟨g, 0, none⟩ = some v ∧ w3.frozen? ⟨g, 0, none⟩ = false ∧ g < w3.heap.size ∧ BufAt B g (w3.setCell ⟨g, 0, none⟩ v') v' (l ++ t) ∧ Below B w (w3.setCell ⟨g, 0, none⟩ v') := by
  subst hn
  have hgl : w3.heap[g]? = w.heap[g]? := (hg.block g (Nat.lt_of_lt_of_le h.lt hb.size) (fun e => h.ne e.symm)).trans (hb.block g h.lt)
  have hlt : g < w3.heap.size := Nat.lt_of_lt_of_le (Nat.lt_of_lt_of_le h.lt hb.size) hg.size
  have hne : v'.ownBlock ≠ some g := by
    rcases hk with e | e
    · rw [e]; exact h.ne
    · intro e2; have := e g e2; have := hb.size; have := h.lt; omega
  have hbox := (World.cell?_of_block (a := ⟨g, 0, none⟩) hgl).trans h.box
  have hfz := (World.frozen?_of_block (a := ⟨g, 0, none⟩) hgl).trans h.fz
  refine ⟨hbox, hfz, hlt, ⟨?_, World.cell?_setCell_same _ _ _ hbox, by rw [World.frozen?_setCell]; exact hfz, hne, by simpa [World.setCell] using hlt, h.ge⟩, ?_⟩
  · have e : u8s (l ++ t) = u8s l ++ u8s t := by simp [u8s]
    rw [e]
    exact own0_block hv fun k hk2 => Below.heap_setCell _ _ _ _ (fun e => hne (by rw [hk2, e]))
  · refine bSet h.ge ((hb.mono (Nat.le_trans h.ge (Nat.le_of_lt h.lt))).trans ⟨hg.os, hg.tape, hg.output, hg.size, fun k hk => ?_⟩)
    refine hg.block k (Nat.lt_of_lt_of_le (Nat.lt_of_lt_of_le hk (Nat.le_trans h.ge (Nat.le_of_lt h.lt))) hb.size) (fun e => ?_)
    have := own_ge h.row e.symm
    omega

/-- A slice of bytes that can be read. -/
def BtAt (w : World) (v : Value) (l : List Nat) : Prop :=
  ∃ p cap, v = .slice p l.length cap ∧ l.length ≤ cap ∧ (l = [] ∨ ∃ m off, p = some ⟨m, off, none⟩ ∧ m < w.heap.size ∧ ∀ k, k < l.length → w.cell? ⟨m, off + k, none⟩ = some (.int .u8 (l.getD k 0 : Nat)))
theorem BtAt.block {w w' : World} {v : Value} {l : List Nat} (h : BtAt w v l) (hs : w.heap.size ≤ w'.heap.size) (hb : ∀ k, v.ownBlock = some k → k < w.heap.size → w'.heap[k]? = w.heap[k]?) : BtAt w' v l := by
  obtain ⟨p, cap, rfl, hc, h⟩ := h
  refine ⟨p, cap, rfl, hc, h.imp id ?_⟩
  rintro ⟨m, off, rfl, hm, hx⟩
  exact ⟨m, off, rfl, by omega, fun k hk => (World.cell?_of_block (a := ⟨m, off + k, none⟩) (hb m rfl hm)).trans (hx k hk)⟩
theorem BtAt.below {B : Nat} {w w' : World} {v : Value} {l : List Nat} (h : BtAt w v l) (hb : Below B w w') (hB : w.heap.size ≤ B) : BtAt w' v l := h.block hb.size fun k _ hk => hb.block k (by omega)
theorem BtAt.of_own {w : World} {B : Nat} {v : Value} {l : List Nat} (h : w.ownsRow B 5 1 v l.length (u8s l)) : BtAt w v l := by
  rcases h.2 with ⟨rfl, hn⟩ | ⟨g, cap, cur, rfl, hg, hh, hnc, hcap, hcs, htk⟩
  · exact ⟨none, 0, by rw [hn], by omega, .inl (List.length_eq_zero_iff.1 hn)⟩
  · refine ⟨some ⟨g, 0, none⟩, cap, rfl, hnc, .inr ⟨g, 0, rfl, ltB hh, fun k hk => ?_⟩⟩
    have h1 : (cur.toList.take (l.length * 1))[k]? = (u8s l)[k]? := by rw [htk]
    rw [Nat.mul_one, List.getElem?_take, if_pos hk] at h1
    simp only [World.cell?, hh, Option.isSome_none, Bool.false_eq_true, if_false, Nat.zero_add]
    rw [← Array.getElem?_toList, h1]
    simp [u8s, List.getElem?_eq_getElem hk, List.getD_eq_getElem?_getD]
theorem BtAt.nil (w : World) : BtAt w (.slice none 0 0) [] := ⟨none, 0, rfl, Nat.le_refl _, .inl rfl⟩
/-- A part of it, as a slice expression leaves it. -/
theorem BtAt.part {w : World} {p : Option Addr} {cap : Nat} {l : List Nat} (h : BtAt w (.slice p l.length cap) l) {a b n c : Nat} (hab : a ≤ b) (hb : b ≤ l.length) (hn : n = b - a) (hc : c = cap - a) : BtAt w (.slice (if cap = a then p else p.map (·.add (a * 1))) n c) ((l.take b).drop a) := by
  subst hn hc
  obtain ⟨p', cap', e, hcap, h⟩ := h
  injection e with e1 e2 e3
  subst e1 e3
  have hl : ((l.take b).drop a).length = b - a := by simp; omega
  refine ⟨_, _, by rw [hl], by rw [hl]; omega, ?_⟩
  by_cases h0 : b = a
  · left; apply List.length_eq_zero_iff.1; omega
  · rcases h with rfl | ⟨m, off, rfl, hm, hx⟩
    · simp at hb; omega
    · right
      refine ⟨m, off + a, ?_, hm, fun k hk => ?_⟩
      · rw [if_neg (by omega)]
        simp [Addr.add]
      · rw [hl] at hk
        rw [Nat.add_assoc, hx (a + k) (by omega)]
        congr 3
        simp only [List.getD_eq_getElem?_getD, List.getElem?_drop, List.getElem?_take]
        rw [if_pos (by omega)]

/-- A reader in block g. -/
structure RdrAt (g : Nat) (w : World) (v : Value) (l : List Nat) (en : Bool) : Prop where
  c0 : w.cell? ⟨g, 0, none⟩ = some v
  c1 : w.cell? ⟨g, 1, none⟩ = some (.bool en)
  fz : ∀ k, w.frozen? ⟨g, k, none⟩ = false
  lt : g < w.heap.size
  rd : BtAt w v l
  ne : v.ownBlock ≠ some g
end Go.Proofs.YtepldfnplfhncaaDoor
