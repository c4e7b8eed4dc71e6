/- Functions of the intermediate form in memory; rows that the call has made, of any one-cell type. No walk here. -/
import Derived.Test.YtifjcknklecdbaaDoorMs00
set_option linter.unusedVariables false
set_option linter.unusedSimpArgs false
namespace Go.Proofs.YtifjcknklecdbaaDoor
open Go.RowKit

/-- A slice of instructions that can be read. -/
def InsAt (w : World) (v : Value) (l : List IIns) : Prop :=
  ∃ p cap, v = .slice p l.length cap ∧ ∀ k, k < l.length → ∃ m off, p = some ⟨m, off, none⟩ ∧ m < w.heap.size ∧
    w.cell? ⟨m, off + k * 6, none⟩ = some (.int .u8 (l.getD k default).op) ∧ w.cell? ⟨m, off + k * 6 + 1, none⟩ = some (.int .i64 (l.getD k default).dst) ∧ w.cell? ⟨m, off + k * 6 + 2, none⟩ = some (.int .i64 (l.getD k default).x) ∧
    w.cell? ⟨m, off + k * 6 + 3, none⟩ = some (.int .i64 (l.getD k default).y) ∧ w.cell? ⟨m, off + k * 6 + 4, none⟩ = some (.int .i64 (l.getD k default).imm) ∧ w.cell? ⟨m, off + k * 6 + 5, none⟩ = some (.string (l.getD k default).sym)
/-- A slice of blocks that can be read. -/
def BksAt (w : World) (v : Value) (bs : List IBlk) : Prop :=
  ∃ p cap, v = .slice p bs.length cap ∧ ∀ k, k < bs.length → ∃ m off cp cc, p = some ⟨m, off, none⟩ ∧ m < w.heap.size ∧ InsAt w (.slice cp (bs.getD k default).code.length cc) (bs.getD k default).code ∧
    w.cell? ⟨m, off + k * 5, none⟩ = some (.slice cp (bs.getD k default).code.length cc) ∧ w.cell? ⟨m, off + k * 5 + 1, none⟩ = some (.int .u8 (bs.getD k default).kind) ∧ w.cell? ⟨m, off + k * 5 + 2, none⟩ = some (.int .i64 (bs.getD k default).x) ∧
    w.cell? ⟨m, off + k * 5 + 3, none⟩ = some (.int .i64 (bs.getD k default).tgt) ∧ w.cell? ⟨m, off + k * 5 + 4, none⟩ = some (.int .i64 (bs.getD k default).els)
theorem InsAt.below {B : Nat} {w w' : World} {v : Value} {l : List IIns} (h : InsAt w v l) (hb : Below B w w') (hB : w.heap.size ≤ B) : InsAt w' v l := by
  obtain ⟨p, cap, hv, hc⟩ := h
  refine ⟨p, cap, hv, fun k hk => ?_⟩
  obtain ⟨m, off, hp, hm, h0, h1, h2, h3, h4, h5⟩ := hc k hk
  have hlt := Nat.lt_of_lt_of_le hm hB
  exact ⟨m, off, hp, Nat.lt_of_lt_of_le hm hb.size, (hb.cell (p := ⟨m, off + k * 6, none⟩) hlt).trans h0, (hb.cell (p := ⟨m, off + k * 6 + 1, none⟩) hlt).trans h1, (hb.cell (p := ⟨m, off + k * 6 + 2, none⟩) hlt).trans h2, (hb.cell (p := ⟨m, off + k * 6 + 3, none⟩) hlt).trans h3, (hb.cell (p := ⟨m, off + k * 6 + 4, none⟩) hlt).trans h4, (hb.cell (p := ⟨m, off + k * 6 + 5, none⟩) hlt).trans h5⟩
theorem BksAt.below {B : Nat} {w w' : World} {v : Value} {bs : List IBlk} (h : BksAt w v bs) (hb : Below B w w') (hB : w.heap.size ≤ B) : BksAt w' v bs := by
  obtain ⟨p, cap, hv, hc⟩ := h
  refine ⟨p, cap, hv, fun k hk => ?_⟩
  obtain ⟨m, off, cp, cc, hp, hm, hi, h0, h1, h2, h3, h4⟩ := hc k hk
  have hlt := Nat.lt_of_lt_of_le hm hB
  exact ⟨m, off, cp, cc, hp, Nat.lt_of_lt_of_le hm hb.size, hi.below hb hB, (hb.cell (p := ⟨m, off + k * 5, none⟩) hlt).trans h0, (hb.cell (p := ⟨m, off + k * 5 + 1, none⟩) hlt).trans h1, (hb.cell (p := ⟨m, off + k * 5 + 2, none⟩) hlt).trans h2, (hb.cell (p := ⟨m, off + k * 5 + 3, none⟩) hlt).trans h3, (hb.cell (p := ⟨m, off + k * 5 + 4, none⟩) hlt).trans h4⟩
theorem InsAt.shape {w : World} {v : Value} {l : List IIns} (h : InsAt w v l) : ∃ p cap, v = .slice p l.length cap := by
  obtain ⟨p, cap, hv, _⟩ := h
  exact ⟨p, cap, hv⟩
theorem BksAt.shape {w : World} {v : Value} {bs : List IBlk} (h : BksAt w v bs) : ∃ p cap, v = .slice p bs.length cap := by
  obtain ⟨p, cap, hv, _⟩ := h
  exact ⟨p, cap, hv⟩

/-! Rows that the call has made: v holds the slices V i (type T), each in a block of its own with the cells X i (type E). -/
structure RowsV (T E : TypeId) (D : Nat → Prop) (w : World) (v : Value) (n : Nat) (V : Nat → Value) (X : Nat → List Value) : Prop where
  out : w.ownsRow 0 T 1 v n ((List.range n).map V)
  row : ∀ i, i < n → w.ownsRow 0 E 1 (V i) (X i).length (X i)
  ne : ∀ i, i < n → ∀ k, (V i).ownBlock = some k → v.ownBlock ≠ some k
  ap : ∀ i j, i < n → j < n → i ≠ j → ∀ k, (V i).ownBlock = some k → (V j).ownBlock ≠ some k
  dg : ∀ k, v.ownBlock = some k → D k
  dom : ∀ i, i < n → ∀ k, (V i).ownBlock = some k → D k

section
variable {T E : TypeId} {D : Nat → Prop} {w w' : World} {v : Value} {n : Nat} {V : Nat → Value} {X : Nat → List Value}
theorem RowsV.keep (h : RowsV T E D w v n V X) (hb : ∀ k, D k → k < w.heap.size → w'.heap[k]? = w.heap[k]?) : RowsV T E D w' v n V X :=
  ⟨own0_block h.out fun k hk => hb k (h.dg k hk) (own0_lt h.out hk), fun i hi => own0_block (h.row i hi) fun k hk => hb k (h.dom i hi k hk) (own0_lt (h.row i hi) hk), h.ne, h.ap, h.dg, h.dom⟩
theorem RowsV.below (h : RowsV T E D w v n V X) (hb : Below w.heap.size w w') : RowsV T E D w' v n V X := h.keep fun k _ hk => hb.block k hk
theorem RowsV.mono {G : Nat → Prop} (h : RowsV T E D w v n V X) (hG : ∀ k, k < w.heap.size → D k → G k) : RowsV T E G w v n V X :=
  ⟨h.out, h.row, h.ne, h.ap, fun k hk => hG k (own0_lt h.out hk) (h.dg k hk), fun i hi k hk => hG k (own0_lt (h.row i hi) hk) (h.dom i hi k hk)⟩
theorem RowsV.congr {Y : Nat → List Value} (h : RowsV T E D w v n V X) (hX : ∀ i, i < n → X i = Y i) : RowsV T E D w v n V Y :=
  ⟨h.out, fun i hi => by rw [← hX i hi]; exact h.row i hi, h.ne, h.ap, h.dg, h.dom⟩
theorem RowsV.block (h : RowsV T E D w v n V X) (hn : 0 < n) : ∃ g cap, v = .slice (some ⟨g, 0, none⟩) n cap ∧ g < w.heap.size ∧ D g ∧ n ≤ cap ∧ (∀ i, i < n → w.cell? ⟨g, i, none⟩ = some (V i)) ∧ ∀ i, w.frozen? ⟨g, i, none⟩ = false := by
  rcases h.out.2 with ⟨_, h0⟩ | ⟨g, cap, cur, rfl, _, hh, hnc, _, hcs, htk⟩
  · omega
  · refine ⟨g, cap, rfl, ltB hh, h.dg g rfl, hnc, fun i hi => ?_, fun i => by simp [World.frozen?, hh]⟩
    have h1 : (cur.toList.take (n * 1))[i]? = ((List.range n).map V)[i]? := by rw [htk]
    rw [Nat.mul_one, List.getElem?_take, if_pos hi] at h1
    simp only [World.cell?, hh, Option.isSome_none, Bool.false_eq_true, if_false]
    rw [← Array.getElem?_toList, h1]
    simp [hi]
theorem RowsV.shape (h : RowsV T E D w v n V X) : ∃ p cap, v = .slice p n cap := by
  rcases h.out.2 with ⟨rfl, h0⟩ | ⟨g, cap, cur, rfl, _⟩
  · exact ⟨none, 0, by rw [h0]⟩
  · exact ⟨_, _, rfl⟩
/-- No rows yet. -/
theorem RowsV.none (w : World) : RowsV T E D w (.slice none 0 0) 0 V X :=
  ⟨World.ownsRow_nil _ _ _ _, fun i hi => by omega, fun i hi => by omega, fun i j hi => by omega, fun k hk => (by cases hk), fun i hi => by omega⟩
/-- Rows as make lays them. -/
theorem RowsV.made (w : World) (n : Nat) (hn : n ≤ maxLen) (hD : D w.heap.size) : RowsV T E D (w.alloc (.cells (madeCells #[Value.slice Option.none 0 0] n) T)) (.slice (some ⟨w.heap.size, 0, Option.none⟩) n n) n (fun _ => .slice Option.none 0 0) (fun _ => []) :=
  ⟨⟨by simp, .inr ⟨w.heap.size, n, madeCells #[Value.slice Option.none 0 0] n, rfl, Nat.zero_le _, heap_alloc_new w _, Nat.le_refl _, hn, by rw [size_madeCells]; simp, by
      apply List.ext_getElem?
      intro i
      by_cases hi : i < n
      · rw [List.getElem?_take, if_pos (by omega)]
        simp [madeCells, hi, Nat.mod_one]
      · rw [List.getElem?_eq_none (by simp [madeCells]; omega), List.getElem?_eq_none (by simp; omega)]⟩⟩,
    fun i hi => World.ownsRow_nil _ _ _ _, fun i hi k hk => (by cases hk), fun i j hi hj hij k hk => (by cases hk), fun k hk => (by cases hk; exact hD), fun i hi k hk => (by cases hk)⟩
/-- A store into the outer row. -/
theorem own_setCell {base : Nat} {g cap a : Nat} {vals : List Value} (h : w.ownsRow base T 1 (.slice (some ⟨g, 0, Option.none⟩) n cap) n vals) (ha : a < n) (u : Value) : (w.setCell ⟨g, a, Option.none⟩ u).ownsRow base T 1 (.slice (some ⟨g, 0, Option.none⟩) n cap) n (vals.set a u) := by
  obtain ⟨h1, h2⟩ := h
  refine ⟨by simpa using h1, ?_⟩
  rcases h2 with ⟨e, _⟩ | ⟨g', cap', cur, e, hb, hh, hnc, hcm, hcs, htk⟩
  · cases e
  · injection e with e1 e2 e3
    injection e1 with e1
    injection e1 with e1
    subst e1 e3
    refine .inr ⟨g, cap, cur.setIfInBounds a u, rfl, hb, ?_, hnc, hcm, by simpa using hcs, ?_⟩
    · simp [World.setCell, Array.getElem?_modify, hh]
    · rw [← htk, Array.toList_setIfInBounds, Nat.mul_one, List.take_set]
/-- A row's value and content are changed, and the value stored. -/
theorem RowsV.set (h : RowsV T E D w v n V X) {a : Nat} (ha : a < n) (hb : ∀ k, k < w.heap.size → (V a).ownBlock ≠ some k → w'.heap[k]? = w.heap[k]?) (hs : w.heap.size ≤ w'.heap.size)
    {g cap : Nat} (hv : v = .slice (some ⟨g, 0, Option.none⟩) n cap) {u : Value} {xs : List Value} (hu : w'.ownsRow 0 E 1 u xs.length xs) (hk : u.ownBlock = (V a).ownBlock ∨ ∀ k, u.ownBlock = some k → w.heap.size ≤ k) (hD : ∀ k, w.heap.size ≤ k → D k) :
    RowsV T E D (w'.setCell ⟨g, a, Option.none⟩ u) v n (upd V a u) (upd X a xs) := by
  subst hv
  have hgl : g < w.heap.size := own0_lt h.out rfl
  have hga : (V a).ownBlock ≠ some g := fun e => h.ne a ha g e rfl
  have hdom : ∀ k, u.ownBlock = some k → D k := fun k e => by
    rcases hk with h1 | h1
    · rw [h1] at e; exact h.dom a ha k e
    · exact hD k (h1 k e)
  have hug : u.ownBlock ≠ some g := fun e => by
    rcases hk with h1 | h1
    · rw [h1] at e; exact hga e
    · have := h1 g e; omega
  have hX : ∀ k, k ≠ g → (w'.setCell ⟨g, a, Option.none⟩ u).heap[k]? = w'.heap[k]? := fun k hk => Below.heap_setCell _ _ _ _ hk
  have hO := own_setCell (own0_block h.out (w' := w') fun k hk2 => by cases hk2; exact hb g hgl hga) ha u
  refine ⟨?_, fun i hi => ?_, fun i hi k e => ?_, fun i j hi hj hij k e => ?_, h.dg, fun i hi k e => ?_⟩
  · have e : (List.range n).map (upd V a u) = ((List.range n).map V).set a u := by
      apply List.ext_getElem?
      intro i
      rw [List.getElem?_set]
      by_cases hi : i < n
      · by_cases e : a = i
        · subst e; simp [hi, upd_same]
        · simp [hi, e, upd_ne V u (fun h => e h.symm)]
      · by_cases e : a = i
        · omega
        · simp [hi, e]
    rw [e]; exact hO
  · by_cases e : i = a
    · subst e
      rw [upd_same, upd_same]
      exact own0_block hu fun k hk2 => hX k (fun e => hug (e ▸ hk2))
    · rw [upd_ne _ _ e, upd_ne _ _ e]
      refine own0_block (h.row i hi) fun k hk2 => ?_
      rw [hX k (fun e2 => h.ne i hi k hk2 (by rw [e2]; rfl))]
      exact hb k (own0_lt (h.row i hi) hk2) (fun e3 => h.ap i a hi ha e k hk2 e3)
  · intro e2
    have e2 : g = k := by injection e2
    subst e2
    by_cases e1 : i = a
    · subst e1; rw [upd_same] at e; exact hug e
    · rw [upd_ne _ _ e1] at e; exact h.ne i hi g e rfl
  · by_cases e1 : i = a
    · subst e1
      rw [upd_same] at e
      rw [upd_ne _ _ (fun e => hij e.symm)]
      rcases hk with h1 | h1
      · rw [h1] at e; exact h.ap i j hi hj hij k e
      · intro e2
        have := h1 k e
        have := own0_lt (h.row j hj) e2
        omega
    · rw [upd_ne _ _ e1] at e
      by_cases e2 : j = a
      · subst e2
        rw [upd_same]
        rcases hk with h1 | h1
        · rw [h1]; exact h.ap i j hi hj hij k e
        · intro e3
          have := h1 k e3
          have := own0_lt (h.row i hi) e
          omega
      · rw [upd_ne _ _ e2]
        exact h.ap i j hi hj hij k e
  · by_cases e1 : i = a
    · subst e1; rw [upd_same] at e; exact hdom k e
    · rw [upd_ne _ _ e1] at e; exact h.dom i hi k e
/-- A row's content is changed in place. -/
theorem RowsV.inplace (h : RowsV T E D w v n V X) {a : Nat} (ha : a < n) (hb : ∀ k, k < w.heap.size → (V a).ownBlock ≠ some k → w'.heap[k]? = w.heap[k]?)
    {xs : List Value} (hv : w'.ownsRow 0 E 1 (V a) xs.length xs) : RowsV T E D w' v n V (upd X a xs) := by
  refine ⟨own0_block h.out fun k hk => hb k (own0_lt h.out hk) (fun e => h.ne a ha k e hk), fun i hi => ?_, h.ne, h.ap, h.dg, h.dom⟩
  by_cases e : i = a
  · subst e; rw [upd_same]; exact hv
  · rw [upd_ne _ _ e]
    exact own0_block (h.row i hi) fun k hk => hb k (own0_lt (h.row i hi) hk) (fun e3 => h.ap i a hi ha e k hk e3)
/-- A row is appended. -/
theorem RowsV.push (h : RowsV T E D w v n V X) (hg : w.grownBy w' v.ownBlock) {v' u : Value} {xs : List Value} (hv : w'.ownsRow 0 T 1 v' (n + 1) ((List.range n).map V ++ [u])) (hk : v'.ownBlock = v.ownBlock ∨ ∀ k, v'.ownBlock = some k → w.heap.size ≤ k)
    (hu : w.ownsRow 0 E 1 u xs.length xs) (hun : ∀ k, u.ownBlock = some k → v.ownBlock ≠ some k ∧ (∀ i, i < n → (V i).ownBlock ≠ some k) ∧ D k) (hD : ∀ k, w.heap.size ≤ k → D k) :
    RowsV T E D w' v' (n + 1) (upd V n u) (upd X n xs) := by
  have hold : ∀ (x : Value) (m : Nat) (ys : List Value), w.ownsRow 0 E 1 x m ys → (∀ k, x.ownBlock = some k → v.ownBlock ≠ some k) → w'.ownsRow 0 E 1 x m ys := fun x m ys hx hne =>
    own0_block hx fun k hk2 => hg.block k (own0_lt hx hk2) (fun e => hne k hk2 e.symm)
  have hvn : ∀ (x : Value) (m : Nat) (ys : List Value), w.ownsRow 0 E 1 x m ys → (∀ k, x.ownBlock = some k → v.ownBlock ≠ some k) → ∀ k, x.ownBlock = some k → v'.ownBlock ≠ some k := fun x m ys hx hne k hk2 e => by
    rcases hk with h1 | h1
    · exact hne k hk2 (h1 ▸ e)
    · have := h1 k e
      have := own0_lt hx hk2
      omega
  refine ⟨?_, fun i hi => ?_, fun i hi => ?_, fun i j hi hj hij k e => ?_, fun k e => ?_, fun i hi k e => ?_⟩
  · have e : (List.range (n + 1)).map (upd V n u) = (List.range n).map V ++ [u] := by
      rw [List.range_succ, List.map_append, List.map_cons, List.map_nil, upd_same]
      congr 1
      exact List.map_congr_left fun i hi => upd_ne _ _ (by have := List.mem_range.1 hi; omega)
    rw [e]; exact hv
  · by_cases e : i = n
    · subst e; rw [upd_same, upd_same]; exact hold _ _ _ hu fun k hk2 => (hun k hk2).1
    · rw [upd_ne _ _ e, upd_ne _ _ e]; exact hold _ _ _ (h.row i (by omega)) (h.ne i (by omega))
  · by_cases e : i = n
    · subst e; rw [upd_same]; exact hvn _ _ _ hu fun k hk2 => (hun k hk2).1
    · rw [upd_ne _ _ e]; exact hvn _ _ _ (h.row i (by omega)) (h.ne i (by omega))
  · by_cases e1 : i = n
    · subst e1
      rw [upd_same] at e
      rw [upd_ne _ _ (fun e => hij e.symm)]
      exact (hun k e).2.1 j (by omega)
    · rw [upd_ne _ _ e1] at e
      by_cases e2 : j = n
      · subst e2
        rw [upd_same]
        exact fun e3 => (hun k e3).2.1 i (by omega) e
      · rw [upd_ne _ _ e2]
        exact h.ap i j (by omega) (by omega) hij k e
  · rcases hk with h1 | h1
    · exact h.dg k (h1 ▸ e)
    · exact hD k (h1 k e)
  · by_cases e1 : i = n
    · subst e1; rw [upd_same] at e; exact (hun k e).2.2
    · rw [upd_ne _ _ e1] at e; exact h.dom i (by omega) k e
end

/-- The cells of a set of m words. -/
def setWd (m x : Nat) : List Value := List.replicate m (.int .u64 x)
theorem setW_len (m x : Nat) : (setWd m x).length = m := by simp [setWd]
/-- A set of registers in a block of its own. -/
def SetV (w : World) (m : Nat) (v : Value) (x : Nat) : Prop := w.ownsRow 0 107 1 v m (setWd m x)
theorem SetV.one {w : World} {v : Value} {x : Nat} (h : SetV w 1 v x) : ∃ b cap, v = .slice (some ⟨b, 0, none⟩) 1 cap ∧ b < w.heap.size ∧ w.cell? ⟨b, 0, none⟩ = some (.int .u64 x) ∧ w.frozen? ⟨b, 0, none⟩ = false := by
  rcases h.2 with ⟨_, h0⟩ | ⟨g, cap, cur, rfl, _, hh, hnc, _, hcs, htk⟩
  · omega
  · refine ⟨g, cap, rfl, ltB hh, ?_, by simp [World.frozen?, hh]⟩
    have h1 : (cur.toList.take (1 * 1))[0]? = (setWd 1 x)[0]? := by rw [htk]
    simp only [setWd, List.replicate_one, Nat.mul_one] at h1
    rw [List.getElem?_take, if_pos (by omega)] at h1
    simp only [World.cell?, hh, Option.isSome_none, Bool.false_eq_true, if_false]
    rw [← Array.getElem?_toList, h1]
    rfl
theorem SetV.nil {w : World} {v : Value} {x : Nat} (h : SetV w 0 v x) : ∃ p cap, v = .slice p 0 cap := by
  rcases h.2 with ⟨rfl, _⟩ | ⟨g, cap, cur, rfl, _⟩
  · exact ⟨_, _, rfl⟩
  · exact ⟨_, _, rfl⟩
theorem SetV.any {w : World} {v : Value} {x y : Nat} (h : SetV w 0 v x) : SetV w 0 v y := h
theorem SetV.shape {w : World} {m : Nat} {v : Value} {x : Nat} (h : SetV w m v x) : ∃ p cap, v = .slice p m cap := by
  rcases h.2 with ⟨rfl, h0⟩ | ⟨g, cap, cur, rfl, _⟩
  · exact ⟨none, 0, by rw [h0]⟩
  · exact ⟨_, _, rfl⟩
theorem SetV.put {w w' : World} {b cap x : Nat} (h : SetV w 1 (.slice (some ⟨b, 0, none⟩) 1 cap) x) (hw : w'.heap[b]? = w.heap[b]?) (y : Nat) : SetV (w'.setCell ⟨b, 0, none⟩ (.int .u64 y)) 1 (.slice (some ⟨b, 0, none⟩) 1 cap) y := by
  have h1 := own_setCell (own0_block (w' := w') h fun k hk => by cases hk; exact hw) (a := 0) (by omega) (.int .u64 y)
  simpa [SetV, setWd] using h1
theorem grown_set {w w' : World} {b : Nat} {o : Nat} {u : Value} {k : Option Nat} (hk : k = some b) (hs : w'.heap = w.heap) (ho : w'.os = w.os) (ht : w'.tape = w.tape) (hu : w'.output = w.output) : w.grownBy (w'.setCell ⟨b, o, none⟩ u) k :=
  ⟨ho, ht, hu, by simp [World.setCell, hs], fun q hq hne => by
    rw [Below.heap_setCell _ _ _ _ (fun e => hne (by rw [hk, e])), hs]⟩
end Go.Proofs.YtifjcknklecdbaaDoor
