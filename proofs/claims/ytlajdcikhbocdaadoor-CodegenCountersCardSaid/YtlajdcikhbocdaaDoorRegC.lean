/- Slices of slices of integers: such that can be read, and such that the call itself makes. No walk here. -/
import Derived.Test.YtlajdcikhbocdaaDoorBase
import Derived.Deep.OwnRows
set_option linter.unusedVariables false
set_option linter.unusedSimpArgs false
namespace Go.Proofs.YtlajdcikhbocdaaDoor
open Go.RowKit

theorem ltB {w : World} {b : Nat} {o : Obj} (h : w.heap[b]? = some o) : b < w.heap.size := (Array.getElem?_eq_some_iff.1 h).1

/-- A slice of integers that can be read. -/
def RdI (w : World) (v : Value) (xs : List Int) : Prop :=
  ∃ p cap, v = .slice p xs.length cap ∧ ∀ k, k < xs.length → ∃ m off, p = some ⟨m, off, none⟩ ∧ m < w.heap.size ∧ w.cell? ⟨m, off + k, none⟩ = some (.int .i64 (xs.getD k 0))
theorem RdI.shape {w : World} {v : Value} {xs : List Int} (h : RdI w v xs) : ∃ p cap, v = .slice p xs.length cap := by
  obtain ⟨p, cap, hp, _⟩ := h
  exact ⟨p, cap, hp⟩
theorem RdI.keep {w w' : World} {v : Value} {xs : List Int} (h : RdI w v xs) (hs : w.heap.size ≤ w'.heap.size) (hb : ∀ k, v.ownBlock = some k → k < w.heap.size → w'.heap[k]? = w.heap[k]?) : RdI w' v xs := by
  obtain ⟨p, cap, rfl, hc⟩ := h
  refine ⟨p, cap, rfl, fun k hk => ?_⟩
  obtain ⟨m, off, rfl, hm, hx⟩ := hc k hk
  exact ⟨m, off, rfl, by omega, (World.cell?_of_block (w := w) (hb m rfl hm)).trans hx⟩
theorem RdI.below {B : Nat} {w w' : World} {v : Value} {xs : List Int} (h : RdI w v xs) (hb : Below B w w') (hB : w.heap.size ≤ B) : RdI w' v xs :=
  h.keep hb.size fun k _ hk => hb.block k (by omega)
theorem RdI.of_own {w : World} {base : Nat} {e : TypeId} {v : Value} {xs : List Int} (h : w.ownsRow base e 1 v xs.length (xs.map (Value.int .i64))) : RdI w v xs := by
  rcases h.2 with ⟨rfl, hn⟩ | ⟨g, cap, cur, rfl, hg, hh, hnc, hcap, hcs, htk⟩
  · exact ⟨none, 0, by rw [hn], fun k hk => by omega⟩
  · refine ⟨some ⟨g, 0, none⟩, cap, rfl, fun k hk => ⟨g, 0, rfl, ltB hh, ?_⟩⟩
    have h1 : (cur.toList.take (xs.length * 1))[k]? = (xs.map (Value.int .i64))[k]? := by rw [htk]
    rw [Nat.mul_one, List.getElem?_take, if_pos hk] at h1
    simp only [World.cell?, hh, Option.isSome_none, Bool.false_eq_true, if_false, Nat.zero_add]
    rw [← Array.getElem?_toList, h1]
    simp [List.getElem?_eq_getElem hk, List.getD_eq_getElem?_getD]

/-- A slice of slices that can be read. -/
def RdR (w : World) (v : Value) (e : List (List Int)) : Prop :=
  ∃ p cap, ∃ V : Nat → Value, v = .slice p e.length cap ∧ ∀ a, a < e.length → (∃ m off, p = some ⟨m, off, none⟩ ∧ m < w.heap.size ∧ w.cell? ⟨m, off + a, none⟩ = some (V a)) ∧ RdI w (V a) (e.getD a [])
theorem RdR.below {B : Nat} {w w' : World} {v : Value} {e : List (List Int)} (h : RdR w v e) (hb : Below B w w') (hB : w.heap.size ≤ B) : RdR w' v e := by
  obtain ⟨p, cap, V, hv, hc⟩ := h
  refine ⟨p, cap, V, hv, fun a ha => ?_⟩
  obtain ⟨⟨m, off, hp, hm, hx⟩, hr⟩ := hc a ha
  exact ⟨⟨m, off, hp, Nat.lt_of_lt_of_le hm hb.size, (hb.cell (p := ⟨m, off + a, none⟩) (Nat.lt_of_lt_of_le hm hB)).trans hx⟩, hr.below hb hB⟩
theorem RdR.row {w : World} {v : Value} {e : List (List Int)} (h : RdR w v e) (a : Nat) (ha : a < e.length) :
    ∃ m off cap q c, v = .slice (some ⟨m, off, none⟩) e.length cap ∧ m < w.heap.size ∧ w.cell? ⟨m, off + a, none⟩ = some (.slice q (e.getD a []).length c) ∧ RdI w (.slice q (e.getD a []).length c) (e.getD a []) := by
  obtain ⟨p, cap, V, rfl, hc⟩ := h
  obtain ⟨⟨m, off, rfl, hm, hx⟩, hr⟩ := hc a ha
  obtain ⟨q, c, hq⟩ := hr.shape
  rw [hq] at hx hr
  exact ⟨m, off, cap, q, c, rfl, hm, hx, hr⟩
theorem RdR.shape {w : World} {v : Value} {e : List (List Int)} (h : RdR w v e) : ∃ p cap, v = .slice p e.length cap := by
  obtain ⟨p, cap, V, hp, _⟩ := h
  exact ⟨p, cap, hp⟩

def upd {α : Type} (f : Nat → α) (a : Nat) (x : α) : Nat → α := fun j => if j = a then x else f j
theorem upd_same {α : Type} (f : Nat → α) (a : Nat) (x : α) : upd f a x a = x := if_pos rfl
theorem upd_ne {α : Type} (f : Nat → α) {a j : Nat} (x : α) (h : j ≠ a) : upd f a x j = f j := if_neg h

/-- Rows that the call has made: block g holds the slices V, each in a block of its own; D: the blocks that they may lie in. -/
structure Rows (D : Nat → Prop) (w : World) (g n : Nat) (V : Nat → Value) (X : Nat → List Int) : Prop where
  out : w.rowIs g 37 n V
  row : ∀ i, i < n → w.ownsRow 0 3 1 (V i) (X i).length ((X i).map (Value.int .i64))
  ne : ∀ i, i < n → (V i).ownBlock ≠ some g
  ap : ∀ i j, i < n → j < n → i ≠ j → ∀ k, (V i).ownBlock = some k → (V j).ownBlock ≠ some k
  dg : D g
  dom : ∀ i, i < n → ∀ k, (V i).ownBlock = some k → D k

theorem own0_lt {w : World} {base : Nat} {e : TypeId} {size : Nat} {v : Value} {n : Nat} {xs : List Value} (h : w.ownsRow base e size v n xs) {k : Nat} (hk : v.ownBlock = some k) : k < w.heap.size := by
  rcases h.2 with ⟨rfl, _⟩ | ⟨g', cap, cur, rfl, hb, hc, _⟩
  · cases hk
  · cases hk
    exact ltB hc
theorem own0_block {w w' : World} {base : Nat} {e : TypeId} {size : Nat} {v : Value} {n : Nat} {xs : List Value} (h : w.ownsRow base e size v n xs) (hb : ∀ k, v.ownBlock = some k → w'.heap[k]? = w.heap[k]?) : w'.ownsRow base e size v n xs := by
  obtain ⟨h1, h2⟩ := h
  refine ⟨h1, ?_⟩
  rcases h2 with h2 | ⟨g, cap, cur, rfl, b, c, d⟩
  · exact .inl h2
  · exact .inr ⟨g, cap, cur, rfl, b, (hb g rfl).trans c, d⟩
theorem own0_base {w : World} {base b : Nat} {e : TypeId} {size : Nat} {v : Value} {n : Nat} {xs : List Value} (h : w.ownsRow base e size v n xs) (hb : ∀ k, v.ownBlock = some k → b ≤ k) : w.ownsRow b e size v n xs := by
  obtain ⟨h1, h2⟩ := h
  refine ⟨h1, ?_⟩
  rcases h2 with h2 | ⟨g, cap, cur, rfl, _, c, d⟩
  · exact .inl h2
  · exact .inr ⟨g, cap, cur, rfl, hb g rfl, c, d⟩

theorem Rows.keep {D : Nat → Prop} {w w' : World} {g n : Nat} {V : Nat → Value} {X : Nat → List Int} (h : Rows D w g n V X) (hb : ∀ k, D k → k < w.heap.size → w'.heap[k]? = w.heap[k]?) : Rows D w' g n V X :=
  ⟨h.out.of_block (hb g h.dg h.out.lt), fun i hi => own0_block (h.row i hi) fun k hk => hb k (h.dom i hi k hk) (own0_lt (h.row i hi) hk), h.ne, h.ap, h.dg, h.dom⟩
theorem Rows.below {D : Nat → Prop} {w w' : World} {g n : Nat} {V : Nat → Value} {X : Nat → List Int} (h : Rows D w g n V X) (hb : Below w.heap.size w w') : Rows D w' g n V X := h.keep fun k _ hk => hb.block k hk
theorem Rows.mono {D E : Nat → Prop} {w : World} {g n : Nat} {V : Nat → Value} {X : Nat → List Int} (h : Rows D w g n V X) (hE : ∀ k, k < w.heap.size → D k → E k) : Rows E w g n V X :=
  ⟨h.out, h.row, h.ne, h.ap, hE g h.out.lt h.dg, fun i hi k hk => hE k (own0_lt (h.row i hi) hk) (h.dom i hi k hk)⟩
theorem Rows.congr {D : Nat → Prop} {w : World} {g n : Nat} {V : Nat → Value} {X Y : Nat → List Int} (h : Rows D w g n V X) (hX : ∀ i, i < n → X i = Y i) : Rows D w g n V Y :=
  ⟨h.out, fun i hi => by rw [← hX i hi]; exact h.row i hi, h.ne, h.ap, h.dg, h.dom⟩

/-- A row is changed (by append, Sort, Compact) and stored. -/
theorem Rows.set {D : Nat → Prop} {w w' : World} {g n : Nat} {V : Nat → Value} {X : Nat → List Int} (h : Rows D w g n V X) {a : Nat} (ha : a < n) (hb : ∀ k, k < w.heap.size → (V a).ownBlock ≠ some k → w'.heap[k]? = w.heap[k]?) (hs : w.heap.size ≤ w'.heap.size)
    {v : Value} {xs : List Int} (hv : w'.ownsRow 0 3 1 v xs.length (xs.map (Value.int .i64))) (hk : v.ownBlock = (V a).ownBlock ∨ ∀ k, v.ownBlock = some k → w.heap.size ≤ k) (hD : ∀ k, w.heap.size ≤ k → D k) :
    Rows D (w'.setCell ⟨g, a, none⟩ v) g n (upd V a v) (upd X a xs) := by
  have hgl := h.out.lt
  have hdom : ∀ k, v.ownBlock = some k → D k := fun k e => by
    rcases hk with h1 | h1
    · rw [h1] at e; exact h.dom a ha k e
    · exact hD k (h1 k e)
  have hvg : v.ownBlock ≠ some g := fun e => by
    rcases hk with h1 | h1
    · rw [h1] at e; exact h.ne a ha e
    · have := h1 g e; omega
  have hO : (w'.setCell ⟨g, a, none⟩ v).rowIs g 37 n (upd V a v) := (h.out.of_block (hb g hgl (h.ne a ha))).set a v
  have hX : ∀ k, k ≠ g → (w'.setCell ⟨g, a, none⟩ v).heap[k]? = w'.heap[k]? := fun k hk => Below.heap_setCell _ _ _ _ hk
  refine ⟨hO, fun i hi => ?_, fun i hi => ?_, fun i j hi hj hij k e => ?_, h.dg, fun i hi k e => ?_⟩
  · by_cases e : i = a
    · subst e
      rw [upd_same, upd_same]
      exact own0_block hv fun k hk2 => hX k (fun e => hvg (e ▸ hk2))
    · rw [upd_ne _ _ e, upd_ne _ _ e]
      refine own0_block (h.row i hi) fun k hk2 => ?_
      rw [hX k (fun e2 => h.ne i hi (e2 ▸ hk2))]
      exact hb k (own0_lt (h.row i hi) hk2) (fun e3 => h.ap i a hi ha e k hk2 e3)
  · by_cases e : i = a
    · subst e; rw [upd_same]; exact hvg
    · rw [upd_ne _ _ e]; exact h.ne i hi
  · by_cases e1 : i = a
    · subst e1
      rw [upd_same] at e
      rw [upd_ne _ _ (fun e => hij e.symm)]
      rcases hk with h1 | h1
      · rw [h1] at e; exact h.ap i j hi hj hij k e
      · intro e2
        have := h1 k e
        have := own0_lt (h.row j hj) e2
        omega
    · rw [upd_ne _ _ e1] at e
      by_cases e2 : j = a
      · subst e2
        rw [upd_same]
        rcases hk with h1 | h1
        · rw [h1]; exact h.ap i j hi hj hij k e
        · intro e3
          have := h1 k e3
          have := own0_lt (h.row i hi) e
          omega
      · rw [upd_ne _ _ e2]
        exact h.ap i j hi hj hij k e
  · by_cases e1 : i = a
    · subst e1; rw [upd_same] at e; exact hdom k e
    · rw [upd_ne _ _ e1] at e; exact h.dom i hi k e

/-- Rows as they are made. -/
theorem Rows.made {D : Nat → Prop} (w : World) (n : Nat) (hD : D w.heap.size) : Rows D (w.alloc (.cells (madeCells #[Value.slice none 0 0] n) 37)) w.heap.size n (fun _ => .slice none 0 0) (fun _ => []) :=
  ⟨World.rowIs_made w _ n _, fun i hi => World.ownsRow_nil _ _ _ _, fun i hi e => (by cases e), fun i j hi hj hij k e => (by cases e), hD, fun i hi k e => (by cases e)⟩

theorem Rows.cell {D : Nat → Prop} {w : World} {g n : Nat} {V : Nat → Value} {X : Nat → List Int} (h : Rows D w g n V X) {a : Nat} (ha : a < n) :
    ∃ q c, V a = .slice q (X a).length c ∧ w.cell? ⟨g, a, none⟩ = some (.slice q (X a).length c) := by
  obtain ⟨q, c, hq⟩ := (RdI.of_own (h.row a ha)).shape
  exact ⟨q, c, hq, by rw [h.out.cell ha, hq]⟩
theorem Rows.rd {D : Nat → Prop} {w : World} {g n : Nat} {V : Nat → Value} {X : Nat → List Int} (h : Rows D w g n V X) (e : List (List Int)) (he : e.length = n) (hX : ∀ i, i < n → X i = e.getD i []) (cap : Nat) : RdR w (.slice (some ⟨g, 0, none⟩) n cap) e := by
  subst he
  refine ⟨_, cap, V, rfl, fun a ha => ⟨⟨g, 0, rfl, h.out.lt, ?_⟩, ?_⟩⟩
  · rw [Nat.zero_add]; exact h.out.cell ha
  · rw [← hX a ha]; exact RdI.of_own (h.row a ha)
end Go.Proofs.YtlajdcikhbocdaaDoor
