import Derived.Test.YtifjcknklecdbaaDoorMs00
import Derived.Maps.AppendAt
import Derived.Test.YtifjcknklecdbaaDoorLivH
/- Structures in memory whose blocks do not meet, told by a color for each block. No walk here. -/
set_option linter.unusedVariables false
set_option linter.unusedSimpArgs false
namespace Go.Proofs.YtifjcknklecdbaaDoor
open Go.RowKit

/-- Blocks of color c alone have turned. -/
structure Touch (col : Nat → Nat) (c : Nat) (w w' : World) : Prop where
  os : w'.os = w.os
  tape : w'.tape = w.tape
  output : w'.output = w.output
  size : w.heap.size ≤ w'.heap.size
  block : ∀ k, k < w.heap.size → col k ≠ c → w'.heap[k]? = w.heap[k]?
theorem Touch.refl (col : Nat → Nat) (c : Nat) (w : World) : Touch col c w w := ⟨rfl, rfl, rfl, Nat.le_refl _, fun _ _ _ => rfl⟩
theorem Touch.of_grown {col : Nat → Nat} {c : Nat} {w w' : World} {b : Option Nat} (h : w.grownBy w' b) (hb : ∀ k, b = some k → col k = c) : Touch col c w w' :=
  ⟨h.os, h.tape, h.output, h.size, fun k hk hne => h.block k hk (fun e => hne (hb k e.symm))⟩
theorem Touch.of_below {col : Nat → Nat} {c : Nat} {w w' : World} (h : Below w.heap.size w w') : Touch col c w w' := ⟨h.os, h.tape, h.output, h.size, fun k hk _ => h.block k hk⟩
theorem Touch.setCell {col : Nat → Nat} {c : Nat} {w : World} {a : Addr} (ha : col a.block = c) (v : Value) : Touch col c w (w.setCell a v) :=
  ⟨rfl, rfl, rfl, by simp [World.setCell], fun k _ hne => Below.heap_setCell _ _ _ _ (fun e => hne (by rw [e]; exact ha))⟩
theorem Touch.trans {col : Nat → Nat} {c : Nat} {a b d : World} (h : Touch col c a b) (k : Touch col c b d) : Touch col c a d :=
  ⟨k.os.trans h.os, k.tape.trans h.tape, k.output.trans h.output, Nat.le_trans h.size k.size, fun q hq hne => (k.block q (Nat.lt_of_lt_of_le hq h.size) hne).trans (h.block q hq hne)⟩
theorem Touch.below {col : Nat → Nat} {c B : Nat} {w w' : World} (h : Touch col c w w') (hB : B ≤ w.heap.size) (hc : ∀ k, k < B → col k ≠ c) : Below B w w' :=
  ⟨h.os, h.tape, h.output, h.size, fun k hk => h.block k (Nat.lt_of_lt_of_le hk hB) (hc k hk)⟩
/-- Blocks from n on get color c. -/
def paint (col : Nat → Nat) (n c : Nat) : Nat → Nat := fun k => if k < n then col k else c
theorem paint_lt {col : Nat → Nat} {n c k : Nat} (h : k < n) : paint col n c k = col k := if_pos h
theorem paint_ge {col : Nat → Nat} {n c k : Nat} (h : n ≤ k) : paint col n c k = c := if_neg (by omega)

theorem low_paint {B : Nat} {col : Nat → Nat} {n c : Nat} (h : ∀ k, k < B → col k = 0) (hB : B ≤ n) : ∀ k, k < B → paint col n c k = 0 := fun k hk => by rw [paint_lt (by omega)]; exact h k hk

/-- A row of its own, all of color c. -/
def OwnC (e : TypeId) (size : Nat) (col : Nat → Nat) (c : Nat) (w : World) (v : Value) (n : Nat) (xs : List Value) : Prop := w.ownsRow 0 e size v n xs ∧ ∀ k, v.ownBlock = some k → col k = c
section
variable {e : TypeId} {size : Nat} {col : Nat → Nat} {c c' : Nat} {w w' : World} {v : Value} {n : Nat} {xs : List Value}
theorem OwnC.other (h : OwnC e size col c w v n xs) (ht : Touch col c' w w') (hne : c ≠ c') : OwnC e size (paint col w.heap.size c') c w' v n xs :=
  ⟨own0_block h.1 fun k hk => ht.block k (own0_lt h.1 hk) (by rw [h.2 k hk]; exact hne), fun k hk => by rw [paint_lt (own0_lt h.1 hk)]; exact h.2 k hk⟩
theorem OwnC.below (h : OwnC e size col c w v n xs) (hb : Below w.heap.size w w') : OwnC e size col c w' v n xs :=
  ⟨own0_block h.1 fun k hk => hb.block k (own0_lt h.1 hk), h.2⟩
theorem OwnC.nil (e : TypeId) (size : Nat) (col : Nat → Nat) (c : Nat) (w : World) : OwnC e size col c w (.slice none 0 0) 0 [] := ⟨World.ownsRow_nil _ _ _ _, fun k hk => by cases hk⟩
theorem OwnC.mono {col' : Nat → Nat} (h : OwnC e size col c w v n xs) (hc : ∀ k, k < w.heap.size → col k = c → col' k = c) : OwnC e size col' c w v n xs := ⟨h.1, fun k hk => hc k (own0_lt h.1 hk) (h.2 k hk)⟩
theorem OwnC.shape (h : OwnC e size col c w v n xs) : ∃ p cap, v = .slice p n cap := by
  rcases h.1.2 with ⟨rfl, rfl⟩ | ⟨g, cap, cur, rfl, _⟩
  · exact ⟨_, _, rfl⟩
  · exact ⟨_, _, rfl⟩
/-- Appended to, in W2, which came of w by blocks of its own. -/
theorem OwnC.push {W2 w3 : World} {v' : Value} {n' : Nat} {xs' : List Value} (h : OwnC e size col c w v n xs) (hb : Below w.heap.size w W2) (hg : W2.grownBy w3 v.ownBlock) (hv : w3.ownsRow 0 e size v' n' xs')
    (hk : v'.ownBlock = v.ownBlock ∨ ∀ k, v'.ownBlock = some k → W2.heap.size ≤ k) : OwnC e size (paint col w.heap.size c) c w3 v' n' xs' ∧ Touch col c w w3 := by
  refine ⟨⟨hv, fun k e => ?_⟩, (Touch.of_below hb).trans (Touch.of_grown hg h.2)⟩
  rcases hk with h1 | h1
  · rw [h1] at e
    rw [paint_lt (own0_lt h.1 e)]; exact h.2 k e
  · have := h1 k e
    have := hb.size
    exact paint_ge (by omega)
/-- A cell of it. -/
theorem OwnC.cell (h : OwnC e size col c w v n xs) {j : Nat} (hj : j < n * size) : ∃ g cap, v = .slice (some ⟨g, 0, none⟩) n cap ∧ g < w.heap.size ∧ col g = c ∧ w.cell? ⟨g, j, none⟩ = xs[j]? ∧ w.frozen? ⟨g, j, none⟩ = false := by
  rcases h.1.2 with ⟨rfl, rfl⟩ | ⟨g, cap, cur, rfl, _, hh, hnc, _, hcs, htk⟩
  · omega
  · refine ⟨g, cap, rfl, ltB hh, h.2 g rfl, ?_, by simp [World.frozen?, hh]⟩
    rw [← htk, List.getElem?_take, if_pos hj]
    simp only [World.cell?, hh, Option.isSome_none, Bool.false_eq_true, if_false]
    rw [Array.getElem?_toList]
end

/-- Append of one element, whatever its cells. -/
theorem wpList_append_els {w : World} {ops : Array Oper} {rest : List Oper} {o : Oper} {a : Act} {Q : Exit → Act → World → Prop} (hgd : o.guard = none) (s x : Operand) (t e : TypeId) (z : Value) (size bytes : Nat)
    (ho : o.op = .call { callee := .builtin .append, args := #[s, x], argTypes := #[t, t] }) (ht : Tryd.prog.underlying t = some (.slice e)) (hinfo : (Tryd.prog.info? e).map (fun i => (i.zero, i.size, i.bytes)) = some (some z, size, bytes)) (hz1 : z.cells.size = size) (hsz : 0 < size) (hby : bytes ≤ 64)
    (v : Value) (n : Nat) (xs : List Value) (hs : a.eval s = v) (hown : w.ownsRow 0 e size v n xs)
    (g c : Nat) (ys : List Value) (hx : a.eval x = .slice (some ⟨g, 0, none⟩) 1 c) (hyl : ys.length = size) (hy : ∀ j u, ys[j]? = some u → w.cell? ⟨g, j, none⟩ = some u) (hy1 : ∀ u ∈ ys, u.oneCell' = true)
    (h63 : n ≤ 1000000)
    (h : ∀ p c' w', w'.ownsRow 0 e size (.slice p (n + 1) c') (n + 1) (xs ++ ys) → w.grownBy w' v.ownBlock → ((Value.slice p (n + 1) c').ownBlock = v.ownBlock ∨ ∀ k, (Value.slice p (n + 1) c').ownBlock = some k → w.heap.size ≤ k) → wpList Tryd.prog ops Q rest (a.put o.dst (.slice p (n + 1) c')) w') : wpList Tryd.prog ops Q (o :: rest) a w := by
  refine wpList_plain hgd fun K hK => ?_
  obtain ⟨i, hi, hie⟩ := Option.map_eq_some_iff.1 hinfo
  simp only [Prod.mk.injEq] at hie
  obtain ⟨v', w', hrun, h2, h3, _, h5⟩ := run_append_own_at (P := Tryd.prog) w 0 t o.type e i z size bytes ht hi hie.1 hie.2.1 hie.2.2 hz1 hsz v n xs hown ⟨g, 0, none⟩ 1 c ys (by rw [hyl, Nat.one_mul]) (fun j u hj => by
    have e2 : (⟨g, 0, none⟩ : Addr).add j = ⟨g, j, none⟩ := by unfold Addr.add; split <;> simp_all
    rw [e2]; exact hy j u hj) hy1 (by unfold maxLen; omega) (by have : (n + 1) * bytes ≤ 1000001 * 64 := Nat.mul_le_mul (by omega) hby; omega) (Nat.zero_le _)
  have hsl : ∃ p c', v' = .slice p (n + 1) c' := by
    rcases h2.2 with ⟨rfl, hh⟩ | ⟨g, cap, cur, rfl, _⟩
    · omega
    · exact ⟨_, _, rfl⟩
  obtain ⟨p, c', rfl⟩ := hsl
  unfold Oper.wp execOp
  simp only [ho, resolve, invoke, builtin, Sem.run_bind, Sem.run_pure, Result.andThen_ok, List.map_toArray, List.map_cons, List.map_nil, hs, hx, hrun]
  exact hK _ _ (h p c' w' h2 h3 (h5.imp id fun e k hk => by rw [e] at hk; cases hk; exact Nat.le_refl _))
end Go.Proofs.YtifjcknklecdbaaDoor

/- What the solver of liveness holds in memory: structures whose blocks do not meet, told by a color for each block. No walk here. -/
set_option linter.unusedVariables false
set_option linter.unusedSimpArgs false
namespace Go.Proofs.YtifjcknklecdbaaDoor
open Go.RowKit

/-- A slice of sets, all of color c. -/
def SetsAt (col : Nat → Nat) (c : Nat) (w : World) (v : Value) (n m : Nat) (f : Nat → Nat) : Prop := ∃ V, RowsV 88 107 (fun k => col k = c) w v n V (fun i => setWd m (f i))
theorem SetsAt.other {col : Nat → Nat} {c c' : Nat} {w w' : World} {v : Value} {n m : Nat} {f : Nat → Nat} (h : SetsAt col c w v n m f) (ht : Touch col c' w w') (hne : c ≠ c') : SetsAt (paint col w.heap.size c') c w' v n m f := by
  obtain ⟨V, h⟩ := h
  exact ⟨V, (h.mono (G := fun k => paint col w.heap.size c' k = c) (fun k hk e => by rw [paint_lt hk]; exact e)).keep fun k hk hlt => ht.block k hlt (by rw [paint_lt hlt] at hk; rw [hk]; exact hne)⟩
theorem SetsAt.below {col : Nat → Nat} {c : Nat} {w w' : World} {v : Value} {n m : Nat} {f : Nat → Nat} (h : SetsAt col c w v n m f) (hb : Below w.heap.size w w') : SetsAt col c w' v n m f := by
  obtain ⟨V, h⟩ := h
  exact ⟨V, h.below hb⟩
theorem SetsAt.none (col : Nat → Nat) (c : Nat) (w : World) (m : Nat) (f : Nat → Nat) : SetsAt col c w (.slice Option.none 0 0) 0 m f := ⟨fun _ => .slice Option.none 0 0, RowsV.none w⟩
theorem SetsAt.shape {col : Nat → Nat} {c : Nat} {w : World} {v : Value} {n m : Nat} {f : Nat → Nat} (h : SetsAt col c w v n m f) : ∃ p cap, v = .slice p n cap := by
  obtain ⟨V, h⟩ := h
  exact h.shape
theorem SetsAt.congr {col : Nat → Nat} {c : Nat} {w : World} {v : Value} {n m : Nat} {f g : Nat → Nat} (h : SetsAt col c w v n m f) (hg : ∀ i, i < n → f i = g i) : SetsAt col c w v n m g := by
  obtain ⟨V, h⟩ := h
  exact ⟨V, h.congr fun i hi => by rw [hg i hi]⟩
/-- One of the sets: where it lies. -/
theorem SetsAt.get {col : Nat → Nat} {c : Nat} {w : World} {v : Value} {n m : Nat} {f : Nat → Nat} (h : SetsAt col c w v n m f) {i : Nat} (hi : i < n) :
    ∃ g cap p cap', v = .slice (some ⟨g, 0, Option.none⟩) n cap ∧ g < w.heap.size ∧ col g = c ∧ w.cell? ⟨g, i, Option.none⟩ = some (.slice p m cap') ∧ w.frozen? ⟨g, i, Option.none⟩ = false ∧ SetV w m (.slice p m cap') (f i) ∧ (∀ k, (Value.slice p m cap').ownBlock = some k → col k = c ∧ k ≠ g) := by
  obtain ⟨V, h⟩ := h
  obtain ⟨g, cap, rfl, hg, hd, _, hc, hf⟩ := h.block (by omega)
  have hr := h.row i hi
  simp only [setW_len] at hr
  have hs : SetV w m (V i) (f i) := hr
  obtain ⟨p, cap', he⟩ := hs.shape
  have hd2 := h.dom i hi
  have hne := h.ne i hi
  rw [he] at hs hd2 hne
  refine ⟨g, cap, p, cap', rfl, hg, hd, by rw [hc i hi, he], hf i, hs, fun k hk => ⟨hd2 k hk, fun e => hne k hk (by rw [e]; rfl)⟩⟩
/-- One of the sets is changed in place. -/
theorem SetsAt.inplace {col : Nat → Nat} {c : Nat} {w w' : World} {v : Value} {n m : Nat} {f : Nat → Nat} (h : SetsAt col c w v n m f) {i : Nat} (hi : i < n) {g : Nat} {p : Option Addr} {cap' y : Nat} {cap : Nat} (hv : v = .slice (some ⟨g, 0, Option.none⟩) n cap) (hc : w.cell? ⟨g, i, Option.none⟩ = some (.slice p m cap'))
    (hs : SetV w' m (.slice p m cap') y) (hg : w.grownBy w' (Value.slice p m cap').ownBlock) : SetsAt col c w' v n m (upd f i y) ∧ Touch col c w w' := by
  obtain ⟨V, h⟩ := h
  obtain ⟨g', cap2, hv', _, _, _, hc', _⟩ := h.block (by omega)
  rw [hv] at hv'
  injection hv' with e1 e2 e3
  injection e1 with e1
  injection e1 with e1
  subst e1
  have he : V i = .slice p m cap' := by
    have := (hc' i hi).symm.trans hc
    injection this
  have hr := h.inplace hi (w' := w') (xs := setWd m y) (fun k hk hne => hg.block k hk (fun e => hne (by rw [he]; exact e.symm))) (by rw [he, setW_len]; exact hs)
  refine ⟨⟨V, hr.congr fun j hj => ?_⟩, Touch.of_grown hg fun k hk => h.dom i hi k (by rw [he]; exact hk)⟩
  by_cases e : j = i
  · subst e; rw [upd_same, upd_same]
  · rw [upd_ne _ _ e, upd_ne _ _ e]
/-- Color d becomes color c. -/
def repaint (col : Nat → Nat) (d c : Nat) : Nat → Nat := fun k => if col k = d then c else col k
theorem repaint_ne {col : Nat → Nat} {d c c' k : Nat} (h : col k = c') (hne : c' ≠ d) : repaint col d c k = c' := by unfold repaint; rw [if_neg (by rw [h]; exact hne)]; exact h
/-- One of the sets is replaced by a new one. -/
theorem SetsAt.store {col : Nat → Nat} {c : Nat} {w : World} {v : Value} {n m : Nat} {f : Nat → Nat} (h : SetsAt col c w v n m f) {i : Nat} (hi : i < n) {g cap : Nat} (hv : v = .slice (some ⟨g, 0, Option.none⟩) n cap) {u : Value} {y : Nat} (hu : SetV w m u y)
    {d : Nat} (hun : ∀ k, u.ownBlock = some k → col k = d) (hcd : c ≠ d) : SetsAt (repaint col d c) c (w.setCell ⟨g, i, Option.none⟩ u) v n m (upd f i y) ∧ Touch col c w (w.setCell ⟨g, i, Option.none⟩ u) := by
  obtain ⟨V, h⟩ := h
  have hD : ∀ k, col k = c → u.ownBlock ≠ some k := fun k hk e => hcd (by rw [← hk]; exact hun k e)
  have hg : col g = c := h.dg g (by rw [hv]; rfl)
  have hm := h.mono (G := fun k => repaint col d c k = c) (fun k _ hk => repaint_ne hk hcd)
  subst hv
  have hgl : g < w.heap.size := own0_lt h.out rfl
  have hX : ∀ k, k ≠ g → (w.setCell ⟨g, i, Option.none⟩ u).heap[k]? = w.heap[k]? := fun k hk => Below.heap_setCell _ _ _ _ hk
  have hug : u.ownBlock ≠ some g := hD g hg
  refine ⟨⟨upd V i u, ?_, fun j hj => ?_, fun j hj k e => ?_, fun j q hj hq hjq k e => ?_, hm.dg, fun j hj k e => ?_⟩, Touch.setCell hg u⟩
  · have e : (List.range n).map (upd V i u) = ((List.range n).map V).set i u := by
      apply List.ext_getElem?
      intro j
      rw [List.getElem?_set]
      by_cases hj : j < n
      · by_cases e : i = j
        · subst e; simp [hj, upd_same]
        · simp [hj, e, upd_ne V u (fun h => e h.symm)]
      · by_cases e : i = j
        · omega
        · simp [hj, e]
    rw [e]; exact own_setCell h.out hi u
  · by_cases e : j = i
    · subst e
      rw [upd_same]
      simp only [upd_same, setW_len]
      exact own0_block hu fun k hk2 => hX k (fun e => hug (e ▸ hk2))
    · rw [upd_ne _ _ e]
      simp only [upd_ne f y e]
      exact own0_block (h.row j hj) fun k hk2 => hX k (fun e2 => h.ne j hj k hk2 (by rw [e2]; rfl))
  · intro e2
    have e2 : g = k := by injection e2
    subst e2
    by_cases e1 : j = i
    · subst e1; rw [upd_same] at e; exact hug e
    · rw [upd_ne _ _ e1] at e; exact h.ne j hj g e rfl
  · by_cases e1 : j = i
    · subst e1
      rw [upd_same] at e
      rw [upd_ne _ _ (fun e => hjq e.symm)]
      intro e2
      exact hD k (h.dom q hq k e2) e
    · rw [upd_ne _ _ e1] at e
      by_cases e2 : q = i
      · subst e2
        rw [upd_same]
        exact hD k (h.dom j hj k e)
      · rw [upd_ne _ _ e2]
        exact h.ap j q hj hq hjq k e
  · by_cases e1 : j = i
    · subst e1; rw [upd_same] at e; exact if_pos (hun k e)
    · rw [upd_ne _ _ e1] at e
      exact repaint_ne (h.dom j hj k e) hcd

/-- Append of one-cell elements, their type any. -/
theorem wpList_append_cell {w : World} {ops : Array Oper} {rest : List Oper} {o : Oper} {a : Act} {Q : Exit → Act → World → Prop} (hgd : o.guard = none) (s x : Operand) (t e : TypeId) (z : Value) (bytes : Nat)
    (ho : o.op = .call { callee := .builtin .append, args := #[s, x], argTypes := #[t, t] }) (ht : Tryd.prog.underlying t = some (.slice e)) (hinfo : (Tryd.prog.info? e).map (fun i => (i.zero, i.size, i.bytes)) = some (some z, 1, bytes)) (hz1 : z.cells.size = 1) (hby : bytes ≤ 64)
    (base : Nat) (v : Value) (n : Nat) (xs : List Value) (hs : a.eval s = v) (hown : w.ownsRow base e 1 v n xs)
    (g c : Nat) (y : Value) (hx : a.eval x = .slice (some ⟨g, 0, none⟩) 1 c) (hy : w.cell? ⟨g, 0, none⟩ = some y) (hy1 : y.oneCell' = true)
    (h63 : n ≤ 1000000) (hbase : base ≤ w.heap.size)
    (h : ∀ p c' w', w'.ownsRow base e 1 (.slice p (n + 1) c') (n + 1) (xs ++ [y]) → w.grownBy w' v.ownBlock → ((Value.slice p (n + 1) c').ownBlock = v.ownBlock ∨ ∀ k, (Value.slice p (n + 1) c').ownBlock = some k → w.heap.size ≤ k) → wpList Tryd.prog ops Q rest (a.put o.dst (.slice p (n + 1) c')) w') : wpList Tryd.prog ops Q (o :: rest) a w := by
  refine wpList_plain hgd fun K hK => ?_
  obtain ⟨i, hi, hz, hsize, hbi⟩ := info_parts hinfo
  obtain ⟨v', w', hrun, h2, h3, _, h5⟩ := run_append_own_at (P := Tryd.prog) w base t o.type e i z 1 bytes ht hi hz hsize hbi hz1 (by decide) v n xs hown ⟨g, 0, none⟩ 1 c [y] rfl (fun j u hj => by
    have hjl : j < 1 := by
      obtain ⟨h, _⟩ := List.getElem?_eq_some_iff.1 hj
      simpa using h
    have : j = 0 := by omega
    subst this
    have e2 : (⟨g, 0, none⟩ : Addr).add 0 = ⟨g, 0, none⟩ := by unfold Addr.add; simp
    rw [e2, hy]
    simpa using hj) (fun u hu => by rw [List.mem_singleton] at hu; subst hu; exact hy1) (by unfold maxLen; omega) (by have : (n + 1) * bytes ≤ 1000001 * 64 := Nat.mul_le_mul (by omega) hby; omega) hbase
  have hsl : ∃ p c', v' = .slice p (n + 1) c' := by
    rcases h2.2 with ⟨rfl, hh⟩ | ⟨g, cap, cur, rfl, _⟩
    · omega
    · exact ⟨_, _, rfl⟩
  obtain ⟨p, c', rfl⟩ := hsl
  unfold Oper.wp execOp
  simp only [ho, resolve, invoke, builtin, Sem.run_bind, Sem.run_pure, Result.andThen_ok, List.map_toArray, List.map_cons, List.map_nil, hs, hx, hrun]
  exact hK _ _ (h p c' w' h2 h3 (h5.imp id fun e k hk => by rw [e] at hk; cases hk; exact Nat.le_refl _))

/-- A new set is appended: u lies in W2, which came of w by blocks of its own. -/
theorem SetsAt.push {col : Nat → Nat} {c : Nat} {w W2 w3 : World} {v v' u : Value} {n m x : Nat} {f : Nat → Nat} (h : SetsAt col c w v n m f) (hb : Below w.heap.size w W2) (hu : SetV W2 m u x) (huf : ∀ k, u.ownBlock = some k → w.heap.size ≤ k)
    (hg : W2.grownBy w3 v.ownBlock) (hV : ∃ V, RowsV 88 107 (fun k => col k = c) w v n V (fun i => setWd m (f i)) ∧ w3.ownsRow 0 88 1 v' (n + 1) ((List.range n).map V ++ [u])) (hk : v'.ownBlock = v.ownBlock ∨ ∀ k, v'.ownBlock = some k → W2.heap.size ≤ k) :
    SetsAt (paint col w.heap.size c) c w3 v' (n + 1) m (upd f n x) ∧ Touch col c w w3 := by
  obtain ⟨V, h, hv⟩ := hV
  have hm := (h.mono (G := fun k => paint col w.heap.size c k = c) (fun k hk e => by rw [paint_lt hk]; exact e)).below hb
  have hs := hb.size
  refine ⟨⟨upd V n u, ((hm.push hg hv hk (xs := setWd m x) (by rw [setW_len]; exact hu) (fun k hk => ⟨fun e => ?_, fun i hi e => ?_, paint_ge (huf k hk)⟩) (fun k hk => paint_ge (by omega)))).congr fun i hi => ?_⟩, (Touch.of_below hb).trans (Touch.of_grown hg fun k hk => h.dg k hk)⟩
  · have := own0_lt h.out e
    have := huf k hk; omega
  · have := own0_lt (h.row i hi) e
    have := huf k hk; omega
  · by_cases e : i = n
    · subst e; rw [upd_same, upd_same]
    · rw [upd_ne _ _ e, upd_ne _ _ e]
theorem SetsAt.open {col : Nat → Nat} {c : Nat} {w : World} {v : Value} {n m : Nat} {f : Nat → Nat} (h : SetsAt col c w v n m f) : ∃ V, RowsV 88 107 (fun k => col k = c) w v n V (fun i => setWd m (f i)) := h

/-- A slice of integers of color c. -/
def IntsAt (col : Nat → Nat) (c : Nat) (w : World) (v : Value) (l : List Int) : Prop := w.ownsRow 0 3 1 v l.length (l.map (Value.int .i64)) ∧ ∀ k, v.ownBlock = some k → col k = c
theorem IntsAt.other {col : Nat → Nat} {c c' : Nat} {w w' : World} {v : Value} {l : List Int} (h : IntsAt col c w v l) (ht : Touch col c' w w') (hne : c ≠ c') : IntsAt (paint col w.heap.size c') c w' v l :=
  ⟨own0_block h.1 fun k hk => ht.block k (own0_lt h.1 hk) (by rw [h.2 k hk]; exact hne), fun k hk => by rw [paint_lt (own0_lt h.1 hk)]; exact h.2 k hk⟩
theorem IntsAt.below {col : Nat → Nat} {c : Nat} {w w' : World} {v : Value} {l : List Int} (h : IntsAt col c w v l) (hb : Below w.heap.size w w') : IntsAt col c w' v l :=
  ⟨own0_block h.1 fun k hk => hb.block k (own0_lt h.1 hk), h.2⟩
theorem IntsAt.nil (col : Nat → Nat) (c : Nat) (w : World) : IntsAt col c w (.slice none 0 0) [] := ⟨World.ownsRow_nil _ _ _ _, fun k hk => by cases hk⟩
theorem IntsAt.rd {col : Nat → Nat} {c : Nat} {w : World} {v : Value} {l : List Int} (h : IntsAt col c w v l) : RdI w v l := RdI.of_own h.1
theorem IntsAt.shape {col : Nat → Nat} {c : Nat} {w : World} {v : Value} {l : List Int} (h : IntsAt col c w v l) : ∃ p cap, v = .slice p l.length cap := h.rd.shape
theorem IntsAt.push {col : Nat → Nat} {c : Nat} {w W2 w3 : World} {v v' : Value} {l : List Int} {y : Int} (h : IntsAt col c w v l) (hb : Below w.heap.size w W2) (hg : W2.grownBy w3 v.ownBlock) (hv : w3.ownsRow 0 3 1 v' (l.length + 1) (l.map (Value.int .i64) ++ [.int .i64 y]))
    (hk : v'.ownBlock = v.ownBlock ∨ ∀ k, v'.ownBlock = some k → W2.heap.size ≤ k) : IntsAt (paint col w.heap.size c) c w3 v' (l ++ [y]) ∧ Touch col c w w3 := by
  refine ⟨⟨by rw [List.length_append, List.map_append]; exact hv, fun k e => ?_⟩, (Touch.of_below hb).trans (Touch.of_grown hg h.2)⟩
  rcases hk with h1 | h1
  · rw [h1] at e
    rw [paint_lt (own0_lt h.1 e)]; exact h.2 k e
  · have := h1 k e
    have := hb.size
    exact paint_ge (by omega)
/-- The last one is taken off. -/
theorem IntsAt.pop {col : Nat → Nat} {c : Nat} {w : World} {p : Option Addr} {cap n : Nat} {l : List Int} {y : Int} (h : IntsAt col c w (.slice p n cap) (l ++ [y])) (hn : n = l.length + 1) : IntsAt col c w (.slice p l.length cap) l := by
  obtain ⟨⟨h1, h2⟩, h3⟩ := h
  refine ⟨⟨by simp, ?_⟩, fun k hk => h3 k ?_⟩
  · rcases h2 with ⟨_, h0⟩ | ⟨g, cap', cur, e, hb, hh, hnc, hcm, hcs, htk⟩
    · simp at h0
    · injection e with e1 e2 e3
      subst e1 e3
      refine .inr ⟨g, cap, cur, rfl, hb, hh, by simp at hnc; omega, hcm, hcs, ?_⟩
      have := congrArg (List.take l.length) htk
      rw [List.take_take] at this
      simp only [Nat.mul_one] at this ⊢
      rw [show min l.length (l ++ [y]).length = l.length by simp] at this
      rw [this]; simp
  · cases p with
    | none => cases hk
    | some a => exact hk

/-- A row of bools of color c. -/
def WaitAt (col : Nat → Nat) (c : Nat) (w : World) (v : Value) (n : Nat) (f : Nat → Bool) : Prop := ∃ g, v = .slice (some ⟨g, 0, none⟩) n n ∧ w.rowIs g 4 n (fun i => .bool (f i)) ∧ col g = c
theorem WaitAt.other {col : Nat → Nat} {c c' : Nat} {w w' : World} {v : Value} {n : Nat} {f : Nat → Bool} (h : WaitAt col c w v n f) (ht : Touch col c' w w') (hne : c ≠ c') : WaitAt (paint col w.heap.size c') c w' v n f := by
  obtain ⟨g, hv, hr, hg⟩ := h
  exact ⟨g, hv, hr.of_block (ht.block g hr.lt (by rw [hg]; exact hne)), by rw [paint_lt hr.lt]; exact hg⟩
theorem WaitAt.below {col : Nat → Nat} {c : Nat} {w w' : World} {v : Value} {n : Nat} {f : Nat → Bool} (h : WaitAt col c w v n f) (hb : Below w.heap.size w w') : WaitAt col c w' v n f := by
  obtain ⟨g, hv, hr, hg⟩ := h
  exact ⟨g, hv, hr.of_block (hb.block g hr.lt), hg⟩
theorem WaitAt.set {col : Nat → Nat} {c : Nat} {w : World} {n g : Nat} {f : Nat → Bool} (h : WaitAt col c w (.slice (some ⟨g, 0, none⟩) n n) n f) (i : Nat) (b : Bool) : WaitAt col c (w.setCell ⟨g, i, none⟩ (.bool b)) (.slice (some ⟨g, 0, none⟩) n n) n (upd f i b) ∧ Touch col c w (w.setCell ⟨g, i, none⟩ (.bool b)) := by
  obtain ⟨g', hv, hr, hg⟩ := h
  injection hv with e1
  injection e1 with e1
  injection e1 with e1
  subst e1
  refine ⟨⟨g, rfl, (hr.set i (.bool b)).congr fun j hj => ?_, hg⟩, Touch.setCell hg _⟩
  by_cases e : j = i
  · subst e; rw [if_pos rfl, upd_same]
  · rw [if_neg e, upd_ne _ _ e]

/-- Slices of integers, all of color c. -/
def RowsAt (col : Nat → Nat) (c : Nat) (w : World) (v : Value) (n : Nat) (f : Nat → List Int) : Prop := ∃ V, RowsV 46 3 (fun k => col k = c) w v n V (fun i => (f i).map (Value.int .i64))
theorem RowsAt.other {col : Nat → Nat} {c c' : Nat} {w w' : World} {v : Value} {n : Nat} {f : Nat → List Int} (h : RowsAt col c w v n f) (ht : Touch col c' w w') (hne : c ≠ c') : RowsAt (paint col w.heap.size c') c w' v n f := by
  obtain ⟨V, h⟩ := h
  exact ⟨V, (h.mono (G := fun k => paint col w.heap.size c' k = c) (fun k hk e => by rw [paint_lt hk]; exact e)).keep fun k hk hlt => ht.block k hlt (by rw [paint_lt hlt] at hk; rw [hk]; exact hne)⟩
theorem RowsAt.below {col : Nat → Nat} {c : Nat} {w w' : World} {v : Value} {n : Nat} {f : Nat → List Int} (h : RowsAt col c w v n f) (hb : Below w.heap.size w w') : RowsAt col c w' v n f := by
  obtain ⟨V, h⟩ := h
  exact ⟨V, h.below hb⟩
theorem RowsAt.congr {col : Nat → Nat} {c : Nat} {w : World} {v : Value} {n : Nat} {f g : Nat → List Int} (h : RowsAt col c w v n f) (hg : ∀ i, i < n → f i = g i) : RowsAt col c w v n g := by
  obtain ⟨V, h⟩ := h
  exact ⟨V, h.congr fun i hi => by rw [hg i hi]⟩
theorem RowsAt.made (col : Nat → Nat) (c : Nat) (w : World) (n : Nat) (hn : n ≤ 1000000) (f : Nat → List Int) (hf : ∀ i, f i = []) : RowsAt (paint col w.heap.size c) c (w.alloc (.cells (madeCells #[Value.slice none 0 0] n) 46)) (.slice (some ⟨w.heap.size, 0, none⟩) n n) n f := by
  have h := RowsV.made (T := 46) (E := 3) (D := fun k => paint col w.heap.size c k = c) w n (by unfold maxLen; omega) (paint_ge (Nat.le_refl _))
  exact ⟨_, h.congr (Y := fun i => (f i).map (Value.int .i64)) fun i _ => by show [] = (f i).map _; rw [hf]; rfl⟩
theorem RowsAt.get {col : Nat → Nat} {c : Nat} {w : World} {v : Value} {n : Nat} {f : Nat → List Int} (h : RowsAt col c w v n f) {i : Nat} (hi : i < n) :
    ∃ g cap p cap', v = .slice (some ⟨g, 0, none⟩) n cap ∧ g < w.heap.size ∧ col g = c ∧ w.cell? ⟨g, i, none⟩ = some (.slice p (f i).length cap') ∧ w.frozen? ⟨g, i, none⟩ = false ∧ w.ownsRow 0 3 1 (.slice p (f i).length cap') (f i).length ((f i).map (Value.int .i64)) ∧ (∀ k, (Value.slice p (f i).length cap').ownBlock = some k → col k = c ∧ k ≠ g) := by
  obtain ⟨V, h⟩ := h
  obtain ⟨g, cap, rfl, hg, hd, _, hc, hf⟩ := h.block (by omega)
  have hr := h.row i hi
  simp only [List.length_map] at hr
  obtain ⟨p, cap', he⟩ := (RdI.of_own hr).shape
  have hd2 := h.dom i hi
  have hne := h.ne i hi
  rw [he] at hr hd2 hne
  exact ⟨g, cap, p, cap', rfl, hg, hd, by rw [hc i hi, he], hf i, hr, fun k hk => ⟨hd2 k hk, fun e => hne k hk (by rw [e]; rfl)⟩⟩
/-- A number is appended to one of the rows, and the row stored. -/
theorem RowsAt.pushed {col : Nat → Nat} {c : Nat} {w W2 w3 : World} {v u : Value} {n : Nat} {f : Nat → List Int} (h : RowsAt col c w v n f) {i : Nat} (hi : i < n) {g cap cap' : Nat} {p : Option Addr} {y : Int} (hv : v = .slice (some ⟨g, 0, none⟩) n cap) (hc : w.cell? ⟨g, i, none⟩ = some (.slice p (f i).length cap'))
    (hb : Below w.heap.size w W2) (hg : W2.grownBy w3 (Value.slice p (f i).length cap').ownBlock) (hu : w3.ownsRow 0 3 1 u ((f i).length + 1) ((f i).map (Value.int .i64) ++ [.int .i64 y])) (hk : u.ownBlock = (Value.slice p (f i).length cap').ownBlock ∨ ∀ k, u.ownBlock = some k → W2.heap.size ≤ k) :
    RowsAt (paint col w.heap.size c) c (w3.setCell ⟨g, i, none⟩ u) v n (upd f i (f i ++ [y])) ∧ Touch col c w (w3.setCell ⟨g, i, none⟩ u) := by
  obtain ⟨V, h⟩ := h
  obtain ⟨g', cap2, hv', _, hd, _, hc', _⟩ := h.block (by omega)
  rw [hv] at hv'
  injection hv' with e1 e2 e3
  injection e1 with e1
  injection e1 with e1
  subst e1
  have he : V i = .slice p (f i).length cap' := by
    have := (hc' i hi).symm.trans hc
    injection this
  have hm := h.mono (G := fun k => paint col w.heap.size c k = c) (fun k hk e => by rw [paint_lt hk]; exact e)
  have hs := hb.size
  have hr := hm.set hi (w' := w3) (xs := (f i ++ [y]).map (Value.int .i64)) (fun k hk hne => (hg.block k (by omega) (fun e => hne (by rw [he]; exact e.symm))).trans (hb.block k hk)) (Nat.le_trans hs hg.size) hv (u := u) (by rw [List.length_map, List.length_append, List.map_append]; exact hu) (by rw [he]; exact hk.imp id fun h k e => by have := h k e; omega) (fun k hk => paint_ge hk)
  refine ⟨⟨_, hr.congr fun j hj => ?_⟩, ((Touch.of_below hb).trans (Touch.of_grown hg fun k hk => h.dom i hi k (by rw [he]; exact hk))).trans (Touch.setCell hd _)⟩
  by_cases e : j = i
  · subst e; rw [upd_same, upd_same]
  · rw [upd_ne _ _ e, upd_ne _ _ e]
end Go.Proofs.YtifjcknklecdbaaDoor

/- The solver's state in memory. No walk here. -/
set_option linter.unusedVariables false
set_option linter.unusedSimpArgs false
namespace Go.Proofs.YtifjcknklecdbaaDoor
open Go.RowKit

theorem SetsAt.mono {col col' : Nat → Nat} {c : Nat} {w : World} {v : Value} {n m : Nat} {f : Nat → Nat} (h : SetsAt col c w v n m f) (hc : ∀ k, k < w.heap.size → col k = c → col' k = c) : SetsAt col' c w v n m f := by
  obtain ⟨V, h⟩ := h
  exact ⟨V, h.mono (G := fun k => col' k = c) hc⟩
theorem IntsAt.mono {col col' : Nat → Nat} {c : Nat} {w : World} {v : Value} {l : List Int} (h : IntsAt col c w v l) (hc : ∀ k, k < w.heap.size → col k = c → col' k = c) : IntsAt col' c w v l := ⟨h.1, fun k hk => hc k (own0_lt h.1 hk) (h.2 k hk)⟩
theorem WaitAt.mono {col col' : Nat → Nat} {c : Nat} {w : World} {v : Value} {n : Nat} {f : Nat → Bool} (h : WaitAt col c w v n f) (hc : ∀ k, k < w.heap.size → col k = c → col' k = c) : WaitAt col' c w v n f := by
  obtain ⟨g, h1, h2, h3⟩ := h
  exact ⟨g, h1, h2, hc g h2.lt h3⟩
theorem RowsAt.mono {col col' : Nat → Nat} {c : Nat} {w : World} {v : Value} {n : Nat} {f : Nat → List Int} (h : RowsAt col c w v n f) (hc : ∀ k, k < w.heap.size → col k = c → col' k = c) : RowsAt col' c w v n f := by
  obtain ⟨V, h⟩ := h
  exact ⟨V, h.mono (G := fun k => col' k = c) hc⟩
theorem paint_keep {col : Nat → Nat} {n c k : Nat} (h : col k = c) : paint col n c k = c := by
  unfold paint
  split
  · exact h
  · rfl

/-- The solver's five structures; B: where its own blocks begin. -/
structure SolAt (B n m : Nat) (W0 : World) (ki ko : Nat) (f g : Nat → Nat) (P : Nat → List Int) (l : List Int) (q : Nat → Bool) (col : Nat → Nat) (w : World) (iv ov pv kv wv : Value) : Prop where
  inn : SetsAt col 1 w iv ki m f
  out : SetsAt col 2 w ov ko m g
  prev : RowsAt col 3 w pv n P
  work : IntsAt col 4 w kv l
  wait : WaitAt col 5 w wv n q
  low : ∀ k, k < B → col k = 0
  bel : Below B W0 w
  big : B ≤ w.heap.size
section
variable {B n m ki ko : Nat} {W0 w w' : World} {f g : Nat → Nat} {P : Nat → List Int} {l : List Int} {q : Nat → Bool} {col : Nat → Nat} {iv ov pv kv wv : Value}
theorem SolAt.below (h : SolAt B n m W0 ki ko f g P l q col w iv ov pv kv wv) (hb : Below w.heap.size w w') : SolAt B n m W0 ki ko f g P l q col w' iv ov pv kv wv :=
  ⟨h.inn.below hb, h.out.below hb, h.prev.below hb, h.work.below hb, h.wait.below hb, h.low, h.bel.trans (hb.mono h.big), Nat.le_trans h.big hb.size⟩
theorem SolAt.tb (h : SolAt B n m W0 ki ko f g P l q col w iv ov pv kv wv) {c : Nat} (hc : c ≠ 0) (ht : Touch col c w w') : Below B W0 w' := h.bel.trans (ht.below h.big fun k hk e => hc (by rw [← e]; exact h.low k hk))
theorem SolAt.setInn (h : SolAt B n m W0 ki ko f g P l q col w iv ov pv kv wv) {ki' : Nat} {f' : Nat → Nat} {iv' : Value} (hn : SetsAt (paint col w.heap.size 1) 1 w' iv' ki' m f') (ht : Touch col 1 w w') : SolAt B n m W0 ki' ko f' g P l q (paint col w.heap.size 1) w' iv' ov pv kv wv :=
  ⟨hn, h.out.other ht (by decide), h.prev.other ht (by decide), h.work.other ht (by decide), h.wait.other ht (by decide), low_paint h.low h.big, h.tb (by decide) ht, Nat.le_trans h.big ht.size⟩
theorem SolAt.setOut (h : SolAt B n m W0 ki ko f g P l q col w iv ov pv kv wv) {ko' : Nat} {g' : Nat → Nat} {ov' : Value} (hn : SetsAt (paint col w.heap.size 2) 2 w' ov' ko' m g') (ht : Touch col 2 w w') : SolAt B n m W0 ki ko' f g' P l q (paint col w.heap.size 2) w' iv ov' pv kv wv :=
  ⟨h.inn.other ht (by decide), hn, h.prev.other ht (by decide), h.work.other ht (by decide), h.wait.other ht (by decide), low_paint h.low h.big, h.tb (by decide) ht, Nat.le_trans h.big ht.size⟩
theorem SolAt.setPrev (h : SolAt B n m W0 ki ko f g P l q col w iv ov pv kv wv) {P' : Nat → List Int} {pv' : Value} (hn : RowsAt (paint col w.heap.size 3) 3 w' pv' n P') (ht : Touch col 3 w w') : SolAt B n m W0 ki ko f g P' l q (paint col w.heap.size 3) w' iv ov pv' kv wv :=
  ⟨h.inn.other ht (by decide), h.out.other ht (by decide), hn, h.work.other ht (by decide), h.wait.other ht (by decide), low_paint h.low h.big, h.tb (by decide) ht, Nat.le_trans h.big ht.size⟩
theorem SolAt.setWork (h : SolAt B n m W0 ki ko f g P l q col w iv ov pv kv wv) {l' : List Int} {kv' : Value} (hn : IntsAt (paint col w.heap.size 4) 4 w' kv' l') (ht : Touch col 4 w w') : SolAt B n m W0 ki ko f g P l' q (paint col w.heap.size 4) w' iv ov pv kv' wv :=
  ⟨h.inn.other ht (by decide), h.out.other ht (by decide), h.prev.other ht (by decide), hn, h.wait.other ht (by decide), low_paint h.low h.big, h.tb (by decide) ht, Nat.le_trans h.big ht.size⟩
theorem SolAt.setWait (h : SolAt B n m W0 ki ko f g P l q col w iv ov pv kv wv) {q' : Nat → Bool} {wv' : Value} (hn : WaitAt (paint col w.heap.size 5) 5 w' wv' n q') (ht : Touch col 5 w w') : SolAt B n m W0 ki ko f g P l q' (paint col w.heap.size 5) w' iv ov pv kv wv' :=
  ⟨h.inn.other ht (by decide), h.out.other ht (by decide), h.prev.other ht (by decide), h.work.other ht (by decide), hn, low_paint h.low h.big, h.tb (by decide) ht, Nat.le_trans h.big ht.size⟩
/-- A set beside them (color 6) turns. -/
theorem SolAt.touch6 (h : SolAt B n m W0 ki ko f g P l q col w iv ov pv kv wv) (ht : Touch col 6 w w') : SolAt B n m W0 ki ko f g P l q (paint col w.heap.size 6) w' iv ov pv kv wv :=
  ⟨h.inn.other ht (by decide), h.out.other ht (by decide), h.prev.other ht (by decide), h.work.other ht (by decide), h.wait.other ht (by decide), low_paint h.low h.big, h.tb (by decide) ht, Nat.le_trans h.big ht.size⟩
/-- The set beside them becomes one of the first's. -/
theorem SolAt.storeInn (h : SolAt B n m W0 ki ko f g P l q col w iv ov pv kv wv) {i gb cap y : Nat} {u : Value} (hi : i < ki) (hv : iv = .slice (some ⟨gb, 0, none⟩) ki cap) (hu : SetV w m u y) (hun : ∀ k, u.ownBlock = some k → col k = 6) :
    SolAt B n m W0 ki ko (upd f i y) g P l q (repaint col 6 1) (w.setCell ⟨gb, i, none⟩ u) iv ov pv kv wv := by
  obtain ⟨h1, ht⟩ := h.inn.store hi hv hu hun (by decide)
  have hr : ∀ {c' : Nat}, c' ≠ 6 → c' ≠ 1 → ∀ k, k < (w.setCell ⟨gb, i, none⟩ u).heap.size → paint col w.heap.size 1 k = c' → repaint col 6 1 k = c' := fun h6 h1 k hk e => by
    have hk' : k < w.heap.size := by simpa [World.setCell] using hk
    rw [paint_lt hk'] at e
    exact repaint_ne e h6
  exact ⟨h1, (h.out.other ht (by decide)).mono (hr (by decide) (by decide)), (h.prev.other ht (by decide)).mono (hr (by decide) (by decide)), (h.work.other ht (by decide)).mono (hr (by decide) (by decide)), (h.wait.other ht (by decide)).mono (hr (by decide) (by decide)), fun k hk => repaint_ne (h.low k hk) (by decide), h.tb (by decide) ht, Nat.le_trans h.big ht.size⟩
end

/-- Colors from the world's end on do not matter. -/
theorem SolAt.clean {B n m ki ko : Nat} {W0 w : World} {f g : Nat → Nat} {P : Nat → List Int} {l : List Int} {q : Nat → Bool} {col : Nat → Nat} {iv ov pv kv wv : Value} (h : SolAt B n m W0 ki ko f g P l q col w iv ov pv kv wv) : SolAt B n m W0 ki ko f g P l q (paint col w.heap.size 0) w iv ov pv kv wv :=
  have hp : ∀ c k, k < w.heap.size → col k = c → paint col w.heap.size 0 k = c := fun c k hk e => by rw [paint_lt hk]; exact e
  ⟨h.inn.mono (hp 1), h.out.mono (hp 2), h.prev.mono (hp 3), h.work.mono (hp 4), h.wait.mono (hp 5), low_paint h.low h.big, h.bel, h.big⟩
theorem Touch.cell {col : Nat → Nat} {c : Nat} {w w' : World} (h : Touch col c w w') {b o : Nat} (hb : b < w.heap.size) (hne : col b ≠ c) : w'.cell? ⟨b, o, none⟩ = w.cell? ⟨b, o, none⟩ := World.cell?_of_block (h.block b hb hne)
/-- A block of no color that begins with these cells. -/
def BoxAt (col : Nat → Nat) (w : World) (b : Nat) (l : List Value) : Prop := b < w.heap.size ∧ col b = 0 ∧ ∀ k v, l[k]? = some v → w.cell? ⟨b, k, none⟩ = some v
theorem BoxAt.lt {col : Nat → Nat} {w : World} {b : Nat} {l : List Value} (h : BoxAt col w b l) : b < w.heap.size := h.1
theorem BoxAt.at {col : Nat → Nat} {w : World} {b : Nat} {l : List Value} (h : BoxAt col w b l) (k : Nat) {v : Value} (hv : l[k]? = some v) : w.cell? ⟨b, k, none⟩ = some v := h.2.2 k v hv
theorem BoxAt.other {col : Nat → Nat} {c : Nat} {w w' : World} {b : Nat} {l : List Value} (h : BoxAt col w b l) (ht : Touch col c w w') (hc : c ≠ 0) : BoxAt (paint col w.heap.size c) w' b l :=
  ⟨Nat.lt_of_lt_of_le h.1 ht.size, by rw [paint_lt h.1]; exact h.2.1, fun k v hv => (ht.cell h.1 (by rw [h.2.1]; exact fun e => hc e.symm)).trans (h.2.2 k v hv)⟩
theorem BoxAt.below {col : Nat → Nat} {w w' : World} {b : Nat} {l : List Value} (h : BoxAt col w b l) (hb : Below w.heap.size w w') : BoxAt col w' b l :=
  ⟨Nat.lt_of_lt_of_le h.1 hb.size, h.2.1, fun k v hv => (hb.cell (p := ⟨b, k, none⟩) h.1).trans (h.2.2 k v hv)⟩
theorem BoxAt.clean {col : Nat → Nat} {w : World} {b n : Nat} {l : List Value} (h : BoxAt col w b l) : BoxAt (paint col n 0) w b l := ⟨h.1, paint_keep h.2.1, h.2.2⟩
theorem BoxAt.repaint {col : Nat → Nat} {w : World} {b d c : Nat} {l : List Value} (h : BoxAt col w b l) (hd : d ≠ 0) : BoxAt (repaint col d c) w b l := ⟨h.1, repaint_ne h.2.1 (fun e => hd e.symm), h.2.2⟩
theorem BoxAt.made (col : Nat → Nat) (w : World) (l : List Value) (t : TypeId) : BoxAt (paint col w.heap.size 0) (w.alloc (.cells l.toArray t)) w.heap.size l := by
  refine ⟨by simp, paint_ge (Nat.le_refl _), fun k v hv => ?_⟩
  have h : (w.alloc (.cells l.toArray t)).heap[w.heap.size]? = some (.cells l.toArray t (0, 0)) := heap_alloc_new w _
  simp only [World.cell?, h, Option.isSome_none, Bool.false_eq_true, if_false]
  simpa using hv
/-- A slice of integers of no color that can be read. -/
def ListAt (col : Nat → Nat) (w : World) (v : Value) (l : List Int) : Prop := RdI w v l ∧ (l ≠ [] → ∀ k, v.ownBlock = some k → col k = 0)
theorem RdI.own_lt {w : World} {v : Value} {l : List Int} (h : RdI w v l) (hl : l ≠ []) : ∀ k, v.ownBlock = some k → k < w.heap.size := by
  obtain ⟨p, cap, rfl, hc⟩ := h
  intro k hk
  obtain ⟨m, off, rfl, hm, _⟩ := hc 0 (List.length_pos_iff.2 hl)
  cases hk
  exact hm
theorem ListAt.other {col : Nat → Nat} {c : Nat} {w w' : World} {v : Value} {l : List Int} (h : ListAt col w v l) (ht : Touch col c w w') (hc : c ≠ 0) : ListAt (paint col w.heap.size c) w' v l := by
  by_cases hl : l = []
  · subst hl
    obtain ⟨⟨p, cap, hv, _⟩, _⟩ := h
    exact ⟨⟨p, cap, hv, fun k hk => by simp at hk⟩, fun e => absurd rfl e⟩
  · refine ⟨h.1.keep ht.size fun k hk hlt => ht.block k hlt (by rw [h.2 hl k hk]; exact fun e => hc e.symm), fun _ k hk => ?_⟩
    rw [paint_lt (h.1.own_lt hl k hk)]; exact h.2 hl k hk
theorem ListAt.below {col : Nat → Nat} {w w' : World} {v : Value} {l : List Int} (h : ListAt col w v l) (hb : Below w.heap.size w w') : ListAt col w' v l := ⟨h.1.below hb (Nat.le_refl _), h.2⟩
theorem ListAt.clean {col : Nat → Nat} {n : Nat} {w : World} {v : Value} {l : List Int} (h : ListAt col w v l) : ListAt (paint col n 0) w v l := ⟨h.1, fun hl k hk => paint_keep (h.2 hl k hk)⟩
/-- A list that a call has just handed back. -/
theorem ListAt.fresh {col : Nat → Nat} {w w' : World} {v : Value} {l : List Int} (h : RdI w' v l) (hf : ∀ k, v.ownBlock = some k → w.heap.size ≤ k) : ListAt (paint col w.heap.size 0) w' v l := ⟨h, fun _ k hk => paint_ge (hf k hk)⟩
theorem SolAt.paint0 {B n m ki ko : Nat} {W0 w w' : World} {f g : Nat → Nat} {P : Nat → List Int} {l : List Int} {q : Nat → Bool} {col : Nat → Nat} {iv ov pv kv wv : Value} (h : SolAt B n m W0 ki ko f g P l q col w iv ov pv kv wv) (hb : Below w.heap.size w w') : SolAt B n m W0 ki ko f g P l q (paint col w.heap.size 0) w' iv ov pv kv wv := by
  have h2 := h.clean.below hb
  exact h2
/-- The predecessors among the first k blocks. -/
def prevN (bs : List IBlk) (k t : Nat) : List Nat := (List.range k).flatMap fun i => ((succI (bs.getD i default)).filter (fun q => decide (q = (t : Int)))).map fun _ => i
theorem prevN_all (bs : List IBlk) (t : Nat) : prevN bs bs.length t = prevP bs t := rfl
theorem prevN_zero (bs : List IBlk) (t : Nat) : prevN bs 0 t = [] := rfl
/-- .. and the first j successors of block k. -/
def prevQ (bs : List IBlk) (k j t : Nat) : List Nat := prevN bs k t ++ (((succI (bs.getD k default)).take j).filter (fun q => decide (q = (t : Int)))).map fun _ => k
theorem prevQ_zero (bs : List IBlk) (k t : Nat) : prevQ bs k 0 t = prevN bs k t := by simp [prevQ]
theorem prevQ_end (bs : List IBlk) (k t : Nat) : prevQ bs k (succI (bs.getD k default)).length t = prevN bs (k + 1) t := by
  unfold prevQ prevN
  rw [List.take_length, List.range_succ, List.flatMap_append]
  simp
theorem prevQ_next (bs : List IBlk) (k j t : Nat) (hj : j < (succI (bs.getD k default)).length) : prevQ bs k (j + 1) t = if (succI (bs.getD k default)).getD j 0 = (t : Int) then prevQ bs k j t ++ [k] else prevQ bs k j t := by
  unfold prevQ
  generalize succI (bs.getD k default) = sc at hj ⊢
  rw [show sc.getD j 0 = sc[j] by rw [List.getD_eq_getElem?_getD, List.getElem?_eq_getElem hj]; rfl, List.take_succ_eq_append_getElem hj, List.filter_append]
  by_cases h : sc[j] = (t : Int)
  · simp [h]
  · simp [h]
theorem prevQ_upd (bs : List IBlk) (k j y : Nat) (hj : j < (succI (bs.getD k default)).length) (hy : (succI (bs.getD k default)).getD j 0 = (y : Int)) (t : Nat) : (prevQ bs k (j + 1) t).map Int.ofNat = upd (fun t => (prevQ bs k j t).map Int.ofNat) y ((prevQ bs k j y).map Int.ofNat ++ [(k : Int)]) t := by
  rw [prevQ_next bs k j t hj, hy]
  by_cases e : t = y
  · subst e
    rw [if_pos rfl, upd_same, List.map_append]; rfl
  · rw [if_neg (by omega), upd_ne _ _ e]
theorem prevQ_len (bs : List IBlk) (k j t : Nat) : (prevQ bs k j t).length ≤ 2 * k + 2 := by
  unfold prevQ
  rw [List.length_append, List.length_map]
  have h1 := flat_len (g := fun i => ((succI (bs.getD i default)).filter (fun q => decide (q = (t : Int)))).map fun _ => i) (fun i => by
    rw [List.length_map]
    exact Nat.le_trans (List.length_filter_le _ _) (succI_len _)) (List.range k)
  have h2 := List.length_filter_le (fun q => decide (q = (t : Int))) ((succI (bs.getD k default)).take j)
  have h3 := succI_len (bs.getD k default)
  have h4 : ((succI (bs.getD k default)).take j).length ≤ (succI (bs.getD k default)).length := by rw [List.length_take]; omega
  rw [List.length_range] at h1
  unfold prevN
  omega
theorem IntsAt.room {col : Nat → Nat} {c : Nat} {w : World} {p : Option Addr} {n cap : Nat} {l : List Int} (h : IntsAt col c w (.slice p n cap) l) (hn : n = l.length) : n ≤ cap := by
  subst hn
  rcases h.1.2 with ⟨e, h0⟩ | ⟨g, cap', cur, e, _, _, hnc, _⟩
  · omega
  · injection e with e1 e2 e3
    subst e3
    exact hnc
theorem WaitAt.cell {col : Nat → Nat} {c : Nat} {w : World} {n g : Nat} {f : Nat → Bool} (h : WaitAt col c w (.slice (some ⟨g, 0, none⟩) n n) n f) {i : Nat} (hi : i < n) : w.cell? ⟨g, i, none⟩ = some (.bool (f i)) ∧ w.frozen? ⟨g, i, none⟩ = false ∧ g < w.heap.size := by
  obtain ⟨g', hv, hr, hg⟩ := h
  injection hv with e1
  injection e1 with e1
  injection e1 with e1
  subst e1
  exact ⟨hr.cell hi, hr.frozen i, hr.lt⟩
theorem wait_step (k : Nat) (i : Nat) : upd (fun i => decide (i < k)) k true i = decide (i < k + 1) := by
  by_cases e : i = k
  · subst e; rw [upd_same]; simp
  · rw [upd_ne _ _ e]; simp; omega

theorem upd_self {α : Type} (f : Nat → α) (i : Nat) : upd f i (f i) = f := by
  funext j
  unfold upd
  split
  · rename_i e; rw [e]
  · rfl
theorem sol_code {R : Int} {n : Nat} {b : IBlk} (h : okBlk R n b = true) : ∀ k, k < b.code.length → okIns R (b.code.getD k default) = true := by
  simp only [okBlk, Bool.and_eq_true, List.all_eq_true] at h
  exact fun k hk => h.1.1.1 _ (getD_mem hk)
theorem upd_upd {α : Type} (f : Nat → α) (i : Nat) (a b : α) : upd (upd f i a) i b = upd f i b := by
  funext j
  unfold upd
  split <;> rfl
theorem blk_reg {R : Int} {n : Nat} {b : IBlk} (h : okBlk R n b = true) (hk : b.kind = 2) : 0 ≤ b.x ∧ b.x < R := by
  simp only [okBlk, Bool.and_eq_true, hk, decide_true, Bool.not_true, Bool.false_or] at h
  have := h.2
  simpa [okR] using this
theorem iterV_next (bs : List IBlk) (k : Nat) (s : SV) : iterV bs (k + 1) s = stepV bs (iterV bs k s) := by
  rw [iterV_add]; rfl
/-- The set at a block's end behind the first j successors. -/
def joinJ (inn : Nat → Nat) (o : Nat) (sc : List Int) (j : Nat) : Nat := (sc.take j).foldl (fun o t => o ||| inn t.toNat) o
theorem joinJ_zero (inn : Nat → Nat) (o : Nat) (sc : List Int) : joinJ inn o sc 0 = o := by simp [joinJ]
theorem joinJ_next (inn : Nat → Nat) (o : Nat) (sc : List Int) (j y : Nat) (hj : j < sc.length) (hy : sc.getD j 0 = (y : Int)) : joinJ inn o sc (j + 1) = joinJ inn o sc j ||| inn y := by
  unfold joinJ
  rw [List.take_succ_eq_append_getElem hj, List.foldl_append]
  have : sc[j] = (y : Int) := by rw [← hy, List.getD_eq_getElem?_getD, List.getElem?_eq_getElem hj]; rfl
  rw [this]; simp
theorem joinJ_end (bs : List IBlk) (inn : Nat → Nat) (o i : Nat) : joinJ inn o (succI (bs.getD i default)) (succI (bs.getD i default)).length = joinB bs inn i o := by
  unfold joinJ joinB; rw [List.take_length]
theorem joinJ_lt {R n : Nat} {inn : Nat → Nat} {o : Nat} {sc : List Int} (hi : ∀ i, i < n → inn i < 2 ^ R) (ho : o < 2 ^ R) (hs : ∀ t ∈ sc, 0 ≤ t ∧ t < n) (j : Nat) : joinJ inn o sc j < 2 ^ R :=
  foldl_or_lt (fun t => inn t.toNat) _ ho fun t ht => hi _ (by have := hs t (List.mem_of_mem_take ht); omega)
/-- Who waits, and the stack, behind the first j of a list. -/
def pushJ (w : Nat → Bool) (k : List Nat) (l : List Nat) (j : Nat) : (Nat → Bool) × List Nat := pushP w k (l.take j)
theorem pushP_append (l : List Nat) (x : Nat) : ∀ (w : Nat → Bool) (k : List Nat), pushP w k (l ++ [x]) = if (pushP w k l).1 x = true then pushP w k l else (upd (pushP w k l).1 x true, (pushP w k l).2 ++ [x]) := by
  induction l with
  | nil => intro w k; rfl
  | cons p l ih =>
    intro w k
    simp only [List.cons_append, pushP]
    split
    · exact ih _ _
    · exact ih _ _
theorem pushJ_next (w : Nat → Bool) (k l : List Nat) (j x : Nat) (hj : j < l.length) (hx : l.getD j 0 = x) : pushJ w k l (j + 1) = if (pushJ w k l j).1 x = true then pushJ w k l j else (upd (pushJ w k l j).1 x true, (pushJ w k l j).2 ++ [x]) := by
  unfold pushJ
  have : l[j] = x := by rw [← hx, List.getD_eq_getElem?_getD, List.getElem?_eq_getElem hj]; rfl
  rw [List.take_succ_eq_append_getElem hj, this, pushP_append]
theorem pushJ_end (w : Nat → Bool) (k l : List Nat) : pushJ w k l l.length = pushP w k l := by unfold pushJ; rw [List.take_length]
theorem pushJ_len (w : Nat → Bool) (k l : List Nat) (j : Nat) : (pushJ w k l j).2.length ≤ k.length + l.length := by
  unfold pushJ
  have := pushP_len (l.take j) w k
  have h2 : (l.take j).length ≤ l.length := by rw [List.length_take]; omega
  omega
/-- Who is on the stack waits, and stands there once. -/
def IN (w : Nat → Bool) (k : List Nat) : Prop := k.Nodup ∧ ∀ i ∈ k, w i = true
theorem nodup_len : ∀ (n : Nat) (l : List Nat), l.Nodup → (∀ i ∈ l, i < n) → l.length ≤ n
  | 0, l, _, h => by
    match l with
    | [] => simp
    | a :: l => exact absurd (h a List.mem_cons_self) (Nat.not_lt_zero _)
  | n + 1, l, hd, h => by
    have h1 := nodup_len n (l.filter (fun i => decide (i ≠ n))) (hd.filter _) (fun i hi => by
      obtain ⟨a, b⟩ := List.mem_filter.1 hi
      have := h i a
      simp at b; omega)
    have h2 := List.length_eq_countP_add_countP (fun i => i == n) (l := l)
    have h3 : l.countP (fun i => i == n) ≤ 1 := List.nodup_iff_count.1 hd n
    have h4 : l.countP (fun i => decide (¬(i == n) = true)) = (l.filter (fun i => decide (i ≠ n))).length := by
      rw [List.countP_eq_length_filter]; congr 1; apply List.filter_congr; intro x _; simp
    omega
theorem IN.push (l : List Nat) : ∀ (w : Nat → Bool) (k : List Nat), IN w k → IN (pushP w k l).1 (pushP w k l).2 := by
  induction l with
  | nil => exact fun w k h => h
  | cons p l ih =>
    intro w k h
    unfold pushP
    split
    · exact ih _ _ h
    · rename_i hp
      refine ih _ _ ⟨?_, fun i hi => ?_⟩
      · rw [List.nodup_append]
        refine ⟨h.1, by simp, fun a ha b hb => ?_⟩
        rw [List.mem_singleton] at hb
        subst hb
        intro e
        subst e
        exact hp (h.2 a ha)
      · rcases List.mem_append.1 hi with hi | hi
        · by_cases e : i = p
          · subst e; exact upd_same _ _ _
          · rw [upd_ne _ _ e]; exact h.2 i hi
        · rw [List.mem_singleton] at hi
          subst hi; exact upd_same _ _ _
theorem IN.pop {w : Nat → Bool} {l : List Nat} {i : Nat} (h : IN w (l ++ [i])) : IN (upd w i false) l := by
  obtain ⟨h1, h2⟩ := h
  rw [List.nodup_append] at h1
  refine ⟨h1.1, fun j hj => ?_⟩
  have hne : j ≠ i := h1.2.2 j hj i (by simp)
  rw [upd_ne _ _ hne]; exact h2 j (by simp [hj])
theorem IN.step {bs : List IBlk} {s : SV} (h : IN s.wait s.work) : IN (stepV bs s).wait (stepV bs s).work := by
  rcases List.eq_nil_or_concat s.work with h0 | ⟨l, i, hl⟩
  · rw [stepV_done h0]; exact h
  · rw [List.concat_eq_append] at hl
    rw [hl] at h
    rw [stepV_at hl]
    split
    · exact h.pop
    · exact IN.push _ _ _ h.pop
theorem IN.start (n : Nat) : IN (startV n).wait (startV n).work := ⟨List.nodup_range, fun i hi => decide_eq_true (List.mem_range.1 hi)⟩
theorem pushJ_small {w : Nat → Bool} {k l : List Nat} {n : Nat} (h : IN w k) (hk : ∀ i ∈ k, i < n) (hl : ∀ i ∈ l, i < n) (j : Nat) : (pushJ w k l j).2.length ≤ n :=
  nodup_len n _ (IN.push _ _ _ h).1 fun i hi => by
    rcases pushP_mem _ _ _ i hi with hi | hi
    · exact hk i hi
    · exact hl i (List.mem_of_mem_take hi)
end Go.Proofs.YtifjcknklecdbaaDoor

