/- What the solver of liveness holds in memory: structures whose blocks do not meet, told by a color for each block. No walk here. -/
import Derived.Test.YtikfjehollnjeaaDoorLivH
set_option linter.unusedVariables false
set_option linter.unusedSimpArgs false
namespace Go.Proofs.YtikfjehollnjeaaDoor
open Go.RowKit

/-- Blocks of color c alone have turned. -/
structure Touch (col : Nat → Nat) (c : Nat) (w w' : World) : Prop where
  os : w'.os = w.os
  tape : w'.tape = w.tape
  output : w'.output = w.output
  size : w.heap.size ≤ w'.heap.size
  block : ∀ k, k < w.heap.size → col k ≠ c → w'.heap[k]? = w.heap[k]?
theorem Touch.refl (col : Nat → Nat) (c : Nat) (w : World) : Touch col c w w := ⟨rfl, rfl, rfl, Nat.le_refl _, fun _ _ _ => rfl⟩
theorem Touch.of_grown {col : Nat → Nat} {c : Nat} {w w' : World} {b : Option Nat} (h : w.grownBy w' b) (hb : ∀ k, b = some k → col k = c) : Touch col c w w' :=
  ⟨h.os, h.tape, h.output, h.size, fun k hk hne => h.block k hk (fun e => hne (hb k e.symm))⟩
theorem Touch.of_below {col : Nat → Nat} {c : Nat} {w w' : World} (h : Below w.heap.size w w') : Touch col c w w' := ⟨h.os, h.tape, h.output, h.size, fun k hk _ => h.block k hk⟩
theorem Touch.setCell {col : Nat → Nat} {c : Nat} {w : World} {a : Addr} (ha : col a.block = c) (v : Value) : Touch col c w (w.setCell a v) :=
  ⟨rfl, rfl, rfl, by simp [World.setCell], fun k _ hne => Below.heap_setCell _ _ _ _ (fun e => hne (by rw [e]; exact ha))⟩
theorem Touch.trans {col : Nat → Nat} {c : Nat} {a b d : World} (h : Touch col c a b) (k : Touch col c b d) : Touch col c a d :=
  ⟨k.os.trans h.os, k.tape.trans h.tape, k.output.trans h.output, Nat.le_trans h.size k.size, fun q hq hne => (k.block q (Nat.lt_of_lt_of_le hq h.size) hne).trans (h.block q hq hne)⟩
theorem Touch.below {col : Nat → Nat} {c B : Nat} {w w' : World} (h : Touch col c w w') (hB : B ≤ w.heap.size) (hc : ∀ k, k < B → col k ≠ c) : Below B w w' :=
  ⟨h.os, h.tape, h.output, h.size, fun k hk => h.block k (Nat.lt_of_lt_of_le hk hB) (hc k hk)⟩
/-- Blocks from n on get color c. -/
def paint (col : Nat → Nat) (n c : Nat) : Nat → Nat := fun k => if k < n then col k else c
theorem paint_lt {col : Nat → Nat} {n c k : Nat} (h : k < n) : paint col n c k = col k := if_pos h
theorem paint_ge {col : Nat → Nat} {n c k : Nat} (h : n ≤ k) : paint col n c k = c := if_neg (by omega)

/-- A slice of sets, all of color c. -/
def SetsAt (col : Nat → Nat) (c : Nat) (w : World) (v : Value) (n m : Nat) (f : Nat → Nat) : Prop := ∃ V, RowsV 66 106 (fun k => col k = c) w v n V (fun i => setW m (f i))
theorem SetsAt.other {col : Nat → Nat} {c c' : Nat} {w w' : World} {v : Value} {n m : Nat} {f : Nat → Nat} (h : SetsAt col c w v n m f) (ht : Touch col c' w w') (hne : c ≠ c') : SetsAt (paint col w.heap.size c') c w' v n m f := by
  obtain ⟨V, h⟩ := h
  exact ⟨V, (h.mono (G := fun k => paint col w.heap.size c' k = c) (fun k hk e => by rw [paint_lt hk]; exact e)).keep fun k hk hlt => ht.block k hlt (by rw [paint_lt hlt] at hk; rw [hk]; exact hne)⟩
theorem SetsAt.below {col : Nat → Nat} {c : Nat} {w w' : World} {v : Value} {n m : Nat} {f : Nat → Nat} (h : SetsAt col c w v n m f) (hb : Below w.heap.size w w') : SetsAt col c w' v n m f := by
  obtain ⟨V, h⟩ := h
  exact ⟨V, h.below hb⟩
theorem SetsAt.none (col : Nat → Nat) (c : Nat) (w : World) (m : Nat) (f : Nat → Nat) : SetsAt col c w (.slice Option.none 0 0) 0 m f := ⟨fun _ => .slice Option.none 0 0, RowsV.none w⟩
theorem SetsAt.shape {col : Nat → Nat} {c : Nat} {w : World} {v : Value} {n m : Nat} {f : Nat → Nat} (h : SetsAt col c w v n m f) : ∃ p cap, v = .slice p n cap := by
  obtain ⟨V, h⟩ := h
  exact h.shape
theorem SetsAt.congr {col : Nat → Nat} {c : Nat} {w : World} {v : Value} {n m : Nat} {f g : Nat → Nat} (h : SetsAt col c w v n m f) (hg : ∀ i, i < n → f i = g i) : SetsAt col c w v n m g := by
  obtain ⟨V, h⟩ := h
  exact ⟨V, h.congr fun i hi => by rw [hg i hi]⟩
/-- One of the sets: where it lies. -/
theorem SetsAt.get {col : Nat → Nat} {c : Nat} {w : World} {v : Value} {n m : Nat} {f : Nat → Nat} (h : SetsAt col c w v n m f) {i : Nat} (hi : i < n) :
    ∃ g cap p cap', v = .slice (some ⟨g, 0, Option.none⟩) n cap ∧ g < w.heap.size ∧ col g = c ∧ w.cell? ⟨g, i, Option.none⟩ = some (.slice p m cap') ∧ w.frozen? ⟨g, i, Option.none⟩ = false ∧ SetV w m (.slice p m cap') (f i) ∧ (∀ k, (Value.slice p m cap').ownBlock = some k → col k = c ∧ k ≠ g) := by
  obtain ⟨V, h⟩ := h
  obtain ⟨g, cap, rfl, hg, hd, _, hc, hf⟩ := h.block (by omega)
  have hr := h.row i hi
  simp only [setW_len] at hr
  have hs : SetV w m (V i) (f i) := hr
  obtain ⟨p, cap', he⟩ := hs.shape
  have hd2 := h.dom i hi
  have hne := h.ne i hi
  rw [he] at hs hd2 hne
  refine ⟨g, cap, p, cap', rfl, hg, hd, by rw [hc i hi, he], hf i, hs, fun k hk => ⟨hd2 k hk, fun e => hne k hk (by rw [e]; rfl)⟩⟩
/-- One of the sets is changed in place. -/
theorem SetsAt.inplace {col : Nat → Nat} {c : Nat} {w w' : World} {v : Value} {n m : Nat} {f : Nat → Nat} (h : SetsAt col c w v n m f) {i : Nat} (hi : i < n) {g : Nat} {p : Option Addr} {cap' y : Nat} {cap : Nat} (hv : v = .slice (some ⟨g, 0, Option.none⟩) n cap) (hc : w.cell? ⟨g, i, Option.none⟩ = some (.slice p m cap'))
    (hs : SetV w' m (.slice p m cap') y) (hg : w.grownBy w' (Value.slice p m cap').ownBlock) : SetsAt col c w' v n m (upd f i y) ∧ Touch col c w w' := by
  obtain ⟨V, h⟩ := h
  obtain ⟨g', cap2, hv', _, _, _, hc', _⟩ := h.block (by omega)
  rw [hv] at hv'
  injection hv' with e1 e2 e3
  injection e1 with e1
  injection e1 with e1
  subst e1
  have he : V i = .slice p m cap' := by
    have := (hc' i hi).symm.trans hc
    injection this
  have hr := h.inplace hi (w' := w') (xs := setW m y) (fun k hk hne => hg.block k hk (fun e => hne (by rw [he]; exact e.symm))) (by rw [he, setW_len]; exact hs)
  refine ⟨⟨V, hr.congr fun j hj => ?_⟩, Touch.of_grown hg fun k hk => h.dom i hi k (by rw [he]; exact hk)⟩
  by_cases e : j = i
  · subst e; rw [upd_same, upd_same]
  · rw [upd_ne _ _ e, upd_ne _ _ e]
/-- Color d becomes color c. -/
def repaint (col : Nat → Nat) (d c : Nat) : Nat → Nat := fun k => if col k = d then c else col k
theorem repaint_ne {col : Nat → Nat} {d c c' k : Nat} (h : col k = c') (hne : c' ≠ d) : repaint col d c k = c' := by unfold repaint; rw [if_neg (by rw [h]; exact hne)]; exact h
/-- One of the sets is replaced by a new one. -/
theorem SetsAt.store {col : Nat → Nat} {c : Nat} {w : World} {v : Value} {n m : Nat} {f : Nat → Nat} (h : SetsAt col c w v n m f) {i : Nat} (hi : i < n) {g cap : Nat} (hv : v = .slice (some ⟨g, 0, Option.none⟩) n cap) {u : Value} {y : Nat} (hu : SetV w m u y)
    {d : Nat} (hun : ∀ k, u.ownBlock = some k → col k = d) (hcd : c ≠ d) : SetsAt (repaint col d c) c (w.setCell ⟨g, i, Option.none⟩ u) v n m (upd f i y) ∧ Touch col c w (w.setCell ⟨g, i, Option.none⟩ u) := by
  obtain ⟨V, h⟩ := h
  have hD : ∀ k, col k = c → u.ownBlock ≠ some k := fun k hk e => hcd (by rw [← hk]; exact hun k e)
  have hg : col g = c := h.dg g (by rw [hv]; rfl)
  have hm := h.mono (G := fun k => repaint col d c k = c) (fun k _ hk => repaint_ne hk hcd)
  subst hv
  have hgl : g < w.heap.size := own0_lt h.out rfl
  have hX : ∀ k, k ≠ g → (w.setCell ⟨g, i, Option.none⟩ u).heap[k]? = w.heap[k]? := fun k hk => Below.heap_setCell _ _ _ _ hk
  have hug : u.ownBlock ≠ some g := hD g hg
  refine ⟨⟨upd V i u, ?_, fun j hj => ?_, fun j hj k e => ?_, fun j q hj hq hjq k e => ?_, hm.dg, fun j hj k e => ?_⟩, Touch.setCell hg u⟩
  · have e : (List.range n).map (upd V i u) = ((List.range n).map V).set i u := by
      apply List.ext_getElem?
      intro j
      rw [List.getElem?_set]
      by_cases hj : j < n
      · by_cases e : i = j
        · subst e; simp [hj, upd_same]
        · simp [hj, e, upd_ne V u (fun h => e h.symm)]
      · by_cases e : i = j
        · omega
        · simp [hj, e]
    rw [e]; exact own_setCell h.out hi u
  · by_cases e : j = i
    · subst e
      rw [upd_same]
      simp only [upd_same, setW_len]
      exact own0_block hu fun k hk2 => hX k (fun e => hug (e ▸ hk2))
    · rw [upd_ne _ _ e]
      simp only [upd_ne f y e]
      exact own0_block (h.row j hj) fun k hk2 => hX k (fun e2 => h.ne j hj k hk2 (by rw [e2]; rfl))
  · intro e2
    have e2 : g = k := by injection e2
    subst e2
    by_cases e1 : j = i
    · subst e1; rw [upd_same] at e; exact hug e
    · rw [upd_ne _ _ e1] at e; exact h.ne j hj g e rfl
  · by_cases e1 : j = i
    · subst e1
      rw [upd_same] at e
      rw [upd_ne _ _ (fun e => hjq e.symm)]
      intro e2
      exact hD k (h.dom q hq k e2) e
    · rw [upd_ne _ _ e1] at e
      by_cases e2 : q = i
      · subst e2
        rw [upd_same]
        exact hD k (h.dom j hj k e)
      · rw [upd_ne _ _ e2]
        exact h.ap j q hj hq hjq k e
  · by_cases e1 : j = i
    · subst e1; rw [upd_same] at e; exact if_pos (hun k e)
    · rw [upd_ne _ _ e1] at e
      exact repaint_ne (h.dom j hj k e) hcd

/-- Append of one-cell elements, their type any. -/
theorem wpList_append_cell {w : World} {ops : Array Oper} {rest : List Oper} {o : Oper} {a : Act} {Q : Exit → Act → World → Prop} (hgd : o.guard = none) (s x : Operand) (t e : TypeId) (z : Value) (bytes : Nat)
    (ho : o.op = .call { callee := .builtin .append, args := #[s, x], argTypes := #[t, t] }) (ht : Tryd.prog.underlying t = some (.slice e)) (hinfo : (Tryd.prog.info? e).map (fun i => (i.zero, i.size, i.bytes)) = some (some z, 1, bytes)) (hz1 : z.cells.size = 1) (hby : bytes ≤ 64)
    (base : Nat) (v : Value) (n : Nat) (xs : List Value) (hs : a.eval s = v) (hown : w.ownsRow base e 1 v n xs)
    (g c : Nat) (y : Value) (hx : a.eval x = .slice (some ⟨g, 0, none⟩) 1 c) (hy : w.cell? ⟨g, 0, none⟩ = some y) (hy1 : y.oneCell' = true)
    (h63 : n ≤ 1000000) (hbase : base ≤ w.heap.size)
    (h : ∀ p c' w', w'.ownsRow base e 1 (.slice p (n + 1) c') (n + 1) (xs ++ [y]) → w.grownBy w' v.ownBlock → ((Value.slice p (n + 1) c').ownBlock = v.ownBlock ∨ ∀ k, (Value.slice p (n + 1) c').ownBlock = some k → w.heap.size ≤ k) → wpList Tryd.prog ops Q rest (a.put o.dst (.slice p (n + 1) c')) w') : wpList Tryd.prog ops Q (o :: rest) a w := by
  refine wpList_plain hgd fun K hK => ?_
  obtain ⟨i, hi, hz, hsize, hbi⟩ := info_parts hinfo
  obtain ⟨v', w', hrun, h2, h3, _, h5⟩ := run_append_own_at (P := Tryd.prog) w base t o.type e i z 1 bytes ht hi hz hsize hbi hz1 (by decide) v n xs hown ⟨g, 0, none⟩ 1 c [y] rfl (fun j u hj => by
    have hjl : j < 1 := by
      obtain ⟨h, _⟩ := List.getElem?_eq_some_iff.1 hj
      simpa using h
    have : j = 0 := by omega
    subst this
    have e2 : (⟨g, 0, none⟩ : Addr).add 0 = ⟨g, 0, none⟩ := by unfold Addr.add; simp
    rw [e2, hy]
    simpa using hj) (fun u hu => by rw [List.mem_singleton] at hu; subst hu; exact hy1) (by unfold maxLen; omega) (by have : (n + 1) * bytes ≤ 1000001 * 64 := Nat.mul_le_mul (by omega) hby; omega) hbase
  have hsl : ∃ p c', v' = .slice p (n + 1) c' := by
    rcases h2.2 with ⟨rfl, hh⟩ | ⟨g, cap, cur, rfl, _⟩
    · omega
    · exact ⟨_, _, rfl⟩
  obtain ⟨p, c', rfl⟩ := hsl
  unfold Oper.wp execOp
  simp only [ho, resolve, invoke, builtin, Sem.run_bind, Sem.run_pure, Result.andThen_ok, List.map_toArray, List.map_cons, List.map_nil, hs, hx, hrun]
  exact hK _ _ (h p c' w' h2 h3 (h5.imp id fun e k hk => by rw [e] at hk; cases hk; exact Nat.le_refl _))

/-- A new set is appended: u lies in W2, which came of w by blocks of its own. -/
theorem SetsAt.push {col : Nat → Nat} {c : Nat} {w W2 w3 : World} {v v' u : Value} {n m x : Nat} {f : Nat → Nat} (h : SetsAt col c w v n m f) (hb : Below w.heap.size w W2) (hu : SetV W2 m u x) (huf : ∀ k, u.ownBlock = some k → w.heap.size ≤ k)
    (hg : W2.grownBy w3 v.ownBlock) (hV : ∃ V, RowsV 66 106 (fun k => col k = c) w v n V (fun i => setW m (f i)) ∧ w3.ownsRow 0 66 1 v' (n + 1) ((List.range n).map V ++ [u])) (hk : v'.ownBlock = v.ownBlock ∨ ∀ k, v'.ownBlock = some k → W2.heap.size ≤ k) :
    SetsAt (paint col w.heap.size c) c w3 v' (n + 1) m (upd f n x) ∧ Touch col c w w3 := by
  obtain ⟨V, h, hv⟩ := hV
  have hm := (h.mono (G := fun k => paint col w.heap.size c k = c) (fun k hk e => by rw [paint_lt hk]; exact e)).below hb
  have hs := hb.size
  refine ⟨⟨upd V n u, ((hm.push hg hv hk (xs := setW m x) (by rw [setW_len]; exact hu) (fun k hk => ⟨fun e => ?_, fun i hi e => ?_, paint_ge (huf k hk)⟩) (fun k hk => paint_ge (by omega)))).congr fun i hi => ?_⟩, (Touch.of_below hb).trans (Touch.of_grown hg fun k hk => h.dg k hk)⟩
  · have := own0_lt h.out e
    have := huf k hk; omega
  · have := own0_lt (h.row i hi) e
    have := huf k hk; omega
  · by_cases e : i = n
    · subst e; rw [upd_same, upd_same]
    · rw [upd_ne _ _ e, upd_ne _ _ e]
theorem SetsAt.open {col : Nat → Nat} {c : Nat} {w : World} {v : Value} {n m : Nat} {f : Nat → Nat} (h : SetsAt col c w v n m f) : ∃ V, RowsV 66 106 (fun k => col k = c) w v n V (fun i => setW m (f i)) := h

/-- A slice of integers of color c. -/
def IntsAt (col : Nat → Nat) (c : Nat) (w : World) (v : Value) (l : List Int) : Prop := w.ownsRow 0 3 1 v l.length (l.map (Value.int .i64)) ∧ ∀ k, v.ownBlock = some k → col k = c
theorem IntsAt.other {col : Nat → Nat} {c c' : Nat} {w w' : World} {v : Value} {l : List Int} (h : IntsAt col c w v l) (ht : Touch col c' w w') (hne : c ≠ c') : IntsAt (paint col w.heap.size c') c w' v l :=
  ⟨own0_block h.1 fun k hk => ht.block k (own0_lt h.1 hk) (by rw [h.2 k hk]; exact hne), fun k hk => by rw [paint_lt (own0_lt h.1 hk)]; exact h.2 k hk⟩
theorem IntsAt.below {col : Nat → Nat} {c : Nat} {w w' : World} {v : Value} {l : List Int} (h : IntsAt col c w v l) (hb : Below w.heap.size w w') : IntsAt col c w' v l :=
  ⟨own0_block h.1 fun k hk => hb.block k (own0_lt h.1 hk), h.2⟩
theorem IntsAt.nil (col : Nat → Nat) (c : Nat) (w : World) : IntsAt col c w (.slice none 0 0) [] := ⟨World.ownsRow_nil _ _ _ _, fun k hk => by cases hk⟩
theorem IntsAt.rd {col : Nat → Nat} {c : Nat} {w : World} {v : Value} {l : List Int} (h : IntsAt col c w v l) : RdI w v l := RdI.of_own h.1
theorem IntsAt.shape {col : Nat → Nat} {c : Nat} {w : World} {v : Value} {l : List Int} (h : IntsAt col c w v l) : ∃ p cap, v = .slice p l.length cap := h.rd.shape
theorem IntsAt.push {col : Nat → Nat} {c : Nat} {w W2 w3 : World} {v v' : Value} {l : List Int} {y : Int} (h : IntsAt col c w v l) (hb : Below w.heap.size w W2) (hg : W2.grownBy w3 v.ownBlock) (hv : w3.ownsRow 0 3 1 v' (l.length + 1) (l.map (Value.int .i64) ++ [.int .i64 y]))
    (hk : v'.ownBlock = v.ownBlock ∨ ∀ k, v'.ownBlock = some k → W2.heap.size ≤ k) : IntsAt (paint col w.heap.size c) c w3 v' (l ++ [y]) ∧ Touch col c w w3 := by
  refine ⟨⟨by rw [List.length_append, List.map_append]; exact hv, fun k e => ?_⟩, (Touch.of_below hb).trans (Touch.of_grown hg h.2)⟩
  rcases hk with h1 | h1
  · rw [h1] at e
    rw [paint_lt (own0_lt h.1 e)]; exact h.2 k e
  · have := h1 k e
    have := hb.size
    exact paint_ge (by omega)
/-- The last one is taken off. -/
theorem IntsAt.pop {col : Nat → Nat} {c : Nat} {w : World} {p : Option Addr} {cap n : Nat} {l : List Int} {y : Int} (h : IntsAt col c w (.slice p n cap) (l ++ [y])) (hn : n = l.length + 1) : IntsAt col c w (.slice p l.length cap) l := by
  obtain ⟨⟨h1, h2⟩, h3⟩ := h
  refine ⟨⟨by simp, ?_⟩, fun k hk => h3 k ?_⟩
  · rcases h2 with ⟨_, h0⟩ | ⟨g, cap', cur, e, hb, hh, hnc, hcm, hcs, htk⟩
    · simp at h0
    · injection e with e1 e2 e3
      subst e1 e3
      refine .inr ⟨g, cap, cur, rfl, hb, hh, by simp at hnc; omega, hcm, hcs, ?_⟩
      have := congrArg (List.take l.length) htk
      rw [List.take_take] at this
      simp only [Nat.mul_one] at this ⊢
      rw [show min l.length (l ++ [y]).length = l.length by simp] at this
      rw [this]; simp
  · cases p with
    | none => cases hk
    | some a => exact hk

/-- A row of bools of color c. -/
def WaitAt (col : Nat → Nat) (c : Nat) (w : World) (v : Value) (n : Nat) (f : Nat → Bool) : Prop := ∃ g, v = .slice (some ⟨g, 0, none⟩) n n ∧ w.rowIs g 4 n (fun i => .bool (f i)) ∧ col g = c
theorem WaitAt.other {col : Nat → Nat} {c c' : Nat} {w w' : World} {v : Value} {n : Nat} {f : Nat → Bool} (h : WaitAt col c w v n f) (ht : Touch col c' w w') (hne : c ≠ c') : WaitAt (paint col w.heap.size c') c w' v n f := by
  obtain ⟨g, hv, hr, hg⟩ := h
  exact ⟨g, hv, hr.of_block (ht.block g hr.lt (by rw [hg]; exact hne)), by rw [paint_lt hr.lt]; exact hg⟩
theorem WaitAt.below {col : Nat → Nat} {c : Nat} {w w' : World} {v : Value} {n : Nat} {f : Nat → Bool} (h : WaitAt col c w v n f) (hb : Below w.heap.size w w') : WaitAt col c w' v n f := by
  obtain ⟨g, hv, hr, hg⟩ := h
  exact ⟨g, hv, hr.of_block (hb.block g hr.lt), hg⟩
theorem WaitAt.set {col : Nat → Nat} {c : Nat} {w : World} {n g : Nat} {f : Nat → Bool} (h : WaitAt col c w (.slice (some ⟨g, 0, none⟩) n n) n f) (i : Nat) (b : Bool) : WaitAt col c (w.setCell ⟨g, i, none⟩ (.bool b)) (.slice (some ⟨g, 0, none⟩) n n) n (upd f i b) ∧ Touch col c w (w.setCell ⟨g, i, none⟩ (.bool b)) := by
  obtain ⟨g', hv, hr, hg⟩ := h
  injection hv with e1
  injection e1 with e1
  injection e1 with e1
  subst e1
  refine ⟨⟨g, rfl, (hr.set i (.bool b)).congr fun j hj => ?_, hg⟩, Touch.setCell hg _⟩
  by_cases e : j = i
  · subst e; rw [if_pos rfl, upd_same]
  · rw [if_neg e, upd_ne _ _ e]

/-- Slices of integers, all of color c. -/
def RowsAt (col : Nat → Nat) (c : Nat) (w : World) (v : Value) (n : Nat) (f : Nat → List Int) : Prop := ∃ V, RowsV 38 3 (fun k => col k = c) w v n V (fun i => (f i).map (Value.int .i64))
theorem RowsAt.other {col : Nat → Nat} {c c' : Nat} {w w' : World} {v : Value} {n : Nat} {f : Nat → List Int} (h : RowsAt col c w v n f) (ht : Touch col c' w w') (hne : c ≠ c') : RowsAt (paint col w.heap.size c') c w' v n f := by
  obtain ⟨V, h⟩ := h
  exact ⟨V, (h.mono (G := fun k => paint col w.heap.size c' k = c) (fun k hk e => by rw [paint_lt hk]; exact e)).keep fun k hk hlt => ht.block k hlt (by rw [paint_lt hlt] at hk; rw [hk]; exact hne)⟩
theorem RowsAt.below {col : Nat → Nat} {c : Nat} {w w' : World} {v : Value} {n : Nat} {f : Nat → List Int} (h : RowsAt col c w v n f) (hb : Below w.heap.size w w') : RowsAt col c w' v n f := by
  obtain ⟨V, h⟩ := h
  exact ⟨V, h.below hb⟩
theorem RowsAt.congr {col : Nat → Nat} {c : Nat} {w : World} {v : Value} {n : Nat} {f g : Nat → List Int} (h : RowsAt col c w v n f) (hg : ∀ i, i < n → f i = g i) : RowsAt col c w v n g := by
  obtain ⟨V, h⟩ := h
  exact ⟨V, h.congr fun i hi => by rw [hg i hi]⟩
theorem RowsAt.made (col : Nat → Nat) (c : Nat) (w : World) (n : Nat) (hn : n ≤ 1000000) (f : Nat → List Int) (hf : ∀ i, f i = []) : RowsAt (paint col w.heap.size c) c (w.alloc (.cells (madeCells #[Value.slice none 0 0] n) 38)) (.slice (some ⟨w.heap.size, 0, none⟩) n n) n f := by
  have h := RowsV.made (T := 38) (E := 3) (D := fun k => paint col w.heap.size c k = c) w n (by unfold maxLen; omega) (paint_ge (Nat.le_refl _))
  exact ⟨_, h.congr (Y := fun i => (f i).map (Value.int .i64)) fun i _ => by show [] = (f i).map _; rw [hf]; rfl⟩
theorem RowsAt.get {col : Nat → Nat} {c : Nat} {w : World} {v : Value} {n : Nat} {f : Nat → List Int} (h : RowsAt col c w v n f) {i : Nat} (hi : i < n) :
    ∃ g cap p cap', v = .slice (some ⟨g, 0, none⟩) n cap ∧ g < w.heap.size ∧ col g = c ∧ w.cell? ⟨g, i, none⟩ = some (.slice p (f i).length cap') ∧ w.frozen? ⟨g, i, none⟩ = false ∧ w.ownsRow 0 3 1 (.slice p (f i).length cap') (f i).length ((f i).map (Value.int .i64)) ∧ (∀ k, (Value.slice p (f i).length cap').ownBlock = some k → col k = c ∧ k ≠ g) := by
  obtain ⟨V, h⟩ := h
  obtain ⟨g, cap, rfl, hg, hd, _, hc, hf⟩ := h.block (by omega)
  have hr := h.row i hi
  simp only [List.length_map] at hr
  obtain ⟨p, cap', he⟩ := (RdI.of_own hr).shape
  have hd2 := h.dom i hi
  have hne := h.ne i hi
  rw [he] at hr hd2 hne
  exact ⟨g, cap, p, cap', rfl, hg, hd, by rw [hc i hi, he], hf i, hr, fun k hk => ⟨hd2 k hk, fun e => hne k hk (by rw [e]; rfl)⟩⟩
/-- A number is appended to one of the rows, and the row stored. -/
theorem RowsAt.pushed {col : Nat → Nat} {c : Nat} {w W2 w3 : World} {v u : Value} {n : Nat} {f : Nat → List Int} (h : RowsAt col c w v n f) {i : Nat} (hi : i < n) {g cap cap' : Nat} {p : Option Addr} {y : Int} (hv : v = .slice (some ⟨g, 0, none⟩) n cap) (hc : w.cell? ⟨g, i, none⟩ = some (.slice p (f i).length cap'))
    (hb : Below w.heap.size w W2) (hg : W2.grownBy w3 (Value.slice p (f i).length cap').ownBlock) (hu : w3.ownsRow 0 3 1 u ((f i).length + 1) ((f i).map (Value.int .i64) ++ [.int .i64 y])) (hk : u.ownBlock = (Value.slice p (f i).length cap').ownBlock ∨ ∀ k, u.ownBlock = some k → W2.heap.size ≤ k) :
    RowsAt (paint col w.heap.size c) c (w3.setCell ⟨g, i, none⟩ u) v n (upd f i (f i ++ [y])) ∧ Touch col c w (w3.setCell ⟨g, i, none⟩ u) := by
  obtain ⟨V, h⟩ := h
  obtain ⟨g', cap2, hv', _, hd, _, hc', _⟩ := h.block (by omega)
  rw [hv] at hv'
  injection hv' with e1 e2 e3
  injection e1 with e1
  injection e1 with e1
  subst e1
  have he : V i = .slice p (f i).length cap' := by
    have := (hc' i hi).symm.trans hc
    injection this
  have hm := h.mono (G := fun k => paint col w.heap.size c k = c) (fun k hk e => by rw [paint_lt hk]; exact e)
  have hs := hb.size
  have hr := hm.set hi (w' := w3) (xs := (f i ++ [y]).map (Value.int .i64)) (fun k hk hne => (hg.block k (by omega) (fun e => hne (by rw [he]; exact e.symm))).trans (hb.block k hk)) (Nat.le_trans hs hg.size) hv (u := u) (by rw [List.length_map, List.length_append, List.map_append]; exact hu) (by rw [he]; exact hk.imp id fun h k e => by have := h k e; omega) (fun k hk => paint_ge hk)
  refine ⟨⟨_, hr.congr fun j hj => ?_⟩, ((Touch.of_below hb).trans (Touch.of_grown hg fun k hk => h.dom i hi k (by rw [he]; exact hk))).trans (Touch.setCell hd _)⟩
  by_cases e : j = i
  · subst e; rw [upd_same, upd_same]
  · rw [upd_ne _ _ e, upd_ne _ _ e]
end Go.Proofs.YtikfjehollnjeaaDoor
