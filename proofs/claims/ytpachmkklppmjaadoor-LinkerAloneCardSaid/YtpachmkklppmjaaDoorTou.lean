/- Structures in memory whose blocks do not meet, told by a color for each block. No walk here. -/
import Derived.Test.YtpachmkklppmjaaDoorRegC
import Derived.Maps.AppendAt
set_option linter.unusedVariables false
set_option linter.unusedSimpArgs false
namespace Go.Proofs.YtpachmkklppmjaaDoor
open Go.RowKit

/-- Blocks of color c alone have turned. -/
structure Touch (col : Nat → Nat) (c : Nat) (w w' : World) : Prop where
  os : w'.os = w.os
  tape : w'.tape = w.tape
  output : w'.output = w.output
  size : w.heap.size ≤ w'.heap.size
  block : ∀ k, k < w.heap.size → col k ≠ c → w'.heap[k]? = w.heap[k]?
theorem Touch.refl (col : Nat → Nat) (c : Nat) (w : World) : Touch col c w w := ⟨rfl, rfl, rfl, Nat.le_refl _, fun _ _ _ => rfl⟩
theorem Touch.of_grown {col : Nat → Nat} {c : Nat} {w w' : World} {b : Option Nat} (h : w.grownBy w' b) (hb : ∀ k, b = some k → col k = c) : Touch col c w w' :=
  ⟨h.os, h.tape, h.output, h.size, fun k hk hne => h.block k hk (fun e => hne (hb k e.symm))⟩
theorem Touch.of_below {col : Nat → Nat} {c : Nat} {w w' : World} (h : Below w.heap.size w w') : Touch col c w w' := ⟨h.os, h.tape, h.output, h.size, fun k hk _ => h.block k hk⟩
theorem Touch.setCell {col : Nat → Nat} {c : Nat} {w : World} {a : Addr} (ha : col a.block = c) (v : Value) : Touch col c w (w.setCell a v) :=
  ⟨rfl, rfl, rfl, by simp [World.setCell], fun k _ hne => Below.heap_setCell _ _ _ _ (fun e => hne (by rw [e]; exact ha))⟩
theorem Touch.trans {col : Nat → Nat} {c : Nat} {a b d : World} (h : Touch col c a b) (k : Touch col c b d) : Touch col c a d :=
  ⟨k.os.trans h.os, k.tape.trans h.tape, k.output.trans h.output, Nat.le_trans h.size k.size, fun q hq hne => (k.block q (Nat.lt_of_lt_of_le hq h.size) hne).trans (h.block q hq hne)⟩
theorem Touch.below {col : Nat → Nat} {c B : Nat} {w w' : World} (h : Touch col c w w') (hB : B ≤ w.heap.size) (hc : ∀ k, k < B → col k ≠ c) : Below B w w' :=
  ⟨h.os, h.tape, h.output, h.size, fun k hk => h.block k (Nat.lt_of_lt_of_le hk hB) (hc k hk)⟩
/-- Blocks from n on get color c. -/
def paint (col : Nat → Nat) (n c : Nat) : Nat → Nat := fun k => if k < n then col k else c
theorem paint_lt {col : Nat → Nat} {n c k : Nat} (h : k < n) : paint col n c k = col k := if_pos h
theorem paint_ge {col : Nat → Nat} {n c k : Nat} (h : n ≤ k) : paint col n c k = c := if_neg (by omega)

theorem low_paint {B : Nat} {col : Nat → Nat} {n c : Nat} (h : ∀ k, k < B → col k = 0) (hB : B ≤ n) : ∀ k, k < B → paint col n c k = 0 := fun k hk => by rw [paint_lt (by omega)]; exact h k hk

/-- A row of its own, all of color c. -/
def OwnC (e : TypeId) (size : Nat) (col : Nat → Nat) (c : Nat) (w : World) (v : Value) (n : Nat) (xs : List Value) : Prop := w.ownsRow 0 e size v n xs ∧ ∀ k, v.ownBlock = some k → col k = c
section
variable {e : TypeId} {size : Nat} {col : Nat → Nat} {c c' : Nat} {w w' : World} {v : Value} {n : Nat} {xs : List Value}
theorem OwnC.other (h : OwnC e size col c w v n xs) (ht : Touch col c' w w') (hne : c ≠ c') : OwnC e size (paint col w.heap.size c') c w' v n xs :=
  ⟨own0_block h.1 fun k hk => ht.block k (own0_lt h.1 hk) (by rw [h.2 k hk]; exact hne), fun k hk => by rw [paint_lt (own0_lt h.1 hk)]; exact h.2 k hk⟩
theorem OwnC.below (h : OwnC e size col c w v n xs) (hb : Below w.heap.size w w') : OwnC e size col c w' v n xs :=
  ⟨own0_block h.1 fun k hk => hb.block k (own0_lt h.1 hk), h.2⟩
theorem OwnC.nil (e : TypeId) (size : Nat) (col : Nat → Nat) (c : Nat) (w : World) : OwnC e size col c w (.slice none 0 0) 0 [] := ⟨World.ownsRow_nil _ _ _ _, fun k hk => by cases hk⟩
theorem OwnC.mono {col' : Nat → Nat} (h : OwnC e size col c w v n xs) (hc : ∀ k, k < w.heap.size → col k = c → col' k = c) : OwnC e size col' c w v n xs := ⟨h.1, fun k hk => hc k (own0_lt h.1 hk) (h.2 k hk)⟩
theorem OwnC.shape (h : OwnC e size col c w v n xs) : ∃ p cap, v = .slice p n cap := by
  rcases h.1.2 with ⟨rfl, rfl⟩ | ⟨g, cap, cur, rfl, _⟩
  · exact ⟨_, _, rfl⟩
  · exact ⟨_, _, rfl⟩
/-- Appended to, in W2, which came of w by blocks of its own. -/
theorem OwnC.push {W2 w3 : World} {v' : Value} {n' : Nat} {xs' : List Value} (h : OwnC e size col c w v n xs) (hb : Below w.heap.size w W2) (hg : W2.grownBy w3 v.ownBlock) (hv : w3.ownsRow 0 e size v' n' xs')
    (hk : v'.ownBlock = v.ownBlock ∨ ∀ k, v'.ownBlock = some k → W2.heap.size ≤ k) : OwnC e size (paint col w.heap.size c) c w3 v' n' xs' ∧ Touch col c w w3 := by
  refine ⟨⟨hv, fun k e => ?_⟩, (Touch.of_below hb).trans (Touch.of_grown hg h.2)⟩
  rcases hk with h1 | h1
  · rw [h1] at e
    rw [paint_lt (own0_lt h.1 e)]; exact h.2 k e
  · have := h1 k e
    have := hb.size
    exact paint_ge (by omega)
/-- A cell of it. -/
theorem OwnC.cell (h : OwnC e size col c w v n xs) {j : Nat} (hj : j < n * size) : ∃ g cap, v = .slice (some ⟨g, 0, none⟩) n cap ∧ g < w.heap.size ∧ col g = c ∧ w.cell? ⟨g, j, none⟩ = xs[j]? ∧ w.frozen? ⟨g, j, none⟩ = false := by
  rcases h.1.2 with ⟨rfl, rfl⟩ | ⟨g, cap, cur, rfl, _, hh, hnc, _, hcs, htk⟩
  · omega
  · refine ⟨g, cap, rfl, ltB hh, h.2 g rfl, ?_, by simp [World.frozen?, hh]⟩
    rw [← htk, List.getElem?_take, if_pos hj]
    simp only [World.cell?, hh, Option.isSome_none, Bool.false_eq_true, if_false]
    rw [Array.getElem?_toList]
end

/-- Append of one element, whatever its cells. -/
theorem wpList_append_els {w : World} {ops : Array Oper} {rest : List Oper} {o : Oper} {a : Act} {Q : Exit → Act → World → Prop} (hgd : o.guard = none) (s x : Operand) (t e : TypeId) (z : Value) (size bytes : Nat)
    (ho : o.op = .call { callee := .builtin .append, args := #[s, x], argTypes := #[t, t] }) (ht : Tryd.prog.underlying t = some (.slice e)) (hinfo : (Tryd.prog.info? e).map (fun i => (i.zero, i.size, i.bytes)) = some (some z, size, bytes)) (hz1 : z.cells.size = size) (hsz : 0 < size) (hby : bytes ≤ 64)
    (v : Value) (n : Nat) (xs : List Value) (hs : a.eval s = v) (hown : w.ownsRow 0 e size v n xs)
    (g c : Nat) (ys : List Value) (hx : a.eval x = .slice (some ⟨g, 0, none⟩) 1 c) (hyl : ys.length = size) (hy : ∀ j u, ys[j]? = some u → w.cell? ⟨g, j, none⟩ = some u) (hy1 : ∀ u ∈ ys, u.oneCell' = true)
    (h63 : n ≤ 1000000)
    (h : ∀ p c' w', w'.ownsRow 0 e size (.slice p (n + 1) c') (n + 1) (xs ++ ys) → w.grownBy w' v.ownBlock → ((Value.slice p (n + 1) c').ownBlock = v.ownBlock ∨ ∀ k, (Value.slice p (n + 1) c').ownBlock = some k → w.heap.size ≤ k) → wpList Tryd.prog ops Q rest (a.put o.dst (.slice p (n + 1) c')) w') : wpList Tryd.prog ops Q (o :: rest) a w := by
  refine wpList_plain hgd fun K hK => ?_
  obtain ⟨i, hi, hie⟩ := Option.map_eq_some_iff.1 hinfo
  simp only [Prod.mk.injEq] at hie
  obtain ⟨v', w', hrun, h2, h3, _, h5⟩ := run_append_own_at (P := Tryd.prog) w 0 t o.type e i z size bytes ht hi hie.1 hie.2.1 hie.2.2 hz1 hsz v n xs hown ⟨g, 0, none⟩ 1 c ys (by rw [hyl, Nat.one_mul]) (fun j u hj => by
    have e2 : (⟨g, 0, none⟩ : Addr).add j = ⟨g, j, none⟩ := by unfold Addr.add; split <;> simp_all
    rw [e2]; exact hy j u hj) hy1 (by unfold maxLen; omega) (by have : (n + 1) * bytes ≤ 1000001 * 64 := Nat.mul_le_mul (by omega) hby; omega) (Nat.zero_le _)
  have hsl : ∃ p c', v' = .slice p (n + 1) c' := by
    rcases h2.2 with ⟨rfl, hh⟩ | ⟨g, cap, cur, rfl, _⟩
    · omega
    · exact ⟨_, _, rfl⟩
  obtain ⟨p, c', rfl⟩ := hsl
  unfold Oper.wp execOp
  simp only [ho, resolve, invoke, builtin, Sem.run_bind, Sem.run_pure, Result.andThen_ok, List.map_toArray, List.map_cons, List.map_nil, hs, hx, hrun]
  exact hK _ _ (h p c' w' h2 h3 (h5.imp id fun e k hk => by rw [e] at hk; cases hk; exact Nat.le_refl _))
end Go.Proofs.YtpachmkklppmjaaDoor
