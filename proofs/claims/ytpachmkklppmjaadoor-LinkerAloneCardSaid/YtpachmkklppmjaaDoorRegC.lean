/- Slices of slices of integers: such that can be read, and such that the call itself makes. No walk here. -/
import Derived.Test.YtpachmkklppmjaaDoorBase
import Derived.Deep.OwnRows
set_option linter.unusedVariables false
set_option linter.unusedSimpArgs false
namespace Go.Proofs.YtpachmkklppmjaaDoor
open Go.RowKit

theorem ltB {w : World} {b : Nat} {o : Obj} (h : w.heap[b]? = some o) : b < w.heap.size := (Array.getElem?_eq_some_iff.1 h).1

/-- A slice of integers that can be read. -/
def RdI (w : World) (v : Value) (xs : List Int) : Prop :=
  ∃ p cap, v = .slice p xs.length cap ∧ ∀ k, k < xs.length → ∃ m off, p = some ⟨m, off, none⟩ ∧ m < w.heap.size ∧ w.cell? ⟨m, off + k, none⟩ = some (.int .i64 (xs.getD k 0))
theorem RdI.shape {w : World} {v : Value} {xs : List Int} (h : RdI w v xs) : ∃ p cap, v = .slice p xs.length cap := by
  obtain ⟨p, cap, hp, _⟩ := h
  exact ⟨p, cap, hp⟩
theorem RdI.keep {w w' : World} {v : Value} {xs : List Int} (h : RdI w v xs) (hs : w.heap.size ≤ w'.heap.size) (hb : ∀ k, v.ownBlock = some k → k < w.heap.size → w'.heap[k]? = w.heap[k]?) : RdI w' v xs := by
  obtain ⟨p, cap, rfl, hc⟩ := h
  refine ⟨p, cap, rfl, fun k hk => ?_⟩
  obtain ⟨m, off, rfl, hm, hx⟩ := hc k hk
  exact ⟨m, off, rfl, by omega, (World.cell?_of_block (w := w) (hb m rfl hm)).trans hx⟩
theorem RdI.below {B : Nat} {w w' : World} {v : Value} {xs : List Int} (h : RdI w v xs) (hb : Below B w w') (hB : w.heap.size ≤ B) : RdI w' v xs :=
  h.keep hb.size fun k _ hk => hb.block k (by omega)
theorem RdI.of_own {w : World} {base : Nat} {e : TypeId} {v : Value} {xs : List Int} (h : w.ownsRow base e 1 v xs.length (xs.map (Value.int .i64))) : RdI w v xs := by
  rcases h.2 with ⟨rfl, hn⟩ | ⟨g, cap, cur, rfl, hg, hh, hnc, hcap, hcs, htk⟩
  · exact ⟨none, 0, by rw [hn], fun k hk => by omega⟩
  · refine ⟨some ⟨g, 0, none⟩, cap, rfl, fun k hk => ⟨g, 0, rfl, ltB hh, ?_⟩⟩
    have h1 : (cur.toList.take (xs.length * 1))[k]? = (xs.map (Value.int .i64))[k]? := by rw [htk]
    rw [Nat.mul_one, List.getElem?_take, if_pos hk] at h1
    simp only [World.cell?, hh, Option.isSome_none, Bool.false_eq_true, if_false, Nat.zero_add]
    rw [← Array.getElem?_toList, h1]
    simp [List.getElem?_eq_getElem hk, List.getD_eq_getElem?_getD]

/-- A slice of slices that can be read. -/
def RdR (w : World) (v : Value) (e : List (List Int)) : Prop :=
  ∃ p cap, ∃ V : Nat → Value, v = .slice p e.length cap ∧ ∀ a, a < e.length → (∃ m off, p = some ⟨m, off, none⟩ ∧ m < w.heap.size ∧ w.cell? ⟨m, off + a, none⟩ = some (V a)) ∧ RdI w (V a) (e.getD a [])
theorem RdR.below {B : Nat} {w w' : World} {v : Value} {e : List (List Int)} (h : RdR w v e) (hb : Below B w w') (hB : w.heap.size ≤ B) : RdR w' v e := by
  obtain ⟨p, cap, V, hv, hc⟩ := h
  refine ⟨p, cap, V, hv, fun a ha => ?_⟩
  obtain ⟨⟨m, off, hp, hm, hx⟩, hr⟩ := hc a ha
  exact ⟨⟨m, off, hp, Nat.lt_of_lt_of_le hm hb.size, (hb.cell (p := ⟨m, off + a, none⟩) (Nat.lt_of_lt_of_le hm hB)).trans hx⟩, hr.below hb hB⟩
theorem RdR.row {w : World} {v : Value} {e : List (List Int)} (h : RdR w v e) (a : Nat) (ha : a < e.length) :
    ∃ m off cap q c, v = .slice (some ⟨m, off, none⟩) e.length cap ∧ m < w.heap.size ∧ w.cell? ⟨m, off + a, none⟩ = some (.slice q (e.getD a []).length c) ∧ RdI w (.slice q (e.getD a []).length c) (e.getD a []) := by
  obtain ⟨p, cap, V, rfl, hc⟩ := h
  obtain ⟨⟨m, off, rfl, hm, hx⟩, hr⟩ := hc a ha
  obtain ⟨q, c, hq⟩ := hr.shape
  rw [hq] at hx hr
  exact ⟨m, off, cap, q, c, rfl, hm, hx, hr⟩
theorem RdR.shape {w : World} {v : Value} {e : List (List Int)} (h : RdR w v e) : ∃ p cap, v = .slice p e.length cap := by
  obtain ⟨p, cap, V, hp, _⟩ := h
  exact ⟨p, cap, hp⟩

def upd {α : Type} (f : Nat → α) (a : Nat) (x : α) : Nat → α := fun j => if j = a then x else f j
theorem upd_same {α : Type} (f : Nat → α) (a : Nat) (x : α) : upd f a x a = x := if_pos rfl
theorem upd_ne {α : Type} (f : Nat → α) {a j : Nat} (x : α) (h : j ≠ a) : upd f a x j = f j := if_neg h

theorem own0_lt {w : World} {base : Nat} {e : TypeId} {size : Nat} {v : Value} {n : Nat} {xs : List Value} (h : w.ownsRow base e size v n xs) {k : Nat} (hk : v.ownBlock = some k) : k < w.heap.size := by
  rcases h.2 with ⟨rfl, _⟩ | ⟨g', cap, cur, rfl, hb, hc, _⟩
  · cases hk
  · cases hk
    exact ltB hc
theorem own0_block {w w' : World} {base : Nat} {e : TypeId} {size : Nat} {v : Value} {n : Nat} {xs : List Value} (h : w.ownsRow base e size v n xs) (hb : ∀ k, v.ownBlock = some k → w'.heap[k]? = w.heap[k]?) : w'.ownsRow base e size v n xs := by
  obtain ⟨h1, h2⟩ := h
  refine ⟨h1, ?_⟩
  rcases h2 with h2 | ⟨g, cap, cur, rfl, b, c, d⟩
  · exact .inl h2
  · exact .inr ⟨g, cap, cur, rfl, b, (hb g rfl).trans c, d⟩
theorem own0_base {w : World} {base b : Nat} {e : TypeId} {size : Nat} {v : Value} {n : Nat} {xs : List Value} (h : w.ownsRow base e size v n xs) (hb : ∀ k, v.ownBlock = some k → b ≤ k) : w.ownsRow b e size v n xs := by
  obtain ⟨h1, h2⟩ := h
  refine ⟨h1, ?_⟩
  rcases h2 with h2 | ⟨g, cap, cur, rfl, _, c, d⟩
  · exact .inl h2
  · exact .inr ⟨g, cap, cur, rfl, hb g rfl, c, d⟩

end Go.Proofs.YtpachmkklppmjaaDoor
