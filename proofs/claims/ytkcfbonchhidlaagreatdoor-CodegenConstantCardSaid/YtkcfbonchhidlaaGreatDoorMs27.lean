import Derived.Test.YtkcfbonchhidlaaGreatDoorMs26
import Derived.Test.YtkcfbonchhidlaaGreatDoorMs18
import Derived.LoopTactic
set_option linter.unusedVariables false
set_option linter.unusedSimpArgs false
namespace Go.Proofs.YtkcfbonchhidlaaGreatDoor
open Go.Lib

theorem sorted_ext : ∀ (l1 l2 : List Int), l1.Pairwise (· < ·) → l2.Pairwise (· < ·) → (∀ x, x ∈ l1 ↔ x ∈ l2) → l1 = l2
  | [], [], _, _, _ => rfl
  | [], b :: l, _, _, h => by have := (h b).2 (List.mem_cons_self ..); simp at this
  | a :: l, [], _, _, h => by have := (h a).1 (List.mem_cons_self ..); simp at this
  | a :: l, b :: r, h1, h2, h => by
    rw [List.pairwise_cons] at h1 h2
    have e : a = b := by
      rcases List.mem_cons.1 ((h a).1 (List.mem_cons_self ..)) with e | e
      · exact e
      · rcases List.mem_cons.1 ((h b).2 (List.mem_cons_self ..)) with e' | e'
        · exact e'.symm
        · have := h1.1 b e'; have := h2.1 a e; omega
    subst e
    rw [sorted_ext l r h1.2 h2.2 (fun x => ⟨fun hx => by
      rcases List.mem_cons.1 ((h x).1 (List.mem_cons_of_mem _ hx)) with e | e
      · subst e; have := h1.1 x hx; omega
      · exact e, fun hx => by
      rcases List.mem_cons.1 ((h x).2 (List.mem_cons_of_mem _ hx)) with e | e
      · subst e; have := h2.1 x hx; omega
      · exact e⟩)]

theorem sortI_mem (xs : List Int) (x : Int) : x ∈ sortI xs ↔ x ∈ xs := by unfold sortI; rw [List.mem_mergeSort]
theorem sortI_le (xs : List Int) : (sortI xs).Pairwise (· ≤ ·) := by
  unfold sortI
  have := List.pairwise_mergeSort (le := fun (x y : Int) => decide (x ≤ y)) (by intro a b c; simp only [decide_eq_true_eq]; omega) (by intro a b; simp only [Bool.or_eq_true, decide_eq_true_eq]; omega) xs
  exact this.imp (by intro a b h; simpa using h)
theorem sortI_nodup {xs : List Int} (h : xs.Nodup) : (sortI xs).Pairwise (· < ·) := by
  have h2 : (sortI xs).Nodup := (List.mergeSort_perm xs _).nodup_iff.2 h
  have h1 := sortI_le xs
  exact List.Pairwise.imp₂ (fun a b h1 h2 => by have : a ≠ b := h2; omega) h1 h2

theorem compact_mem_aux (d : Array Int) (hd : ∀ i j, i ≤ j → j < d.size → d[i]! ≤ d[j]!) : ∀ m, m ≤ d.size → (compactUpTo d m).Pairwise (· < ·) ∧ ∀ x, x ∈ compactUpTo d m ↔ ∃ j, j < m ∧ d[j]! = x
  | 0, _ => ⟨by simp [compactUpTo], fun x => by simp [compactUpTo]⟩
  | m+1, hm => by
    obtain ⟨h1, h2⟩ := compact_mem_aux d hd m (by omega)
    rw [compactUpTo_succ]
    by_cases hk : keeps d m = true
    · rw [if_pos hk]
      constructor
      · rw [List.pairwise_append]
        refine ⟨h1, List.pairwise_singleton .., fun x hx y hy => ?_⟩
        rw [List.mem_singleton] at hy; subst hy
        obtain ⟨j, hj, rfl⟩ := (h2 x).1 hx
        have hne : d[m]! ≠ d[m-1]! := by
          rcases of_decide_eq_true hk with e | e
          · omega
          · exact e
        have a1 := hd j (m-1) (by omega) (by omega)
        have a2 := hd (m-1) m (by omega) (by omega)
        omega
      · intro x
        rw [List.mem_append, h2, List.mem_singleton]
        constructor
        · rintro (⟨j, hj, e⟩ | e)
          · exact ⟨j, by omega, e⟩
          · exact ⟨m, by omega, e.symm⟩
        · rintro ⟨j, hj, e⟩
          by_cases hjm : j = m
          · subst hjm; exact .inr e.symm
          · exact .inl ⟨j, by omega, e⟩
    · rw [if_neg hk, List.append_nil]
      refine ⟨h1, fun x => ?_⟩
      rw [h2]
      constructor
      · rintro ⟨j, hj, e⟩; exact ⟨j, by omega, e⟩
      · rintro ⟨j, hj, e⟩
        by_cases hjm : j = m
        · subst hjm
          simp only [keeps, decide_eq_true_eq, not_or, Decidable.not_not] at hk
          exact ⟨j - 1, by omega, by rw [← hk.2]; exact e⟩
        · exact ⟨j, by omega, e⟩

theorem compact_sorted (zs : List Int) (h : zs.Pairwise (· ≤ ·)) : (compact zs).Pairwise (· < ·) ∧ ∀ x, x ∈ compact zs ↔ x ∈ zs := by
  have hg : ∀ i, (hi : i < zs.length) → zs.toArray[i]! = zs[i] := fun i hi => by simp [hi]
  obtain ⟨h1, h2⟩ := compact_mem_aux zs.toArray (fun i j hij hj => by
    have hj' : j < zs.length := by simpa using hj
    rw [hg i (by omega), hg j hj']
    rcases Nat.lt_or_eq_of_le hij with h' | h'
    · exact List.pairwise_iff_getElem.1 h i j _ _ h'
    · subst h'; omega) zs.length (by simp)
  refine ⟨h1, fun x => ?_⟩
  rw [compact, h2]
  constructor
  · rintro ⟨j, hj, e⟩; rw [hg j hj] at e; subst e; exact List.getElem_mem _
  · intro hx
    obtain ⟨j, hj, e⟩ := List.mem_iff_getElem.1 hx
    exact ⟨j, hj, by rw [hg j hj]; exact e⟩

def P1 (e : List (List Int)) (a b : Nat) : Bool := b != a && (e.getD a []).contains (b : Int)
def adjG (e : List (List Int)) (a b : Nat) : Bool := a != b && ((e.getD a []).contains (b : Int) || (e.getD b []).contains (a : Int))
theorem adj_P1 (e : List (List Int)) (a b : Nat) : adjG e a b = (P1 e a b || P1 e b a) := by
  unfold adjG P1
  by_cases h : a = b
  · subst h; simp
  · have h' : b ≠ a := fun e => h e.symm
    rw [bne_iff_ne.2 h, bne_iff_ne.2 h', Bool.true_and, Bool.true_and, Bool.true_and]
theorem adj_sym (e : List (List Int)) (a b : Nat) : adjG e a b = adjG e b a := by rw [adj_P1, adj_P1, Bool.or_comm]
theorem adj_irr (e : List (List Int)) (a : Nat) : adjG e a a = false := by simp [adjG]

def upI (l : List Nat) : List Int := l.map fun (b : Nat) => (b : Int)
theorem mem_upI (l : List Nat) (x : Int) : x ∈ upI l ↔ ∃ b ∈ l, (b : Int) = x := List.mem_map
theorem upI_lt {l : List Nat} (h : l.Pairwise (· < ·)) : (upI l).Pairwise (· < ·) := by
  unfold upI; rw [List.pairwise_map]; exact h.imp (fun h => by omega)
theorem filter_lt (n : Nat) (p : Nat → Bool) : ((List.range n).filter p).Pairwise (· < ·) := List.Pairwise.sublist List.filter_sublist List.pairwise_lt_range
theorem mem_upF (n : Nat) (p : Nat → Bool) (x : Int) : x ∈ upI ((List.range n).filter p) ↔ ∃ b, b < n ∧ p b = true ∧ (b : Int) = x := by
  rw [mem_upI]
  constructor
  · rintro ⟨b, hb, e⟩; rw [List.mem_filter, List.mem_range] at hb; exact ⟨b, hb.1, hb.2, e⟩
  · rintro ⟨b, h1, h2, e⟩; exact ⟨b, List.mem_filter.2 ⟨List.mem_range.2 h1, h2⟩, e⟩

def own0 (e : List (List Int)) (a : Nat) : List Int := (e.getD a []).filter (fun b => decide (0 ≤ b ∧ b < (e.length : Int) ∧ b ≠ (a : Int)))
def own1 (e : List (List Int)) (a : Nat) : List Int := upI ((List.range e.length).filter (P1 e a))
def nbI (e : List (List Int)) (a : Nat) : List Int := upI (nbs e.length (adjG e) a)

theorem own1_eq (e : List (List Int)) (a : Nat) : compact (sortI (own0 e a)) = own1 e a := by
  obtain ⟨h1, h2⟩ := compact_sorted _ (sortI_le (own0 e a))
  refine sorted_ext _ _ h1 (upI_lt (filter_lt _ _)) (fun x => ?_)
  rw [h2, sortI_mem, own1, mem_upF, own0, List.mem_filter, decide_eq_true_eq]
  constructor
  · rintro ⟨h, h3, h4, h5⟩
    refine ⟨x.toNat, by omega, ?_, by omega⟩
    have ex : ((x.toNat : Nat) : Int) = x := by omega
    unfold P1
    rw [ex, Bool.and_eq_true, bne_iff_ne]
    exact ⟨by omega, List.contains_iff_mem.2 h⟩
  · rintro ⟨b, h3, h4, rfl⟩
    unfold P1 at h4
    rw [Bool.and_eq_true, bne_iff_ne] at h4
    exact ⟨List.contains_iff_mem.1 h4.2, by omega, by omega, by omega⟩

theorem mem_own1 (e : List (List Int)) (a b : Nat) (hb : b < e.length) : (own1 e a).contains (b : Int) = P1 e a b := by
  rw [Bool.eq_iff_iff, List.contains_iff_mem, own1, mem_upF]
  constructor
  · rintro ⟨c, h1, h2, h3⟩
    have : c = b := by omega
    subst this; exact h2
  · intro h; exact ⟨b, hb, h, rfl⟩

def mis (e : List (List Int)) (a j b : Nat) : List Int :=
  upI ((List.range a).filter (fun c => P1 e c b && !P1 e b c)) ++ (if ((own1 e a).take j).contains (b : Int) && !P1 e b a then [(a : Int)] else [])
theorem mis_start (e : List (List Int)) (b : Nat) : mis e 0 0 b = [] := by simp [mis, upI]
theorem mis_row (e : List (List Int)) (a b : Nat) (hb : b < e.length) : mis e a (own1 e a).length b = mis e (a+1) 0 b := by
  unfold mis
  rw [List.take_length, mem_own1 e a b hb, List.take_zero, List.range_succ, List.filter_append]
  unfold upI
  rw [List.map_append, List.append_assoc]
  congr 1
  have : ([] : List Int).contains (b : Int) = false := rfl
  rw [this, Bool.false_and]
  by_cases h : (P1 e a b && !P1 e b a) = true
  · rw [if_pos h, List.filter_cons_of_pos (p := fun c => P1 e c b && !P1 e b c) h]; rfl
  · rw [if_neg h, List.filter_cons_of_neg (p := fun c => P1 e c b && !P1 e b c) h]; rfl
theorem own1_lt (e : List (List Int)) (a : Nat) : (own1 e a).Pairwise (· < ·) := upI_lt (filter_lt _ _)
theorem own1_nat (e : List (List Int)) (a : Nat) (j : Nat) (hj : j < (own1 e a).length) : ∃ b : Nat, (own1 e a).getD j 0 = (b : Int) ∧ b < e.length ∧ P1 e a b = true := by
  have h := List.getElem_mem hj
  unfold own1 at h
  rw [mem_upF] at h
  obtain ⟨b, h1, h2, h3⟩ := h
  refine ⟨b, ?_, h1, h2⟩
  rw [List.getD_eq_getElem?_getD, List.getElem?_eq_getElem hj]
  exact h3.symm
theorem mis_next (e : List (List Int)) (a j q : Nat) (hj : j < (own1 e a).length) (hq : (own1 e a).getD j 0 = (q : Int)) (b : Nat) :
    mis e a (j+1) b = if b = q ∧ P1 e q a = false then mis e a j b ++ [(a : Int)] else mis e a j b := by
  unfold mis
  have hq' : (own1 e a)[j] = (q : Int) := by rw [List.getD_eq_getElem?_getD, List.getElem?_eq_getElem hj] at hq; exact hq
  have ht : (own1 e a).take (j+1) = (own1 e a).take j ++ [(q : Int)] := by rw [← hq', List.take_succ_eq_append_getElem hj]
  have hne : (q : Int) ∉ (own1 e a).take j := by
    intro h
    obtain ⟨i, hi, ei⟩ := List.mem_iff_getElem.1 h
    rw [List.length_take] at hi
    rw [List.getElem_take] at ei
    have := List.pairwise_iff_getElem.1 (own1_lt e a) i j (by omega) hj (by omega)
    omega
  rw [ht]
  by_cases hb : b = q
  · subst hb
    have h1 : ((own1 e a).take j ++ [(b : Int)]).contains (b : Int) = true := List.contains_iff_mem.2 (by simp)
    have h2 : ((own1 e a).take j).contains (b : Int) = false := Bool.eq_false_iff.2 (fun h => hne (List.contains_iff_mem.1 h))
    rw [h1, h2, Bool.true_and, Bool.false_and]
    cases hp : P1 e b a <;> simp
  · rw [if_neg (fun (h : b = q ∧ P1 e q a = false) => hb h.1)]
    have h1 : ((own1 e a).take j ++ [(q : Int)]).contains (b : Int) = ((own1 e a).take j).contains (b : Int) := by
      rw [Bool.eq_iff_iff, List.contains_iff_mem, List.contains_iff_mem, List.mem_append, List.mem_singleton]
      exact ⟨fun h => h.resolve_right (fun e => hb (by omega)), .inl⟩
    rw [h1]

theorem own_final (e : List (List Int)) (b : Nat) (hb : b < e.length) : sortI (own1 e b ++ mis e e.length 0 b) = nbI e b := by
  have hm : mis e e.length 0 b = upI ((List.range e.length).filter (fun c => P1 e c b && !P1 e b c)) := by
    unfold mis
    rw [List.take_zero]
    have : ([] : List Int).contains (b : Int) = false := rfl
    rw [this, Bool.false_and, if_neg Bool.noConfusion, List.append_nil]
  rw [hm]
  have hnd : ∀ {l : List Int}, l.Pairwise (· < ·) → l.Nodup := fun h => h.imp (fun h => by omega)
  refine sorted_ext _ _ (sortI_nodup ?_) (upI_lt (filter_lt _ _)) (fun x => ?_)
  · rw [List.nodup_append]
    refine ⟨hnd (own1_lt e b), hnd (upI_lt (filter_lt _ _)), fun x hx y hy => ?_⟩
    rw [own1, mem_upF] at hx; rw [mem_upF] at hy
    obtain ⟨c, _, h1, rfl⟩ := hx
    obtain ⟨d, _, h2, rfl⟩ := hy
    intro e
    have : c = d := by omega
    subst this
    rw [h1] at h2; simp at h2
  · rw [sortI_mem, List.mem_append, own1, mem_upF, mem_upF, nbI, nbs, mem_upF]
    constructor
    · rintro (⟨c, h1, h2, h3⟩ | ⟨c, h1, h2, h3⟩)
      · exact ⟨c, h1, by rw [adj_P1, h2]; rfl, h3⟩
      · rw [Bool.and_eq_true] at h2
        exact ⟨c, h1, by rw [adj_P1, h2.1, Bool.or_true], h3⟩
    · rintro ⟨c, h1, h2, h3⟩
      rw [adj_P1] at h2
      cases hp : P1 e b c with
      | true => exact .inl ⟨c, h1, hp, h3⟩
      | false =>
        rw [hp, Bool.false_or] at h2
        exact .inr ⟨c, h1, by rw [h2, hp]; rfl, h3⟩
theorem own_same (e : List (List Int)) (b : Nat) (hb : b < e.length) (h : mis e e.length 0 b = []) : own1 e b = nbI e b := by
  rw [← own_final e b hb, h, List.append_nil]
  exact sorted_ext _ _ (own1_lt e b) (sortI_nodup ((own1_lt e b).imp (fun h => by omega))) (fun x => (sortI_mem _ _).symm)
end Go.Proofs.YtkcfbonchhidlaaGreatDoor

set_option linter.unusedVariables false
set_option linter.unusedSimpArgs false
namespace Go.Proofs.YtkcfbonchhidlaaGreatDoor
open Go.RowKit

def RowsMax (e : List (List Int)) (m : Nat) : Prop := ∀ a, (e.getD a []).length ≤ m

def MarkAt (w : World) (G n : Nat) (g : List Nat) : Prop := w.rowIs G 4 n (fun i => .bool (g.contains i))
def ColAt (w : World) (O n : Nat) (out : List Int) : Prop := w.rowIs O 3 n (fun i => .int .i64 (out.getD i (-1)))

end Go.Proofs.YtkcfbonchhidlaaGreatDoor

set_option linter.unusedVariables false
set_option linter.unusedSimpArgs false
namespace Go.Proofs.YtkcfbonchhidlaaGreatDoor
open Go.RowKit

def lenOf : Value → Nat | .slice _ n _ => n | _ => 0
theorem ownBase0 {w : World} {base : Nat} {e : TypeId} {size : Nat} {v : Value} {n : Nat} {xs : List Value} (h : w.ownsRow base e size v n xs) {k : Nat} (hk : v.ownBlock = some k) : base ≤ k := (h.lt k hk).1
theorem upI_snoc (g : List Nat) (a : Nat) : upI (g ++ [a]) = upI g ++ [(a : Int)] := by simp [upI]
theorem upI_len (g : List Nat) : (upI g).length = g.length := by simp [upI]
theorem upI_get (g : List Nat) (j : Nat) (hj : j < g.length) : (upI g).getD j 0 = (g.getD j 0 : Nat) := by
  simp only [upI, List.getD_eq_getElem?_getD, List.getElem?_map, List.getElem?_eq_getElem hj]; rfl
theorem mark_next {w : World} {G n : Nat} {g : List Nat} (h : MarkAt w G n g) (a : Nat) : MarkAt (w.setCell ⟨G, a, none⟩ (.bool true)) G n (g ++ [a]) := by
  refine (h.set a (.bool true)).congr fun i hi => ?_
  by_cases e : i = a
  · subst e
    rw [if_pos rfl]
    have : (g ++ [i]).contains i = true := List.contains_iff_mem.2 (by simp)
    rw [this]
  · rw [if_neg e]
    have : (g ++ [a]).contains i = g.contains i := by
      rw [Bool.eq_iff_iff, List.contains_iff_mem, List.contains_iff_mem, List.mem_append, List.mem_singleton]
      exact ⟨fun h => h.resolve_right e, .inl⟩
    rw [this]
theorem mark_made (w : World) (n : Nat) : MarkAt (w.alloc (.cells (madeCells #[Value.bool false] n) 4)) w.heap.size n [] := World.rowIs_made w _ n _
theorem col_set {w : World} {O n : Nat} {out : List Int} (h : ColAt w O n out) (hn : out.length = n) (a : Nat) (ha : a < n) (x : Int) : ColAt (w.setCell ⟨O, a, none⟩ (.int .i64 x)) O n (out.set a x) := by
  refine (h.set a (.int .i64 x)).congr fun i hi => ?_
  rw [getD_set _ _ _ _ (by omega)]
  by_cases e : i = a
  · subst e; rw [if_pos rfl, if_pos rfl]
  · rw [if_neg e, if_neg (fun h => e h.symm)]
theorem own_of_row {w : World} {O n : Nat} {out : List Int} (h : ColAt w O n out) (hn : out.length = n) (hl : n ≤ 1000000) (base : Nat) (hb : base ≤ O) : w.ownsRow base 3 1 (.slice (some ⟨O, 0, none⟩) n n) n (out.map (Value.int .i64)) := by
  obtain ⟨c, hc, hs, hx⟩ := h
  refine ⟨by simp [hn], .inr ⟨O, n, c, rfl, hb, hc, Nat.le_refl _, by unfold maxLen; omega, by omega, ?_⟩⟩
  apply List.ext_getElem?
  intro j
  rw [Nat.mul_one]
  by_cases hj : j < n
  · rw [List.getElem?_take_of_lt hj, Array.getElem?_toList, hx j hj, List.getElem?_map, List.getElem?_eq_getElem (by omega)]
    show some (Value.int .i64 (out.getD j (-1))) = _
    rw [List.getD_eq_getElem?_getD, List.getElem?_eq_getElem (by omega)]; rfl
  · rw [List.getElem?_take_eq_none (by omega), List.getElem?_eq_none (by simp; omega)]
theorem rdI_at {w : World} {v : Value} {xs : List Int} (h : RdI w v xs) (k : Nat) (hk : k < xs.length) : ∃ m off cap, v = .slice (some ⟨m, off, none⟩) xs.length cap ∧ m < w.heap.size ∧ w.cell? ⟨m, off + k, none⟩ = some (.int .i64 (xs.getD k 0)) := by
  obtain ⟨p, cap, hv, hc⟩ := h
  obtain ⟨m, off, rfl, hm, hx⟩ := hc k hk
  exact ⟨m, off, cap, hv, hm, hx⟩
theorem RowsMax.mono {e : List (List Int)} {a b : Nat} (h : RowsMax e a) (hab : a ≤ b) : RowsMax e b := fun i => Nat.le_trans (h i) hab
theorem removeG_done (n : Nat) (A : Nat → Nat → Bool) (k : Int) (g : List Nat) (h : removeG n A k (n - n) g = removeG n A k n []) : g = removeG n A k n [] := by rw [Nat.sub_self] at h; exact h
theorem removeG_more (n : Nat) (A : Nat → Nat → Bool) (k : Int) (g : List Nat) (a m : Nat) (ha : nextG n A k g = (a : Int)) (hm : m < n) : removeG n A k (n - m) g = removeG n A k (n - (m+1)) (g ++ [a]) := by
  rw [show n - m = (n - (m+1)) + 1 by omega]
  show removeG n A k (n - (m+1)) (g ++ [(nextG n A k g).toNat]) = _
  rw [ha, Int.toNat_natCast]
def selK (n : Nat) (A : Nat → Nat → Bool) (c : Int) (g : List Nat) (k : Nat) (out : List Int) : List Int := selectG n A c (g.take k).reverse out
theorem selK_zero (n : Nat) (A : Nat → Nat → Bool) (c : Int) (g : List Nat) (out : List Int) : selK n A c g 0 out = out := rfl
theorem selK_next (n : Nat) (A : Nat → Nat → Bool) (c : Int) (g : List Nat) (k : Nat) (out : List Int) (hk : k < g.length) : selK n A c g (k+1) out = selK n A c g k (out.set (g.getD k 0) (pickG n A c out (g.getD k 0))) := by
  unfold selK
  rw [List.take_succ_eq_append_getElem hk, List.reverse_append, List.getD_eq_getElem?_getD, List.getElem?_eq_getElem hk]
  rfl
theorem selK_all (n : Nat) (A : Nat → Nat → Bool) (c : Int) (g : List Nat) (out : List Int) : selK n A c g g.length out = selectG n A c g.reverse out := by unfold selK; rw [List.take_length]

end Go.Proofs.YtkcfbonchhidlaaGreatDoor

