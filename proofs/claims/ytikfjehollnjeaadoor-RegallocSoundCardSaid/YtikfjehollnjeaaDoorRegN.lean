/- The law RegallocLists. -/
import Derived.Test.YtikfjehollnjeaaDoorRegK
set_option linter.unusedVariables false
set_option linter.unusedSimpArgs false
namespace Go.Proofs.YtikfjehollnjeaaDoor
open Go.RowKit

/-- The edges of the two graphs agree. -/
theorem colorG_congr (n : Nat) (A B : Nat → Nat → Bool) (k : Int) (h : ∀ a b, a < n → b < n → A a b = B a b) : colorG n A k = colorG n B k := by
  have hnb : ∀ a, a < n → nbs n A a = nbs n B a := fun a ha => List.filter_congr fun b hb => h a b ha (List.mem_range.1 hb)
  have hdeg : ∀ g a, a < n → degG n A g a = degG n B g a := fun g a ha => by unfold degG; rw [hnb a ha]
  have hscan : ∀ g (c i : Nat) (m : Int), i + c ≤ n → (m < 0 ∨ m.toNat < n) → scanG (degG n A g) g k c i m = scanG (degG n B g) g k c i m := by
    intro g c
    induction c with
    | zero => exact fun _ _ _ _ => rfl
    | succ c ih =>
      intro i m hi hm
      unfold scanG
      rw [hdeg g i (by omega)]
      by_cases hg : g.contains i = true
      · rw [if_pos hg, if_pos hg]; exact ih _ _ (by omega) hm
      · rw [if_neg hg, if_neg hg]
        by_cases hd : (degG n B g i : Int) < k
        · rw [if_pos hd, if_pos hd]
        · rw [if_neg hd, if_neg hd]
          have e : (m < 0 ∨ degG n A g m.toNat < degG n B g i) ↔ (m < 0 ∨ degG n B g m.toNat < degG n B g i) := by
            rcases hm with h | h
            · simp [h]
            · rw [hdeg g _ h]
          by_cases hc : m < 0 ∨ degG n B g m.toNat < degG n B g i
          · rw [if_pos (e.2 hc), if_pos hc]; exact ih _ _ (by omega) (by omega)
          · rw [if_neg (fun h => hc (e.1 h)), if_neg hc]; exact ih _ _ (by omega) hm
  have hnext : ∀ g, nextG n A k g = nextG n B k g := fun g => hscan g n 0 (-1) (by omega) (.inl (by omega))
  have hrem : ∀ c g, removeG n A k c g = removeG n B k c g := by
    intro c
    induction c with
    | zero => exact fun _ => rfl
    | succ c ih => intro g; unfold removeG; rw [hnext, ih]
  have hpick : ∀ out a, a < n → pickG n A k out a = pickG n B k out a := fun out a ha => by
    have : freeG n A out a = freeG n B out a := by funext c; unfold freeG; rw [hnb a ha]
    unfold pickG; rw [this]
  have hsel : ∀ (l : List Nat) (out : List Int), (∀ x ∈ l, x < n) → selectG n A k l out = selectG n B k l out := by
    intro l
    induction l with
    | nil => exact fun _ _ => rfl
    | cons a l ih => intro out hl; unfold selectG; rw [hpick out a (hl a (List.mem_cons_self ..)), ih _ (fun x hx => hl x (List.mem_cons_of_mem _ hx))]
  unfold colorG
  rw [hrem]
  exact hsel _ _ fun x hx => ((removed (n := n) (A := B) (k := k)).2.2 x).1 (List.mem_reverse.1 hx)

/-- What the second graph's rows hold: every listed edge stands in it, and nothing else. -/
structure Same2 (e : List (List Int)) (a : Nat) (j : Nat) (X : Nat → List Int) : Prop where
  /-- rows below a, and of row a the places from j on, have been taken over -/
  own : ∀ r b, (r < a ∨ (r = a ∧ ∃ i, j ≤ i ∧ i < (e.getD a []).length ∧ (e.getD a []).getD i 0 = b)) → r < e.length → (r < a → b ∈ e.getD r []) → b ∈ X r
  only : ∀ r b, b ∈ X r → b ∈ e.getD r [] ∨ (∃ s : Nat, s < e.length ∧ b = (s : Int) ∧ ((r : Nat) : Int) ∈ e.getD s [])

theorem Same2.adj {e : List (List Int)} {X : Nat → List Int} (h : Same2 e e.length 0 X) (f : List (List Int)) (hf : ∀ r, r < e.length → f.getD r [] = X r) (a b : Nat) (ha : a < e.length) (hb : b < e.length) : adjG f a b = adjG e a b := by
  have key : ∀ a b : Nat, a < e.length → b < e.length → adjG f a b = true → adjG e a b = true := by
    intro a b ha hb h1
    unfold adjG at h1 ⊢
    rw [Bool.and_eq_true, Bool.or_eq_true, List.contains_iff_mem, List.contains_iff_mem] at h1 ⊢
    refine ⟨h1.1, ?_⟩
    rcases h1.2 with h2 | h2
    · rw [hf a ha] at h2
      rcases h.only a b h2 with h3 | ⟨s, _, h4, h5⟩
      · exact .inl h3
      · have : s = b := by omega
        subst this; exact .inr h5
    · rw [hf b hb] at h2
      rcases h.only b a h2 with h3 | ⟨s, _, h4, h5⟩
      · exact .inr h3
      · have : s = a := by omega
        subst this; exact .inl h5
  have key2 : adjG e a b = true → adjG f a b = true := by
    intro h1
    unfold adjG at h1 ⊢
    rw [Bool.and_eq_true, Bool.or_eq_true, List.contains_iff_mem, List.contains_iff_mem] at h1 ⊢
    refine ⟨h1.1, ?_⟩
    rcases h1.2 with h2 | h2
    · left; rw [hf a ha]; exact h.own a b (.inl ha) ha (fun _ => h2)
    · right; rw [hf b hb]; exact h.own b a (.inl hb) hb (fun _ => h2)
  rw [Bool.eq_iff_iff]
  exact ⟨key a b ha hb, key2⟩
theorem Same2.start (e : List (List Int)) : Same2 e 0 (e.getD 0 []).length (fun _ => []) :=
  ⟨fun r b h hr hb => by rcases h with h | ⟨_, i, h1, h2, _⟩ <;> omega, fun r b h => by simp at h⟩
theorem Same2.row {e : List (List Int)} {a : Nat} {X : Nat → List Int} (h : Same2 e a 0 X) (ha : a < e.length) : Same2 e (a+1) (e.getD (a+1) []).length X :=
  ⟨fun r b h1 hr hb => by
    rcases h1 with h1 | ⟨_, i, h2, h3, _⟩
    · by_cases e1 : r = a
      · subst e1
        obtain ⟨i, hi, ei⟩ := List.mem_iff_getElem.1 (hb (by omega))
        refine h.own r b (.inr ⟨rfl, i, Nat.zero_le _, hi, ?_⟩) hr (fun h => by omega)
        rw [List.getD_eq_getElem?_getD, List.getElem?_eq_getElem hi]; exact ei
      · exact h.own r b (.inl (by omega)) hr (fun _ => hb h1)
    · omega, h.only⟩
/-- One place is taken over: to its own row, twice, and to the other's. -/
theorem Same2.put {e : List (List Int)} {a j : Nat} {X Y : Nat → List Int} {y : Int} (h : Same2 e a (j+1) X) (ha : a < e.length) (hj : j < (e.getD a []).length) (hy : (e.getD a []).getD j 0 = y)
    (hsub : ∀ r b, b ∈ X r → b ∈ Y r) (hin : y ∈ Y a) (honly : ∀ r b, b ∈ Y r → b ∈ X r ∨ (r = a ∧ b = y) ∨ ((r : Int) = y ∧ b = (a : Int))) : Same2 e a j Y := by
  have hmem : y ∈ e.getD a [] := by
    rw [← hy]
    generalize e.getD a [] = l at hj ⊢
    rw [List.getD_eq_getElem?_getD, List.getElem?_eq_getElem hj]; exact List.getElem_mem hj
  refine ⟨fun r b h1 hr hb => ?_, fun r b h1 => ?_⟩
  · rcases h1 with h1 | ⟨rfl, i, h2, h3, h4⟩
    · exact hsub r b (h.own r b (.inl h1) hr hb)
    · by_cases e1 : i = j
      · subst e1; rw [hy] at h4; subst h4; exact hin
      · exact hsub r b (h.own r b (.inr ⟨rfl, i, by omega, h3, h4⟩) hr hb)
  · rcases honly r b h1 with h2 | ⟨rfl, rfl⟩ | ⟨h2, rfl⟩
    · exact h.only r b h2
    · exact .inl hmem
    · exact .inr ⟨a, ha, rfl, by rw [h2]; exact hmem⟩

/-- A slice is stored into one cell: the world behind it under a name. -/
theorem wpList_store_slice {P : Program} {w : World} {ops : Array Oper} {rest : List Oper} {o : Oper} {a : Act} {Q : Exit → Act → World → Prop} (hgd : o.guard = none) (ty : TypeId) (x y : Operand) (ho : o.op = .store ty x y) (hd : o.dst = none)
    (b k : Nat) (p : Option Addr) (n c : Nat) (hx : a.eval x = .pointer (some ⟨b, k, none⟩)) (hy : a.eval y = .slice p n c) (hc : (w.cell? ⟨b, k, none⟩).isSome = true) (hf : w.frozen? ⟨b, k, none⟩ = false) (hi : (P.info? ty).map (·.size) = some 1)
    (h : ∀ w', Hid (w' = w.setCell ⟨b, k, none⟩ (.slice p n c)) → wpList P ops Q rest a w') : wpList P ops Q (o :: rest) a w := by
  refine wpList_plain hgd fun K hK => ?_
  have hr := run_storeCells_cells (P := P) b k [.slice p n c] 0 w (fun j hj => by
    have : j = 0 := by simpa using hj
    subst this; exact hc) (fun j hj => by
    have : j = 0 := by simpa using hj
    subst this; exact hf) (fun v hv => by
    have : v = .slice p n c := by simpa using hv
    subst this; rfl)
  cases hq : P.info? ty with
  | none => simp [hq] at hi
  | some i =>
    have hs : i.size = 1 := by simpa [hq] using hi
    simp only [Nat.add_zero] at hr
    have hr2 : (storeVar ty ⟨b, k, none⟩ (.slice p n c)).run P w = .ok () (w.setCell ⟨b, k, none⟩ (.slice p n c)) := by
      simp [storeVar, sizeOf, typeInfo, hq, Value.cells, hs, hr, World.setCells]
    unfold Oper.wp execOp
    simp only [ho, hx, hy, Instr.storeAt, Instr.sureAddr, Sem.run_bind, Sem.run_pure, Result.andThen_ok, hr2]
    have h2 : wpList P ops Q rest (a.put o.dst undef) (w.setCell ⟨b, k, none⟩ (.slice p n c)) := by rw [hd]; exact h _ rfl
    exact hK _ _ h2
theorem upd_sub {X : Nat → List Int} {k r : Nat} {l : List Int} {b : Int} (h : b ∈ X r) : b ∈ upd X k (X k ++ l) r := by
  by_cases e : r = k
  · subst e; rw [upd_same]; exact List.mem_append_left _ h
  · rw [upd_ne _ _ e]; exact h
theorem upd_only {X : Nat → List Int} {k r : Nat} {l : List Int} {b : Int} (h : b ∈ upd X k (X k ++ l) r) : b ∈ X r ∨ (r = k ∧ b ∈ l) := by
  by_cases e : r = k
  · subst e; rw [upd_same, List.mem_append] at h; exact h.imp id fun h => ⟨rfl, h⟩
  · rw [upd_ne _ _ e] at h; exact .inl h
theorem upd_len (X : Nat → List Int) (k : Nat) (l : List Int) (r : Nat) : (upd X k (X k ++ l) r).length ≤ (X r).length + l.length := by
  by_cases e : r = k
  · subst e; rw [upd_same, List.length_append]; exact Nat.le_refl _
  · rw [upd_ne _ _ e]; omega

end Go.Proofs.YtikfjehollnjeaaDoor
