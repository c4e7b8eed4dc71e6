import Derived.Lib.SlicesCompact
import Derived.Test.YtifjcknklecdbaaDoorMs00
import Derived.LoopTactic
/- The coloring of a graph, in plain words: no program here. -/
set_option linter.unusedVariables false
set_option linter.unusedSimpArgs false
namespace Go.Proofs.YtifjcknklecdbaaDoor

theorem len_le_of_sub {α : Type} [DecidableEq α] : ∀ (l1 l2 : List α), l1.Nodup → (∀ x ∈ l1, x ∈ l2) → l1.length ≤ l2.length
  | [], _, _, _ => Nat.zero_le _
  | a :: l, l2, hn, hs => by
    rw [List.nodup_cons] at hn
    have ha := hs a (List.mem_cons_self ..)
    have h := len_le_of_sub l (l2.erase a) hn.2 (fun x hx => (List.mem_erase_of_ne (fun e => by subst e; exact hn.1 hx)).2 (hs x (List.mem_cons_of_mem _ hx)))
    rw [List.length_erase_of_mem ha] at h
    have : 0 < l2.length := List.length_pos_of_mem ha
    simp only [List.length_cons]; omega

/-- neighbors -/
def nbs (n : Nat) (A : Nat → Nat → Bool) (a : Nat) : List Nat := (List.range n).filter (A a)
def degG (n : Nat) (A : Nat → Nat → Bool) (g : List Nat) (a : Nat) : Nat := ((nbs n A a).filter (fun b => !g.contains b)).length
def scanG (d : Nat → Nat) (g : List Nat) (k : Int) : Nat → Nat → Int → Int
  | 0, _, m => m
  | c+1, i, m => if g.contains i then scanG d g k c (i+1) m else if (d i : Int) < k then (i : Int) else scanG d g k c (i+1) (if m < 0 ∨ d m.toNat < d i then (i : Int) else m)
def nextG (n : Nat) (A : Nat → Nat → Bool) (k : Int) (g : List Nat) : Int := scanG (degG n A g) g k n 0 (-1)
def removeG (n : Nat) (A : Nat → Nat → Bool) (k : Int) : Nat → List Nat → List Nat
  | 0, g => g
  | c+1, g => removeG n A k c (g ++ [(nextG n A k g).toNat])
def freeG (n : Nat) (A : Nat → Nat → Bool) (out : List Int) (a c : Nat) : Bool := (nbs n A a).all (fun b => out.getD b (-1) != (c : Int))
def pickG (n : Nat) (A : Nat → Nat → Bool) (k : Int) (out : List Int) (a : Nat) : Int :=
  match (List.range k.toNat).find? (freeG n A out a) with
  | some c => (c : Int)
  | none => -1
def selectG (n : Nat) (A : Nat → Nat → Bool) (k : Int) : List Nat → List Int → List Int
  | [], out => out
  | a :: l, out => selectG n A k l (out.set a (pickG n A k out a))
def colorG (n : Nat) (A : Nat → Nat → Bool) (k : Int) : List Int := selectG n A k (removeG n A k n []).reverse (List.replicate n (-1))

theorem mem_nbs {n : Nat} {A : Nat → Nat → Bool} {a b : Nat} : b ∈ nbs n A a ↔ b < n ∧ A a b = true := by
  simp [nbs, List.mem_filter, List.mem_range]
theorem nbs_nodup (n : Nat) (A : Nat → Nat → Bool) (a : Nat) : (nbs n A a).Nodup := List.Nodup.sublist List.filter_sublist List.nodup_range

theorem scanG_ok (d : Nat → Nat) (g : List Nat) (k : Int) (n : Nat) : ∀ (c i : Nat) (m : Int), i + c = n → (m = -1 ∨ (0 ≤ m ∧ m < n ∧ m.toNat ∉ g)) →
    (0 ≤ scanG d g k c i m ∧ scanG d g k c i m < n ∧ (scanG d g k c i m).toNat ∉ g) ∨ (scanG d g k c i m = -1 ∧ m = -1 ∧ ∀ j, i ≤ j → j < n → j ∈ g)
  | 0, i, m, hi, hm => by
    rcases hm with rfl | h
    · exact .inr ⟨rfl, rfl, fun j h1 h2 => by omega⟩
    · exact .inl h
  | c+1, i, m, hi, hm => by
    unfold scanG
    by_cases hg : g.contains i = true
    · rw [if_pos hg]
      rcases scanG_ok d g k n c (i+1) m (by omega) hm with h | ⟨h1, h2, h3⟩
      · exact .inl h
      · refine .inr ⟨h1, h2, fun j hj hjn => ?_⟩
        by_cases e : j = i
        · subst e; exact List.contains_iff_mem.1 hg
        · exact h3 j (by omega) hjn
    · rw [if_neg hg]
      have hi' : i ∉ g := fun h => hg (List.contains_iff_mem.2 h)
      by_cases hd : (d i : Int) < k
      · rw [if_pos hd]; exact .inl ⟨by omega, by omega, by simpa using hi'⟩
      · rw [if_neg hd]
        have hm' : (if m < 0 ∨ d m.toNat < d i then (i : Int) else m) = -1 ∨ (0 ≤ (if m < 0 ∨ d m.toNat < d i then (i : Int) else m) ∧ (if m < 0 ∨ d m.toNat < d i then (i : Int) else m) < n ∧ (if m < 0 ∨ d m.toNat < d i then (i : Int) else m).toNat ∉ g) := by
          by_cases hc : m < 0 ∨ d m.toNat < d i
          · rw [if_pos hc]; exact .inr ⟨by omega, by omega, by simpa using hi'⟩
          · rw [if_neg hc]; exact hm
        have hne : (if m < 0 ∨ d m.toNat < d i then (i : Int) else m) ≠ -1 := by
          by_cases hc : m < 0 ∨ d m.toNat < d i
          · rw [if_pos hc]; omega
          · rw [if_neg hc]; omega
        rcases scanG_ok d g k n c (i+1) _ (by omega) hm' with h | ⟨h1, h2, h3⟩
        · exact .inl h
        · exact absurd h2 hne

theorem nextG_ok {n : Nat} {A : Nat → Nat → Bool} {k : Int} {g : List Nat} (hg : g.length < n) :
    0 ≤ nextG n A k g ∧ nextG n A k g < n ∧ (nextG n A k g).toNat ∉ g := by
  rcases scanG_ok (degG n A g) g k n n 0 (-1) (by omega) (.inl rfl) with h | ⟨h1, _, h3⟩
  · exact h
  · exfalso
    have := len_le_of_sub (List.range n) g List.nodup_range (fun x hx => h3 x (Nat.zero_le _) (List.mem_range.1 hx))
    rw [List.length_range] at this; omega

theorem removeG_ok {n : Nat} {A : Nat → Nat → Bool} {k : Int} : ∀ (c : Nat) (g : List Nat), g.length + c = n → g.Nodup → (∀ x ∈ g, x < n) →
    (removeG n A k c g).length = n ∧ (removeG n A k c g).Nodup ∧ ∀ x ∈ removeG n A k c g, x < n
  | 0, g, h1, h2, h3 => ⟨by simpa [removeG] using h1, h2, h3⟩
  | c+1, g, h1, h2, h3 => by
    obtain ⟨a1, a2, a3⟩ := nextG_ok (n := n) (A := A) (k := k) (g := g) (by omega)
    refine removeG_ok c _ (by simp; omega) ?_ ?_
    · rw [List.nodup_append]
      exact ⟨h2, by simp, fun x hx y hy => by rw [List.mem_singleton] at hy; subst hy; intro e; exact a3 (e ▸ hx)⟩
    · intro x hx
      rcases List.mem_append.1 hx with h | h
      · exact h3 x h
      · rw [List.mem_singleton] at h; omega

theorem removed {n : Nat} {A : Nat → Nat → Bool} {k : Int} : (removeG n A k n []).length = n ∧ (removeG n A k n []).Nodup ∧ (∀ x, x ∈ removeG n A k n [] ↔ x < n) := by
  obtain ⟨h1, h2, h3⟩ := removeG_ok (n := n) (A := A) (k := k) n [] (by simp) (by simp) (by simp)
  refine ⟨h1, h2, fun x => ⟨h3 x, fun hx => ?_⟩⟩
  by_cases hm : x ∈ removeG n A k n []
  · exact hm
  · exfalso
    have := len_le_of_sub (x :: removeG n A k n []) (List.range n) (List.nodup_cons.2 ⟨hm, h2⟩) (fun y hy => by
      rw [List.mem_range]
      rcases List.mem_cons.1 hy with rfl | h
      · exact hx
      · exact h3 y h)
    rw [List.length_range, List.length_cons] at this; omega

theorem selectG_len (n : Nat) (A : Nat → Nat → Bool) (k : Int) : ∀ (l : List Nat) (out : List Int), (selectG n A k l out).length = out.length
  | [], _ => rfl
  | a :: l, out => by unfold selectG; rw [selectG_len n A k l]; simp
theorem colorG_len (n : Nat) (A : Nat → Nat → Bool) (k : Int) : (colorG n A k).length = n := by
  unfold colorG; rw [selectG_len]; simp

theorem pickG_cases (n : Nat) (A : Nat → Nat → Bool) (k : Int) (out : List Int) (a : Nat) :
    (0 ≤ pickG n A k out a ∧ pickG n A k out a < k ∧ ∀ b, b < n → A a b = true → out.getD b (-1) ≠ pickG n A k out a) ∨
    (pickG n A k out a = -1 ∧ ∀ c : Nat, (c : Int) < k → ∃ b, b < n ∧ A a b = true ∧ out.getD b (-1) = (c : Int)) := by
  unfold pickG
  cases h : (List.range k.toNat).find? (freeG n A out a) with
  | some c =>
    have h1 := List.find?_some h
    have h2 := List.mem_range.1 (List.mem_of_find?_eq_some h)
    refine .inl ⟨by show (0:Int) ≤ (c:Int); omega, by show (c:Int) < k; omega, fun b hb hA => ?_⟩
    have := List.all_eq_true.1 h1 b (mem_nbs.2 ⟨hb, hA⟩)
    simpa using this
  | none =>
    refine .inr ⟨rfl, fun c hc => ?_⟩
    have h1 := List.find?_eq_none.1 h c (List.mem_range.2 (by omega))
    simp only [freeG, List.all_eq_true, Classical.not_forall] at h1
    obtain ⟨b, hb, hne⟩ := h1
    rw [mem_nbs] at hb
    exact ⟨b, hb.1, hb.2, by simpa using hne⟩

structure PropG (n : Nat) (A : Nat → Nat → Bool) (k : Int) (l : List Nat) (out : List Int) : Prop where
  len : out.length = n
  low : ∀ a, a ∈ l → out.getD a (-1) = -1
  rng : ∀ a, a < n → -1 ≤ out.getD a (-1) ∧ (out.getD a (-1) < k ∨ out.getD a (-1) = -1)
  prp : ∀ a b, a < n → b < n → A a b = true → 0 ≤ out.getD a (-1) → out.getD a (-1) ≠ out.getD b (-1)
  ful : ∀ a, a < n → a ∉ l → out.getD a (-1) = -1 → ∀ c : Nat, (c : Int) < k → ∃ b, b < n ∧ A a b = true ∧ out.getD b (-1) = (c : Int)

theorem getD_set (l : List Int) (a b : Nat) (v : Int) (h : a < l.length) : (l.set a v).getD b (-1) = if a = b then v else l.getD b (-1) := by
  simp only [List.getD_eq_getElem?_getD, List.getElem?_set]
  by_cases e : a = b
  · subst e; simp [h]
  · simp [e]

theorem selectG_ok {n : Nat} {A : Nat → Nat → Bool} (hsym : ∀ a b, A a b = A b a) (hirr : ∀ a, A a a = false) {k : Int} : ∀ (l : List Nat) (out : List Int), l.Nodup → (∀ x ∈ l, x < n) → PropG n A k l out → PropG n A k [] (selectG n A k l out)
  | [], out, _, _, h => h
  | a :: l, out, hn, hl, h => by
    unfold selectG
    rw [List.nodup_cons] at hn
    have han := hl a (List.mem_cons_self ..)
    have hal := h.low a (List.mem_cons_self ..)
    have hlen := h.len
    have G : ∀ b, (out.set a (pickG n A k out a)).getD b (-1) = if a = b then pickG n A k out a else out.getD b (-1) := fun b => getD_set _ _ _ _ (by omega)
    refine selectG_ok hsym hirr l _ hn.2 (fun x hx => hl x (List.mem_cons_of_mem _ hx)) ⟨by simp [hlen], ?_, ?_, ?_, ?_⟩
    · intro b hb
      rw [G, if_neg (fun e : a = b => by subst e; exact hn.1 hb)]
      exact h.low b (List.mem_cons_of_mem _ hb)
    · intro b hb
      rw [G]
      by_cases e : a = b
      · rw [if_pos e]
        rcases pickG_cases n A k out a with ⟨h1, h2, _⟩ | ⟨h1, _⟩
        · exact ⟨by omega, .inl h2⟩
        · exact ⟨by omega, .inr h1⟩
      · rw [if_neg e]; exact h.rng b hb
    · intro b c hb hc hA
      rw [G, G]
      by_cases e1 : a = b
      · subst e1
        rw [if_pos rfl]
        have e2 : a ≠ c := fun e => by subst e; rw [hirr] at hA; exact Bool.noConfusion hA
        rw [if_neg e2]
        intro h0
        rcases pickG_cases n A k out a with ⟨h1, h2, h3⟩ | ⟨h1, _⟩
        · exact (h3 c hc hA).symm
        · omega
      · rw [if_neg e1]
        by_cases e2 : a = c
        · subst e2
          rw [if_pos rfl]
          intro h0
          rcases pickG_cases n A k out a with ⟨h1, h2, h3⟩ | ⟨h1, _⟩
          · exact h3 b hb (by rw [hsym]; exact hA)
          · omega
        · rw [if_neg e2]; exact h.prp b c hb hc hA
    · intro b hb hbl
      rw [G]
      by_cases e : a = b
      · subst e
        rw [if_pos rfl]
        intro he c hc
        rcases pickG_cases n A k out a with ⟨h1, h2, h3⟩ | ⟨_, h2⟩
        · omega
        · obtain ⟨d, hd, hA, hv⟩ := h2 c hc
          refine ⟨d, hd, hA, ?_⟩
          rw [G, if_neg (fun e => by subst e; rw [hirr] at hA; exact Bool.noConfusion hA)]
          exact hv
      · rw [if_neg e]
        intro he c hc
        obtain ⟨d, hd, hA, hv⟩ := h.ful b hb (fun hx => by
          rcases List.mem_cons.1 hx with h1 | h1
          · exact e h1.symm
          · exact hbl h1) he c hc
        refine ⟨d, hd, hA, ?_⟩
        rw [G]
        by_cases e2 : a = d
        · subst e2; omega
        · rw [if_neg e2]; exact hv

theorem colorG_ok {n : Nat} {A : Nat → Nat → Bool} (hsym : ∀ a b, A a b = A b a) (hirr : ∀ a, A a a = false) {k : Int} : PropG n A k [] (colorG n A k) := by
  obtain ⟨h1, h2, h3⟩ := removed (n := n) (A := A) (k := k)
  refine selectG_ok hsym hirr _ _ (List.pairwise_reverse.2 (h2.imp fun h => h.symm)) (fun x hx => (h3 x).1 (List.mem_reverse.1 hx)) ?_
  have G : ∀ b, (List.replicate n (-1 : Int)).getD b (-1) = -1 := by
    intro b
    simp only [List.getD_eq_getElem?_getD, List.getElem?_replicate]
    by_cases e : b < n <;> simp [e]
  refine ⟨by simp, fun a _ => G a, fun a _ => by rw [G]; omega, fun a b _ _ _ h0 => by rw [G] at h0; omega, fun a ha hna => ?_⟩
  exact absurd (List.mem_reverse.2 ((h3 a).2 ha)) hna

/-- A node without a color has at least k neighbors. -/
theorem colorG_full {n : Nat} {A : Nat → Nat → Bool} (hsym : ∀ a b, A a b = A b a) (hirr : ∀ a, A a a = false) {k : Nat} {a : Nat} (ha : a < n) (h : (colorG n A k).getD a (-1) = -1) : k ≤ (nbs n A a).length := by
  have hf := (colorG_ok hsym hirr (k := k)).ful a ha (by simp) h
  have h1 := len_le_of_sub (List.range k) ((nbs n A a).map (fun b => ((colorG n A k).getD b (-1)).toNat)) List.nodup_range (fun c hc => by
    obtain ⟨b, hb, hA, hv⟩ := hf c (by have := List.mem_range.1 hc; omega)
    exact List.mem_map.2 ⟨b, mem_nbs.2 ⟨hb, hA⟩, by rw [hv]; rfl⟩)
  rwa [List.length_range, List.length_map] at h1

theorem colorG_few {n : Nat} {A : Nat → Nat → Bool} (hsym : ∀ a b, A a b = A b a) (hirr : ∀ a, A a a = false) {k : Nat} (hk : ∀ a, a < n → (nbs n A a).length < k) {a : Nat} (ha : a < n) :
    0 ≤ (colorG n A k).getD a (-1) ∧ (colorG n A k).getD a (-1) < k := by
  obtain ⟨h1, h2⟩ := (colorG_ok hsym hirr (k := k)).rng a ha
  have h3 : (colorG n A k).getD a (-1) ≠ -1 := fun h => by have := colorG_full hsym hirr ha h; have := hk a ha; omega
  omega

/-- The degree as the program keeps it. -/
theorem degG_zero (n : Nat) (A : Nat → Nat → Bool) (a : Nat) : degG n A [] a = (nbs n A a).length := by
  unfold degG
  have h : (fun b : Nat => !([] : List Nat).contains b) = fun _ => true := by funext b; rfl
  rw [h, List.filter_eq_self.2 (fun _ _ => rfl)]

theorem filter_out {α : Type} [DecidableEq α] (p : α → Bool) (x : α) : ∀ (l : List α), l.Nodup → (l.filter (fun b => p b && !(b == x))).length = (l.filter p).length - (if x ∈ l ∧ p x = true then 1 else 0)
  | [], _ => by simp
  | a :: l, hn => by
    rw [List.nodup_cons] at hn
    have ih := filter_out p x l hn.2
    by_cases e : a = x
    · subst e
      have h0 : ¬ (a ∈ l ∧ p a = true) := fun h => hn.1 h.1
      rw [if_neg h0] at ih
      by_cases hp : p a = true
      · rw [List.filter_cons_of_neg (by simp), List.filter_cons_of_pos hp, ih, if_pos ⟨List.mem_cons_self .., hp⟩]; simp
      · rw [List.filter_cons_of_neg (by simp), List.filter_cons_of_neg hp, ih, if_neg (fun h => hp h.2)]
    · have hm : (x ∈ a :: l ∧ p x = true) ↔ (x ∈ l ∧ p x = true) := by
        rw [List.mem_cons]
        exact ⟨fun h => ⟨h.1.resolve_left (fun e' => e e'.symm), h.2⟩, fun h => ⟨.inr h.1, h.2⟩⟩
      by_cases hp : p a = true
      · rw [List.filter_cons_of_pos (by simp [hp, e]), List.filter_cons_of_pos hp, List.length_cons, List.length_cons, ih]
        by_cases hx : x ∈ l ∧ p x = true
        · rw [if_pos hx, if_pos (hm.2 hx)]
          have : 0 < (l.filter p).length := List.length_pos_of_mem (List.mem_filter.2 hx)
          omega
        · rw [if_neg hx, if_neg (fun h => hx (hm.1 h))]; rfl
      · rw [List.filter_cons_of_neg (by simp [hp]), List.filter_cons_of_neg hp, ih]
        by_cases hx : x ∈ l ∧ p x = true
        · rw [if_pos hx, if_pos (hm.2 hx)]
        · rw [if_neg hx, if_neg (fun h => hx (hm.1 h))]

theorem degG_next (n : Nat) (A : Nat → Nat → Bool) (g : List Nat) (x b : Nat) (hx : x < n) (hg : x ∉ g) : degG n A (g ++ [x]) b = degG n A g b - (if A b x = true then 1 else 0) := by
  unfold degG
  have h : (fun c : Nat => !(g ++ [x]).contains c) = fun c => (fun b : Nat => !g.contains b) c && !(c == x) := by
    funext c
    show (!(g ++ [x]).contains c) = ((!g.contains c) && !(c == x))
    rw [List.contains_append, Bool.not_or]
    congr 1
    rw [List.contains_cons, List.contains_nil, Bool.or_false]
  rw [h, filter_out _ x _ (nbs_nodup n A b)]
  congr 1
  have : (x ∈ nbs n A b ∧ (!g.contains x) = true) ↔ A b x = true := by
    rw [mem_nbs]
    constructor
    · exact fun h => h.1.2
    · exact fun h => ⟨⟨hx, h⟩, by rw [Bool.not_eq_true']; exact (Bool.eq_false_iff).2 (fun e => hg (List.contains_iff_mem.1 e))⟩
  by_cases hA : A b x = true
  · rw [if_pos (this.2 hA), if_pos hA]
  · rw [if_neg (fun h => hA (this.1 h)), if_neg hA]

/-- The color as the program finds it: the first index that is not taken. -/
def takenG (n : Nat) (A : Nat → Nat → Bool) (out : List Int) (a : Nat) : List Bool :=
  (List.range ((nbs n A a).length + 1)).map (fun c => !freeG n A out a c)

theorem find_range_least (p : Nat → Bool) : ∀ (m : Nat), (List.range m).find? p = none ∨ ∃ c, c < m ∧ p c = true ∧ (∀ d, d < c → p d = false) ∧ (List.range m).find? p = some c := by
  intro m
  cases h : (List.range m).find? p with
  | none => exact .inl rfl
  | some c =>
    refine .inr ⟨c, List.mem_range.1 (List.mem_of_find?_eq_some h), List.find?_some h, ?_, rfl⟩
    rw [List.find?_range_eq_some] at h
    intro d hd
    have := h.2.2 d hd
    simpa using this

theorem find_range_none (p : Nat → Bool) (m : Nat) : (List.range m).find? p = none ↔ ∀ d, d < m → p d = false := by
  rw [List.find?_eq_none]
  exact ⟨fun h d hd => by simpa using h d (List.mem_range.2 hd), fun h d hd => by simp [h d (List.mem_range.1 hd)]⟩

/-- a color that is free exists among the first ones -/
theorem free_exists (n : Nat) (A : Nat → Nat → Bool) (out : List Int) (a : Nat) : ∃ c, c ≤ (nbs n A a).length ∧ freeG n A out a c = true ∧ ∀ d, d < c → freeG n A out a d = false := by
  rcases find_range_least (freeG n A out a) ((nbs n A a).length + 1) with h | ⟨c, h1, h2, h3, _⟩
  · exfalso
    rw [find_range_none] at h
    have h1 := len_le_of_sub (List.range ((nbs n A a).length + 1)) ((nbs n A a).map (fun b => (out.getD b (-1)).toNat)) List.nodup_range (fun c hc => by
      have hf := h c (List.mem_range.1 hc)
      simp only [freeG, List.all_eq_false] at hf
      obtain ⟨b, hb, hne⟩ := hf
      exact List.mem_map.2 ⟨b, hb, by have : out.getD b (-1) = (c : Int) := by simpa using hne
                                      rw [this]; rfl⟩)
    rw [List.length_range, List.length_map] at h1; omega
  · exact ⟨c, by omega, h2, h3⟩

theorem pickG_least (n : Nat) (A : Nat → Nat → Bool) (k : Int) (out : List Int) (a c : Nat) (h1 : freeG n A out a c = true) (h2 : ∀ d, d < c → freeG n A out a d = false) :
    pickG n A k out a = if (c : Int) < k then (c : Int) else -1 := by
  unfold pickG
  by_cases hc : (c : Int) < k
  · rw [if_pos hc]
    have : (List.range k.toNat).find? (freeG n A out a) = some c := by
      rw [List.find?_range_eq_some]
      exact ⟨h1, List.mem_range.2 (by omega), fun d hd => by simp [h2 d hd]⟩
    rw [this]
  · rw [if_neg hc]
    have : (List.range k.toNat).find? (freeG n A out a) = none := (find_range_none _ _).2 (fun d hd => h2 d (by omega))
    rw [this]

theorem scan_end (d : Nat → Nat) (g : List Nat) (k : Int) (n : Nat) (m : Int) : scanG d g k (n - n) n m = m := by rw [Nat.sub_self]; rfl
theorem scan_gone (d : Nat → Nat) (g : List Nat) (k : Int) (n i : Nat) (m : Int) (h : i < n) (hg : g.contains i = true) : scanG d g k (n - i) i m = scanG d g k (n - (i+1)) (i+1) m := by
  rw [show n - i = (n - (i+1)) + 1 by omega]
  show (if g.contains i then _ else _) = _
  rw [if_pos hg]
theorem scan_few (d : Nat → Nat) (g : List Nat) (k : Int) (n i : Nat) (m : Int) (h : i < n) (hg : g.contains i = false) (hd : (d i : Int) < k) : scanG d g k (n - i) i m = (i : Int) := by
  rw [show n - i = (n - (i+1)) + 1 by omega]
  show (if g.contains i then _ else _) = _
  rw [hg, if_neg Bool.noConfusion, if_pos hd]
theorem scan_more (d : Nat → Nat) (g : List Nat) (k : Int) (n i : Nat) (m : Int) (h : i < n) (hg : g.contains i = false) (hd : ¬ (d i : Int) < k) : scanG d g k (n - i) i m = scanG d g k (n - (i+1)) (i+1) (if m < 0 ∨ d m.toNat < d i then (i : Int) else m) := by
  rw [show n - i = (n - (i+1)) + 1 by omega]
  show (if g.contains i then _ else _) = _
  rw [hg, if_neg Bool.noConfusion, if_neg hd]

/-- The degrees while the neighbors of a are gone through. -/
def degJ (n : Nat) (A : Nat → Nat → Bool) (g : List Nat) (a j i : Nat) : Int := (degG n A g i : Int) - (if ((nbs n A a).take j).contains i then 1 else 0)
theorem degJ_zero (n : Nat) (A : Nat → Nat → Bool) (g : List Nat) (a i : Nat) : degJ n A g a 0 i = degG n A g i := by
  unfold degJ
  rw [List.take_zero]
  have : ([] : List Nat).contains i = false := rfl
  rw [this, if_neg Bool.noConfusion]; omega
theorem degG_pos (n : Nat) (A : Nat → Nat → Bool) (g : List Nat) (a i : Nat) (ha : a < n) (hA : A i a = true) (hg : a ∉ g) : 0 < degG n A g i := by
  unfold degG
  refine List.length_pos_of_mem (a := a) (List.mem_filter.2 ⟨mem_nbs.2 ⟨ha, hA⟩, ?_⟩)
  rw [Bool.not_eq_true']; exact Bool.eq_false_iff.2 (fun e => hg (List.contains_iff_mem.1 e))
theorem degJ_end (n : Nat) (A : Nat → Nat → Bool) (hsym : ∀ a b, A a b = A b a) (g : List Nat) (a i : Nat) (ha : a < n) (hi : i < n) (hg : a ∉ g) : degJ n A g a (nbs n A a).length i = degG n A (g ++ [a]) i := by
  unfold degJ
  rw [List.take_length, degG_next n A g a i ha hg]
  by_cases h : A i a = true
  · have h1 : (nbs n A a).contains i = true := List.contains_iff_mem.2 (mem_nbs.2 ⟨hi, by rw [hsym]; exact h⟩)
    have := degG_pos n A g a i ha h hg
    rw [if_pos h1, if_pos h]; omega
  · have h1 : (nbs n A a).contains i = false := Bool.eq_false_iff.2 (fun e => h (by rw [hsym]; exact (mem_nbs.1 (List.contains_iff_mem.1 e)).2))
    rw [h1, if_neg Bool.noConfusion, if_neg h]; omega
theorem degJ_next (n : Nat) (A : Nat → Nat → Bool) (g : List Nat) (a j q i : Nat) (hj : j < (nbs n A a).length) (hq : (nbs n A a).getD j 0 = q) :
    degJ n A g a (j+1) i = if i = q then degJ n A g a j q - 1 else degJ n A g a j i := by
  unfold degJ
  have hq' : (nbs n A a)[j] = q := by rw [List.getD_eq_getElem?_getD, List.getElem?_eq_getElem hj] at hq; exact hq
  have ht : (nbs n A a).take (j+1) = (nbs n A a).take j ++ [q] := by rw [← hq', List.take_succ_eq_append_getElem hj]
  have hne : q ∉ (nbs n A a).take j := by
    intro h
    obtain ⟨i, hi, ei⟩ := List.mem_iff_getElem.1 h
    rw [List.length_take] at hi
    rw [List.getElem_take] at ei
    have := (List.pairwise_iff_getElem.1 (nbs_nodup n A a)) i j (by omega) hj (by omega)
    exact this (ei.trans hq'.symm)
  rw [ht]
  by_cases e : i = q
  · subst e
    have h1 : ((nbs n A a).take j ++ [i]).contains i = true := List.contains_iff_mem.2 (by simp)
    have h2 : ((nbs n A a).take j).contains i = false := Bool.eq_false_iff.2 (fun h => hne (List.contains_iff_mem.1 h))
    rw [h1, h2, if_pos rfl, if_pos rfl, if_neg Bool.noConfusion]; omega
  · rw [if_neg e]
    have h1 : ((nbs n A a).take j ++ [q]).contains i = ((nbs n A a).take j).contains i := by
      rw [Bool.eq_iff_iff, List.contains_iff_mem, List.contains_iff_mem, List.mem_append, List.mem_singleton]
      exact ⟨fun h => h.resolve_right e, .inl⟩
    rw [h1]
theorem degJ_range (n : Nat) (A : Nat → Nat → Bool) (g : List Nat) (a j i : Nat) : -1 ≤ degJ n A g a j i ∧ degJ n A g a j i ≤ n := by
  have h : degG n A g i ≤ n := by
    unfold degG nbs
    exact Nat.le_trans (List.length_filter_le _ _) (Nat.le_trans (List.length_filter_le _ _) (by simp))
  unfold degJ
  by_cases e : ((nbs n A a).take j).contains i = true
  · rw [if_pos e]; omega
  · rw [if_neg e]; omega
theorem degG_le (n : Nat) (A : Nat → Nat → Bool) (g : List Nat) (i : Nat) : degG n A g i ≤ n := by
  unfold degG nbs
  exact Nat.le_trans (List.length_filter_le _ _) (Nat.le_trans (List.length_filter_le _ _) (by simp))
theorem nbs_at (n : Nat) (A : Nat → Nat → Bool) (a j : Nat) (hj : j < (nbs n A a).length) : (nbs n A a).getD j 0 < n ∧ A a ((nbs n A a).getD j 0) = true := by
  have h := List.getElem_mem hj
  rw [mem_nbs] at h
  rw [List.getD_eq_getElem?_getD, List.getElem?_eq_getElem hj]
  exact h
theorem nbs_len (n : Nat) (A : Nat → Nat → Bool) (a : Nat) : (nbs n A a).length ≤ n := by
  unfold nbs
  exact Nat.le_trans (List.length_filter_le _ _) (by simp)

/-- The marks of the colors that the first j neighbors have. -/
def takenJ (n : Nat) (A : Nat → Nat → Bool) (out : List Int) (a j c : Nat) : Bool := ((nbs n A a).take j).any (fun b => out.getD b (-1) == (c : Int))
theorem takenJ_zero (n : Nat) (A : Nat → Nat → Bool) (out : List Int) (a c : Nat) : takenJ n A out a 0 c = false := by simp [takenJ]
theorem takenJ_next (n : Nat) (A : Nat → Nat → Bool) (out : List Int) (a j c : Nat) (hj : j < (nbs n A a).length) :
    takenJ n A out a (j+1) c = (takenJ n A out a j c || (out.getD ((nbs n A a).getD j 0) (-1) == (c : Int))) := by
  unfold takenJ
  have ht : (nbs n A a).take (j+1) = (nbs n A a).take j ++ [(nbs n A a).getD j 0] := by
    rw [List.take_succ_eq_append_getElem hj, List.getD_eq_getElem?_getD, List.getElem?_eq_getElem hj]; rfl
  rw [ht, List.any_append, List.any_cons, List.any_nil, Bool.or_false]
theorem takenJ_end (n : Nat) (A : Nat → Nat → Bool) (out : List Int) (a c : Nat) : takenJ n A out a (nbs n A a).length c = !freeG n A out a c := by
  unfold takenJ freeG
  rw [List.take_length, List.not_all_eq_any_not]
  congr 1
  funext b
  simp [bne]
theorem selectG_append (n : Nat) (A : Nat → Nat → Bool) (k : Int) : ∀ (l r : List Nat) (out : List Int), selectG n A k (l ++ r) out = selectG n A k r (selectG n A k l out)
  | [], _, _ => rfl
  | a :: l, r, out => selectG_append n A k l r _
theorem removeG_len (n : Nat) (A : Nat → Nat → Bool) (k : Int) : ∀ (c : Nat) (g : List Nat), (removeG n A k c g).length = g.length + c
  | 0, g => rfl
  | c+1, g => by unfold removeG; rw [removeG_len n A k c]; simp; omega
end Go.Proofs.YtifjcknklecdbaaDoor

/- The neighbors of the nodes of a graph, in plain words: no program here. -/
set_option linter.unusedVariables false
set_option linter.unusedSimpArgs false
namespace Go.Proofs.YtifjcknklecdbaaDoor
open Go.Lib

theorem sorted_ext : ∀ (l1 l2 : List Int), l1.Pairwise (· < ·) → l2.Pairwise (· < ·) → (∀ x, x ∈ l1 ↔ x ∈ l2) → l1 = l2
  | [], [], _, _, _ => rfl
  | [], b :: l, _, _, h => by have := (h b).2 (List.mem_cons_self ..); simp at this
  | a :: l, [], _, _, h => by have := (h a).1 (List.mem_cons_self ..); simp at this
  | a :: l, b :: r, h1, h2, h => by
    rw [List.pairwise_cons] at h1 h2
    have e : a = b := by
      rcases List.mem_cons.1 ((h a).1 (List.mem_cons_self ..)) with e | e
      · exact e
      · rcases List.mem_cons.1 ((h b).2 (List.mem_cons_self ..)) with e' | e'
        · exact e'.symm
        · have := h1.1 b e'; have := h2.1 a e; omega
    subst e
    rw [sorted_ext l r h1.2 h2.2 (fun x => ⟨fun hx => by
      rcases List.mem_cons.1 ((h x).1 (List.mem_cons_of_mem _ hx)) with e | e
      · subst e; have := h1.1 x hx; omega
      · exact e, fun hx => by
      rcases List.mem_cons.1 ((h x).2 (List.mem_cons_of_mem _ hx)) with e | e
      · subst e; have := h2.1 x hx; omega
      · exact e⟩)]

theorem sortI_mem (xs : List Int) (x : Int) : x ∈ sortI xs ↔ x ∈ xs := by unfold sortI; rw [List.mem_mergeSort]
theorem sortI_le (xs : List Int) : (sortI xs).Pairwise (· ≤ ·) := by
  unfold sortI
  have := List.pairwise_mergeSort (le := fun (x y : Int) => decide (x ≤ y)) (by intro a b c; simp only [decide_eq_true_eq]; omega) (by intro a b; simp only [Bool.or_eq_true, decide_eq_true_eq]; omega) xs
  exact this.imp (by intro a b h; simpa using h)
theorem sortI_nodup {xs : List Int} (h : xs.Nodup) : (sortI xs).Pairwise (· < ·) := by
  have h2 : (sortI xs).Nodup := (List.mergeSort_perm xs _).nodup_iff.2 h
  have h1 := sortI_le xs
  exact List.Pairwise.imp₂ (fun a b h1 h2 => by have : a ≠ b := h2; omega) h1 h2

theorem compact_mem_aux (d : Array Int) (hd : ∀ i j, i ≤ j → j < d.size → d[i]! ≤ d[j]!) : ∀ m, m ≤ d.size → (compactUpTo d m).Pairwise (· < ·) ∧ ∀ x, x ∈ compactUpTo d m ↔ ∃ j, j < m ∧ d[j]! = x
  | 0, _ => ⟨by simp [compactUpTo], fun x => by simp [compactUpTo]⟩
  | m+1, hm => by
    obtain ⟨h1, h2⟩ := compact_mem_aux d hd m (by omega)
    rw [compactUpTo_succ]
    by_cases hk : keeps d m = true
    · rw [if_pos hk]
      constructor
      · rw [List.pairwise_append]
        refine ⟨h1, List.pairwise_singleton .., fun x hx y hy => ?_⟩
        rw [List.mem_singleton] at hy; subst hy
        obtain ⟨j, hj, rfl⟩ := (h2 x).1 hx
        have hne : d[m]! ≠ d[m-1]! := by
          rcases of_decide_eq_true hk with e | e
          · omega
          · exact e
        have a1 := hd j (m-1) (by omega) (by omega)
        have a2 := hd (m-1) m (by omega) (by omega)
        omega
      · intro x
        rw [List.mem_append, h2, List.mem_singleton]
        constructor
        · rintro (⟨j, hj, e⟩ | e)
          · exact ⟨j, by omega, e⟩
          · exact ⟨m, by omega, e.symm⟩
        · rintro ⟨j, hj, e⟩
          by_cases hjm : j = m
          · subst hjm; exact .inr e.symm
          · exact .inl ⟨j, by omega, e⟩
    · rw [if_neg hk, List.append_nil]
      refine ⟨h1, fun x => ?_⟩
      rw [h2]
      constructor
      · rintro ⟨j, hj, e⟩; exact ⟨j, by omega, e⟩
      · rintro ⟨j, hj, e⟩
        by_cases hjm : j = m
        · subst hjm
          simp only [keeps, decide_eq_true_eq, not_or, Decidable.not_not] at hk
          exact ⟨j - 1, by omega, by rw [← hk.2]; exact e⟩
        · exact ⟨j, by omega, e⟩

theorem compact_sorted (zs : List Int) (h : zs.Pairwise (· ≤ ·)) : (compact zs).Pairwise (· < ·) ∧ ∀ x, x ∈ compact zs ↔ x ∈ zs := by
  have hg : ∀ i, (hi : i < zs.length) → zs.toArray[i]! = zs[i] := fun i hi => by simp [hi]
  obtain ⟨h1, h2⟩ := compact_mem_aux zs.toArray (fun i j hij hj => by
    have hj' : j < zs.length := by simpa using hj
    rw [hg i (by omega), hg j hj']
    rcases Nat.lt_or_eq_of_le hij with h' | h'
    · exact List.pairwise_iff_getElem.1 h i j _ _ h'
    · subst h'; omega) zs.length (by simp)
  refine ⟨h1, fun x => ?_⟩
  rw [compact, h2]
  constructor
  · rintro ⟨j, hj, e⟩; rw [hg j hj] at e; subst e; exact List.getElem_mem _
  · intro hx
    obtain ⟨j, hj, e⟩ := List.mem_iff_getElem.1 hx
    exact ⟨j, hj, by rw [hg j hj]; exact e⟩

/-- b is listed at a -/
def P1 (e : List (List Int)) (a b : Nat) : Bool := b != a && (e.getD a []).contains (b : Int)
def adjG (e : List (List Int)) (a b : Nat) : Bool := a != b && ((e.getD a []).contains (b : Int) || (e.getD b []).contains (a : Int))
theorem adj_P1 (e : List (List Int)) (a b : Nat) : adjG e a b = (P1 e a b || P1 e b a) := by
  unfold adjG P1
  by_cases h : a = b
  · subst h; simp
  · have h' : b ≠ a := fun e => h e.symm
    rw [bne_iff_ne.2 h, bne_iff_ne.2 h', Bool.true_and, Bool.true_and, Bool.true_and]
theorem adj_sym (e : List (List Int)) (a b : Nat) : adjG e a b = adjG e b a := by rw [adj_P1, adj_P1, Bool.or_comm]
theorem adj_irr (e : List (List Int)) (a : Nat) : adjG e a a = false := by simp [adjG]

def upI (l : List Nat) : List Int := l.map fun (b : Nat) => (b : Int)
theorem mem_upI (l : List Nat) (x : Int) : x ∈ upI l ↔ ∃ b ∈ l, (b : Int) = x := List.mem_map
theorem upI_lt {l : List Nat} (h : l.Pairwise (· < ·)) : (upI l).Pairwise (· < ·) := by
  unfold upI; rw [List.pairwise_map]; exact h.imp (fun h => by omega)
theorem filter_lt (n : Nat) (p : Nat → Bool) : ((List.range n).filter p).Pairwise (· < ·) := List.Pairwise.sublist List.filter_sublist List.pairwise_lt_range
theorem mem_upF (n : Nat) (p : Nat → Bool) (x : Int) : x ∈ upI ((List.range n).filter p) ↔ ∃ b, b < n ∧ p b = true ∧ (b : Int) = x := by
  rw [mem_upI]
  constructor
  · rintro ⟨b, hb, e⟩; rw [List.mem_filter, List.mem_range] at hb; exact ⟨b, hb.1, hb.2, e⟩
  · rintro ⟨b, h1, h2, e⟩; exact ⟨b, List.mem_filter.2 ⟨List.mem_range.2 h1, h2⟩, e⟩

def own0 (e : List (List Int)) (a : Nat) : List Int := (e.getD a []).filter (fun b => decide (0 ≤ b ∧ b < (e.length : Int) ∧ b ≠ (a : Int)))
def own1 (e : List (List Int)) (a : Nat) : List Int := upI ((List.range e.length).filter (P1 e a))
def nbI (e : List (List Int)) (a : Nat) : List Int := upI (nbs e.length (adjG e) a)

theorem own1_eq (e : List (List Int)) (a : Nat) : compact (sortI (own0 e a)) = own1 e a := by
  obtain ⟨h1, h2⟩ := compact_sorted _ (sortI_le (own0 e a))
  refine sorted_ext _ _ h1 (upI_lt (filter_lt _ _)) (fun x => ?_)
  rw [h2, sortI_mem, own1, mem_upF, own0, List.mem_filter, decide_eq_true_eq]
  constructor
  · rintro ⟨h, h3, h4, h5⟩
    refine ⟨x.toNat, by omega, ?_, by omega⟩
    have ex : ((x.toNat : Nat) : Int) = x := by omega
    unfold P1
    rw [ex, Bool.and_eq_true, bne_iff_ne]
    exact ⟨by omega, List.contains_iff_mem.2 h⟩
  · rintro ⟨b, h3, h4, rfl⟩
    unfold P1 at h4
    rw [Bool.and_eq_true, bne_iff_ne] at h4
    exact ⟨List.contains_iff_mem.1 h4.2, by omega, by omega, by omega⟩

theorem mem_own1 (e : List (List Int)) (a b : Nat) (hb : b < e.length) : (own1 e a).contains (b : Int) = P1 e a b := by
  rw [Bool.eq_iff_iff, List.contains_iff_mem, own1, mem_upF]
  constructor
  · rintro ⟨c, h1, h2, h3⟩
    have : c = b := by omega
    subst this; exact h2
  · intro h; exact ⟨b, hb, h, rfl⟩

/-- what is missing at b when rows below a, and j places of row a, have been looked at -/
def mis (e : List (List Int)) (a j b : Nat) : List Int :=
  upI ((List.range a).filter (fun c => P1 e c b && !P1 e b c)) ++ (if ((own1 e a).take j).contains (b : Int) && !P1 e b a then [(a : Int)] else [])
theorem mis_start (e : List (List Int)) (b : Nat) : mis e 0 0 b = [] := by simp [mis, upI]
theorem mis_row (e : List (List Int)) (a b : Nat) (hb : b < e.length) : mis e a (own1 e a).length b = mis e (a+1) 0 b := by
  unfold mis
  rw [List.take_length, mem_own1 e a b hb, List.take_zero, List.range_succ, List.filter_append]
  unfold upI
  rw [List.map_append, List.append_assoc]
  congr 1
  have : ([] : List Int).contains (b : Int) = false := rfl
  rw [this, Bool.false_and]
  by_cases h : (P1 e a b && !P1 e b a) = true
  · rw [if_pos h, List.filter_cons_of_pos (p := fun c => P1 e c b && !P1 e b c) h]; rfl
  · rw [if_neg h, List.filter_cons_of_neg (p := fun c => P1 e c b && !P1 e b c) h]; rfl
theorem own1_lt (e : List (List Int)) (a : Nat) : (own1 e a).Pairwise (· < ·) := upI_lt (filter_lt _ _)
theorem own1_nat (e : List (List Int)) (a : Nat) (j : Nat) (hj : j < (own1 e a).length) : ∃ b : Nat, (own1 e a).getD j 0 = (b : Int) ∧ b < e.length ∧ P1 e a b = true := by
  have h := List.getElem_mem hj
  unfold own1 at h
  rw [mem_upF] at h
  obtain ⟨b, h1, h2, h3⟩ := h
  refine ⟨b, ?_, h1, h2⟩
  rw [List.getD_eq_getElem?_getD, List.getElem?_eq_getElem hj]
  exact h3.symm
theorem mis_next (e : List (List Int)) (a j q : Nat) (hj : j < (own1 e a).length) (hq : (own1 e a).getD j 0 = (q : Int)) (b : Nat) :
    mis e a (j+1) b = if b = q ∧ P1 e q a = false then mis e a j b ++ [(a : Int)] else mis e a j b := by
  unfold mis
  have hq' : (own1 e a)[j] = (q : Int) := by rw [List.getD_eq_getElem?_getD, List.getElem?_eq_getElem hj] at hq; exact hq
  have ht : (own1 e a).take (j+1) = (own1 e a).take j ++ [(q : Int)] := by rw [← hq', List.take_succ_eq_append_getElem hj]
  have hne : (q : Int) ∉ (own1 e a).take j := by
    intro h
    obtain ⟨i, hi, ei⟩ := List.mem_iff_getElem.1 h
    rw [List.length_take] at hi
    rw [List.getElem_take] at ei
    have := List.pairwise_iff_getElem.1 (own1_lt e a) i j (by omega) hj (by omega)
    omega
  rw [ht]
  by_cases hb : b = q
  · subst hb
    have h1 : ((own1 e a).take j ++ [(b : Int)]).contains (b : Int) = true := List.contains_iff_mem.2 (by simp)
    have h2 : ((own1 e a).take j).contains (b : Int) = false := Bool.eq_false_iff.2 (fun h => hne (List.contains_iff_mem.1 h))
    rw [h1, h2, Bool.true_and, Bool.false_and]
    cases hp : P1 e b a <;> simp
  · rw [if_neg (fun (h : b = q ∧ P1 e q a = false) => hb h.1)]
    have h1 : ((own1 e a).take j ++ [(q : Int)]).contains (b : Int) = ((own1 e a).take j).contains (b : Int) := by
      rw [Bool.eq_iff_iff, List.contains_iff_mem, List.contains_iff_mem, List.mem_append, List.mem_singleton]
      exact ⟨fun h => h.resolve_right (fun e => hb (by omega)), .inl⟩
    rw [h1]

theorem own_final (e : List (List Int)) (b : Nat) (hb : b < e.length) : sortI (own1 e b ++ mis e e.length 0 b) = nbI e b := by
  have hm : mis e e.length 0 b = upI ((List.range e.length).filter (fun c => P1 e c b && !P1 e b c)) := by
    unfold mis
    rw [List.take_zero]
    have : ([] : List Int).contains (b : Int) = false := rfl
    rw [this, Bool.false_and, if_neg Bool.noConfusion, List.append_nil]
  rw [hm]
  have hnd : ∀ {l : List Int}, l.Pairwise (· < ·) → l.Nodup := fun h => h.imp (fun h => by omega)
  refine sorted_ext _ _ (sortI_nodup ?_) (upI_lt (filter_lt _ _)) (fun x => ?_)
  · rw [List.nodup_append]
    refine ⟨hnd (own1_lt e b), hnd (upI_lt (filter_lt _ _)), fun x hx y hy => ?_⟩
    rw [own1, mem_upF] at hx; rw [mem_upF] at hy
    obtain ⟨c, _, h1, rfl⟩ := hx
    obtain ⟨d, _, h2, rfl⟩ := hy
    intro e
    have : c = d := by omega
    subst this
    rw [h1] at h2; simp at h2
  · rw [sortI_mem, List.mem_append, own1, mem_upF, mem_upF, nbI, nbs, mem_upF]
    constructor
    · rintro (⟨c, h1, h2, h3⟩ | ⟨c, h1, h2, h3⟩)
      · exact ⟨c, h1, by rw [adj_P1, h2]; rfl, h3⟩
      · rw [Bool.and_eq_true] at h2
        exact ⟨c, h1, by rw [adj_P1, h2.1, Bool.or_true], h3⟩
    · rintro ⟨c, h1, h2, h3⟩
      rw [adj_P1] at h2
      cases hp : P1 e b c with
      | true => exact .inl ⟨c, h1, hp, h3⟩
      | false =>
        rw [hp, Bool.false_or] at h2
        exact .inr ⟨c, h1, by rw [h2, hp]; rfl, h3⟩
theorem own_same (e : List (List Int)) (b : Nat) (hb : b < e.length) (h : mis e e.length 0 b = []) : own1 e b = nbI e b := by
  rw [← own_final e b hb, h, List.append_nil]
  exact sorted_ext _ _ (own1_lt e b) (sortI_nodup ((own1_lt e b).imp (fun h => by omega))) (fun x => (sortI_mem _ _).symm)
end Go.Proofs.YtifjcknklecdbaaDoor

/- The reference of layer 20: has, Adjacent, degree, next, free. -/
set_option linter.unusedVariables false
set_option linter.unusedSimpArgs false
namespace Go.Proofs.YtifjcknklecdbaaDoor
open Go.RowKit

/-- Every row has at most this many entries. -/
def RowsMax (e : List (List Int)) (m : Nat) : Prop := ∀ a, (e.getD a []).length ≤ m

def degU (A : Nat → Nat → Bool) (g : List Nat) (a i : Nat) : Nat := (((List.range i).filter (A a)).filter (fun b => !g.contains b)).length
theorem degU_zero (A : Nat → Nat → Bool) (g : List Nat) (a : Nat) : degU A g a 0 = 0 := rfl
theorem degU_le (A : Nat → Nat → Bool) (g : List Nat) (a i : Nat) : degU A g a i ≤ i := Nat.le_trans (List.length_filter_le _ _) (Nat.le_trans (List.length_filter_le _ _) (by simp))
theorem degU_end (n : Nat) (A : Nat → Nat → Bool) (g : List Nat) (a : Nat) : degU A g a n = degG n A g a := rfl
theorem degU_next (A : Nat → Nat → Bool) (g : List Nat) (a i : Nat) : degU A g a (i+1) = degU A g a i + (if (!g.contains i) && A a i then 1 else 0) := by
  unfold degU
  rw [List.range_succ, List.filter_append, List.filter_append, List.length_append]
  congr 1
  cases h1 : A a i <;> cases h2 : g.contains i
  · rw [List.filter_cons_of_neg (by simp [h1])]; simp
  · rw [List.filter_cons_of_neg (by simp [h1])]; simp
  · rw [List.filter_cons_of_pos h1, List.filter_nil, List.filter_cons_of_pos (by simpa using h2)]; simp
  · rw [List.filter_cons_of_pos h1, List.filter_nil, List.filter_cons_of_neg (by simpa using h2)]; simp

/-- a row of marks -/
def MarkAt (w : World) (G n : Nat) (g : List Nat) : Prop := w.rowIs G 4 n (fun i => .bool (g.contains i))
/-- a row of colors -/
def ColAt (w : World) (O n : Nat) (out : List Int) : Prop := w.rowIs O 3 n (fun i => .int .i64 (out.getD i (-1)))

end Go.Proofs.YtifjcknklecdbaaDoor

/- The reference's Color. -/
set_option linter.unusedVariables false
set_option linter.unusedSimpArgs false
namespace Go.Proofs.YtifjcknklecdbaaDoor
open Go.RowKit

def lenOf : Value → Nat | .slice _ n _ => n | _ => 0
theorem ownBase0 {w : World} {base : Nat} {e : TypeId} {size : Nat} {v : Value} {n : Nat} {xs : List Value} (h : w.ownsRow base e size v n xs) {k : Nat} (hk : v.ownBlock = some k) : base ≤ k := (h.lt k hk).1
theorem own_empty (w : World) (base B : Nat) (hB : B = w.heap.size) (hb : base ≤ B) : (w.alloc (.cells #[] 3)).ownsRow base 3 1 (.slice (some ⟨B, 0, none⟩) 0 0) 0 [] := by
  subst hB
  exact World.ownsRow_made w #[] 0 hb (Nat.zero_le _) rfl
theorem upI_snoc (g : List Nat) (a : Nat) : upI (g ++ [a]) = upI g ++ [(a : Int)] := by simp [upI]
theorem upI_len (g : List Nat) : (upI g).length = g.length := by simp [upI]
theorem upI_get (g : List Nat) (j : Nat) (hj : j < g.length) : (upI g).getD j 0 = (g.getD j 0 : Nat) := by
  simp only [upI, List.getD_eq_getElem?_getD, List.getElem?_map, List.getElem?_eq_getElem hj]; rfl
theorem mark_next {w : World} {G n : Nat} {g : List Nat} (h : MarkAt w G n g) (a : Nat) : MarkAt (w.setCell ⟨G, a, none⟩ (.bool true)) G n (g ++ [a]) := by
  refine (h.set a (.bool true)).congr fun i hi => ?_
  by_cases e : i = a
  · subst e
    rw [if_pos rfl]
    have : (g ++ [i]).contains i = true := List.contains_iff_mem.2 (by simp)
    rw [this]
  · rw [if_neg e]
    have : (g ++ [a]).contains i = g.contains i := by
      rw [Bool.eq_iff_iff, List.contains_iff_mem, List.contains_iff_mem, List.mem_append, List.mem_singleton]
      exact ⟨fun h => h.resolve_right e, .inl⟩
    rw [this]
theorem mark_made (w : World) (n : Nat) : MarkAt (w.alloc (.cells (madeCells #[Value.bool false] n) 4)) w.heap.size n [] := World.rowIs_made w _ n _
theorem col_set {w : World} {O n : Nat} {out : List Int} (h : ColAt w O n out) (hn : out.length = n) (a : Nat) (ha : a < n) (x : Int) : ColAt (w.setCell ⟨O, a, none⟩ (.int .i64 x)) O n (out.set a x) := by
  refine (h.set a (.int .i64 x)).congr fun i hi => ?_
  rw [getD_set _ _ _ _ (by omega)]
  by_cases e : i = a
  · subst e; rw [if_pos rfl, if_pos rfl]
  · rw [if_neg e, if_neg (fun h => e h.symm)]
theorem own_of_row {w : World} {O n : Nat} {out : List Int} (h : ColAt w O n out) (hn : out.length = n) (hl : n ≤ 1000000) (base : Nat) (hb : base ≤ O) : w.ownsRow base 3 1 (.slice (some ⟨O, 0, none⟩) n n) n (out.map (Value.int .i64)) := by
  obtain ⟨c, hc, hs, hx⟩ := h
  refine ⟨by simp [hn], .inr ⟨O, n, c, rfl, hb, hc, Nat.le_refl _, by unfold maxLen; omega, by omega, ?_⟩⟩
  apply List.ext_getElem?
  intro j
  rw [Nat.mul_one]
  by_cases hj : j < n
  · rw [List.getElem?_take_of_lt hj, Array.getElem?_toList, hx j hj, List.getElem?_map, List.getElem?_eq_getElem (by omega)]
    show some (Value.int .i64 (out.getD j (-1))) = _
    rw [List.getD_eq_getElem?_getD, List.getElem?_eq_getElem (by omega)]; rfl
  · rw [List.getElem?_take_eq_none (by omega), List.getElem?_eq_none (by simp; omega)]
theorem rdI_at {w : World} {v : Value} {xs : List Int} (h : RdI w v xs) (k : Nat) (hk : k < xs.length) : ∃ m off cap, v = .slice (some ⟨m, off, none⟩) xs.length cap ∧ m < w.heap.size ∧ w.cell? ⟨m, off + k, none⟩ = some (.int .i64 (xs.getD k 0)) := by
  obtain ⟨p, cap, hv, hc⟩ := h
  obtain ⟨m, off, rfl, hm, hx⟩ := hc k hk
  exact ⟨m, off, cap, hv, hm, hx⟩
theorem RowsMax.mono {e : List (List Int)} {a b : Nat} (h : RowsMax e a) (hab : a ≤ b) : RowsMax e b := fun i => Nat.le_trans (h i) hab
theorem removeG_done (n : Nat) (A : Nat → Nat → Bool) (k : Int) (g : List Nat) (h : removeG n A k (n - n) g = removeG n A k n []) : g = removeG n A k n [] := by rw [Nat.sub_self] at h; exact h
theorem removeG_more (n : Nat) (A : Nat → Nat → Bool) (k : Int) (g : List Nat) (a m : Nat) (ha : nextG n A k g = (a : Int)) (hm : m < n) : removeG n A k (n - m) g = removeG n A k (n - (m+1)) (g ++ [a]) := by
  rw [show n - m = (n - (m+1)) + 1 by omega]
  show removeG n A k (n - (m+1)) (g ++ [(nextG n A k g).toNat]) = _
  rw [ha, Int.toNat_natCast]
/-- what is left of the stack: its first k places, from the last on -/
def selK (n : Nat) (A : Nat → Nat → Bool) (c : Int) (g : List Nat) (k : Nat) (out : List Int) : List Int := selectG n A c (g.take k).reverse out
theorem selK_zero (n : Nat) (A : Nat → Nat → Bool) (c : Int) (g : List Nat) (out : List Int) : selK n A c g 0 out = out := rfl
theorem selK_next (n : Nat) (A : Nat → Nat → Bool) (c : Int) (g : List Nat) (k : Nat) (out : List Int) (hk : k < g.length) : selK n A c g (k+1) out = selK n A c g k (out.set (g.getD k 0) (pickG n A c out (g.getD k 0))) := by
  unfold selK
  rw [List.take_succ_eq_append_getElem hk, List.reverse_append, List.getD_eq_getElem?_getD, List.getElem?_eq_getElem hk]
  rfl
theorem selK_all (n : Nat) (A : Nat → Nat → Bool) (c : Int) (g : List Nat) (out : List Int) : selK n A c g g.length out = selectG n A c g.reverse out := by unfold selK; rw [List.take_length]

end Go.Proofs.YtifjcknklecdbaaDoor

