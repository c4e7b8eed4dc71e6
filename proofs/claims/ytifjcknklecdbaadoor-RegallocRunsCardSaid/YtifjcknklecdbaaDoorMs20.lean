import Derived.Test.YtifjcknklecdbaaDoorLivQ
import Derived.Test.YtifjcknklecdbaaDoorMs19
import Derived.Test.YtifjcknklecdbaaDoorMs16
/- The allocation is valid, in plain Lean. No walk here. -/
set_option linter.unusedVariables false
set_option linter.unusedSimpArgs false
namespace Go.Proofs.YtifjcknklecdbaaDoor
open Go.RowKit

/-- Below a color that is used every color is used. -/
def Dense (n : Nat) (out : List Int) : Prop := ∀ a, a < n → ∀ c : Nat, (c : Int) < out.getD a (-1) → ∃ b, b < n ∧ out.getD b (-1) = (c : Int)
theorem pickG_below (n : Nat) (A : Nat → Nat → Bool) (k : Int) (out : List Int) (a c : Nat) (h : (c : Int) < pickG n A k out a) : ∃ b, b < n ∧ A a b = true ∧ out.getD b (-1) = (c : Int) := by
  unfold pickG at h
  cases hf : (List.range k.toNat).find? (freeG n A out a) with
  | none => rw [hf] at h; exact absurd h (by show ¬ (c : Int) < -1; omega)
  | some d =>
    rw [hf] at h
    have hcd : c < d := by
      have h : (c : Int) < (d : Int) := h
      omega
    have h1 := (List.find?_range_eq_some.1 hf).2.2 c hcd
    have h2 : freeG n A out a c = false := by simpa using h1
    unfold freeG at h2
    obtain ⟨b, hb, hne⟩ := List.all_eq_false.1 h2
    rw [mem_nbs] at hb
    exact ⟨b, hb.1, hb.2, by simpa using hne⟩
theorem selectG_dense {n : Nat} {A : Nat → Nat → Bool} (hirr : ∀ a, A a a = false) {k : Int} : ∀ (l : List Nat) (out : List Int), out.length = n → l.Nodup → (∀ x ∈ l, x < n ∧ out.getD x (-1) = -1) → Dense n out → Dense n (selectG n A k l out)
  | [], out, _, _, _, h => h
  | a :: l, out, hlen, hn, hl, h => by
    unfold selectG
    rw [List.nodup_cons] at hn
    obtain ⟨han, hal⟩ := hl a (List.mem_cons_self ..)
    have G : ∀ b, (out.set a (pickG n A k out a)).getD b (-1) = if a = b then pickG n A k out a else out.getD b (-1) := fun b => getD_set _ _ _ _ (by omega)
    refine selectG_dense hirr l _ (by simp [hlen]) hn.2 (fun x hx => ⟨(hl x (List.mem_cons_of_mem _ hx)).1, ?_⟩) ?_
    · rw [G, if_neg (fun e : a = x => by subst e; exact hn.1 hx)]
      exact (hl x (List.mem_cons_of_mem _ hx)).2
    · intro b hb c hc
      rw [G] at hc
      by_cases e : a = b
      · rw [if_pos e] at hc
        obtain ⟨d, hd, hA, hv⟩ := pickG_below n A k out a c hc
        refine ⟨d, hd, ?_⟩
        rw [G, if_neg (fun e => by subst e; rw [hirr] at hA; cases hA)]
        exact hv
      · rw [if_neg e] at hc
        obtain ⟨d, hd, hv⟩ := h b hb c hc
        refine ⟨d, hd, ?_⟩
        rw [G, if_neg (fun e => by subst e; omega)]
        exact hv
theorem colorG_dense {n : Nat} {A : Nat → Nat → Bool} (hirr : ∀ a, A a a = false) {k : Int} : Dense n (colorG n A k) := by
  obtain ⟨h1, h2, h3⟩ := removed (n := n) (A := A) (k := k)
  have G : ∀ b, (List.replicate n (-1 : Int)).getD b (-1) = -1 := by
    intro b
    simp only [List.getD_eq_getElem?_getD, List.getElem?_replicate]
    by_cases e : b < n <;> simp [e]
  refine selectG_dense hirr _ _ (by simp) (List.pairwise_reverse.2 (h2.imp fun h => h.symm)) (fun x hx => ⟨(h3 x).1 (List.mem_reverse.1 hx), G x⟩) fun a _ c hc => ?_
  rw [G] at hc; omega
theorem nbs_lt {n : Nat} {A : Nat → Nat → Bool} (hirr : ∀ a, A a a = false) {a : Nat} (ha : a < n) : (nbs n A a).length < n := by
  have h := len_le_of_sub (a :: nbs n A a) (List.range n) (List.nodup_cons.2 ⟨fun h => (by rw [mem_nbs, hirr] at h; cases h.2), List.Nodup.sublist List.filter_sublist List.nodup_range⟩) (fun x hx => by
    rw [List.mem_range]
    rcases List.mem_cons.1 hx with rfl | h
    · exact ha
    · exact (mem_nbs.1 h).1)
  rw [List.length_cons, List.length_range] at h
  omega

/-- The number of slots. -/
theorem slN_ge (A : List Int) : ∀ k i, i < k → A.getD i (-1) + 1 ≤ slN A k
  | 0, i, h => absurd h (Nat.not_lt_zero i)
  | k + 1, i, h => by
    unfold slN
    by_cases e : i = k
    · subst e; exact Int.le_max_right _ _
    · exact Int.le_trans (slN_ge A k i (by omega)) (Int.le_max_left _ _)
theorem slN_pos (A : List Int) : ∀ k, 0 ≤ slN A k
  | 0 => Int.le_refl _
  | k + 1 => Int.le_trans (slN_pos A k) (Int.le_max_left _ _)
theorem slN_hit (A : List Int) : ∀ k, slN A k = 0 ∨ ∃ i, i < k ∧ slN A k = A.getD i (-1) + 1
  | 0 => .inl rfl
  | k + 1 => by
    unfold slN
    rcases Int.le_total (slN A k) (A.getD k (-1) + 1) with h | h
    · rw [Int.max_eq_right h]; exact .inr ⟨k, by omega, rfl⟩
    · rw [Int.max_eq_left h]
      rcases slN_hit A k with h1 | ⟨i, hi, h1⟩
      · exact .inl h1
      · exact .inr ⟨i, by omega, h1⟩

/-- What makes an allocation valid. -/
structure VaG (E : List (List Int)) (R : Nat) (P : Nat → Int × Int) (n : Int) : Prop where
  pos : 0 ≤ n
  big : n ≤ 64
  kind : ∀ a, a < R → (2 ≤ (P a).1 ∧ (P a).1 < 10 ∧ (P a).2 = -1) ∨ ((P a).1 = 0 ∧ 0 ≤ (P a).2 ∧ (P a).2 < n)
  used : ∀ c : Nat, (c : Int) < n → ∃ a, a < R ∧ (P a).1 = 0 ∧ (P a).2 = (c : Int)
  edge : ∀ r, r < R → ∀ q ∈ E.getD r [], ∃ k : Nat, q = (k : Int) ∧ k < R ∧ P r ≠ P k

theorem vaG {E : List (List Int)} {R : Nat} (hR : R ≤ 64) (hE : ∀ r, r < R → ∀ q ∈ E.getD r [], ∃ k : Nat, q = (k : Int) ∧ k < R ∧ k ≠ r) {C : List Int} {S : List Nat} {A : List Int}
    (hC : C = colorG R (adjG E) 8) (hS : S = spillN C R) (hA : A = colorG S.length (adjG (amongE E S)) S.length) : VaG E R (placesG C S A R) (slN A S.length) := by
  have hSn : S.Nodup := by rw [hS]; exact spillN_nodup C R
  have hSl : S.length ≤ R := by rw [hS]; exact spillN_len C R
  have hSm : ∀ a, a ∈ S ↔ a < R ∧ C.getD a (-1) < 0 := fun a => by rw [hS]; exact mem_spillN
  have hAf : ∀ i, i < S.length → 0 ≤ A.getD i (-1) ∧ A.getD i (-1) < S.length := fun i hi => by
    have h := colorG_few (n := S.length) (A := adjG (amongE E S)) (adj_sym _) (adj_irr _) (k := S.length) (fun a ha => nbs_lt (adj_irr _) ha) hi
    rw [← hA] at h; exact h
  have hCr := (colorG_ok (n := R) (A := adjG E) (k := 8) (adj_sym E) (adj_irr E))
  rw [← hC] at hCr
  have hAr := (colorG_ok (n := S.length) (A := adjG (amongE E S)) (k := S.length) (adj_sym _) (adj_irr _))
  rw [← hA] at hAr
  have hP : ∀ a, a < R → placesG C S A R a = if a ∈ S then (0, A.getD (S.idxOf a) (-1)) else (2 + C.getD a (-1), -1) := fun a ha => by
    unfold placesG
    rw [pl2_at _ _ _ hSn _ _ (Nat.le_refl _), List.take_length, pl1_at]
    by_cases h : a ∈ S
    · rw [if_pos h, if_pos h]
    · have h2 := mt (hSm a).2 h
      have h3 : a < R ∧ 0 ≤ C.getD a (-1) := ⟨ha, by omega⟩
      rw [if_neg h, if_neg h, if_pos h3]
  have hix : ∀ a, a ∈ S → S.idxOf a < S.length ∧ S.getD (S.idxOf a) 0 = a := fun a h => by
    have hl := List.idxOf_lt_length_of_mem h
    exact ⟨hl, by rw [List.getD_eq_getElem?_getD, List.getElem?_eq_getElem hl]; simp⟩
  refine ⟨slN_pos _ _, ?_, fun a ha => ?_, fun c hc => ?_, fun r hr q hq => ?_⟩
  · rcases slN_hit A S.length with h | ⟨i, hi, h⟩
    · omega
    · have := hAf i hi; omega
  · rw [hP a ha]
    by_cases h : a ∈ S
    · rw [if_pos h]
      have hi := (hix a h).1
      have h2 := slN_ge A S.length _ hi
      have := hAf _ hi
      exact .inr ⟨rfl, this.1, by show A.getD (S.idxOf a) (-1) < _; omega⟩
    · rw [if_neg h]
      have h2 := mt (hSm a).2 h
      have := hCr.rng a ha
      exact .inl ⟨by show 2 ≤ 2 + C.getD a (-1); omega, by show 2 + C.getD a (-1) < 10; omega, rfl⟩
  · have hd : Dense S.length A := by rw [hA]; exact colorG_dense (adj_irr _)
    have hb : ∃ b, b < S.length ∧ A.getD b (-1) = (c : Int) := by
      rcases slN_hit A S.length with h | ⟨i, hi, h⟩
      · omega
      · by_cases e : (c : Int) = A.getD i (-1)
        · exact ⟨i, hi, e.symm⟩
        · exact hd i hi c (by omega)
    obtain ⟨b, hb, hv⟩ := hb
    have hm : S[b] ∈ S := List.getElem_mem hb
    refine ⟨S[b], ((hSm _).1 hm).1, ?_⟩
    rw [hP _ ((hSm _).1 hm).1, if_pos hm, List.Nodup.idxOf_getElem hSn]
    exact ⟨rfl, hv⟩
  · obtain ⟨k, rfl, hk, hkr⟩ := hE r hr q hq
    refine ⟨k, rfl, hk, ?_⟩
    have hadj : adjG E r k = true := by
      have : adjG E r k = (r != k && ((E.getD r []).contains (k : Int) || (E.getD k []).contains (r : Int))) := rfl
      rw [this]
      simp only [Bool.and_eq_true, Bool.or_eq_true, bne_iff_ne]
      exact ⟨fun e => hkr e.symm, .inl (List.contains_iff_mem.2 hq)⟩
    rw [hP r hr, hP k hk]
    by_cases h1 : r ∈ S
    · rw [if_pos h1]
      by_cases h2 : k ∈ S
      · rw [if_pos h2]
        obtain ⟨i1, j1⟩ := hix r h1
        obtain ⟨i2, j2⟩ := hix k h2
        have ha := amongE_adj E S hSn _ _ i1 i2
        rw [j1, j2, hadj] at ha
        have hp := hAr.prp _ _ i1 i2 ha (hAf _ i1).1
        intro e
        injection e with _ e
        exact hp e
      · rw [if_neg h2]
        have := mt (hSm k).2 h2
        intro e
        injection e with e _
        omega
    · rw [if_neg h1]
      have h3 := mt (hSm r).2 h1
      by_cases h2 : k ∈ S
      · rw [if_pos h2]
        intro e
        injection e with e _
        omega
      · rw [if_neg h2]
        have hp := hCr.prp r k hr hk hadj (by omega)
        intro e
        injection e with e _
        omega
/-- No slots where every node has few neighbors. -/
theorem slots_none {E : List (List Int)} {R : Nat} {C : List Int} {S : List Nat} {A : List Int} (hC : C = colorG R (adjG E) 8) (hS : S = spillN C R) (hf : ∀ a, a < R → (nbs R (adjG E) a).length < 8) : slN A S.length = 0 := by
  have h0 : S = [] := by
    rw [hS]
    refine List.eq_nil_iff_forall_not_mem.2 fun a h => ?_
    obtain ⟨ha, hn⟩ := mem_spillN.1 h
    have := colorG_few (n := R) (A := adjG E) (adj_sym E) (adj_irr E) (k := 8) hf ha
    rw [show ((8 : Nat) : Int) = 8 from rfl, ← hC] at this
    omega
  rw [h0]; rfl
end Go.Proofs.YtifjcknklecdbaaDoor

/- The law's same: two equal allocations. -/
set_option linter.unusedVariables false
set_option linter.unusedSimpArgs false
namespace Go.Proofs.YtifjcknklecdbaaDoor
open Go.RowKit

/-- A slice of places that can be read. -/
def PlRd (w : World) (v : Value) (n : Nat) (P : Nat → Int × Int) : Prop :=
  ∃ p cap, v = .slice p n cap ∧ ∀ k, k < n → ∃ m off, p = some ⟨m, off, none⟩ ∧ m < w.heap.size ∧ w.cell? ⟨m, off + k * 2, none⟩ = some (.int .i64 (P k).1) ∧ w.cell? ⟨m, off + k * 2 + 1, none⟩ = some (.int .i64 (P k).2)
theorem PlRd.below {B : Nat} {w w' : World} {v : Value} {n : Nat} {P : Nat → Int × Int} (h : PlRd w v n P) (hb : Below B w w') (hB : w.heap.size ≤ B) : PlRd w' v n P := by
  obtain ⟨p, cap, hv, hc⟩ := h
  refine ⟨p, cap, hv, fun k hk => ?_⟩
  obtain ⟨m, off, hp, hm, h1, h2⟩ := hc k hk
  exact ⟨m, off, hp, Nat.lt_of_lt_of_le hm hb.size, (hb.cell (p := ⟨m, off + k * 2, none⟩) (Nat.lt_of_lt_of_le hm hB)).trans h1, (hb.cell (p := ⟨m, off + k * 2 + 1, none⟩) (Nat.lt_of_lt_of_le hm hB)).trans h2⟩
theorem PlRd.shape {w : World} {v : Value} {n : Nat} {P : Nat → Int × Int} (h : PlRd w v n P) : ∃ p cap, v = .slice p n cap := by
  obtain ⟨p, cap, hv, _⟩ := h
  exact ⟨p, cap, hv⟩
theorem PlRd.congr {w : World} {v : Value} {n : Nat} {P Q : Nat → Int × Int} (h : PlRd w v n P) (hq : ∀ k, k < n → P k = Q k) : PlRd w v n Q := by
  obtain ⟨p, cap, hv, hc⟩ := h
  refine ⟨p, cap, hv, fun k hk => ?_⟩
  rw [← hq k hk]; exact hc k hk
theorem PlRd.nil (w : World) (P : Nat → Int × Int) : PlRd w (.slice none 0 0) 0 P := ⟨none, 0, rfl, fun k hk => absurd hk (Nat.not_lt_zero k)⟩
theorem PlAt.rd {w : World} {g n : Nat} {P : Nat → Int × Int} (h : PlAt w g n P) (cap : Nat) : PlRd w (.slice (some ⟨g, 0, none⟩) n cap) n P :=
  ⟨_, cap, rfl, fun k hk => ⟨g, 0, rfl, World.rowIs.lt h, by rw [Nat.zero_add]; exact h.fst hk, by rw [Nat.zero_add]; exact h.snd hk⟩⟩
/-- The cells of the first i places. -/
def plList (P : Nat → Int × Int) (i : Nat) : List Value := (List.range i).flatMap fun k => [.int .i64 (P k).1, .int .i64 (P k).2]
theorem plList_next (P : Nat → Int × Int) (i : Nat) : plList P (i + 1) = plList P i ++ [.int .i64 (P i).1, .int .i64 (P i).2] := by
  unfold plList; rw [List.range_succ, List.flatMap_append]; simp
theorem plList_len (P : Nat → Int × Int) : ∀ i, (plList P i).length = i * 2
  | 0 => rfl
  | i + 1 => by rw [plList_next, List.length_append, plList_len P i]; simp; omega
theorem plList_at (P : Nat → Int × Int) : ∀ i k, k < i → (plList P i)[k * 2]? = some (.int .i64 (P k).1) ∧ (plList P i)[k * 2 + 1]? = some (.int .i64 (P k).2)
  | 0, k, h => absurd h (Nat.not_lt_zero k)
  | i + 1, k, h => by
    rw [plList_next]
    by_cases e : k = i
    · subst e
      rw [List.getElem?_append_right (by rw [plList_len]; omega), List.getElem?_append_right (by rw [plList_len]; omega), plList_len, Nat.sub_self, show k * 2 + 1 - k * 2 = 1 by omega]
      exact ⟨rfl, rfl⟩
    · have := plList_at P i k (by omega)
      rw [List.getElem?_append_left (by rw [plList_len]; omega), List.getElem?_append_left (by rw [plList_len]; omega)]
      exact this
theorem PlRd.of_own {w : World} {base n : Nat} {v : Value} {P : Nat → Int × Int} (h : w.ownsRow base 66 2 v n (plList P n)) : PlRd w v n P := by
  rcases h.2 with ⟨rfl, hn⟩ | ⟨g, cap, cur, rfl, hg, hh, hnc, hcap, hcs, htk⟩
  · subst hn; exact PlRd.nil w P
  · refine ⟨_, cap, rfl, fun k hk => ⟨g, 0, rfl, ltB hh, ?_, ?_⟩⟩
    · have h1 : (cur.toList.take (n * 2))[k * 2]? = (plList P n)[k * 2]? := by rw [htk]
      rw [List.getElem?_take, if_pos (by omega), (plList_at P n k hk).1] at h1
      simp only [World.cell?, hh, Option.isSome_none, Bool.false_eq_true, if_false, Nat.zero_add]
      rw [← Array.getElem?_toList, h1]
    · have h1 : (cur.toList.take (n * 2))[k * 2 + 1]? = (plList P n)[k * 2 + 1]? := by rw [htk]
      rw [List.getElem?_take, if_pos (by omega), (plList_at P n k hk).2] at h1
      simp only [World.cell?, hh, Option.isSome_none, Bool.false_eq_true, if_false, Nat.zero_add]
      rw [← Array.getElem?_toList, h1]

end Go.Proofs.YtifjcknklecdbaaDoor

/- regalloc.Valid of an allocation that is valid. -/
set_option linter.unusedVariables false
set_option linter.unusedSimpArgs false
namespace Go.Proofs.YtifjcknklecdbaaDoor
open Go.RowKit Go.Maps Go.WideMaps

/-- The slots of the first k places. -/
def slotK (P : Nat → Int × Int) (k : Nat) : List Lit := ((List.range k).filter (fun a => decide ((P a).1 = 0))).map (fun a => Lit.int .i64 (P a).2)
def SlK {H : Type} (P : Nat → Int × Int) (k : Nat) : DataW H := setOf (.lit (.bool true)) (slotK P k)
theorem SlK_zero {H : Type} (P : Nat → Int × Int) : SlK (H := H) P 0 = .map [] := by simp [SlK, slotK, setOf]
theorem slotK_next (P : Nat → Int × Int) (k : Nat) : slotK P (k + 1) = if (P k).1 = 0 then slotK P k ++ [.int .i64 (P k).2] else slotK P k := by
  unfold slotK
  rw [List.range_succ, List.filter_append, List.map_append]
  by_cases h : (P k).1 = 0
  · rw [if_pos h, List.filter_cons_of_pos (by simpa using h)]; rfl
  · rw [if_neg h, List.filter_cons_of_neg (by simpa using h)]; simp
theorem SlK_put {H : Type} (P : Nat → Int × Int) (k : Nat) (h : (P k).1 = 0) : SlK (H := H) P (k + 1) = (SlK P k).put (.int .i64 (P k).2) (.lit (.bool true)) := by
  unfold SlK; rw [slotK_next, if_pos h, setOf_snoc]
theorem SlK_same {H : Type} (P : Nat → Int × Int) (k : Nat) (h : ¬ (P k).1 = 0) : SlK (H := H) P (k + 1) = SlK P k := by
  unfold SlK; rw [slotK_next, if_neg h]
theorem slotK_key (P : Nat → Int × Int) (k : Nat) : ∀ x ∈ slotK P k, WideAt.IsKeyLit x := by
  intro x hx
  unfold slotK at hx
  obtain ⟨b, _, rfl⟩ := List.mem_map.1 hx
  trivial
theorem SlK_size {H : Type} (P : Nat → Int × Int) (R K : Nat) (h : ∀ c : Nat, (c : Int) < K → ∃ b, b < R ∧ (P b).1 = 0 ∧ (P b).2 = (c : Int)) : K ≤ Maps.size (SlK (H := H) P R) := by
  unfold SlK
  rw [size_setOf _ _ (slotK_key P R)]
  haveI : DecidableEq Lit := fun _ _ => Classical.propDecidable _
  have h1 := len_le_of_sub ((List.range K).map (fun c : Nat => Lit.int .i64 (c : Int))) ((slotK P R).foldl addKey []) ?_ ?_
  · simpa using h1
  · rw [List.Nodup, List.pairwise_map]
    exact List.nodup_range.imp fun h e => h (by injection e with _ e; omega)
  · intro x hx
    obtain ⟨c, hc, rfl⟩ := List.mem_map.1 hx
    obtain ⟨b, hb, hA, hv⟩ := h c (by have := List.mem_range.1 hc; omega)
    refine addKey_mem _ _ _ (.inr ?_)
    unfold slotK
    exact List.mem_map.2 ⟨b, List.mem_filter.2 ⟨List.mem_range.2 hb, by rw [hA]; simp⟩, by rw [hv]⟩

end Go.Proofs.YtifjcknklecdbaaDoor

/- The law RegallocSound. -/
set_option linter.unusedVariables false
set_option linter.unusedSimpArgs false
namespace Go.Proofs.YtifjcknklecdbaaDoor
open Go.RowKit

/-- The neighbors among the first j nodes. -/
def cntU (A : Nat → Nat → Bool) (a j : Nat) : Nat := ((List.range j).filter (A a)).length
theorem cntU_zero (A : Nat → Nat → Bool) (a : Nat) : cntU A a 0 = 0 := rfl
theorem cntU_le (A : Nat → Nat → Bool) (a j : Nat) : cntU A a j ≤ j := by
  unfold cntU
  have := List.length_filter_le (A a) (List.range j)
  rw [List.length_range] at this; exact this
theorem cntU_next (A : Nat → Nat → Bool) (a j : Nat) : cntU A a (j + 1) = cntU A a j + (if A a j = true then 1 else 0) := by
  unfold cntU
  rw [List.range_succ, List.filter_append, List.length_append]
  cases h : A a j
  · rw [List.filter_cons_of_neg (by simp [h])]; simp
  · rw [List.filter_cons_of_pos h]; simp

end Go.Proofs.YtifjcknklecdbaaDoor

