/- The allocation, in plain Lean. No walk here. -/
import Derived.Test.YtikfjehollnjeaaDoorLivN
import Derived.Test.YtikfjehollnjeaaDoorRegN
import Derived.Test.YtikfjehollnjeaaDoorRegL
set_option linter.unusedVariables false
set_option linter.unusedSimpArgs false
namespace Go.Proofs.YtikfjehollnjeaaDoor
open Go.RowKit Go.Maps Go.WideMaps

/-- The nodes without a color, among the first k. -/
def spillN (C : List Int) (k : Nat) : List Nat := (List.range k).filter (fun a => decide (C.getD a (-1) < 0))
theorem spillN_zero (C : List Int) : spillN C 0 = [] := rfl
theorem spillN_next (C : List Int) (k : Nat) : spillN C (k + 1) = if C.getD k (-1) < 0 then spillN C k ++ [k] else spillN C k := by
  unfold spillN
  rw [List.range_succ, List.filter_append]
  by_cases h : C.getD k (-1) < 0
  · rw [if_pos h, List.filter_cons_of_pos (by simpa using h)]; rfl
  · rw [if_neg h, List.filter_cons_of_neg (by simpa using h)]; simp
theorem mem_spillN {C : List Int} {k a : Nat} : a ∈ spillN C k ↔ a < k ∧ C.getD a (-1) < 0 := by
  simp [spillN, List.mem_filter, List.mem_range]
theorem spillN_nodup (C : List Int) (k : Nat) : (spillN C k).Nodup := List.Nodup.sublist List.filter_sublist List.nodup_range
theorem spillN_len (C : List Int) (k : Nat) : (spillN C k).length ≤ k := by
  have := List.length_filter_le (fun a => decide (C.getD a (-1) < 0)) (List.range k)
  rw [List.length_range] at this; exact this

/-- The place of a number in a list of nodes. -/
def posI (S : List Nat) (q : Int) : Option Int := if 0 ≤ q ∧ q.toNat ∈ S then some (S.idxOf q.toNat : Int) else none
theorem posI_nil (q : Int) : posI [] q = none := by simp [posI]
theorem posI_some {S : List Nat} {q i : Int} (h : posI S q = some i) : ∃ a j : Nat, q = (a : Int) ∧ i = (j : Int) ∧ j < S.length ∧ S.getD j 0 = a := by
  unfold posI at h
  split at h
  · rename_i h1
    injection h with h
    have hl := List.idxOf_lt_length_of_mem h1.2
    exact ⟨q.toNat, S.idxOf q.toNat, by omega, h.symm, hl, by rw [List.getD_eq_getElem?_getD, List.getElem?_eq_getElem hl]; simp⟩
  · cases h
theorem posI_at {S : List Nat} (hn : S.Nodup) {j : Nat} (hj : j < S.length) : posI S (S.getD j 0 : Nat) = some (j : Int) := by
  have e : S.getD j 0 = S[j] := by rw [List.getD_eq_getElem?_getD, List.getElem?_eq_getElem hj]; rfl
  unfold posI
  rw [e, if_pos ⟨by omega, by simp⟩]
  simp [List.Nodup.idxOf_getElem hn]
theorem posI_none {S : List Nat} {a : Nat} : posI S (a : Int) = none ↔ a ∉ S := by
  unfold posI
  by_cases h : a ∈ S
  · simp [h]
  · simp [h]
theorem posI_push (S : List Nat) (k : Nat) (hk : k ∉ S) (q : Int) : posI (S ++ [k]) q = if q = (k : Int) then some (S.length : Int) else posI S q := by
  unfold posI
  by_cases e : q = (k : Int)
  · subst e
    rw [if_pos rfl, if_pos ⟨by omega, by simp⟩]
    simp [List.idxOf_append, hk]
  · rw [if_neg e]
    by_cases h : 0 ≤ q ∧ q.toNat ∈ S
    · rw [if_pos h, if_pos ⟨h.1, List.mem_append_left _ h.2⟩, List.idxOf_append, if_pos h.2]
    · rw [if_neg h, if_neg]
      intro h2
      rcases List.mem_append.1 h2.2 with h3 | h3
      · exact h ⟨h2.1, h3⟩
      · rw [List.mem_singleton] at h3; omega

/-- The map from nodes to their places. -/
structure MapIs (D : DataW Unit) (S : List Nat) : Prop where
  has : ∀ q : Int, Maps.has D (.int .i64 q) = (posI S q).isSome
  val : ∀ q i : Int, posI S q = some i → ∀ z, D.atKey (.int .i64 q) z = .lit (.int .i64 i)
theorem MapIs.nil : MapIs (.map []) [] := ⟨fun q => by rw [posI_nil]; rfl, fun q i h => by rw [posI_nil] at h; cases h⟩
theorem MapIs.push {D : DataW Unit} {S : List Nat} (h : MapIs D S) (hD : IsMap D) {k : Nat} (hk : k ∉ S) : MapIs (D.put (.int .i64 k) (.lit (.int .i64 S.length))) (S ++ [k]) := by
  refine ⟨fun q => ?_, fun q i => ?_⟩
  · rw [posI_push S k hk]
    by_cases e : q = (k : Int)
    · subst e; rw [if_pos rfl]; exact has_put_same hD (show WideAt.IsKeyLit (Lit.int .i64 (k : Int)) from trivial) _
    · rw [if_neg e, has_put_other (fun e2 => e (by injection e2)) _]; exact h.has q
  · rw [posI_push S k hk]
    by_cases e : q = (k : Int)
    · subst e
      rw [if_pos rfl]
      intro e2 z
      injection e2 with e2
      rw [← e2]; exact atKey_put_same hD (show WideAt.IsKeyLit (Lit.int .i64 (k : Int)) from trivial) _ _
    · rw [if_neg e]
      intro e2 z
      rw [atKey_put_other (fun e2 => e (by injection e2)) _ _]; exact h.val q i e2 z

/-- The graph of the nodes without a color: row i, its first j places. -/
def amongJ (E : List (List Int)) (S : List Nat) (i j : Nat) : List Int := ((E.getD (S.getD i 0) []).take j).filterMap (posI S)
def amongR (E : List (List Int)) (S : List Nat) (i : Nat) : List Int := (E.getD (S.getD i 0) []).filterMap (posI S)
def amongE (E : List (List Int)) (S : List Nat) : List (List Int) := (List.range S.length).map (amongR E S)
theorem amongJ_zero (E : List (List Int)) (S : List Nat) (i : Nat) : amongJ E S i 0 = [] := rfl
theorem amongJ_end (E : List (List Int)) (S : List Nat) (i : Nat) : amongJ E S i (E.getD (S.getD i 0) []).length = amongR E S i := by unfold amongJ amongR; rw [List.take_length]
theorem amongJ_next (E : List (List Int)) (S : List Nat) (i j : Nat) (hj : j < (E.getD (S.getD i 0) []).length) : amongJ E S i (j + 1) = match posI S ((E.getD (S.getD i 0) []).getD j 0) with
    | none => amongJ E S i j
    | some k => amongJ E S i j ++ [k] := by
  unfold amongJ
  generalize E.getD (S.getD i 0) [] = l at hj ⊢
  rw [show l.getD j 0 = l[j] by rw [List.getD_eq_getElem?_getD, List.getElem?_eq_getElem hj]; rfl, List.take_succ_eq_append_getElem hj, List.filterMap_append]
  cases h : posI S l[j] with
  | none => simp [h]
  | some k => simp [h]
theorem amongJ_len (E : List (List Int)) (S : List Nat) (i j : Nat) : (amongJ E S i j).length ≤ (E.getD (S.getD i 0) []).length := by
  unfold amongJ
  refine Nat.le_trans (List.length_filterMap_le _ _) ?_
  rw [List.length_take]; omega
theorem amongE_len (E : List (List Int)) (S : List Nat) : (amongE E S).length = S.length := by simp [amongE]
theorem amongE_at (E : List (List Int)) (S : List Nat) {i : Nat} (hi : i < S.length) : (amongE E S).getD i [] = amongR E S i := by simp [amongE, List.getD_eq_getElem?_getD, hi]

theorem mem_amongR {E : List (List Int)} {S : List Nat} (hn : S.Nodup) {i k : Nat} (hk : k < S.length) : (k : Int) ∈ amongR E S i ↔ ((S.getD k 0 : Nat) : Int) ∈ E.getD (S.getD i 0) [] := by
  unfold amongR
  rw [List.mem_filterMap]
  constructor
  · rintro ⟨q, hq, hp⟩
    obtain ⟨a, j, rfl, hj, hjl, ha⟩ := posI_some hp
    have : j = k := by omega
    subst this
    rw [ha]; exact hq
  · intro h
    exact ⟨_, h, posI_at hn hk⟩
/-- The graph of these nodes, by the graph that they are taken of. -/
theorem amongE_adj (E : List (List Int)) (S : List Nat) (hn : S.Nodup) (a b : Nat) (ha : a < S.length) (hb : b < S.length) : adjG (amongE E S) a b = adjG E (S.getD a 0) (S.getD b 0) := by
  have hne : a ≠ b ↔ S.getD a 0 ≠ S.getD b 0 := by
    refine not_congr ⟨fun e => by rw [e], fun e => ?_⟩
    have h1 := posI_at hn ha
    rw [e, posI_at hn hb] at h1
    injection h1 with h1
    omega
  unfold adjG
  rw [amongE_at E S ha, amongE_at E S hb, Bool.eq_iff_iff]
  simp only [Bool.and_eq_true, Bool.or_eq_true, List.contains_iff_mem, bne_iff_ne, mem_amongR hn ha, mem_amongR hn hb]
  rw [← hne]

/-- The colors of these nodes, over any rows that say the same of which are adjacent. -/
theorem again_eq (E F : List (List Int)) (S : List Nat) (hn : S.Nodup) (hl : F.length = S.length) (hF : ∀ i k, i < S.length → k < S.length → adjG F i k = adjG E (S.getD i 0) (S.getD k 0)) (c : Int) : colorG F.length (adjG F) c = colorG S.length (adjG (amongE E S)) c := by
  rw [hl]
  exact colorG_congr _ _ _ _ fun a b ha hb => by rw [hF a b ha hb, amongE_adj E S hn a b ha hb]

/-- Places: registers and slots. -/
def pl1 (C : List Int) : Nat → Nat → Int × Int
  | 0 => fun _ => (0, 0)
  | k + 1 => if 0 ≤ C.getD k (-1) then upd (pl1 C k) k (2 + C.getD k (-1), -1) else pl1 C k
def pl2 (S : List Nat) (A : List Int) (P : Nat → Int × Int) : Nat → Nat → Int × Int
  | 0 => P
  | i + 1 => upd (pl2 S A P i) (S.getD i 0) (0, A.getD i (-1))
def slN (A : List Int) : Nat → Int
  | 0 => 0
  | i + 1 => max (slN A i) (A.getD i (-1) + 1)
theorem pl1_at (C : List Int) : ∀ k a, pl1 C k a = if a < k ∧ 0 ≤ C.getD a (-1) then (2 + C.getD a (-1), -1) else (0, 0)
  | 0, a => by rw [if_neg (by omega)]; rfl
  | k + 1, a => by
    unfold pl1
    by_cases h : 0 ≤ C.getD k (-1)
    · rw [if_pos h]
      by_cases e : a = k
      · subst e; rw [upd_same, if_pos ⟨by omega, h⟩]
      · rw [upd_ne _ _ e, pl1_at C k a]
        by_cases h2 : a < k ∧ 0 ≤ C.getD a (-1)
        · rw [if_pos h2, if_pos ⟨by omega, h2.2⟩]
        · rw [if_neg h2, if_neg (by omega)]
    · rw [if_neg h, pl1_at C k a]
      by_cases h2 : a < k ∧ 0 ≤ C.getD a (-1)
      · rw [if_pos h2, if_pos ⟨by omega, h2.2⟩]
      · rw [if_neg h2, if_neg]
        rintro ⟨h3, h4⟩
        by_cases e : a = k
        · subst e; exact h h4
        · exact h2 ⟨by omega, h4⟩
theorem pl2_at (S : List Nat) (A : List Int) (P : Nat → Int × Int) (hn : S.Nodup) : ∀ i a, i ≤ S.length → pl2 S A P i a = if a ∈ S.take i then (0, A.getD (S.idxOf a) (-1)) else P a
  | 0, a, _ => by rw [if_neg (by simp)]; rfl
  | i + 1, a, hi => by
    have hil : i < S.length := by omega
    have e0 : S.getD i 0 = S[i] := by rw [List.getD_eq_getElem?_getD, List.getElem?_eq_getElem hil]; rfl
    unfold pl2
    rw [List.take_succ_eq_append_getElem hil, e0]
    by_cases e : a = S[i]
    · subst e
      rw [upd_same, if_pos (List.mem_append_right _ (List.mem_singleton.2 rfl)), List.Nodup.idxOf_getElem hn]
    · rw [upd_ne _ _ e, pl2_at S A P hn i a (by omega)]
      by_cases h : a ∈ S.take i
      · rw [if_pos h, if_pos (List.mem_append_left _ h)]
      · rw [if_neg h, if_neg]
        intro h2
        rcases List.mem_append.1 h2 with h3 | h3
        · exact h h3
        · exact e (List.mem_singleton.1 h3)
/-- The allocation's places. -/
def placesG (C : List Int) (S : List Nat) (A : List Int) (n : Nat) : Nat → Int × Int := pl2 S A (pl1 C n) S.length
end Go.Proofs.YtikfjehollnjeaaDoor
