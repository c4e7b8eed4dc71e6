import Derived.Test.YtifjcknklecdbaaDoorMs00
import Derived.Test.YtifjcknklecdbaaDoorLivC
import Derived.Laws.AppendOwnNone
/- Where the solver ends it has a solution; the graph holds what it must. Plain Lean, no program here. -/
set_option linter.unusedVariables false
set_option linter.unusedSimpArgs false
namespace Go.Proofs.YtifjcknklecdbaaDoor
open Go.RowKit

/-- Block i's sets agree. -/
def Fix (bs : List IBlk) (s : SV) (i : Nat) : Prop := s.inn i = trB (bs.getD i default) (s.out i) ∧ ∀ t ∈ succI (bs.getD i default), sub (s.inn t.toNat) (s.out i)
structure IX (bs : List IBlk) (s : SV) : Prop where
  wk : ∀ i, s.wait i = true → i ∈ s.work
  fx : ∀ i, i < bs.length → s.wait i = false → Fix bs s i
theorem IX.start (bs : List IBlk) : IX bs (startV bs.length) :=
  ⟨fun i h => List.mem_range.2 (of_decide_eq_true h), fun i hi h => absurd (decide_eq_true hi) (by rw [show decide (i < bs.length) = false from h]; exact Bool.noConfusion)⟩
theorem foldl_or_mem (g : Int → Nat) (l : List Int) : ∀ (o : Nat), ∀ t ∈ l, sub (g t) (l.foldl (fun o t => o ||| g t) o) := by
  induction l with
  | nil => intro o t ht; cases ht
  | cons a l ih =>
    intro o t ht
    rcases List.mem_cons.1 ht with rfl | ht
    · refine sub_trans ?_ (foldl_or_sub g l (o ||| g t))
      intro i hi
      rw [Nat.testBit_or, hi]; simp
    · exact ih _ t ht
theorem mem_prevP {bs : List IBlk} {j i : Nat} (hj : j < bs.length) (h : (i : Int) ∈ succI (bs.getD j default)) : j ∈ prevP bs i := by
  unfold prevP
  rw [List.mem_flatMap]
  refine ⟨j, List.mem_range.2 hj, List.mem_map.2 ⟨(i : Int), List.mem_filter.2 ⟨h, by simp⟩, rfl⟩⟩
theorem pushP_wait (l : List Nat) : ∀ (w : Nat → Bool) (k : List Nat) (j : Nat), (pushP w k l).1 j = (w j || l.contains j) := by
  induction l with
  | nil => intro w k j; simp [pushP]
  | cons p l ih =>
    intro w k j
    unfold pushP
    by_cases hp : w p = true
    · rw [if_pos hp, ih]
      by_cases e : j = p
      · subst e; simp [hp]
      · simp [e]
    · rw [if_neg hp, ih]
      by_cases e : j = p
      · subst e; simp [upd_same]
      · rw [upd_ne _ _ e]; simp [e]
theorem pushP_keep (l : List Nat) : ∀ (w : Nat → Bool) (k : List Nat), ∀ i ∈ k, i ∈ (pushP w k l).2 := by
  induction l with
  | nil => exact fun w k i hi => hi
  | cons p l ih =>
    intro w k i hi
    unfold pushP
    split
    · exact ih _ _ i hi
    · exact ih _ _ i (List.mem_append.2 (.inl hi))
theorem pushP_new (l : List Nat) : ∀ (w : Nat → Bool) (k : List Nat), ∀ i ∈ l, w i = false → i ∈ (pushP w k l).2 := by
  induction l with
  | nil => intro w k i hi; cases hi
  | cons p l ih =>
    intro w k i hi hw
    unfold pushP
    by_cases hp : w p = true
    · rw [if_pos hp]
      rcases List.mem_cons.1 hi with rfl | hi
      · rw [hw] at hp; cases hp
      · exact ih _ _ i hi hw
    · rw [if_neg hp]
      by_cases e : i = p
      · subst e; exact pushP_keep _ _ _ _ (by simp)
      · rcases List.mem_cons.1 hi with h | h
        · exact absurd h e
        · exact ih _ _ i h (by rw [upd_ne _ _ e]; exact hw)
theorem IX.step {bs : List IBlk} {s : SV} (h : IX bs s) {R : Nat} (hw : wfF R bs = true) {i : Nat} {l : List Nat} (hi : i < bs.length) (hwk : s.work = l ++ [i]) : IX bs (stepV bs s) := by
  rw [stepV_at hwk]
  have hso := foldl_or_sub (fun t => s.inn t.toNat) (succI (bs.getD i default)) (s.out i)
  have hsm := foldl_or_mem (fun t => s.inn t.toNat) (succI (bs.getD i default)) (s.out i)
  change Go.Proofs.YtifjcknklecdbaaDoor.sub _ (joinB bs s.inn i (s.out i)) at hso
  change ∀ t ∈ _, Go.Proofs.YtifjcknklecdbaaDoor.sub _ (joinB bs s.inn i (s.out i)) at hsm
  generalize joinB bs s.inn i (s.out i) = o at hso hsm ⊢
  have hl : ∀ j, j ≠ i → s.wait j = true → j ∈ l := fun j hne hj => by
    have := h.wk j hj
    rw [hwk, List.mem_append] at this
    rcases this with h1 | h1
    · exact h1
    · exact absurd (List.mem_singleton.1 h1) hne
  split
  · rename_i he
    refine ⟨fun j hj => ?_, fun j hj hjw => ?_⟩
    · by_cases e : j = i
      · subst e
        have : upd s.wait j false j = true := hj
        rw [upd_same] at this; cases this
      · have h1 : upd s.wait i false j = true := hj
        rw [upd_ne _ _ e] at h1
        exact hl j e h1
    · by_cases e : j = i
      · subst e
        refine ⟨?_, fun t ht => ?_⟩
        · show s.inn j = trB _ (upd s.out j o j)
          rw [upd_same, he]
        · show Go.Proofs.YtifjcknklecdbaaDoor.sub (s.inn t.toNat) (upd s.out j o j)
          rw [upd_same]; exact hsm t ht
      · have h1 : upd s.wait i false j = false := hjw
        rw [upd_ne _ _ e] at h1
        obtain ⟨f1, f2⟩ := h.fx j hj h1
        refine ⟨?_, fun t ht => ?_⟩
        · show s.inn j = trB _ (upd s.out i o j)
          rw [upd_ne _ _ e]; exact f1
        · show Go.Proofs.YtifjcknklecdbaaDoor.sub (s.inn t.toNat) (upd s.out i o j)
          rw [upd_ne _ _ e]; exact f2 t ht
  · rename_i he
    refine ⟨fun j hj => ?_, fun j hj hjw => ?_⟩
    · have h1 : (pushP (upd s.wait i false) l (prevP bs i)).1 j = true := hj
      show j ∈ (pushP (upd s.wait i false) l (prevP bs i)).2
      by_cases hu : upd s.wait i false j = true
      · refine pushP_keep _ _ _ _ (hl j ?_ ?_)
        · intro e; subst e; rw [upd_same] at hu; cases hu
        · by_cases e : j = i
          · subst e; rw [upd_same] at hu; cases hu
          · rw [upd_ne _ _ e] at hu; exact hu
      · rw [pushP_wait] at h1
        simp only [hu, Bool.false_or, List.contains_iff_mem] at h1
        exact pushP_new _ _ _ j h1 (by simpa using hu)
    · have h1 : (pushP (upd s.wait i false) l (prevP bs i)).1 j = false := hjw
      rw [pushP_wait] at h1
      simp only [Bool.or_eq_false_iff] at h1
      obtain ⟨h1, h2⟩ := h1
      have hnp : j ∉ prevP bs i := fun hm => by
        have := List.contains_iff_mem.2 hm
        rw [h2] at this; cases this
      have hns : ∀ t ∈ succI (bs.getD j default), t.toNat ≠ i := fun t ht e => by
        have hr := succ_ok (okBlk_at hw hj) t ht
        refine hnp (mem_prevP hj ?_)
        rw [← e, Int.toNat_of_nonneg hr.1]; exact ht
      refine ⟨?_, fun t ht => ?_⟩
      · by_cases e : j = i
        · subst e
          show upd s.inn j _ j = trB _ (upd s.out j o j)
          rw [upd_same, upd_same]
        · show upd s.inn i _ j = trB _ (upd s.out i o j)
          rw [upd_ne _ _ e, upd_ne _ _ e]
          rw [upd_ne _ _ e] at h1
          exact (h.fx j hj h1).1
      · show Go.Proofs.YtifjcknklecdbaaDoor.sub (upd s.inn i _ t.toNat) (upd s.out i o j)
        rw [upd_ne _ _ (hns t ht)]
        by_cases e : j = i
        · subst e
          rw [upd_same]; exact hsm t ht
        · rw [upd_ne _ _ e]
          rw [upd_ne _ _ e] at h1
          exact (h.fx j hj h1).2 t ht
theorem iterV_keeps {R : Nat} {bs : List IBlk} (hw : wfF R bs = true) : ∀ (k : Nat) (s : SV), IV R bs s → IX bs s → IV R bs (iterV bs k s) ∧ IX bs (iterV bs k s)
  | 0, s, h, h2 => ⟨h, h2⟩
  | k + 1, s, h, h2 => by
    rcases List.eq_nil_or_concat s.work with h0 | ⟨l, i, hl⟩
    · have := iterV_done (bs := bs) h0 (k + 1)
      rw [this]; exact ⟨h, h2⟩
    · rw [List.concat_eq_append] at hl
      exact iterV_keeps hw k _ (h.step hw hl).1 (h2.step hw (h.work i (by rw [hl]; simp)) hl)
theorem iterV_ends {R : Nat} {bs : List IBlk} (hw : wfF R bs = true) : ∀ (n : Nat) (s : SV), IV R bs s → gapV R bs.length s ≤ n → ∃ k, (iterV bs k s).work = []
  | n, s, h, hn => by
    rcases List.eq_nil_or_concat s.work with h0 | ⟨l, i, hl⟩
    · exact ⟨0, h0⟩
    · rw [List.concat_eq_append] at hl
      obtain ⟨h1, h2⟩ := h.step hw hl
      match n, hn with
      | 0, hn => omega
      | n + 1, hn =>
        obtain ⟨k, hk⟩ := iterV_ends hw n _ h1 (by omega)
        exact ⟨k + 1, hk⟩
theorem solV_end {R : Nat} {bs : List IBlk} (hw : wfF R bs = true) : EndV bs (startV bs.length) (solV bs) := by
  obtain ⟨k, hk⟩ := iterV_ends hw _ _ (IV.start R bs) (Nat.le_refl _)
  have h : EndV bs (startV bs.length) (iterV bs k (startV bs.length)) := ⟨k, rfl, hk⟩
  rw [← solV_of h]; exact h
/-- The solution: every block's sets agree. -/
theorem sol_fix {R : Nat} {bs : List IBlk} (hw : wfF R bs = true) : IV R bs (solV bs) ∧ ∀ i, i < bs.length → Fix bs (solV bs) i := by
  obtain ⟨k, hk, h0⟩ := solV_end hw
  obtain ⟨h1, h2⟩ := iterV_keeps hw k _ (IV.start R bs) (IX.start bs)
  rw [hk] at h1 h2
  refine ⟨h1, fun i hi => h2.fx i hi ?_⟩
  cases hc : (solV bs).wait i with
  | false => rfl
  | true => have := h2.wk i hc; rw [h0] at this; cases this

/-! The registers of a set. -/
theorem low_bit (t m j : Nat) : ((2 ^ t * (2 * m + 1)) &&& (2 ^ t * (2 * m + 1) - 1)).testBit j = ((2 ^ t * (2 * m + 1)).testBit j && decide (j ≠ t)) := by
  have hp : 0 < 2 ^ t := Nat.two_pow_pos t
  have he : 2 ^ t * (2 * m + 1) = 2 ^ t * (2 * m) + 2 ^ t := by rw [Nat.mul_add, Nat.mul_one]
  have h1 : 2 ^ t * (2 * m + 1) - 1 = 2 ^ t * (2 * m) + (2 ^ t - 1) := by omega
  rw [Nat.testBit_and, h1]
  by_cases hj : j < t
  · have : (2 ^ t * (2 * m + 1)).testBit j = false := by
      rw [Nat.testBit_two_pow_mul]; simp; omega
    rw [this]; simp
  · by_cases e : j = t
    · subst e
      have : (2 ^ j * (2 * m) + (2 ^ j - 1)).testBit j = false := by
        rw [Nat.testBit_two_pow_mul_add _ (by omega)]
        simp
      rw [this]; simp
    · have h2 : (2 ^ t * (2 * m) + (2 ^ t - 1)).testBit j = (2 ^ t * (2 * m + 1)).testBit j := by
        rw [Nat.testBit_two_pow_mul_add _ (by omega), Nat.testBit_two_pow_mul]
        have h3 : ∃ d, j - t = d + 1 := ⟨j - t - 1, by omega⟩
        obtain ⟨d, hd⟩ := h3
        rw [if_neg hj, hd, Nat.testBit_succ, Nat.testBit_succ]
        have e1 : 2 * m / 2 = m := by omega
        have e2 : (2 * m + 1) / 2 = m := by omega
        rw [e1, e2]
        simp; omega
      rw [h2]; simp [e]
theorem mem_bitsF : ∀ (k x : Nat), x ≤ k → x < 2 ^ 64 → ∀ q, q ∈ bitsF k x ↔ x.testBit q = true
  | 0, x, h, _, q => by
    have : x = 0 := by omega
    subst this; simp [bitsF]
  | k + 1, x, h, h64, q => by
    unfold bitsF
    by_cases h0 : x = 0
    · subst h0; simp
    · rw [if_neg h0, List.mem_cons]
      have hp := and_pred_lt h0
      rw [mem_bitsF k _ (by omega) (by omega)]
      obtain ⟨m, hm, -⟩ := Lib.ctzFrom_spec 64 x (by omega) h64
      have e : Lib.ctz 64 x = Lib.ctzFrom 64 x := by simp [Lib.ctz, h0]
      rw [e]
      generalize Lib.ctzFrom 64 x = t at hm
      rw [hm, low_bit]
      have ht : (2 ^ t * (2 * m + 1)).testBit t = true := by
        rw [Nat.testBit_two_pow_mul]; simp
      by_cases hq : q = t
      · subst hq; simp [ht]
      · simp [hq]
theorem mem_bitsL {x : Nat} (h : x < 2 ^ 64) (q : Nat) : q ∈ bitsL x ↔ x.testBit q = true := mem_bitsF x x (Nat.le_refl _) h q

/-! The graph. -/
theorem bit_two (r q : Nat) : (2 ^ r).testBit q = decide (r = q) := by rw [Nat.testBit_two_pow]
theorem addB_bit (s r q : Nat) : (addB s r).testBit q = (s.testBit q || decide (r = q)) := by unfold addB; rw [Nat.testBit_or, bit_two]
theorem remB_bit (s r q : Nat) (hs : s < 2 ^ 64) (hr : r < 64) : (remB s r).testBit q = (s.testBit q && decide (r ≠ q)) := by
  unfold remB
  rw [Nat.testBit_and]
  by_cases hq : q < 64
  · have e : (18446744073709551615 - 2 ^ r).testBit q = !(2 ^ r).testBit q := by
      have h := Nat.testBit_two_pow_sub_succ (x := 2 ^ r) (n := 64) (Nat.pow_lt_pow_right (by decide) hr) q
      have e2 : 2 ^ 64 - (2 ^ r + 1) = 18446744073709551615 - 2 ^ r := by omega
      rw [e2] at h
      rw [h]; simp [hq]
    rw [e, bit_two]; simp
  · have : s.testBit q = false := Nat.testBit_lt_two_pow (Nat.lt_of_lt_of_le hs (Nat.pow_le_pow_right (by decide) (by omega)))
    rw [this]; simp
/-- What is live before instruction k of a block. -/
def liveB (b : IBlk) (o k : Nat) : Nat := (b.code.drop k).foldr backB (lastB b o)
theorem liveB_zero (b : IBlk) (o : Nat) : liveB b o 0 = trB b o := rfl
theorem liveB_end (b : IBlk) (o : Nat) : liveB b o b.code.length = lastB b o := by unfold liveB; rw [List.drop_length]; rfl
theorem liveB_at (b : IBlk) (o : Nat) {k : Nat} (hk : k < b.code.length) : liveB b o k = backB (b.code.getD k default) (liveB b o (k + 1)) := by
  unfold liveB
  rw [List.drop_eq_getElem_cons hk, List.foldr_cons, List.getD_eq_getElem?_getD, List.getElem?_eq_getElem hk]
  rfl
/-- The rows behind the instructions from k on. -/
def rowsK (b : IBlk) (o : Nat) (g : Nat → Nat) (k : Nat) : Nat × (Nat → Nat) := (b.code.drop k).foldr rowI (lastB b o, g)
theorem rowsK_zero (b : IBlk) (o : Nat) (g : Nat → Nat) : rowsK b o g 0 = rowsC b o g := rfl
theorem rowsK_end (b : IBlk) (o : Nat) (g : Nat → Nat) : rowsK b o g b.code.length = (lastB b o, g) := by unfold rowsK; rw [List.drop_length]; rfl
theorem rowsK_at (b : IBlk) (o : Nat) (g : Nat → Nat) {k : Nat} (hk : k < b.code.length) : rowsK b o g k = rowI (b.code.getD k default) (rowsK b o g (k + 1)) := by
  unfold rowsK
  rw [List.drop_eq_getElem_cons hk, List.foldr_cons, List.getD_eq_getElem?_getD, List.getElem?_eq_getElem hk]
  rfl
theorem rowsK_fst (b : IBlk) (o : Nat) (g : Nat → Nat) (k : Nat) : (rowsK b o g k).1 = liveB b o k := by
  unfold rowsK liveB
  induction b.code.drop k with
  | nil => rfl
  | cons i l ih => rw [List.foldr_cons, List.foldr_cons, ← ih]; rfl
theorem rowI_grow (i : IIns) (p : Nat × (Nat → Nat)) (d : Nat) : sub (p.2 d) ((rowI i p).2 d) := by
  unfold rowI
  split
  · by_cases e : d = i.dst.toNat
    · subst e
      show Go.Proofs.YtifjcknklecdbaaDoor.sub _ (upd p.2 _ _ _)
      rw [upd_same]; exact sub_left _ _
    · show Go.Proofs.YtifjcknklecdbaaDoor.sub _ (upd p.2 _ _ _)
      rw [upd_ne _ _ e]; exact sub_refl _
  · exact sub_refl _
theorem rowsF_grow (l : List IIns) (p : Nat × (Nat → Nat)) (d : Nat) : sub (p.2 d) ((l.foldr rowI p).2 d) := by
  induction l with
  | nil => exact sub_refl _
  | cons i l ih => exact sub_trans ih (rowI_grow i _ d)
theorem rowsC_has (b : IBlk) (o : Nat) (g : Nat → Nat) {k : Nat} (hk : k < b.code.length) (hd : hasDef (b.code.getD k default).op = true) : sub (liveB b o (k + 1)) ((rowsC b o g).2 (b.code.getD k default).dst.toNat) := by
  have h1 : sub (liveB b o (k + 1)) ((rowsK b o g k).2 (b.code.getD k default).dst.toNat) := by
    rw [rowsK_at b o g hk]
    unfold rowI
    rw [if_pos hd]
    show Go.Proofs.YtifjcknklecdbaaDoor.sub _ (upd _ _ _ _)
    rw [upd_same, rowsK_fst]
    intro j hj
    rw [Nat.testBit_or, hj]; simp
  refine sub_trans h1 ?_
  generalize (b.code.getD k default).dst.toNat = d
  show Go.Proofs.YtifjcknklecdbaaDoor.sub ((List.foldr rowI (lastB b o, g) (b.code.drop k)).2 d) ((List.foldr rowI (lastB b o, g) b.code).2 d)
  have h2 : b.code.foldr rowI (lastB b o, g) = (b.code.take k).foldr rowI ((b.code.drop k).foldr rowI (lastB b o, g)) := by rw [← List.foldr_append, List.take_append_drop]
  rw [h2]
  exact rowsF_grow _ _ _
theorem rowsN_grow (bs : List IBlk) (out : Nat → Nat) (d : Nat) : ∀ (n m : Nat), n ≤ m → sub (rowsN bs out n d) (rowsN bs out m d)
  | n, 0, h => by
    have : n = 0 := by omega
    subst this; exact sub_refl _
  | n, m + 1, h => by
    by_cases e : n = m + 1
    · subst e; exact sub_refl _
    · exact sub_trans (rowsN_grow bs out d n m (by omega)) (rowsF_grow (bs.getD m default).code (lastB (bs.getD m default) (out m), rowsN bs out m) d)
theorem rowsN_has (bs : List IBlk) (out : Nat → Nat) {i k : Nat} (hi : i < bs.length) (hk : k < (bs.getD i default).code.length) (hd : hasDef ((bs.getD i default).code.getD k default).op = true) :
    sub (liveB (bs.getD i default) (out i) (k + 1)) (rowsN bs out bs.length ((bs.getD i default).code.getD k default).dst.toNat) :=
  sub_trans (rowsC_has _ (out i) (rowsN bs out i) hk hd) (rowsN_grow bs out _ (i + 1) bs.length hi)
/-- Both directions: what a row holds of others stays, and no row gets itself. -/
structure SymOk (R r : Nat) (g g0 : Nat → Nat) : Prop where
  lt : ∀ q, q < R → g q < 2 ^ R
  has : ∀ q j, q < R → j ≠ q → (g0 q).testBit j = true → (g q).testBit j = true
  own : ∀ q, q < r → (g q).testBit q = false
theorem foldl_sym {R r : Nat} (hr : r < R) (l : List Nat) (hl : ∀ q ∈ l, q ≠ r ∧ q < R) : ∀ (g : Nat → Nat), (∀ q, q < R → g q < 2 ^ R) → (g r).testBit r = false →
    (∀ q, q < R → (l.foldl (fun g q => upd g q (addB (g q) r)) g) q < 2 ^ R) ∧ (∀ q j, (g q).testBit j = true → ((l.foldl (fun g q => upd g q (addB (g q) r)) g) q).testBit j = true) ∧ (∀ q, (g q).testBit q = false → ((l.foldl (fun g q => upd g q (addB (g q) r)) g) q).testBit q = false) := by
  induction l with
  | nil => exact fun g h1 h2 => ⟨h1, fun q j h => h, fun q h => h⟩
  | cons a l ih =>
    intro g h1 h2
    obtain ⟨ha1, ha2⟩ := hl a List.mem_cons_self
    have hg : ∀ q, q < R → upd g a (addB (g a) r) q < 2 ^ R := fun q hq => by
      by_cases e : q = a
      · subst e; rw [upd_same]; exact addB_lt (h1 q hq) hr
      · rw [upd_ne _ _ e]; exact h1 q hq
    have hr2 : (upd g a (addB (g a) r) r).testBit r = false := by rw [upd_ne _ _ (fun e => ha1 e.symm)]; exact h2
    obtain ⟨i1, i2, i3⟩ := ih (fun q hq => hl q (List.mem_cons_of_mem _ hq)) _ hg hr2
    refine ⟨i1, fun q j h => i2 q j ?_, fun q h => i3 q ?_⟩
    · by_cases e : q = a
      · subst e; rw [upd_same, addB_bit, h]; rfl
      · rw [upd_ne _ _ e]; exact h
    · by_cases e : q = a
      · subst e; rw [upd_same, addB_bit, h]; simp; exact fun e => ha1 e.symm
      · rw [upd_ne _ _ e]; exact h
theorem sym_ok {R : Nat} (hR : R ≤ 64) (g0 : Nat → Nat) (h0 : ∀ q, q < R → g0 q < 2 ^ R) : ∀ r, r ≤ R → SymOk R r (symN g0 r) g0
  | 0, _ => ⟨h0, fun q j hq hj h => h, fun q hq => by omega⟩
  | r + 1, hr => by
    have ih := sym_ok hR g0 h0 r (by omega)
    have h64 : ∀ x, x < 2 ^ R → x < 2 ^ 64 := fun x hx => Nat.lt_of_lt_of_le hx (Nat.pow_le_pow_right (by decide) hR)
    show SymOk R (r + 1) (symI r (symN g0 r)) g0
    generalize symN g0 r = g at ih
    have hrl := ih.lt r (by omega)
    have hrem : remB (g r) r < 2 ^ R := remB_lt hrl
    have hl : ∀ q ∈ bitsL (remB (g r) r), q ≠ r ∧ q < R := fun q hq => by
      refine ⟨fun e => ?_, bitsL_lt hR hrem q hq⟩
      subst e
      rw [mem_bitsL (h64 _ hrem), remB_bit _ _ _ (h64 _ hrl) (by omega)] at hq
      simp at hq
    have hg : ∀ q, q < R → upd g r (remB (g r) r) q < 2 ^ R := fun q hq => by
      by_cases e : q = r
      · subst e; rw [upd_same]; exact hrem
      · rw [upd_ne _ _ e]; exact ih.lt q hq
    have hrr : (upd g r (remB (g r) r) r).testBit r = false := by
      rw [upd_same, remB_bit _ _ _ (h64 _ hrl) (by omega)]; simp
    obtain ⟨i1, i2, i3⟩ := foldl_sym (show r < R by omega) _ hl _ hg hrr
    refine ⟨i1, fun q j hq hj h => i2 q j ?_, fun q hq => i3 q ?_⟩
    · have h1 := ih.has q j hq hj h
      by_cases e : q = r
      · subst e
        rw [upd_same, remB_bit _ _ _ (h64 _ hrl) (by omega), h1]
        simp; exact fun e => hj e.symm
      · rw [upd_ne _ _ e]; exact h1
    · by_cases e : q = r
      · subst e; exact hrr
      · rw [upd_ne _ _ e]; exact ih.own q (by omega)
theorem rowI_lt {R : Nat} {i : IIns} {p : Nat × (Nat → Nat)} (hi : okIns R i = true) (h1 : p.1 < 2 ^ R) (h2 : ∀ q, q < R → p.2 q < 2 ^ R) : (rowI i p).1 < 2 ^ R ∧ ∀ q, q < R → (rowI i p).2 q < 2 ^ R := by
  refine ⟨backB_lt i h1 hi, fun q hq => ?_⟩
  unfold rowI
  split
  · show upd p.2 _ _ _ < _
    by_cases e : q = i.dst.toNat
    · subst e; rw [upd_same]; exact Nat.or_lt_two_pow (h2 _ hq) h1
    · rw [upd_ne _ _ e]; exact h2 q hq
  · exact h2 q hq
theorem rowsK_lt {R n : Nat} {b : IBlk} {o : Nat} {g : Nat → Nat} (hb : okBlk R n b = true) (ho : o < 2 ^ R) (hg : ∀ q, q < R → g q < 2 ^ R) (k : Nat) : (rowsK b o g k).1 < 2 ^ R ∧ ∀ q, q < R → (rowsK b o g k).2 q < 2 ^ R := by
  unfold rowsK
  have hl : ∀ i ∈ b.code.drop k, okIns R i = true := fun i hi => by
    simp only [okBlk, Bool.and_eq_true, List.all_eq_true] at hb
    exact hb.1.1.1 i (List.mem_of_mem_drop hi)
  have h0 := lastB_lt b ho hb
  generalize b.code.drop k = l at hl ⊢
  induction l with
  | nil => exact ⟨h0, hg⟩
  | cons i l ih =>
    obtain ⟨a1, a2⟩ := ih (fun j hj => hl j (List.mem_cons_of_mem _ hj))
    exact rowI_lt (hl i List.mem_cons_self) a1 a2
theorem rowsN_lt {R : Nat} {bs : List IBlk} (hw : wfF R bs = true) {out : Nat → Nat} (ho : ∀ i, i < bs.length → out i < 2 ^ R) : ∀ n, n ≤ bs.length → ∀ q, q < R → rowsN bs out n q < 2 ^ R
  | 0, _, q, _ => Nat.two_pow_pos R
  | n + 1, hn, q, hq => by
    have ih := rowsN_lt hw ho n (by omega)
    have := (rowsK_lt (okBlk_at hw (show n < bs.length by omega)) (ho n (by omega)) ih 0).2 q hq
    rwa [rowsK_zero] at this
theorem edge_ok {R : Nat} {bs : List IBlk} (hw : wfF R bs = true) (hR : R ≤ 64) : SymOk R R (edgeG R bs) (rowsN bs (solV bs).out bs.length) :=
  sym_ok hR _ (rowsN_lt hw (sol_fix hw).1.out bs.length (Nat.le_refl _)) R (Nat.le_refl _)
theorem edgesL_len (R : Nat) (bs : List IBlk) : (edgesL R bs).length = R := by simp [edgesL]
theorem edgesL_at {R r : Nat} (bs : List IBlk) (hr : r < R) : (edgesL R bs).getD r [] = (bitsL (edgeG R bs r)).map Int.ofNat := by
  simp [edgesL, List.getD_eq_getElem?_getD, hr]
/-- A row's members: other registers of the function. -/
theorem edgesL_in {R : Nat} {bs : List IBlk} (hw : wfF R bs = true) (hR : R ≤ 64) {r : Nat} (hr : r < R) : ∀ q ∈ (edgesL R bs).getD r [], ∃ k : Nat, q = k ∧ k < R ∧ k ≠ r := by
  intro q hq
  rw [edgesL_at bs hr, List.mem_map] at hq
  obtain ⟨k, hk, rfl⟩ := hq
  have he := edge_ok hw hR
  have hl := he.lt r hr
  refine ⟨k, rfl, bitsL_lt hR hl k hk, fun e => ?_⟩
  subst e
  rw [mem_bitsL (Nat.lt_of_lt_of_le hl (Nat.pow_le_pow_right (by decide) hR)), he.own k hr] at hk
  cases hk
/-- What is live behind an instruction that defines a register interferes with that register. -/
theorem edgesL_live {R : Nat} {bs : List IBlk} (hw : wfF R bs = true) (hR : R ≤ 64) {i k d q : Nat} (hi : i < bs.length) (hk : k < (bs.getD i default).code.length) (hd : hasDef ((bs.getD i default).code.getD k default).op = true) (hdd : ((bs.getD i default).code.getD k default).dst = d) (hdR : d < R)
    (hq : (liveB (bs.getD i default) ((solV bs).out i) (k + 1)).testBit q = true) (hne : q ≠ d) : (q : Int) ∈ (edgesL R bs).getD d [] := by
  have he := edge_ok hw hR
  have h1 := rowsN_has bs (solV bs).out hi hk hd q hq
  rw [hdd, Int.toNat_natCast] at h1
  have h2 := he.has d q hdR hne h1
  rw [edgesL_at bs hdR, List.mem_map]
  refine ⟨q, (mem_bitsL (Nat.lt_of_lt_of_le (he.lt d hdR) (Nat.pow_le_pow_right (by decide) hR)) q).2 h2, rfl⟩
end Go.Proofs.YtifjcknklecdbaaDoor

/- Sets of registers: the functions of liveness.set, by their contracts. -/
set_option linter.unusedVariables false
set_option linter.unusedSimpArgs false
namespace Go.Proofs.YtifjcknklecdbaaDoor
open Go.RowKit

theorem SetV.keep {w w' : World} {m : Nat} {v : Value} {x : Nat} (h : SetV w m v x) (hb : ∀ k, v.ownBlock = some k → w'.heap[k]? = w.heap[k]?) : SetV w' m v x := own0_block h hb
theorem SetV.lt {w : World} {m : Nat} {v : Value} {x k : Nat} (h : SetV w m v x) (hk : v.ownBlock = some k) : k < w.heap.size := own0_lt h hk
theorem SetV.below {B : Nat} {w w' : World} {m : Nat} {v : Value} {x : Nat} (h : SetV w m v x) (hb : Below B w w') (hB : w.heap.size ≤ B) : SetV w' m v x := h.keep fun k hk => hb.block k (Nat.lt_of_lt_of_le (h.lt hk) hB)
theorem pow64 : (2 : Nat) ^ 64 = 18446744073709551616 := by decide
theorem bit_val (r : Nat) (hr : r < 64) : IntKind.u64.wrap ((2 : Int) ^ r) = ((2 ^ r : Nat) : Int) := by
  have h : 2 ^ r < 18446744073709551616 := by rw [← pow64]; exact Nat.pow_lt_pow_right (by decide) hr
  rw [IntKind.wrap_u64, show ((2 : Int) ^ r) = ((2 ^ r : Nat) : Int) by simp]
  generalize 2 ^ r = y at h ⊢
  omega
theorem add_val (x r : Nat) (hr : r < 64) (hx : x < 18446744073709551616) : bits BinOp.or IntKind.u64 (x : Int) (IntKind.u64.wrap ((2 : Int) ^ r)) = ((addB x r : Nat) : Int) := by
  rw [bit_val r hr, bits_or_u64_nat x _ hx (by rw [← pow64]; exact Nat.pow_lt_pow_right (by decide) hr)]; rfl
theorem rem_val (x r : Nat) (hr : r < 64) (hx : x < 18446744073709551616) : bits BinOp.andNot IntKind.u64 (x : Int) (IntKind.u64.wrap ((2 : Int) ^ r)) = ((remB x r : Nat) : Int) := by
  rw [bit_val r hr, u64_andNot_nat x _ hx (by rw [← pow64]; exact Nat.pow_lt_pow_right (by decide) hr)]; rfl

set_option maxRecDepth 100000 in
/-- add, where the set has a word. -/
theorem add_one (b cap x r : Nat) (w : World) (hr : r < 64) (hx : x < 18446744073709551616) (hc : w.cell? ⟨b, 0, none⟩ = some (.int .u64 x)) (hf : w.frozen? ⟨b, 0, none⟩ = false) :
    Calls Tryd.prog 35 #[.slice (some ⟨b, 0, none⟩) 1 cap, .int .i64 r] w fun e w' => e = .returned (.tuple #[]) ∧ (w.setCell ⟨b, 0, none⟩ (.int .u64 (addB x r))).drew = w' := by
  have hq : (r : Int) / 64 = 0 := by omega
  have hm : (r : Int).tmod 64 = r := Int.tmod_eq_of_lt (by omega) (by omega)
  have hw0 : IntKind.i64.wrap 0 = 0 := by decide
  have hwr : IntKind.i64.wrap (r : Int) = r := IntWalk.i64_in _ (by omega)
  have HV := Lib.hid (add_val x r hr hx)
  go_enter Tryd.func35, Tryd.ntmps35
  go_wp2_with fail
  go_still_tail 10, (by kernel_rfl)
  go_wp2_with fail
  go_end0
  exact ⟨rfl, by rw [HV.out]⟩
set_option maxRecDepth 100000 in
/-- remove, where the set has a word. -/
theorem remove_one (b cap x r : Nat) (w : World) (hr : r < 64) (hx : x < 18446744073709551616) (hc : w.cell? ⟨b, 0, none⟩ = some (.int .u64 x)) (hf : w.frozen? ⟨b, 0, none⟩ = false) :
    Calls Tryd.prog 33 #[.slice (some ⟨b, 0, none⟩) 1 cap, .int .i64 r] w fun e w' => e = .returned (.tuple #[]) ∧ (w.setCell ⟨b, 0, none⟩ (.int .u64 (remB x r))).drew = w' := by
  have hq : (r : Int) / 64 = 0 := by omega
  have hm : (r : Int).tmod 64 = r := Int.tmod_eq_of_lt (by omega) (by omega)
  have hw0 : IntKind.i64.wrap 0 = 0 := by decide
  have hwr : IntKind.i64.wrap (r : Int) = r := IntWalk.i64_in _ (by omega)
  have HV := Lib.hid (rem_val x r hr hx)
  go_enter Tryd.func33, Tryd.ntmps33
  go_wp2_with fail
  go_still_tail 10, (by kernel_rfl)
  go_wp2_with fail
  go_end0
  exact ⟨rfl, by rw [HV.out]⟩

/-- What a change of a set leaves. -/
def SetPost (m : Nat) (v : Value) (y : Nat) (w : World) (e : Ending) (w' : World) : Prop := e = .returned (.tuple #[]) ∧ SetV w' m v y ∧ w.grownBy w' v.ownBlock
theorem set_post {b cap x : Nat} {w : World} (h : SetV w 1 (.slice (some ⟨b, 0, none⟩) 1 cap) x) (y : Nat) : SetV ((w.setCell ⟨b, 0, none⟩ (.int .u64 y)).drew) 1 (.slice (some ⟨b, 0, none⟩) 1 cap) y ∧ w.grownBy ((w.setCell ⟨b, 0, none⟩ (.int .u64 y)).drew) (some b) :=
  ⟨(h.put rfl y).keep fun _ _ => rfl, ⟨rfl, rfl, rfl, by simp [World.setCell], fun k hk hne => Below.heap_setCell _ _ _ _ (fun e => hne (by rw [e]))⟩⟩
theorem set_room {m x : Nat} (hm : m ≤ 1) (hx : x < 2 ^ (64 * m)) : x < 18446744073709551616 := by
  have : m = 0 ∨ m = 1 := by omega
  rcases this with rfl | rfl
  · simp at hx; omega
  · simpa using hx
theorem add_any (m x r : Nat) (v : Value) (w : World) (hm : m ≤ 1) (hr : r < 64 * m) (hx : x < 2 ^ (64 * m)) (h : SetV w m v x) :
    Calls Tryd.prog 35 #[v, .int .i64 r] w (SetPost m v (addB x r) w) := by
  have hm1 : m = 1 := by omega
  have hx2 := set_room hm hx
  subst hm1
  obtain ⟨b, cap, rfl, hb, hc, hf⟩ := h.one
  refine (add_one b cap x r w (by omega) hx2 hc hf).mono ?_
  rintro e w' ⟨rfl, rfl⟩
  obtain ⟨h1, h2⟩ := set_post h (addB x r)
  exact ⟨rfl, h1, h2⟩
theorem remove_any (m x r : Nat) (v : Value) (w : World) (hm : m ≤ 1) (hr : r < 64 * m) (hx : x < 2 ^ (64 * m)) (h : SetV w m v x) :
    Calls Tryd.prog 33 #[v, .int .i64 r] w (SetPost m v (remB x r) w) := by
  have hm1 : m = 1 := by omega
  have hx2 := set_room hm hx
  subst hm1
  obtain ⟨b, cap, rfl, hb, hc, hf⟩ := h.one
  refine (remove_one b cap x r w (by omega) hx2 hc hf).mono ?_
  rintro e w' ⟨rfl, rfl⟩
  obtain ⟨h1, h2⟩ := set_post h (remB x r)
  exact ⟨rfl, h1, h2⟩

theorem or_val (x y : Nat) (hx : x < 18446744073709551616) (hy : y < 18446744073709551616) : bits BinOp.or IntKind.u64 (x : Int) (y : Int) = ((x ||| y : Nat) : Int) := bits_or_u64_nat x y hx hy
theorem join_any (m x y : Nat) (v t : Value) (w : World) (hm : m ≤ 1) (hx : x < 2 ^ (64 * m)) (hy : y < 2 ^ (64 * m)) (h : SetV w m v x) (ht : SetV w m t y) :
    Calls Tryd.prog 32 #[v, t] w (SetPost m v (x ||| y) w) := by
  have hmm : m = 0 ∨ m = 1 := by omega
  have hx2 := set_room hm hx
  have hy2 := set_room hm hy
  rcases hmm with rfl | rfl
  · obtain ⟨p, cap, rfl⟩ := h.nil
    obtain ⟨p2, cap2, rfl⟩ := ht.nil
    have H := Lib.hid h
    clear h ht hx hy hx2 hy2
    go_enter Tryd.func32, Tryd.ntmps32
    go_wp2_with fail
    refine wp_loop_rounds 1 ?_
    rw [rounds_succ]
    go_wp2_with fail
    go_end0
    exact ⟨rfl, H.out.any, ⟨rfl, rfl, rfl, Nat.le_refl _, fun _ _ _ => rfl⟩⟩
  · obtain ⟨b, cap, rfl, hb, hc, hf⟩ := h.one
    obtain ⟨b2, cap2, rfl, hb2, hc2, -⟩ := ht.one
    have HV := Lib.hid (or_val x y hx2 hy2)
    have H := Lib.hid h
    clear h ht hx hy hx2 hy2
    go_enter Tryd.func32, Tryd.ntmps32
    go_wp2_with fail
    refine wp_loop_rounds 2 ?_
    rw [rounds_succ]
    go_wp2_with fail
    rw [rounds_succ]
    go_wp2_with fail
    go_end0
    rw [HV.out]
    exact ⟨rfl, H.out.put rfl _, ⟨rfl, rfl, rfl, by simp [World.setCell], fun k hk hne => Below.heap_setCell _ _ _ _ (fun e => hne (by rw [e]; rfl))⟩⟩

/-- The library's table. -/
def TabZ (w : World) : Prop := 0 < w.heap.size ∧ ∀ j, j < 64 → w.cell? ⟨0, j, none⟩ = some (.int .u8 (Lib.deBruijn64tab.getD j 0))
theorem TabZ.below {B : Nat} {w w' : World} (h : TabZ w) (hb : Below B w w') (hB : 0 < B) : TabZ w' :=
  ⟨Nat.lt_of_lt_of_le h.1 hb.size, fun j hj => (hb.cell (p := ⟨0, j, none⟩) hB).trans (h.2 j hj)⟩
theorem TabZ.of_below {w w' : World} (h : TabZ w) (hb : Below w.heap.size w w') : TabZ w' := h.below hb h.1
theorem tz_key (x a : Nat) (hx : x < 18446744073709551616) (hx0 : x ≠ 0) (hlow : x &&& (18446744073709551616 - x) = a) :
    IntKind.u64.wrap (bits BinOp.and IntKind.u64 (x : Int) (IntKind.u64.wrap (-(x : Int))) * 285870213051353865) / 288230376151711744 = ((a * 285870213051353865 % 18446744073709551616 / 288230376151711744 : Nat) : Int) := by
  have e1 : IntKind.u64.wrap (-(x : Int)) = ((18446744073709551616 - x : Nat) : Int) := by rw [IntKind.wrap_u64]; omega
  rw [e1, bits_and_u64_nat x _ hx (by omega), hlow, IntKind.wrap_u64]
  omega
theorem tz_core (x k idx : Nat) (w : World) (hx0 : ((x : Int) == 0) = false)
    (key : IntKind.u64.wrap (bits BinOp.and IntKind.u64 (x : Int) (IntKind.u64.wrap (-(x : Int))) * 285870213051353865) / 288230376151711744 = (idx : Int))
    (hi : idx < 64) (hk : k < 64) (hcell : w.cell? ⟨0, idx, none⟩ = some (.int .u8 k)) :
    Calls Tryd.prog 48 #[.int .u64 x] w fun e w' => e = .returned (.int .i64 k) ∧ w = w' := by
  go_enter Tryd.func48, Tryd.ntmps48
  go_wp2_with (simp only [key])
  go_ret
  exact ⟨rfl, rfl⟩
theorem tz_any (x : Nat) (w : World) (hx0 : x ≠ 0) (hx : x < 18446744073709551616) (hT : TabZ w) : Calls Tryd.prog 48 #[.int .u64 x] w fun e w' => e = .returned (.int .i64 (Lib.ctz 64 x)) ∧ w = w' := by
  obtain ⟨hlow, hk⟩ := Lib.lowest_bit 64 x hx0 hx
  obtain ⟨hi, htab⟩ := Lib.deBruijn64_at _ hk
  have hcell := hT.2 _ hi
  rw [htab] at hcell
  exact tz_core x _ _ w (by simp; omega) (tz_key x _ hx hx0 hlow) hi hk hcell

/-- The registers of a set, as a slice of the call's own. -/
def ListPost (x : Nat) (w : World) (e : Ending) (w' : World) : Prop := ∃ v, e = .returned v ∧ RdI w' v ((bitsL x).map Int.ofNat) ∧ (∀ k, v.ownBlock = some k → w.heap.size ≤ k) ∧ Below w.heap.size w w'
theorem sub_val (x : Nat) (hx0 : x ≠ 0) (hx : x < 18446744073709551616) : IntKind.u64.wrap ((x : Int) - 1) = ((x - 1 : Nat) : Int) := by rw [IntKind.wrap_u64]; omega
theorem and_val (x y : Nat) (hx : x < 18446744073709551616) (hy : y < 18446744073709551616) : bits BinOp.and IntKind.u64 (x : Int) (y : Int) = ((x &&& y : Nat) : Int) := bits_and_u64_nat x y hx hy
theorem ctz_small (x : Nat) (hx0 : x ≠ 0) (hx : x < 18446744073709551616) : Lib.ctz 64 x < 64 := ctz_lt (R := 64) hx0 (by rw [pow64]; exact hx) (Nat.le_refl _)
/-- How many registers a set has. -/
def pcB (y : Nat) : Nat := (List.range 64).countP fun j => y.testBit j
theorem pcB_le (y : Nat) : pcB y ≤ 64 := by
  have := List.countP_le_length (p := fun j => y.testBit j) (l := List.range 64)
  simpa [pcB] using this
theorem countP_less (p q : Nat → Bool) (t : Nat) (hp : p t = true) (hq : q t = false) (hpq : ∀ j, q j = true → p j = true) : ∀ l : List Nat, t ∈ l → l.countP q + 1 ≤ l.countP p
  | [], h => by cases h
  | a :: l, h => by
    have hle : l.countP q ≤ l.countP p := List.countP_mono_left (fun x _ hx => hpq x hx)
    rw [List.countP_cons, List.countP_cons]
    by_cases e : a = t
    · subst e
      rw [if_pos hp, if_neg (by rw [hq]; exact Bool.noConfusion)]; omega
    · have := countP_less p q t hp hq hpq l (by rcases List.mem_cons.1 h with h | h; exact absurd h.symm e; exact h)
      by_cases hqa : q a = true
      · rw [if_pos hqa, if_pos (hpq a hqa)]; omega
      · rw [if_neg hqa]; omega
theorem pcB_next {y : Nat} (h0 : y ≠ 0) (hy : y < 18446744073709551616) : pcB (y &&& (y - 1)) + 1 ≤ pcB y := by
  obtain ⟨m, hm, ht⟩ := Lib.ctzFrom_spec 64 y (by omega) (by rw [pow64]; exact hy)
  generalize Lib.ctzFrom 64 y = t at hm ht
  have h1 : ∀ j, (y &&& (y - 1)).testBit j = (y.testBit j && decide (j ≠ t)) := fun j => by rw [hm]; exact low_bit t m j
  have h2 : y.testBit t = true := by rw [hm, Nat.testBit_two_pow_mul]; simp
  unfold pcB
  simp only [h1]
  exact countP_less (fun j => y.testBit j) _ t h2 (by simp) (fun j hj => by simp only [Bool.and_eq_true] at hj; exact hj.1) _ (List.mem_range.2 ht)
theorem bitsF_len : ∀ (k x : Nat), (bitsF k x).length ≤ k
  | 0, _ => by simp [bitsF]
  | k + 1, x => by
    unfold bitsF
    split
    · simp
    · have := bitsF_len k (x &&& (x - 1))
      simp; omega
set_option maxHeartbeats 1600000 in
theorem list_any (m x : Nat) (v : Value) (w : World) (hm : m ≤ 1) (hx : x < 2 ^ (64 * m)) (h : SetV w m v x) (hT : TabZ w) :
    Calls Tryd.prog 34 #[v] w (ListPost x w) := by
  have hmm : m = 0 ∨ m = 1 := by omega
  have hx2 := set_room hm hx
  rcases hmm with rfl | rfl
  · obtain ⟨p, cap, rfl⟩ := h.nil
    have h0 : x = 0 := by simpa using hx
    subst h0
    clear h hx hx2
    go_enter Tryd.func34, Tryd.ntmps34
    go_wp2_with fail
    refine wp_loop_rounds 1 ?_
    rw [rounds_succ]
    go_wp2_with fail
    go_ret
    exact ⟨_, rfl, by rw [bitsL_zero]; exact rdI_nil _, fun k hk => (by cases hk), Below.refl _ _⟩
  · obtain ⟨b, cap, rfl, hb, hc, hf⟩ := h.one
    have HT := Lib.hid hT
    clear h hx hf hT
    go_enter Tryd.func34, Tryd.ntmps34
    go_wp2_with fail
    refine wp_loop_rounds 2 ?_
    rw [rounds_succ]
    go_wp2_with fail
    go_loopw [3, 5] (fun l c wr => ∃ (ds : List Int) (y : Nat), c = .int .u64 y ∧ y < 18446744073709551616 ∧ Hid ((bitsL x).map Int.ofNat = ds ++ (bitsL y).map Int.ofNat) ∧ Hid (wr.ownsRow w.heap.size 3 1 l ds.length (ds.map (Value.int .i64))) ∧ Hid (Below w.heap.size w wr) ∧ ds.length + pcB y ≤ 64) (fun _ c _ => (intOf c).toNat)
    case atStart => exact ⟨[], x, rfl, hx2, (List.nil_append _).symm, World.ownsRow_nil _ _ _ _, Below.refl _ _, by have := pcB_le x; simp; omega⟩
    case round =>
      obtain ⟨ds, y, rfl, hy, HE, HO, HB, hpcb⟩ := hrel
      obtain ⟨w1, rfl⟩ : ∃ W : World, W = wr := ⟨_, rfl⟩
      obtain ⟨q, c, rfl⟩ := (RdI.of_own HO.out).shape
      by_cases h0 : y = 0
      · subst h0
        go_wp2_with fail
        rw [rounds_succ]
        go_wp2_with fail
        go_ret
        refine ⟨_, rfl, ?_, fun k hk => (HO.out.lt k hk).1, HB.out⟩
        have e := HE.out
        rw [bitsL_zero, List.map_nil, List.append_nil] at e
        rw [e]
        exact RdI.of_own HO.out
      · have hne : ((y : Int) != 0) = true := by simp; omega
        have HZ := Lib.hid (tz_any y w1 h0 hy (HT.out.of_below HB.out))
        have hct := ctz_small y h0 hy
        have HN := Lib.hid (bitsL_next h0)
        have HS := Lib.hid (sub_val y h0 hy)
        have HA := Lib.hid (and_val y (y - 1) hy (by omega))
        have HP := Lib.hid (and_pred_lt h0)
        have hpc := pcB_next h0 hy
        have hpd : ds.length + pcB (y &&& (y - 1)) + 1 ≤ 64 := by omega
        have hdl : ds.length ≤ 64 := by omega
        have HPD := Lib.hid hpd
        clear hpd hpc hpcb
        clear h0
        generalize Lib.ctz 64 y = z at HZ hct HN
        go_wp2_with fail
        refine HZ.out.mono ?_
        rintro e w2 ⟨rfl, rfl⟩
        go_wp2_with (first | (at_builtin; refine wpList_append_one rfl _ _ rfl w.heap.size _ ds rfl (HO.out.alloc _) _ _ (z : Int) rfl (by simp [go_sem]) (by omega) (by have := HB.out.size; simp; omega) ?_))
        intro p3 c3 w3 hO3 hg3 hd3
        have hB3 : Below w.heap.size w w3 := (bAlloc (o := .cells #[Value.int .i64 z] 3) HB.out.size HB.out).grown hg3 (by have := HB.out.size; simp; omega) fun k hk => (HO.out.lt k hk).1
        have HO3 := Lib.hid hO3
        have HB3 := Lib.hid hB3
        clear hO3 hg3 hd3 hB3
        go_wp2_with fail
        go_roundw
        case rel =>
          refine ⟨ds ++ [(z : Int)], y &&& (y - 1), by rw [HS.out, HA.out], ?_, ?_, ?_, HB3, ?_⟩
          · have := HP.out; omega
          · show _ = _
            rw [HE.out, HN.out, List.append_assoc]; rfl
          · show World.ownsRow _ _ _ _ _ _ _
            rw [List.length_append, List.map_append]; exact HO3.out
          · have := HPD.out; rw [List.length_append]; simp; omega
        case measure =>
          rw [HS.out, HA.out]
          have := HP.out
          simp [intOf]; omega
end Go.Proofs.YtifjcknklecdbaaDoor

