/- What a step reads and writes, in plain words. -/
import Derived.Test.YtlmipchjmgnlfaaDoorCorM
set_option linter.unusedVariables false
set_option linter.unusedSimpArgs false
namespace Go.Proofs.YtlmipchjmgnlfaaDoor
open Go.RowKit

theorem getD_set_ne {l : List Int} {k j : Nat} {v : Int} (h : k ≠ j) : (l.set k v).getD j 0 = l.getD j 0 := by
  simp only [List.getD_eq_getElem?_getD]
  rw [List.getElem?_set_ne h]
theorem getD_set_eq {l : List Int} {k : Nat} {v : Int} (h : k < l.length) : (l.set k v).getD k 0 = v := by
  simp [List.getD_eq_getElem?_getD, h]

/-- What a step that is executed leaves as it was. -/
structure Wrote (n a : Nat) (s s' : St) (mem mem' : List Int) (ad : Int) : Prop where
  regs : ∀ r, s'.r.getD r 0 ≠ s.r.getD r 0 → fwr n = true ∧ a ≠ 0 ∧ r = a
  len : s'.r.length = s.r.length
  mlen : mem'.length = mem.length
  dlen : s'.d.length = s.d.length
  memc : mem' = mem ∨ (n = 21 ∧ s'.d = s.d ∧ ∃ k : Nat, ad = k ∧ k < mem.length ∧ ∃ v, mem' = mem.set k v)
  datac : s'.d = s.d ∨ (n = 19 ∧ mem' = mem ∧ ∃ k : Nat, ad = k ∧ k < s.d.length ∧ ∃ v, s'.d = s.d.set k v)
theorem Wrote.go {n a : Nat} {s : St} {mem : List Int} {ad : Int} (p : Int) (l : Bool) (h : Int) : Wrote n a s { s with pc := p, halted := l, held := h } mem mem ad :=
  ⟨fun r hr => absurd rfl hr, rfl, rfl, rfl, .inl rfl, .inl rfl⟩
theorem Wrote.set {n a : Nat} {s : St} {mem : List Int} {ad : Int} (p v : Int) (hw : fwr n = true) : Wrote n a s { s with pc := p, r := if a = 0 then s.r else s.r.set a v } mem mem ad := by
  refine ⟨fun r hr => ?_, ?_, rfl, rfl, .inl rfl, .inl rfl⟩
  · by_cases ha : a = 0
    · exact absurd (by simp [ha]) hr
    · refine ⟨hw, ha, ?_⟩
      by_cases hra : a = r
      · exact hra.symm
      · refine absurd ?_ hr
        show (if a = 0 then s.r else s.r.set a v).getD r 0 = _
        rw [if_neg ha, getD_set_ne hra]
  · show (if a = 0 then s.r else s.r.set a v).length = _
    split <;> simp
theorem Wrote.st {a : Nat} {s : St} {mem : List Int} {x v : Int} (p : Int) (h0 : 0 ≤ x) (h1 : x < s.d.length) : Wrote 19 a s { s with pc := p, d := s.d.set x.toNat v } mem mem x :=
  ⟨fun r hr => absurd rfl hr, rfl, rfl, by simp, .inl rfl, .inr ⟨rfl, rfl, x.toNat, by omega, by omega, v, rfl⟩⟩
theorem Wrote.sts {a : Nat} {s : St} {mem : List Int} {x v : Int} (p : Int) (h0 : 0 ≤ x) (h1 : x < mem.length) : Wrote 21 a s { s with pc := p } mem (mem.set x.toNat v) x :=
  ⟨fun r hr => absurd rfl hr, rfl, by simp, rfl, .inr ⟨rfl, rfl, x.toNat, by omega, by omega, v, rfl⟩, .inl rfl⟩

theorem ite_oks {α β : Type} {p : Prop} [Decidable p] {A B : Except α β} {o : Except α β} {Q : Prop} (ha : p → A = o → Q) (hb : ¬ p → B = o → Q) : (if p then A else B) = o → Q := by
  split
  · exact ha ‹_›
  · exact hb ‹_›
theorem err_no {x : Int} {y : St × List Int × Bool × Int × Int} (h : (Except.error x : Except Int (St × List Int × Bool × Int × Int)) = .ok y) : False := by cases h
theorem ok_all {s s' : St} {m m' : List Int} {a a' : Bool} {b b' c c' : Int} (h : (Except.ok (s, m, a, b, c) : Except Int (St × List Int × Bool × Int × Int)) = .ok (s', m', a', b', c')) : s = s' ∧ m = m' ∧ b = b' := by
  simp only [Except.ok.injEq, Prod.mk.injEq] at h
  exact ⟨h.1, h.2.1, h.2.2.2.1⟩
set_option maxHeartbeats 4000000 in
theorem stepI_wrote {lk : Int} {n a b c : Nat} {i : Int} {s : St} {mem : List Int} {inp : Int} {s' : St} {mem' : List Int} {tk : Bool} {ad vl : Int} : n < 30 → stepI lk n a b c i s mem inp = .ok (s', mem', tk, ad, vl) → Wrote n a s s' mem mem' ad := by
  intro hn
  have hw : ∀ m, 2 ≤ m → m ≤ 18 ∨ m = 20 ∨ m = 26 → fwr m = true := by
    intro m h1 h2
    obtain rfl | rfl | rfl | rfl | rfl | rfl | rfl | rfl | rfl | rfl | rfl | rfl | rfl | rfl | rfl | rfl | rfl | rfl | rfl : m = 2 ∨ m = 3 ∨ m = 4 ∨ m = 5 ∨ m = 6 ∨ m = 7 ∨ m = 8 ∨ m = 9 ∨ m = 10 ∨ m = 11 ∨ m = 12 ∨ m = 13 ∨ m = 14 ∨ m = 15 ∨ m = 16 ∨ m = 17 ∨ m = 18 ∨ m = 20 ∨ m = 26 := by omega
    all_goals rfl
  unfold stepI
  simp only
  repeat' (with_reducible refine ite_oks (fun _ => ?_) (fun _ => ?_))
  all_goals intro h
  all_goals first
    | (with_reducible exact (err_no h).elim)
    | (obtain ⟨h1, h2, h3⟩ := ok_all h; subst h1 h2 h3; with_reducible exact Wrote.go _ _ _)
    | (obtain ⟨h1, h2, h3⟩ := ok_all h; subst h1 h2 h3; with_reducible exact Wrote.set _ _ (hw n (by omega) (by omega)))
    | (obtain ⟨h1, h2, h3⟩ := ok_all h; subst h1 h2 h3; rename_i hc hm; subst hm; exact Wrote.st _ hc.1 hc.2)
    | (obtain ⟨h1, h2, h3⟩ := ok_all h; subst h1 h2 h3; rename_i hm hc; subst hm; exact Wrote.st _ hc.1 hc.2)
    | (obtain ⟨h1, h2, h3⟩ := ok_all h; subst h1 h2 h3; rename_i hm hc; subst hm; exact Wrote.sts _ hc.1 hc.2)

/-- A register that is not read has no part in what a step does. -/
def unread (n a b c r : Nat) : Prop := (∀ l ∈ frL.getD n [], (if l = 65 then a else if l = 66 then b else c) ≠ r)
def fixup (n a r : Nat) (v : Int) (s' : St) : St := { s' with r := if fwr n = true ∧ a = r then s'.r else s'.r.set r v }
theorem setset {l : List Int} {a r : Nat} {u v : Int} (h : a ≠ r) : (l.set r v).set a u = (l.set a u).set r v := List.set_comm _ _ (Ne.symm h)
set_option maxHeartbeats 4000000 in
theorem stepI_unread {lk : Int} {n a b c r : Nat} {i : Int} {s : St} {mem : List Int} {inp v : Int} (hn : n < 30) (hr : r ≠ 0) (hu : unread n a b c r) :
    stepI lk n a b c i { s with r := s.r.set r v } mem inp = match stepI lk n a b c i s mem inp with
      | .error er => .error er
      | .ok (s', m', tk, ad, vl) => .ok (fixup n a r v s', m', tk, ad, vl) := by
  have hA : (65 : UInt8) ∈ frL.getD n [] → (s.r.set r v).getD a 0 = s.r.getD a 0 := fun h => getD_set_ne (by have := hu 65 h; simpa using this.symm)
  have hB : (66 : UInt8) ∈ frL.getD n [] → (s.r.set r v).getD b 0 = s.r.getD b 0 := fun h => getD_set_ne (by have := hu 66 h; simpa using this.symm)
  have hC : (67 : UInt8) ∈ frL.getD n [] → (s.r.set r v).getD c 0 = s.r.getD c 0 := fun h => getD_set_ne (by have := hu 67 h; simpa using this.symm)
  have hW : ∀ u, (if a = 0 then s.r.set r v else (s.r.set r v).set a u) = if a = r then (if a = 0 then s.r else s.r.set a u) else (if a = 0 then s.r else s.r.set a u).set r v := by
    intro u
    by_cases h : a = r
    · subst h; simp [hr]
    · by_cases h0 : a = 0
      · simp [h0, h, Ne.symm hr]
      · simp [h0, h, setset h]
  match n, hn with
  | 0, _ =>
    have ew : fwr 0 = false := rfl
    clear hA hB hC
    unfold stepI
    simp only [hW]
    clear hW
    simp [fixup, ew]
    try (split <;> simp [fixup, ew])
  | 1, _ =>
    have ew : fwr 1 = false := rfl
    clear hA hB hC
    unfold stepI
    simp only [hW]
    clear hW
    simp [fixup, ew]
    try (split <;> simp [fixup, ew])
  | 2, _ =>
    have e0 := hB (by decide)
    have e1 := hC (by decide)
    have ew : fwr 2 = true := rfl
    clear hA hB hC
    unfold stepI
    simp only [hW, e0, e1]
    clear hW
    simp [fixup, ew]
    try (split <;> simp [fixup, ew])
  | 3, _ =>
    have e0 := hB (by decide)
    have e1 := hC (by decide)
    have ew : fwr 3 = true := rfl
    clear hA hB hC
    unfold stepI
    simp only [hW, e0, e1]
    clear hW
    simp [fixup, ew]
    try (split <;> simp [fixup, ew])
  | 4, _ =>
    have e0 := hB (by decide)
    have e1 := hC (by decide)
    have ew : fwr 4 = true := rfl
    clear hA hB hC
    unfold stepI
    simp only [hW, e0, e1]
    clear hW
    simp [fixup, ew]
    try (split <;> simp [fixup, ew])
  | 5, _ =>
    have e0 := hB (by decide)
    have e1 := hC (by decide)
    have ew : fwr 5 = true := rfl
    clear hA hB hC
    unfold stepI
    simp only [hW, e0, e1]
    clear hW
    simp [fixup, ew]
    try (split <;> simp [fixup, ew])
  | 6, _ =>
    have e0 := hB (by decide)
    have e1 := hC (by decide)
    have ew : fwr 6 = true := rfl
    clear hA hB hC
    unfold stepI
    simp only [hW, e0, e1]
    clear hW
    simp [fixup, ew]
    try (split <;> simp [fixup, ew])
  | 7, _ =>
    have e0 := hB (by decide)
    have e1 := hC (by decide)
    have ew : fwr 7 = true := rfl
    clear hA hB hC
    unfold stepI
    simp only [hW, e0, e1]
    clear hW
    simp [fixup, ew]
    try (split <;> simp [fixup, ew])
  | 8, _ =>
    have e0 := hB (by decide)
    have e1 := hC (by decide)
    have ew : fwr 8 = true := rfl
    clear hA hB hC
    unfold stepI
    simp only [hW, e0, e1]
    clear hW
    simp [fixup, ew]
    try (split <;> simp [fixup, ew])
  | 9, _ =>
    have e0 := hB (by decide)
    have e1 := hC (by decide)
    have ew : fwr 9 = true := rfl
    clear hA hB hC
    unfold stepI
    simp only [hW, e0, e1]
    clear hW
    simp [fixup, ew]
    try (split <;> simp [fixup, ew])
  | 10, _ =>
    have e0 := hB (by decide)
    have e1 := hC (by decide)
    have ew : fwr 10 = true := rfl
    clear hA hB hC
    unfold stepI
    simp only [hW, e0, e1]
    clear hW
    simp [fixup, ew]
    try (split <;> simp [fixup, ew])
  | 11, _ =>
    have e0 := hB (by decide)
    have e1 := hC (by decide)
    have ew : fwr 11 = true := rfl
    clear hA hB hC
    unfold stepI
    simp only [hW, e0, e1]
    clear hW
    simp [fixup, ew]
    try (split <;> simp [fixup, ew])
  | 12, _ =>
    have e0 := hB (by decide)
    have e1 := hC (by decide)
    have ew : fwr 12 = true := rfl
    clear hA hB hC
    unfold stepI
    simp only [hW, e0, e1]
    clear hW
    simp [fixup, ew]
    try (split <;> simp [fixup, ew])
  | 13, _ =>
    have e0 := hB (by decide)
    have e1 := hC (by decide)
    have ew : fwr 13 = true := rfl
    clear hA hB hC
    unfold stepI
    simp only [hW, e0, e1]
    clear hW
    simp [fixup, ew]
    try (split <;> simp [fixup, ew])
  | 14, _ =>
    have ew : fwr 14 = true := rfl
    clear hA hB hC
    unfold stepI
    simp only [hW]
    clear hW
    simp [fixup, ew]
    try (split <;> simp [fixup, ew])
  | 15, _ =>
    have e0 := hB (by decide)
    have ew : fwr 15 = true := rfl
    clear hA hB hC
    unfold stepI
    simp only [hW, e0]
    clear hW
    simp [fixup, ew]
    try (split <;> simp [fixup, ew])
  | 16, _ =>
    have e0 := hB (by decide)
    have ew : fwr 16 = true := rfl
    clear hA hB hC
    unfold stepI
    simp only [hW, e0]
    clear hW
    simp [fixup, ew]
    try (split <;> simp [fixup, ew])
  | 17, _ =>
    have e0 := hB (by decide)
    have ew : fwr 17 = true := rfl
    clear hA hB hC
    unfold stepI
    simp only [hW, e0]
    clear hW
    simp [fixup, ew]
    try (split <;> simp [fixup, ew])
  | 18, _ =>
    have e0 := hB (by decide)
    have ew : fwr 18 = true := rfl
    clear hA hB hC
    unfold stepI
    simp only [hW, e0]
    clear hW
    simp [fixup, ew]
    try (split <;> simp [fixup, ew])
  | 19, _ =>
    have e0 := hA (by decide)
    have e1 := hB (by decide)
    have ew : fwr 19 = false := rfl
    clear hA hB hC
    unfold stepI
    simp only [hW, e0, e1]
    clear hW
    simp [fixup, ew]
    try (split <;> simp [fixup, ew])
  | 20, _ =>
    have e0 := hB (by decide)
    have ew : fwr 20 = true := rfl
    clear hA hB hC
    unfold stepI
    simp only [hW, e0]
    clear hW
    simp [fixup, ew]
    try (split <;> simp [fixup, ew])
  | 21, _ =>
    have e0 := hA (by decide)
    have e1 := hB (by decide)
    have ew : fwr 21 = false := rfl
    clear hA hB hC
    unfold stepI
    simp only [hW, e0, e1]
    clear hW
    simp [fixup, ew]
    try (split <;> simp [fixup, ew])
  | 22, _ =>
    have e0 := hA (by decide)
    have ew : fwr 22 = false := rfl
    clear hA hB hC
    unfold stepI
    simp only [hW, e0]
    clear hW
    simp [fixup, ew]
    try (split <;> simp [fixup, ew])
  | 23, _ =>
    have e0 := hA (by decide)
    have ew : fwr 23 = false := rfl
    clear hA hB hC
    unfold stepI
    simp only [hW, e0]
    clear hW
    simp [fixup, ew]
    try (split <;> simp [fixup, ew])
  | 24, _ =>
    have ew : fwr 24 = false := rfl
    clear hA hB hC
    unfold stepI
    simp only [hW]
    clear hW
    simp [fixup, ew]
    try (split <;> simp [fixup, ew])
  | 25, _ =>
    have e0 := hA (by decide)
    have ew : fwr 25 = false := rfl
    clear hA hB hC
    unfold stepI
    simp only [hW, e0]
    clear hW
    simp [fixup, ew]
    try (split <;> simp [fixup, ew])
  | 26, _ =>
    have ew : fwr 26 = true := rfl
    clear hA hB hC
    unfold stepI
    simp only [hW]
    clear hW
    simp [fixup, ew]
    try (split <;> simp [fixup, ew])
  | 27, _ =>
    have e0 := hA (by decide)
    have ew : fwr 27 = false := rfl
    clear hA hB hC
    unfold stepI
    simp only [hW, e0]
    clear hW
    simp [fixup, ew]
    try (split <;> simp [fixup, ew])
  | 28, _ =>
    have ew : fwr 28 = false := rfl
    clear hA hB hC
    unfold stepI
    simp only [hW]
    clear hW
    simp [fixup, ew]
    try (split <;> simp [fixup, ew])
  | 29, _ =>
    have ew : fwr 29 = false := rfl
    clear hA hB hC
    unfold stepI
    simp only [hW]
    clear hW
    simp [fixup, ew]
    try (split <;> simp [fixup, ew])
  | n + 30, h => omega

end Go.Proofs.YtlmipchjmgnlfaaDoor
