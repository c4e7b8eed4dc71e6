/- A step keeps a state fitting; CoreFuel in plain words. -/
import Derived.Test.YtlmipchjmgnlfaaDoorCorAg
import Derived.Test.YtlmipchjmgnlfaaDoorCorBh
set_option linter.unusedVariables false
set_option linter.unusedSimpArgs false
namespace Go.Proofs.YtlmipchjmgnlfaaDoor
open Go.RowKit

/-- What a step keeps of a state that fits. -/
def Fitly (lk : Int) (s s' : St) : Prop := s'.d.length = s.d.length ∧ s'.r.getD 0 0 = s.r.getD 0 0 ∧ ((s.held = -1 ∨ (0 ≤ s.held ∧ s.held < lk)) → (s'.held = -1 ∨ (0 ≤ s'.held ∧ s'.held < lk)))
theorem Fitly.self (lk : Int) (s : St) (p : Int) (l : Bool) : Fitly lk s { s with pc := p, halted := l } := ⟨rfl, rfl, id⟩
theorem Fitly.set (lk : Int) (s : St) (p : Int) (a : Nat) (v : Int) : Fitly lk s { s with pc := p, r := if a = 0 then s.r else s.r.set a v } := by
  refine ⟨rfl, ?_, id⟩
  show (if a = 0 then s.r else s.r.set a v).getD 0 0 = _
  split
  · rfl
  · simp only [List.getD_eq_getElem?_getD]
    rw [List.getElem?_set_ne (by omega)]
theorem Fitly.data (lk : Int) (s : St) (p : Int) (k : Nat) (v : Int) : Fitly lk s { s with pc := p, d := s.d.set k v } := ⟨by simp, rfl, id⟩
theorem ok_st {s s' : St} {m m' : List Int} {a a' : Bool} {b b' c c' : Int} (h : (Except.ok (s, m, a, b, c) : Except Int (St × List Int × Bool × Int × Int)) = .ok (s', m', a', b', c')) : s = s' := by
  injection h with h
  injection h
set_option maxHeartbeats 2000000 in
theorem stepI_fit {lk : Int} {n a b c : Nat} {i : Int} {s : St} {mem : List Int} {inp : Int} {s' : St} {mem' : List Int} {tk : Bool} {ad vl : Int} (hi : n = 28 → 0 ≤ i) : stepI lk n a b c i s mem inp = .ok (s', mem', tk, ad, vl) → Fitly lk s s' := by
  unfold stepI
  simp only
  repeat' (with_reducible refine ite_ok (fun _ => ?_) (fun _ => ?_))
  all_goals intro h
  all_goals first
    | (with_reducible exact (err_ne h).elim)
    | (rw [← ok_st h]; with_reducible exact Fitly.self lk s _ _)
    | (rw [← ok_st h]; with_reducible exact Fitly.set lk s _ _ _)
    | (rw [← ok_st h]; with_reducible exact Fitly.data lk s _ _ _)
    | (rw [← ok_st h]; refine ⟨rfl, rfl, fun _ => ?_⟩; first | (exact .inl rfl) | (refine .inr ⟨hi (by omega), ?_⟩; show i < lk; omega))
theorem stepP_fit {im : Im} {t : Int} {s : St} {mem : List Int} {inp : Int → Int} {f : Ef} {s' : St} {mem' : List Int} (h : stepP im t s mem inp = .ok (f, s', mem')) : fitP im t s = true ∧ fitP im t s' = true := by
  unfold stepP at h
  split at h
  · cases h
  · rename_i h0
    have hf : fitP im t s = true := by
      cases hh : fitP im t s
      · exact absurd (.inl hh) h0
      · rfl
    refine ⟨hf, ?_⟩
    simp only at h
    split at h
    · cases h
    · split at h
      · cases h
      · rename_i hok
        split at h
        · cases h
        · rename_i s1 m1 tk ad vl hs
          simp only [Except.ok.injEq, Prod.mk.injEq] at h
          obtain ⟨_, rfl, _⟩ := h
          have hv := of_decide_eq_true (show decOk (im.code.getD s.pc.toNat 0) = true by simpa using hok)
          obtain ⟨a1, a2, a3⟩ := stepI_fit (fun h28 => by
            have hp := (vld_parts hv.1).2.2.2.2.1
            rw [h28, if_pos (show uI 28 = true from rfl), show flo 28 = 0 from rfl] at hp
            exact hp) hs
          simp only [fitP, decide_eq_true_eq] at hf ⊢
          exact ⟨hf.1, hf.2.1, by rw [a1]; exact hf.2.2.1, a2.trans hf.2.2.2.1, a3 hf.2.2.2.2⟩

theorem stepP_len {im : Im} {t : Int} {s : St} {mem : List Int} {inp : Int → Int} {f : Ef} {s' : St} {mem' : List Int} (h : stepP im t s mem inp = .ok (f, s', mem')) : s'.d.length = s.d.length ∧ mem'.length = mem.length := by
  unfold stepP at h
  split at h
  · cases h
  · simp only at h
    split at h
    · cases h
    · split at h
      · cases h
      · rename_i hok
        split at h
        · cases h
        · rename_i s1 m1 tk ad vl hs
          simp only [Except.ok.injEq, Prod.mk.injEq] at h
          obtain ⟨_, rfl, rfl⟩ := h
          have hv := of_decide_eq_true (show decOk (im.code.getD s.pc.toNat 0) = true by simpa using hok)
          have hw := stepI_wrote (vld_parts hv.1).1 hs
          exact ⟨hw.dlen, hw.mlen⟩

section
variable {σ : Type} {im : Im} {t : Int} {inp : σ → Int → Int} {nxt : σ → Int → σ}
theorem cstep_fit {c c' : Cf σ} (h : cstep im t inp nxt c = .ok c') : fitP im t c.s = true ∧ fitP im t c'.s = true := by
  unfold cstep at h
  split at h
  · cases h
  · rename_i f s' m' hs
    cases h
    exact stepP_fit hs
theorem runP_fit : ∀ (k : Nat) (c : Cf σ), fitP im t c.s = true → fitP im t (runP im t inp nxt k c).1.s = true
  | 0, c, h => by
    cases hh : c.s.halted
    · rw [runP_fuel hh]; exact h
    · rw [runP_halted hh]; exact h
  | k + 1, c, h => by
    cases hh : c.s.halted
    · cases hs : cstep im t inp nxt c with
      | error er => rw [runP_err hh hs]; exact h
      | ok c' => rw [runP_ok hh hs]; exact runP_fit k c' (cstep_fit hs).2
    · rw [runP_halted hh]; exact h
theorem runP_outs : ∀ (k : Nat) (c : Cf σ), (runP im t inp nxt k c).1.out.length ≤ c.out.length + k
  | 0, c => by
    cases hh : c.s.halted
    · rw [runP_fuel hh]; exact Nat.le_add_right _ _
    · rw [runP_halted hh]; exact Nat.le_add_right _ _
  | k + 1, c => by
    cases hh : c.s.halted
    · cases hs : cstep im t inp nxt c with
      | error er => rw [runP_err hh hs]; exact Nat.le_add_right _ _
      | ok c' =>
        rw [runP_ok hh hs]
        have h := runP_outs k c'
        have h2 : c'.out.length ≤ c.out.length + 1 := by
          unfold cstep at hs
          split at hs
          · cases hs
          · cases hs
            show (if _ then _ else _ : List (Int × Int)).length ≤ _
            split
            · simp
            · omega
        show (runP im t inp nxt k c').1.out.length ≤ _
        omega
    · rw [runP_halted hh]; exact Nat.le_add_right _ _
theorem runP_steps : ∀ (k : Nat) (c : Cf σ), (runP im t inp nxt k c).2.1 ≤ k
  | 0, c => by
    cases hh : c.s.halted
    · rw [runP_fuel hh]; exact Nat.le_refl _
    · rw [runP_halted hh]; exact Nat.le_refl _
  | k + 1, c => by
    cases hh : c.s.halted
    · cases hs : cstep im t inp nxt c with
      | error er => rw [runP_err hh hs]; exact Nat.zero_le _
      | ok c' =>
        rw [runP_ok hh hs]
        have h := runP_steps k c'
        show (runP im t inp nxt k c').2.1 + 1 ≤ _
        omega
    · rw [runP_halted hh]; exact Nat.zero_le _

theorem cstep_len {c c' : Cf σ} (h : cstep im t inp nxt c = .ok c') : c'.s.d.length = c.s.d.length ∧ c'.mem.length = c.mem.length := by
  unfold cstep at h
  split at h
  · cases h
  · rename_i f s' m' hs
    cases h
    exact stepP_len hs
theorem runP_len : ∀ (k : Nat) (c : Cf σ), (runP im t inp nxt k c).1.s.d.length = c.s.d.length ∧ (runP im t inp nxt k c).1.mem.length = c.mem.length
  | 0, c => by
    cases hh : c.s.halted
    · rw [runP_fuel hh]; exact ⟨rfl, rfl⟩
    · rw [runP_halted hh]; exact ⟨rfl, rfl⟩
  | k + 1, c => by
    cases hh : c.s.halted
    · cases hs : cstep im t inp nxt c with
      | error er => rw [runP_err hh hs]; exact ⟨rfl, rfl⟩
      | ok c' =>
        rw [runP_ok hh hs]
        have h := runP_len k c'
        have h2 := cstep_len hs
        exact ⟨h.1.trans h2.1, h.2.trans h2.2⟩
    · rw [runP_halted hh]; exact ⟨rfl, rfl⟩
theorem runQ_len (k : Nat) (c : Cf σ) : (runQ im t inp nxt k c).1.s.d.length = c.s.d.length ∧ (runQ im t inp nxt k c).1.mem.length = c.mem.length := by
  unfold runQ
  split
  · exact runP_len k c
  · exact ⟨rfl, rfl⟩
theorem runQ_outs (k : Nat) (c : Cf σ) (h : c.out = []) : (runQ im t inp nxt k c).1.out.length ≤ k := by
  unfold runQ
  split
  · have := runP_outs (im := im) (t := t) (inp := inp) (nxt := nxt) k c
    rw [h] at this
    simpa using this
  · rw [h]; exact Nat.zero_le _
theorem runQ_steps (k : Nat) (c : Cf σ) : (runQ im t inp nxt k c).2.1 ≤ k := by
  unfold runQ
  split
  · exact runP_steps k c
  · exact Nat.zero_le _

/-- The head of a run ends otherwise than for want of fuel: it is the whole run. -/
theorem fuel_same {k fuel : Nat} {c : Cf σ} (hk : k ≤ fuel) (h : (runQ im t inp nxt k c).2.2 ≠ 13) : runQ im t inp nxt fuel c = runQ im t inp nxt k c := by
  unfold runQ at h ⊢
  split
  · rename_i hf
    rw [if_pos hf] at h
    exact runP_more k c fuel hk h
  · rfl
/-- It ends for want of fuel: with the rest it goes on. -/
theorem fuel_rest {k fuel : Nat} {c : Cf σ} (hk : k ≤ fuel) (h : (runQ im t inp nxt k c).2.2 = 13) :
    (runQ im t inp nxt fuel c).1.s = (runQ im t inp nxt (fuel - k) (runQ im t inp nxt k c).1.fresh).1.s ∧ (runQ im t inp nxt fuel c).1.mem = (runQ im t inp nxt (fuel - k) (runQ im t inp nxt k c).1.fresh).1.mem ∧
    (runQ im t inp nxt fuel c).1.out = (runQ im t inp nxt k c).1.out ++ (runQ im t inp nxt (fuel - k) (runQ im t inp nxt k c).1.fresh).1.out ∧
    (runQ im t inp nxt fuel c).2.1 = (runQ im t inp nxt k c).2.1 + (runQ im t inp nxt (fuel - k) (runQ im t inp nxt k c).1.fresh).2.1 ∧
    (runQ im t inp nxt fuel c).2.2 = (runQ im t inp nxt (fuel - k) (runQ im t inp nxt k c).1.fresh).2.2 := by
  have hf : fitP im t c.s = true := by
    cases hh : fitP im t c.s
    · simp [runQ, hh] at h
    · rfl
  have h1 : ∀ f, runQ im t inp nxt f c = runP im t inp nxt f c := fun f => by simp [runQ, hf]
  rw [h1] at h
  have hf2 : fitP im t (runP im t inp nxt k c).1.fresh.s = true := runP_fit k c hf
  have h2 : ∀ f, runQ im t inp nxt f (runP im t inp nxt k c).1.fresh = runP im t inp nxt f (runP im t inp nxt k c).1.fresh := fun f => by simp [runQ, hf2]
  simp only [h1, h2]
  have hs := runP_split k c fuel hk h
  have hr := runP_fresh (im := im) (t := t) (inp := inp) (nxt := nxt) (fuel - k) (runP im t inp nxt k c).1
  rw [hs, hr]
  exact ⟨rfl, rfl, rfl, rfl, rfl⟩
end

end Go.Proofs.YtlmipchjmgnlfaaDoor
