import Derived.Test.YtifjcknklecdbaaDoorMs24
import Derived.Test.YtifjcknklecdbaaDoorIrD
import Derived.Test.YtifjcknklecdbaaDoorRunF
/- The renamed function is valid; how both runs begin. Plain Lean, no program here. -/
set_option linter.unusedVariables false
set_option linter.unusedSimpArgs false
namespace Go.Proofs.YtifjcknklecdbaaDoor
open Go.RowKit

/-- A valid function is well formed. -/
theorem okIns_of_v {R : Int} {K : Kinds} {i : IIns} (h : vIns R K i = true) : okIns R i = true := by
  obtain ⟨op, dst, x, y, imm, sym⟩ := i
  have hop : op = 1 ∨ op = 2 ∨ op = 3 ∨ op = 4 ∨ op = 5 ∨ op = 6 ∨ op = 7 ∨ op = 8 ∨ op = 9 ∨ op = 10 ∨ op = 11 ∨ op = 12 ∨ op = 13 ∨ op = 14 ∨ op = 15 ∨ op = 16 ∨ (op ≠ 1 ∧ op ≠ 2 ∧ op ≠ 3 ∧ ¬ (op = 4 ∨ op = 6) ∧ ¬ (op = 5 ∨ op = 7) ∧ op ≠ 8 ∧ op ≠ 9 ∧ op ≠ 10 ∧ ¬ (op = 11 ∨ op = 12) ∧ ¬ (op = 13 ∨ op = 14) ∧ op ≠ 15 ∧ op ≠ 16) := by omega
  unfold vIns at h
  simp only [] at h
  rcases hop with rfl | rfl | rfl | rfl | rfl | rfl | rfl | rfl | rfl | rfl | rfl | rfl | rfl | rfl | rfl | rfl | ⟨h1, h2, h3, h4, h5, h8, h9, h10, h11, h13, h15, h16⟩
  all_goals (try (
    simp only [Nat.reduceEqDiff, if_true, if_false, or_false, false_or, or_true, true_or, or_self, Bool.and_eq_true] at h
    simp [okIns, usesI, hasDef, h]
    done))
  rw [if_neg h1, if_neg h2, if_neg h3, if_neg h4, if_neg h5, if_neg h8, if_neg h9, if_neg h10, if_neg h11, if_neg h13, if_neg h15, if_neg h16] at h
  cases h
theorem wf_of_v {R : Int} {A S : List Arr} {bs : List IBlk} (h : vFun R A S bs = true) : wfF R bs = true := by
  obtain ⟨h0, h1, _, _, _, h5⟩ := (vFun_iff R A S bs).1 h
  refine wf_yes (fun e => h0 (List.length_eq_zero_iff.1 e)) h1 fun k hk => ?_
  obtain ⟨hi, he⟩ := (vBlk_iff _ _ _ _).1 (h5 k hk)
  generalize bs.getD k default = b at hi he
  have hall : b.code.all (okIns R) = true := all_getD.2 fun j hj => okIns_of_v (hi j hj)
  unfold okBlk
  rw [hall]
  unfold vEnd at he
  unfold succI
  repeat' split at he
  all_goals simp_all
  all_goals (try split)
  all_goals simp_all

theorem vIns_ren {R R' : Int} {K : Kinds} {num : Int → Int} (hn : ∀ r, okR R r = true → okR R' (num r) = true) {i : IIns} (h : vIns R K i = true) : vIns R' K (renI num i) = true := by
  have hok := okIns_of_v h
  have hop : 1 ≤ i.op ∧ i.op ≤ 16 := by
    simp only [okIns, Bool.and_eq_true, decide_eq_true_eq] at hok
    exact hok.1.1
  clear hok
  obtain ⟨op, dst, x, y, imm, sym⟩ := i
  have hc : op = 1 ∨ op = 2 ∨ op = 3 ∨ op = 4 ∨ op = 5 ∨ op = 6 ∨ op = 7 ∨ op = 8 ∨ op = 9 ∨ op = 10 ∨ op = 11 ∨ op = 12 ∨ op = 13 ∨ op = 14 ∨ op = 15 ∨ op = 16 := by
    have h1 : 1 ≤ op ∧ op ≤ 16 := hop
    omega
  clear hop
  unfold vIns at h
  rcases hc with rfl | rfl | rfl | rfl | rfl | rfl | rfl | rfl | rfl | rfl | rfl | rfl | rfl | rfl | rfl | rfl
  all_goals (
    simp only [Nat.reduceEqDiff, if_true, if_false, or_false, false_or, or_true, true_or, or_self, Bool.and_eq_true] at h
    simp [vIns, renI, usesI, hasDef, h, hn]
    try (have h2 := h.1.1.2.2; simpa using h2))
theorem vEnd_ren {R R' : Int} {n : Nat} {num : Int → Int} (hn : ∀ r, okR R r = true → okR R' (num r) = true) {b : IBlk} (h : vEnd R n b = true) : vEnd R' n (renK num b) = true := by
  unfold vEnd renK at *
  by_cases h1 : b.kind = 1
  · simp only [h1, if_true] at h ⊢
    simpa using h
  · by_cases h2 : b.kind = 2
    · simp only [h2, if_true, if_false, Nat.reduceEqDiff, Bool.and_eq_true] at h ⊢
      exact ⟨⟨hn _ h.1.1, h.1.2⟩, h.2⟩
    · simp only [h1, h2, if_false] at h ⊢
      exact h
theorem vFun_ren {R R' : Int} {A S : List Arr} {bs : List IBlk} {num : Int → Int} (hn : ∀ r, okR R r = true → okR R' (num r) = true) (hR : 0 ≤ R' ∧ R' ≤ 10000) (h : vFun R A S bs = true) : vFun R' A S (bs.map (renK num)) = true := by
  simp only [vFun, Bool.and_eq_true, decide_eq_true_eq, List.all_eq_true] at h ⊢
  obtain ⟨⟨⟨⟨⟨h0, h1⟩, h2⟩, h3⟩, h4⟩, h5⟩ := h
  refine ⟨⟨⟨⟨⟨fun e => h0 (List.map_eq_nil_iff.1 e), hR⟩, h2⟩, h3⟩, h4⟩, fun b hb => ?_⟩
  obtain ⟨c, hc, rfl⟩ := List.mem_map.1 hb
  have hv := h5 c hc
  simp only [vBlk, Bool.and_eq_true, List.all_eq_true, List.length_map] at hv ⊢
  refine ⟨fun i hi => ?_, vEnd_ren hn hv.2⟩
  obtain ⟨j, hj, rfl⟩ := List.mem_map.1 hi
  exact vIns_ren hn (hv.1 j hj)

/-- How a run begins. -/
def startR (R : Nat) (mem : Nat → List Int) : RS := ⟨List.replicate R 0, [0, 0, 0, 0], mem, false, ⟨#[]⟩, [], 0⟩
theorem agree_start (R R' : Nat) (num : Int → Int) (L : Nat) (mem : Nat → List Int) : Agree R R' num L (startR R mem) (startR R' mem) :=
  ⟨fun r _ _ => by
    have z : ∀ n k : Nat, (List.replicate n (0 : Int)).getD k 0 = 0 := fun n k => by
      rw [List.getD_eq_getElem?_getD, List.getElem?_replicate]
      split <;> rfl
    show (List.replicate R (0 : Int)).getD r 0 = (List.replicate R' (0 : Int)).getD (num r).toNat 0
    rw [z, z], by simp [startR], by simp [startR], rfl, rfl, rfl, rfl, rfl, rfl⟩
/-- The law in plain words. -/
theorem runs_alike (ap : Int → Int → Int → Int × Int) (idx : ByteArray → Nat) (inp : List Int) {R R' : Nat} {A S : List Arr} {bs : List IBlk} {P : Nat → Int × Int} {n : Int} (hv : vFun R A S bs = true) (hR : R ≤ 64) (hP : VaG (edgesL R bs) R P n) (hR' : 8 + n = R') (m : Nat) (mem : Nat → List Int) :
    SameEnd (runR ap idx inp bs m 0 0 (startR R mem)) (runR ap idx inp (bs.map (renK (numP R P))) m 0 0 (startR R' mem)) ∧ vFun R' A S (bs.map (renK (numP R P))) = true := by
  have hw := wf_of_v hv
  have hne : bs ≠ [] := by
    simp only [vFun, Bool.and_eq_true, decide_eq_true_eq] at hv
    exact hv.1.1.1.1.1
  refine ⟨run_sim ap idx inp hw hR hP hR' rfl m 0 0 _ _ (List.length_pos_iff.2 hne) (Nat.zero_le _) (agree_start _ _ _ _ _), vFun_ren (R := R) (fun r hr => ?_) ⟨by omega, ?_⟩ hv⟩
  · simp only [okR, decide_eq_true_eq] at hr ⊢
    obtain ⟨k, hk⟩ := Int.eq_ofNat_of_zero_le hr.1
    subst hk
    obtain ⟨_, h1, h2⟩ := numP_in hP (r := k) (by omega)
    exact ⟨h1, by omega⟩
  · have := hP.big
    omega
end Go.Proofs.YtifjcknklecdbaaDoor

/- The runner's instruction, in one: every valid instruction. -/
set_option linter.unusedVariables false
set_option linter.unusedSimpArgs false
namespace Go.Proofs.YtifjcknklecdbaaDoor
open Go.RowKit Go.Maps

def insQ (i : IIns) : Value := .agg #[.int .u8 i.op, .int .i64 i.dst, .int .i64 i.x, .int .i64 i.y, .int .i64 i.imm, .string i.sym]
/-- The names stand for the runner's arrays. -/
def NamesOk (q : RK) (K : Kinds) : Prop := ∀ s, (K s).isSome = true → q.F s = some (q.V (q.idx s)) ∧ q.idx s < q.nm
theorem ins_any {q : RK} {L : List (Nat × List Value)} {K : Kinds} {s : RS} {w : World} (h : RunRel q L s w) (i : IIns) (hv : vIns q.R K i = true) (hK : NamesOk q K) (hs : i.sym.size ≤ maxLen) (hrb : s.read ≤ 1000000) (hob : s.out.length ≤ 1000000) :
    Calls Tryd.prog 38 #[.pointer (some ⟨q.gb, 0, none⟩), insQ i] w (InsPost q L s (insR apW q.idx q.inp s i)) := by
  have hok := okIns_of_v hv
  have hop : 1 ≤ i.op ∧ i.op ≤ 16 := by
    simp only [okIns, Bool.and_eq_true, decide_eq_true_eq] at hok
    exact hok.1.1
  clear hok
  obtain ⟨op, dst, x, y, imm, sym⟩ := i
  have hc : op = 1 ∨ op = 2 ∨ op = 3 ∨ op = 4 ∨ op = 5 ∨ op = 6 ∨ op = 7 ∨ op = 8 ∨ op = 9 ∨ op = 10 ∨ op = 11 ∨ op = 12 ∨ op = 13 ∨ op = 14 ∨ op = 15 ∨ op = 16 := by
    have h1 : 1 ≤ op ∧ op ≤ 16 := hop
    omega
  clear hop
  unfold vIns at hv
  rcases hc with rfl | rfl | rfl | rfl | rfl | rfl | rfl | rfl | rfl | rfl | rfl | rfl | rfl | rfl | rfl | rfl
  all_goals simp only [Nat.reduceEqDiff, if_true, if_false, or_false, false_or, or_true, true_or, or_self, Bool.and_eq_true] at hv
  · exact ins1 h dst x y imm sym hv.1.1.1.1
  · exact ins2 h dst x y imm sym hv.1.1.1.1 hv.1.1.1.2
  · exact ins3 h dst x y imm sym hv.1.1.1.1 hv.1.1.1.2 hv.1.1.2 (of_decide_eq_true hv.1.2)
  · exact ins4 h dst x y imm sym (hK sym hv.1.1.2.1) hs hv.1.1.1.2 hv.1.1.1.1
  · exact ins5 h dst x y imm sym (hK sym hv.1.1.2.1) hs hv.1.1.1.1 hv.1.1.1.2
  · exact ins6 h dst x y imm sym (hK sym hv.1.1.2.1) hs hv.1.1.1.2 hv.1.1.1.1
  · exact ins7 h dst x y imm sym (hK sym hv.1.1.2.1) hs hv.1.1.1.1 hv.1.1.1.2
  · exact ins8 h dst x y imm sym hv.1.1.1.1
  · exact ins9 h dst x y imm sym hv.1.1.1.1 hrb
  · exact ins10 h dst x y imm sym hv.1.1.1.1 hob
  · exact ins11 h dst x y imm sym
  · exact ins12 h dst x y imm sym
  · exact ins13 h dst x y imm sym (of_decide_eq_true hv.1.1.1.1)
  · exact ins14 h dst x y imm sym (of_decide_eq_true hv.1.1.1.1)
  · exact ins15 h dst x y imm sym hv.1.1.1.1 (of_decide_eq_true hv.1.1.1.2)
  · exact ins16 h dst x y imm sym (of_decide_eq_true hv.1.1.1.1)
/-- What an instruction changes of the counts. -/
theorem insR_sizes {ap : Int → Int → Int → Int × Int} {idx : ByteArray → Nat} {inp : List Int} {s s' : RS} {i : IIns} (h : insR ap idx inp s i = .ok s') : s'.read ≤ s.read + 1 ∧ s'.out.length ≤ s.out.length + 1 := by
  have key : ∀ {c : Prop} [Decidable c] {a b : Except Int RS} {P : Prop}, (if c then a else b) = .ok s' → (a = .ok s' → P) → (b = .ok s' → P) → P := fun h1 h2 h3 => by
    split at h1
    · exact h2 h1
    · exact h3 h1
  have no : ∀ {e : Int} {P : Prop}, (Except.error e : Except Int RS) = .ok s' → P := fun h => by cases h
  have yes : ∀ {t : RS}, t.read ≤ s.read + 1 ∧ t.out.length ≤ s.out.length + 1 → (Except.ok t : Except Int RS) = .ok s' → s'.read ≤ s.read + 1 ∧ s'.out.length ≤ s.out.length + 1 := fun h1 h2 => by
    injection h2 with h2
    subst h2
    exact h1
  have same : s.read ≤ s.read + 1 ∧ s.out.length ≤ s.out.length + 1 := ⟨by omega, by omega⟩
  unfold insR at h
  refine key h (yes same) fun h => key h (yes same) fun h => key h (fun h => key h no (yes same)) fun h => key h (fun h => key h no (yes same)) fun h => key h (fun h => key h no (yes same)) fun h => key h (fun h => key h no (yes same)) fun h => key h (yes ⟨Nat.le_refl _, by show s.out.length ≤ _; omega⟩) fun h => key h (yes ⟨by show s.read ≤ _; omega, by simp⟩) fun h => key h (fun h => key h no (yes same)) fun h => key h (fun h => key h no (yes same)) fun h => key h (yes same) fun h => key h (yes same) fun h => key h (yes same) fun h => key h (fun h => key h no (yes same)) (yes same)
end Go.Proofs.YtifjcknklecdbaaDoor

