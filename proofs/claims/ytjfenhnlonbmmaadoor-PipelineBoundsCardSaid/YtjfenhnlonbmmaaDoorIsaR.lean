/- The program's and the reference's registers that are read are the same: plain lists. -/
import Derived.Test.YtjfenhnlonbmmaaDoorIsaQ
set_option linter.unusedVariables false
set_option linter.unusedSimpArgs false
namespace Go.Proofs.YtjfenhnlonbmmaaDoor
open Go.RowKit Go.Sort

theorem sortI_nil : sortI [] = [] := by simp [sortI]
theorem sortI_one (x : Int) : sortI [x] = [x] := by simp [sortI]
theorem sortI_two (x y : Int) : sortI [x, y] = if x ≤ y then [x, y] else [y, x] := by
  unfold sortI
  simp [List.mergeSort, List.MergeSort.Internal.splitInTwo, List.merge]

def srt (l : List Int) : List Int := match l with | [x, y] => if x ≤ y then [x, y] else [y, x] | l => l
theorem sortI_srt : ∀ (l : List Int), l.length ≤ 2 → sortI l = srt l
  | [], _ => sortI_nil
  | [x], _ => sortI_one x
  | [x, y], _ => sortI_two x y
  | _ :: _ :: _ :: _, h => by simp at h

theorem fr_flags : ∀ (n : Nat), n < 30 → frL.getD n [] = (if rA n then [65] else []) ++ ((if uB n then if rA n || uC n || true then [66] else [] else []) ++ (if uC n then [67] else [])) := by
  intro n hn
  have h : ∀ k : Fin 30, frL.getD k [] = (if rA k then [65] else []) ++ ((if uB k then if rA k || uC k || true then [66] else [] else []) ++ (if uC k then [67] else [])) := by decide
  exact h ⟨n, hn⟩
theorem fr_flags2 : ∀ (n : Nat), n < 30 → rA n = true → uC n = false := by
  intro n hn
  have h : ∀ k : Fin 30, rA k = true → uC k = false := by decide
  exact h ⟨n, hn⟩

def nz (l : List Int) : List Int := l.filter (· != 0)
theorem chk1 : ∀ x : Fin 16, Lib.compact (srt (nz [(x.val : Int)])) = rL true false false x.val 0 0 15 ∧ Lib.compact (srt (nz [(x.val : Int)])) = rL false true false 0 x.val 0 15 := by decide +kernel
theorem chk2 : ∀ x y : Fin 16, Lib.compact (srt (nz [(x.val : Int), (y.val : Int)])) = rL true true false x.val y.val 0 15 ∧ Lib.compact (srt (nz [(x.val : Int), (y.val : Int)])) = rL false true true 0 x.val y.val 15 := by decide +kernel

theorem rL_a (ra ub uc : Bool) (a a' b c : Int) : ∀ k, (ra = true → a = a') → rL ra ub uc a b c k = rL ra ub uc a' b c k := by
  intro k h
  cases ra
  · induction k with
    | zero => rfl
    | succ k ih => unfold rL; rw [ih]; simp [rP]
  · rw [h rfl]
theorem rL_b (ra ub uc : Bool) (a b b' c : Int) : ∀ k, (ub = true → b = b') → rL ra ub uc a b c k = rL ra ub uc a b' c k := by
  intro k h
  cases ub
  · induction k with
    | zero => rfl
    | succ k ih => unfold rL; rw [ih]; simp [rP]
  · rw [h rfl]
theorem rL_c (ra ub uc : Bool) (a b c c' : Int) : ∀ k, (uc = true → c = c') → rL ra ub uc a b c k = rL ra ub uc a b c' k := by
  intro k h
  cases uc
  · induction k with
    | zero => rfl
    | succ k ih => unfold rL; rw [ih]; simp [rP]
  · rw [h rfl]
theorem rL_none (a b c : Int) : ∀ k, rL false false false a b c k = []
  | 0 => rfl
  | k + 1 => by unfold rL; rw [rL_none a b c k]; simp [rP]

theorem to_fin (x : Int) (h : 0 ≤ x ∧ x ≤ 15) : ∃ f : Fin 16, ((f.val : Nat) : Int) = x := ⟨⟨x.toNat, by omega⟩, by show ((x.toNat : Nat) : Int) = x; omega⟩

theorem rdl_rrl (n : Nat) (a b c i : Int) : rdl n a b c i = rrl n a b c i := by
  unfold rdl rrl
  cases hv : vld n a b c i
  · simp
  · simp only [if_true]
    obtain ⟨hn, h1, h2, h3, h4, h5, h6, _, _⟩ := vld_bd hv
    obtain ⟨fa, ea⟩ := to_fin a ⟨h1, h2⟩
    obtain ⟨fb, eb⟩ := to_fin b ⟨h3, h4⟩
    obtain ⟨fc, ec⟩ := to_fin c ⟨h5, h6⟩
    have hk := fmt_kinds n hn
    rw [fr_flags n hn]
    have hf2 := fr_flags2 n hn
    rw [sortI_srt _ (by
      refine Nat.le_trans (List.length_filter_le _ _) ?_
      cases h7 : rA n <;> cases h8 : uB n <;> cases h9 : uC n <;> simp_all)]
    cases h7 : rA n <;> cases h8 : uB n <;> cases h9 : uC n
    · simp [rL_none, srt]; decide
    · exact absurd (hk.1 h9) (by simp [h8])
    · have e := (chk1 fb).2
      rw [rL_a false true false a 0 b c 15 (by simp), rL_c false true false 0 b c 0 15 (by simp), ← eb, ← e]
      rfl
    · have e := (chk2 fb fc).2
      rw [rL_a false true true a 0 b c 15 (by simp), ← eb, ← ec, ← e]
      rfl
    · have e := (chk1 fa).1
      rw [rL_b true false false a b 0 c 15 (by simp), rL_c true false false a 0 c 0 15 (by simp), ← ea, ← e]
      rfl
    · exact absurd (hk.1 h9) (by simp [h8])
    · have e := (chk2 fa fb).1
      rw [rL_c true true false a b c 0 15 (by simp), ← ea, ← eb, ← e]
      rfl
    · exact absurd (hf2 h7) (by simp [h9])

end Go.Proofs.YtjfenhnlonbmmaaDoor
