/- The pure step keeps words words. -/
import Derived.Test.YtpachmkklppmjaaDoorCorQ
import Derived.IntWalk
set_option linter.unusedVariables false
set_option linter.unusedSimpArgs false
namespace Go.Proofs.YtpachmkklppmjaaDoor
open Go.RowKit

theorem W32.wrap (n : Int) : W32 (wrap32 n) := by unfold W32 wrap32; omega
theorem W32.zero : W32 0 := ⟨by omega, by omega⟩
theorem W32.bits (op : BinOp) (x y : Int) : W32 (bits op .i32 x y) := by
  unfold Go.bits
  rw [IntWalk.i32_left]
  exact W32.wrap _
theorem W32.tmod {x y : Int} (hx : W32 x) (hy : W32 y) (h0 : y ≠ 0) : W32 (x.tmod y) := by
  have h1 := Int.natAbs_tmod x y
  have h2 : x.natAbs % y.natAbs < y.natAbs := Nat.mod_lt _ (by omega)
  unfold W32 at *
  omega
theorem W32.shr {x : Int} (hx : W32 x) (k : Nat) : W32 (x / 2 ^ k) := by
  have hp : (0 : Int) < 2 ^ k := Int.pow_pos (by omega)
  generalize (2 : Int) ^ k = p at hp
  unfold W32 at *
  constructor
  · rw [Int.le_ediv_iff_mul_le hp]
    omega
  · have h3 : x / p < 2147483648 := by
      rw [Int.ediv_lt_iff_lt_mul hp]
      omega
    omega
theorem W32.ite {p : Prop} [Decidable p] {a b : Int} (ha : p → W32 a) (hb : ¬ p → W32 b) : W32 (if p then a else b) := by
  split
  · exact ha ‹_›
  · exact hb ‹_›
theorem ariV_w32 (n : Nat) {x y : Int} (hx : W32 x) (hy : W32 y) : W32 (ariV n x y) := by
  refine W32.ite (fun _ => W32.zero) (fun h => ?_)
  refine W32.ite (fun _ => W32.wrap _) fun _ => W32.ite (fun _ => W32.wrap _) fun _ => W32.ite (fun _ => W32.wrap _) fun _ => W32.ite (fun _ => W32.wrap _) fun _ => W32.ite (fun hn => W32.tmod hx hy (fun e => h ⟨.inr hn, e⟩)) fun _ =>
    W32.ite (fun _ => W32.bits _ _ _) fun _ => W32.ite (fun _ => W32.bits _ _ _) fun _ => W32.ite (fun _ => W32.bits _ _ _) fun _ => W32.ite (fun _ => W32.wrap _) fun _ => W32.ite (fun _ => hx.shr _) fun _ =>
    W32.ite (fun _ => W32.ite (fun _ => ⟨by omega, by omega⟩) fun _ => W32.zero) fun _ => W32.ite (fun _ => ⟨by omega, by omega⟩) fun _ => W32.zero
theorem w32_set {l : List Int} (h : ∀ k, W32 (l.getD k 0)) {v : Int} (hv : W32 v) (j : Nat) : ∀ k, W32 ((l.set j v).getD k 0) := by
  intro k
  rw [List.getD_eq_getElem?_getD, List.getElem?_set]
  split
  · split
    · exact hv
    · exact W32.zero
  · rw [← List.getD_eq_getElem?_getD]; exact h k
theorem w32_if {l : List Int} (h : ∀ k, W32 (l.getD k 0)) {v : Int} (hv : W32 v) (a : Nat) : ∀ k, W32 ((if a = 0 then l else l.set a v).getD k 0) := by
  split
  · exact h
  · exact w32_set h hv a

theorem ite_ok {α β : Type} {p : Prop} [Decidable p] {A B : Except α β} {o : Except α β} {Q : Prop} (ha : p → A = o → Q) (hb : ¬ p → B = o → Q) : (if p then A else B) = o → Q := by
  split
  · exact ha ‹_›
  · exact hb ‹_›

theorem ok_parts {s s' : St} {m m' : List Int} {a a' : Bool} {b b' c c' : Int} (h : (Except.ok (s, m, a, b, c) : Except Int (St × List Int × Bool × Int × Int)) = .ok (s', m', a', b', c')) : s = s' ∧ m = m' := by
  injection h with h; injection h with h1 h2; injection h2 with h2 h3; exact ⟨h1, h2⟩

theorem err_ne {x : Int} {y : St × List Int × Bool × Int × Int} (h : (Except.error x : Except Int (St × List Int × Bool × Int × Int)) = .ok y) : False := by cases h

set_option maxHeartbeats 2000000 in
theorem stepI_w32 {lk : Int} {n a b c : Nat} {i : Int} {s : St} {mem : List Int} {inp : Int} {s' : St} {mem' : List Int} {tk : Bool} {ad vl : Int} (h : stepI lk n a b c i s mem inp = .ok (s', mem', tk, ad, vl)) (hi : W32 i) (hinp : W32 inp)
    (hr : ∀ k, W32 (s.r.getD k 0)) (hd : ∀ k, W32 (s.d.getD k 0)) (hm : ∀ k, W32 (mem.getD k 0)) : (∀ k, W32 (s'.r.getD k 0)) ∧ (∀ k, W32 (s'.d.getD k 0)) ∧ (∀ k, W32 (mem'.getD k 0)) ∧ s'.d.length = s.d.length ∧ mem'.length = mem.length := by
  revert h
  unfold stepI
  simp only
  repeat' (with_reducible refine ite_ok (fun _ => ?_) (fun _ => ?_))
  all_goals intro h
  all_goals first
    | (with_reducible exact (err_ne h).elim)
    | (with_reducible obtain ⟨rfl, rfl⟩ := ok_parts h
       with_reducible first
         | exact ⟨hr, hd, hm, rfl, rfl⟩
         | exact ⟨w32_if hr (ariV_w32 _ (hr _) (hr _)) _, hd, hm, rfl, rfl⟩
         | exact ⟨w32_if hr hi _, hd, hm, rfl, rfl⟩
         | exact ⟨w32_if hr (W32.wrap _) _, hd, hm, rfl, rfl⟩
         | exact ⟨w32_if hr (W32.bits _ _ _) _, hd, hm, rfl, rfl⟩
         | exact ⟨w32_if hr (hd _) _, hd, hm, rfl, rfl⟩
         | exact ⟨w32_if hr (hm _) _, hd, hm, rfl, rfl⟩
         | exact ⟨w32_if hr hinp _, hd, hm, rfl, rfl⟩
         | exact ⟨hr, w32_set hd (hr _) _, hm, List.length_set, rfl⟩
         | exact ⟨hr, hd, w32_set hm (hr _) _, rfl, List.length_set⟩)

theorem stepP_w32 {im : Im} {t : Int} {s : St} {mem : List Int} {inp : Int → Int} {f : Ef} {s' : St} {mem' : List Int} (h : stepP im t s mem inp = .ok (f, s', mem')) (hinp : ∀ i, W32 (inp i))
    (hr : ∀ k, W32 (s.r.getD k 0)) (hd : ∀ k, W32 (s.d.getD k 0)) (hm : ∀ k, W32 (mem.getD k 0)) : (∀ k, W32 (s'.r.getD k 0)) ∧ (∀ k, W32 (s'.d.getD k 0)) ∧ (∀ k, W32 (mem'.getD k 0)) ∧ s'.d.length = s.d.length ∧ mem'.length = mem.length := by
  unfold stepP at h
  split at h
  · cases h
  · simp only at h
    split at h
    · cases h
    · split at h
      · cases h
      · rename_i hok
        have hv := (of_decide_eq_true (show decOk (im.code.getD s.pc.toNat 0) = true by simpa using hok)).1
        have hb := vld_bd hv
        have hiw : W32 (dI (im.code.getD s.pc.toNat 0)) := ⟨by omega, by omega⟩
        split at h
        · cases h
        · rename_i s2 m2 tk ad vl hs
          cases h
          exact stepI_w32 hs hiw (hinp _) hr hd hm

end Go.Proofs.YtpachmkklppmjaaDoor
