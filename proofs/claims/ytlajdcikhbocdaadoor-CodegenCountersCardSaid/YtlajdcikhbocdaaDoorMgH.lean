import Derived.Test.YtlajdcikhbocdaaDoorLivQ
import Derived.Test.YtlajdcikhbocdaaDoorIrD
import Derived.Test.YtlajdcikhbocdaaDoorMgG
import Derived.Test.YtlajdcikhbocdaaDoorIsaT
/- The allocation is valid, in plain Lean. No walk here. -/
set_option linter.unusedVariables false
set_option linter.unusedSimpArgs false
namespace Go.Proofs.YtlajdcikhbocdaaDoor
open Go.RowKit

/-- Below a color that is used every color is used. -/
def Dense (n : Nat) (out : List Int) : Prop := ∀ a, a < n → ∀ c : Nat, (c : Int) < out.getD a (-1) → ∃ b, b < n ∧ out.getD b (-1) = (c : Int)
theorem pickG_below (n : Nat) (A : Nat → Nat → Bool) (k : Int) (out : List Int) (a c : Nat) (h : (c : Int) < pickG n A k out a) : ∃ b, b < n ∧ A a b = true ∧ out.getD b (-1) = (c : Int) := by
  unfold pickG at h
  cases hf : (List.range k.toNat).find? (freeG n A out a) with
  | none => rw [hf] at h; exact absurd h (by show ¬ (c : Int) < -1; omega)
  | some d =>
    rw [hf] at h
    have hcd : c < d := by
      have h : (c : Int) < (d : Int) := h
      omega
    have h1 := (List.find?_range_eq_some.1 hf).2.2 c hcd
    have h2 : freeG n A out a c = false := by simpa using h1
    unfold freeG at h2
    obtain ⟨b, hb, hne⟩ := List.all_eq_false.1 h2
    rw [mem_nbs] at hb
    exact ⟨b, hb.1, hb.2, by simpa using hne⟩
theorem selectG_dense {n : Nat} {A : Nat → Nat → Bool} (hirr : ∀ a, A a a = false) {k : Int} : ∀ (l : List Nat) (out : List Int), out.length = n → l.Nodup → (∀ x ∈ l, x < n ∧ out.getD x (-1) = -1) → Dense n out → Dense n (selectG n A k l out)
  | [], out, _, _, _, h => h
  | a :: l, out, hlen, hn, hl, h => by
    unfold selectG
    rw [List.nodup_cons] at hn
    obtain ⟨han, hal⟩ := hl a (List.mem_cons_self ..)
    have G : ∀ b, (out.set a (pickG n A k out a)).getD b (-1) = if a = b then pickG n A k out a else out.getD b (-1) := fun b => getD_set _ _ _ _ (by omega)
    refine selectG_dense hirr l _ (by simp [hlen]) hn.2 (fun x hx => ⟨(hl x (List.mem_cons_of_mem _ hx)).1, ?_⟩) ?_
    · rw [G, if_neg (fun e : a = x => by subst e; exact hn.1 hx)]
      exact (hl x (List.mem_cons_of_mem _ hx)).2
    · intro b hb c hc
      rw [G] at hc
      by_cases e : a = b
      · rw [if_pos e] at hc
        obtain ⟨d, hd, hA, hv⟩ := pickG_below n A k out a c hc
        refine ⟨d, hd, ?_⟩
        rw [G, if_neg (fun e => by subst e; rw [hirr] at hA; cases hA)]
        exact hv
      · rw [if_neg e] at hc
        obtain ⟨d, hd, hv⟩ := h b hb c hc
        refine ⟨d, hd, ?_⟩
        rw [G, if_neg (fun e => by subst e; omega)]
        exact hv
theorem colorG_dense {n : Nat} {A : Nat → Nat → Bool} (hirr : ∀ a, A a a = false) {k : Int} : Dense n (colorG n A k) := by
  obtain ⟨h1, h2, h3⟩ := removed (n := n) (A := A) (k := k)
  have G : ∀ b, (List.replicate n (-1 : Int)).getD b (-1) = -1 := by
    intro b
    simp only [List.getD_eq_getElem?_getD, List.getElem?_replicate]
    by_cases e : b < n <;> simp [e]
  refine selectG_dense hirr _ _ (by simp) (List.pairwise_reverse.2 (h2.imp fun h => h.symm)) (fun x hx => ⟨(h3 x).1 (List.mem_reverse.1 hx), G x⟩) fun a _ c hc => ?_
  rw [G] at hc; omega
theorem nbs_lt {n : Nat} {A : Nat → Nat → Bool} (hirr : ∀ a, A a a = false) {a : Nat} (ha : a < n) : (nbs n A a).length < n := by
  have h := len_le_of_sub (a :: nbs n A a) (List.range n) (List.nodup_cons.2 ⟨fun h => (by rw [mem_nbs, hirr] at h; cases h.2), List.Nodup.sublist List.filter_sublist List.nodup_range⟩) (fun x hx => by
    rw [List.mem_range]
    rcases List.mem_cons.1 hx with rfl | h
    · exact ha
    · exact (mem_nbs.1 h).1)
  rw [List.length_cons, List.length_range] at h
  omega

/-- The number of slots. -/
theorem slN_ge (A : List Int) : ∀ k i, i < k → A.getD i (-1) + 1 ≤ slN A k
  | 0, i, h => absurd h (Nat.not_lt_zero i)
  | k + 1, i, h => by
    unfold slN
    by_cases e : i = k
    · subst e; exact Int.le_max_right _ _
    · exact Int.le_trans (slN_ge A k i (by omega)) (Int.le_max_left _ _)
theorem slN_pos (A : List Int) : ∀ k, 0 ≤ slN A k
  | 0 => Int.le_refl _
  | k + 1 => Int.le_trans (slN_pos A k) (Int.le_max_left _ _)
theorem slN_hit (A : List Int) : ∀ k, slN A k = 0 ∨ ∃ i, i < k ∧ slN A k = A.getD i (-1) + 1
  | 0 => .inl rfl
  | k + 1 => by
    unfold slN
    rcases Int.le_total (slN A k) (A.getD k (-1) + 1) with h | h
    · rw [Int.max_eq_right h]; exact .inr ⟨k, by omega, rfl⟩
    · rw [Int.max_eq_left h]
      rcases slN_hit A k with h1 | ⟨i, hi, h1⟩
      · exact .inl h1
      · exact .inr ⟨i, by omega, h1⟩

/-- What makes an allocation valid. -/
structure VaG (E : List (List Int)) (R : Nat) (P : Nat → Int × Int) (n : Int) : Prop where
  pos : 0 ≤ n
  big : n ≤ 64
  kind : ∀ a, a < R → (2 ≤ (P a).1 ∧ (P a).1 < 10 ∧ (P a).2 = -1) ∨ ((P a).1 = 0 ∧ 0 ≤ (P a).2 ∧ (P a).2 < n)
  used : ∀ c : Nat, (c : Int) < n → ∃ a, a < R ∧ (P a).1 = 0 ∧ (P a).2 = (c : Int)
  edge : ∀ r, r < R → ∀ q ∈ E.getD r [], ∃ k : Nat, q = (k : Int) ∧ k < R ∧ P r ≠ P k

theorem vaG {E : List (List Int)} {R : Nat} (hR : R ≤ 64) (hE : ∀ r, r < R → ∀ q ∈ E.getD r [], ∃ k : Nat, q = (k : Int) ∧ k < R ∧ k ≠ r) {C : List Int} {S : List Nat} {A : List Int}
    (hC : C = colorG R (adjG E) 8) (hS : S = spillN C R) (hA : A = colorG S.length (adjG (amongE E S)) S.length) : VaG E R (placesG C S A R) (slN A S.length) := by
  have hSn : S.Nodup := by rw [hS]; exact spillN_nodup C R
  have hSl : S.length ≤ R := by rw [hS]; exact spillN_len C R
  have hSm : ∀ a, a ∈ S ↔ a < R ∧ C.getD a (-1) < 0 := fun a => by rw [hS]; exact mem_spillN
  have hAf : ∀ i, i < S.length → 0 ≤ A.getD i (-1) ∧ A.getD i (-1) < S.length := fun i hi => by
    have h := colorG_few (n := S.length) (A := adjG (amongE E S)) (adj_sym _) (adj_irr _) (k := S.length) (fun a ha => nbs_lt (adj_irr _) ha) hi
    rw [← hA] at h; exact h
  have hCr := (colorG_ok (n := R) (A := adjG E) (k := 8) (adj_sym E) (adj_irr E))
  rw [← hC] at hCr
  have hAr := (colorG_ok (n := S.length) (A := adjG (amongE E S)) (k := S.length) (adj_sym _) (adj_irr _))
  rw [← hA] at hAr
  have hP : ∀ a, a < R → placesG C S A R a = if a ∈ S then (0, A.getD (S.idxOf a) (-1)) else (2 + C.getD a (-1), -1) := fun a ha => by
    unfold placesG
    rw [pl2_at _ _ _ hSn _ _ (Nat.le_refl _), List.take_length, pl1_at]
    by_cases h : a ∈ S
    · rw [if_pos h, if_pos h]
    · have h2 := mt (hSm a).2 h
      have h3 : a < R ∧ 0 ≤ C.getD a (-1) := ⟨ha, by omega⟩
      rw [if_neg h, if_neg h, if_pos h3]
  have hix : ∀ a, a ∈ S → S.idxOf a < S.length ∧ S.getD (S.idxOf a) 0 = a := fun a h => by
    have hl := List.idxOf_lt_length_of_mem h
    exact ⟨hl, by rw [List.getD_eq_getElem?_getD, List.getElem?_eq_getElem hl]; simp⟩
  refine ⟨slN_pos _ _, ?_, fun a ha => ?_, fun c hc => ?_, fun r hr q hq => ?_⟩
  · rcases slN_hit A S.length with h | ⟨i, hi, h⟩
    · omega
    · have := hAf i hi; omega
  · rw [hP a ha]
    by_cases h : a ∈ S
    · rw [if_pos h]
      have hi := (hix a h).1
      have h2 := slN_ge A S.length _ hi
      have := hAf _ hi
      exact .inr ⟨rfl, this.1, by show A.getD (S.idxOf a) (-1) < _; omega⟩
    · rw [if_neg h]
      have h2 := mt (hSm a).2 h
      have := hCr.rng a ha
      exact .inl ⟨by show 2 ≤ 2 + C.getD a (-1); omega, by show 2 + C.getD a (-1) < 10; omega, rfl⟩
  · have hd : Dense S.length A := by rw [hA]; exact colorG_dense (adj_irr _)
    have hb : ∃ b, b < S.length ∧ A.getD b (-1) = (c : Int) := by
      rcases slN_hit A S.length with h | ⟨i, hi, h⟩
      · omega
      · by_cases e : (c : Int) = A.getD i (-1)
        · exact ⟨i, hi, e.symm⟩
        · exact hd i hi c (by omega)
    obtain ⟨b, hb, hv⟩ := hb
    have hm : S[b] ∈ S := List.getElem_mem hb
    refine ⟨S[b], ((hSm _).1 hm).1, ?_⟩
    rw [hP _ ((hSm _).1 hm).1, if_pos hm, List.Nodup.idxOf_getElem hSn]
    exact ⟨rfl, hv⟩
  · obtain ⟨k, rfl, hk, hkr⟩ := hE r hr q hq
    refine ⟨k, rfl, hk, ?_⟩
    have hadj : adjG E r k = true := by
      have : adjG E r k = (r != k && ((E.getD r []).contains (k : Int) || (E.getD k []).contains (r : Int))) := rfl
      rw [this]
      simp only [Bool.and_eq_true, Bool.or_eq_true, bne_iff_ne]
      exact ⟨fun e => hkr e.symm, .inl (List.contains_iff_mem.2 hq)⟩
    rw [hP r hr, hP k hk]
    by_cases h1 : r ∈ S
    · rw [if_pos h1]
      by_cases h2 : k ∈ S
      · rw [if_pos h2]
        obtain ⟨i1, j1⟩ := hix r h1
        obtain ⟨i2, j2⟩ := hix k h2
        have ha := amongE_adj E S hSn _ _ i1 i2
        rw [j1, j2, hadj] at ha
        have hp := hAr.prp _ _ i1 i2 ha (hAf _ i1).1
        intro e
        injection e with _ e
        exact hp e
      · rw [if_neg h2]
        have := mt (hSm k).2 h2
        intro e
        injection e with e _
        omega
    · rw [if_neg h1]
      have h3 := mt (hSm r).2 h1
      by_cases h2 : k ∈ S
      · rw [if_pos h2]
        intro e
        injection e with e _
        omega
      · rw [if_neg h2]
        have hp := hCr.prp r k hr hk hadj (by omega)
        intro e
        injection e with e _
        omega
/-- No slots where every node has few neighbors. -/
theorem slots_none {E : List (List Int)} {R : Nat} {C : List Int} {S : List Nat} {A : List Int} (hC : C = colorG R (adjG E) 8) (hS : S = spillN C R) (hf : ∀ a, a < R → (nbs R (adjG E) a).length < 8) : slN A S.length = 0 := by
  have h0 : S = [] := by
    rw [hS]
    refine List.eq_nil_iff_forall_not_mem.2 fun a h => ?_
    obtain ⟨ha, hn⟩ := mem_spillN.1 h
    have := colorG_few (n := R) (A := adjG E) (adj_sym E) (adj_irr E) (k := 8) hf ha
    rw [show ((8 : Nat) : Int) = 8 from rfl, ← hC] at this
    omega
  rw [h0]; rfl
end Go.Proofs.YtlajdcikhbocdaaDoor

/- What the generator's code holds, in plain Lean: its instructions, each with what is noted about it. No walk here. -/
set_option linter.unusedVariables false
set_option linter.unusedSimpArgs false
namespace Go.Proofs.YtlajdcikhbocdaaDoor
open Go.RowKit

/-- A valid function is well formed. -/
theorem okIns_of_v {R : Int} {K : Kinds} {i : IIns} (h : vIns R K i = true) : okIns R i = true := by
  obtain ⟨op, dst, x, y, imm, sym⟩ := i
  have hop : op = 1 ∨ op = 2 ∨ op = 3 ∨ op = 4 ∨ op = 5 ∨ op = 6 ∨ op = 7 ∨ op = 8 ∨ op = 9 ∨ op = 10 ∨ op = 11 ∨ op = 12 ∨ op = 13 ∨ op = 14 ∨ op = 15 ∨ op = 16 ∨ (op ≠ 1 ∧ op ≠ 2 ∧ op ≠ 3 ∧ ¬ (op = 4 ∨ op = 6) ∧ ¬ (op = 5 ∨ op = 7) ∧ op ≠ 8 ∧ op ≠ 9 ∧ op ≠ 10 ∧ ¬ (op = 11 ∨ op = 12) ∧ ¬ (op = 13 ∨ op = 14) ∧ op ≠ 15 ∧ op ≠ 16) := by omega
  unfold vIns at h
  simp only [] at h
  rcases hop with rfl | rfl | rfl | rfl | rfl | rfl | rfl | rfl | rfl | rfl | rfl | rfl | rfl | rfl | rfl | rfl | ⟨h1, h2, h3, h4, h5, h8, h9, h10, h11, h13, h15, h16⟩
  all_goals (try (
    simp only [Nat.reduceEqDiff, if_true, if_false, or_false, false_or, or_true, true_or, or_self, Bool.and_eq_true] at h
    simp [okIns, usesI, hasDef, h]
    done))
  rw [if_neg h1, if_neg h2, if_neg h3, if_neg h4, if_neg h5, if_neg h8, if_neg h9, if_neg h10, if_neg h11, if_neg h13, if_neg h15, if_neg h16] at h
  cases h
theorem wf_of_v {R : Int} {A S : List Arr} {bs : List IBlk} (h : vFun R A S bs = true) : wfF R bs = true := by
  obtain ⟨h0, h1, _, _, _, h5⟩ := (vFun_iff R A S bs).1 h
  refine wf_yes (fun e => h0 (List.length_eq_zero_iff.1 e)) h1 fun k hk => ?_
  obtain ⟨hi, he⟩ := (vBlk_iff _ _ _ _).1 (h5 k hk)
  generalize bs.getD k default = b at hi he
  have hall : b.code.all (okIns R) = true := all_getD.2 fun j hj => okIns_of_v (hi j hj)
  unfold okBlk
  rw [hall]
  unfold vEnd at he
  unfold succI
  repeat' split at he
  all_goals simp_all
  all_goals (try split)
  all_goals simp_all

/-- What is noted about an instruction: nothing, a reference, a branch to a block. -/
inductive Tg
  | p
  | r (nm : ByteArray)
  | b (k : Int)
abbrev TI := GI × Tg
def add1 (g : Gen) (x : TI) : Gen := match x.2 with
  | .p => emitG [x.1] g
  | .r nm => referG x.1 nm g
  | .b k => jumpG x.1 k g
def addT (l : List TI) (g : Gen) : Gen := l.foldl add1 g
def pT (l : List GI) : List TI := l.map fun i => (i, .p)
theorem addT_app (l t : List TI) (g : Gen) : addT (l ++ t) g = addT t (addT l g) := by unfold addT; rw [List.foldl_append]
theorem emit_add : ∀ (l : List GI) (g : Gen), emitG l g = addT (pT l) g
  | [], g => by show { g with code := g.code ++ [] } = g; rw [List.append_nil]
  | i :: l, g => by
    show _ = addT (pT l) (emitG [i] g)
    rw [← emit_add l]
    show Gen.mk (g.code ++ i :: l) _ _ _ = Gen.mk ((g.code ++ [i]) ++ l) _ _ _
    rw [List.append_assoc]; rfl
def readT (c : Cfg) (v scr : Int) : Int × List TI := if (placeG c v).1 ≠ 0 then ((placeG c v).1, []) else (scr, [(⟨18, scr, 0, 0, c.sp + (placeG c v).2⟩, .p)])
def writeT (c : Cfg) (v : Int) (set : Int → List TI) : List TI := if (placeG c v).1 ≠ 0 then set (placeG c v).1 else set 1 ++ [(⟨19, 1, 0, 0, c.sp + (placeG c v).2⟩, .p)]
theorem read_T (c : Cfg) (v scr : Int) (g : Gen) : readG c v scr g = ((readT c v scr).1, addT (readT c v scr).2 g) := by
  unfold readG readT
  split <;> rfl
theorem write_T (c : Cfg) (v : Int) (set : Int → Gen → Gen) (st : Int → List TI) (hs : ∀ r g, set r g = addT (st r) g) (g : Gen) : writeG c v set g = addT (writeT c v st) g := by
  unfold writeG writeT
  split
  · rw [hs]
  · rw [hs, addT_app]; rfl
theorem write_E (c : Cfg) (v : Int) (f : Int → List GI) (g : Gen) : writeG c v (fun r => emitG (f r)) g = addT (writeT c v fun r => pT (f r)) g := write_T c v _ _ (fun r g => emit_add (f r) g) g
def insT (c : Cfg) (i : IIns) : List TI :=
  if i.op = 1 then writeT c i.dst (fun r => pT (constG r i.imm))
  else if i.op = 2 then
    if placeG c i.dst = placeG c i.x then []
    else (readT c i.x 1).2 ++ writeT c i.dst (fun r => if r ≠ (readT c i.x 1).1 then pT [⟨15, r, (readT c i.x 1).1, 0, 0⟩] else [])
  else if i.op = 3 then (readT c i.x 1).2 ++ ((readT c i.y 14).2 ++ writeT c i.dst (fun r => pT (operG i.imm.toNat r (readT c i.x 1).1 (readT c i.y 14).1)))
  else if i.op = 4 then (readT c i.x 1).2 ++ writeT c i.dst (fun r => pT [⟨18, r, (readT c i.x 1).1, 0, c.ar i.sym⟩])
  else if i.op = 6 then (readT c i.x 1).2 ++ writeT c i.dst (fun r => [(⟨20, r, (readT c i.x 1).1, 0, 0⟩, .r i.sym)])
  else if i.op = 5 ∨ i.op = 7 then
    (readT c i.x 1).2 ++ ((readT c i.y 14).2 ++ (if i.op = 5 then pT [⟨19, (readT c i.y 14).1, (readT c i.x 1).1, 0, c.ar i.sym⟩] else [(⟨21, (readT c i.y 14).1, (readT c i.x 1).1, 0, 0⟩, .r i.sym)]))
  else if i.op = 8 then (readT c i.x 1).2 ++ pT [⟨25, (readT c i.x 1).1, 0, 0, i.imm⟩]
  else if i.op = 9 then writeT c i.dst (fun r => pT [⟨26, r, 0, 0, i.imm⟩])
  else if i.op = 10 then (readT c i.x 1).2 ++ pT [⟨27, (readT c i.x 1).1, 0, 0, i.imm⟩]
  else if i.op = 11 then [(⟨28, 0, 0, 0, 0⟩, .r i.sym)]
  else if i.op = 12 then [(⟨29, 0, 0, 0, 0⟩, .r i.sym)]
  else if i.op = 13 then pT [⟨14, 10 + i.imm, 0, 0, 0⟩]
  else if i.op = 14 then pT [⟨15, 10 + i.imm, 10 + i.imm, 0, 1⟩]
  else if i.op = 15 then writeT c i.dst (fun r => pT [⟨15, r, 10 + i.imm, 0, 0⟩])
  else if i.op = 16 then pT [⟨25, 10 + i.x, 0, 0, i.imm⟩]
  else []
theorem ins_T (c : Cfg) (i : IIns) (g : Gen) : insG c i g = addT (insT c i) g := by
  unfold insG insT
  simp only [read_T]
  by_cases h1 : i.op = 1
  · simp only [if_pos h1]; exact write_E c _ _ g
  simp only [if_neg h1]
  by_cases h2 : i.op = 2
  · simp only [if_pos h2]
    split
    · rfl
    · rw [addT_app]
      refine write_T c _ _ _ (fun r g => ?_) _
      split
      · exact emit_add _ g
      · rfl
  simp only [if_neg h2]
  by_cases h3 : i.op = 3
  · simp only [if_pos h3, addT_app]
    exact write_E c _ _ _
  simp only [if_neg h3]
  by_cases h4 : i.op = 4
  · simp only [if_pos h4, addT_app]
    exact write_E c _ _ _
  simp only [if_neg h4]
  by_cases h6 : i.op = 6
  · simp only [if_pos h6, addT_app]
    refine write_T c _ _ _ (fun r g => ?_) _
    rfl
  simp only [if_neg h6]
  by_cases h57 : i.op = 5 ∨ i.op = 7
  · simp only [if_pos h57, addT_app]
    split
    · exact emit_add _ _
    · rfl
  simp only [if_neg h57]
  by_cases h8 : i.op = 8
  · simp only [if_pos h8, addT_app]; exact emit_add _ _
  simp only [if_neg h8]
  by_cases h9 : i.op = 9
  · simp only [if_pos h9]; exact write_E c _ _ g
  simp only [if_neg h9]
  by_cases h10 : i.op = 10
  · simp only [if_pos h10, addT_app]; exact emit_add _ _
  simp only [if_neg h10]
  by_cases h11 : i.op = 11
  · simp only [if_pos h11]; rfl
  simp only [if_neg h11]
  by_cases h12 : i.op = 12
  · simp only [if_pos h12]; rfl
  simp only [if_neg h12]
  by_cases h13 : i.op = 13
  · simp only [if_pos h13]; exact emit_add _ g
  simp only [if_neg h13]
  by_cases h14 : i.op = 14
  · simp only [if_pos h14]; exact emit_add _ g
  simp only [if_neg h14]
  by_cases h15 : i.op = 15
  · simp only [if_pos h15]; exact write_E c _ _ g
  simp only [if_neg h15]
  split
  · exact emit_add _ g
  · rfl
def endT (c : Cfg) (b : IBlk) (next : Int) : List TI :=
  if b.kind = 3 then pT [⟨1, 0, 0, 0, 0⟩]
  else if b.kind = 2 ∧ b.to ≠ b.els then
    (readT c b.x 1).2 ++ (if b.to = next then [(⟨22, (readT c b.x 1).1, 0, 0, 0⟩, .b b.els)]
      else (⟨23, (readT c b.x 1).1, 0, 0, 0⟩, .b b.to) :: (if b.els ≠ next then [(⟨24, 0, 0, 0, 0⟩, .b b.els)] else []))
  else if b.to ≠ next then [(⟨24, 0, 0, 0, 0⟩, .b b.to)]
  else []
theorem end_T (c : Cfg) (b : IBlk) (next : Int) (g : Gen) : endG c b next g = addT (endT c b next) g := by
  unfold endG endT
  simp only [read_T]
  split
  · exact emit_add _ g
  split
  · rw [addT_app]
    split
    · rfl
    · split <;> rfl
  split <;> rfl
def blkT (c : Cfg) (b : IBlk) (k : Nat) : List TI := b.code.flatMap (insT c) ++ endT c b ((k : Int) + 1)
theorem code_T (c : Cfg) : ∀ (l : List IIns) (g : Gen), codeG c l g = addT (l.flatMap (insT c)) g
  | [], g => rfl
  | i :: l, g => by
    show codeG c l (insG c i g) = _
    rw [code_T c l, ins_T, List.flatMap_cons, addT_app]
theorem blk_T (c : Cfg) (b : IBlk) (k : Nat) (g : Gen) : blkG c b k g = addT (blkT c b k) { g with starts := g.starts ++ [(g.code.length : Int)] } := by
  unfold blkG blkT
  rw [code_T, end_T, addT_app]

/-- The fields behind a list of tagged instructions. -/
theorem addT_code : ∀ (l : List TI) (g : Gen), (addT l g).code = g.code ++ l.map Prod.fst
  | [], g => by simp [addT]
  | x :: l, g => by
    show (addT l (add1 g x)).code = _
    rw [addT_code l]
    have : (add1 g x).code = g.code ++ [x.1] := by unfold add1; split <;> rfl
    rw [this]; simp
theorem addT_starts : ∀ (l : List TI) (g : Gen), (addT l g).starts = g.starts
  | [], g => rfl
  | x :: l, g => by
    show (addT l (add1 g x)).starts = _
    rw [addT_starts l]
    unfold add1; split <;> rfl
end Go.Proofs.YtlajdcikhbocdaaDoor

/- The generator's code is valid, in plain Lean. No walk here. -/
set_option linter.unusedVariables false
set_option linter.unusedSimpArgs false
namespace Go.Proofs.YtlajdcikhbocdaaDoor
open Go.RowKit

def vG (i : GI) : Bool := vld i.op i.a i.b i.c i.imm
def refO (n : Nat) : Bool := decide (n = 20 ∨ n = 21 ∨ n = 28 ∨ n = 29)
def lockO (n : Nat) : Bool := decide (n = 28 ∨ n = 29)
def brO (n : Nat) : Bool := decide (n = 22 ∨ n = 23 ∨ n = 24)
theorem vG_of {n : Nat} {a b c i lo hi : Int} {ua ub uc ui : Bool} (hn : n < 30) (e : uA n = ua ∧ uB n = ub ∧ uC n = uc ∧ uI n = ui) (e5 : flo n = lo ∧ fhi n = hi)
    (ha : 0 ≤ a ∧ a ≤ if ua then 15 else 0) (hb : 0 ≤ b ∧ b ≤ if ub then 15 else 0) (hc : 0 ≤ c ∧ c ≤ if uc then 15 else 0) (hi' : (if ui then lo else 0) ≤ i ∧ i ≤ if ui then hi else 0) : vG ⟨n, a, b, c, i⟩ = true := by
  obtain ⟨e1, e2, e3, e4⟩ := e
  show vld n a b c i = true
  unfold vld
  rw [e1, e2, e3, e4, e5.1, e5.2, decide_eq_true hn, Bool.true_and]
  exact decide_eq_true ⟨ha, hb, hc, hi'⟩
theorem vG_abc {n : Nat} {a b c : Int} (hn : 2 ≤ n ∧ n ≤ 13) (ha : 0 ≤ a ∧ a ≤ 15) (hb : 0 ≤ b ∧ b ≤ 15) (hc : 0 ≤ c ∧ c ≤ 15) : vG ⟨n, a, b, c, 0⟩ = true := by
  have h : n = 2 ∨ n = 3 ∨ n = 4 ∨ n = 5 ∨ n = 6 ∨ n = 7 ∨ n = 8 ∨ n = 9 ∨ n = 10 ∨ n = 11 ∨ n = 12 ∨ n = 13 := by omega
  rcases h with rfl | rfl | rfl | rfl | rfl | rfl | rfl | rfl | rfl | rfl | rfl | rfl <;> exact vG_of (by decide) ⟨rfl, rfl, rfl, rfl⟩ ⟨rfl, rfl⟩ ha hb hc (by decide)
theorem vG_abi {n : Nat} {a b i lo hi : Int} (hn : n < 30) (e : uA n = true ∧ uB n = true ∧ uC n = false ∧ uI n = true) (e5 : flo n = lo ∧ fhi n = hi) (ha : 0 ≤ a ∧ a ≤ 15) (hb : 0 ≤ b ∧ b ≤ 15) (hi' : lo ≤ i ∧ i ≤ hi) : vG ⟨n, a, b, 0, i⟩ = true :=
  vG_of hn e e5 ha hb (by decide) hi'
theorem vG_ai {n : Nat} {a i lo hi : Int} (hn : n < 30) (e : uA n = true ∧ uB n = false ∧ uC n = false ∧ uI n = true) (e5 : flo n = lo ∧ fhi n = hi) (ha : 0 ≤ a ∧ a ≤ 15) (hi' : lo ≤ i ∧ i ≤ hi) : vG ⟨n, a, 0, 0, i⟩ = true :=
  vG_of hn e e5 ha (by decide) (by decide) hi'
theorem vG_i {n : Nat} {i lo hi : Int} (hn : n < 30) (e : uA n = false ∧ uB n = false ∧ uC n = false ∧ uI n = true) (e5 : flo n = lo ∧ fhi n = hi) (hi' : lo ≤ i ∧ i ≤ hi) : vG ⟨n, 0, 0, 0, i⟩ = true :=
  vG_of hn e e5 (by decide) (by decide) (by decide) hi'
theorem vG_halt : vG ⟨1, 0, 0, 0, 0⟩ = true := vG_of (by decide) ⟨rfl, rfl, rfl, rfl⟩ ⟨rfl, rfl⟩ (by decide) (by decide) (by decide) (by decide)

def okT (nb : Nat) (x : TI) : Bool := vG x.1 && match x.2 with
  | .p => !refO x.1.op && !brO x.1.op
  | .r _ => refO x.1.op && !brO x.1.op
  | .b k => brO x.1.op && !refO x.1.op && okR nb k
def AllT (nb : Nat) (l : List TI) : Prop := ∀ x ∈ l, okT nb x = true
theorem okT_p {nb : Nat} {i : GI} (h : vG i = true) (h1 : refO i.op = false) (h2 : brO i.op = false) : okT nb (i, .p) = true := by
  unfold okT
  simp [h, h1, h2]
theorem okT_r {nb : Nat} {i : GI} {nm : ByteArray} (h : vG i = true) (h1 : refO i.op = true) (h2 : brO i.op = false) : okT nb (i, .r nm) = true := by
  unfold okT
  simp [h, h1, h2]
theorem okT_b {nb : Nat} {i : GI} {k : Int} (h : vG i = true) (h1 : brO i.op = true) (h2 : refO i.op = false) (h3 : okR nb k = true) : okT nb (i, .b k) = true := by
  unfold okT
  simp [h, h1, h2, h3]
theorem AllT.nil (nb : Nat) : AllT nb [] := fun x h => by cases h
theorem AllT.cons {nb : Nat} {x : TI} {l : List TI} (h : okT nb x = true) (k : AllT nb l) : AllT nb (x :: l) := fun y hy => by
  rcases List.mem_cons.1 hy with rfl | hy
  · exact h
  · exact k y hy
theorem AllT.app {nb : Nat} {l t : List TI} (h : AllT nb l) (k : AllT nb t) : AllT nb (l ++ t) := fun y hy => by
  rcases List.mem_append.1 hy with hy | hy
  · exact h y hy
  · exact k y hy
theorem AllT.one {nb : Nat} {x : TI} (h : okT nb x = true) : AllT nb [x] := AllT.cons h (AllT.nil nb)

/-- What places there are. -/
structure PlOk (c : Cfg) (R : Int) : Prop where
  pl : ∀ v, okR R v = true → (2 ≤ (placeG c v).1 ∧ (placeG c v).1 ≤ 9) ∨ ((placeG c v).1 = 0 ∧ 0 ≤ (placeG c v).2 ∧ (placeG c v).2 < 64)
  sp : 0 ≤ c.sp ∧ c.sp ≤ 128
  ar : ∀ s, 0 ≤ c.ar s ∧ c.ar s ≤ 128
/-- What is asked of a piece of code: it is valid, short, the operations and the writes of counters in it. -/
def keyO (n : Nat) : Bool := decide (n = 1 ∨ n = 26 ∨ n = 27 ∨ n = 28 ∨ n = 29)
def pC (i : GI) : Bool := (fwr i.op || decide (i.op = 25)) && decide (10 ≤ i.a ∧ i.a ≤ 13)
structure Pc (nb : Nat) (l : List TI) (n : Nat) (o : List Nat) (cs : List GI) : Prop where
  all : AllT nb l
  len : l.length ≤ n
  op : (l.map fun x => x.1.op).filter keyO = o
  ct : (l.map Prod.fst).filter pC = cs
theorem Pc.nil (nb : Nat) : Pc nb [] 0 [] [] := ⟨AllT.nil nb, Nat.le_refl _, rfl, rfl⟩
theorem Pc.app {nb : Nat} {l t : List TI} {n m : Nat} {o p : List Nat} {cs ds : List GI} (h : Pc nb l n o cs) (k : Pc nb t m p ds) : Pc nb (l ++ t) (n + m) (o ++ p) (cs ++ ds) := by
  refine ⟨h.all.app k.all, by rw [List.length_append]; exact Nat.add_le_add h.len k.len, ?_, ?_⟩
  · rw [List.map_append, List.filter_append, h.op, k.op]
  · rw [List.map_append, List.filter_append, h.ct, k.ct]
theorem Pc.le {nb : Nat} {l : List TI} {n m : Nat} {o : List Nat} {cs : List GI} (h : Pc nb l n o cs) (hm : n ≤ m) : Pc nb l m o cs := ⟨h.all, Nat.le_trans h.len hm, h.op, h.ct⟩
/-- One instruction of no such kind. -/
theorem Pc.one {nb : Nat} {x : TI} (h : okT nb x = true) (hk : keyO x.1.op = false) (hc : pC x.1 = false) : Pc nb [x] 1 [] [] :=
  ⟨AllT.one h, Nat.le_refl _, by simp [hk], by simp [hc]⟩
theorem Pc.oneO {nb : Nat} {x : TI} (h : okT nb x = true) (hk : keyO x.1.op = true) (hc : pC x.1 = false) : Pc nb [x] 1 [x.1.op] [] :=
  ⟨AllT.one h, Nat.le_refl _, by simp [hk], by simp [hc]⟩
theorem Pc.oneC {nb : Nat} {x : TI} (h : okT nb x = true) (hk : keyO x.1.op = false) (hc : pC x.1 = true) : Pc nb [x] 1 [] [x.1] :=
  ⟨AllT.one h, Nat.le_refl _, by simp [hk], by simp [hc]⟩
theorem pC_no {n : Nat} {a b c i : Int} (h : a < 10 ∨ 13 < a) : pC ⟨n, a, b, c, i⟩ = false := by
  unfold pC
  rw [decide_eq_false (show ¬ (10 ≤ a ∧ a ≤ 13) by omega), Bool.and_false]
theorem pC_op {n : Nat} {a b c i : Int} (h : fwr n = false) (h2 : n ≠ 25) : pC ⟨n, a, b, c, i⟩ = false := by
  unfold pC
  simp [h, h2]
section
variable {c : Cfg} {R : Int} {nb : Nat}
theorem read_pc (hp : PlOk c R) {v : Int} (hv : okR R v = true) {scr : Int} (hs : scr = 1 ∨ scr = 14) : Pc nb (readT c v scr).2 1 [] [] ∧ 1 ≤ (readT c v scr).1 ∧ ((readT c v scr).1 ≤ 9 ∨ (readT c v scr).1 = 14) := by
  have h := hp.pl v hv
  have hsp := hp.sp
  unfold readT
  split
  · refine ⟨(Pc.nil nb).le (by decide), ?_⟩
    show 1 ≤ (placeG c v).1 ∧ _
    omega
  · refine ⟨Pc.one (okT_p (vG_abi (by decide) ⟨rfl, rfl, rfl, rfl⟩ ⟨rfl, rfl⟩ (by omega) (by omega) (by show -131072 ≤ _ ∧ _ ≤ 131071; omega)) rfl rfl) rfl (pC_no (by omega)), ?_⟩
    show 1 ≤ scr ∧ (scr ≤ 9 ∨ scr = 14)
    omega
theorem write_pc (hp : PlOk c R) {v : Int} (hv : okR R v = true) {st : Int → List TI} {n : Nat} {o : List Nat} (hs : ∀ r, 1 ≤ r → r ≤ 9 → Pc nb (st r) n o []) : Pc nb (writeT c v st) (n + 1) o [] := by
  have h := hp.pl v hv
  have hsp := hp.sp
  unfold writeT
  split
  · exact (hs _ (by omega) (by omega)).le (by omega)
  · have := (hs 1 (by decide) (by decide)).app (Pc.one (nb := nb) (x := (⟨19, 1, 0, 0, c.sp + (placeG c v).2⟩, .p)) (okT_p (vG_abi (by decide) ⟨rfl, rfl, rfl, rfl⟩ ⟨rfl, rfl⟩ (by decide) (by decide) (by show -131072 ≤ _ ∧ _ ≤ 131071; omega)) rfl rfl) rfl (pC_op rfl (by decide)))
    rw [List.append_nil, List.append_nil] at this
    exact this
theorem const_pc {r n : Int} (hr : 1 ≤ r ∧ r ≤ 9) (hn : -2147483648 ≤ n ∧ n ≤ 2147483647) : Pc nb (pT (constG r n)) 3 [] [] := by
  unfold constG
  rw [if_neg (by omega)]
  split
  · exact (Pc.one (okT_p (vG_ai (by decide) ⟨rfl, rfl, rfl, rfl⟩ ⟨rfl, rfl⟩ (by omega) (by show -131072 ≤ _ ∧ _ ≤ 131071; omega)) rfl rfl) rfl (pC_no (by omega))).le (by decide)
  · refine (Pc.app (l := [_]) (n := 1) (o := []) (cs := []) ?_ (Pc.app (l := [_]) (n := 1) (o := []) (cs := []) ?_ ?_) : Pc nb _ (1 + (1 + 1)) _ _)
    · exact Pc.one (okT_p (vG_ai (by decide) ⟨rfl, rfl, rfl, rfl⟩ ⟨rfl, rfl⟩ (by omega) (by show -131072 ≤ _ ∧ _ ≤ 131071; omega)) rfl rfl) rfl (pC_no (by omega))
    · exact Pc.one (okT_p (vG_abi (by decide) ⟨rfl, rfl, rfl, rfl⟩ ⟨rfl, rfl⟩ (by omega) (by omega) (by decide)) rfl rfl) rfl (pC_no (by omega))
    · exact Pc.one (okT_p (vG_abi (by decide) ⟨rfl, rfl, rfl, rfl⟩ ⟨rfl, rfl⟩ (by omega) (by omega) (by show 0 ≤ _ ∧ _ ≤ 16383; omega)) rfl rfl) rfl (pC_no (by omega))
theorem three_pc {n : Nat} {a b d : Int} (hn : 2 ≤ n ∧ n ≤ 13) (ha : 1 ≤ a ∧ (a ≤ 9 ∨ a = 14 ∨ a = 15)) (hb : 0 ≤ b ∧ b ≤ 15) (hd : 0 ≤ d ∧ d ≤ 15) : Pc nb (pT [⟨n, a, b, d, 0⟩]) 1 [] [] :=
  Pc.one (okT_p (vG_abc hn (by omega) hb hd) (by unfold refO; exact decide_eq_false (show ¬ (n = 20 ∨ n = 21 ∨ n = 28 ∨ n = 29) by omega)) (by unfold brO; exact decide_eq_false (show ¬ (n = 22 ∨ n = 23 ∨ n = 24) by omega))) (by unfold keyO; exact decide_eq_false (show ¬ (n = 1 ∨ n = 26 ∨ n = 27 ∨ n = 28 ∨ n = 29) by omega)) (pC_no (by omega))
theorem three_app {l : List GI} {x : GI} {n : Nat} (h : Pc nb (pT [x]) 1 [] []) (k : Pc nb (pT l) n [] []) : Pc nb (pT (x :: l)) (1 + n) [] [] := h.app k
theorem oper_pc {k : Nat} {r x y : Int} (hk : 6 ≤ k ∧ k ≤ 23) (hr : 1 ≤ r ∧ r ≤ 9) (hx : 0 ≤ x ∧ x ≤ 15) (hy : 0 ≤ y ∧ y ≤ 15) : Pc nb (pT (operG k r x y)) 4 [] [] := by
  unfold operG
  split
  · exact (three_pc (by omega) (by omega) hx hy).le (by decide)
  split
  · exact (three_app (three_pc (by omega) (by omega) hx hy) (three_pc (by omega) (by omega) (by omega) (by omega))).le (by decide)
  split
  · exact (three_pc (by omega) (by omega) hx hy).le (by decide)
  split
  · exact (three_pc (by omega) (by omega) hy hx).le (by decide)
  split
  · exact (three_app (three_pc (by omega) (by omega) hy hx) (three_pc (by omega) (by omega) (by omega) (by omega))).le (by decide)
  split
  · exact (three_app (three_pc (by omega) (by omega) hx hy) (three_pc (by omega) (by omega) (by omega) (by omega))).le (by decide)
  split
  · exact three_app (three_pc (by omega) (by omega) hx (by omega)) (three_app (three_pc (by omega) (by omega) hy (by omega)) (three_app (three_pc (by omega) (by omega) (by omega) (by omega)) (three_pc (by omega) (by omega) (by omega) (by omega))))
  split
  · exact (three_app (three_pc (by omega) (by omega) hx hy) (three_app (three_pc (by omega) (by omega) (by omega) (by omega)) (three_pc (by omega) (by omega) (by omega) (by omega)))).le (by decide)
  · omega
/-- The operations that are counted, the writes of counters, of an instruction. -/
def oT (n : Nat) : List Nat := if n = 9 then [26] else if n = 10 then [27] else if n = 11 then [28] else if n = 12 then [29] else []
def cT (i : IIns) : List GI := if i.op = 13 then [⟨14, 10 + i.imm, 0, 0, 0⟩] else if i.op = 14 then [⟨15, 10 + i.imm, 10 + i.imm, 0, 1⟩] else if i.op = 16 then [⟨25, 10 + i.x, 0, 0, i.imm⟩] else []
theorem okR_of {n r : Int} (h : okR n r = true) : 0 ≤ r ∧ r < n := by
  unfold okR at h
  exact of_decide_eq_true h
theorem bw_of {n lo hi : Int} (h : bw n lo hi = true) : lo ≤ n ∧ n ≤ hi := by
  unfold bw at h
  exact of_decide_eq_true h
theorem ins_pc (hp : PlOk c R) {K : Kinds} {i : IIns} (h : vIns R K i = true) : Pc nb (insT c i) 7 (oT i.op) (cT i) := by
  have har := hp.ar i.sym
  unfold vIns at h
  unfold insT oT cT
  simp only [] at h
  by_cases h1 : i.op = 1
  · simp only [h1, if_true, Bool.and_eq_true, Nat.reduceEqDiff, if_false] at h ⊢
    exact (write_pc hp h.1.1.1.1 fun r hr1 hr2 => const_pc ⟨hr1, hr2⟩ (bw_of h.1.1.1.2)).le (by decide)
  rw [if_neg h1] at h
  rw [if_neg h1]
  by_cases h2 : i.op = 2
  · simp only [h2, if_true, Bool.and_eq_true, Nat.reduceEqDiff, if_false] at h ⊢
    split
    · exact (Pc.nil nb).le (by decide)
    · obtain ⟨hx, x1, x2⟩ := read_pc (nb := nb) hp h.1.1.1.2 (scr := 1) (.inl rfl)
      have hw := write_pc hp h.1.1.1.1 (nb := nb) (n := 1) (o := []) (st := fun r => if r ≠ (readT c i.x 1).1 then pT [⟨15, r, (readT c i.x 1).1, 0, 0⟩] else []) (fun r hr1 hr2 => by
        show Pc nb (if r ≠ (readT c i.x 1).1 then _ else _) _ _ _
        split
        · exact Pc.one (okT_p (vG_abi (by decide) ⟨rfl, rfl, rfl, rfl⟩ ⟨rfl, rfl⟩ (by omega) (by omega) (by decide)) rfl rfl) rfl (pC_no (by omega))
        · exact (Pc.nil nb).le (by decide))
      exact (hx.app hw).le (by decide)
  rw [if_neg h2] at h
  rw [if_neg h2]
  by_cases h3 : i.op = 3
  · simp only [h3, if_true, Bool.and_eq_true, Nat.reduceEqDiff, if_false] at h ⊢
    obtain ⟨hx, x1, x2⟩ := read_pc (nb := nb) hp h.1.1.1.2 (scr := 1) (.inl rfl)
    obtain ⟨hy, y1, y2⟩ := read_pc (nb := nb) hp h.1.1.2 (scr := 14) (.inr rfl)
    have hb := bw_of h.1.2
    have hw := write_pc hp h.1.1.1.1 (nb := nb) (n := 4) (o := []) (st := fun r => pT (operG i.imm.toNat r (readT c i.x 1).1 (readT c i.y 14).1)) (fun r hr1 hr2 => oper_pc (by omega) ⟨hr1, hr2⟩ (by omega) (by omega))
    exact (hx.app (hy.app hw)).le (by decide)
  rw [if_neg h3] at h
  rw [if_neg h3]
  by_cases h4 : i.op = 4
  · simp only [h4, if_true, Bool.and_eq_true, Nat.reduceEqDiff, if_false, true_or] at h ⊢
    obtain ⟨hx, x1, x2⟩ := read_pc (nb := nb) hp h.1.1.1.2 (scr := 1) (.inl rfl)
    have hw := write_pc hp h.1.1.1.1 (nb := nb) (n := 1) (o := []) (st := fun r => pT [⟨18, r, (readT c i.x 1).1, 0, c.ar i.sym⟩]) (fun r hr1 hr2 => Pc.one (okT_p (vG_abi (by decide) ⟨rfl, rfl, rfl, rfl⟩ ⟨rfl, rfl⟩ (by omega) (by omega) (by show -131072 ≤ _ ∧ _ ≤ 131071; omega)) rfl rfl) rfl (pC_no (by omega)))
    exact (hx.app hw).le (by decide)
  rw [if_neg h4]
  by_cases h6 : i.op = 6
  · simp only [h6, if_true, Bool.and_eq_true, Nat.reduceEqDiff, if_false, or_true] at h ⊢
    obtain ⟨hx, x1, x2⟩ := read_pc (nb := nb) hp h.1.1.1.2 (scr := 1) (.inl rfl)
    have hw := write_pc hp h.1.1.1.1 (nb := nb) (n := 1) (o := []) (st := fun r => [(⟨20, r, (readT c i.x 1).1, 0, 0⟩, Tg.r i.sym)]) (fun r hr1 hr2 => Pc.one (okT_r (vG_abi (by decide) ⟨rfl, rfl, rfl, rfl⟩ ⟨rfl, rfl⟩ (by omega) (by omega) (by decide)) rfl rfl) rfl (pC_no (by omega)))
    exact (hx.app hw).le (by decide)
  rw [if_neg (by omega)] at h
  rw [if_neg h6]
  by_cases h57 : i.op = 5 ∨ i.op = 7
  · rw [if_pos h57] at h
    rw [if_pos h57]
    simp only [Bool.and_eq_true] at h
    rw [if_neg (show ¬ i.op = 9 by omega), if_neg (show ¬ i.op = 10 by omega), if_neg (show ¬ i.op = 11 by omega), if_neg (show ¬ i.op = 12 by omega), if_neg (show ¬ i.op = 13 by omega), if_neg (show ¬ i.op = 14 by omega), if_neg (show ¬ i.op = 16 by omega)]
    obtain ⟨hx, x1, x2⟩ := read_pc (nb := nb) hp h.1.1.1.1 (scr := 1) (.inl rfl)
    obtain ⟨hy, y1, y2⟩ := read_pc (nb := nb) hp h.1.1.1.2 (scr := 14) (.inr rfl)
    refine (hx.app (hy.app (m := 1) (p := []) (ds := []) ?_)).le (by decide)
    split
    · exact Pc.one (okT_p (vG_abi (by decide) ⟨rfl, rfl, rfl, rfl⟩ ⟨rfl, rfl⟩ (by omega) (by omega) (by show -131072 ≤ _ ∧ _ ≤ 131071; omega)) rfl rfl) rfl (pC_op rfl (by decide))
    · exact Pc.one (okT_r (vG_abi (by decide) ⟨rfl, rfl, rfl, rfl⟩ ⟨rfl, rfl⟩ (by omega) (by omega) (by decide)) rfl rfl) rfl (pC_op rfl (by decide))
  rw [if_neg h57] at h
  rw [if_neg h57]
  by_cases h8 : i.op = 8
  · simp only [h8, if_true, Bool.and_eq_true, Nat.reduceEqDiff, if_false] at h ⊢
    obtain ⟨hx, x1, x2⟩ := read_pc (nb := nb) hp h.1.1.1.1 (scr := 1) (.inl rfl)
    have hb := bw_of h.1.1.1.2
    exact (hx.app (Pc.one (okT_p (vG_ai (by decide) ⟨rfl, rfl, rfl, rfl⟩ ⟨rfl, rfl⟩ (by omega) (by show 1 ≤ _ ∧ _ ≤ 131071; omega)) rfl rfl) rfl (pC_no (by omega)))).le (by decide)
  rw [if_neg h8] at h
  rw [if_neg h8]
  by_cases h9 : i.op = 9
  · simp only [h9, if_true, Bool.and_eq_true, Nat.reduceEqDiff, if_false] at h ⊢
    have hb := bw_of h.1.1.1.2
    exact (write_pc hp h.1.1.1.1 (nb := nb) (n := 1) (o := [26]) (fun r hr1 hr2 => Pc.oneO (okT_p (vG_ai (by decide) ⟨rfl, rfl, rfl, rfl⟩ ⟨rfl, rfl⟩ (by omega) (by show 0 ≤ _ ∧ _ ≤ 7; omega)) rfl rfl) rfl (pC_no (by omega)))).le (by decide)
  rw [if_neg h9] at h
  rw [if_neg h9]
  by_cases h10 : i.op = 10
  · simp only [h10, if_true, Bool.and_eq_true, Nat.reduceEqDiff, if_false] at h ⊢
    obtain ⟨hx, x1, x2⟩ := read_pc (nb := nb) hp h.1.1.1.1 (scr := 1) (.inl rfl)
    have hb := bw_of h.1.1.1.2
    exact (hx.app (Pc.oneO (okT_p (vG_ai (by decide) ⟨rfl, rfl, rfl, rfl⟩ ⟨rfl, rfl⟩ (by omega) (by show 0 ≤ _ ∧ _ ≤ 7; omega)) rfl rfl) rfl (pC_op rfl (by decide)))).le (by decide)
  rw [if_neg h10] at h
  rw [if_neg h10]
  by_cases h11 : i.op = 11
  · simp only [h11, if_true, Nat.reduceEqDiff, if_false] at h ⊢
    exact (Pc.oneO (okT_r (vG_i (by decide) ⟨rfl, rfl, rfl, rfl⟩ ⟨rfl, rfl⟩ (by decide)) rfl rfl) rfl (pC_no (by decide))).le (by decide)
  rw [if_neg h11]
  by_cases h12 : i.op = 12
  · simp only [h12, if_true, Nat.reduceEqDiff, if_false] at h ⊢
    exact (Pc.oneO (okT_r (vG_i (by decide) ⟨rfl, rfl, rfl, rfl⟩ ⟨rfl, rfl⟩ (by decide)) rfl rfl) rfl (pC_no (by decide))).le (by decide)
  rw [if_neg (by omega)] at h
  rw [if_neg h12]
  by_cases h13 : i.op = 13
  · simp only [h13, if_true, Bool.and_eq_true, Nat.reduceEqDiff, if_false, true_or] at h ⊢
    have hb := bw_of h.1.1.1.1
    exact (Pc.oneC (okT_p (vG_ai (by decide) ⟨rfl, rfl, rfl, rfl⟩ ⟨rfl, rfl⟩ (by omega) (by decide)) rfl rfl) rfl (by unfold pC; exact Bool.and_eq_true_iff.2 ⟨rfl, decide_eq_true (by show 10 ≤ 10 + _ ∧ 10 + _ ≤ 13; omega)⟩)).le (by decide)
  by_cases h14 : i.op = 14
  · simp only [h14, if_true, Bool.and_eq_true, Nat.reduceEqDiff, if_false, or_true] at h ⊢
    have hb := bw_of h.1.1.1.1
    exact (Pc.oneC (okT_p (vG_abi (by decide) ⟨rfl, rfl, rfl, rfl⟩ ⟨rfl, rfl⟩ (by omega) (by omega) (by decide)) rfl rfl) rfl (by unfold pC; exact Bool.and_eq_true_iff.2 ⟨rfl, decide_eq_true (by show 10 ≤ 10 + _ ∧ 10 + _ ≤ 13; omega)⟩)).le (by decide)
  rw [if_neg (by omega)] at h
  rw [if_neg h13, if_neg h14]
  by_cases h15 : i.op = 15
  · simp only [h15, if_true, Bool.and_eq_true, Nat.reduceEqDiff, if_false] at h ⊢
    have hb := bw_of h.1.1.1.2
    exact (write_pc hp h.1.1.1.1 (nb := nb) (n := 1) (o := []) (fun r hr1 hr2 => Pc.one (okT_p (vG_abi (by decide) ⟨rfl, rfl, rfl, rfl⟩ ⟨rfl, rfl⟩ (by omega) (by omega) (by decide)) rfl rfl) rfl (pC_no (by omega)))).le (by decide)
  rw [if_neg h15] at h
  rw [if_neg h15]
  by_cases h16 : i.op = 16
  · simp only [h16, if_true, Bool.and_eq_true, Nat.reduceEqDiff, if_false] at h ⊢
    have hx := bw_of h.1.1.1.1
    have hb := bw_of h.1.1.1.2
    exact (Pc.oneC (okT_p (vG_ai (by decide) ⟨rfl, rfl, rfl, rfl⟩ ⟨rfl, rfl⟩ (by omega) (by show 1 ≤ _ ∧ _ ≤ 131071; omega)) rfl rfl) rfl (by unfold pC; exact Bool.and_eq_true_iff.2 ⟨rfl, decide_eq_true (by show 10 ≤ 10 + _ ∧ 10 + _ ≤ 13; omega)⟩)).le (by decide)
  rw [if_neg h16] at h
  cases h
theorem end_pc (hp : PlOk c R) {b : IBlk} {next : Int} (h : vEnd R nb b = true) : Pc nb (endT c b next) 3 (if b.kind = 3 then [1] else []) [] := by
  unfold vEnd at h
  unfold endT
  by_cases h3 : b.kind = 3
  · simp only [if_pos h3]
    exact (Pc.oneO (okT_p vG_halt rfl rfl) rfl (pC_no (by decide))).le (by decide)
  simp only [if_neg h3]
  have hto : okR nb b.to = true := by
    repeat' split at h
    all_goals simp_all
  by_cases h2 : b.kind = 2 ∧ b.to ≠ b.els
  · rw [if_pos h2]
    rw [if_neg (by omega), if_pos h2.1] at h
    simp only [Bool.and_eq_true] at h
    obtain ⟨hx, x1, x2⟩ := read_pc (nb := nb) hp h.1.1 (scr := 1) (.inl rfl)
    have e22 : Pc nb [(⟨22, (readT c b.x 1).1, 0, 0, 0⟩, Tg.b b.els)] 1 [] [] := Pc.one (okT_b (vG_ai (by decide) ⟨rfl, rfl, rfl, rfl⟩ ⟨rfl, rfl⟩ (by omega) (by decide)) rfl rfl h.2) rfl (pC_op rfl (by decide))
    have e23 : Pc nb [(⟨23, (readT c b.x 1).1, 0, 0, 0⟩, Tg.b b.to)] 1 [] [] := Pc.one (okT_b (vG_ai (by decide) ⟨rfl, rfl, rfl, rfl⟩ ⟨rfl, rfl⟩ (by omega) (by decide)) rfl rfl h.1.2) rfl (pC_op rfl (by decide))
    have e24 : Pc nb [(⟨24, 0, 0, 0, 0⟩, Tg.b b.els)] 1 [] [] := Pc.one (okT_b (vG_i (by decide) ⟨rfl, rfl, rfl, rfl⟩ ⟨rfl, rfl⟩ (by decide)) rfl rfl h.2) rfl (pC_no (by decide))
    refine (hx.app (m := 2) (p := []) (ds := []) ?_).le (by decide)
    split
    · exact e22.le (by decide)
    · split
      · exact e23.app e24
      · exact e23.le (by decide)
  rw [if_neg h2]
  split
  · exact (Pc.one (okT_b (vG_i (by decide) ⟨rfl, rfl, rfl, rfl⟩ ⟨rfl, rfl⟩ (by decide)) rfl rfl hto) rfl (pC_no (by decide))).le (by decide)
  · exact (Pc.nil nb).le (by decide)
end
end Go.Proofs.YtlajdcikhbocdaaDoor

/- The object of a valid function is valid, in plain Lean. No walk here. -/
set_option linter.unusedVariables false
set_option linter.unusedSimpArgs false
namespace Go.Proofs.YtlajdcikhbocdaaDoor
open Go.RowKit

theorem getD_app_lt {α : Type} (l t : List α) (d : α) {j : Nat} (h : j < l.length) : (l ++ t).getD j d = l.getD j d := by
  rw [List.getD_eq_getElem?_getD, List.getD_eq_getElem?_getD, List.getElem?_append_left h]
theorem getD_app_eq {α : Type} (l : List α) (x d : α) : (l ++ [x]).getD l.length d = x := by
  rw [List.getD_eq_getElem?_getD, List.getElem?_append_right (Nat.le_refl _)]; simp
/-- The references that a code wants, from index k on. -/
def wantR : Nat → List GI → List (Int × Bool)
  | _, [] => []
  | k, i :: l => if refO i.op = true then ((k : Int), lockO i.op) :: wantR (k + 1) l else wantR (k + 1) l
theorem wantR_app : ∀ (l t : List GI) (k : Nat), wantR k (l ++ t) = wantR k l ++ wantR (k + l.length) t
  | [], t, k => rfl
  | i :: l, t, k => by
    show (if refO i.op = true then _ :: wantR (k + 1) (l ++ t) else wantR (k + 1) (l ++ t)) = (if refO i.op = true then _ else _) ++ _
    rw [wantR_app l t, List.length_cons, show k + 1 + l.length = k + (l.length + 1) by omega]
    split <;> rfl
theorem wantR_ops : ∀ (l t : List GI) (k : Nat), l.map GI.op = t.map GI.op → wantR k l = wantR k t
  | [], [], k, _ => rfl
  | [], _ :: _, k, h => by cases h
  | _ :: _, [], k, h => by cases h
  | i :: l, j :: t, k, h => by
    rw [List.map_cons, List.map_cons] at h
    injection h with h1 h2
    unfold wantR
    rw [h1, wantR_ops l t (k + 1) h2]
/-- What codegen.Valid goes through. -/
def scanV (n : Int) : Nat → List GI → List (Int × Bool) → Bool
  | _, [], rs => decide (rs = [])
  | k, i :: l, rs => vG i && (!brO i.op || okR n ((k : Int) + 1 + i.imm)) && (if refO i.op = true then (match rs with | [] => false | r :: rs' => decide (r.1 = (k : Int) ∧ r.2 = lockO i.op) && scanV n (k + 1) l rs') else scanV n (k + 1) l rs)
def valO (code : List GI) (data : Int) (refs : List (Int × Bool)) : Bool := decide ((1 ≤ code.length ∧ code.length ≤ 4096) ∧ 0 ≤ data ∧ data ≤ 512) && scanV code.length 0 code refs
theorem scan_want (n : Int) : ∀ (l : List GI) (k : Nat), (∀ j, j < l.length → vG (l.getD j default) = true ∧ (brO (l.getD j default).op = true → okR n ((k : Int) + j + 1 + (l.getD j default).imm) = true)) → scanV n k l (wantR k l) = true
  | [], k, _ => rfl
  | i :: l, k, h => by
    have h0 := h 0 (by simp)
    have hr := scan_want n l (k + 1) fun j hj => by
      have := h (j + 1) (by simpa using hj)
      rw [List.getD_cons_succ] at this
      refine ⟨this.1, fun hb => ?_⟩
      have h2 := this.2 hb
      rw [show ((k + 1 : Nat) : Int) + j + 1 + (l.getD j default).imm = (k : Int) + ((j + 1 : Nat) : Int) + 1 + (l.getD j default).imm by omega]
      exact h2
    rw [List.getD_cons_zero] at h0
    have h1 : (!brO i.op || okR n ((k : Int) + 1 + i.imm)) = true := by
      cases hb : brO i.op with
      | false => rfl
      | true =>
        have := h0.2 hb
        rw [show (k : Int) + ((0 : Nat) : Int) + 1 + i.imm = (k : Int) + 1 + i.imm by omega] at this
        rw [this]; rfl
    unfold scanV wantR
    rw [h0.1, h1]
    by_cases hR : refO i.op = true
    · simp [hR, hr]
    · simp [hR, hr]

structure GOk (nb : Nat) (g : Gen) : Prop where
  val : ∀ i ∈ g.code, vG i = true
  ref : g.refs.map (fun r => (r.at', r.lk)) = wantR 0 g.code
  brs : ∀ b ∈ g.brs, ∃ a k : Nat, b = ((a : Int), (k : Int)) ∧ a < g.code.length ∧ k < nb ∧ brO (g.code.getD a default).op = true
  all : ∀ j, j < g.code.length → brO (g.code.getD j default).op = true → ∃ k, ((j : Int), k) ∈ g.brs
theorem GOk.add {nb : Nat} {g : Gen} {x : TI} (h : GOk nb g) (hx : okT nb x = true) : GOk nb (add1 g x) := by
  obtain ⟨i, t⟩ := x
  unfold okT at hx
  rw [Bool.and_eq_true] at hx
  obtain ⟨hv, ht⟩ := hx
  have hval : ∀ j ∈ g.code ++ [i], vG j = true := fun j hj => by
    rcases List.mem_append.1 hj with hj | hj
    · exact h.val j hj
    · rw [List.mem_singleton] at hj; subst hj; exact hv
  have hold : ∀ b ∈ g.brs, ∃ a k : Nat, b = ((a : Int), (k : Int)) ∧ a < (g.code ++ [i]).length ∧ k < nb ∧ brO ((g.code ++ [i]).getD a default).op = true := fun b hb => by
    obtain ⟨a, k, e, h1, h2, h3⟩ := h.brs b hb
    exact ⟨a, k, e, by rw [List.length_append]; omega, h2, by rw [getD_app_lt _ _ _ h1]; exact h3⟩
  have hwant : wantR 0 (g.code ++ [i]) = wantR 0 g.code ++ (if refO i.op = true then [((g.code.length : Int), lockO i.op)] else []) := by
    rw [wantR_app, Nat.zero_add]; rfl
  cases t with
  | p =>
    simp only [Bool.and_eq_true, Bool.not_eq_true'] at ht
    refine ⟨hval, ?_, hold, fun j hj hb => ?_⟩
    · show g.refs.map _ = wantR 0 (g.code ++ [i])
      rw [hwant, ht.1, h.ref]; simp
    · have hj : j < g.code.length + 1 := by simpa [add1, emitG] using hj
      have hb : brO ((g.code ++ [i]).getD j default).op = true := hb
      by_cases e : j < g.code.length
      · rw [getD_app_lt _ _ _ e] at hb
        exact h.all j e hb
      · have e : j = g.code.length := by omega
        subst e
        rw [getD_app_eq, ht.2] at hb
        cases hb
  | r nm =>
    simp only [Bool.and_eq_true, Bool.not_eq_true'] at ht
    refine ⟨hval, ?_, hold, fun j hj hb => ?_⟩
    · show (g.refs ++ [_]).map _ = wantR 0 (g.code ++ [i])
      rw [hwant, if_pos ht.1, List.map_append, h.ref]; rfl
    · have hj : j < g.code.length + 1 := by simpa [add1, emitG, referG] using hj
      have hb : brO ((g.code ++ [i]).getD j default).op = true := hb
      by_cases e : j < g.code.length
      · rw [getD_app_lt _ _ _ e] at hb
        exact h.all j e hb
      · have e : j = g.code.length := by omega
        subst e
        rw [getD_app_eq, ht.2] at hb
        cases hb
  | b k =>
    simp only [Bool.and_eq_true, Bool.not_eq_true'] at ht
    refine ⟨hval, ?_, fun b hb => ?_, fun j hj hb => ?_⟩
    · show g.refs.map _ = wantR 0 (g.code ++ [i])
      rw [hwant, ht.1.2, h.ref]; simp
    · have hb : b ∈ g.brs ++ [((g.code.length : Int), k)] := hb
      rcases List.mem_append.1 hb with hb | hb
      · exact hold b hb
      · rw [List.mem_singleton] at hb
        have hk := okR_of ht.2
        refine ⟨g.code.length, k.toNat, by rw [hb, Int.toNat_of_nonneg hk.1], by show _ < (g.code ++ [i]).length; simp, by omega, ?_⟩
        show brO ((g.code ++ [i]).getD g.code.length default).op = true
        rw [getD_app_eq]; exact ht.1.1
    · have hj : j < g.code.length + 1 := by simpa [add1, emitG, jumpG] using hj
      have hb : brO ((g.code ++ [i]).getD j default).op = true := hb
      by_cases e : j < g.code.length
      · rw [getD_app_lt _ _ _ e] at hb
        obtain ⟨q, hq⟩ := h.all j e hb
        exact ⟨q, List.mem_append_left _ hq⟩
      · have e : j = g.code.length := by omega
        subst e
        exact ⟨k, List.mem_append_right _ (List.mem_singleton.2 rfl)⟩
theorem GOk.addAll {nb : Nat} : ∀ {l : List TI} {g : Gen}, GOk nb g → AllT nb l → GOk nb (addT l g)
  | [], g, h, _ => h
  | x :: l, g, h, hl => (h.add (hl x (List.mem_cons_self ..))).addAll fun y hy => hl y (List.mem_cons_of_mem _ hy)
theorem GOk.sts {nb : Nat} {g : Gen} (h : GOk nb g) (s : List Int) : GOk nb { g with starts := s } := ⟨h.val, h.ref, h.brs, h.all⟩

/-- Branches' operands. -/
theorem fix_len (st : List Int) (code : List GI) (b : Int × Int) : (fixG st code b).length = code.length := by unfold fixG; rw [List.length_set]
theorem fix_at (st : List Int) (code : List GI) {a : Nat} (k : Int) (ha : a < code.length) (j : Nat) : (fixG st code ((a : Int), k)).getD j default = if a = j then { code.getD a default with imm := st.getD k.toNat 0 - a - 1 } else code.getD j default := by
  unfold fixG
  simp only [Int.toNat_natCast]
  rw [List.getD_eq_getElem?_getD, List.getElem?_set]
  by_cases e : a = j
  · subst e; simp [ha]
  · rw [if_neg e, if_neg e, List.getD_eq_getElem?_getD]
theorem res_at (st : List Int) : ∀ (brs : List (Int × Int)) (code : List GI), (∀ b ∈ brs, ∃ a k : Nat, b = ((a : Int), (k : Int)) ∧ a < code.length) →
    (brs.foldl (fixG st) code).length = code.length ∧ ∀ j : Nat, ((brs.foldl (fixG st) code).getD j default = code.getD j default ∧ ∀ k, ((j : Int), k) ∉ brs) ∨ ∃ k, ((j : Int), k) ∈ brs ∧ (brs.foldl (fixG st) code).getD j default = { code.getD j default with imm := st.getD k.toNat 0 - j - 1 }
  | [], code, _ => ⟨rfl, fun j => .inl ⟨rfl, fun k h => by cases h⟩⟩
  | b :: brs, code, h => by
    obtain ⟨a, k, rfl, ha⟩ := h b (List.mem_cons_self ..)
    obtain ⟨h1, h2⟩ := res_at st brs (fixG st code ((a : Int), (k : Int))) fun c hc => by
      obtain ⟨a', k', e, h⟩ := h c (List.mem_cons_of_mem _ hc)
      exact ⟨a', k', e, by rw [fix_len]; exact h⟩
    refine ⟨h1.trans (fix_len _ _ _), fun j => ?_⟩
    rw [List.foldl_cons]
    rcases h2 j with ⟨e, hn⟩ | ⟨q, hq, e⟩
    · rw [fix_at st code _ ha] at e
      by_cases ej : a = j
      · subst ej
        rw [if_pos rfl] at e
        exact .inr ⟨k, List.mem_cons_self .., e⟩
      · rw [if_neg ej] at e
        refine .inl ⟨e, fun q hq => ?_⟩
        rcases List.mem_cons.1 hq with hq | hq
        · injection hq with hq _; omega
        · exact hn q hq
    · refine .inr ⟨q, List.mem_cons_of_mem _ hq, e.trans ?_⟩
      rw [fix_at st code _ ha]
      by_cases ej : a = j
      · subst ej; rw [if_pos rfl]
      · rw [if_neg ej]
theorem vG_imm {i : GI} {m : Int} (hb : brO i.op = true) (h : vG i = true) (hm : -131072 ≤ m ∧ m ≤ 131071) : vG { i with imm := m } = true := by
  obtain ⟨n, a, b, c, im⟩ := i
  have hb : n = 22 ∨ n = 23 ∨ n = 24 := of_decide_eq_true hb
  have h : vld n a b c im = true := h
  show vld n a b c m = true
  rcases hb with rfl | rfl | rfl
  all_goals (
    unfold vld vldS at h ⊢
    rw [Bool.and_eq_true] at h ⊢
    refine ⟨h.1, decide_eq_true ?_⟩
    have := of_decide_eq_true h.2
    exact ⟨this.1, this.2.1, this.2.2.1, hm⟩)
theorem res_ok {nb : Nat} {g : Gen} (h : GOk nb g) (hs : ∀ k, k < nb → 0 ≤ g.starts.getD k 0 ∧ g.starts.getD k 0 < g.code.length) (hl : g.code.length ≤ 4096) (h1 : 1 ≤ g.code.length) {data : Int} (hd : 0 ≤ data ∧ data ≤ 512) :
    valO (resG g) data (g.refs.map fun r => (r.at', r.lk)) = true ∧ (resG g).length = g.code.length ∧ (resG g).map GI.op = g.code.map GI.op ∧ (resG g).filter pC = g.code.filter pC := by
  obtain ⟨hlen, hat⟩ := res_at g.starts g.brs g.code fun b hb => by
    obtain ⟨a, k, e, h1, _⟩ := h.brs b hb
    exact ⟨a, k, e, h1⟩
  have hlen : (resG g).length = g.code.length := hlen
  have hat : ∀ j : Nat, ((resG g).getD j default = g.code.getD j default ∧ ∀ k, ((j : Int), k) ∉ g.brs) ∨ ∃ k, ((j : Int), k) ∈ g.brs ∧ (resG g).getD j default = { g.code.getD j default with imm := g.starts.getD k.toNat 0 - j - 1 } := hat
  have hmap : ∀ (f : GI → Bool) (hf : ∀ i m, brO i.op = true → f { i with imm := m } = f i), (resG g).map f = g.code.map f := fun f hf => by
    apply List.ext_getElem
    · simp [hlen]
    intro j hj1 hj2
    simp only [List.getElem_map]
    have e1 : (resG g)[j]'(by simpa using hj1) = (resG g).getD j default := by rw [List.getD_eq_getElem?_getD, List.getElem?_eq_getElem (by simpa using hj1)]; rfl
    have e2 : g.code[j]'(by simpa using hj2) = g.code.getD j default := by rw [List.getD_eq_getElem?_getD, List.getElem?_eq_getElem (by simpa using hj2)]; rfl
    rw [e1, e2]
    rcases hat j with ⟨e, _⟩ | ⟨k, hk, e⟩
    · rw [e]
    · obtain ⟨a, k', e', ha, _, hb⟩ := h.brs _ hk
      rw [e]
      refine hf _ _ ?_
      injection e' with e' _
      rw [show j = a by omega]; exact hb
  have hops : (resG g).map GI.op = g.code.map GI.op := by
    apply List.ext_getElem
    · simp [hlen]
    intro j hj1 hj2
    simp only [List.getElem_map]
    have e1 : (resG g)[j]'(by simpa using hj1) = (resG g).getD j default := by rw [List.getD_eq_getElem?_getD, List.getElem?_eq_getElem (by simpa using hj1)]; rfl
    have e2 : g.code[j]'(by simpa using hj2) = g.code.getD j default := by rw [List.getD_eq_getElem?_getD, List.getElem?_eq_getElem (by simpa using hj2)]; rfl
    rw [e1, e2]
    rcases hat j with ⟨e, _⟩ | ⟨k, hk, e⟩ <;> rw [e]
  have hval : ∀ j, j < (resG g).length → vG ((resG g).getD j default) = true ∧ (brO ((resG g).getD j default).op = true → okR (resG g).length (((0 : Nat) : Int) + j + 1 + ((resG g).getD j default).imm) = true) := fun j hj => by
    rw [hlen] at hj
    have hv := h.val (g.code.getD j default) (by rw [List.getD_eq_getElem?_getD, List.getElem?_eq_getElem hj]; exact List.getElem_mem hj)
    rcases hat j with ⟨e, hn⟩ | ⟨k, hk, e⟩
    · rw [e]
      refine ⟨hv, fun hb => ?_⟩
      obtain ⟨k, hk⟩ := h.all j hj hb
      exact absurd hk (hn k)
    · obtain ⟨a, k', e', ha, hkn, hb⟩ := h.brs _ hk
      injection e' with e' e''
      have ej : j = a := by omega
      subst ej
      have hsk := hs k' hkn
      rw [e, e'']
      simp only [Int.toNat_natCast]
      generalize g.starts.getD k' 0 = s at hsk ⊢
      refine ⟨vG_imm hb hv (by omega), fun _ => ?_⟩
      unfold okR
      rw [hlen]
      exact decide_eq_true (by omega)
  refine ⟨?_, hlen, hops, ?_⟩
  · unfold valO
    rw [decide_eq_true (by rw [hlen]; exact ⟨⟨h1, hl⟩, hd⟩), Bool.true_and, h.ref, wantR_ops _ _ 0 hops.symm]
    exact scan_want _ _ 0 hval
  · have hp : ∀ i : GI, brO i.op = true → pC i = false := fun i hb => by
      obtain ⟨n, a, b, c, im⟩ := i
      have hb : n = 22 ∨ n = 23 ∨ n = 24 := of_decide_eq_true hb
      rcases hb with rfl | rfl | rfl <;> exact pC_op rfl (by decide)
    have key : ∀ (l t : List GI), l.length = t.length → (∀ j, j < t.length → l.getD j default = t.getD j default ∨ (pC (l.getD j default) = false ∧ pC (t.getD j default) = false)) → l.filter pC = t.filter pC := by
      intro l
      induction l with
      | nil => intro t hlt _; rw [List.length_nil] at hlt; rw [List.length_eq_zero_iff.1 hlt.symm]
      | cons x l ih =>
        intro t hlt hj
        cases t with
        | nil => simp at hlt
        | cons y t =>
          have h0 := hj 0 (by simp)
          rw [List.getD_cons_zero, List.getD_cons_zero] at h0
          have hr := ih t (by simpa using hlt) fun j hjl => by
            have := hj (j + 1) (by simpa using hjl)
            rw [List.getD_cons_succ, List.getD_cons_succ] at this
            exact this
          rcases h0 with h0 | ⟨h0, h1⟩
          · rw [h0, List.filter_cons, List.filter_cons, hr]
          · rw [List.filter_cons, List.filter_cons, h0, h1, hr]
            rfl
    refine key _ _ hlen fun j hj => ?_
    rcases hat j with ⟨e, hn⟩ | ⟨k, hk, e⟩
    · exact .inl e
    · obtain ⟨a, k', e', ha, hkn, hb⟩ := h.brs _ hk
      injection e' with e' e''
      have ej : j = a := by omega
      subst ej
      refine .inr ⟨?_, hp _ hb⟩
      rw [e]; exact hp _ hb

/-- Blocks. -/
def blksT (c : Cfg) (bs : List IBlk) : Nat → List TI
  | 0 => []
  | k + 1 => blksT c bs k ++ blkT c (bs.getD k default) k
def sumC (bs : List IBlk) : Nat → Nat
  | 0 => 0
  | k + 1 => sumC bs k + (bs.getD k default).code.length
def oB (bs : List IBlk) : Nat → List Nat
  | 0 => []
  | k + 1 => oB bs k ++ ((bs.getD k default).code.flatMap (fun i => oT i.op) ++ if (bs.getD k default).kind = 3 then [1] else [])
def cB (bs : List IBlk) : Nat → List GI
  | 0 => []
  | k + 1 => cB bs k ++ (bs.getD k default).code.flatMap cT
theorem blks_code (c : Cfg) (bs : List IBlk) (g : Gen) : ∀ k, (blksG c bs k g).code = g.code ++ (blksT c bs k).map Prod.fst
  | 0 => by simp [blksG, blksT]
  | k + 1 => by
    show (blkG c (bs.getD k default) k (blksG c bs k g)).code = g.code ++ (blksT c bs k ++ blkT c (bs.getD k default) k).map Prod.fst
    rw [blk_T, addT_code, List.map_append, ← List.append_assoc, ← blks_code c bs g k]
theorem blks_starts (c : Cfg) (bs : List IBlk) (g : Gen) : ∀ k, (blksG c bs k g).starts = g.starts ++ (List.range k).map fun j => (((blksG c bs j g).code.length : Nat) : Int)
  | 0 => by simp [blksG]
  | k + 1 => by
    show (blkG c (bs.getD k default) k (blksG c bs k g)).starts = _
    rw [blk_T, addT_starts, List.range_succ, List.map_append, ← List.append_assoc, ← blks_starts c bs g k]; rfl
theorem code_pc {c : Cfg} {R : Int} {nb : Nat} (hp : PlOk c R) {K : Kinds} : ∀ (l : List IIns), (∀ i ∈ l, vIns R K i = true) → Pc nb (l.flatMap (insT c)) (7 * l.length) (l.flatMap fun i => oT i.op) (l.flatMap cT)
  | [], _ => Pc.nil nb
  | i :: l, h => by
    have := (ins_pc (nb := nb) hp (h i (List.mem_cons_self ..))).app (code_pc hp l fun j hj => h j (List.mem_cons_of_mem _ hj))
    exact this.le (by rw [List.length_cons]; omega)
theorem blk_pc {c : Cfg} {R : Int} {nb : Nat} (hp : PlOk c R) {K : Kinds} {b : IBlk} (h : vBlk R K nb b = true) (k : Nat) : Pc nb (blkT c b k) (7 * b.code.length + 3) (b.code.flatMap (fun i => oT i.op) ++ if b.kind = 3 then [1] else []) (b.code.flatMap cT) := by
  unfold vBlk at h
  rw [Bool.and_eq_true] at h
  have := (code_pc (nb := nb) hp b.code (List.all_eq_true.1 h.1)).app (end_pc (next := (k : Int) + 1) hp h.2)
  rw [List.append_nil] at this
  exact this
theorem blks_pc {c : Cfg} {R : Int} (hp : PlOk c R) {K : Kinds} {bs : List IBlk} (h : ∀ j, j < bs.length → vBlk R K bs.length (bs.getD j default) = true) : ∀ k, k ≤ bs.length → Pc bs.length (blksT c bs k) (7 * sumC bs k + 3 * k) (oB bs k) (cB bs k)
  | 0, _ => Pc.nil _
  | k + 1, hk => by
    have := (blks_pc hp h k (by omega)).app (blk_pc hp (h k (by omega)) k)
    exact this.le (by show _ ≤ 7 * (sumC bs k + (bs.getD k default).code.length) + 3 * (k + 1); omega)
theorem blks_gok {c : Cfg} {R : Int} (hp : PlOk c R) {K : Kinds} {bs : List IBlk} (h : ∀ j, j < bs.length → vBlk R K bs.length (bs.getD j default) = true) {g : Gen} (hg : GOk bs.length g) : ∀ k, k ≤ bs.length → GOk bs.length (blksG c bs k g)
  | 0, _ => hg
  | k + 1, hk => by
    show GOk _ (blkG c (bs.getD k default) k (blksG c bs k g))
    rw [blk_T]
    exact ((blks_gok hp h hg k (by omega)).sts _).addAll (blk_pc hp (h k (by omega)) k).all
theorem end_some {R : Int} {nb : Nat} {c : Cfg} {b : IBlk} (h : vEnd R nb b = true) : 1 ≤ (endT c b nb).length := by
  unfold vEnd at h
  unfold endT
  have hto : b.kind = 3 ∨ okR nb b.to = true := by
    repeat' split at h
    all_goals simp_all
  by_cases h3 : b.kind = 3
  · simp [h3, pT]
  · have h4 := hto.resolve_left h3
    have h5 := okR_of h4
    rw [if_neg h3]
    split
    · rw [List.length_append]
      split <;> simp <;> omega
    · rw [if_pos (by omega)]; simp
theorem spill_pc {nb : Nat} {sp : Int} (hsp : 0 ≤ sp ∧ sp ≤ 128) : ∀ n, n ≤ 64 → Pc nb (pT (spillG sp n)) n [] []
  | 0, _ => Pc.nil nb
  | n + 1, hn => by
    have : pT (spillG sp (n + 1)) = pT (spillG sp n) ++ [(⟨19, 0, 0, 0, sp + n⟩, .p)] := by unfold pT spillG; rw [List.range_succ, List.map_append, List.map_append]; rfl
    rw [this]
    exact (spill_pc hsp n (by omega)).app (Pc.one (okT_p (vG_abi (by decide) ⟨rfl, rfl, rfl, rfl⟩ ⟨rfl, rfl⟩ (by decide) (by decide) (by show -131072 ≤ _ ∧ _ ≤ 131071; omega)) rfl rfl) rfl (pC_op rfl (by decide)))
/-- All of it. -/
theorem all_ok {c : Cfg} {R : Int} {n : Nat} (hn : n ≤ 64) (hp : PlOk c R) {A S : List Arr} {bs : List IBlk} (hv : vFun R A S bs = true) (hb : bs.length ≤ 20) (ht : sumC bs bs.length ≤ 300) {data : Int} (hd : 0 ≤ data ∧ data ≤ 512) :
    valO (resG (allG c n bs)) data ((allG c n bs).refs.map fun r => (r.at', r.lk)) = true ∧ ((allG c n bs).code.length ≤ 4096 ∧ (resG (allG c n bs)).length = (allG c n bs).code.length) ∧
      ((resG (allG c n bs)).map GI.op).filter keyO = oB bs bs.length ∧ (resG (allG c n bs)).filter pC = cB bs bs.length := by
  obtain ⟨h0, h1, h2, h3, h4, h5⟩ := (vFun_iff R A S bs).1 hv
  have hs := spill_pc (nb := bs.length) hp.sp n hn
  have hg0 : GOk bs.length ⟨spillG c.sp n, [], [], []⟩ := by
    have h : GOk bs.length (addT (pT (spillG c.sp n)) ⟨[], [], [], []⟩) := GOk.addAll ⟨fun i hi => (by cases hi), rfl, fun b hb => (by cases hb), fun j hj => (by cases hj)⟩ hs.all
    rw [← emit_add] at h
    exact h
  have hpc := blks_pc hp h5 bs.length (Nat.le_refl _)
  have hgok := blks_gok hp h5 hg0 bs.length (Nat.le_refl _)
  have hcode : (allG c n bs).code = spillG c.sp n ++ (blksT c bs bs.length).map Prod.fst := blks_code c bs _ _
  have hsl : (spillG c.sp n).length = n := by simp [spillG]
  have hlen : (allG c n bs).code.length ≤ 4096 := by
    rw [hcode, List.length_append, List.length_map, hsl]
    have := hpc.len
    omega
  have hmono : ∀ d j, (blksG c bs j ⟨spillG c.sp n, [], [], []⟩).code.length ≤ (blksG c bs (j + d) ⟨spillG c.sp n, [], [], []⟩).code.length := by
    intro d
    induction d with
    | zero => intro j; exact Nat.le_refl _
    | succ d ih =>
      intro j
      refine Nat.le_trans (ih j) ?_
      rw [blks_code, blks_code, List.length_append, List.length_append, List.length_map, List.length_map]
      show _ ≤ _ + (blksT c bs (j + d) ++ blkT c (bs.getD (j + d) default) (j + d)).length
      rw [List.length_append]; omega
  obtain ⟨m, hm⟩ : ∃ m, bs.length = m + 1 := ⟨bs.length - 1, by have := List.length_pos_iff.2 h0; omega⟩
  have hlast : (blksG c bs m ⟨spillG c.sp n, [], [], []⟩).code.length < (allG c n bs).code.length := by
    show _ < (blksG c bs bs.length ⟨spillG c.sp n, [], [], []⟩).code.length
    rw [blks_code, blks_code, List.length_append, List.length_append, List.length_map, List.length_map, hm]
    show _ < _ + (blksT c bs m ++ blkT c (bs.getD m default) m).length
    have he : 1 ≤ (endT c (bs.getD m default) ((m : Int) + 1)).length := by
      have h6 := ((vBlk_iff _ _ _ _).1 (h5 m (by omega))).2
      have h7 := end_some (c := c) h6
      rw [hm] at h7
      exact h7
    unfold blkT
    rw [List.length_append, List.length_append]
    omega
  have hst : ∀ k, k < bs.length → 0 ≤ (allG c n bs).starts.getD k 0 ∧ (allG c n bs).starts.getD k 0 < (allG c n bs).code.length := fun k hk => by
    have e : (allG c n bs).starts.getD k 0 = (((blksG c bs k ⟨spillG c.sp n, [], [], []⟩).code.length : Nat) : Int) := by
      show (blksG c bs bs.length _).starts.getD k 0 = _
      rw [blks_starts]
      simp [List.getD_eq_getElem?_getD, hk]
    have h6 := hmono (m - k) k
    rw [show k + (m - k) = m by omega] at h6
    rw [e]; omega
  obtain ⟨r1, r2, r3, r4⟩ := res_ok (g := allG c n bs) hgok hst hlen (by have := hlast; omega) hd
  refine ⟨r1, ⟨hlen, r2⟩, ?_, ?_⟩
  · have e : (allG c n bs).code.map GI.op = (pT (spillG c.sp n)).map (fun x => x.1.op) ++ (blksT c bs bs.length).map (fun x => x.1.op) := by
      rw [hcode, List.map_append, List.map_map]
      unfold pT
      rw [List.map_map]; rfl
    have r3 : (resG (allG c n bs)).map GI.op = (allG c n bs).code.map GI.op := r3
    rw [r3, e, List.filter_append, hs.op, hpc.op, List.nil_append]
  · have e : (allG c n bs).code = (pT (spillG c.sp n)).map Prod.fst ++ (blksT c bs bs.length).map Prod.fst := by
      rw [hcode]
      unfold pT
      rw [List.map_map]
      congr 1
      exact (List.map_id _).symm
    have r4 : (resG (allG c n bs)).filter pC = (allG c n bs).code.filter pC := r4
    rw [r4, e, List.filter_append, hs.ct, hpc.ct, List.nil_append]
end Go.Proofs.YtlajdcikhbocdaaDoor

