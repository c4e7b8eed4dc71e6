import Derived.Test.YtifjcknklecdbaaDoorRegI
import Derived.Maps.OwnSet
/- ints, wide and awake of the laws of layer 20; the law RegallocColors. -/
set_option linter.unusedVariables false
set_option linter.unusedSimpArgs false
namespace Go.Proofs.YtifjcknklecdbaaDoor
open Go.RowKit

theorem ints_len (p q : Option Addr) (n m c d : Nat) (w : World) (h' : ((n : Int) != (m : Int)) = true) (h2 : n ≠ m) :
    Calls Tryd.prog 11 #[.slice p n c, .slice q m d] w fun e w' => e = .returned (.bool false) ∧ Below w.heap.size w w' := by
  go_enter Tryd.func11, Tryd.ntmps11
  go_wp2_with fail
  go_ret
  exact ⟨rfl, Below.refl _ _⟩

set_option maxHeartbeats 800000 in
theorem ints_same (p q : Option Addr) (xs ys : List Int) (c d : Nat) (w : World) (hlen : xs.length ≤ 100000) (hl : ys.length = xs.length)
    (h1 : ∀ k, k < xs.length → ∃ m off, p = some ⟨m, off, none⟩ ∧ w.cell? ⟨m, off + k, none⟩ = some (.int .i64 (xs.getD k 0))) (h2 : ∀ k, k < xs.length → ∃ m off, q = some ⟨m, off, none⟩ ∧ w.cell? ⟨m, off + k, none⟩ = some (.int .i64 (ys.getD k 0))) :
    Calls Tryd.prog 11 #[.slice p xs.length c, .slice q xs.length d] w fun e w' => e = .returned (.bool (decide (xs = ys))) ∧ Below w.heap.size w w' := by
  go_enter Tryd.func11, Tryd.ntmps11
  go_wp2_with fail
  go_loopw [13] (fun sv wr => ∃ (k n : Nat), sv = .int .i64 k ∧ k ≤ xs.length ∧ (∀ j, j < k → xs.getD j 0 = ys.getD j 0) ∧ wr = w.drewN n) (fun sv _ => xs.length - (intOf sv).toNat)
  case atStart => exact ⟨0, 0, rfl, Nat.zero_le _, fun j hj => by omega, rfl⟩
  case round =>
    obtain ⟨k, n, rfl, hk, heq, rfl⟩ := hrel
    have HQ := Lib.hid heq
    clear heq
    by_cases hlt : k < xs.length
    · obtain ⟨m1, o1, rfl, c1⟩ := h1 k hlt
      obtain ⟨m2, o2, rfl, c2⟩ := h2 k hlt
      clear h1 h2
      have hltI : (k : Int) < xs.length := by omega
      have hHL := Lib.hid hl
      clear hl
      generalize hx : xs.getD k 0 = x at c1
      generalize hy : ys.getD k 0 = y at c2
      have HX := Lib.hid hx
      have HY := Lib.hid hy
      clear hx hy
      by_cases hxy : x = y
      · subst hxy
        go_wp2_with fail
        go_quiet (fail)
        go_wp2_with fail
        go_roundw
        case rel =>
          refine ⟨k + 1, n + nq, by go_num, by omega, fun j hj => ?_, by simp [World.drewN_drewN]⟩
          rcases Nat.lt_succ_iff_lt_or_eq.1 hj with h | rfl
          · exact HQ.out j h
          · rw [HX.out, HY.out]
        case measure => simp [intOf]; omega
      · have hb : (x != y) = true := by simpa using hxy
        go_wp2_with fail
        go_quiet (fail)
        go_wp2_with fail
        go_ret
        refine ⟨?_, ?_⟩
        · have : xs ≠ ys := fun e => hxy (by rw [← HX.out, ← HY.out, e])
          simp [this]
        · exact bDrewN (bDrewN (Below.refl _ _))
    · go_wp2_with fail
      go_ret
      refine ⟨?_, bDrewN (Below.refl _ _)⟩
      have : xs = ys := List.ext_getElem (by omega) fun j h1 h2 => by
        have := HQ.out j (by omega)
        simpa [List.getD_eq_getElem?_getD, h1, h2] using this
      simp [this]

theorem ints_any (v u : Value) (xs ys : List Int) (w : World) (hv : RdI w v xs) (hu : RdI w u ys) (hlen : xs.length ≤ 100000) :
    Calls Tryd.prog 11 #[v, u] w fun e w' => e = .returned (.bool (decide (xs = ys))) ∧ Below w.heap.size w w' := by
  obtain ⟨p, c, rfl, hp⟩ := hv
  obtain ⟨q, d, rfl, hq⟩ := hu
  by_cases hl : ys.length = xs.length
  · have a := ints_same p q xs ys c d w hlen hl (fun k hk => by
      obtain ⟨m, off, e, _, hc⟩ := hp k hk
      exact ⟨m, off, e, hc⟩) (fun k hk => by
      obtain ⟨m, off, e, _, hc⟩ := hq k (by omega)
      exact ⟨m, off, e, hc⟩)
    rw [hl]
    exact a
  · have hne : xs ≠ ys := fun e => hl (by rw [e])
    have a := ints_len p q xs.length ys.length c d w (by simp; omega) (fun e => hl e.symm)
    simpa [hne] using a

/-- what wide leaves open -/
def Narrow (e : List (List Int)) : Prop := e.length ≤ 24 ∧ RowsMax e 40
def WidePost (e : List (List Int)) (r : Ending) : Prop := ∃ b, r = .returned (.bool b) ∧ (b = false → Narrow e)
def exE : List (List Int) := [[1, 2], [2], []]
theorem ex2 : colorG 3 (adjG exE) (max 2 0) = [-1, 1, 0] := by decide +kernel
theorem ex3 : colorG 3 (adjG exE) (max 3 0) = [2, 1, 0] := by decide +kernel

theorem lit_rd (w : World) (xs : List Int) (cap : Nat) : RdI (w.alloc (.cells (xs.map (Value.int .i64)).toArray 3)) (.slice (some ⟨w.heap.size, 0, none⟩) xs.length cap) xs := by
  refine ⟨_, cap, rfl, fun k hk => ⟨_, 0, rfl, by simp, ?_⟩⟩
  have h : (w.alloc (.cells (xs.map (Value.int .i64)).toArray 3)).heap[w.heap.size]? = some (.cells (xs.map (Value.int .i64)).toArray 3 (0, 0)) := heap_alloc_new w _
  simp only [World.cell?, h, Option.isSome_none, Bool.false_eq_true, if_false, Nat.zero_add]
  simp [List.getD_eq_getElem?_getD, List.getElem?_eq_getElem hk]
theorem ex_rd (w : World) : RdR ((((w.alloc (.cells #[.int .i64 1, .int .i64 2] 3)).alloc (.cells #[.int .i64 2] 3)).alloc (.cells #[] 3)).alloc (.cells #[.slice (some ⟨w.heap.size, 0, none⟩) 2 2, .slice (some ⟨w.heap.size + 1, 0, none⟩) 1 1, .slice (some ⟨w.heap.size + 1 + 1, 0, none⟩) 0 0] 46)) (.slice (some ⟨w.heap.size + 1 + 1 + 1, 0, none⟩) 3 3) exE := by
  have hb : ∀ (w : World) (o : Obj), Below w.heap.size w (w.alloc o) := fun w o => bAlloc (Nat.le_refl _) (Below.refl _ _)
  have r0 := (((lit_rd w [1, 2] 2).below (hb _ (.cells #[.int .i64 2] 3)) (Nat.le_refl _)).below (hb _ (.cells #[] 3)) (Nat.le_refl _)).below (hb _ (.cells #[.slice (some ⟨w.heap.size, 0, none⟩) 2 2, .slice (some ⟨w.heap.size + 1, 0, none⟩) 1 1, .slice (some ⟨w.heap.size + 1 + 1, 0, none⟩) 0 0] 46)) (Nat.le_refl _)
  have r1 := ((lit_rd (w.alloc (.cells #[.int .i64 1, .int .i64 2] 3)) [2] 1).below (hb _ (.cells #[] 3)) (Nat.le_refl _)).below (hb _ (.cells #[.slice (some ⟨w.heap.size, 0, none⟩) 2 2, .slice (some ⟨w.heap.size + 1, 0, none⟩) 1 1, .slice (some ⟨w.heap.size + 1 + 1, 0, none⟩) 0 0] 46)) (Nat.le_refl _)
  refine ⟨_, 3, fun a => [.slice (some ⟨w.heap.size, 0, none⟩) 2 2, .slice (some ⟨w.heap.size + 1, 0, none⟩) 1 1, .slice (some ⟨w.heap.size + 1 + 1, 0, none⟩) 0 0].getD a default, rfl, fun a ha => ?_⟩
  have ha3 : a < 3 := ha
  match a, ha3 with
  | 0, _ => exact ⟨⟨_, 0, rfl, by simp, by simp [go_sem]⟩, r0⟩
  | 1, _ => exact ⟨⟨_, 0, rfl, by simp, by simp [go_sem]⟩, by rw [Go.Deep.nblk_alloc] at r1; exact r1⟩
  | 2, _ => exact ⟨⟨_, 0, rfl, by simp, by simp [go_sem]⟩, ⟨_, 0, rfl, fun k hk => by simp [exE] at hk⟩⟩

theorem exE_max : RowsMax exE 5000 := fun a => by
  match a with
  | 0 => decide
  | 1 => decide
  | 2 => decide
  | a + 3 => simp [exE]

set_option maxHeartbeats 1600000 in
theorem awake_any (w : World) : Calls Tryd.prog 4 #[] w fun r w' => r = .returned (.bool true) ∧ Below w.heap.size w w' := by
  have HE := Lib.hid (ex_rd w)
  go_enter Tryd.func4, Tryd.ntmps4
  go_wp2_with fail
  have hB0 : Below w.heap.size w ((((w.alloc (.cells #[.int .i64 1, .int .i64 2] 3)).alloc (.cells #[.int .i64 2] 3)).alloc (.cells #[] 3)).alloc (.cells #[.slice (some ⟨w.heap.size, 0, none⟩) 2 2, .slice (some ⟨w.heap.size + 1, 0, none⟩) 1 1, .slice (some ⟨w.heap.size + 1 + 1, 0, none⟩) 0 0] 46)) := by
    repeat (first | exact Below.refl _ _ | (apply bAlloc; (simp; try omega)))
  have HB0 := Lib.hid hB0
  clear hB0
  generalize (((w.alloc (.cells #[.int .i64 1, .int .i64 2] 3)).alloc (.cells #[.int .i64 2] 3)).alloc (.cells #[] 3)).alloc (.cells #[.slice (some ⟨w.heap.size, 0, none⟩) 2 2, .slice (some ⟨w.heap.size + 1, 0, none⟩) 1 1, .slice (some ⟨w.heap.size + 1 + 1, 0, none⟩) 0 0] 46) = w1 at HE HB0 ⊢
  refine (color_any _ exE 2 w1 HE.out exE_max (by decide) (by omega) (by omega)).mono ?_
  rintro r w2 ⟨V, rfl, hO, hB⟩
  have hcx : colorG exE.length (adjG exE) (max 2 0) = [-1, 1, 0] := ex2
  rw [hcx] at hO
  have HO := Lib.hid hO
  have HB2 := Lib.hid hB
  clear hO hB hcx
  go_wp2_with fail
  refine (ints_any _ _ [-1, 1, 0] [-1, 1, 0] (w2.alloc (.cells #[.int .i64 (-1), .int .i64 1, .int .i64 0] 3)) (RdI.of_own (HO.out.alloc _)) (lit_rd w2 [-1, 1, 0] 3) (by decide)).mono ?_
  rintro r w3 ⟨rfl, hB3⟩
  have hB13 : Below w1.heap.size w1 w3 := bThen hB3 (by have := HB2.out.size; simp; omega) (bAlloc HB2.out.size HB2.out)
  have HB13 := Lib.hid hB13
  clear hB3 hB13 HO HB2
  have ht : decide ([(-1 : Int), 1, 0] = [-1, 1, 0]) = true := by decide
  go_wp2_with fail
  refine (color_any _ exE 3 w3 (HE.out.below HB13.out (Nat.le_refl _)) exE_max (by decide) (by omega) (by omega)).mono ?_
  rintro r w4 ⟨V4, rfl, hO, hB⟩
  have hcx : colorG exE.length (adjG exE) (max 3 0) = [2, 1, 0] := ex3
  rw [hcx] at hO
  have HO := Lib.hid hO
  have HB4 := Lib.hid hB
  clear hO hB hcx
  go_wp2_with fail
  refine (ints_any _ _ [2, 1, 0] [2, 1, 0] (w4.alloc (.cells #[.int .i64 2, .int .i64 1, .int .i64 0] 3)) (RdI.of_own (HO.out.alloc _)) (lit_rd w4 [2, 1, 0] 3) (by decide)).mono ?_
  rintro r w5 ⟨rfl, hB5⟩
  have hB15 : Below w1.heap.size w1 w5 := bThen hB5 (by have := HB4.out.size; have := HB13.out.size; simp; omega) (bAlloc (by have := HB4.out.size; have := HB13.out.size; omega) (bThen HB4.out HB13.out.size HB13.out))
  have ht : decide ([(2 : Int), 1, 0] = [2, 1, 0]) = true := by decide
  go_wp2_with fail
  go_ret
  exact ⟨rfl, bThen hB15 HB0.out.size HB0.out⟩
end Go.Proofs.YtifjcknklecdbaaDoor

/- The law RegallocColors. -/
set_option linter.unusedVariables false
set_option linter.unusedSimpArgs false
namespace Go.Proofs.YtifjcknklecdbaaDoor
open Go.RowKit

theorem own_rdI {w : World} {base : Nat} {v : Value} {n : Nat} {xs : List Int} (h : w.ownsRow base 3 1 v n (xs.map (Value.int .i64))) : RdI w v xs := by
  have hn : n = xs.length := by have := h.1; simp at this; omega
  subst hn
  exact RdI.of_own h

end Go.Proofs.YtifjcknklecdbaaDoor

/- The law RegallocLists. -/
set_option linter.unusedVariables false
set_option linter.unusedSimpArgs false
namespace Go.Proofs.YtifjcknklecdbaaDoor
open Go.RowKit

/-- The edges of the two graphs agree. -/
theorem colorG_congr (n : Nat) (A B : Nat → Nat → Bool) (k : Int) (h : ∀ a b, a < n → b < n → A a b = B a b) : colorG n A k = colorG n B k := by
  have hnb : ∀ a, a < n → nbs n A a = nbs n B a := fun a ha => List.filter_congr fun b hb => h a b ha (List.mem_range.1 hb)
  have hdeg : ∀ g a, a < n → degG n A g a = degG n B g a := fun g a ha => by unfold degG; rw [hnb a ha]
  have hscan : ∀ g (c i : Nat) (m : Int), i + c ≤ n → (m < 0 ∨ m.toNat < n) → scanG (degG n A g) g k c i m = scanG (degG n B g) g k c i m := by
    intro g c
    induction c with
    | zero => exact fun _ _ _ _ => rfl
    | succ c ih =>
      intro i m hi hm
      unfold scanG
      rw [hdeg g i (by omega)]
      by_cases hg : g.contains i = true
      · rw [if_pos hg, if_pos hg]; exact ih _ _ (by omega) hm
      · rw [if_neg hg, if_neg hg]
        by_cases hd : (degG n B g i : Int) < k
        · rw [if_pos hd, if_pos hd]
        · rw [if_neg hd, if_neg hd]
          have e : (m < 0 ∨ degG n A g m.toNat < degG n B g i) ↔ (m < 0 ∨ degG n B g m.toNat < degG n B g i) := by
            rcases hm with h | h
            · simp [h]
            · rw [hdeg g _ h]
          by_cases hc : m < 0 ∨ degG n B g m.toNat < degG n B g i
          · rw [if_pos (e.2 hc), if_pos hc]; exact ih _ _ (by omega) (by omega)
          · rw [if_neg (fun h => hc (e.1 h)), if_neg hc]; exact ih _ _ (by omega) hm
  have hnext : ∀ g, nextG n A k g = nextG n B k g := fun g => hscan g n 0 (-1) (by omega) (.inl (by omega))
  have hrem : ∀ c g, removeG n A k c g = removeG n B k c g := by
    intro c
    induction c with
    | zero => exact fun _ => rfl
    | succ c ih => intro g; unfold removeG; rw [hnext, ih]
  have hpick : ∀ out a, a < n → pickG n A k out a = pickG n B k out a := fun out a ha => by
    have : freeG n A out a = freeG n B out a := by funext c; unfold freeG; rw [hnb a ha]
    unfold pickG; rw [this]
  have hsel : ∀ (l : List Nat) (out : List Int), (∀ x ∈ l, x < n) → selectG n A k l out = selectG n B k l out := by
    intro l
    induction l with
    | nil => exact fun _ _ => rfl
    | cons a l ih => intro out hl; unfold selectG; rw [hpick out a (hl a (List.mem_cons_self ..)), ih _ (fun x hx => hl x (List.mem_cons_of_mem _ hx))]
  unfold colorG
  rw [hrem]
  exact hsel _ _ fun x hx => ((removed (n := n) (A := B) (k := k)).2.2 x).1 (List.mem_reverse.1 hx)

/-- What the second graph's rows hold: every listed edge stands in it, and nothing else. -/
structure Same2 (e : List (List Int)) (a : Nat) (j : Nat) (X : Nat → List Int) : Prop where
  /-- rows below a, and of row a the places from j on, have been taken over -/
  own : ∀ r b, (r < a ∨ (r = a ∧ ∃ i, j ≤ i ∧ i < (e.getD a []).length ∧ (e.getD a []).getD i 0 = b)) → r < e.length → (r < a → b ∈ e.getD r []) → b ∈ X r
  only : ∀ r b, b ∈ X r → b ∈ e.getD r [] ∨ (∃ s : Nat, s < e.length ∧ b = (s : Int) ∧ ((r : Nat) : Int) ∈ e.getD s [])

theorem Same2.adj {e : List (List Int)} {X : Nat → List Int} (h : Same2 e e.length 0 X) (f : List (List Int)) (hf : ∀ r, r < e.length → f.getD r [] = X r) (a b : Nat) (ha : a < e.length) (hb : b < e.length) : adjG f a b = adjG e a b := by
  have key : ∀ a b : Nat, a < e.length → b < e.length → adjG f a b = true → adjG e a b = true := by
    intro a b ha hb h1
    unfold adjG at h1 ⊢
    rw [Bool.and_eq_true, Bool.or_eq_true, List.contains_iff_mem, List.contains_iff_mem] at h1 ⊢
    refine ⟨h1.1, ?_⟩
    rcases h1.2 with h2 | h2
    · rw [hf a ha] at h2
      rcases h.only a b h2 with h3 | ⟨s, _, h4, h5⟩
      · exact .inl h3
      · have : s = b := by omega
        subst this; exact .inr h5
    · rw [hf b hb] at h2
      rcases h.only b a h2 with h3 | ⟨s, _, h4, h5⟩
      · exact .inr h3
      · have : s = a := by omega
        subst this; exact .inl h5
  have key2 : adjG e a b = true → adjG f a b = true := by
    intro h1
    unfold adjG at h1 ⊢
    rw [Bool.and_eq_true, Bool.or_eq_true, List.contains_iff_mem, List.contains_iff_mem] at h1 ⊢
    refine ⟨h1.1, ?_⟩
    rcases h1.2 with h2 | h2
    · left; rw [hf a ha]; exact h.own a b (.inl ha) ha (fun _ => h2)
    · right; rw [hf b hb]; exact h.own b a (.inl hb) hb (fun _ => h2)
  rw [Bool.eq_iff_iff]
  exact ⟨key a b ha hb, key2⟩
theorem Same2.start (e : List (List Int)) : Same2 e 0 (e.getD 0 []).length (fun _ => []) :=
  ⟨fun r b h hr hb => by rcases h with h | ⟨_, i, h1, h2, _⟩ <;> omega, fun r b h => by simp at h⟩
theorem Same2.row {e : List (List Int)} {a : Nat} {X : Nat → List Int} (h : Same2 e a 0 X) (ha : a < e.length) : Same2 e (a+1) (e.getD (a+1) []).length X :=
  ⟨fun r b h1 hr hb => by
    rcases h1 with h1 | ⟨_, i, h2, h3, _⟩
    · by_cases e1 : r = a
      · subst e1
        obtain ⟨i, hi, ei⟩ := List.mem_iff_getElem.1 (hb (by omega))
        refine h.own r b (.inr ⟨rfl, i, Nat.zero_le _, hi, ?_⟩) hr (fun h => by omega)
        rw [List.getD_eq_getElem?_getD, List.getElem?_eq_getElem hi]; exact ei
      · exact h.own r b (.inl (by omega)) hr (fun _ => hb h1)
    · omega, h.only⟩
/-- One place is taken over: to its own row, twice, and to the other's. -/
theorem Same2.put {e : List (List Int)} {a j : Nat} {X Y : Nat → List Int} {y : Int} (h : Same2 e a (j+1) X) (ha : a < e.length) (hj : j < (e.getD a []).length) (hy : (e.getD a []).getD j 0 = y)
    (hsub : ∀ r b, b ∈ X r → b ∈ Y r) (hin : y ∈ Y a) (honly : ∀ r b, b ∈ Y r → b ∈ X r ∨ (r = a ∧ b = y) ∨ ((r : Int) = y ∧ b = (a : Int))) : Same2 e a j Y := by
  have hmem : y ∈ e.getD a [] := by
    rw [← hy]
    generalize e.getD a [] = l at hj ⊢
    rw [List.getD_eq_getElem?_getD, List.getElem?_eq_getElem hj]; exact List.getElem_mem hj
  refine ⟨fun r b h1 hr hb => ?_, fun r b h1 => ?_⟩
  · rcases h1 with h1 | ⟨rfl, i, h2, h3, h4⟩
    · exact hsub r b (h.own r b (.inl h1) hr hb)
    · by_cases e1 : i = j
      · subst e1; rw [hy] at h4; subst h4; exact hin
      · exact hsub r b (h.own r b (.inr ⟨rfl, i, by omega, h3, h4⟩) hr hb)
  · rcases honly r b h1 with h2 | ⟨rfl, rfl⟩ | ⟨h2, rfl⟩
    · exact h.only r b h2
    · exact .inl hmem
    · exact .inr ⟨a, ha, rfl, by rw [h2]; exact hmem⟩

/-- A slice is stored into one cell: the world behind it under a name. -/
theorem wpList_store_slice {P : Program} {w : World} {ops : Array Oper} {rest : List Oper} {o : Oper} {a : Act} {Q : Exit → Act → World → Prop} (hgd : o.guard = none) (ty : TypeId) (x y : Operand) (ho : o.op = .store ty x y) (hd : o.dst = none)
    (b k : Nat) (p : Option Addr) (n c : Nat) (hx : a.eval x = .pointer (some ⟨b, k, none⟩)) (hy : a.eval y = .slice p n c) (hc : (w.cell? ⟨b, k, none⟩).isSome = true) (hf : w.frozen? ⟨b, k, none⟩ = false) (hi : (P.info? ty).map (·.size) = some 1)
    (h : ∀ w', Hid (w' = w.setCell ⟨b, k, none⟩ (.slice p n c)) → wpList P ops Q rest a w') : wpList P ops Q (o :: rest) a w := by
  refine wpList_plain hgd fun K hK => ?_
  have hr := run_storeCells_cells (P := P) b k [.slice p n c] 0 w (fun j hj => by
    have : j = 0 := by simpa using hj
    subst this; exact hc) (fun j hj => by
    have : j = 0 := by simpa using hj
    subst this; exact hf) (fun v hv => by
    have : v = .slice p n c := by simpa using hv
    subst this; rfl)
  cases hq : P.info? ty with
  | none => simp [hq] at hi
  | some i =>
    have hs : i.size = 1 := by simpa [hq] using hi
    simp only [Nat.add_zero] at hr
    have hr2 : (storeVar ty ⟨b, k, none⟩ (.slice p n c)).run P w = .ok () (w.setCell ⟨b, k, none⟩ (.slice p n c)) := by
      simp [storeVar, sizeOf, typeInfo, hq, Value.cells, hs, hr, World.setCells]
    unfold Oper.wp execOp
    simp only [ho, hx, hy, Instr.storeAt, Instr.sureAddr, Sem.run_bind, Sem.run_pure, Result.andThen_ok, hr2]
    have h2 : wpList P ops Q rest (a.put o.dst undef) (w.setCell ⟨b, k, none⟩ (.slice p n c)) := by rw [hd]; exact h _ rfl
    exact hK _ _ h2
theorem upd_sub {X : Nat → List Int} {k r : Nat} {l : List Int} {b : Int} (h : b ∈ X r) : b ∈ upd X k (X k ++ l) r := by
  by_cases e : r = k
  · subst e; rw [upd_same]; exact List.mem_append_left _ h
  · rw [upd_ne _ _ e]; exact h
theorem upd_only {X : Nat → List Int} {k r : Nat} {l : List Int} {b : Int} (h : b ∈ upd X k (X k ++ l) r) : b ∈ X r ∨ (r = k ∧ b ∈ l) := by
  by_cases e : r = k
  · subst e; rw [upd_same, List.mem_append] at h; exact h.imp id fun h => ⟨rfl, h⟩
  · rw [upd_ne _ _ e] at h; exact .inl h
theorem upd_len (X : Nat → List Int) (k : Nat) (l : List Int) (r : Nat) : (upd X k (X k ++ l) r).length ≤ (X r).length + l.length := by
  by_cases e : r = k
  · subst e; rw [upd_same, List.length_append]; exact Nat.le_refl _
  · rw [upd_ne _ _ e]; omega

end Go.Proofs.YtifjcknklecdbaaDoor

/- The law RegallocProper. -/
set_option linter.unusedVariables false
set_option linter.unusedSimpArgs false
namespace Go.Proofs.YtifjcknklecdbaaDoor
open Go.RowKit Go.Maps Go.WideMaps

/-- The colors that the first j nodes have, of those that are adjacent to a. -/
def keysJ (A : Nat → Nat → Bool) (l : List Int) (a j : Nat) : List Lit := ((List.range j).filter (fun b => A a b && decide (0 ≤ l.getD b (-1)))).map (fun b => Lit.int .i64 (l.getD b (-1)))
def Sj {H : Type} (A : Nat → Nat → Bool) (l : List Int) (a j : Nat) : DataW H := setOf (.lit (.bool true)) (keysJ A l a j)
theorem Sj_zero {H : Type} (A : Nat → Nat → Bool) (l : List Int) (a : Nat) : Sj (H := H) A l a 0 = .map [] := by simp [Sj, keysJ, setOf]
theorem keysJ_next (A : Nat → Nat → Bool) (l : List Int) (a j : Nat) : keysJ A l a (j+1) = if A a j = true ∧ 0 ≤ l.getD j (-1) then keysJ A l a j ++ [.int .i64 (l.getD j (-1))] else keysJ A l a j := by
  unfold keysJ
  rw [List.range_succ, List.filter_append, List.map_append]
  by_cases h : A a j = true ∧ 0 ≤ l.getD j (-1)
  · rw [if_pos h, List.filter_cons_of_pos (by simpa using h)]; rfl
  · rw [if_neg h, List.filter_cons_of_neg (by simpa using h)]; simp
theorem Sj_put {H : Type} (A : Nat → Nat → Bool) (l : List Int) (a j : Nat) (h : A a j = true) (h0 : 0 ≤ l.getD j (-1)) : Sj (H := H) A l a (j+1) = (Sj A l a j).put (.int .i64 (l.getD j (-1))) (.lit (.bool true)) := by
  unfold Sj; rw [keysJ_next, if_pos ⟨h, h0⟩, setOf_snoc]
theorem Sj_same {H : Type} (A : Nat → Nat → Bool) (l : List Int) (a j : Nat) (h : ¬ (A a j = true ∧ 0 ≤ l.getD j (-1))) : Sj (H := H) A l a (j+1) = Sj A l a j := by
  unfold Sj; rw [keysJ_next, if_neg h]
theorem keysJ_key (A : Nat → Nat → Bool) (l : List Int) (a j : Nat) : ∀ x ∈ keysJ A l a j, WideAt.IsKeyLit x := by
  intro x hx
  unfold keysJ at hx
  obtain ⟨b, _, rfl⟩ := List.mem_map.1 hx
  trivial
theorem addKey_mem : ∀ (xs L : List Lit) (x : Lit), (x ∈ L ∨ x ∈ xs) → x ∈ xs.foldl addKey L
  | [], L, x, h => by simpa using h
  | y :: ys, L, x, h => by
    refine addKey_mem ys (addKey L y) x ?_
    unfold addKey
    rcases h with h | h
    · left; split
      · exact h
      · exact List.mem_append_left _ h
    · rcases List.mem_cons.1 h with rfl | h
      · left; split
        · rename_i h1
          obtain ⟨z, hz, hs⟩ := List.any_eq_true.1 h1
          have : z = x := Classical.byContradiction fun hne => by rw [sameKey_ne hne] at hs; cases hs
          exact this ▸ hz
        · simp
      · exact .inr h
theorem size_full {H : Type} (A : Nat → Nat → Bool) (l : List Int) (n a K : Nat) (h : ∀ c : Nat, (c : Int) < K → ∃ b, b < n ∧ A a b = true ∧ l.getD b (-1) = (c : Int)) : K ≤ Maps.size (Sj (H := H) A l a n) := by
  unfold Sj
  rw [size_setOf _ _ (keysJ_key A l a n)]
  haveI : DecidableEq Lit := fun _ _ => Classical.propDecidable _
  have h1 := len_le_of_sub ((List.range K).map (fun c : Nat => Lit.int .i64 (c : Int))) ((keysJ A l a n).foldl addKey []) ?_ ?_
  · simpa using h1
  · rw [List.Nodup, List.pairwise_map]
    exact List.nodup_range.imp fun h e => h (by injection e with _ e; omega)
  · intro x hx
    obtain ⟨c, hc, rfl⟩ := List.mem_map.1 hx
    obtain ⟨b, hb, hA, hv⟩ := h c (by have := List.mem_range.1 hc; omega)
    refine addKey_mem _ _ _ (.inr ?_)
    unfold keysJ
    exact List.mem_map.2 ⟨b, List.mem_filter.2 ⟨List.mem_range.2 hb, by rw [hA, hv]; simp⟩, by rw [hv]⟩
theorem lawI : Keyed Tryd.prog 3 := int_keyed Tryd.underlying3
theorem key_i (x : Int) (h : -9223372036854775808 ≤ x ∧ x ≤ 9223372036854775807) : keyOf Tryd.prog 3 (.int .i64 x) = some (.int .i64 x) := by
  refine keyOf_int_mk Tryd.underlying3 ?_
  simp [Lit.wf, IntKind.min, IntKind.max, IntKind.bits, IntKind.signed]; omega

end Go.Proofs.YtifjcknklecdbaaDoor

