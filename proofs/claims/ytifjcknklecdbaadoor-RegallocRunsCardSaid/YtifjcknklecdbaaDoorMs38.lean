import Derived.Test.YtifjcknklecdbaaDoorRunL
import Derived.Test.YtifjcknklecdbaaDoorRunI
import Derived.Test.YtifjcknklecdbaaDoorMs32
import Derived.Test.YtifjcknklecdbaaDoorRunC
import Derived.Test.YtifjcknklecdbaaDoorLivB
/- ir.Run's structures as the runner sees them: what is laid is kept by the run. No walk here. -/
set_option linter.unusedVariables false
set_option linter.unusedSimpArgs false
namespace Go.Proofs.YtifjcknklecdbaaDoor
open Go.RowKit Go.Maps

/-- A slice of slices that can be read, its elements told by a function. -/
def RdV (w : World) (v : Value) (n : Nat) (f : Nat → Value) : Prop := ∃ p cap, v = .slice p n cap ∧ ∀ k, k < n → ∃ m off, p = some ⟨m, off, none⟩ ∧ m < w.heap.size ∧ w.cell? ⟨m, off + k, none⟩ = some (f k)
theorem RdV.below {B : Nat} {w w' : World} {v : Value} {n : Nat} {f : Nat → Value} (h : RdV w v n f) (hb : Below B w w') (hB : w.heap.size ≤ B) : RdV w' v n f := by
  obtain ⟨p, cap, hp, hc⟩ := h
  refine ⟨p, cap, hp, fun k hk => ?_⟩
  obtain ⟨m, off, e, hm, hx⟩ := hc k hk
  exact ⟨m, off, e, Nat.lt_of_lt_of_le hm hb.size, (hb.cell (p := ⟨m, off + k, none⟩) (Nat.lt_of_lt_of_le hm hB)).trans hx⟩
theorem own_rows {e : TypeId} {col : Nat → Nat} {c : Nat} {w : World} {v : Value} {n : Nat} {xs : List Value} (h : OwnC e 1 col c w v n xs) (hl : xs.length = n) :
    ∃ L : List (Nat × List Value), (∀ p ∈ L, RowC2 w p.1 p.2 ∧ col p.1 = c) ∧ ∀ W, (∀ p ∈ L, RowC2 W p.1 p.2) → RdV W v n (fun k => xs.getD k default) := by
  by_cases hn : n = 0
  · subst hn
    obtain ⟨p, cap, rfl⟩ := h.shape
    exact ⟨[], fun p hp => (by cases hp), fun W _ => ⟨p, cap, rfl, fun k hk => absurd hk (Nat.not_lt_zero k)⟩⟩
  · obtain ⟨g, cap, hv, hg, hc, _, _⟩ := h.cell (j := 0) (by omega)
    refine ⟨[(g, xs)], fun p hp => ?_, fun W hW => ⟨some ⟨g, 0, none⟩, cap, hv, fun k hk => ⟨g, 0, rfl, ?_, ?_⟩⟩⟩
    · obtain rfl := List.mem_singleton.1 hp
      refine ⟨⟨hg, fun k u hu => ?_⟩, hc⟩
      have hk : k < xs.length := (List.getElem?_eq_some_iff.1 hu).1
      obtain ⟨g2, cap2, hv2, _, _, h2, _⟩ := h.cell (j := k) (by omega)
      rw [hv] at hv2
      cases hv2
      exact h2.trans hu
    · exact (hW _ List.mem_cons_self).1
    · rw [Nat.zero_add]
      refine (hW _ List.mem_cons_self).2 k _ ?_
      show xs[k]? = some (xs.getD k default)
      rw [List.getD_eq_getElem?_getD, List.getElem?_eq_getElem (by omega)]
      rfl
/-- The colors 6, 7, 8 are no colors of the runner's. -/
def recol (col : Nat → Nat) (k : Nat) : Nat := if col k = 6 ∨ col k = 7 ∨ col k = 8 then 0 else col k
theorem recol_same {col : Nat → Nat} {k c : Nat} (h : col k = c) (hc : c ≠ 6 ∧ c ≠ 7 ∧ c ≠ 8) : recol col k = c := by
  unfold recol
  rw [if_neg (by omega), h]
theorem recol_zero {col : Nat → Nat} {k : Nat} (h : col k = 6 ∨ col k = 7 ∨ col k = 8) : recol col k = 0 := if_pos h
theorem own_recol {e : TypeId} {size : Nat} {col : Nat → Nat} {c : Nat} {w : World} {v : Value} {n : Nat} {xs : List Value} (h : OwnC e size col c w v n xs) (hc : c ≠ 6 ∧ c ≠ 7 ∧ c ≠ 8) : OwnC e size (recol col) c w v n xs :=
  ⟨h.1, fun k hk => recol_same (h.2 k hk) hc⟩
/-- What is laid stands as rows that the runner keeps. -/
theorem LpRel.run {q : RK} {ob na no : Nat} {s : RS} {w : World} (h : LpRel q [] ob na no s w) :
    ∃ va vo Lx, RunRel { q with fr := [ob] } ((ob, [va, vo, .slice none 0 0, .int .i64 0, .int .i64 0, .int .i64 0]) :: Lx) s w ∧ q.nm = na + no ∧ (∀ p ∈ Lx, p.1 ≠ ob ∧ q.B ≤ p.1) ∧ ∀ W, (∀ p ∈ Lx, RowC2 W p.1 p.2) → RdV W va na q.V ∧ RdV W vo no fun k => q.V (na + k) := by
  obtain ⟨col, ov, va, vo, h⟩ := h
  obtain ⟨L1, h1, r1⟩ := own_rows h.arr (by simp)
  obtain ⟨L2, h2, r2⟩ := own_rows h.obj (by simp)
  have r := h.run
  have x := r.x
  refine ⟨va, vo, L1 ++ L2, ⟨recol col, ov, ⟨⟨x.mp, recol_same x.cm (by omega), fun k hk => recol_same (x.low k hk) (by omega), x.bel, x.big, x.le, x.inn, fun p hp => ?_, fun b hb => ?_⟩, ⟨r.box.row, r.box.fz, recol_same r.box.cb (by omega)⟩, own_recol r.regs (by omega), r.lr, r.lc, fun k hk => own_recol (r.mem k hk) (by omega), own_recol r.out (by omega)⟩⟩, h.nm, fun p hp => ?_, fun W hW => ?_⟩
  · rcases List.mem_cons.1 hp with rfl | hp
    · exact ⟨h.row, recol_zero (.inr (.inr h.cb))⟩
    · rcases List.mem_append.1 hp with hp | hp
      · exact ⟨(h1 p hp).1, recol_zero (.inl (h1 p hp).2)⟩
      · exact ⟨(h2 p hp).1, recol_zero (.inr (.inl (h2 p hp).2))⟩
  · obtain rfl := List.mem_singleton.1 hb
    exact ⟨h.row.lt, recol_zero (.inr (.inr h.cb)), h.fz⟩
  · have hcp : col p.1 = 6 ∨ col p.1 = 7 := (List.mem_append.1 hp).imp (fun h => (h1 p h).2) fun h => (h2 p h).2
    refine ⟨fun e => ?_, Nat.le_of_not_lt fun hlt => ?_⟩
    · rw [e, h.cb] at hcp
      omega
    · rw [x.low _ hlt] at hcp
      omega
  · have a1 := r1 W fun p hp => hW p (List.mem_append.2 (.inl hp))
    have a2 := r2 W fun p hp => hW p (List.mem_append.2 (.inr hp))
    obtain ⟨p1, c1, e1, g1⟩ := a1
    obtain ⟨p2, c2, e2, g2⟩ := a2
    refine ⟨⟨p1, c1, e1, fun k hk => ?_⟩, ⟨p2, c2, e2, fun k hk => ?_⟩⟩
    · obtain ⟨m, off, e, hm, hx⟩ := g1 k hk
      refine ⟨m, off, e, hm, hx.trans ?_⟩
      show some (((List.range na).map q.V).getD k default) = _
      rw [List.getD_eq_getElem?_getD, List.getElem?_map, List.getElem?_range hk]
      rfl
    · obtain ⟨m, off, e, hm, hx⟩ := g2 k hk
      refine ⟨m, off, e, hm, hx.trans ?_⟩
      show some (((List.range no).map fun k => q.V (na + k)).getD k default) = _
      rw [List.getD_eq_getElem?_getD, List.getElem?_map, List.getElem?_range hk]
      rfl
/-- A slice of outputs that can be read. -/
def RdOut (w : World) (v : Value) (l : List (Int × Int)) : Prop := ∃ p cap, v = .slice p l.length cap ∧ ∀ k, k < l.length → ∃ m, p = some ⟨m, 0, none⟩ ∧ m < w.heap.size ∧ w.cell? ⟨m, 2 * k, none⟩ = some (.int .i64 (l.getD k (0, 0)).1) ∧ w.cell? ⟨m, 2 * k + 1, none⟩ = some (.int .i32 (l.getD k (0, 0)).2)
theorem RdOut.below {B : Nat} {w w' : World} {v : Value} {l : List (Int × Int)} (h : RdOut w v l) (hb : Below B w w') (hB : w.heap.size ≤ B) : RdOut w' v l := by
  obtain ⟨p, cap, hp, hc⟩ := h
  refine ⟨p, cap, hp, fun k hk => ?_⟩
  obtain ⟨m, e, hm, h0, h1⟩ := hc k hk
  exact ⟨m, e, Nat.lt_of_lt_of_le hm hb.size, (hb.cell (p := ⟨m, 2 * k, none⟩) (Nat.lt_of_lt_of_le hm hB)).trans h0, (hb.cell (p := ⟨m, 2 * k + 1, none⟩) (Nat.lt_of_lt_of_le hm hB)).trans h1⟩
theorem outV_at : ∀ (l : List (Int × Int)) (k : Nat), k < l.length → (outV l)[2 * k]? = some (.int .i64 (l.getD k (0, 0)).1) ∧ (outV l)[2 * k + 1]? = some (.int .i32 (l.getD k (0, 0)).2)
  | b :: l, 0, _ => ⟨rfl, rfl⟩
  | b :: l, k + 1, hk => by
    have h := outV_at l k (by simpa using hk)
    have e : outV (b :: l) = Value.int .i64 b.1 :: .int .i32 b.2 :: outV l := by simp [outV]
    rw [e, show 2 * (k + 1) = 2 * k + 1 + 1 by omega, show 2 * k + 1 + 1 + 1 = (2 * k + 1) + 1 + 1 by omega]
    exact h
theorem OwnC.rdOut {col : Nat → Nat} {c : Nat} {w : World} {v : Value} {l : List (Int × Int)} (h : OwnC 43 2 col c w v l.length (outV l)) : RdOut w v l := by
  obtain ⟨p, cap, rfl⟩ := h.shape
  refine ⟨p, cap, rfl, fun k hk => ?_⟩
  obtain ⟨g, cap1, e1, hg, _, h1, _⟩ := h.cell (j := 2 * k) (by omega)
  obtain ⟨g2, cap2, e2, _, _, h2, _⟩ := h.cell (j := 2 * k + 1) (by omega)
  cases e1
  cases e2
  exact ⟨g, rfl, hg, h1.trans (outV_at l k hk).1, h2.trans (outV_at l k hk).2⟩
theorem OwnC.rd32 {col : Nat → Nat} {c : Nat} {w : World} {v : Value} {l : List Int} (h : OwnC 21 1 col c w v l.length (l.map (.int .i32))) : RdI32 w v l := by
  obtain ⟨p, cap, rfl⟩ := h.shape
  refine ⟨p, cap, rfl, fun k hk => ?_⟩
  obtain ⟨g, cap1, e1, hg, _, h1, _⟩ := h.cell (j := k) (by omega)
  cases e1
  refine ⟨g, 0, rfl, hg, ?_⟩
  rw [Nat.zero_add, h1, List.getElem?_map, List.getElem?_eq_getElem hk, List.getD_eq_getElem?_getD, List.getElem?_eq_getElem hk]
  rfl
/-- The rows of words behind a run. -/
theorem rdR_of {w : World} {v : Value} {n : Nat} {f : Nat → Value} {m : Nat → List Int} (h : RdV w v n f) (hm : ∀ k, k < n → RdI32 w (f k) (m k)) : RdR32 w v ((List.range n).map m) := by
  obtain ⟨p, cap, rfl, hc⟩ := h
  refine ⟨p, cap, by simp, fun k hk => ?_⟩
  have hk : k < n := by simpa using hk
  obtain ⟨g, off, e, hg, hx⟩ := hc k hk
  obtain ⟨q2, c2, e2, h2⟩ := hm k hk
  have hk2 : ((List.range n).map m).getD k [] = m k := by
    rw [List.getD_eq_getElem?_getD, List.getElem?_map, List.getElem?_range hk]
    rfl
  rw [hk2]
  exact ⟨g, off, q2, c2, e, hg, by rw [hx, e2], ⟨q2, c2, rfl, h2⟩⟩
theorem own_len {e : TypeId} {size c n : Nat} {col : Nat → Nat} {w : World} {v : Value} {xs : List Value} (h : OwnC e size col c w v n xs) : n ≤ maxLen := by
  rcases h.1.2 with ⟨_, h2⟩ | ⟨g, cap, cur, _, _, _, h3, h4, _⟩
  · rw [h2]; exact Nat.zero_le _
  · exact Nat.le_trans h3 h4
/-- What a run leaves can be read behind stores into the outcome and the result. -/
theorem run_final {q : RK} {Lx : List (Nat × List Value)} {s : RS} {col : Nat → Nat} {w W : World} {ov va vo : Value} {ob res na no : Nat} {row : List Value} (h : RunAt q ((ob, row) :: Lx) s col w ov) (ht : Touch (fun k => if k = ob ∨ k = res then 1 else 0) 1 w W) (hres : res < q.B)
    (hL : ∀ p ∈ Lx, p.1 ≠ ob ∧ q.B ≤ p.1) (hrd : ∀ W, (∀ p ∈ Lx, RowC2 W p.1 p.2) → RdV W va na q.V ∧ RdV W vo no fun k => q.V (na + k)) (hnm : q.nm = na + no) :
    RdR32 W va ((List.range na).map s.mem) ∧ RdR32 W vo ((List.range no).map fun k => s.mem (na + k)) ∧ RdOut W ov s.out ∧ (∀ k, k < na + no → (s.mem k).length ≤ maxLen) ∧ s.out.length ≤ maxLen := by
  have hob : col ob = 0 := (h.x.rows _ List.mem_cons_self).2
  have hne : ∀ k, k ≠ ob → k ≠ res → (if k = ob ∨ k = res then 1 else 0) ≠ 1 := fun k h1 h2 => by rw [if_neg (by omega)]; decide
  have t0 : Touch col 0 w W := ⟨ht.os, ht.tape, ht.output, ht.size, fun k hk hc => ht.block k hk (hne k (fun e => hc (by rw [e]; exact hob)) (fun e => hc (h.x.low k (by omega))))⟩
  have hm : ∀ k, k < na + no → RdI32 W (q.V k) (s.mem k) := fun k hk => ((h.mem k (by omega)).other t0 (by omega)).rd32
  obtain ⟨r1, r2⟩ := hrd W fun p hp => by
    have hr := (h.x.rows p (List.mem_cons_of_mem _ hp)).1
    have hb := ht.block p.1 hr.lt (hne _ (hL p hp).1 (by have := (hL p hp).2; omega))
    exact ⟨Nat.lt_of_lt_of_le hr.lt ht.size, fun k v hv => (World.cell?_of_block (a := ⟨p.1, k, none⟩) hb).trans (hr.2 k v hv)⟩
  exact ⟨rdR_of r1 fun k hk => hm k (by omega), rdR_of r2 fun k hk => hm (na + k) (by omega), (h.out.other t0 (by decide)).rdOut, fun k hk => own_len (h.mem k (by omega)), own_len h.out⟩
end Go.Proofs.YtifjcknklecdbaaDoor

/- The names of a run: place in the function's arrays, then in the shared objects. No walk here. -/
set_option linter.unusedVariables false
set_option linter.unusedSimpArgs false
namespace Go.Proofs.YtifjcknklecdbaaDoor
open Go.RowKit Go.Maps

def nmN (A S : List Arr) (j : Nat) : ByteArray := if j < A.length then (A.getD j default).1 else (S.getD (j - A.length) default).1
theorem nmN_a (A S : List Arr) {j : Nat} (h : j < A.length) : nmN A S j = (A.getD j default).1 := if_pos h
theorem nmN_s (A S : List Arr) (j : Nat) : nmN A S (A.length + j) = (S.getD j default).1 := by
  unfold nmN
  rw [if_neg (by omega), Nat.add_sub_cancel_left]
def idxN (A S : List Arr) (s : ByteArray) : Nat := ((List.range (A.length + S.length)).find? (fun j => decide (nmN A S j = s))).getD 0
theorem idxN_ok {A S : List Arr} {s : ByteArray} {j : Nat} (hj : j < A.length + S.length) (h : nmN A S j = s) : idxN A S s < A.length + S.length ∧ nmN A S (idxN A S s) = s := by
  unfold idxN
  cases hf : (List.range (A.length + S.length)).find? (fun j => decide (nmN A S j = s)) with
  | none =>
    have := (List.find?_eq_none.1 hf) j (List.mem_range.2 hj)
    simp [h] at this
  | some k =>
    have h1 := List.find?_some hf
    exact ⟨List.mem_range.1 (List.mem_of_find?_eq_some hf), by simpa using h1⟩
theorem kinds_none {F : Kinds} {l : List Arr} {v : Bool} {s : ByteArray} : ∀ k, (kinds F l v k s).isSome = false → (F s).isSome = false ∧ ∀ j, j < k → (l.getD j default).1 ≠ s
  | 0, h => ⟨h, fun j hj => absurd hj (Nat.not_lt_zero j)⟩
  | k + 1, h => by
    unfold kinds updK at h
    split at h
    · cases h
    · rename_i hne
      obtain ⟨h1, h2⟩ := kinds_none k h
      refine ⟨h1, fun j hj => ?_⟩
      by_cases e : j = k
      · subst e
        exact fun e => hne e.symm
      · exact h2 j (by omega)
theorem kinds_some {F : Kinds} {l : List Arr} {v : Bool} {s : ByteArray} : ∀ k, (kinds F l v k s).isSome = true → (F s).isSome = true ∨ ∃ j, j < k ∧ (l.getD j default).1 = s
  | 0, h => .inl h
  | k + 1, h => by
    unfold kinds updK at h
    split at h
    · rename_i he
      exact .inr ⟨k, by omega, he.symm⟩
    · rcases kinds_some k h with h1 | ⟨j, hj, e⟩
      · exact .inl h1
      · exact .inr ⟨j, by omega, e⟩
theorem nm_ne {R : Int} {A S : List Arr} {bs : List IBlk} (hv : vFun R A S bs = true) {j k : Nat} (hk : k < A.length + S.length) (hj : j < k) : nmN A S j ≠ nmN A S k := by
  obtain ⟨_, _, _, hA, hS, _⟩ := (vFun_iff R A S bs).1 hv
  by_cases h : k < A.length
  · have h1 := hA k h
    simp only [okA, Bool.and_eq_true, Bool.not_eq_true'] at h1
    rw [nmN_a A S h, nmN_a A S (by omega)]
    exact (kinds_none k h1.1).2 j hj
  · obtain ⟨k2, rfl⟩ : ∃ k2, k = A.length + k2 := ⟨k - A.length, by omega⟩
    have h1 := hS k2 (by omega)
    simp only [okS, Bool.not_eq_true'] at h1
    obtain ⟨h2, h3⟩ := kinds_none k2 h1
    rw [nmN_s]
    by_cases hja : j < A.length
    · rw [nmN_a A S hja]
      exact (kinds_none A.length h2).2 j hja
    · obtain ⟨j2, rfl⟩ : ∃ j2, j = A.length + j2 := ⟨j - A.length, by omega⟩
      rw [nmN_s]
      exact h3 j2 (by omega)
theorem nm_step {R : Int} {A S : List Arr} {bs : List IBlk} (hv : vFun R A S bs = true) {k : Nat} (hk : k < A.length + S.length) {F : ByteArray → Option Value} {V : Nat → Value} (hF : ∀ j, j < k → F (nmN A S j) = some (V j)) (v : Value) :
    ∀ j, j < k + 1 → updF F (nmN A S k) v (nmN A S j) = some (upd V k v j) := by
  intro j hj
  by_cases e : j = k
  · subst e
    rw [updF_same, upd_same]
  · rw [updF_ne (nm_ne hv hk (by omega)), upd_ne _ _ e]
    exact hF j (by omega)
theorem names_ok {q : RK} {A S : List Arr} (hF : ∀ j, j < A.length + S.length → q.F (nmN A S j) = some (q.V j)) (hn : q.nm = A.length + S.length) (hi : q.idx = idxN A S) : NamesOk q (kindS A S S.length) := by
  intro s hs
  have hx : ∃ j, j < A.length + S.length ∧ nmN A S j = s := by
    rcases kinds_some S.length hs with h1 | ⟨j, hj, e⟩
    · rcases kinds_some A.length h1 with h2 | ⟨j, hj, e⟩
      · cases h2
      · exact ⟨j, by omega, by rw [nmN_a A S hj]; exact e⟩
    · exact ⟨A.length + j, by omega, by rw [nmN_s]; exact e⟩
  obtain ⟨j, hj, e⟩ := hx
  obtain ⟨h1, h2⟩ := idxN_ok hj e
  rw [hi, hn]
  have h3 := hF _ h1
  rw [h2] at h3
  exact ⟨h3, h1⟩
/-- The structures while the copies are laid. -/
def qL (w : World) (R : Nat) (iv : Value) (inp : List Int) (idx : ByteArray → Nat) (n k : Nat) (V : Nat → Value) (F : ByteArray → Option Value) : RK := { qB w R iv inp idx with n := n, nm := k, V := V, F := F }
end Go.Proofs.YtifjcknklecdbaaDoor

/- The law's renamed function as it is built, told by colors: its box 8, its blocks 6, the code of finished blocks 9; the open block's box 7, its code 5. No walk here. -/
set_option linter.unusedVariables false
set_option linter.unusedSimpArgs false
namespace Go.Proofs.YtifjcknklecdbaaDoor
open Go.RowKit

theorem Touch.setRow {col : Nat → Nat} {c : Nat} {w : World} {g : Nat} (hg : col g = c) (cs : Array Value) : Touch col c w (w.setRow g cs) :=
  ⟨rfl, rfl, rfl, by simp [World.setRow], fun k _ hne => by
    simp only [World.setRow, Array.getElem?_modify]
    rw [if_neg (fun e => hne (by rw [← e]; exact hg))]⟩
def insC (i : IIns) : List Value := [.int .u8 i.op, .int .i64 i.dst, .int .i64 i.x, .int .i64 i.y, .int .i64 i.imm, .string i.sym]
def insL (l : List IIns) : List Value := l.flatMap insC
theorem insL_push (l : List IIns) (i : IIns) : insL (l ++ [i]) = insL l ++ insC i := by simp [insL]
def blkC (v : Value) (b : IBlk) : List Value := [v, .int .u8 b.kind, .int .i64 b.x, .int .i64 b.tgt, .int .i64 b.els]
def blkL (cv : Nat → Value) (D : List IBlk) : List Value := (List.range D.length).flatMap fun j => blkC (cv j) (D.getD j default)
theorem getD_push {α : Type} [Inhabited α] (D : List α) (b : α) {j : Nat} (h : j < D.length) : (D ++ [b]).getD j default = D.getD j default := by
  rw [List.getD_eq_getElem?_getD, List.getD_eq_getElem?_getD, List.getElem?_append_left h]
theorem getD_last {α : Type} [Inhabited α] (D : List α) (b : α) : (D ++ [b]).getD D.length default = b := by
  rw [List.getD_eq_getElem?_getD, List.getElem?_append_right (Nat.le_refl _)]
  simp
theorem blkL_push (cv : Nat → Value) (D : List IBlk) (v : Value) (b : IBlk) : blkL (upd cv D.length v) (D ++ [b]) = blkL cv D ++ blkC v b := by
  unfold blkL
  rw [List.length_append, List.length_singleton, List.range_succ, List.flatMap_append, List.flatMap_cons, List.flatMap_nil, List.append_nil, upd_same, getD_last]
  congr 1
  rw [List.flatMap_def, List.flatMap_def]
  congr 1
  refine List.map_congr_left fun k hk => ?_
  have hk := List.mem_range.1 hk
  rw [upd_ne _ _ (by omega), getD_push _ _ hk]
theorem insC_at : ∀ (l : List IIns) (k : Nat), k < l.length → ∀ j, j < 6 → (insL l)[k * 6 + j]? = (insC (l.getD k default))[j]?
  | b :: l, 0, _, j, hj => by
    have e : insL (b :: l) = insC b ++ insL l := rfl
    rw [e, Nat.zero_mul, Nat.zero_add, List.getElem?_append_left (by simpa [insC] using hj)]
    rfl
  | b :: l, k + 1, hk, j, hj => by
    have e : insL (b :: l) = insC b ++ insL l := rfl
    rw [e, List.getElem?_append_right (by simp [insC]; omega)]
    have h6 : (insC b).length = 6 := rfl
    rw [h6, show (k + 1) * 6 + j - 6 = k * 6 + j by omega]
    exact insC_at l k (by simpa using hk) j hj
theorem blkC_at (cv : Nat → Value) (D : List IBlk) (k : Nat) (hk : k < D.length) (j : Nat) (hj : j < 5) : (blkL cv D)[k * 5 + j]? = (blkC (cv k) (D.getD k default))[j]? := by
  unfold blkL
  generalize D.length = n at hk ⊢
  induction n with
  | zero => omega
  | succ n ih =>
    have hl : ∀ m : Nat, ((List.range m).flatMap fun j => blkC (cv j) (D.getD j default)).length = m * 5 := by
      intro m
      induction m with
      | zero => rfl
      | succ m ihm =>
        rw [List.range_succ, List.flatMap_append, List.length_append, ihm]
        have h5 : (List.flatMap (fun j => blkC (cv j) (D.getD j default)) [m]).length = 5 := rfl
        rw [h5]
        omega
    rw [List.range_succ, List.flatMap_append]
    by_cases e : k = n
    · subst e
      rw [List.getElem?_append_right (by rw [hl]; omega), hl, Nat.add_sub_cancel_left]
      simp
    · rw [List.getElem?_append_left (by rw [hl]; omega)]
      exact ih (by omega)
/-- The renamed function: D are its finished blocks. -/
structure RnAt (W0 : World) (B : Nat) (hd : List Value) (L : List (Nat × List Value)) (D : List IBlk) (cv : Nat → Value) (col : Nat → Nat) (w : World) (vb : Value) : Prop where
  low : ∀ k, k < B → col k = 0
  bel : Below B W0 w
  big : B ≤ w.heap.size
  rows : ∀ p ∈ L, RowC2 w p.1 p.2 ∧ col p.1 = 0
  g : RowC2 w B (hd ++ [vb])
  gf : ∀ k, w.frozen? ⟨B, k, none⟩ = false
  gc : col B = 8
  bl : OwnC 52 5 col 6 w vb D.length (blkL cv D)
  code : ∀ j, j < D.length → OwnC 59 6 col 9 w (cv j) (D.getD j default).code.length (insL (D.getD j default).code)
def RnRel (W0 : World) (B : Nat) (hd : List Value) (L : List (Nat × List Value)) (D : List IBlk) (w : World) : Prop := ∃ col cv vb, RnAt W0 B hd L D cv col w vb
/-- The open block: its box cb, its code E so far. -/
structure OpAt (W0 : World) (B : Nat) (hd : List Value) (L : List (Nat × List Value)) (D : List IBlk) (cb : Nat) (tl : List Value) (E : List IIns) (cv : Nat → Value) (col : Nat → Nat) (w : World) (vb ev : Value) : Prop where
  rn : RnAt W0 B hd L D cv col w vb
  c : RowC2 w cb (ev :: tl)
  cf : ∀ k, w.frozen? ⟨cb, k, none⟩ = false
  cc : col cb = 7
  en : OwnC 59 6 col 5 w ev E.length (insL E)
def OpRel (W0 : World) (B : Nat) (hd : List Value) (L : List (Nat × List Value)) (D : List IBlk) (cb : Nat) (tl : List Value) (E : List IIns) (w : World) : Prop := ∃ col cv vb ev, OpAt W0 B hd L D cb tl E cv col w vb ev
theorem row_set2 {w : World} {l : List Value} {b : Nat} (h : RowC2 w b l) (k : Nat) (v : Value) : RowC2 (w.setCell ⟨b, k, none⟩ v) b (l.set k v) := by
  refine ⟨by simpa [World.setCell] using h.lt, fun j u hu => ?_⟩
  rw [List.getElem?_set] at hu
  by_cases e : k = j
  · subst e
    rw [if_pos rfl] at hu
    split at hu
    · rename_i hlt
      have h1 := h.2 k l[k] (List.getElem?_eq_getElem hlt)
      cases hu
      exact World.cell?_setCell_same _ _ _ h1
    · cases hu
  · rw [if_neg e] at hu
    exact (World.cell?_setCell_other _ _ _ _ (by intro e2; injection e2 with _ e2; exact e (by first | exact e2 | exact e2.symm))).trans (h.2 j u hu)
theorem row_block {w w' : World} {l : List Value} {b : Nat} (h : RowC2 w b l) (hb : w'.heap[b]? = w.heap[b]?) (hs : w.heap.size ≤ w'.heap.size) : RowC2 w' b l :=
  ⟨Nat.lt_of_lt_of_le h.lt hs, fun k v hv => (World.cell?_of_block (a := ⟨b, k, none⟩) hb).trans (h.2 k v hv)⟩
section
variable {W0 w w' w3 : World} {B cb : Nat} {hd tl : List Value} {L : List (Nat × List Value)} {D : List IBlk} {E : List IIns} {cv : Nat → Value} {col : Nat → Nat} {vb ev : Value}
theorem RnAt.touch (h : RnAt W0 B hd L D cv col w vb) {c : Nat} (ht : Touch col c w w') (h0 : c ≠ 0) (h6 : c ≠ 6) (h8 : c ≠ 8) (h9 : c ≠ 9) : RnAt W0 B hd L D cv (paint col w.heap.size c) w' vb := by
  have hg := ht.block B h.g.lt (by rw [h.gc]; exact fun e => h8 e.symm)
  refine ⟨low_paint h.low h.big, h.bel.trans (ht.below h.big fun k hk e => by rw [h.low k hk] at e; exact h0 e.symm), Nat.le_trans h.big ht.size, fun p hp => ?_, row_block h.g hg ht.size, fun k => (World.frozen?_of_block (a := ⟨B, k, none⟩) hg).trans (h.gf k), by rw [paint_lt h.g.lt]; exact h.gc, h.bl.other ht (fun e => h6 e.symm), fun j hj => (h.code j hj).other ht (fun e => h9 e.symm)⟩
  obtain ⟨h1, hc⟩ := h.rows p hp
  exact ⟨row_block h1 (ht.block p.1 h1.lt (by rw [hc]; exact fun e => h0 e.symm)) ht.size, by rw [paint_lt h1.lt]; exact hc⟩
theorem RnAt.keep (h : RnAt W0 B hd L D cv col w vb) (hb : Below w.heap.size w w') : RnAt W0 B hd L D cv (paint col w.heap.size 0) w' vb := by
  have ht : Touch col 0 w w' := Touch.of_below hb
  have hg := hb.block B h.g.lt
  refine ⟨low_paint h.low h.big, h.bel.trans (hb.mono h.big), Nat.le_trans h.big hb.size, fun p hp => ?_, row_block h.g hg hb.size, fun k => (World.frozen?_of_block (a := ⟨B, k, none⟩) hg).trans (h.gf k), by rw [paint_lt h.g.lt]; exact h.gc, h.bl.other ht (by decide), fun j hj => (h.code j hj).other ht (by decide)⟩
  obtain ⟨h1, hc⟩ := h.rows p hp
  exact ⟨row_block h1 (hb.block p.1 h1.lt) hb.size, by rw [paint_lt h1.lt]; exact hc⟩
theorem OpAt.keep (h : OpAt W0 B hd L D cb tl E cv col w vb ev) (hb : Below w.heap.size w w') : OpAt W0 B hd L D cb tl E cv (paint col w.heap.size 0) w' vb ev := by
  have ht : Touch col 0 w w' := Touch.of_below hb
  have hc := hb.block cb h.c.lt
  exact ⟨h.rn.keep hb, row_block h.c hc hb.size, fun k => (World.frozen?_of_block (a := ⟨cb, k, none⟩) hc).trans (h.cf k), by rw [paint_lt h.c.lt]; exact h.cc, h.en.other ht (by decide)⟩
theorem RnRel.keep (h : RnRel W0 B hd L D w) (hb : Below w.heap.size w w') : RnRel W0 B hd L D w' := by
  obtain ⟨col, cv, vb, h⟩ := h
  exact ⟨_, _, _, h.keep hb⟩
theorem OpRel.keep (h : OpRel W0 B hd L D cb tl E w) (hb : Below w.heap.size w w') : OpRel W0 B hd L D cb tl E w' := by
  obtain ⟨col, cv, vb, ev, h⟩ := h
  exact ⟨_, _, _, _, h.keep hb⟩
theorem RnRel.row (h : RnRel W0 B hd L D w) (hb : Below w.heap.size w w') {b : Nat} {cs : List Value} (hr : RowC2 w' b cs) (hB : w.heap.size ≤ b) : RnRel W0 B hd ((b, cs) :: L) D w' := by
  obtain ⟨col, cv, vb, h⟩ := h
  have hk := h.keep hb
  refine ⟨_, _, _, ⟨hk.low, hk.bel, hk.big, fun p hp => ?_, hk.g, hk.gf, hk.gc, hk.bl, hk.code⟩⟩
  rcases List.mem_cons.1 hp with rfl | hp
  · exact ⟨hr, paint_ge hB⟩
  · exact hk.rows p hp
theorem RnRel.made (h : RnRel W0 B hd L D w) (cs : List Value) (t : TypeId) : RnRel W0 B hd ((w.heap.size, cs) :: L) D (w.alloc (.cells cs.toArray t)) :=
  h.row (bAlloc (Nat.le_refl _) (Below.refl _ _)) (RowC2.made w cs t) (Nat.le_refl _)
theorem RnRel.drop {p : Nat × List Value} (h : RnRel W0 B hd (p :: L) D w) : RnRel W0 B hd L D w := by
  obtain ⟨col, cv, vb, h⟩ := h
  exact ⟨_, _, _, ⟨h.low, h.bel, h.big, fun p hp => h.rows p (List.mem_cons_of_mem _ hp), h.g, h.gf, h.gc, h.bl, h.code⟩⟩
theorem RnRel.bel (h : RnRel W0 B hd L D w) : Below B W0 w ∧ B ≤ w.heap.size := by
  obtain ⟨col, cv, vb, h⟩ := h
  exact ⟨h.bel, h.big⟩
theorem OpRel.bel (h : OpRel W0 B hd L D cb tl E w) : Below B W0 w ∧ B ≤ w.heap.size := by
  obtain ⟨col, cv, vb, ev, h⟩ := h
  exact ⟨h.rn.bel, h.rn.big⟩
theorem RnRel.at (h : RnRel W0 B hd L D w) {b : Nat} {cs : List Value} (hp : (b, cs) ∈ L) : RowC2 w b cs := by
  obtain ⟨_, _, _, h⟩ := h
  exact (h.rows _ hp).1
theorem OpRel.at (h : OpRel W0 B hd L D cb tl E w) {b : Nat} {cs : List Value} (hp : (b, cs) ∈ L) : RowC2 w b cs := by
  obtain ⟨_, _, _, _, h⟩ := h
  exact (h.rn.rows _ hp).1
/-- A block is opened. -/
theorem RnRel.open (h : RnRel W0 B hd L D w) (tl : List Value) (t : TypeId) : OpRel W0 B hd L D w.heap.size tl [] (w.alloc (.cells (.slice none 0 0 :: tl).toArray t)) := by
  obtain ⟨col, cv, vb, h⟩ := h
  have hb : Below w.heap.size w (w.alloc (.cells (.slice none 0 0 :: tl).toArray t)) := bAlloc (Nat.le_refl _) (Below.refl _ _)
  have ht : Touch col 7 w (w.alloc (.cells (.slice none 0 0 :: tl).toArray t)) := Touch.of_below hb
  refine ⟨_, cv, vb, .slice none 0 0, ⟨h.touch ht (by decide) (by decide) (by decide) (by decide), RowC2.made w (.slice none 0 0 :: tl) t, fun k => ?_, paint_ge (Nat.le_refl _), OwnC.nil _ _ _ _ _⟩⟩
  unfold World.frozen?
  rw [heap_alloc_new]
  simp only [Nat.not_lt_zero, decide_false, Bool.and_false]
/-- An instruction more: behind the store into the open block. -/
theorem OpAt.add (h : OpAt W0 B hd L D cb tl E cv col w vb ev) {W2 : World} {i : IIns} {v' : Value} (hb : Below w.heap.size w W2) (hg : W2.grownBy w3 ev.ownBlock) (hv : w3.ownsRow 0 59 6 v' (E.length + 1) (insL E ++ insC i)) (hk : v'.ownBlock = ev.ownBlock ∨ ∀ k, v'.ownBlock = some k → W2.heap.size ≤ k) :
    (w3.cell? ⟨cb, 0, none⟩ = some ev ∧ w3.frozen? ⟨cb, 0, none⟩ = false ∧ cb < w3.heap.size) ∧ OpRel W0 B hd L D cb tl (E ++ [i]) (w3.setCell ⟨cb, 0, none⟩ v') := by
  obtain ⟨hc, ht⟩ := h.en.push hb hg hv hk
  have hcb := ht.block cb h.c.lt (by rw [h.cc]; decide)
  have r := h.rn.touch ht (by decide) (by decide) (by decide) (by decide)
  have c1 := row_block h.c hcb ht.size
  have f1 : ∀ k, w3.frozen? ⟨cb, k, none⟩ = false := fun k => (World.frozen?_of_block (a := ⟨cb, k, none⟩) hcb).trans (h.cf k)
  have k1 : paint col w.heap.size 5 cb = 7 := by rw [paint_lt h.c.lt]; exact h.cc
  generalize paint col w.heap.size 5 = col2 at r hc k1
  have t2 : Touch col2 7 w3 (w3.setCell ⟨cb, 0, none⟩ v') := Touch.setCell (a := ⟨cb, 0, none⟩) k1 v'
  refine ⟨⟨c1.at 0 rfl, f1 0, c1.lt⟩, _, cv, vb, v', ⟨r.touch t2 (by decide) (by decide) (by decide) (by decide), row_set2 c1 0 v', fun k => by rw [World.frozen?_setCell]; exact f1 k, by rw [paint_lt c1.lt]; exact k1, ?_⟩⟩
  have h3 := hc.other t2 (by decide)
  rw [← insL_push] at h3
  have e : (E ++ [i]).length = E.length + 1 := by simp
  rw [e]
  exact h3
/-- The open block's register is renamed. -/
theorem OpAt.setTl (h : OpAt W0 B hd L D cb tl E cv col w vb ev) (k : Nat) (v : Value) : OpRel W0 B hd L D cb (tl.set k v) E (w.setCell ⟨cb, k + 1, none⟩ v) := by
  have t2 : Touch col 7 w (w.setCell ⟨cb, k + 1, none⟩ v) := Touch.setCell (a := ⟨cb, k + 1, none⟩) h.cc v
  have h2 := row_set2 h.c (k + 1) v
  exact ⟨_, cv, vb, ev, ⟨h.rn.touch t2 (by decide) (by decide) (by decide) (by decide), h2, fun j => by rw [World.frozen?_setCell]; exact h.cf j, by rw [paint_lt h.c.lt]; exact h.cc, h.en.other t2 (by decide)⟩⟩
def recol9 (col : Nat → Nat) (k : Nat) : Nat := if col k = 5 then 9 else col k
theorem recol9_same {c k : Nat} (h : col k = c) (hc : c ≠ 5) : recol9 col k = c := by
  unfold recol9
  rw [if_neg (by omega), h]
theorem own_recol9 {e : TypeId} {size c n : Nat} {v : Value} {xs : List Value} (h : OwnC e size col c w v n xs) (hc : c ≠ 5) : OwnC e size (recol9 col) c w v n xs := ⟨h.1, fun k hk => recol9_same (h.2 k hk) hc⟩
/-- The block is finished: behind the store into the function. -/
theorem OpAt.close {b : IBlk} (h : OpAt W0 B hd L D cb (blkC ev b).tail b.code cv col w vb ev) (hl : hd.length = 3) {W2 : World} {v' : Value} (hb : Below w.heap.size w W2) (hg : W2.grownBy w3 vb.ownBlock) (hv : w3.ownsRow 0 52 5 v' (D.length + 1) (blkL cv D ++ blkC ev b)) (hk : v'.ownBlock = vb.ownBlock ∨ ∀ k, v'.ownBlock = some k → W2.heap.size ≤ k) :
    (w3.cell? ⟨B, 3, none⟩ = some vb ∧ w3.frozen? ⟨B, 3, none⟩ = false ∧ B < w3.heap.size) ∧ RnRel W0 B hd L (D ++ [b]) (w3.setCell ⟨B, 3, none⟩ v') := by
  have r := h.rn
  obtain ⟨hc, ht⟩ := r.bl.push hb hg hv hk
  have en := h.en.other ht (by decide)
  have cd := fun j hj => (r.code j hj).other ht (by decide)
  have hB := ht.block B r.g.lt (by rw [r.gc]; decide)
  have g1 := row_block r.g hB ht.size
  have f1 : ∀ k, w3.frozen? ⟨B, k, none⟩ = false := fun k => (World.frozen?_of_block (a := ⟨B, k, none⟩) hB).trans (r.gf k)
  have k1 : paint col w.heap.size 6 B = 8 := by rw [paint_lt r.g.lt]; exact r.gc
  have l1 := low_paint (c := 6) r.low r.big
  have b1 := r.bel.trans (ht.below r.big fun k hk e => by rw [r.low k hk] at e; cases e)
  have z1 := Nat.le_trans r.big ht.size
  have rw1 : ∀ p ∈ L, RowC2 w3 p.1 p.2 ∧ paint col w.heap.size 6 p.1 = 0 := fun p hp => by
    obtain ⟨h1, hc⟩ := r.rows p hp
    exact ⟨row_block h1 (ht.block p.1 h1.lt (by rw [hc]; decide)) ht.size, by rw [paint_lt h1.lt]; exact hc⟩
  generalize paint col w.heap.size 6 = col2 at hc en cd k1 l1 rw1
  have t2 : Touch col2 8 w3 (w3.setCell ⟨B, 3, none⟩ v') := Touch.setCell (a := ⟨B, 3, none⟩) k1 v'
  have en2 := en.other t2 (by decide)
  have hc2 := hc.other t2 (by decide)
  have cd2 := fun j hj => (cd j hj).other t2 (by decide)
  have g3 : (hd ++ [vb])[3]? = some vb := by rw [List.getElem?_append_right (by omega), hl]; rfl
  refine ⟨⟨g1.at 3 g3, f1 3, g1.lt⟩, recol9 (paint col2 w3.heap.size 8), upd cv D.length ev, v', ⟨fun k hk => recol9_same (low_paint l1 z1 k hk) (by decide), b1.trans (t2.below z1 fun k hk e => by rw [l1 k hk] at e; cases e), Nat.le_trans z1 t2.size, fun p hp => ?_, ?_, fun k => by rw [World.frozen?_setCell]; exact f1 k, recol9_same (by rw [paint_lt g1.lt]; exact k1) (by decide), ?_, fun j hj => ?_⟩⟩
  · obtain ⟨h1, h2⟩ := rw1 p hp
    exact ⟨row_block h1 (t2.block p.1 h1.lt (by rw [h2]; decide)) t2.size, recol9_same (by rw [paint_lt h1.lt]; exact h2) (by decide)⟩
  · have h3 := row_set2 g1 3 v'
    have e : (hd ++ [vb]).set 3 v' = hd ++ [v'] := by
      rw [List.set_append_right _ _ (by omega), hl]
      rfl
    rw [e] at h3
    exact h3
  · rw [blkL_push, List.length_append, List.length_singleton]
    exact own_recol9 hc2 (by decide)
  · by_cases e : j = D.length
    · subst e
      rw [upd_same, getD_last]
      exact ⟨en2.1, fun k hk => if_pos (en2.2 k hk)⟩
    · have hj2 : j < D.length := by rw [List.length_append, List.length_singleton] at hj; omega
      rw [upd_ne _ _ e, getD_push _ _ hj2]
      exact own_recol9 (cd2 j hj2) (by decide)
/-- What is built can be read as blocks. -/
theorem OwnC.insAt {c : Nat} {v : Value} {l : List IIns} (h : OwnC 59 6 col c w v l.length (insL l)) : InsAt w v l := by
  obtain ⟨p, cap, rfl⟩ := h.shape
  refine ⟨p, cap, rfl, fun k hk => ?_⟩
  have hx : ∀ j, j < 6 → ∃ g cap', Value.slice p l.length cap = .slice (some ⟨g, 0, none⟩) l.length cap' ∧ g < w.heap.size ∧ w.cell? ⟨g, k * 6 + j, none⟩ = (insC (l.getD k default))[j]? := fun j hj => by
    obtain ⟨g, cap1, e1, hg, _, h1, _⟩ := h.cell (j := k * 6 + j) (by omega)
    exact ⟨g, cap1, e1, hg, h1.trans (insC_at l k hk j hj)⟩
  obtain ⟨g, cap1, e1, hg, h0⟩ := hx 0 (by decide)
  cases e1
  have hy : ∀ j, j < 6 → w.cell? ⟨g, k * 6 + j, none⟩ = (insC (l.getD k default))[j]? := fun j hj => by
    obtain ⟨g2, cap2, e2, _, h2⟩ := hx j hj
    cases e2
    exact h2
  refine ⟨g, 0, rfl, hg, ?_⟩
  rw [Nat.zero_add]
  exact ⟨h0, hy 1 (by decide), hy 2 (by decide), hy 3 (by decide), hy 4 (by decide), hy 5 (by decide)⟩
theorem bksAt_of (hbl : OwnC 52 5 col 6 w vb D.length (blkL cv D)) (hcd : ∀ j, j < D.length → OwnC 59 6 col 9 w (cv j) (D.getD j default).code.length (insL (D.getD j default).code)) : BksAt w vb D := by
  obtain ⟨p, cap, rfl⟩ := hbl.shape
  refine ⟨p, cap, rfl, fun k hk => ?_⟩
  have hx : ∀ j, j < 5 → ∃ g cap', Value.slice p D.length cap = .slice (some ⟨g, 0, none⟩) D.length cap' ∧ g < w.heap.size ∧ w.cell? ⟨g, k * 5 + j, none⟩ = (blkC (cv k) (D.getD k default))[j]? := fun j hj => by
    obtain ⟨g, cap1, e1, hg, _, h1, _⟩ := hbl.cell (j := k * 5 + j) (by omega)
    exact ⟨g, cap1, e1, hg, h1.trans (blkC_at cv D k hk j hj)⟩
  obtain ⟨g, cap1, e1, hg, h0⟩ := hx 0 (by decide)
  cases e1
  have hy : ∀ j, j < 5 → w.cell? ⟨g, k * 5 + j, none⟩ = (blkC (cv k) (D.getD k default))[j]? := fun j hj => by
    obtain ⟨g2, cap2, e2, _, h2⟩ := hx j hj
    cases e2
    exact h2
  have hi := (hcd k hk).insAt
  obtain ⟨cp, cc, ec⟩ := (hcd k hk).shape
  rw [ec] at hi
  refine ⟨g, 0, cp, cc, rfl, hg, hi, ?_⟩
  rw [Nat.zero_add, ← ec]
  exact ⟨h0, hy 1 (by decide), hy 2 (by decide), hy 3 (by decide), hy 4 (by decide)⟩
/-- How it begins. -/
theorem RnRel.begin (w : World) (c0 c1 c2 : Value) (t : TypeId) : RnRel w w.heap.size [c0, c1, c2] [] [] (w.alloc (.cells #[c0, c1, c2, .slice none 0 0] t)) := by
  have hb : Below w.heap.size w (w.alloc (.cells #[c0, c1, c2, .slice none 0 0] t)) := bAlloc (Nat.le_refl _) (Below.refl _ _)
  refine ⟨fun k => if k = w.heap.size then 8 else 0, fun _ => .slice none 0 0, .slice none 0 0, ⟨fun k hk => if_neg (by omega), hb, hb.size, fun p hp => (by cases hp), RowC2.made w [c0, c1, c2, .slice none 0 0] t, fun k => ?_, if_pos rfl, OwnC.nil _ _ _ _ _, fun j hj => absurd hj (Nat.not_lt_zero j)⟩⟩
  unfold World.frozen?
  rw [heap_alloc_new]
  simp only [Nat.not_lt_zero, decide_false, Bool.and_false]
/-- The box of an instruction while it is renamed. -/
structure InsBox (w0 : World) (b : Nat) (i : IIns) (w : World) : Prop where
  bel : Below w0.heap.size w0 w
  row : RowC2 w b (insC i)
  fz : ∀ k, w.frozen? ⟨b, k, none⟩ = false
  ge : w0.heap.size ≤ b
section
variable {w0 w w' : World} {b : Nat} {i : IIns}
theorem InsBox.made (w : World) (i : IIns) (t : TypeId) : InsBox w w.heap.size i (w.alloc (.cells (insC i).toArray t)) :=
  ⟨bAlloc (Nat.le_refl _) (Below.refl _ _), RowC2.made w (insC i) t, fun k => by
    unfold World.frozen?
    rw [heap_alloc_new]
    simp only [Nat.not_lt_zero, decide_false, Bool.and_false], Nat.le_refl _⟩
theorem InsBox.keep (h : InsBox w0 b i w) (hb : Below w.heap.size w w') : InsBox w0 b i w' :=
  ⟨h.bel.trans (hb.mono h.bel.size), row_block h.row (hb.block b h.row.lt) hb.size, fun k => (World.frozen?_of_block (a := ⟨b, k, none⟩) (hb.block b h.row.lt)).trans (h.fz k), h.ge⟩
theorem InsBox.setDst (h : InsBox w0 b i w) (v : Int) : InsBox w0 b { i with dst := v } (w.setCell ⟨b, 1, none⟩ (.int .i64 v)) :=
  ⟨bSet h.ge h.bel, row_set2 h.row 1 _, fun k => by rw [World.frozen?_setCell]; exact h.fz k, h.ge⟩
theorem InsBox.setX (h : InsBox w0 b i w) (v : Int) : InsBox w0 b { i with x := v } (w.setCell ⟨b, 2, none⟩ (.int .i64 v)) :=
  ⟨bSet h.ge h.bel, row_set2 h.row 2 _, fun k => by rw [World.frozen?_setCell]; exact h.fz k, h.ge⟩
theorem InsBox.setY (h : InsBox w0 b i w) (v : Int) : InsBox w0 b { i with y := v } (w.setCell ⟨b, 3, none⟩ (.int .i64 v)) :=
  ⟨bSet h.ge h.bel, row_set2 h.row 3 _, fun k => by rw [World.frozen?_setCell]; exact h.fz k, h.ge⟩
/-- What is read of it. -/
theorem InsBox.cells (h : InsBox w0 b i w) : (b < w.heap.size ∧ w.cell? ⟨b, 0, none⟩ = some (.int .u8 i.op) ∧ w.cell? ⟨b, 1, none⟩ = some (.int .i64 i.dst) ∧ w.cell? ⟨b, 2, none⟩ = some (.int .i64 i.x)) ∧ (w.cell? ⟨b, 3, none⟩ = some (.int .i64 i.y) ∧ w.cell? ⟨b, 4, none⟩ = some (.int .i64 i.imm) ∧ w.cell? ⟨b, 5, none⟩ = some (.string i.sym)) ∧ w.frozen? ⟨b, 1, none⟩ = false ∧ w.frozen? ⟨b, 2, none⟩ = false ∧ w.frozen? ⟨b, 3, none⟩ = false :=
  ⟨⟨h.row.lt, h.row.at 0 rfl, h.row.at 1 rfl, h.row.at 2 rfl⟩, ⟨h.row.at 3 rfl, h.row.at 4 rfl, h.row.at 5 rfl⟩, h.fz 1, h.fz 2, h.fz 3⟩
end
end
end Go.Proofs.YtifjcknklecdbaaDoor

