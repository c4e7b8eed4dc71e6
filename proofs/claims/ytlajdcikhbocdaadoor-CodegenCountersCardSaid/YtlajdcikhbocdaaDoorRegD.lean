/- slices.Sort and slices.Compact on a row that the call itself has made: the row behind them. -/
import Derived.Test.YtlajdcikhbocdaaDoorRegC
import Derived.Sort.OwnSortedInts
import Derived.Lib.LazyBuf
import Derived.Lib.RowBridge
import Derived.Maps.AppendAt
set_option linter.unusedVariables false
set_option linter.unusedSimpArgs false
namespace Go.Proofs.YtlajdcikhbocdaaDoor
open Go.RowKit Go.Sort Go.Lib

def sortI (xs : List Int) : List Int := xs.mergeSort fun x y => decide (x ≤ y)
theorem sortI_len (xs : List Int) : (sortI xs).length = xs.length := by simp [sortI]

theorem sort_row (w : World) (v : Value) (xs : List Int) (hown : w.ownsRow 0 3 1 v xs.length (xs.map (Value.int .i64))) (hl : xs.length ≤ 10000) :
    Calls Tryd.prog 77 #[v] w fun e w' => e = .returned (.tuple #[]) ∧ w'.ownsRow 0 3 1 v (sortI xs).length ((sortI xs).map (Value.int .i64)) ∧ w.grownBy w' v.ownBlock := by
  have hs : (sortI xs).length = xs.length := by simp [sortI]
  rw [hs]
  rcases hown.2 with ⟨rfl, hn⟩ | ⟨g, cap, cur, rfl, hg, hh, hnc, hcap, hcs, htk⟩
  · have hx : xs = [] := List.length_eq_zero_iff.1 hn
    subst hx
    refine (Tryd.slices_Sort_int_none none 0 w).mono ?_
    rintro e w' ⟨rfl, rfl⟩
    exact ⟨rfl, ⟨by simp [sortI], .inl ⟨rfl, rfl⟩⟩, ⟨rfl, rfl, rfl, Nat.le_refl _, fun _ _ _ => rfl⟩⟩
  · have hH : Holds (Value.int .i64) w g 0 xs.toArray := holds_of_blockI hh (by simpa using htk)
    have hgl : g < w.heap.size := (Array.getElem?_eq_some_iff.1 hh).1
    refine (Tryd.slices_Sort_int g 0 cap xs w hH hgl (by omega)).mono ?_
    rintro e w' ⟨rfl, n, os, rfl⟩
    exact ⟨rfl, ownsRow_sortedI hs hg hh hnc hcap hcs, grownBy_sortedI _⟩

theorem compact_row (w : World) (v : Value) (xs : List Int) (hown : w.ownsRow 0 3 1 v xs.length (xs.map (Value.int .i64))) (hl : xs.length ≤ 10000) :
    Calls Tryd.prog 78 #[v] w fun e w' => ∃ q c, e = .returned (.slice q (Lib.compact xs).length c) ∧ w'.ownsRow 0 3 1 (.slice q (Lib.compact xs).length c) (Lib.compact xs).length ((Lib.compact xs).map (Value.int .i64)) ∧ w.grownBy w' v.ownBlock ∧ (Value.slice q (Lib.compact xs).length c).ownBlock = v.ownBlock := by
  rcases hown.2 with ⟨rfl, hn⟩ | ⟨g, cap, cur, rfl, hg, hh, hnc, hcap, hcs, htk⟩
  · have hx : xs = [] := List.length_eq_zero_iff.1 hn
    subst hx
    refine (Tryd.slices_Compact_int_empty none 0 w).mono ?_
    rintro e w' ⟨rfl, rfl⟩
    exact ⟨none, 0, rfl, World.ownsRow_nil _ _ _ _, ⟨rfl, rfl, rfl, Nat.le_refl _, fun _ _ _ => rfl⟩, rfl⟩
  · have hgl : g < w.heap.size := (Array.getElem?_eq_some_iff.1 hh).1
    have hc : ∀ j, j < xs.length → w.cell? ⟨g, 0 + j, none⟩ = some (.int .i64 (xs.getD j 0)) := by
      intro j hj
      have h1 : (cur.toList.take (xs.length * 1))[j]? = (xs.map (Value.int .i64))[j]? := by rw [htk]
      rw [Nat.mul_one, List.getElem?_take, if_pos hj] at h1
      simp only [World.cell?, hh, Option.isSome_none, Bool.false_eq_true, if_false, Nat.zero_add]
      rw [← Array.getElem?_toList, h1]
      simp [List.getElem?_eq_getElem hj, List.getD_eq_getElem?_getD]
    have hf : ∀ j, j < xs.length → w.frozen? ⟨g, 0 + j, none⟩ = false := by
      intro j hj
      simp [World.frozen?, hh]
    refine (Tryd.slices_Compact_int_cells g 0 xs.length cap xs w (Nat.le_refl _) (by omega) hnc hc hf).mono ?_
    rintro e w' ⟨rfl, q, rfl⟩
    rw [List.take_length]
    have hcl : (Lib.compact xs).length ≤ xs.length := compact_length_le xs
    have hrow : (w.drewN q).rowIs g 3 cap (fun i => cur.toList.getD i default) := by
      refine ⟨cur, hh, by omega, fun i hi => ?_⟩
      show cur[i]? = some (cur.toList.getD i default)
      rw [← Array.getElem?_toList, List.getD_eq_getElem?_getD, List.getElem?_eq_getElem (by simp; omega)]; rfl
    obtain ⟨c', hb', hsz, hcell⟩ := rowIs_setCells ((Lib.compact xs ++ List.replicate (xs.length - (Lib.compact xs).length) 0).map (Value.int .i64)) 0 (w.drewN q) _ hrow
    refine ⟨some ⟨g, 0, none⟩, cap, rfl, ⟨by simp, .inr ⟨g, cap, c', rfl, Nat.zero_le _, hb', by omega, hcap, by omega, ?_⟩⟩, ?_, rfl⟩
    · rw [Nat.mul_one]
      apply List.ext_getElem?
      intro j
      by_cases hj : j < (Lib.compact xs).length
      · rw [List.getElem?_take_of_lt hj, Array.getElem?_toList, hcell j (by omega)]
        show some (if 0 ≤ j ∧ j < 0 + ((Lib.compact xs ++ List.replicate (xs.length - (Lib.compact xs).length) 0).map (Value.int .i64)).length then (((Lib.compact xs ++ List.replicate (xs.length - (Lib.compact xs).length) 0).map (Value.int .i64))[j - 0]?).getD default else cur.toList.getD j default) = _
        rw [if_pos ⟨Nat.zero_le _, by simp; omega⟩, Nat.sub_zero, List.map_append, List.getElem?_append_left (by simpa using hj), List.getElem?_map, List.getElem?_eq_getElem hj]
        rfl
      · rw [List.getElem?_take_eq_none (by omega), List.getElem?_eq_none (by simp; omega)]
    · have hB : ∀ (vs : List Value) (o : Nat) (W : World), W.grownBy (W.setCells g o vs) (some g) := by
        intro vs
        induction vs with
        | nil => exact fun _ _ => ⟨rfl, rfl, rfl, Nat.le_refl _, fun _ _ _ => rfl⟩
        | cons v r ih =>
          intro o W
          have h2 := ih (o + 1) (W.setCell ⟨g, o, none⟩ v)
          refine ⟨h2.os, h2.tape, h2.output, by have := h2.size; simp [World.setCell] at this; exact this, fun k hk hne => ?_⟩
          have h3 := h2.block k (by simpa [World.setCell] using hk) hne
          exact h3.trans (Below.heap_setCell _ _ _ _ (fun e => hne (by rw [e])))
      have h4 := hB ((Lib.compact xs ++ List.replicate (xs.length - (Lib.compact xs).length) 0).map (Value.int .i64)) 0 (w.drewN q)
      exact ⟨h4.os, h4.tape, h4.output, h4.size, h4.block⟩


theorem infoI : (Tryd.prog.info? 3).map (fun i => (i.zero, i.size, i.bytes)) = some (some (.int .i64 0), 1, 8) := by kernel_rfl
theorem infoB : (Tryd.prog.info? 4).map (fun i => (i.zero, i.size, i.bytes)) = some (some (.bool false), 1, 1) := by kernel_rfl
theorem infoL : (Tryd.prog.info? 37).map (fun i => (i.zero, i.size, i.bytes)) = some (some (.slice none 0 0), 1, 24) := by kernel_rfl
theorem info_parts {P : Program} {t : TypeId} {z : Value} {n b : Nat} (h : (P.info? t).map (fun i => (i.zero, i.size, i.bytes)) = some (some z, n, b)) : ∃ i, P.info? t = some i ∧ i.zero = some z ∧ i.size = n ∧ i.bytes = b := by
  obtain ⟨i, hi, he⟩ := Option.map_eq_some_iff.1 h
  simp only [Prod.mk.injEq] at he
  exact ⟨i, hi, he.1, he.2.1, he.2.2⟩

/-- Append of a row of integers that can be read. -/
theorem wpList_append_int {w : World} {ops : Array Oper} {rest : List Oper} {o : Oper} {a : Act} {Q : Exit → Act → World → Prop} (hgd : o.guard = none) (s x : Operand)
    (ho : o.op = .call { callee := .builtin .append, args := #[s, x], argTypes := #[37, 37] })
    (base : Nat) (v : Value) (xs : List Int) (hs : a.eval s = v) (hown : w.ownsRow base 3 1 v xs.length (xs.map (Value.int .i64)))
    (ad : Addr) (c : Nat) (news : List Int) (hx : a.eval x = .slice (some ad) news.length c) (hnews : ∀ j, j < news.length → w.cell? (ad.add j) = some (.int .i64 (news.getD j 0)))
    (h63 : xs.length + news.length ≤ 1000000) (hbase : base ≤ w.heap.size)
    (h : ∀ p c' w', w'.ownsRow base 3 1 (.slice p (xs ++ news).length c') (xs ++ news).length ((xs ++ news).map (Value.int .i64)) → w.grownBy w' v.ownBlock → ((Value.slice p (xs ++ news).length c').ownBlock = v.ownBlock ∨ ∀ k, (Value.slice p (xs ++ news).length c').ownBlock = some k → w.heap.size ≤ k) → wpList Tryd.prog ops Q rest (a.put o.dst (.slice p (xs ++ news).length c')) w') : wpList Tryd.prog ops Q (o :: rest) a w := by
  refine wpList_plain hgd fun K hK => ?_
  obtain ⟨i, hi, hz, hsize, hby⟩ := info_parts infoI
  obtain ⟨v', w', hrun, h2, h3, _, h5⟩ := run_append_own_at (P := Tryd.prog) w base 37 o.type 3 i (.int .i64 0) 1 8 Tryd.underlying37 hi hz hsize hby rfl (by decide) v xs.length (xs.map (Value.int .i64)) hown ad news.length c (news.map (Value.int .i64)) (by simp) (fun j u hj => by
    have hjl : j < news.length := by
      obtain ⟨h, _⟩ := List.getElem?_eq_some_iff.1 hj
      simpa using h
    rw [hnews j hjl]
    rw [List.getElem?_map, List.getElem?_eq_getElem hjl] at hj
    rw [← hj, List.getD_eq_getElem?_getD, List.getElem?_eq_getElem hjl]; rfl) (fun u hu => by obtain ⟨y, _, rfl⟩ := List.mem_map.1 hu; rfl) (by unfold maxLen; omega) (by omega) hbase
  rw [← List.map_append, ← List.length_append] at h2
  have hsl : ∃ p c', v' = .slice p (xs ++ news).length c' := by
    rcases h2.2 with ⟨rfl, hh⟩ | ⟨g, cap, cur, rfl, _⟩
    · exact ⟨none, 0, by rw [hh]⟩
    · exact ⟨_, _, rfl⟩
  obtain ⟨p, c', rfl⟩ := hsl
  unfold Oper.wp execOp
  simp only [ho, resolve, invoke, builtin, Sem.run_bind, Sem.run_pure, Result.andThen_ok, List.map_toArray, List.map_cons, List.map_nil, hs, hx, hrun]
  exact hK _ _ (h p c' w' h2 h3 (h5.imp id fun e k hk => by rw [e] at hk; cases hk; exact Nat.le_refl _))
/-- Append of one integer. -/
theorem wpList_append_one {w : World} {ops : Array Oper} {rest : List Oper} {o : Oper} {a : Act} {Q : Exit → Act → World → Prop} (hgd : o.guard = none) (s x : Operand)
    (ho : o.op = .call { callee := .builtin .append, args := #[s, x], argTypes := #[37, 37] })
    (base : Nat) (v : Value) (xs : List Int) (hs : a.eval s = v) (hown : w.ownsRow base 3 1 v xs.length (xs.map (Value.int .i64)))
    (g c : Nat) (y : Int) (hx : a.eval x = .slice (some ⟨g, 0, none⟩) 1 c) (hy : w.cell? ⟨g, 0, none⟩ = some (.int .i64 y))
    (h63 : xs.length + 1 ≤ 1000000) (hbase : base ≤ w.heap.size)
    (h : ∀ p c' w', w'.ownsRow base 3 1 (.slice p (xs ++ [y]).length c') (xs ++ [y]).length ((xs ++ [y]).map (Value.int .i64)) → w.grownBy w' v.ownBlock → ((Value.slice p (xs ++ [y]).length c').ownBlock = v.ownBlock ∨ ∀ k, (Value.slice p (xs ++ [y]).length c').ownBlock = some k → w.heap.size ≤ k) → wpList Tryd.prog ops Q rest (a.put o.dst (.slice p (xs ++ [y]).length c')) w') : wpList Tryd.prog ops Q (o :: rest) a w :=
  wpList_append_int hgd s x ho base v xs hs hown ⟨g, 0, none⟩ c [y] hx (fun j hj => by
    have : j = 0 := by simpa using hj
    subst this
    exact hy) (by simpa using h63) hbase h
end Go.Proofs.YtlajdcikhbocdaaDoor
