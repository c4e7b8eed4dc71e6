import Derived.Test.YtdfofelchjpioaaDoorCorM
import Derived.LoopTactic
import Derived.Test.YtdfofelchjpioaaDoorMs25
import Derived.Laws.AppendOwnNone
import Derived.Laws.Rows
import Derived.Laws.Tables
import Derived.Deep.DeepCutAuto
import Derived.RegionTactic
import Derived.BigRegion
import Derived.StillTailTactics
set_option linter.unusedVariables false
set_option linter.unusedSimpArgs false
namespace Go.Proofs.YtdfofelchjpioaaDoor
open Go.RowKit

theorem words_len (p q : Option Addr) (n m c d : Nat) (w : World) (h : ((n : Int) == (m : Int)) = false) (h' : ((n : Int) != (m : Int)) = true) (h2 : n ≠ m) :
    Calls Tryd.prog 11 #[.slice p n c, .slice q m d] w fun e w' => e = .returned (.bool false) ∧ Below w.heap.size w w' := by
  go_enter Tryd.func11, Tryd.ntmps11
  go_wp2_with fail
  go_ret
  exact ⟨rfl, Below.refl _ _⟩

set_option maxHeartbeats 800000 in
theorem words_same (p q : Option Addr) (xs ys : List Int) (c d : Nat) (w : World) (hlen : xs.length ≤ 140737488351232) (hl : ys.length = xs.length)
    (h1 : ∀ k, k < xs.length → ∃ m off, p = some ⟨m, off, none⟩ ∧ w.cell? ⟨m, off + k, none⟩ = some (.int .i32 (xs.getD k 0))) (h2 : ∀ k, k < xs.length → ∃ m off, q = some ⟨m, off, none⟩ ∧ w.cell? ⟨m, off + k, none⟩ = some (.int .i32 (ys.getD k 0))) :
    Calls Tryd.prog 11 #[.slice p xs.length c, .slice q xs.length d] w fun e w' => e = .returned (.bool (decide (xs = ys))) ∧ Below w.heap.size w w' := by
  go_enter Tryd.func11, Tryd.ntmps11
  go_wp2_with fail
  go_loopw [5] (fun sv wr => ∃ (k n : Nat), sv = .int .i64 k ∧ k ≤ xs.length ∧ (∀ j, j < k → xs.getD j 0 = ys.getD j 0) ∧ wr = w.drewN n) (fun sv _ => xs.length - (intOf sv).toNat)
  case atStart => exact ⟨0, 0, rfl, Nat.zero_le _, fun j hj => by omega, rfl⟩
  case round =>
    obtain ⟨k, n, rfl, hk, heq, rfl⟩ := hrel
    have HQ := Lib.hid heq
    clear heq
    by_cases hlt : k < xs.length
    · obtain ⟨m1, o1, rfl, c1⟩ := h1 k hlt
      obtain ⟨m2, o2, rfl, c2⟩ := h2 k hlt
      clear h1 h2
      have hltI : (k : Int) < xs.length := by omega
      have hHL := Lib.hid hl
      clear hl
      generalize hx : xs.getD k 0 = x at c1
      generalize hy : ys.getD k 0 = y at c2
      have HX := Lib.hid hx
      have HY := Lib.hid hy
      clear hx hy
      by_cases hxy : x = y
      · subst hxy
        go_wp2_with fail
        go_quiet (fail)
        go_wp2_with fail
        go_roundw
        case rel =>
          refine ⟨k + 1, n + nq, by go_num, by omega, fun j hj => ?_, by simp [World.drewN_drewN]⟩
          rcases Nat.lt_succ_iff_lt_or_eq.1 hj with h | rfl
          · exact HQ.out j h
          · rw [HX.out, HY.out]
        case measure => simp [intOf]; omega
      · have hb : (x != y) = true := by simpa using hxy
        go_wp2_with fail
        go_quiet (fail)
        go_wp2_with fail
        go_ret
        refine ⟨?_, ?_⟩
        · have : xs ≠ ys := fun e => hxy (by rw [← HX.out, ← HY.out, e])
          simp [this]
        · exact bDrewN (bDrewN (Below.refl _ _))
    · go_wp2_with fail
      go_ret
      refine ⟨?_, bDrewN (Below.refl _ _)⟩
      have : xs = ys := List.ext_getElem (by omega) fun j h1 h2 => by
        have := HQ.out j (by omega)
        simpa [List.getD_eq_getElem?_getD, h1, h2] using this
      simp [this]

theorem words_any (v u : Value) (xs ys : List Int) (w : World) (hv : RdAt w v xs) (hu : RdAt w u ys) (hlen : xs.length ≤ 140737488351232) :
    Calls Tryd.prog 11 #[v, u] w fun e w' => e = .returned (.bool (decide (xs = ys))) ∧ Below w.heap.size w w' := by
  obtain ⟨p, c, rfl, hp⟩ := hv
  obtain ⟨q, d, rfl, hq⟩ := hu
  by_cases hl : ys.length = xs.length
  · have a := words_same p q xs ys c d w hlen hl (fun k hk => by
      obtain ⟨m, off, e, _, hc⟩ := hp k hk
      exact ⟨m, off, e, hc⟩) (fun k hk => by
      obtain ⟨m, off, e, _, hc⟩ := hq k (by omega)
      exact ⟨m, off, e, hc⟩)
    rw [hl]
    exact a
  · have hne : xs ≠ ys := fun e => hl (by rw [e])
    have a := words_len p q xs.length ys.length c d w (by simp; omega) (by simp; omega) (fun e => hl e.symm)
    simpa [hne] using a

end Go.Proofs.YtdfofelchjpioaaDoor

set_option linter.unusedVariables false
set_option linter.unusedSimpArgs false
namespace Go.Proofs.YtdfofelchjpioaaDoor
open Go.RowKit

theorem Tryd.info32 : (Tryd.prog.info? 21).map (fun i => (i.zero, i.size, i.bytes)) = some (some (.int .i32 0), 1, 4) := by kernel_rfl

section
variable {P : Program}
theorem wpList_append_mem {w : World} {ops : Array Oper} {rest : List Oper} {o : Oper} {a : Act} {Q : Exit → Act → World → Prop} (hgd : o.guard = none) (s x : Operand) (t : TypeId)
    (ho : o.op = .call { callee := .builtin .append, args := #[s, x], argTypes := #[t, t] })
    (base : Nat) (e : TypeId) (i : TypeInfo) (z : Value) (bytes : Nat) (ht : P.underlying t = some (.slice e)) (hi : P.info? e = some i) (hz : i.zero = some z) (hsize : i.size = 1) (hby : i.bytes = bytes) (hzs : z.cells.size = 1)
    (v : Value) (n : Nat) (xs : List Value) (hs : a.eval s = v) (hown : w.ownsRow base e 1 v n xs) (src : Value) (ys : List Int) (hx : a.eval x = src) (hm : RdAt w src ys) (hn0 : ∀ c, src = .slice none 0 c → c = 0)
    (h63 : n + ys.length ≤ maxLen) (hbytes : (n + ys.length) * bytes ≤ 140737488355328) (hbase : base ≤ w.heap.size)
    (h : ∀ p c w', w'.ownsRow base e 1 (.slice p (n + ys.length) c) (n + ys.length) (xs ++ ys.map (.int .i32)) → w.grownBy w' v.ownBlock → wpList P ops Q rest (a.put o.dst (.slice p (n + ys.length) c)) w') : wpList P ops Q (o :: rest) a w := by
  have hsl : ∀ {u : World} {v' : Value} {k : Nat} {l : List Value}, u.ownsRow base e 1 v' k l → ∃ p c, v' = .slice p k c := by
    intro u v' k l hr
    rcases hr.2 with ⟨rfl, rfl⟩ | ⟨g, cap, cur, rfl, _⟩
    · exact ⟨none, 0, rfl⟩
    · exact ⟨_, _, rfl⟩
  have hm' := hm
  obtain ⟨p, cap, hp, hcase⟩ := hm
  cases p with
  | none =>
    have hys : ys = [] := by
      rcases Nat.eq_zero_or_pos ys.length with h1 | h1
      · exact List.eq_nil_of_length_eq_zero h1
      · obtain ⟨m, off, e, _⟩ := hcase 0 h1
        cases e
    subst hys
    have hc0 := hn0 cap hp
    subst hc0
    obtain ⟨pv, cv, hv⟩ := hsl hown
    have := h pv cv w (by simpa [← hv] using hown) ⟨rfl, rfl, rfl, Nat.le_refl _, fun _ _ _ => rfl⟩
    refine wpList_append_own_none hgd s x t ho base e i 1 ht hi v n xs hs hown (hx.trans hp) ?_
    simpa [hv] using this
  | some ad =>
    refine wpList_append_own _ hgd s x t ho base e i z 1 bytes ht hi hz hsize hby hzs (by decide) v n xs hs hown ad ys.length cap (ys.map (.int .i32)) (hx.trans hp) (by simp) ?_ ?_ h63 hbytes hbase ?_
    · intro j u hj
      have hjl : j < ys.length := by
        obtain ⟨h, _⟩ := List.getElem?_eq_some_iff.1 hj
        simpa using h
      obtain ⟨m, off, e1, _, hc⟩ := hcase j hjl
      injection e1 with e1
      subst e1
      have hu : u = .int .i32 (ys.getD j 0) := by
        rw [List.getElem?_map, List.getElem?_eq_getElem hjl] at hj
        simp at hj
        rw [← hj, List.getD_eq_getElem?_getD, List.getElem?_eq_getElem hjl]
        rfl
      rw [hu]
      have e2 : (⟨m, off, none⟩ : Addr).add j = ⟨m, off + j, none⟩ := by unfold Addr.add; split <;> simp_all
      rw [e2]
      exact hc
    · intro u hu
      simp at hu
      obtain ⟨y, _, rfl⟩ := hu
      rfl
    · intro v' w' h1 h2 _
      obtain ⟨pv, cv, rfl⟩ := hsl h1
      exact h pv cv w' h1 h2
end

theorem heap_at1 (w : World) (A B : Obj) : ((w.alloc A).alloc B).heap[w.heap.size + 1]? = some B := by
  have h := heap_alloc_new (w.alloc A) B
  rwa [show (w.alloc A).heap.size = w.heap.size + 1 by simp] at h
theorem MemAt.of_owns {w : World} {base : Nat} {e : TypeId} {v : Value} {n : Nat} {xs : List Int} (h : w.ownsRow base e 1 v n (xs.map (.int .i32))) : MemAt w v xs := by
  obtain ⟨h1, h2⟩ := h
  have hn : n = xs.length := by simpa using h1.symm
  subst hn
  rcases h2 with ⟨rfl, hz⟩ | ⟨g, cap, cur, rfl, _, hg, _, _, _, ht⟩
  · have hx : xs = [] := List.eq_nil_of_length_eq_zero hz
    subst hx
    exact ⟨none, 0, rfl, .inl rfl⟩
  · refine ⟨some ⟨g, 0, none⟩, cap, rfl, .inr ⟨g, [], cur.toList.drop (xs.length * 1), rfl, e, ?_⟩⟩
    rw [hg, List.nil_append, ← ht, List.take_append_drop]

theorem owns_empty (X : World) (base : Nat) (e : TypeId) (n : Nat) (hn : X.heap.size = n) (h : base ≤ n) : (X.alloc (.cells #[] e)).ownsRow base e 1 (.slice (some ⟨n, 0, none⟩) 0 0) 0 [] := by
  subst hn
  exact ⟨by simp, .inr ⟨X.heap.size, 0, #[], rfl, h, heap_alloc_new _ _, Nat.le_refl _, Nat.zero_le _, by simp, by simp⟩⟩

theorem bRow {B : Nat} {a w : World} {g : Nat} {cs : Array Value} (hg : B ≤ g) (h : Below B a w) : Below B a (w.setRow g cs) :=
  ⟨h.os, h.tape, h.output, by simpa [World.setRow] using h.size, fun k hk => by
    have := h.block k hk
    simp only [World.setRow, Array.getElem?_modify]
    rw [if_neg (by omega)]
    exact this⟩
theorem ownsRow_row {w : World} {base : Nat} {e : TypeId} {v : Value} {n : Nat} {xs : List Value} (h : w.ownsRow base e 1 v n xs) {g : Nat} (hg : v.ownBlock ≠ some g) (cs : Array Value) : (w.setRow g cs).ownsRow base e 1 v n xs := by
  obtain ⟨h1, h2⟩ := h
  refine ⟨h1, ?_⟩
  rcases h2 with h2 | ⟨g', cap, cur, rfl, b, c, d⟩
  · exact .inl h2
  · refine .inr ⟨g', cap, cur, rfl, b, ?_, d⟩
    simp only [World.setRow, Array.getElem?_modify]
    rw [if_neg (fun e => hg (by rw [e]; rfl))]
    exact c
theorem ownsRow_set {w : World} {base : Nat} {e : TypeId} {v : Value} {n : Nat} {xs : List Value} (h : w.ownsRow base e 1 v n xs) {a : Addr} (ha : v.ownBlock ≠ some a.block) (u : Value) : (w.setCell a u).ownsRow base e 1 v n xs := ownsRow_setCell_other h ha u

set_option maxRecDepth 100000 in
set_option maxHeartbeats 3200000 in
theorem copy_any (pc r0 r1 r2 r3 r4 r5 r6 r7 r8 r9 r10 r11 r12 r13 r14 r15 he : Int) (hl : Bool) (d : List Int) (p0 : Option Addr) (n0 c0 : Nat) (w : World) (hn : Hid (n0 = d.length)) (hd : Hid (RdAt w (.slice p0 n0 c0) d)) (hn0 : Hid (∀ c, Value.slice p0 n0 c0 = .slice none 0 c → c = 0)) (hlen : n0 ≤ 35184372087808) :
    Calls Tryd.prog 6 #[.agg #[.int .i64 pc, .int .i32 r0, .int .i32 r1, .int .i32 r2, .int .i32 r3, .int .i32 r4, .int .i32 r5, .int .i32 r6, .int .i32 r7, .int .i32 r8, .int .i32 r9, .int .i32 r10, .int .i32 r11, .int .i32 r12, .int .i32 r13, .int .i32 r14, .int .i32 r15, .slice p0 n0 c0, .bool hl, .int .i64 he]] w fun e w' => ∃ pv cv, e = .returned (.agg #[.int .i64 pc, .int .i32 r0, .int .i32 r1, .int .i32 r2, .int .i32 r3, .int .i32 r4, .int .i32 r5, .int .i32 r6, .int .i32 r7, .int .i32 r8, .int .i32 r9, .int .i32 r10, .int .i32 r11, .int .i32 r12, .int .i32 r13, .int .i32 r14, .int .i32 r15, .slice pv n0 cv, .bool hl, .int .i64 he]) ∧ Below w.heap.size w w' ∧ w'.ownsRow (w.heap.size + 2) 21 1 (.slice pv n0 cv) n0 (d.map (.int .i32)) := by
  obtain ⟨i0, hi0, hz0, hz1, hz2⟩ := info_parts Tryd.info32
  have hxi := Tryd.underlying27
  have hOE : (((w.alloc (.cells #[.int .i64 pc, .int .i32 r0, .int .i32 r1, .int .i32 r2, .int .i32 r3, .int .i32 r4, .int .i32 r5, .int .i32 r6, .int .i32 r7, .int .i32 r8, .int .i32 r9, .int .i32 r10, .int .i32 r11, .int .i32 r12, .int .i32 r13, .int .i32 r14, .int .i32 r15, .slice p0 n0 c0, .bool hl, .int .i64 he] 29)).alloc (.cells #[.int .i64 0, .int .i32 0, .int .i32 0, .int .i32 0, .int .i32 0, .int .i32 0, .int .i32 0, .int .i32 0, .int .i32 0, .int .i32 0, .int .i32 0, .int .i32 0, .int .i32 0, .int .i32 0, .int .i32 0, .int .i32 0, .int .i32 0, .slice none 0 0, .bool false, .int .i64 0] 29)).alloc (.cells #[] 21)).ownsRow (w.heap.size + 2) 21 1 (.slice (some ⟨w.heap.size + 1 + 1, 0, none⟩) 0 0) 0 [] := owns_empty _ _ _ _ (by simp) (by omega)
  have HM : Hid (RdAt (((w.alloc (.cells #[.int .i64 pc, .int .i32 r0, .int .i32 r1, .int .i32 r2, .int .i32 r3, .int .i32 r4, .int .i32 r5, .int .i32 r6, .int .i32 r7, .int .i32 r8, .int .i32 r9, .int .i32 r10, .int .i32 r11, .int .i32 r12, .int .i32 r13, .int .i32 r14, .int .i32 r15, .slice p0 n0 c0, .bool hl, .int .i64 he] 29)).alloc (.cells #[.int .i64 0, .int .i32 0, .int .i32 0, .int .i32 0, .int .i32 0, .int .i32 0, .int .i32 0, .int .i32 0, .int .i32 0, .int .i32 0, .int .i32 0, .int .i32 0, .int .i32 0, .int .i32 0, .int .i32 0, .int .i32 0, .int .i32 0, .slice none 0 0, .bool false, .int .i64 0] 29)).alloc (.cells #[] 21)) (.slice p0 n0 c0) d) := RdAt.below hd.out (bAlloc (by simp; omega) (bAlloc (by simp) (bAlloc (Nat.le_refl _) (Below.refl _ _)))) (Nat.le_refl _)
  have hn' := hn.out
  subst hn'
  go_enter Tryd.func6, Tryd.ntmps6
  go_wp2_with (first | (at_builtin; refine wpList_append_mem rfl _ _ 27 rfl (w.heap.size + 2) 21 i0 (.int .i32 0) 4 hxi hi0 hz0 hz1 hz2 rfl _ _ _ rfl hOE (.slice p0 d.length c0) d rfl HM.out hn0.out ?c3 ?c4 ?c5 ?_))
  case c3 => unfold maxLen; omega
  case c4 => omega
  intro pv cv w1 hown' hgrow
  clear hOE HM
  have hB0 : RowAt w1 w.heap.size [.int .i64 pc, .int .i32 r0, .int .i32 r1, .int .i32 r2, .int .i32 r3, .int .i32 r4, .int .i32 r5, .int .i32 r6, .int .i32 r7, .int .i32 r8, .int .i32 r9, .int .i32 r10, .int .i32 r11, .int .i32 r12, .int .i32 r13, .int .i32 r14, .int .i32 r15, .slice p0 d.length c0, .bool hl, .int .i64 he] := ⟨_, (hgrow.block _ (by simp; omega) (by simp [Value.ownBlock]; omega)).trans (by rw [Below.heap_alloc _ _ _ (by simp; omega), Below.heap_alloc _ _ _ (by simp)]; exact heap_alloc_new _ _)⟩
  have hR : RowAt w1 (w.heap.size + 1) [.int .i64 0, .int .i32 0, .int .i32 0, .int .i32 0, .int .i32 0, .int .i32 0, .int .i32 0, .int .i32 0, .int .i32 0, .int .i32 0, .int .i32 0, .int .i32 0, .int .i32 0, .int .i32 0, .int .i32 0, .int .i32 0, .int .i32 0, .slice none 0 0, .bool false, .int .i64 0] := ⟨_, (hgrow.block _ (by simp) (by simp [Value.ownBlock])).trans (by rw [Below.heap_alloc _ _ _ (by simp)]; exact heap_at1 _ _ _)⟩
  have b17 : w1.cell? ⟨w.heap.size, 17, none⟩ = some (.slice p0 d.length c0) := hB0.cell 17
  have bf : w1.frozen? ⟨w.heap.size, 17, none⟩ = false := hB0.frozen 17
  have hsz1 : w.heap.size + 2 < w1.heap.size := by have := hgrow.size; simp at this; omega
  have hB1 : Below w.heap.size w w1 := by
    refine Below.grown ?_ hgrow (by simp; omega) (fun k hk => by simp [Value.ownBlock] at hk; omega)
    repeat (first | (with_reducible apply bBoth) | (with_reducible exact Below.refl _ _) | (with_reducible apply bDrewN) | (with_reducible apply Below.drew) | ((with_reducible apply bSet); (focus first | (simp; done) | (simp; omega) | omega)) | ((with_reducible apply bAlloc); (focus first | (simp; done) | (simp; omega) | omega)))
  have HO := Lib.hid hown'
  clear hgrow hown' hd hn0
  have hB2 : RowAt (w1.setCell ⟨w.heap.size, 17, none⟩ (.slice pv d.length cv)) w.heap.size [.int .i64 pc, .int .i32 r0, .int .i32 r1, .int .i32 r2, .int .i32 r3, .int .i32 r4, .int .i32 r5, .int .i32 r6, .int .i32 r7, .int .i32 r8, .int .i32 r9, .int .i32 r10, .int .i32 r11, .int .i32 r12, .int .i32 r13, .int .i32 r14, .int .i32 r15, .slice pv d.length cv, .bool hl, .int .i64 he] := hB0.set 17 _
  have hR2 : RowAt (w1.setCell ⟨w.heap.size, 17, none⟩ (.slice pv d.length cv)) (w.heap.size + 1) [.int .i64 0, .int .i32 0, .int .i32 0, .int .i32 0, .int .i32 0, .int .i32 0, .int .i32 0, .int .i32 0, .int .i32 0, .int .i32 0, .int .i32 0, .int .i32 0, .int .i32 0, .int .i32 0, .int .i32 0, .int .i32 0, .int .i32 0, .slice none 0 0, .bool false, .int .i64 0] := hR.other (p := ⟨w.heap.size, 17, none⟩) (by show w.heap.size ≠ w.heap.size + 1; omega) _
  obtain ⟨tB, hB2⟩ := hB2
  obtain ⟨tR, hR2⟩ := hR2
  have HB2 := Lib.hid hB2
  have HR2 := Lib.hid hR2
  have HI : Hid ((Tryd.prog.info? 29).map (·.size) = some 20) := (show _ = _ by kernel_rfl)
  have HA : Hid ((#[.int .i64 pc, .int .i32 r0, .int .i32 r1, .int .i32 r2, .int .i32 r3, .int .i32 r4, .int .i32 r5, .int .i32 r6, .int .i32 r7, .int .i32 r8, .int .i32 r9, .int .i32 r10, .int .i32 r11, .int .i32 r12, .int .i32 r13, .int .i32 r14, .int .i32 r15, .slice pv d.length cv, .bool hl, .int .i64 he] : Array Value).all (·.oneCell') = true) := (show _ = true by simp [Value.oneCell'])
  have HZ : Hid (([.int .i64 0, .int .i32 0, .int .i32 0, .int .i32 0, .int .i32 0, .int .i32 0, .int .i32 0, .int .i32 0, .int .i32 0, .int .i32 0, .int .i32 0, .int .i32 0, .int .i32 0, .int .i32 0, .int .i32 0, .int .i32 0, .int .i32 0, .slice none 0 0, .bool false, .int .i64 0] : List Value).toArray.size = (#[.int .i64 pc, .int .i32 r0, .int .i32 r1, .int .i32 r2, .int .i32 r3, .int .i32 r4, .int .i32 r5, .int .i32 r6, .int .i32 r7, .int .i32 r8, .int .i32 r9, .int .i32 r10, .int .i32 r11, .int .i32 r12, .int .i32 r13, .int .i32 r14, .int .i32 r15, .slice pv d.length cv, .bool hl, .int .i64 he] : Array Value).size) := (show _ = _ by simp)
  clear hB2 hR2 hB0 hR
  go_wp2_with (first
    | (refine wpList_load_row rfl 29 (.tmp 1) rfl w.heap.size rfl tB _ (0, 0) _ HB2.out Tryd.underlying29 rfl HI.out ?_)
    | (refine wpList_store_row rfl 29 (.tmp 2) (.tmp 8) rfl (w.heap.size + 1) _ rfl rfl tR _ HR2.out HI.out HZ.out HA.out ?_))
  have hfin : ((w1.setCell ⟨w.heap.size, 17, none⟩ (.slice pv d.length cv)).setRow (w.heap.size + 1) #[.int .i64 pc, .int .i32 r0, .int .i32 r1, .int .i32 r2, .int .i32 r3, .int .i32 r4, .int .i32 r5, .int .i32 r6, .int .i32 r7, .int .i32 r8, .int .i32 r9, .int .i32 r10, .int .i32 r11, .int .i32 r12, .int .i32 r13, .int .i32 r14, .int .i32 r15, .slice pv d.length cv, .bool hl, .int .i64 he]).heap[w.heap.size + 1]? = some (.cells #[.int .i64 pc, .int .i32 r0, .int .i32 r1, .int .i32 r2, .int .i32 r3, .int .i32 r4, .int .i32 r5, .int .i32 r6, .int .i32 r7, .int .i32 r8, .int .i32 r9, .int .i32 r10, .int .i32 r11, .int .i32 r12, .int .i32 r13, .int .i32 r14, .int .i32 r15, .slice pv d.length cv, .bool hl, .int .i64 he] tR (0, 0)) := setRow_heap _ _ _ _ _ _ HR2.out
  refine bodyPost_ret (v := .agg #[.int .i64 pc, .int .i32 r0, .int .i32 r1, .int .i32 r2, .int .i32 r3, .int .i32 r4, .int .i32 r5, .int .i32 r6, .int .i32 r7, .int .i32 r8, .int .i32 r9, .int .i32 r10, .int .i32 r11, .int .i32 r12, .int .i32 r13, .int .i32 r14, .int .i32 r15, .slice pv d.length cv, .bool hl, .int .i64 he]) (results_cell_row Tryd.results6 _ _ (w.heap.size + 1) _ _ _ _ rfl hfin Tryd.underlying29 rfl (by kernel_rfl)) rfl ⟨pv, cv, rfl, ?_, ?_⟩
  · exact bRow (by omega) (bSet (Nat.le_refl _) hB1)
  · have hno : ∀ k, k < w.heap.size + 2 → (Value.slice pv d.length cv).ownBlock ≠ some k := fun k hk e => by have := ownBase HO.out e; omega
    exact ownsRow_row (ownsRow_set HO.out (hno _ (by show w.heap.size < w.heap.size + 2; omega)) _) (hno _ (by omega)) _

end Go.Proofs.YtdfofelchjpioaaDoor

set_option linter.unusedVariables false
set_option linter.unusedSimpArgs false
namespace Go.Proofs.YtdfofelchjpioaaDoor
open Go.RowKit

theorem results_row2 {P : Program} {fn : Func} {p u : Tmp} {ty : TypeId} (hr : fn.results = #[.cell p ty, .tmp u]) (tmps : Array Value) (w : World) (g : Nat) (t : TypeId) (cs : Array Value) (fr : Nat × Nat) (d : TypeDesc) (r : Value)
    (hp : tmps.getD p undef = .pointer (some ⟨g, 0, none⟩)) (hu2 : tmps.getD u undef = r) (hg : w.heap[g]? = some (.cells cs t fr))
    (hu : P.underlying ty = some d) (hd : (match d with | .struct _ | .array _ _ => true | _ => false) = true) (hi : (P.info? ty).map (·.size) = some cs.size) :
    (results fn tmps).run P w = .ok (.tuple #[.agg cs, r]) w := by
  rw [results_cell_tmp hr, hp, hu2]
  simp [asAddr, run_loadVar_row w g t ty cs fr d hg hu hd hi]

theorem step_store_row {P : Program} {w : World} {ops : Array Oper} {o : Oper} {a : Act} {K : Act → World → Prop} {Q : Exit → Act → World → Prop} {E : Prop} (hgd : o.guard = none) (ty : TypeId) (x y : Operand) (ho : o.op = .store ty x y)
    (g : Nat) (cells : Array Value) (hx : a.eval x = .pointer (some ⟨g, 0, none⟩)) (hy : a.eval y = .agg cells)
    (t : TypeId) (old : Array Value) (hg : w.heap[g]? = some (.cells old t (0, 0))) (hi : (P.info? ty).map (·.size) = some cells.size)
    (hold : old.size = cells.size) (h1 : cells.all (·.oneCell') = true) (h : K (a.put o.dst undef) (w.setRow g cells)) :
    if Region.wanted o (yielded ops a.tmps) = true then Oper.wp P o a w K Q else E := by
  have hw : Region.wanted o (yielded ops a.tmps) = true := by simp [Region.wanted, hgd]
  rw [if_pos hw]
  exact wp_store_row ty x y ho g cells hx hy t old hg hi hold h1 h

set_option maxRecDepth 100000 in
set_option maxHeartbeats 3200000 in
theorem new_one (cv : Value) (eb eo ecap : Nat) (sh lk : Int) (nm : ByteArray) (st fin : Int) (w : World) (heb : eb < w.heap.size)
    (he0 : w.cell? ⟨eb, eo, none⟩ = some (.string nm)) (he1 : w.cell? ⟨eb, eo + 1, none⟩ = some (.int .i64 st)) (he2 : w.cell? ⟨eb, eo + 2, none⟩ = some (.int .i64 fin)) (he3 : w.cell? ⟨eb, eo + 3, none⟩ = some (.int .i64 1)) :
    Calls Tryd.prog 14 #[.agg #[cv, .slice (some ⟨eb, eo, none⟩) 1 ecap, .int .i64 sh, .int .i64 lk], .int .i64 0] w fun e w' => ∃ g,
      e = .returned (.tuple #[.agg #[.int .i64 st, .int .i32 0, .int .i32 0, .int .i32 0, .int .i32 0, .int .i32 0, .int .i32 0, .int .i32 0, .int .i32 0, .int .i32 0, .int .i32 0, .int .i32 0, .int .i32 0, .int .i32 0, .int .i32 0, .int .i32 0, .int .i32 0, .slice (some ⟨g, 0, none⟩) 1 1, .bool false, .int .i64 (-1)], .int .i64 0]) ∧
      Below w.heap.size w w' ∧ w.heap.size ≤ g ∧ RowAt w' g [.int .i32 0] := by
  have hmk : ∀ w, (Instr.makeSlice 27 (.int .i64 1) (.int .i64 1)).run Tryd.prog w = .ok (.slice (some ⟨w.heap.size, 0, none⟩) 1 1) (w.alloc (.cells #[.int .i32 0] 21)) := fun _ => by kernel_rfl
  have hz1 : eb < w.heap.size + 1 := by omega
  have hz2 : eb < w.heap.size + 1 + 1 := by omega
  go_enter Tryd.func14, Tryd.ntmps14
  go_wp2_with fail
  obtain ⟨w2, hw2⟩ : ∃ w2, (((w.alloc (.cells #[cv, .slice (some ⟨eb, eo, none⟩) 1 ecap, .int .i64 sh, .int .i64 lk] 25)).alloc (.cells #[.int .i64 0, .int .i32 0, .int .i32 0, .int .i32 0, .int .i32 0, .int .i32 0, .int .i32 0, .int .i32 0, .int .i32 0, .int .i32 0, .int .i32 0, .int .i32 0, .int .i32 0, .int .i32 0, .int .i32 0, .int .i32 0, .int .i32 0, .slice none 0 0, .bool false, .int .i64 0] 29)).alloc (.cells #[.string nm, .int .i64 st, .int .i64 fin, .int .i64 1] 60)) = w2 := ⟨_, rfl⟩
  have hB2 : Below w.heap.size w w2 := by
    rw [← hw2]
    exact bAlloc (by simp; omega) (bAlloc (by simp) (bAlloc (Nat.le_refl _) (Below.refl _ _)))
  have hR2 : RowAt w2 (w.heap.size + 1) [.int .i64 0, .int .i32 0, .int .i32 0, .int .i32 0, .int .i32 0, .int .i32 0, .int .i32 0, .int .i32 0, .int .i32 0, .int .i32 0, .int .i32 0, .int .i32 0, .int .i32 0, .int .i32 0, .int .i32 0, .int .i32 0, .int .i32 0, .slice none 0 0, .bool false, .int .i64 0] := by
    rw [← hw2]
    exact ⟨_, by rw [Below.heap_alloc _ _ _ (by simp)]; exact heap_at1 _ _ _⟩
  have c1 : w2.cell? ⟨w.heap.size + 1 + 1, 1, none⟩ = some (.int .i64 st) := by rw [← hw2]; simp [go_sem]
  have c3 : w2.cell? ⟨w.heap.size + 1 + 1, 3, none⟩ = some (.int .i64 1) := by rw [← hw2]; simp [go_sem]
  have hs2 : w.heap.size + 1 + 1 < w2.heap.size := by rw [← hw2]; simp
  rw [hw2]
  clear hw2 he0 he1 he2 he3 hz1 hz2
  have hR3 : RowAt (w2.alloc (.cells #[.int .i32 0] 21)) (w.heap.size + 1) [.int .i64 0, .int .i32 0, .int .i32 0, .int .i32 0, .int .i32 0, .int .i32 0, .int .i32 0, .int .i32 0, .int .i32 0, .int .i32 0, .int .i32 0, .int .i32 0, .int .i32 0, .int .i32 0, .int .i32 0, .int .i32 0, .int .i32 0, .slice none 0 0, .bool false, .int .i64 0] := hR2.block (Below.heap_alloc _ _ _ (by omega))
  obtain ⟨tR, hR3⟩ := hR3
  have HR : Hid ((w2.alloc (.cells #[.int .i32 0] 21)).drew.heap[w.heap.size + 1]? = some (.cells [.int .i64 0, .int .i32 0, .int .i32 0, .int .i32 0, .int .i32 0, .int .i32 0, .int .i32 0, .int .i32 0, .int .i32 0, .int .i32 0, .int .i32 0, .int .i32 0, .int .i32 0, .int .i32 0, .int .i32 0, .int .i32 0, .int .i32 0, .slice none 0 0, .bool false, .int .i64 0].toArray tR (0, 0))) := hR3
  have HI : Hid ((Tryd.prog.info? 29).map (·.size) = some 20) := (show _ = _ by kernel_rfl)
  have HA : Hid ((#[.int .i64 st, .int .i32 0, .int .i32 0, .int .i32 0, .int .i32 0, .int .i32 0, .int .i32 0, .int .i32 0, .int .i32 0, .int .i32 0, .int .i32 0, .int .i32 0, .int .i32 0, .int .i32 0, .int .i32 0, .int .i32 0, .int .i32 0, .slice (some ⟨w2.heap.size, 0, none⟩) 1 1, .bool false, .int .i64 (-1)] : Array Value).all (·.oneCell') = true) := (show _ = true by simp [Value.oneCell'])
  have HZ : Hid (([.int .i64 0, .int .i32 0, .int .i32 0, .int .i32 0, .int .i32 0, .int .i32 0, .int .i32 0, .int .i32 0, .int .i32 0, .int .i32 0, .int .i32 0, .int .i32 0, .int .i32 0, .int .i32 0, .int .i32 0, .int .i32 0, .int .i32 0, .slice none 0 0, .bool false, .int .i64 0] : List Value).toArray.size = (#[.int .i64 st, .int .i32 0, .int .i32 0, .int .i32 0, .int .i32 0, .int .i32 0, .int .i32 0, .int .i32 0, .int .i32 0, .int .i32 0, .int .i32 0, .int .i32 0, .int .i32 0, .int .i32 0, .int .i32 0, .int .i32 0, .int .i32 0, .slice (some ⟨w2.heap.size, 0, none⟩) 1 1, .bool false, .int .i64 (-1)] : Array Value).size) := (show _ = _ by simp)
  clear hR3 hR2
  have hst : (storeVar 29 ⟨w.heap.size + 1, 0, none⟩ (.agg #[.int .i64 st, .int .i32 0, .int .i32 0, .int .i32 0, .int .i32 0, .int .i32 0, .int .i32 0, .int .i32 0, .int .i32 0, .int .i32 0, .int .i32 0, .int .i32 0, .int .i32 0, .int .i32 0, .int .i32 0, .int .i32 0, .int .i32 0, .slice (some ⟨w2.heap.size, 0, none⟩) 1 1, .bool false, .int .i64 (-1)])).run Tryd.prog (w2.alloc (.cells #[.int .i32 0] 21)).drew = .ok () ((w2.alloc (.cells #[.int .i32 0] 21)).drew.setRow (w.heap.size + 1) #[.int .i64 st, .int .i32 0, .int .i32 0, .int .i32 0, .int .i32 0, .int .i32 0, .int .i32 0, .int .i32 0, .int .i32 0, .int .i32 0, .int .i32 0, .int .i32 0, .int .i32 0, .int .i32 0, .int .i32 0, .int .i32 0, .int .i32 0, .slice (some ⟨w2.heap.size, 0, none⟩) 1 1, .bool false, .int .i64 (-1)]) := run_storeVar_row _ _ _ _ _ _ HR.out HI.out HZ.out HA.out
  have hfin : ((w2.alloc (.cells #[.int .i32 0] 21)).drew.setRow (w.heap.size + 1) #[.int .i64 st, .int .i32 0, .int .i32 0, .int .i32 0, .int .i32 0, .int .i32 0, .int .i32 0, .int .i32 0, .int .i32 0, .int .i32 0, .int .i32 0, .int .i32 0, .int .i32 0, .int .i32 0, .int .i32 0, .int .i32 0, .int .i32 0, .slice (some ⟨w2.heap.size, 0, none⟩) 1 1, .bool false, .int .i64 (-1)]).heap[w.heap.size + 1]? = some (.cells #[.int .i64 st, .int .i32 0, .int .i32 0, .int .i32 0, .int .i32 0, .int .i32 0, .int .i32 0, .int .i32 0, .int .i32 0, .int .i32 0, .int .i32 0, .int .i32 0, .int .i32 0, .int .i32 0, .int .i32 0, .int .i32 0, .int .i32 0, .slice (some ⟨w2.heap.size, 0, none⟩) 1 1, .bool false, .int .i64 (-1)] tR (0, 0)) := setRow_heap _ _ _ _ _ _ HR.out
  have hBf : Below w.heap.size w ((w2.alloc (.cells #[.int .i32 0] 21)).drew.setRow (w.heap.size + 1) #[.int .i64 st, .int .i32 0, .int .i32 0, .int .i32 0, .int .i32 0, .int .i32 0, .int .i32 0, .int .i32 0, .int .i32 0, .int .i32 0, .int .i32 0, .int .i32 0, .int .i32 0, .int .i32 0, .int .i32 0, .int .i32 0, .int .i32 0, .slice (some ⟨w2.heap.size, 0, none⟩) 1 1, .bool false, .int .i64 (-1)]) := bRow (by omega) (bAlloc (by have := hB2.size; omega) hB2).drew
  have hgf : RowAt ((w2.alloc (.cells #[.int .i32 0] 21)).drew.setRow (w.heap.size + 1) #[.int .i64 st, .int .i32 0, .int .i32 0, .int .i32 0, .int .i32 0, .int .i32 0, .int .i32 0, .int .i32 0, .int .i32 0, .int .i32 0, .int .i32 0, .int .i32 0, .int .i32 0, .int .i32 0, .int .i32 0, .int .i32 0, .int .i32 0, .slice (some ⟨w2.heap.size, 0, none⟩) 1 1, .bool false, .int .i64 (-1)]) w2.heap.size [.int .i32 0] := by
    refine ⟨21, ?_⟩
    simp only [World.setRow, Array.getElem?_modify]
    rw [if_neg (by omega)]
    exact heap_alloc_new _ _
  clear hst
  refine wp_region_any (by kernel_rfl) ?_
  change wpAny _ _ _ _ _ _ _ (World.drew _)
  refine wpAny_take (i := 0) (v := ?v0) rfl (by kernel_rfl) (by kernel_rfl) (by kernel_rfl) (fun _ _ _ h => h) (Or.inl ⟨by rfl, ?h0⟩) ?r0
  case h0 => intro w; go_simp; with_reducible rfl
  case r0 =>
  refine wpAny_take (i := 2) (v := ?v2) rfl (by kernel_rfl) (by kernel_rfl) (by kernel_rfl) (fun _ _ _ h => h) (Or.inl ⟨by rfl, ?h2⟩) ?r2
  case h2 => intro w; go_simp; with_reducible rfl
  case r2 =>
  refine wpAny_ready (rs := [1, 3]) (by kernel_rfl) (by simp) ?_
  refine AllReady.cons rfl (fun K hK => ?_) (AllReady.cons rfl (fun K hK => ?_) AllReady.nil)
  · go_simp
    refine hK _ _ ?_
    clear hK K
    refine wpAny_ready (rs := [3]) (by kernel_rfl) (by simp) ?_
    refine AllReady.cons rfl (fun K hK => ?_) AllReady.nil
    go_simp
    refine hK _ _ ?_
    clear hK K
    refine wpAny_ready (rs := [4]) (by kernel_rfl) (by simp) ?_
    refine AllReady.cons rfl (fun K hK => ?_) AllReady.nil
    go_simp
    refine hK _ _ ?_
    clear hK K
    refine wpAny_ready (rs := [5]) (by kernel_rfl) (by simp) ?_
    refine AllReady.cons rfl (fun K hK => ?_) AllReady.nil
    go_simp
    refine hK _ _ ?_
    clear hK K
    refine wpAny_ready (rs := [6]) (by kernel_rfl) (by simp) ?_
    refine AllReady.cons rfl (fun K hK => ?_) AllReady.nil
    refine step_store_row rfl 29 (.tmp 4) (.tmp 36) rfl (w.heap.size + 1) _ rfl rfl tR _ HR.out HI.out HZ.out HA.out ?_
    refine hK _ _ ?_
    clear hK K
    refine wpAny_ready (rs := [7]) (by kernel_rfl) (by simp) ?_
    refine AllReady.cons rfl (fun K hK => ?_) AllReady.nil
    go_simp
    refine hK _ _ ?_
    clear hK K
    refine wpAny_done (by kernel_rfl) ?_ _
    go_wp2_with fail
    refine bodyPost_ret (results_row2 Tryd.results14 _ _ (w.heap.size + 1) _ _ _ _ _ rfl rfl hfin Tryd.underlying29 rfl HI.out) rfl ⟨w2.heap.size, rfl, hBf, by omega, hgf⟩
  · go_simp
    refine hK _ _ ?_
    clear hK K
    refine wpAny_ready (rs := [1, 4]) (by kernel_rfl) (by simp) ?_
    refine AllReady.cons rfl (fun K hK => ?_) (AllReady.cons rfl (fun K hK => ?_) AllReady.nil)
    · go_simp
      refine hK _ _ ?_
      clear hK K
      refine wpAny_ready (rs := [4]) (by kernel_rfl) (by simp) ?_
      refine AllReady.cons rfl (fun K hK => ?_) AllReady.nil
      go_simp
      refine hK _ _ ?_
      clear hK K
      refine wpAny_ready (rs := [5]) (by kernel_rfl) (by simp) ?_
      refine AllReady.cons rfl (fun K hK => ?_) AllReady.nil
      go_simp
      refine hK _ _ ?_
      clear hK K
      refine wpAny_ready (rs := [6]) (by kernel_rfl) (by simp) ?_
      refine AllReady.cons rfl (fun K hK => ?_) AllReady.nil
      refine step_store_row rfl 29 (.tmp 4) (.tmp 36) rfl (w.heap.size + 1) _ rfl rfl tR _ HR.out HI.out HZ.out HA.out ?_
      refine hK _ _ ?_
      clear hK K
      refine wpAny_ready (rs := [7]) (by kernel_rfl) (by simp) ?_
      refine AllReady.cons rfl (fun K hK => ?_) AllReady.nil
      go_simp
      refine hK _ _ ?_
      clear hK K
      refine wpAny_done (by kernel_rfl) ?_ _
      go_wp2_with fail
      refine bodyPost_ret (results_row2 Tryd.results14 _ _ (w.heap.size + 1) _ _ _ _ _ rfl rfl hfin Tryd.underlying29 rfl HI.out) rfl ⟨w2.heap.size, rfl, hBf, by omega, hgf⟩
    · go_simp
      refine hK _ _ ?_
      clear hK K
      refine wpAny_ready (rs := [1]) (by kernel_rfl) (by simp) ?_
      refine AllReady.cons rfl (fun K hK => ?_) AllReady.nil
      go_simp
      refine hK _ _ ?_
      clear hK K
      refine wpAny_ready (rs := [5]) (by kernel_rfl) (by simp) ?_
      refine AllReady.cons rfl (fun K hK => ?_) AllReady.nil
      go_simp
      refine hK _ _ ?_
      clear hK K
      refine wpAny_ready (rs := [6]) (by kernel_rfl) (by simp) ?_
      refine AllReady.cons rfl (fun K hK => ?_) AllReady.nil
      refine step_store_row rfl 29 (.tmp 4) (.tmp 36) rfl (w.heap.size + 1) _ rfl rfl tR _ HR.out HI.out HZ.out HA.out ?_
      refine hK _ _ ?_
      clear hK K
      refine wpAny_ready (rs := [7]) (by kernel_rfl) (by simp) ?_
      refine AllReady.cons rfl (fun K hK => ?_) AllReady.nil
      go_simp
      refine hK _ _ ?_
      clear hK K
      refine wpAny_done (by kernel_rfl) ?_ _
      go_wp2_with fail
      refine bodyPost_ret (results_row2 Tryd.results14 _ _ (w.heap.size + 1) _ _ _ _ _ rfl rfl hfin Tryd.underlying29 rfl HI.out) rfl ⟨w2.heap.size, rfl, hBf, by omega, hgf⟩

end Go.Proofs.YtdfofelchjpioaaDoor

