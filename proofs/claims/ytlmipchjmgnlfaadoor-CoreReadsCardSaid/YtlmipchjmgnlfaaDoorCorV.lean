/- ref.Copy, by its contract. -/
import Derived.Test.YtlmipchjmgnlfaaDoorCorU
import Derived.Test.YtlmipchjmgnlfaaDoorCorT
import Derived.Laws.AppendOwnNone
import Derived.Laws.Rows
import Derived.Laws.Tables
import Derived.Deep.DeepCutAuto
set_option linter.unusedVariables false
set_option linter.unusedSimpArgs false
namespace Go.Proofs.YtlmipchjmgnlfaaDoor
open Go.RowKit

theorem Tryd.info32 : (Tryd.prog.info? 21).map (fun i => (i.zero, i.size, i.bytes)) = some (some (.int .i32 0), 1, 4) := by kernel_rfl

section
variable {P : Program}
/-- Append of a memory of words onto a row of the call's own, the source nil or not. -/
theorem wpList_append_mem {w : World} {ops : Array Oper} {rest : List Oper} {o : Oper} {a : Act} {Q : Exit → Act → World → Prop} (hgd : o.guard = none) (s x : Operand) (t : TypeId)
    (ho : o.op = .call { callee := .builtin .append, args := #[s, x], argTypes := #[t, t] })
    (base : Nat) (e : TypeId) (i : TypeInfo) (z : Value) (bytes : Nat) (ht : P.underlying t = some (.slice e)) (hi : P.info? e = some i) (hz : i.zero = some z) (hsize : i.size = 1) (hby : i.bytes = bytes) (hzs : z.cells.size = 1)
    (v : Value) (n : Nat) (xs : List Value) (hs : a.eval s = v) (hown : w.ownsRow base e 1 v n xs) (src : Value) (ys : List Int) (hx : a.eval x = src) (hm : RdAt w src ys) (hn0 : ∀ c, src = .slice none 0 c → c = 0)
    (h63 : n + ys.length ≤ maxLen) (hbytes : (n + ys.length) * bytes ≤ 140737488355328) (hbase : base ≤ w.heap.size)
    (h : ∀ p c w', w'.ownsRow base e 1 (.slice p (n + ys.length) c) (n + ys.length) (xs ++ ys.map (.int .i32)) → w.grownBy w' v.ownBlock → wpList P ops Q rest (a.put o.dst (.slice p (n + ys.length) c)) w') : wpList P ops Q (o :: rest) a w := by
  have hsl : ∀ {u : World} {v' : Value} {k : Nat} {l : List Value}, u.ownsRow base e 1 v' k l → ∃ p c, v' = .slice p k c := by
    intro u v' k l hr
    rcases hr.2 with ⟨rfl, rfl⟩ | ⟨g, cap, cur, rfl, _⟩
    · exact ⟨none, 0, rfl⟩
    · exact ⟨_, _, rfl⟩
  have hm' := hm
  obtain ⟨p, cap, hp, hcase⟩ := hm
  cases p with
  | none =>
    have hys : ys = [] := by
      rcases Nat.eq_zero_or_pos ys.length with h1 | h1
      · exact List.eq_nil_of_length_eq_zero h1
      · obtain ⟨m, off, e, _⟩ := hcase 0 h1
        cases e
    subst hys
    have hc0 := hn0 cap hp
    subst hc0
    obtain ⟨pv, cv, hv⟩ := hsl hown
    have := h pv cv w (by simpa [← hv] using hown) ⟨rfl, rfl, rfl, Nat.le_refl _, fun _ _ _ => rfl⟩
    refine wpList_append_own_none hgd s x t ho base e i 1 ht hi v n xs hs hown (hx.trans hp) ?_
    simpa [hv] using this
  | some ad =>
    refine wpList_append_own _ hgd s x t ho base e i z 1 bytes ht hi hz hsize hby hzs (by decide) v n xs hs hown ad ys.length cap (ys.map (.int .i32)) (hx.trans hp) (by simp) ?_ ?_ h63 hbytes hbase ?_
    · intro j u hj
      have hjl : j < ys.length := by
        obtain ⟨h, _⟩ := List.getElem?_eq_some_iff.1 hj
        simpa using h
      obtain ⟨m, off, e1, _, hc⟩ := hcase j hjl
      injection e1 with e1
      subst e1
      have hu : u = .int .i32 (ys.getD j 0) := by
        rw [List.getElem?_map, List.getElem?_eq_getElem hjl] at hj
        simp at hj
        rw [← hj, List.getD_eq_getElem?_getD, List.getElem?_eq_getElem hjl]
        rfl
      rw [hu]
      have e2 : (⟨m, off, none⟩ : Addr).add j = ⟨m, off + j, none⟩ := by unfold Addr.add; split <;> simp_all
      rw [e2]
      exact hc
    · intro u hu
      simp at hu
      obtain ⟨y, _, rfl⟩ := hu
      rfl
    · intro v' w' h1 h2 _
      obtain ⟨pv, cv, rfl⟩ := hsl h1
      exact h pv cv w' h1 h2
end

theorem heap_at1 (w : World) (A B : Obj) : ((w.alloc A).alloc B).heap[w.heap.size + 1]? = some B := by
  have h := heap_alloc_new (w.alloc A) B
  rwa [show (w.alloc A).heap.size = w.heap.size + 1 by simp] at h
theorem MemAt.of_owns {w : World} {base : Nat} {e : TypeId} {v : Value} {n : Nat} {xs : List Int} (h : w.ownsRow base e 1 v n (xs.map (.int .i32))) : MemAt w v xs := by
  obtain ⟨h1, h2⟩ := h
  have hn : n = xs.length := by simpa using h1.symm
  subst hn
  rcases h2 with ⟨rfl, hz⟩ | ⟨g, cap, cur, rfl, _, hg, _, _, _, ht⟩
  · have hx : xs = [] := List.eq_nil_of_length_eq_zero hz
    subst hx
    exact ⟨none, 0, rfl, .inl rfl⟩
  · refine ⟨some ⟨g, 0, none⟩, cap, rfl, .inr ⟨g, [], cur.toList.drop (xs.length * 1), rfl, e, ?_⟩⟩
    rw [hg, List.nil_append, ← ht, List.take_append_drop]

theorem owns_empty (X : World) (base : Nat) (e : TypeId) (n : Nat) (hn : X.heap.size = n) (h : base ≤ n) : (X.alloc (.cells #[] e)).ownsRow base e 1 (.slice (some ⟨n, 0, none⟩) 0 0) 0 [] := by
  subst hn
  exact ⟨by simp, .inr ⟨X.heap.size, 0, #[], rfl, h, heap_alloc_new _ _, Nat.le_refl _, Nat.zero_le _, by simp, by simp⟩⟩

theorem bRow {B : Nat} {a w : World} {g : Nat} {cs : Array Value} (hg : B ≤ g) (h : Below B a w) : Below B a (w.setRow g cs) :=
  ⟨h.os, h.tape, h.output, by simpa [World.setRow] using h.size, fun k hk => by
    have := h.block k hk
    simp only [World.setRow, Array.getElem?_modify]
    rw [if_neg (by omega)]
    exact this⟩
theorem ownsRow_row {w : World} {base : Nat} {e : TypeId} {v : Value} {n : Nat} {xs : List Value} (h : w.ownsRow base e 1 v n xs) {g : Nat} (hg : v.ownBlock ≠ some g) (cs : Array Value) : (w.setRow g cs).ownsRow base e 1 v n xs := by
  obtain ⟨h1, h2⟩ := h
  refine ⟨h1, ?_⟩
  rcases h2 with h2 | ⟨g', cap, cur, rfl, b, c, d⟩
  · exact .inl h2
  · refine .inr ⟨g', cap, cur, rfl, b, ?_, d⟩
    simp only [World.setRow, Array.getElem?_modify]
    rw [if_neg (fun e => hg (by rw [e]; rfl))]
    exact c
theorem ownsRow_set {w : World} {base : Nat} {e : TypeId} {v : Value} {n : Nat} {xs : List Value} (h : w.ownsRow base e 1 v n xs) {a : Addr} (ha : v.ownBlock ≠ some a.block) (u : Value) : (w.setCell a u).ownsRow base e 1 v n xs := ownsRow_setCell_other h ha u

set_option maxRecDepth 100000 in
set_option maxHeartbeats 3200000 in
theorem copy_any (pc r0 r1 r2 r3 r4 r5 r6 r7 r8 r9 r10 r11 r12 r13 r14 r15 he : Int) (hl : Bool) (d : List Int) (p0 : Option Addr) (n0 c0 : Nat) (w : World) (hn : Hid (n0 = d.length)) (hd : Hid (RdAt w (.slice p0 n0 c0) d)) (hn0 : Hid (∀ c, Value.slice p0 n0 c0 = .slice none 0 c → c = 0)) (hlen : n0 ≤ 35184372087808) :
    Calls Tryd.prog 12 #[.agg #[.int .i64 pc, .int .i32 r0, .int .i32 r1, .int .i32 r2, .int .i32 r3, .int .i32 r4, .int .i32 r5, .int .i32 r6, .int .i32 r7, .int .i32 r8, .int .i32 r9, .int .i32 r10, .int .i32 r11, .int .i32 r12, .int .i32 r13, .int .i32 r14, .int .i32 r15, .slice p0 n0 c0, .bool hl, .int .i64 he]] w fun e w' => ∃ pv cv, e = .returned (.agg #[.int .i64 pc, .int .i32 r0, .int .i32 r1, .int .i32 r2, .int .i32 r3, .int .i32 r4, .int .i32 r5, .int .i32 r6, .int .i32 r7, .int .i32 r8, .int .i32 r9, .int .i32 r10, .int .i32 r11, .int .i32 r12, .int .i32 r13, .int .i32 r14, .int .i32 r15, .slice pv n0 cv, .bool hl, .int .i64 he]) ∧ Below w.heap.size w w' ∧ w'.ownsRow (w.heap.size + 2) 21 1 (.slice pv n0 cv) n0 (d.map (.int .i32)) := by
  obtain ⟨i0, hi0, hz0, hz1, hz2⟩ := info_parts Tryd.info32
  have hxi := Tryd.underlying27
  have hOE : (((w.alloc (.cells #[.int .i64 pc, .int .i32 r0, .int .i32 r1, .int .i32 r2, .int .i32 r3, .int .i32 r4, .int .i32 r5, .int .i32 r6, .int .i32 r7, .int .i32 r8, .int .i32 r9, .int .i32 r10, .int .i32 r11, .int .i32 r12, .int .i32 r13, .int .i32 r14, .int .i32 r15, .slice p0 n0 c0, .bool hl, .int .i64 he] 29)).alloc (.cells #[.int .i64 0, .int .i32 0, .int .i32 0, .int .i32 0, .int .i32 0, .int .i32 0, .int .i32 0, .int .i32 0, .int .i32 0, .int .i32 0, .int .i32 0, .int .i32 0, .int .i32 0, .int .i32 0, .int .i32 0, .int .i32 0, .int .i32 0, .slice none 0 0, .bool false, .int .i64 0] 29)).alloc (.cells #[] 21)).ownsRow (w.heap.size + 2) 21 1 (.slice (some ⟨w.heap.size + 1 + 1, 0, none⟩) 0 0) 0 [] := owns_empty _ _ _ _ (by simp) (by omega)
  have HM : Hid (RdAt (((w.alloc (.cells #[.int .i64 pc, .int .i32 r0, .int .i32 r1, .int .i32 r2, .int .i32 r3, .int .i32 r4, .int .i32 r5, .int .i32 r6, .int .i32 r7, .int .i32 r8, .int .i32 r9, .int .i32 r10, .int .i32 r11, .int .i32 r12, .int .i32 r13, .int .i32 r14, .int .i32 r15, .slice p0 n0 c0, .bool hl, .int .i64 he] 29)).alloc (.cells #[.int .i64 0, .int .i32 0, .int .i32 0, .int .i32 0, .int .i32 0, .int .i32 0, .int .i32 0, .int .i32 0, .int .i32 0, .int .i32 0, .int .i32 0, .int .i32 0, .int .i32 0, .int .i32 0, .int .i32 0, .int .i32 0, .int .i32 0, .slice none 0 0, .bool false, .int .i64 0] 29)).alloc (.cells #[] 21)) (.slice p0 n0 c0) d) := RdAt.below hd.out (bAlloc (by simp; omega) (bAlloc (by simp) (bAlloc (Nat.le_refl _) (Below.refl _ _)))) (Nat.le_refl _)
  have hn' := hn.out
  subst hn'
  go_enter Tryd.func12, Tryd.ntmps12
  go_wp2_with (first | (at_builtin; refine wpList_append_mem rfl _ _ 27 rfl (w.heap.size + 2) 21 i0 (.int .i32 0) 4 hxi hi0 hz0 hz1 hz2 rfl _ _ _ rfl hOE (.slice p0 d.length c0) d rfl HM.out hn0.out ?c3 ?c4 ?c5 ?_))
  case c3 => unfold maxLen; omega
  case c4 => omega
  intro pv cv w1 hown' hgrow
  clear hOE HM
  have hB0 : RowAt w1 w.heap.size [.int .i64 pc, .int .i32 r0, .int .i32 r1, .int .i32 r2, .int .i32 r3, .int .i32 r4, .int .i32 r5, .int .i32 r6, .int .i32 r7, .int .i32 r8, .int .i32 r9, .int .i32 r10, .int .i32 r11, .int .i32 r12, .int .i32 r13, .int .i32 r14, .int .i32 r15, .slice p0 d.length c0, .bool hl, .int .i64 he] := ⟨_, (hgrow.block _ (by simp; omega) (by simp [Value.ownBlock]; omega)).trans (by rw [Below.heap_alloc _ _ _ (by simp; omega), Below.heap_alloc _ _ _ (by simp)]; exact heap_alloc_new _ _)⟩
  have hR : RowAt w1 (w.heap.size + 1) [.int .i64 0, .int .i32 0, .int .i32 0, .int .i32 0, .int .i32 0, .int .i32 0, .int .i32 0, .int .i32 0, .int .i32 0, .int .i32 0, .int .i32 0, .int .i32 0, .int .i32 0, .int .i32 0, .int .i32 0, .int .i32 0, .int .i32 0, .slice none 0 0, .bool false, .int .i64 0] := ⟨_, (hgrow.block _ (by simp) (by simp [Value.ownBlock])).trans (by rw [Below.heap_alloc _ _ _ (by simp)]; exact heap_at1 _ _ _)⟩
  have b17 : w1.cell? ⟨w.heap.size, 17, none⟩ = some (.slice p0 d.length c0) := hB0.cell 17
  have bf : w1.frozen? ⟨w.heap.size, 17, none⟩ = false := hB0.frozen 17
  have hsz1 : w.heap.size + 2 < w1.heap.size := by have := hgrow.size; simp at this; omega
  have hB1 : Below w.heap.size w w1 := by
    refine Below.grown ?_ hgrow (by simp; omega) (fun k hk => by simp [Value.ownBlock] at hk; omega)
    repeat (first | (with_reducible apply bBoth) | (with_reducible exact Below.refl _ _) | (with_reducible apply bDrewN) | (with_reducible apply Below.drew) | ((with_reducible apply bSet); (focus first | (simp; done) | (simp; omega) | omega)) | ((with_reducible apply bAlloc); (focus first | (simp; done) | (simp; omega) | omega)))
  have HO := Lib.hid hown'
  clear hgrow hown' hd hn0
  have hB2 : RowAt (w1.setCell ⟨w.heap.size, 17, none⟩ (.slice pv d.length cv)) w.heap.size [.int .i64 pc, .int .i32 r0, .int .i32 r1, .int .i32 r2, .int .i32 r3, .int .i32 r4, .int .i32 r5, .int .i32 r6, .int .i32 r7, .int .i32 r8, .int .i32 r9, .int .i32 r10, .int .i32 r11, .int .i32 r12, .int .i32 r13, .int .i32 r14, .int .i32 r15, .slice pv d.length cv, .bool hl, .int .i64 he] := hB0.set 17 _
  have hR2 : RowAt (w1.setCell ⟨w.heap.size, 17, none⟩ (.slice pv d.length cv)) (w.heap.size + 1) [.int .i64 0, .int .i32 0, .int .i32 0, .int .i32 0, .int .i32 0, .int .i32 0, .int .i32 0, .int .i32 0, .int .i32 0, .int .i32 0, .int .i32 0, .int .i32 0, .int .i32 0, .int .i32 0, .int .i32 0, .int .i32 0, .int .i32 0, .slice none 0 0, .bool false, .int .i64 0] := hR.other (p := ⟨w.heap.size, 17, none⟩) (by show w.heap.size ≠ w.heap.size + 1; omega) _
  obtain ⟨tB, hB2⟩ := hB2
  obtain ⟨tR, hR2⟩ := hR2
  have HB2 := Lib.hid hB2
  have HR2 := Lib.hid hR2
  have HI : Hid ((Tryd.prog.info? 29).map (·.size) = some 20) := (show _ = _ by kernel_rfl)
  have HA : Hid ((#[.int .i64 pc, .int .i32 r0, .int .i32 r1, .int .i32 r2, .int .i32 r3, .int .i32 r4, .int .i32 r5, .int .i32 r6, .int .i32 r7, .int .i32 r8, .int .i32 r9, .int .i32 r10, .int .i32 r11, .int .i32 r12, .int .i32 r13, .int .i32 r14, .int .i32 r15, .slice pv d.length cv, .bool hl, .int .i64 he] : Array Value).all (·.oneCell') = true) := (show _ = true by simp [Value.oneCell'])
  have HZ : Hid (([.int .i64 0, .int .i32 0, .int .i32 0, .int .i32 0, .int .i32 0, .int .i32 0, .int .i32 0, .int .i32 0, .int .i32 0, .int .i32 0, .int .i32 0, .int .i32 0, .int .i32 0, .int .i32 0, .int .i32 0, .int .i32 0, .int .i32 0, .slice none 0 0, .bool false, .int .i64 0] : List Value).toArray.size = (#[.int .i64 pc, .int .i32 r0, .int .i32 r1, .int .i32 r2, .int .i32 r3, .int .i32 r4, .int .i32 r5, .int .i32 r6, .int .i32 r7, .int .i32 r8, .int .i32 r9, .int .i32 r10, .int .i32 r11, .int .i32 r12, .int .i32 r13, .int .i32 r14, .int .i32 r15, .slice pv d.length cv, .bool hl, .int .i64 he] : Array Value).size) := (show _ = _ by simp)
  clear hB2 hR2 hB0 hR
  go_wp2_with (first
    | (refine wpList_load_row rfl 29 (.tmp 1) rfl w.heap.size rfl tB _ (0, 0) _ HB2.out Tryd.underlying29 rfl HI.out ?_)
    | (refine wpList_store_row rfl 29 (.tmp 2) (.tmp 8) rfl (w.heap.size + 1) _ rfl rfl tR _ HR2.out HI.out HZ.out HA.out ?_))
  have hfin : ((w1.setCell ⟨w.heap.size, 17, none⟩ (.slice pv d.length cv)).setRow (w.heap.size + 1) #[.int .i64 pc, .int .i32 r0, .int .i32 r1, .int .i32 r2, .int .i32 r3, .int .i32 r4, .int .i32 r5, .int .i32 r6, .int .i32 r7, .int .i32 r8, .int .i32 r9, .int .i32 r10, .int .i32 r11, .int .i32 r12, .int .i32 r13, .int .i32 r14, .int .i32 r15, .slice pv d.length cv, .bool hl, .int .i64 he]).heap[w.heap.size + 1]? = some (.cells #[.int .i64 pc, .int .i32 r0, .int .i32 r1, .int .i32 r2, .int .i32 r3, .int .i32 r4, .int .i32 r5, .int .i32 r6, .int .i32 r7, .int .i32 r8, .int .i32 r9, .int .i32 r10, .int .i32 r11, .int .i32 r12, .int .i32 r13, .int .i32 r14, .int .i32 r15, .slice pv d.length cv, .bool hl, .int .i64 he] tR (0, 0)) := setRow_heap _ _ _ _ _ _ HR2.out
  refine bodyPost_ret (v := .agg #[.int .i64 pc, .int .i32 r0, .int .i32 r1, .int .i32 r2, .int .i32 r3, .int .i32 r4, .int .i32 r5, .int .i32 r6, .int .i32 r7, .int .i32 r8, .int .i32 r9, .int .i32 r10, .int .i32 r11, .int .i32 r12, .int .i32 r13, .int .i32 r14, .int .i32 r15, .slice pv d.length cv, .bool hl, .int .i64 he]) (results_cell_row Tryd.results12 _ _ (w.heap.size + 1) _ _ _ _ rfl hfin Tryd.underlying29 rfl (by kernel_rfl)) rfl ⟨pv, cv, rfl, ?_, ?_⟩
  · exact bRow (by omega) (bSet (Nat.le_refl _) hB1)
  · have hno : ∀ k, k < w.heap.size + 2 → (Value.slice pv d.length cv).ownBlock ≠ some k := fun k hk e => by have := ownBase HO.out e; omega
    exact ownsRow_row (ownsRow_set HO.out (hno _ (by show w.heap.size < w.heap.size + 2; omega)) _) (hno _ (by omega)) _

end Go.Proofs.YtlmipchjmgnlfaaDoor
