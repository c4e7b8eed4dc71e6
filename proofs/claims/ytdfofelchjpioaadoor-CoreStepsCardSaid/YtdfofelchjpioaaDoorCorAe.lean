import Derived.Test.YtdfofelchjpioaaDoorMs30
import Derived.Laws.StructEq
import Derived.BigFrame
import Derived.Deep.DeepCutAuto
set_option linter.unusedVariables false
set_option linter.unusedSimpArgs false
namespace Go.Proofs.YtdfofelchjpioaaDoor
open Go.RowKit

theorem all_range_eqI : ∀ (xs ys : List Int), xs.length = ys.length → ((List.range xs.length).all fun i => xs.getD i 0 == ys.getD i 0) = (xs == ys)
  | [], [], _ => rfl
  | x :: xs, y :: ys, h => by
    have ih := all_range_eqI xs ys (by simpa using h)
    rw [List.length_cons, List.range_succ_eq_map, List.all_cons, List.all_map]
    simp only [List.getD_cons_zero, Function.comp_def, List.getD_cons_succ, ih]
    simp [List.cons_beq_cons]
  | [], _ :: _, h => by simp at h
  | _ :: _, [], h => by simp at h

theorem run_equalIn_ints {P : Program} (w : World) (d : Nat) (t e : TypeId) (n : Nat) (k : IntKind) (ht : P.underlying t = some (.array n e)) (he : P.underlying e = some (.int k)) (hsz : ∀ w, (sizeOf e).run P w = .ok 1 w)
    (xs ys : List Int) (hx : xs.length = n) (hy : ys.length = n) :
    (Op.equalIn (d + 2) t (.agg (xs.map (Value.int k)).toArray) (.agg (ys.map (Value.int k)).toArray)).run P w = .ok (xs == ys) w := by
  rw [← all_range_eqI xs ys (hx.trans hy.symm), hx, List.range_eq_range', Op.equalIn]
  simp only [Sem.run_bind, run_underlying ht, Result.andThen_ok, hsz, Std.Legacy.Range.forIn_eq_forIn_range', Std.Legacy.Range.size, Nat.sub_zero, Nat.add_sub_cancel, Nat.div_one]
  have hl : ∀ i ∈ List.range' 0 n 1, i < n := fun i hi => by simpa using (List.mem_range'_1.1 hi).2
  generalize List.range' 0 n 1 = l at hl ⊢
  induction l with
  | nil => simp
  | cons i l ih =>
    have hi : i < n := hl i (by simp)
    have px : (part e (xs.map (Value.int k)).toArray (i * 1)).run P w = .ok (.int k (xs.getD i 0)) w := by
      simp [part, isAgg, run_underlying he, List.getD, List.getElem?_eq_getElem (show i < xs.length by omega)]
    have py : (part e (ys.map (Value.int k)).toArray (i * 1)).run P w = .ok (.int k (ys.getD i 0)) w := by
      simp [part, isAgg, run_underlying he, List.getD, List.getElem?_eq_getElem (show i < ys.length by omega)]
    have pe : (Op.equalIn (d + 1) e (.int k (xs.getD i 0)) (.int k (ys.getD i 0))).run P w = .ok (xs.getD i 0 == ys.getD i 0) w := run_equalIn_int w d e k k _ _ he
    simp only [List.forIn_cons, Sem.run_bind, px, py, pe, Result.andThen_ok, List.all_cons]
    cases hb : (xs.getD i 0 == ys.getD i 0)
    · simp
    · simp only [Bool.not_true, Bool.false_eq_true, if_false, Sem.run_pure, Result.andThen_ok, Bool.true_and]
      exact ih fun j hj => hl j (by simp [hj])

theorem run_eql_regs (xs ys : List Int) (hx : xs.length = 16) (hy : ys.length = 16) (w : World) :
    (binOp .eql 26 (.agg (xs.map (Value.int .i32)).toArray) (.agg (ys.map (Value.int .i32)).toArray)).run Tryd.prog w = .ok (.bool (xs == ys)) w := by
  rw [run_eql_struct, run_equalIn_ints w 9998 26 21 16 .i32 Tryd.underlying26 Tryd.underlying21 (fun _ => by kernel_rfl) xs ys hx hy]
  rfl

theorem StAt.regs {w : World} {S : Nat} {s : St} {dv : Value} (h : StAt w S s dv) : w.rangeAt S 1 (s.r.map (.int .i32)) := fun j v hj => by
  obtain ⟨hj1, hj2⟩ := List.getElem?_eq_some_iff.1 hj
  have hj3 : j < 16 := by have := h.1; simp at hj1; omega
  rw [h.reg j hj3, ← hj2]
  simp [List.getD_eq_getElem?_getD, List.getElem?_eq_getElem (show j < s.r.length by simpa using hj1)]

set_option maxHeartbeats 1600000 in
set_option maxRecDepth 100000 in
theorem equalS (s : St) (dv dv' : Value) (w : World) (hr : s.r.length = 16) (h1 : RdAt w dv s.d) (h2 : RdAt w dv' s.d) (hlen : s.d.length ≤ 140737488351232) :
    Calls Tryd.prog 10 #[stV s dv, stV s dv'] w fun e w' => e = .returned (.bool true) ∧ Below w.heap.size w w' := by
  have heq := run_eql_regs s.r s.r hr hr
  rw [show (s.r == s.r) = true by simp] at heq
  have HI : Hid ((Tryd.prog.info? 26).map (·.size) = some (s.r.map (Value.int .i32)).length) := (show _ = _ by rw [List.length_map, hr]; kernel_rfl)
  go_enter Tryd.func10, Tryd.ntmps10
  go_upto_region 1 with (fail)
  have hb0 : Below w.heap.size w ((w.alloc (.cells (stCells s dv).toArray 29)).alloc (.cells (stCells s dv').toArray 29)) := bAlloc (by simp) (bAlloc (Nat.le_refl _) (Below.refl _ _))
  have hA : StAt ((w.alloc (.cells (stCells s dv).toArray 29)).alloc (.cells (stCells s dv').toArray 29)) w.heap.size s dv := ⟨hr, _, (Below.heap_alloc _ _ _ (by simp)).trans (heap_alloc_new _ _)⟩
  have hB : StAt ((w.alloc (.cells (stCells s dv).toArray 29)).alloc (.cells (stCells s dv').toArray 29)) (w.heap.size + 1) s dv' := ⟨hr, _, heap_at1 _ _ _⟩
  generalize (w.alloc (.cells (stCells s dv).toArray 29)).alloc (.cells (stCells s dv').toArray 29) = W at hb0 hA hB ⊢
  have a0 := hA.pc
  have a1 := hA.d
  have a2 := hA.halted
  have a3 := hA.held
  have b0 := hB.pc
  have b1 := hB.d
  have b2 := hB.halted
  have b3 := hB.held
  have HA := Lib.hid hA.regs
  have HB := Lib.hid hB.regs
  have HW := Lib.hid (words_any dv dv' s.d s.d W (h1.below hb0 (Nat.le_refl _)) (h2.below hb0 (Nat.le_refl _)) hlen)
  rw [show decide (s.d = s.d) = true by simp] at HW
  clear hA hB h1 h2
  go_wp2_with (first
    | (refine BigFrame.wpList_want rfl (fun K hK => wp_load_mid 26 (.tmp 11) rfl w.heap.size 1 rfl (s.r.map (.int .i32)) _ HA.out Tryd.underlying26 rfl HI.out (hK _ _ ?_)))
    | (refine BigFrame.wpList_want rfl (fun K hK => wp_load_mid 26 (.tmp 13) rfl (w.heap.size + 1) 1 rfl (s.r.map (.int .i32)) _ HB.out Tryd.underlying26 rfl HI.out (hK _ _ ?_))))
  refine HW.out.mono ?_
  rintro e w1 ⟨rfl, hb1⟩
  go_wp2_with fail
  go_ret
  exact ⟨rfl, bThen hb1 hb0.size hb0⟩

end Go.Proofs.YtdfofelchjpioaaDoor
