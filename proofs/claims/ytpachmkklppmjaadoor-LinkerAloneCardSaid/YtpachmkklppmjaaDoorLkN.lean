/- core.New of any task of an image. -/
import Derived.Test.YtpachmkklppmjaaDoorLkK
import Derived.Laws.Rows
import Derived.RegionTactic
import Derived.BigRegion
import Derived.Laws.Tables
import Derived.StillTailTactics
import Derived.Laws.OwnMore
set_option linter.unusedVariables false
set_option linter.unusedSimpArgs false
namespace Go.Proofs.YtpachmkklppmjaaDoor
open Go.RowKit Go.Maps Go.WideMaps

theorem heap_at1 (w : World) (A B : Obj) : ((w.alloc A).alloc B).heap[w.heap.size + 1]? = some B := by
  have h := heap_alloc_new (w.alloc A) B
  rwa [show (w.alloc A).heap.size = w.heap.size + 1 by simp] at h
theorem results_row2 {P : Program} {fn : Func} {p u : Tmp} {ty : TypeId} (hr : fn.results = #[.cell p ty, .tmp u]) (tmps : Array Value) (w : World) (g : Nat) (t : TypeId) (cs : Array Value) (fr : Nat × Nat) (d : TypeDesc) (r : Value)
    (hp : tmps.getD p undef = .pointer (some ⟨g, 0, none⟩)) (hu2 : tmps.getD u undef = r) (hg : w.heap[g]? = some (.cells cs t fr))
    (hu : P.underlying ty = some d) (hd : (match d with | .struct _ | .array _ _ => true | _ => false) = true) (hi : (P.info? ty).map (·.size) = some cs.size) :
    (results fn tmps).run P w = .ok (.tuple #[.agg cs, r]) w := by
  rw [results_cell_tmp hr, hp, hu2]
  simp [asAddr, run_loadVar_row w g t ty cs fr d hg hu hd hi]
theorem step_store_row {P : Program} {w : World} {ops : Array Oper} {o : Oper} {a : Act} {K : Act → World → Prop} {Q : Exit → Act → World → Prop} {E : Prop} (hgd : o.guard = none) (ty : TypeId) (x y : Operand) (ho : o.op = .store ty x y)
    (g : Nat) (cells : Array Value) (hx : a.eval x = .pointer (some ⟨g, 0, none⟩)) (hy : a.eval y = .agg cells)
    (t : TypeId) (old : Array Value) (hg : w.heap[g]? = some (.cells old t (0, 0))) (hi : (P.info? ty).map (·.size) = some cells.size)
    (hold : old.size = cells.size) (h1 : cells.all (·.oneCell') = true) (h : K (a.put o.dst undef) (w.setRow g cells)) :
    if Region.wanted o (yielded ops a.tmps) = true then Oper.wp P o a w K Q else E := by
  have hw : Region.wanted o (yielded ops a.tmps) = true := by simp [Region.wanted, hgd]
  rw [if_pos hw]
  exact wp_store_row ty x y ho g cells hx hy t old hg hi hold h1 h
theorem infoI32 : (Tryd.prog.info? 21).map (fun i => (i.zero, i.size, i.bytes)) = some (some (.int .i32 0), 1, 4) := by kernel_rfl
theorem run_make_i32 (n : Nat) (hn : n ≤ 100000) (w : World) : (Instr.makeSlice 24 (.int .i64 (n : Int)) (.int .i64 (n : Int))).run Tryd.prog w = .ok (.slice (some ⟨w.heap.size, 0, none⟩) n n) (w.alloc (.cells (madeCells #[.int .i32 0] n) 21)) := by
  obtain ⟨i, hi, hz, hs, hb⟩ := info_parts infoI32
  have hr := run_make (P := Tryd.prog) w 24 21 i (.int .i32 0) Tryd.underlying24 hi hz .i64 .i64 n (n : Int) (by omega) (by omega) (by rw [hb]; omega) (by omega)
  simp only [Int.toNat_natCast, hs, Value.cells, Nat.mul_one] at hr
  exact hr
theorem bRow {B : Nat} {a w : World} {g : Nat} {cs : Array Value} (hg : B ≤ g) (h : Below B a w) : Below B a (w.setRow g cs) := bRowK hg h
theorem made_rep (n : Nat) : madeCells #[.int .i32 0] n = (List.replicate n (Value.int .i32 0)).toArray := by
  exact Array.ext' (by rw [toList_madeCells_one])

set_option maxRecDepth 100000 in
set_option maxHeartbeats 3200000 in
theorem new_task (cv : Value) (eb eo nE ecap : Nat) (sh lk : Int) (nm : ByteArray) (st fin : Int) (k n : Nat) (hkI : (k : Int) < (nE : Int)) (hnI : (n : Int) ≤ 512) (w : World) (heb : eb < w.heap.size)
    (he0 : w.cell? ⟨eb, eo + k * 4, none⟩ = some (.string nm)) (he1 : w.cell? ⟨eb, eo + k * 4 + 1, none⟩ = some (.int .i64 st)) (he2 : w.cell? ⟨eb, eo + k * 4 + 2, none⟩ = some (.int .i64 fin)) (he3 : w.cell? ⟨eb, eo + k * 4 + 3, none⟩ = some (.int .i64 (n : Int))) :
    Calls Tryd.prog 14 #[.agg #[cv, .slice (some ⟨eb, eo, none⟩) nE ecap, .int .i64 sh, .int .i64 lk], .int .i64 (k : Int)] w fun e w' => ∃ g,
      e = .returned (.tuple #[.agg #[.int .i64 st, .int .i32 0, .int .i32 0, .int .i32 0, .int .i32 0, .int .i32 0, .int .i32 0, .int .i32 0, .int .i32 0, .int .i32 0, .int .i32 0, .int .i32 0, .int .i32 0, .int .i32 0, .int .i32 0, .int .i32 0, .int .i32 0, .slice (some ⟨g, 0, none⟩) n n, .bool false, .int .i64 (-1)], .int .i64 0]) ∧
      Below w.heap.size w w' ∧ w.heap.size ≤ g ∧ RowAt w' g (List.replicate n (.int .i32 0)) := by
  have hmk := run_make_i32 n (by omega)
  have hz1 : eb < w.heap.size + 1 := by omega
  have hz2 : eb < w.heap.size + 1 + 1 := by omega
  have hkN : k < nE := by omega
  go_enter Tryd.func14, Tryd.ntmps14
  go_wp2_with fail
  obtain ⟨w2, hw2⟩ : ∃ w2, (((w.alloc (.cells #[cv, .slice (some ⟨eb, eo, none⟩) nE ecap, .int .i64 sh, .int .i64 lk] 30)).alloc (.cells #[.int .i64 0, .int .i32 0, .int .i32 0, .int .i32 0, .int .i32 0, .int .i32 0, .int .i32 0, .int .i32 0, .int .i32 0, .int .i32 0, .int .i32 0, .int .i32 0, .int .i32 0, .int .i32 0, .int .i32 0, .int .i32 0, .int .i32 0, .slice none 0 0, .bool false, .int .i64 0] 42)).alloc (.cells #[.string nm, .int .i64 st, .int .i64 fin, .int .i64 (n : Int)] 48)) = w2 := ⟨_, rfl⟩
  have hB2 : Below w.heap.size w w2 := by
    rw [← hw2]
    exact bAlloc (by simp; omega) (bAlloc (by simp) (bAlloc (Nat.le_refl _) (Below.refl _ _)))
  have hR2 : RowAt w2 (w.heap.size + 1) [.int .i64 0, .int .i32 0, .int .i32 0, .int .i32 0, .int .i32 0, .int .i32 0, .int .i32 0, .int .i32 0, .int .i32 0, .int .i32 0, .int .i32 0, .int .i32 0, .int .i32 0, .int .i32 0, .int .i32 0, .int .i32 0, .int .i32 0, .slice none 0 0, .bool false, .int .i64 0] := by
    rw [← hw2]
    exact ⟨_, by rw [Below.heap_alloc _ _ _ (by simp)]; exact heap_at1 _ _ _⟩
  have c1 : w2.cell? ⟨w.heap.size + 1 + 1, 1, none⟩ = some (.int .i64 st) := by rw [← hw2]; simp [go_sem]
  have c3 : w2.cell? ⟨w.heap.size + 1 + 1, 3, none⟩ = some (.int .i64 (n : Int)) := by rw [← hw2]; simp [go_sem]
  have hs2 : w.heap.size + 1 + 1 < w2.heap.size := by rw [← hw2]; simp
  rw [hw2]
  clear hw2 he0 he1 he2 he3 hz1 hz2
  have hR3 : RowAt (w2.alloc (.cells (madeCells #[.int .i32 0] n) 21)) (w.heap.size + 1) [.int .i64 0, .int .i32 0, .int .i32 0, .int .i32 0, .int .i32 0, .int .i32 0, .int .i32 0, .int .i32 0, .int .i32 0, .int .i32 0, .int .i32 0, .int .i32 0, .int .i32 0, .int .i32 0, .int .i32 0, .int .i32 0, .int .i32 0, .slice none 0 0, .bool false, .int .i64 0] := hR2.block (Below.heap_alloc _ _ _ (by omega))
  obtain ⟨tR, hR3⟩ := hR3
  have HR : Hid ((w2.alloc (.cells (madeCells #[.int .i32 0] n) 21)).drew.heap[w.heap.size + 1]? = some (.cells [.int .i64 0, .int .i32 0, .int .i32 0, .int .i32 0, .int .i32 0, .int .i32 0, .int .i32 0, .int .i32 0, .int .i32 0, .int .i32 0, .int .i32 0, .int .i32 0, .int .i32 0, .int .i32 0, .int .i32 0, .int .i32 0, .int .i32 0, .slice none 0 0, .bool false, .int .i64 0].toArray tR (0, 0))) := hR3
  have HI : Hid ((Tryd.prog.info? 42).map (·.size) = some 20) := (show _ = _ by kernel_rfl)
  have HA : Hid ((#[.int .i64 st, .int .i32 0, .int .i32 0, .int .i32 0, .int .i32 0, .int .i32 0, .int .i32 0, .int .i32 0, .int .i32 0, .int .i32 0, .int .i32 0, .int .i32 0, .int .i32 0, .int .i32 0, .int .i32 0, .int .i32 0, .int .i32 0, .slice (some ⟨w2.heap.size, 0, none⟩) n n, .bool false, .int .i64 (-1)] : Array Value).all (·.oneCell') = true) := (show _ = true by simp [Value.oneCell'])
  have HZ : Hid (([.int .i64 0, .int .i32 0, .int .i32 0, .int .i32 0, .int .i32 0, .int .i32 0, .int .i32 0, .int .i32 0, .int .i32 0, .int .i32 0, .int .i32 0, .int .i32 0, .int .i32 0, .int .i32 0, .int .i32 0, .int .i32 0, .int .i32 0, .slice none 0 0, .bool false, .int .i64 0] : List Value).toArray.size = (#[.int .i64 st, .int .i32 0, .int .i32 0, .int .i32 0, .int .i32 0, .int .i32 0, .int .i32 0, .int .i32 0, .int .i32 0, .int .i32 0, .int .i32 0, .int .i32 0, .int .i32 0, .int .i32 0, .int .i32 0, .int .i32 0, .int .i32 0, .slice (some ⟨w2.heap.size, 0, none⟩) n n, .bool false, .int .i64 (-1)] : Array Value).size) := (show _ = _ by simp)
  clear hR3 hR2
  have hst : (storeVar 42 ⟨w.heap.size + 1, 0, none⟩ (.agg #[.int .i64 st, .int .i32 0, .int .i32 0, .int .i32 0, .int .i32 0, .int .i32 0, .int .i32 0, .int .i32 0, .int .i32 0, .int .i32 0, .int .i32 0, .int .i32 0, .int .i32 0, .int .i32 0, .int .i32 0, .int .i32 0, .int .i32 0, .slice (some ⟨w2.heap.size, 0, none⟩) n n, .bool false, .int .i64 (-1)])).run Tryd.prog (w2.alloc (.cells (madeCells #[.int .i32 0] n) 21)).drew = .ok () ((w2.alloc (.cells (madeCells #[.int .i32 0] n) 21)).drew.setRow (w.heap.size + 1) #[.int .i64 st, .int .i32 0, .int .i32 0, .int .i32 0, .int .i32 0, .int .i32 0, .int .i32 0, .int .i32 0, .int .i32 0, .int .i32 0, .int .i32 0, .int .i32 0, .int .i32 0, .int .i32 0, .int .i32 0, .int .i32 0, .int .i32 0, .slice (some ⟨w2.heap.size, 0, none⟩) n n, .bool false, .int .i64 (-1)]) := run_storeVar_row _ _ _ _ _ _ HR.out HI.out HZ.out HA.out
  have hfin : ((w2.alloc (.cells (madeCells #[.int .i32 0] n) 21)).drew.setRow (w.heap.size + 1) #[.int .i64 st, .int .i32 0, .int .i32 0, .int .i32 0, .int .i32 0, .int .i32 0, .int .i32 0, .int .i32 0, .int .i32 0, .int .i32 0, .int .i32 0, .int .i32 0, .int .i32 0, .int .i32 0, .int .i32 0, .int .i32 0, .int .i32 0, .slice (some ⟨w2.heap.size, 0, none⟩) n n, .bool false, .int .i64 (-1)]).heap[w.heap.size + 1]? = some (.cells #[.int .i64 st, .int .i32 0, .int .i32 0, .int .i32 0, .int .i32 0, .int .i32 0, .int .i32 0, .int .i32 0, .int .i32 0, .int .i32 0, .int .i32 0, .int .i32 0, .int .i32 0, .int .i32 0, .int .i32 0, .int .i32 0, .int .i32 0, .slice (some ⟨w2.heap.size, 0, none⟩) n n, .bool false, .int .i64 (-1)] tR (0, 0)) := setRow_heap _ _ _ _ _ _ HR.out
  have hBf : Below w.heap.size w ((w2.alloc (.cells (madeCells #[.int .i32 0] n) 21)).drew.setRow (w.heap.size + 1) #[.int .i64 st, .int .i32 0, .int .i32 0, .int .i32 0, .int .i32 0, .int .i32 0, .int .i32 0, .int .i32 0, .int .i32 0, .int .i32 0, .int .i32 0, .int .i32 0, .int .i32 0, .int .i32 0, .int .i32 0, .int .i32 0, .int .i32 0, .slice (some ⟨w2.heap.size, 0, none⟩) n n, .bool false, .int .i64 (-1)]) := bRow (by omega) (bAlloc (by have := hB2.size; omega) hB2).drew
  have hgf : RowAt ((w2.alloc (.cells (madeCells #[.int .i32 0] n) 21)).drew.setRow (w.heap.size + 1) #[.int .i64 st, .int .i32 0, .int .i32 0, .int .i32 0, .int .i32 0, .int .i32 0, .int .i32 0, .int .i32 0, .int .i32 0, .int .i32 0, .int .i32 0, .int .i32 0, .int .i32 0, .int .i32 0, .int .i32 0, .int .i32 0, .int .i32 0, .slice (some ⟨w2.heap.size, 0, none⟩) n n, .bool false, .int .i64 (-1)]) w2.heap.size (List.replicate n (.int .i32 0)) := by
    refine ⟨21, ?_⟩
    simp only [World.setRow, Array.getElem?_modify]
    rw [if_neg (by omega)]
    rw [← made_rep n]
    exact heap_alloc_new _ _
  clear hst
  refine wp_region_any (by kernel_rfl) ?_
  change wpAny _ _ _ _ _ _ _ (World.drew _)
  refine wpAny_take (i := 0) (v := ?v0) rfl (by kernel_rfl) (by kernel_rfl) (by kernel_rfl) (fun _ _ _ h => h) (Or.inl ⟨by rfl, ?h0⟩) ?r0
  case h0 => intro w; go_simp; with_reducible rfl
  case r0 =>
  refine wpAny_take (i := 2) (v := ?v2) rfl (by kernel_rfl) (by kernel_rfl) (by kernel_rfl) (fun _ _ _ h => h) (Or.inl ⟨by rfl, ?h2⟩) ?r2
  case h2 => intro w; go_simp; with_reducible rfl
  case r2 =>
  refine wpAny_ready (rs := [1, 3]) (by kernel_rfl) (by simp) ?_
  refine AllReady.cons rfl (fun K hK => ?_) (AllReady.cons rfl (fun K hK => ?_) AllReady.nil)
  · go_simp
    refine hK _ _ ?_
    clear hK K
    refine wpAny_ready (rs := [3]) (by kernel_rfl) (by simp) ?_
    refine AllReady.cons rfl (fun K hK => ?_) AllReady.nil
    go_simp
    refine hK _ _ ?_
    clear hK K
    refine wpAny_ready (rs := [4]) (by kernel_rfl) (by simp) ?_
    refine AllReady.cons rfl (fun K hK => ?_) AllReady.nil
    go_simp
    refine hK _ _ ?_
    clear hK K
    refine wpAny_ready (rs := [5]) (by kernel_rfl) (by simp) ?_
    refine AllReady.cons rfl (fun K hK => ?_) AllReady.nil
    go_simp
    refine hK _ _ ?_
    clear hK K
    refine wpAny_ready (rs := [6]) (by kernel_rfl) (by simp) ?_
    refine AllReady.cons rfl (fun K hK => ?_) AllReady.nil
    refine step_store_row rfl 42 (.tmp 4) (.tmp 36) rfl (w.heap.size + 1) _ rfl rfl tR _ HR.out HI.out HZ.out HA.out ?_
    refine hK _ _ ?_
    clear hK K
    refine wpAny_ready (rs := [7]) (by kernel_rfl) (by simp) ?_
    refine AllReady.cons rfl (fun K hK => ?_) AllReady.nil
    go_simp
    refine hK _ _ ?_
    clear hK K
    refine wpAny_done (by kernel_rfl) ?_ _
    go_wp2_with fail
    refine bodyPost_ret (results_row2 Tryd.results14 _ _ (w.heap.size + 1) _ _ _ _ _ rfl rfl hfin Tryd.underlying42 rfl HI.out) rfl ⟨w2.heap.size, rfl, hBf, by omega, hgf⟩
  · go_simp
    refine hK _ _ ?_
    clear hK K
    refine wpAny_ready (rs := [1, 4]) (by kernel_rfl) (by simp) ?_
    refine AllReady.cons rfl (fun K hK => ?_) (AllReady.cons rfl (fun K hK => ?_) AllReady.nil)
    · go_simp
      refine hK _ _ ?_
      clear hK K
      refine wpAny_ready (rs := [4]) (by kernel_rfl) (by simp) ?_
      refine AllReady.cons rfl (fun K hK => ?_) AllReady.nil
      go_simp
      refine hK _ _ ?_
      clear hK K
      refine wpAny_ready (rs := [5]) (by kernel_rfl) (by simp) ?_
      refine AllReady.cons rfl (fun K hK => ?_) AllReady.nil
      go_simp
      refine hK _ _ ?_
      clear hK K
      refine wpAny_ready (rs := [6]) (by kernel_rfl) (by simp) ?_
      refine AllReady.cons rfl (fun K hK => ?_) AllReady.nil
      refine step_store_row rfl 42 (.tmp 4) (.tmp 36) rfl (w.heap.size + 1) _ rfl rfl tR _ HR.out HI.out HZ.out HA.out ?_
      refine hK _ _ ?_
      clear hK K
      refine wpAny_ready (rs := [7]) (by kernel_rfl) (by simp) ?_
      refine AllReady.cons rfl (fun K hK => ?_) AllReady.nil
      go_simp
      refine hK _ _ ?_
      clear hK K
      refine wpAny_done (by kernel_rfl) ?_ _
      go_wp2_with fail
      refine bodyPost_ret (results_row2 Tryd.results14 _ _ (w.heap.size + 1) _ _ _ _ _ rfl rfl hfin Tryd.underlying42 rfl HI.out) rfl ⟨w2.heap.size, rfl, hBf, by omega, hgf⟩
    · go_simp
      refine hK _ _ ?_
      clear hK K
      refine wpAny_ready (rs := [1]) (by kernel_rfl) (by simp) ?_
      refine AllReady.cons rfl (fun K hK => ?_) AllReady.nil
      go_simp
      refine hK _ _ ?_
      clear hK K
      refine wpAny_ready (rs := [5]) (by kernel_rfl) (by simp) ?_
      refine AllReady.cons rfl (fun K hK => ?_) AllReady.nil
      go_simp
      refine hK _ _ ?_
      clear hK K
      refine wpAny_ready (rs := [6]) (by kernel_rfl) (by simp) ?_
      refine AllReady.cons rfl (fun K hK => ?_) AllReady.nil
      refine step_store_row rfl 42 (.tmp 4) (.tmp 36) rfl (w.heap.size + 1) _ rfl rfl tR _ HR.out HI.out HZ.out HA.out ?_
      refine hK _ _ ?_
      clear hK K
      refine wpAny_ready (rs := [7]) (by kernel_rfl) (by simp) ?_
      refine AllReady.cons rfl (fun K hK => ?_) AllReady.nil
      go_simp
      refine hK _ _ ?_
      clear hK K
      refine wpAny_done (by kernel_rfl) ?_ _
      go_wp2_with fail
      refine bodyPost_ret (results_row2 Tryd.results14 _ _ (w.heap.size + 1) _ _ _ _ _ rfl rfl hfin Tryd.underlying42 rfl HI.out) rfl ⟨w2.heap.size, rfl, hBf, by omega, hgf⟩

end Go.Proofs.YtpachmkklppmjaaDoor
