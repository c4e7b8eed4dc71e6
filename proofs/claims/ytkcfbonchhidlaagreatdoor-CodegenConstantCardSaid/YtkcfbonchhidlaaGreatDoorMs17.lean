import Derived.Test.YtkcfbonchhidlaaGreatDoorCoT
import Derived.Laws.Rows
import Derived.RegionTactic
import Derived.BigRegion
import Derived.Laws.Tables
import Derived.StillTailTactics
import Derived.LoopTactic
set_option linter.unusedVariables false
set_option linter.unusedSimpArgs false
namespace Go.Proofs.YtkcfbonchhidlaaGreatDoor
open Go.RowKit

theorem bRow {B : Nat} {a w : World} {g : Nat} {cs : Array Value} (hg : B ≤ g) (h : Below B a w) : Below B a (w.setRow g cs) :=
  ⟨h.os, h.tape, h.output, by simpa [World.setRow] using h.size, fun k hk => by
    have := h.block k hk
    simp only [World.setRow, Array.getElem?_modify]
    rw [if_neg (by omega)]
    exact this⟩
theorem ownsRow_set {w : World} {base : Nat} {e : TypeId} {v : Value} {n : Nat} {xs : List Value} (h : w.ownsRow base e 1 v n xs) {a : Addr} (ha : v.ownBlock ≠ some a.block) (u : Value) : (w.setCell a u).ownsRow base e 1 v n xs := ownsRow_setCell_other h ha u
theorem heap_at1 (w : World) (A B : Obj) : ((w.alloc A).alloc B).heap[w.heap.size + 1]? = some B := by
  have h := heap_alloc_new (w.alloc A) B
  rwa [show (w.alloc A).heap.size = w.heap.size + 1 by simp] at h
theorem results_row2 {P : Program} {fn : Func} {p u : Tmp} {ty : TypeId} (hr : fn.results = #[.cell p ty, .tmp u]) (tmps : Array Value) (w : World) (g : Nat) (t : TypeId) (cs : Array Value) (fr : Nat × Nat) (d : TypeDesc) (r : Value)
    (hp : tmps.getD p undef = .pointer (some ⟨g, 0, none⟩)) (hu2 : tmps.getD u undef = r) (hg : w.heap[g]? = some (.cells cs t fr))
    (hu : P.underlying ty = some d) (hd : (match d with | .struct _ | .array _ _ => true | _ => false) = true) (hi : (P.info? ty).map (·.size) = some cs.size) :
    (results fn tmps).run P w = .ok (.tuple #[.agg cs, r]) w := by
  rw [results_cell_tmp hr, hp, hu2]
  simp [asAddr, run_loadVar_row w g t ty cs fr d hg hu hd hi]
theorem step_store_row {P : Program} {w : World} {ops : Array Oper} {o : Oper} {a : Act} {K : Act → World → Prop} {Q : Exit → Act → World → Prop} {E : Prop} (hgd : o.guard = none) (ty : TypeId) (x y : Operand) (ho : o.op = .store ty x y)
    (g : Nat) (cells : Array Value) (hx : a.eval x = .pointer (some ⟨g, 0, none⟩)) (hy : a.eval y = .agg cells)
    (t : TypeId) (old : Array Value) (hg : w.heap[g]? = some (.cells old t (0, 0))) (hi : (P.info? ty).map (·.size) = some cells.size)
    (hold : old.size = cells.size) (h1 : cells.all (·.oneCell') = true) (h : K (a.put o.dst undef) (w.setRow g cells)) :
    if Region.wanted o (yielded ops a.tmps) = true then Oper.wp P o a w K Q else E := by
  have hw : Region.wanted o (yielded ops a.tmps) = true := by simp [Region.wanted, hgd]
  rw [if_pos hw]
  exact wp_store_row ty x y ho g cells hx hy t old hg hi hold h1 h
theorem Tryz.infoU32 : (Tryz.prog.info? 31).map (fun i => (i.zero, i.size, i.bytes)) = some (some (.int .u32 0), 1, 4) := by kernel_rfl
def tName : ByteArray := ⟨#[116]⟩
def codeCells (codes : List Int) (k : Nat) : List Value := (codes.take k).map (.int .u32)
theorem port_nil (S : Nat) (dv mv : Value) : PortRun (σ := Unit) S dv mv .nilFunc (fun _ _ => 0) (fun _ _ => ()) (fun _ _ => True) (fun _ => False) (fun _ _ => id) :=
  ⟨fun _ _ _ _ => .none rfl rfl rfl, fun _ _ _ _ _ => trivial, fun _ _ _ _ => trivial, fun _ _ _ => Kept.refl _ _, fun _ _ _ => rfl, fun _ h => h.elim, fun _ _ => W32.zero⟩
theorem imAt_one {w' : World} {base eb : Nat} {p : Option Addr} {c : Nat} {codes : List Int} {dat sh lk : Int} (hown : w'.ownsRow base 31 1 (.slice p codes.length c) codes.length (codeCells codes codes.length)) (hen : RowAt w' eb [.string tName, .int .i64 0, .int .i64 codes.length, .int .i64 dat])
    (hw : ∀ k, k < codes.length → 0 ≤ codes.getD k 0 ∧ codes.getD k 0 < 4294967296) (hl : codes.length ≤ 1000) : ImAt w' (.agg #[.slice p codes.length c, .slice (some ⟨eb, 0, none⟩) 1 1, .int .i64 sh, .int .i64 lk]) ⟨codes, [⟨tName, 0, codes.length, dat⟩], sh, lk⟩ := by
  refine ⟨⟨p, c, some ⟨eb, 0, none⟩, 1, rfl, ?_, .inr ⟨eb, 0, rfl, hen.lt, fun k hk => ?_⟩⟩, hw, by show codes.length ≤ _; omega⟩
  · rcases hown.2 with ⟨_, h0⟩ | ⟨g, cap, cur, h1, _, hg, _, _, _, ht⟩
    · exact .inl (List.eq_nil_of_length_eq_zero h0)
    · injection h1 with h1
      refine .inr ⟨g, 0, h1, lt_of_block hg, fun k hk => ?_⟩
      have hk' : k < codes.length := hk
      rw [cell_of_row _ _ _ _ _ _ hg, Nat.zero_add]
      have h2 : cur.toList[k]? = (codeCells codes codes.length)[k]? := by
        rw [← ht, List.getElem?_take_of_lt (by omega)]
      rw [← Array.getElem?_toList, h2]
      show ((codes.take codes.length).map (Value.int .u32))[k]? = some (.int .u32 (codes.getD k 0))
      simp [hk']
  · have hk0 : k = 0 := by simp at hk; omega
    subst hk0
    exact ⟨hen.cell 0, hen.cell 1, hen.cell 2, hen.cell 3⟩
theorem w32_all {l : List Int} (h : l.all (fun x => decide (-2147483648 ≤ x ∧ x ≤ 2147483647)) = true) : ∀ j, W32 (l.getD j 0) := by
  intro j
  rw [List.getD_eq_getElem?_getD]
  by_cases hj : j < l.length
  · rw [List.getElem?_eq_getElem hj]
    have h2 := List.all_eq_true.1 h _ (List.getElem_mem hj)
    have h3 : -2147483648 ≤ l[j] ∧ l[j] ≤ 2147483647 := of_decide_eq_true h2
    exact h3
  · rw [List.getElem?_eq_none (by omega)]
    exact W32.zero
theorem boxed_new (w : World) (Z l : List Value) (t : TypeId) : ∃ W, (w.alloc (.cells Z.toArray t)).setRow w.heap.size l.toArray = W ∧ RowAt W w.heap.size l ∧ Below w.heap.size w W ∧ W.heap.size = w.heap.size + 1 :=
  ⟨_, rfl, ⟨_, setRow_heap _ _ _ _ _ _ (heap_alloc_new w _)⟩, bRow (Nat.le_refl _) (bAlloc (Nat.le_refl _) (Below.refl _ _)), by simp [World.setRow]⟩
theorem infoState : (Tryz.prog.info? 40).map (·.size) = some 20 := by kernel_rfl
end Go.Proofs.YtkcfbonchhidlaaGreatDoor

set_option linter.unusedVariables false
set_option linter.unusedSimpArgs false
namespace Go.Proofs.YtkcfbonchhidlaaGreatDoor
open Go.RowKit

set_option maxRecDepth 100000 in
set_option maxHeartbeats 3200000 in
theorem new_zero (cv : Value) (eb eo ecap : Nat) (sh lk : Int) (nm : ByteArray) (st fin : Int) (w : World) (heb : eb < w.heap.size)
    (he0 : w.cell? ⟨eb, eo, none⟩ = some (.string nm)) (he1 : w.cell? ⟨eb, eo + 1, none⟩ = some (.int .i64 st)) (he2 : w.cell? ⟨eb, eo + 2, none⟩ = some (.int .i64 fin)) (he3 : w.cell? ⟨eb, eo + 3, none⟩ = some (.int .i64 0)) :
    Calls Tryz.prog 8 #[.agg #[cv, .slice (some ⟨eb, eo, none⟩) 1 ecap, .int .i64 sh, .int .i64 lk], .int .i64 0] w fun e w' => ∃ g,
      e = .returned (.tuple #[.agg #[.int .i64 st, .int .i32 0, .int .i32 0, .int .i32 0, .int .i32 0, .int .i32 0, .int .i32 0, .int .i32 0, .int .i32 0, .int .i32 0, .int .i32 0, .int .i32 0, .int .i32 0, .int .i32 0, .int .i32 0, .int .i32 0, .int .i32 0, .slice (some ⟨g, 0, none⟩) 0 0, .bool false, .int .i64 (-1)], .int .i64 0]) ∧
      Below w.heap.size w w' ∧ w.heap.size ≤ g ∧ RowAt w' g [] := by
  have hmk : ∀ w, (Instr.makeSlice 38 (.int .i64 0) (.int .i64 0)).run Tryz.prog w = .ok (.slice (some ⟨w.heap.size, 0, none⟩) 0 0) (w.alloc (.cells #[] 21)) := fun _ => by kernel_rfl
  have hz1 : eb < w.heap.size + 1 := by omega
  have hz2 : eb < w.heap.size + 1 + 1 := by omega
  go_enter Tryz.func8, Tryz.ntmps8
  go_wp2_with fail
  obtain ⟨w2, hw2⟩ : ∃ w2, (((w.alloc (.cells #[cv, .slice (some ⟨eb, eo, none⟩) 1 ecap, .int .i64 sh, .int .i64 lk] 30)).alloc (.cells #[.int .i64 0, .int .i32 0, .int .i32 0, .int .i32 0, .int .i32 0, .int .i32 0, .int .i32 0, .int .i32 0, .int .i32 0, .int .i32 0, .int .i32 0, .int .i32 0, .int .i32 0, .int .i32 0, .int .i32 0, .int .i32 0, .int .i32 0, .slice none 0 0, .bool false, .int .i64 0] 40)).alloc (.cells #[.string nm, .int .i64 st, .int .i64 fin, .int .i64 0] 26)) = w2 := ⟨_, rfl⟩
  have hB2 : Below w.heap.size w w2 := by
    rw [← hw2]
    exact bAlloc (by simp; omega) (bAlloc (by simp) (bAlloc (Nat.le_refl _) (Below.refl _ _)))
  have hR2 : RowAt w2 (w.heap.size + 1) [.int .i64 0, .int .i32 0, .int .i32 0, .int .i32 0, .int .i32 0, .int .i32 0, .int .i32 0, .int .i32 0, .int .i32 0, .int .i32 0, .int .i32 0, .int .i32 0, .int .i32 0, .int .i32 0, .int .i32 0, .int .i32 0, .int .i32 0, .slice none 0 0, .bool false, .int .i64 0] := by
    rw [← hw2]
    exact ⟨_, by rw [Below.heap_alloc _ _ _ (by simp)]; exact heap_at1 _ _ _⟩
  have c1 : w2.cell? ⟨w.heap.size + 1 + 1, 1, none⟩ = some (.int .i64 st) := by rw [← hw2]; simp [go_sem]
  have c3 : w2.cell? ⟨w.heap.size + 1 + 1, 3, none⟩ = some (.int .i64 0) := by rw [← hw2]; simp [go_sem]
  have hs2 : w.heap.size + 1 + 1 < w2.heap.size := by rw [← hw2]; simp
  rw [hw2]
  clear hw2 he0 he1 he2 he3 hz1 hz2
  have hR3 : RowAt (w2.alloc (.cells #[] 21)) (w.heap.size + 1) [.int .i64 0, .int .i32 0, .int .i32 0, .int .i32 0, .int .i32 0, .int .i32 0, .int .i32 0, .int .i32 0, .int .i32 0, .int .i32 0, .int .i32 0, .int .i32 0, .int .i32 0, .int .i32 0, .int .i32 0, .int .i32 0, .int .i32 0, .slice none 0 0, .bool false, .int .i64 0] := hR2.block (Below.heap_alloc _ _ _ (by omega))
  obtain ⟨tR, hR3⟩ := hR3
  have HR : Hid ((w2.alloc (.cells #[] 21)).drew.heap[w.heap.size + 1]? = some (.cells [.int .i64 0, .int .i32 0, .int .i32 0, .int .i32 0, .int .i32 0, .int .i32 0, .int .i32 0, .int .i32 0, .int .i32 0, .int .i32 0, .int .i32 0, .int .i32 0, .int .i32 0, .int .i32 0, .int .i32 0, .int .i32 0, .int .i32 0, .slice none 0 0, .bool false, .int .i64 0].toArray tR (0, 0))) := hR3
  have HI : Hid ((Tryz.prog.info? 40).map (·.size) = some 20) := (show _ = _ by kernel_rfl)
  have HA : Hid ((#[.int .i64 st, .int .i32 0, .int .i32 0, .int .i32 0, .int .i32 0, .int .i32 0, .int .i32 0, .int .i32 0, .int .i32 0, .int .i32 0, .int .i32 0, .int .i32 0, .int .i32 0, .int .i32 0, .int .i32 0, .int .i32 0, .int .i32 0, .slice (some ⟨w2.heap.size, 0, none⟩) 0 0, .bool false, .int .i64 (-1)] : Array Value).all (·.oneCell') = true) := (show _ = true by simp [Value.oneCell'])
  have HZ : Hid (([.int .i64 0, .int .i32 0, .int .i32 0, .int .i32 0, .int .i32 0, .int .i32 0, .int .i32 0, .int .i32 0, .int .i32 0, .int .i32 0, .int .i32 0, .int .i32 0, .int .i32 0, .int .i32 0, .int .i32 0, .int .i32 0, .int .i32 0, .slice none 0 0, .bool false, .int .i64 0] : List Value).toArray.size = (#[.int .i64 st, .int .i32 0, .int .i32 0, .int .i32 0, .int .i32 0, .int .i32 0, .int .i32 0, .int .i32 0, .int .i32 0, .int .i32 0, .int .i32 0, .int .i32 0, .int .i32 0, .int .i32 0, .int .i32 0, .int .i32 0, .int .i32 0, .slice (some ⟨w2.heap.size, 0, none⟩) 0 0, .bool false, .int .i64 (-1)] : Array Value).size) := (show _ = _ by simp)
  clear hR3 hR2
  have hst : (storeVar 40 ⟨w.heap.size + 1, 0, none⟩ (.agg #[.int .i64 st, .int .i32 0, .int .i32 0, .int .i32 0, .int .i32 0, .int .i32 0, .int .i32 0, .int .i32 0, .int .i32 0, .int .i32 0, .int .i32 0, .int .i32 0, .int .i32 0, .int .i32 0, .int .i32 0, .int .i32 0, .int .i32 0, .slice (some ⟨w2.heap.size, 0, none⟩) 0 0, .bool false, .int .i64 (-1)])).run Tryz.prog (w2.alloc (.cells #[] 21)).drew = .ok () ((w2.alloc (.cells #[] 21)).drew.setRow (w.heap.size + 1) #[.int .i64 st, .int .i32 0, .int .i32 0, .int .i32 0, .int .i32 0, .int .i32 0, .int .i32 0, .int .i32 0, .int .i32 0, .int .i32 0, .int .i32 0, .int .i32 0, .int .i32 0, .int .i32 0, .int .i32 0, .int .i32 0, .int .i32 0, .slice (some ⟨w2.heap.size, 0, none⟩) 0 0, .bool false, .int .i64 (-1)]) := run_storeVar_row _ _ _ _ _ _ HR.out HI.out HZ.out HA.out
  have hfin : ((w2.alloc (.cells #[] 21)).drew.setRow (w.heap.size + 1) #[.int .i64 st, .int .i32 0, .int .i32 0, .int .i32 0, .int .i32 0, .int .i32 0, .int .i32 0, .int .i32 0, .int .i32 0, .int .i32 0, .int .i32 0, .int .i32 0, .int .i32 0, .int .i32 0, .int .i32 0, .int .i32 0, .int .i32 0, .slice (some ⟨w2.heap.size, 0, none⟩) 0 0, .bool false, .int .i64 (-1)]).heap[w.heap.size + 1]? = some (.cells #[.int .i64 st, .int .i32 0, .int .i32 0, .int .i32 0, .int .i32 0, .int .i32 0, .int .i32 0, .int .i32 0, .int .i32 0, .int .i32 0, .int .i32 0, .int .i32 0, .int .i32 0, .int .i32 0, .int .i32 0, .int .i32 0, .int .i32 0, .slice (some ⟨w2.heap.size, 0, none⟩) 0 0, .bool false, .int .i64 (-1)] tR (0, 0)) := setRow_heap _ _ _ _ _ _ HR.out
  have hBf : Below w.heap.size w ((w2.alloc (.cells #[] 21)).drew.setRow (w.heap.size + 1) #[.int .i64 st, .int .i32 0, .int .i32 0, .int .i32 0, .int .i32 0, .int .i32 0, .int .i32 0, .int .i32 0, .int .i32 0, .int .i32 0, .int .i32 0, .int .i32 0, .int .i32 0, .int .i32 0, .int .i32 0, .int .i32 0, .int .i32 0, .slice (some ⟨w2.heap.size, 0, none⟩) 0 0, .bool false, .int .i64 (-1)]) := bRow (by omega) (bAlloc (by have := hB2.size; omega) hB2).drew
  have hgf : RowAt ((w2.alloc (.cells #[] 21)).drew.setRow (w.heap.size + 1) #[.int .i64 st, .int .i32 0, .int .i32 0, .int .i32 0, .int .i32 0, .int .i32 0, .int .i32 0, .int .i32 0, .int .i32 0, .int .i32 0, .int .i32 0, .int .i32 0, .int .i32 0, .int .i32 0, .int .i32 0, .int .i32 0, .int .i32 0, .slice (some ⟨w2.heap.size, 0, none⟩) 0 0, .bool false, .int .i64 (-1)]) w2.heap.size [] := by
    refine ⟨21, ?_⟩
    simp only [World.setRow, Array.getElem?_modify]
    rw [if_neg (by omega)]
    exact heap_alloc_new _ _
  clear hst
  refine wp_region_any (by kernel_rfl) ?_
  change wpAny _ _ _ _ _ _ _ (World.drew _)
  refine wpAny_take (i := 0) (v := ?v0) rfl (by kernel_rfl) (by kernel_rfl) (by kernel_rfl) (fun _ _ _ h => h) (Or.inl ⟨by rfl, ?h0⟩) ?r0
  case h0 => intro w; go_simp; with_reducible rfl
  case r0 =>
  refine wpAny_take (i := 2) (v := ?v2) rfl (by kernel_rfl) (by kernel_rfl) (by kernel_rfl) (fun _ _ _ h => h) (Or.inl ⟨by rfl, ?h2⟩) ?r2
  case h2 => intro w; go_simp; with_reducible rfl
  case r2 =>
  refine wpAny_ready (rs := [1, 3]) (by kernel_rfl) (by simp) ?_
  refine AllReady.cons rfl (fun K hK => ?_) (AllReady.cons rfl (fun K hK => ?_) AllReady.nil)
  · go_simp
    refine hK _ _ ?_
    clear hK K
    refine wpAny_ready (rs := [3]) (by kernel_rfl) (by simp) ?_
    refine AllReady.cons rfl (fun K hK => ?_) AllReady.nil
    go_simp
    refine hK _ _ ?_
    clear hK K
    refine wpAny_ready (rs := [4]) (by kernel_rfl) (by simp) ?_
    refine AllReady.cons rfl (fun K hK => ?_) AllReady.nil
    go_simp
    refine hK _ _ ?_
    clear hK K
    refine wpAny_ready (rs := [5]) (by kernel_rfl) (by simp) ?_
    refine AllReady.cons rfl (fun K hK => ?_) AllReady.nil
    go_simp
    refine hK _ _ ?_
    clear hK K
    refine wpAny_ready (rs := [6]) (by kernel_rfl) (by simp) ?_
    refine AllReady.cons rfl (fun K hK => ?_) AllReady.nil
    refine step_store_row rfl 40 (.tmp 4) (.tmp 36) rfl (w.heap.size + 1) _ rfl rfl tR _ HR.out HI.out HZ.out HA.out ?_
    refine hK _ _ ?_
    clear hK K
    refine wpAny_ready (rs := [7]) (by kernel_rfl) (by simp) ?_
    refine AllReady.cons rfl (fun K hK => ?_) AllReady.nil
    go_simp
    refine hK _ _ ?_
    clear hK K
    refine wpAny_done (by kernel_rfl) ?_ _
    go_wp2_with fail
    refine bodyPost_ret (results_row2 Tryz.results8 _ _ (w.heap.size + 1) _ _ _ _ _ rfl rfl hfin Tryz.underlying40 rfl HI.out) rfl ⟨w2.heap.size, rfl, hBf, by omega, hgf⟩
  · go_simp
    refine hK _ _ ?_
    clear hK K
    refine wpAny_ready (rs := [1, 4]) (by kernel_rfl) (by simp) ?_
    refine AllReady.cons rfl (fun K hK => ?_) (AllReady.cons rfl (fun K hK => ?_) AllReady.nil)
    · go_simp
      refine hK _ _ ?_
      clear hK K
      refine wpAny_ready (rs := [4]) (by kernel_rfl) (by simp) ?_
      refine AllReady.cons rfl (fun K hK => ?_) AllReady.nil
      go_simp
      refine hK _ _ ?_
      clear hK K
      refine wpAny_ready (rs := [5]) (by kernel_rfl) (by simp) ?_
      refine AllReady.cons rfl (fun K hK => ?_) AllReady.nil
      go_simp
      refine hK _ _ ?_
      clear hK K
      refine wpAny_ready (rs := [6]) (by kernel_rfl) (by simp) ?_
      refine AllReady.cons rfl (fun K hK => ?_) AllReady.nil
      refine step_store_row rfl 40 (.tmp 4) (.tmp 36) rfl (w.heap.size + 1) _ rfl rfl tR _ HR.out HI.out HZ.out HA.out ?_
      refine hK _ _ ?_
      clear hK K
      refine wpAny_ready (rs := [7]) (by kernel_rfl) (by simp) ?_
      refine AllReady.cons rfl (fun K hK => ?_) AllReady.nil
      go_simp
      refine hK _ _ ?_
      clear hK K
      refine wpAny_done (by kernel_rfl) ?_ _
      go_wp2_with fail
      refine bodyPost_ret (results_row2 Tryz.results8 _ _ (w.heap.size + 1) _ _ _ _ _ rfl rfl hfin Tryz.underlying40 rfl HI.out) rfl ⟨w2.heap.size, rfl, hBf, by omega, hgf⟩
    · go_simp
      refine hK _ _ ?_
      clear hK K
      refine wpAny_ready (rs := [1]) (by kernel_rfl) (by simp) ?_
      refine AllReady.cons rfl (fun K hK => ?_) AllReady.nil
      go_simp
      refine hK _ _ ?_
      clear hK K
      refine wpAny_ready (rs := [5]) (by kernel_rfl) (by simp) ?_
      refine AllReady.cons rfl (fun K hK => ?_) AllReady.nil
      go_simp
      refine hK _ _ ?_
      clear hK K
      refine wpAny_ready (rs := [6]) (by kernel_rfl) (by simp) ?_
      refine AllReady.cons rfl (fun K hK => ?_) AllReady.nil
      refine step_store_row rfl 40 (.tmp 4) (.tmp 36) rfl (w.heap.size + 1) _ rfl rfl tR _ HR.out HI.out HZ.out HA.out ?_
      refine hK _ _ ?_
      clear hK K
      refine wpAny_ready (rs := [7]) (by kernel_rfl) (by simp) ?_
      refine AllReady.cons rfl (fun K hK => ?_) AllReady.nil
      go_simp
      refine hK _ _ ?_
      clear hK K
      refine wpAny_done (by kernel_rfl) ?_ _
      go_wp2_with fail
      refine bodyPost_ret (results_row2 Tryz.results8 _ _ (w.heap.size + 1) _ _ _ _ _ rfl rfl hfin Tryz.underlying40 rfl HI.out) rfl ⟨w2.heap.size, rfl, hBf, by omega, hgf⟩

end Go.Proofs.YtkcfbonchhidlaaGreatDoor

