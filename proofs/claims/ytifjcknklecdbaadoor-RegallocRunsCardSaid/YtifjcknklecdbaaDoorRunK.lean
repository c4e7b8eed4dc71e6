/- ir.Run: what is refused. -/
import Derived.Test.YtifjcknklecdbaaDoorRunH
import Derived.Test.YtifjcknklecdbaaDoorRunI
import Derived.Test.YtifjcknklecdbaaDoorRunJ
import Derived.Laws.Rows
import Derived.Laws.Tables
set_option linter.unusedVariables false
set_option linter.unusedSimpArgs false
namespace Go.Proofs.YtifjcknklecdbaaDoor
open Go.RowKit Go.Maps

/-- What lies ready for a run: the function, the objects' names, the contents, the input. -/
structure RunIn (w : World) (av bv sv lv ov iv : Value) (A S : List Arr) (bs : List IBlk) (ls os : List (List Int)) (inp : List Int) : Prop where
  a : ArsAt w av A
  s : ArsAt w sv S
  b : BksAt w bv bs
  ok : FnOk A S bs
  al : A.length ≤ 100000
  sl : S.length ≤ 10000
  bl : bs.length ≤ 100000
  cl : ∀ k, k < bs.length → (bs.getD k default).code.length ≤ 100000
  l : RdR32 w lv ls
  o : RdR32 w ov os
  ll : ls.length ≤ 100000
  ol : os.length ≤ 100000
  i : RdI32 w iv inp
theorem RunIn.below {B : Nat} {w w' : World} {av bv sv lv ov iv : Value} {A S : List Arr} {bs : List IBlk} {ls os : List (List Int)} {inp : List Int} (h : RunIn w av bv sv lv ov iv A S bs ls os inp) (hb : Below B w w') (hB : w.heap.size ≤ B) : RunIn w' av bv sv lv ov iv A S bs ls os inp :=
  ⟨h.a.below hb hB, h.s.below hb hB, h.b.below hb hB, h.ok, h.al, h.sl, h.bl, h.cl, h.l.below hb hB, h.o.below hb hB, h.ll, h.ol, h.i.below hb hB⟩
theorem heap_second (w : World) (A B : Obj) : ((w.alloc A).alloc B).heap[w.heap.size + 1]? = some B := by
  have h := heap_alloc_new (w.alloc A) B
  rwa [show (w.alloc A).heap.size = w.heap.size + 1 by simp] at h
theorem bRowJ {B : Nat} {a w : World} {g : Nat} {cs : Array Value} (hg : B ≤ g) (h : Below B a w) : Below B a (w.setRow g cs) :=
  ⟨h.os, h.tape, h.output, by simpa [World.setRow] using h.size, fun k hk => by
    have := h.block k hk
    simp only [World.setRow, Array.getElem?_modify]
    rw [if_neg (by omega)]
    exact this⟩
def refusedV : Value := .agg #[.slice none 0 0, .slice none 0 0, .slice none 0 0, .int .i64 0, .int .i64 0, .int .i64 3]

set_option maxHeartbeats 6400000 in
set_option maxRecDepth 20000 in
theorem run_no {w : World} {av bv sv lv ov iv : Value} {A S : List Arr} {bs : List IBlk} {ls os : List (List Int)} {inp : List Int} (h : RunIn w av bv sv lv ov iv A S bs ls os inp) (nm : ByteArray) (R fuel : Int) (hno : ¬ (vFun R A S bs = true ∧ lensOk A ls ∧ lensOk S os)) :
    Calls Tryd.prog 8 #[.agg #[.string nm, .int .i64 R, av, bv], sv, lv, ov, iv, .int .i64 fuel] w fun e w' => e = .returned refusedV ∧ Below w.heap.size w w' := by
  obtain ⟨ap, ac, rfl⟩ := h.a.shape
  obtain ⟨bp, bc, rfl⟩ := h.b.shape
  obtain ⟨sp, sc, rfl⟩ := h.s.shape
  obtain ⟨lp, lc, rfl⟩ := h.l.shape
  obtain ⟨op, oc, rfl⟩ := h.o.shape
  obtain ⟨ip, ic, rfl⟩ := h.i.shape
  have H := Lib.hid h
  have HNO := Lib.hid hno
  clear h hno
  go_enter Tryd.func8, Tryd.ntmps8
  go_wp2_with fail
  have hb1 : Below w.heap.size w ((w.alloc (.cells #[.string nm, .int .i64 R, .slice ap A.length ac, .slice bp bs.length bc] 25)).alloc (.cells #[.slice none 0 0, .slice none 0 0, .slice none 0 0, .int .i64 0, .int .i64 0, .int .i64 0] 39)) := bAlloc (by simp) (bAlloc (Nat.le_refl _) (Below.refl _ _))
  have h1 := H.out.below hb1 (Nat.le_refl _)
  refine (irValid_any nm R _ _ _ A S bs _ h1.a h1.s h1.b h1.ok h1.al h1.sl h1.bl h1.cl).mono ?_
  rintro e w2 ⟨rfl, hb2⟩
  have hrow := heap_second w (.cells #[.string nm, .int .i64 R, .slice ap A.length ac, .slice bp bs.length bc] 25) (.cells #[.slice none 0 0, .slice none 0 0, .slice none 0 0, .int .i64 0, .int .i64 0, .int .i64 0] 39)
  have hrow0 : ((w.alloc (.cells #[.string nm, .int .i64 R, .slice ap A.length ac, .slice bp bs.length bc] 25)).alloc (.cells #[.slice none 0 0, .slice none 0 0, .slice none 0 0, .int .i64 0, .int .i64 0, .int .i64 0] 39)).cell? ⟨w.heap.size, 2, none⟩ = some (.slice ap A.length ac) := by simp [go_sem]
  have c2 := (hb2.cell (p := ⟨w.heap.size, 2, none⟩) (by simp; omega)).trans hrow0
  have hrow2 := (hb2.block (w.heap.size + 1) (by simp)).trans hrow
  have HROW := Lib.hid hrow2
  have HB2 := Lib.hid (hb1.trans (hb2.mono hb1.size))
  have hl2 : w.heap.size + 1 < w2.heap.size := by have := hb2.size; simp at this; omega
  clear hrow hrow2 hrow0 hb2 h1 hb1
  have HOi : Hid ((Tryd.prog.info? 39).map (·.size) = some (#[.slice none 0 0, .slice none 0 0, .slice none 0 0, .int .i64 0, .int .i64 0, .int .i64 3] : Array Value).size) := (show _ = _ by kernel_rfl)
  have HOa : Hid ((#[.slice none 0 0, .slice none 0 0, .slice none 0 0, .int .i64 0, .int .i64 0, .int .i64 3] : Array Value).all (·.oneCell') = true) := (show (#[.slice none 0 0, .slice none 0 0, .slice none 0 0, .int .i64 0, .int .i64 0, .int .i64 3] : Array Value).all (·.oneCell') = true by simp [Value.oneCell'])
  cases hv : vFun R A S bs with
  | false =>
    go_wp2_with (first | (refine wpList_store_row rfl 39 (.tmp 12) (.tmp 36) rfl (w.heap.size + 1) #[.slice none 0 0, .slice none 0 0, .slice none 0 0, .int .i64 0, .int .i64 0, .int .i64 3] rfl rfl 39 _ HROW.out HOi.out rfl HOa.out ?_))
    refine bodyPost_ret (results_cell_row Tryd.results8 _ _ (w.heap.size + 1) _ _ _ _ rfl (setRow_heap _ _ _ _ _ _ HROW.out) Tryd.underlying39 rfl (by kernel_rfl)) rfl ?_
    exact ⟨rfl, bRowJ (by omega) HB2.out⟩
  | true =>
    have HV := Lib.hid hv
    clear hv
    have M1 := Lib.hid (match_any _ _ A ls w2 (H.out.below HB2.out (Nat.le_refl _)).a (H.out.below HB2.out (Nat.le_refl _)).l H.out.al H.out.ll)
    go_wp2_with fail
    refine M1.out.mono ?_
    clear M1
    rintro e w3 ⟨r1, rfl, hr1, hb3⟩
    have HR1 := Lib.hid hr1
    clear hr1
    have HROW2 := Lib.hid ((hb3.block (w.heap.size + 1) (by have := hl2; omega)).trans HROW.out)
    have HB3 := Lib.hid (HB2.out.trans (hb3.mono HB2.out.size))
    have hl3 : w.heap.size + 1 < w3.heap.size := Nat.lt_of_lt_of_le hl2 hb3.size
    have c2' := (hb3.cell (p := ⟨w.heap.size, 2, none⟩) (by show w.heap.size < _; omega)).trans c2
    clear HROW HB2 hl2 c2 hb3
    have HROW := HROW2
    have HB2 := HB3
    have hl2 := hl3
    have c2 := c2'
    clear HROW2 HB3 hl3 c2'
    cases r1 with
    | false =>
      go_wp2_with (first | (refine wpList_store_row rfl 39 (.tmp 12) (.tmp 36) rfl (w.heap.size + 1) #[.slice none 0 0, .slice none 0 0, .slice none 0 0, .int .i64 0, .int .i64 0, .int .i64 3] rfl rfl 39 _ HROW.out HOi.out rfl HOa.out ?_))
      refine bodyPost_ret (results_cell_row Tryd.results8 _ _ (w.heap.size + 1) _ _ _ _ rfl (setRow_heap _ _ _ _ _ _ HROW.out) Tryd.underlying39 rfl (by kernel_rfl)) rfl ?_
      exact ⟨rfl, bRowJ (by omega) HB2.out⟩
    | true =>
      have M2 := Lib.hid (match_any _ _ S os w3 (H.out.below HB2.out (Nat.le_refl _)).s (H.out.below HB2.out (Nat.le_refl _)).o (by have := H.out.sl; omega) H.out.ol)
      go_wp2_with fail
      refine M2.out.mono ?_
      clear M2
      rintro e w4 ⟨r2, rfl, hr2, hb4⟩
      have HR2 := Lib.hid hr2
      clear hr2
      have HROW2 := Lib.hid ((hb4.block (w.heap.size + 1) (by have := hl2; omega)).trans HROW.out)
      have HB3 := Lib.hid (HB2.out.trans (hb4.mono HB2.out.size))
      have hl3 : w.heap.size + 1 < w4.heap.size := Nat.lt_of_lt_of_le hl2 hb4.size
      have c2' := (hb4.cell (p := ⟨w.heap.size, 2, none⟩) (by show w.heap.size < _; omega)).trans c2
      clear HROW HB2 hl2 c2 hb4
      have HROW := HROW2
      have HB2 := HB3
      have hl2 := hl3
      have c2 := c2'
      clear HROW2 HB3 hl3 c2'
      cases r2 with
      | false =>
        go_wp2_with (first | (refine wpList_store_row rfl 39 (.tmp 12) (.tmp 36) rfl (w.heap.size + 1) #[.slice none 0 0, .slice none 0 0, .slice none 0 0, .int .i64 0, .int .i64 0, .int .i64 3] rfl rfl 39 _ HROW.out HOi.out rfl HOa.out ?_))
        refine bodyPost_ret (results_cell_row Tryd.results8 _ _ (w.heap.size + 1) _ _ _ _ rfl (setRow_heap _ _ _ _ _ _ HROW.out) Tryd.underlying39 rfl (by kernel_rfl)) rfl ?_
        exact ⟨rfl, bRowJ (by omega) HB2.out⟩
      | true => exact absurd ⟨HV.out, (by first | exact HR1.out.1 rfl | exact HR1.out.1 trivial), (by first | exact HR2.out.1 rfl | exact HR2.out.1 trivial)⟩ HNO.out
end Go.Proofs.YtifjcknklecdbaaDoor
