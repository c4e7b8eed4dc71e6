/- The law CoreReads. -/
import Derived.Test.YtlmipchjmgnlfaaDoorCorCd
import Derived.Deep.RegionHeld3
import Derived.Test.YtlmipchjmgnlfaaDoorCorAg
import Derived.Deep.CutBlock
import Derived.Laws.StructEq
set_option linter.unusedVariables false
set_option linter.unusedSimpArgs false
namespace Go.Proofs.YtlmipchjmgnlfaaDoor
open Go.RowKit

theorem wpList_eql_regs {w : World} {ops : Array Oper} {rest : List Oper} {o : Oper} {a : Act} {Q : Exit → Act → World → Prop} (hgd : o.guard = none) (x y : Operand) (r : TypeId) (ho : o.op = .binOp .eql 26 x y r) (xs : List Int) (hl : xs.length = 16)
    (hx : a.eval x = .agg (xs.map (Value.int .i32)).toArray) (hy : a.eval y = .agg (xs.map (Value.int .i32)).toArray) (h : wpList Tryd.prog ops Q rest (a.put o.dst (.bool true)) w) : wpList Tryd.prog ops Q (o :: rest) a w := by
  refine wpList_plain hgd fun K hK => ?_
  have hr := run_eql_regs xs xs hl hl w
  rw [show (xs == xs) = true by simp] at hr
  have hg : (eqGuard .eql 26 x y (a.eval x) (a.eval y)).run Tryd.prog w = .ok () w := by rw [hx, hy]; exact run_eqGuard_agg _ _ _ _ _ _ _ Tryd.eqGuardType26
  have hr2 : (binOp .eql 26 (a.eval x) (a.eval y)).run Tryd.prog w = .ok (.bool true) w := by rw [hx, hy]; exact hr
  unfold Oper.wp execOp
  simp only [ho, Sem.run_bind, hg, hr2, Result.andThen_ok, Sem.run_pure]
  exact hK _ _ h

theorem seven_port (W : World) (i : Int) : Calls Tryd.prog 28 #[.int .i64 i] W fun e w' => e = .returned (.int .i32 7) ∧ Below W.heap.size W w' := by
  go_enter Tryd.func28, Tryd.ntmps28
  go_wp2_with fail
  go_ret
  exact ⟨rfl, Below.refl _ _⟩

set_option maxHeartbeats 30000000 in
set_option maxRecDepth 100000 in
theorem readsLaw_any (n : Nat) (a b c i : Int) (s : St) (dp : Option Addr) (dcap : Nat) (mp : Option Addr) (mcap : Nat) (sh : List Int) (kk : Nat) (v : Int) (w : World) (hT : Tab w) (hO : OTab w) (hr : s.r.length = 16) (hrd : RdAt w (.slice dp s.d.length dcap) s.d) (hn0 : ∀ c, Value.slice dp s.d.length dcap = .slice none 0 c → c = 0)
    (hrm : RdAt w (.slice mp sh.length mcap) sh) (hm0 : ∀ c, Value.slice mp sh.length mcap = .slice none 0 c → c = 0) (R32 : Hid (∀ j, W32 (s.r.getD j 0))) (D32 : Hid (∀ j, W32 (s.d.getD j 0))) (M32 : Hid (∀ j, W32 (sh.getD j 0))) (hkk : kk ≤ 255) (hv32 : W32 v) :
    Calls Tryd.prog 9 #[.agg #[.int .u8 n, .int .i64 a, .int .i64 b, .int .i64 c, .int .i64 i], stV s (.slice dp s.d.length dcap), .slice mp sh.length mcap, .int .u8 kk, .int .i32 v] w fun e w' => e = .returned (.bool true) ∧ Below w.heap.size w w' := by
  obtain ⟨i0, hi0, hz0', hz1', hz2'⟩ := info_parts Tryd.info32
  have hxi := Tryd.underlying27
  have HI : Hid ((Tryd.prog.info? 29).map (·.size) = some (stCells s (.slice dp s.d.length dcap)).length) := (show _ = _ by rw [stCells_len hr]; exact infoState)
  go_enter Tryd.func9, Tryd.ntmps9
  go_wp2_with fail
  have hb0 : Below w.heap.size w ((w.alloc (.cells #[.int .u8 n, .int .i64 a, .int .i64 b, .int .i64 c, .int .i64 i] 34)).alloc (.cells (stCells s (.slice dp s.d.length dcap)).toArray 29)) := (bAlloc (by simp) (bAlloc (Nat.le_refl _) (Below.refl _ _)))
  refine (awake_any _ (hT.of_below hb0) (hO.of_below hb0)).mono ?_
  rintro e w1 ⟨rfl, hb1⟩
  have hB1 : Below w.heap.size w w1 := below_then hb0 hb1 (by simp; omega)
  have hI1 : RowAt w1 w.heap.size [.int .u8 n, .int .i64 a, .int .i64 b, .int .i64 c, .int .i64 i] := RowAt.below (B := w.heap.size + 1) ⟨_, (Below.heap_alloc _ _ _ (by simp)).trans (heap_alloc_new _ _)⟩ (hb1.mono (by simp)) (by omega)
  have hS1 : RowAt w1 (w.heap.size + 1) (stCells s (.slice dp s.d.length dcap)) := RowAt.below (B := w.heap.size + 2) ⟨_, heap_at1 _ _ _⟩ (hb1.mono (by simp)) (by omega)
  clear hb1 hb0
  have x0 := hI1.cell 0
  have x1 := hI1.cell 1
  have x2 := hI1.cell 2
  have x3 := hI1.cell 3
  have x4 := hI1.cell 4
  simp only [List.getElem?_cons_zero, List.getElem?_cons_succ] at x0 x1 x2 x3 x4
  have d17 := (show StAt w1 (w.heap.size + 1) s (.slice dp s.d.length dcap) from ⟨hr, hS1⟩).d
  have hs1b := hS1.lt
  have hs1a := hI1.lt
  go_wp2_with fail
  have hb2 : Below w1.heap.size w1 (w1.alloc (.cells #[.int .u8 n, .int .i64 a, .int .i64 b, .int .i64 c, .int .i64 i, .int .u8 0, .int .i64 0, .int .i64 0, .int .i64 0, .int .i64 0] 34)) := bAlloc (Nat.le_refl _) (Below.refl _ _)
  have hz2 : ∀ j, (w1.alloc (.cells #[.int .u8 n, .int .i64 a, .int .i64 b, .int .i64 c, .int .i64 i, .int .u8 0, .int .i64 0, .int .i64 0, .int .i64 0, .int .i64 0] 34)).cell? ⟨w1.heap.size, j, none⟩ = (#[.int .u8 n, .int .i64 a, .int .i64 b, .int .i64 c, .int .i64 i, .int .u8 0, .int .i64 0, .int .i64 0, .int .i64 0, .int .i64 0] : Array Value)[j]? := fun j => cell_of_row _ _ _ _ _ _ (heap_alloc_new _ _)
  have hsz2 : (w1.alloc (.cells #[.int .u8 n, .int .i64 a, .int .i64 b, .int .i64 c, .int .i64 i, .int .u8 0, .int .i64 0, .int .i64 0, .int .i64 0, .int .i64 0] 34)).heap.size = w1.heap.size + 1 := by simp
  have hB2 : Below w.heap.size w (w1.alloc (.cells #[.int .u8 n, .int .i64 a, .int .i64 b, .int .i64 c, .int .i64 i, .int .u8 0, .int .i64 0, .int .i64 0, .int .i64 0, .int .i64 0] 34)) := bThen hb2 hB1.size hB1
  have hT2 : Tab (w1.alloc (.cells #[.int .u8 n, .int .i64 a, .int .i64 b, .int .i64 c, .int .i64 i, .int .u8 0, .int .i64 0, .int .i64 0, .int .i64 0, .int .i64 0] 34)) := hT.of_below hB2
  generalize (w1.alloc (.cells #[.int .u8 n, .int .i64 a, .int .i64 b, .int .i64 c, .int .i64 i, .int .u8 0, .int .i64 0, .int .i64 0, .int .i64 0, .int .i64 0] 34)) = w2 at hb2 hz2 hsz2 hB2 hT2 ⊢
  cases hv : vld n a b c i
  · refine (one_bad w1.heap.size 2 n a b c i s.d.length sh.length 4 w2 hT2 (by omega) hv ⟨hz2 0, hz2 1, hz2 2, hz2 3, hz2 4⟩).mono ?_
    rintro e w3 ⟨rfl, hb3⟩
    have hB3 : Below w.heap.size w w3 := bThen hb3 hB2.size hB2
    clear x0 x1 x2 x3 x4 d17 hz2 hb3
    go_wp2_with fail
    go_ret
    exact ⟨rfl, bAlloc hB3.size hB3⟩
  have hone := one_ok w1.heap.size 0 2 [⟨n, a, b, c, i⟩, ⟨0, 0, 0, 0, 0⟩] s.d.length sh.length 4 w2 hT2 (by simp) (by omega) (by
    intro k hk
    match k, hk with
    | 0, _ => exact hv
    | 1, _ => rfl) (by
    intro k hk
    match k, hk with
    | 0, _ => exact ⟨hz2 0, hz2 1, hz2 2, hz2 3, hz2 4⟩
    | 1, _ => exact ⟨hz2 5, hz2 6, hz2 7, hz2 8, hz2 9⟩)
  clear hz2
  rw [show ([⟨n, a, b, c, i⟩, ⟨0, 0, 0, 0, 0⟩] : List Ins).length = 2 from rfl, hsz2] at hone
  refine hone.mono ?_
  rintro e w3 ⟨p, cc, rfl, hown, hen, hb3⟩
  clear hone
  have hbd := encW_bd hv
  have hB13 : Below w1.heap.size w1 w3 := hb2.trans (hb3.mono (by omega))
  have hB3 : Below w.heap.size w w3 := hB2.trans (hb3.mono (by have := hB1.size; omega))
  have hz3 := hb3.size
  have HOW := Lib.hid hown
  have HEN := Lib.hid hen
  have HBD := Lib.hid hbd
  clear hown hen hb3 hb2 hB2 hT2 hbd x0 x1 x2 x3 x4 d17
  have hI3 := hI1.below hB13 hI1.lt
  have hS3 := hS1.below hB13 hS1.lt
  clear hI1 hS1
  have hb4 : Below w3.heap.size w3 (w3.alloc (.cells #[.slice p 2 cc, .slice (some ⟨(w1.heap.size + 1 + 1), 0, none⟩) 1 1, .int .i64 sh.length, .int .i64 4] 25)) := bAlloc (Nat.le_refl _) (Below.refl _ _)
  have hM4 : RowAt (w3.alloc (.cells #[.slice p 2 cc, .slice (some ⟨(w1.heap.size + 1 + 1), 0, none⟩) 1 1, .int .i64 sh.length, .int .i64 4] 25)) w3.heap.size [.slice p 2 cc, .slice (some ⟨(w1.heap.size + 1 + 1), 0, none⟩) 1 1, .int .i64 sh.length, .int .i64 4] := ⟨_, heap_alloc_new _ _⟩
  have hB4 : Below w.heap.size w (w3.alloc (.cells #[.slice p 2 cc, .slice (some ⟨(w1.heap.size + 1 + 1), 0, none⟩) 1 1, .int .i64 sh.length, .int .i64 4] 25)) := bThen hb4 hB3.size hB3
  have hS4 := hS3.below hb4 hS3.lt
  have HS4 := Lib.hid hS4.range
  have hz4 : (w3.alloc (.cells #[.slice p 2 cc, .slice (some ⟨(w1.heap.size + 1 + 1), 0, none⟩) 1 1, .int .i64 sh.length, .int .i64 4] 25)).heap.size = w3.heap.size + 1 := by simp
  cases hsm : smallB 2 1 s.d.length sh.length
  · have SM := Lib.hid (fun (w : World) => smallS s p (some ⟨(w1.heap.size + 1 + 1), 0, none⟩) dp mp 2 cc 1 1 s.d.length dcap sh.length mcap sh.length 4 w hr)
    rw [hsm, if_neg (by simp)] at SM
    go_wp2_with (first | (refine BigFrame.wpList_want rfl (fun K hK => wp_load_mid 29 (.tmp 6) rfl (w.heap.size + 1) 0 rfl (stCells s (.slice dp s.d.length dcap)) _ HS4.out Tryd.underlying29 rfl HI.out (hK _ _ ?_))))
    refine (SM.out _).mono ?_
    rintro e w5 ⟨rfl, hb5⟩
    go_wp2_with fail
    go_ret
    exact ⟨rfl, bThen hb5 (by have := hB3.size; omega) hB4⟩
  have SM := Lib.hid (fun (w : World) => smallS s p (some ⟨(w1.heap.size + 1 + 1), 0, none⟩) dp mp 2 cc 1 1 s.d.length dcap sh.length mcap sh.length 4 w hr)
  rw [hsm, if_pos (by simp)] at SM
  have hsz : s.d.length ≤ 100 ∧ sh.length ≤ 100 := by
    have h : 2 ≤ 200 ∧ 1 ≤ 8 ∧ s.d.length ≤ 100 ∧ sh.length ≤ 100 := by simpa [smallB] using hsm
    exact ⟨h.2.2.1, h.2.2.2⟩
  clear hsm
  go_wp2_with (first | (refine BigFrame.wpList_want rfl (fun K hK => wp_load_mid 29 (.tmp 6) rfl (w.heap.size + 1) 0 rfl (stCells s (.slice dp s.d.length dcap)) _ HS4.out Tryd.underlying29 rfl HI.out (hK _ _ ?_))))
  refine (SM.out _).mono ?_
  rintro e w5 ⟨rfl, hb5⟩
  have hB5 : Below w.heap.size w w5 := bThen hb5 (by have := hB3.size; omega) hB4
  have hM5 := hM4.below hb5 hM4.lt
  have hb35 : Below w3.heap.size w3 w5 := hb4.trans (hb5.mono (by omega))
  have HK35 := Lib.hid (Kept.of_below (F := fun k => k = w.heap.size + 1) hb35)
  have hI5 := hI3.below hb35 hI3.lt
  have hS5 := hS3.below hb35 hS3.lt
  clear hb5 hM4 hS4 HS4 SM hb4 hB4 hz4 hb35 hI3 hS3
  have hSt5 : StAt w5 (w.heap.size + 1) s (.slice dp s.d.length dcap) := ⟨hr, hS5⟩
  have f0 := hSt5.frozen 0
  have f1 := hSt5.frozen 1
  have f18 := hSt5.frozen 18
  have p0 := hSt5.pc
  have p1 : w5.cell? ⟨w.heap.size + 1, 1, none⟩ = some (.int .i32 (s.r.getD 0 0)) := hSt5.reg 0 (by omega)
  have p18 := hSt5.halted
  have hl5 := hS5.lt
  have hm5 := hM5.lt
  have q0 := hM5.cell 0
  have q1 := hM5.cell 1
  have q2 := hM5.cell 2
  have q3 := hM5.cell 3
  simp only [List.getElem?_cons_zero, List.getElem?_cons_succ] at q0 q1 q2 q3
  have hK36 : Kept (fun k => k = w.heap.size + 1) w3 (((w5.setCell ⟨w.heap.size + 1, 0, none⟩ (.int .i64 0)).setCell ⟨w.heap.size + 1, 18, none⟩ (.bool false)).setCell ⟨w.heap.size + 1, 1, none⟩ (.int .i32 0)) := ((HK35.out.setCell rfl _).setCell rfl _).setCell rfl _
  have hSt6 : StAt (((w5.setCell ⟨w.heap.size + 1, 0, none⟩ (.int .i64 0)).setCell ⟨w.heap.size + 1, 18, none⟩ (.bool false)).setCell ⟨w.heap.size + 1, 1, none⟩ (.int .i32 0)) (w.heap.size + 1) { s with pc := 0, halted := false, r := s.r.set 0 0 } (.slice dp s.d.length dcap) := ((hSt5.setPc 0).setHalted false).setReg 0 (by omega) 0
  have hB6 : Below w.heap.size w (((w5.setCell ⟨w.heap.size + 1, 0, none⟩ (.int .i64 0)).setCell ⟨w.heap.size + 1, 18, none⟩ (.bool false)).setCell ⟨w.heap.size + 1, 1, none⟩ (.int .i32 0)) := bSet (by show w.heap.size ≤ w.heap.size + 1; omega) (bSet (by show w.heap.size ≤ w.heap.size + 1; omega) (bSet (by show w.heap.size ≤ w.heap.size + 1; omega) hB5))
  have hI6 : RowAt (((w5.setCell ⟨w.heap.size + 1, 0, none⟩ (.int .i64 0)).setCell ⟨w.heap.size + 1, 18, none⟩ (.bool false)).setCell ⟨w.heap.size + 1, 1, none⟩ (.int .i32 0)) w.heap.size [.int .u8 n, .int .i64 a, .int .i64 b, .int .i64 c, .int .i64 i] := ((hI5.other (by show w.heap.size + 1 ≠ w.heap.size; omega) _).other (by show w.heap.size + 1 ≠ w.heap.size; omega) _).other (by show w.heap.size + 1 ≠ w.heap.size; omega) _
  have hM6 : RowAt (((w5.setCell ⟨w.heap.size + 1, 0, none⟩ (.int .i64 0)).setCell ⟨w.heap.size + 1, 18, none⟩ (.bool false)).setCell ⟨w.heap.size + 1, 1, none⟩ (.int .i32 0)) w3.heap.size [.slice p 2 cc, .slice (some ⟨(w1.heap.size + 1 + 1), 0, none⟩) 1 1, .int .i64 sh.length, .int .i64 4] := ((hM5.other (by show w.heap.size + 1 ≠ w3.heap.size; omega) _).other (by show w.heap.size + 1 ≠ w3.heap.size; omega) _).other (by show w.heap.size + 1 ≠ w3.heap.size; omega) _
  have him6 : ImAt (((w5.setCell ⟨w.heap.size + 1, 0, none⟩ (.int .i64 0)).setCell ⟨w.heap.size + 1, 18, none⟩ (.bool false)).setCell ⟨w.heap.size + 1, 1, none⟩ (.int .i32 0)) (.agg #[.slice p 2 cc, .slice (some ⟨(w1.heap.size + 1 + 1), 0, none⟩) 1 1, .int .i64 sh.length, .int .i64 4]) (oneIm (encW n a b c i) s.d.length sh.length) := imAt_one (codes := [encW n a b c i, encW 0 0 0 0 0]) (own_kept HOW.out hK36 (fun k hk => by omega) (Nat.le_refl _)) (HEN.out.block (hK36.block _ HEN.out.lt (by omega))) (by
    intro k hk
    match k, hk with
    | 0, _ => exact HBD.out
    | 1, _ => exact encW_bd (n := 0) (a := 0) (b := 0) (c := 0) (i := 0) rfl) (by simp)
  have HR6 := Lib.hid (show (s.r.set 0 0).length = 16 by rw [List.length_set]; exact hr)
  have HZ6 := Lib.hid (show (s.r.set 0 0).getD 0 0 = 0 by rw [getD_set_eq (by omega)])
  have HW6 := Lib.hid (show ∀ j, W32 ((s.r.set 0 0).getD j 0) from fun j => by
    by_cases hj : j = 0
    · subst hj; rw [getD_set_eq (by omega)]; exact ⟨by omega, by omega⟩
    · rw [getD_set_ne (Ne.symm hj)]; exact R32.out j)
  have HX6 := Lib.hid (⟨hSt6, hB6, hI6, hM6, him6⟩ : _ ∧ _ ∧ _ ∧ _ ∧ _)
  clear HK35 hK36 HOW HEN HBD hSt6 hB6 hI6 hM6 him6 hSt5
  have y0 := hI5.cell 0
  have y1 := hI5.cell 1
  have y2 := hI5.cell 2
  have y3 := hI5.cell 3
  have y4 := hI5.cell 4
  simp only [List.getElem?_cons_zero, List.getElem?_cons_succ] at y0 y1 y2 y3 y4
  have hI5l := hI5.lt
  have hrem : (kk : Int).tmod 15 = ((kk % 15 : Nat) : Int) := by rw [Int.tmod_eq_emod_of_nonneg (by omega)]; omega
  go_wp2_with fail
  obtain ⟨hSt6, hB6, hI6, hM6, him6⟩ := HX6.out
  clear HX6
  generalize (((w5.setCell ⟨w.heap.size + 1, 0, none⟩ (.int .i64 0)).setCell ⟨w.heap.size + 1, 18, none⟩ (.bool false)).setCell ⟨w.heap.size + 1, 1, none⟩ (.int .i32 0)) = w6 at hSt6 hB6 hI6 hM6 him6 ⊢
  clear f0 f1 f18 p0 p1 p18 hl5 hm5 q0 q1 q2 q3 y0 y1 y2 y3 y4 hI5l hrem hI5 hS5 hM5 hB5
  obtain ⟨r, hr1⟩ : ∃ r : Nat, (1 + (kk : Int) % 15) = r := ⟨1 + kk % 15, by omega⟩
  have hrb : 1 ≤ r ∧ r ≤ 15 := by omega
  rw [hr1]
  clear hr1 hkk
  refine (reads_any n a b c i w6 (hT.of_below hB6)).mono ?_
  rintro e w7 ⟨lv, rfl, hsl, hb7⟩
  have hB7 : Below w.heap.size w w7 := bThen hb7 hB6.size hB6
  have hSt7 := hSt6.below hb7 hSt6.lt
  have hI7 := hI6.below hb7 hI6.lt
  have hM7 := hM6.below hb7 hM6.lt
  have him7 := him6.below hb7 (Nat.le_refl _)
  obtain ⟨lp, lc, rfl, hlc⟩ := sl_shape hsl
  have HLC := Lib.hid hlc
  obtain ⟨qb, hqb⟩ : ∃ q, q = w3.heap.size := ⟨_, rfl⟩
  rw [← hqb] at hM7 ⊢
  clear hSt6 hB6 hI6 hM6 him6 hb7 hsl hlc hqb
  have HRL : Hid (rdl n a b c i = rdl n a b c i) := rfl
  generalize hxs : rdl n a b c i = xs at HLC ⊢
  have hxl : xs.length ≤ 1000 := by rw [← hxs]; exact rdl_len hv
  have HXS := Lib.hid hxs
  clear hxs HRL
  go_wp2_with fail
  go_loopw [14, 16] (fun rv nv wr => ∃ (k : Nat) (u : Bool), k ≤ xs.length ∧ rv = .bool u ∧ nv = .int .i64 k ∧ Hid (u = (xs.take k).contains (r : Int)) ∧ w7 = wr) (fun _ nv _ => xs.length - (intOf nv).toNat)
  case atStart => exact ⟨0, false, by omega, rfl, rfl, rfl, rfl⟩
  case round =>
    obtain ⟨k, u, hk, rfl, rfl, hu, rfl⟩ := hrel
    by_cases hlt : k < xs.length
    · obtain ⟨g1, rfl, hg1, d1⟩ := HLC.out k hlt
      have hkI : (k : Int) < xs.length := by omega
      generalize hz : xs.getD k 0 = z at d1
      have HZ := Lib.hid hz
      clear hz
      cases u
      · by_cases hzs : z = r
        · subst hzs
          go_wp2_with fail
          go_roundw
          case rel => exact ⟨k + 1, true, by omega, by simp, by go_num, show true = _ by rw [contains_take hlt HZ.out]; simp, by first | rfl | trivial⟩
          case measure => simp [intOf]; omega
        · have hb : (z == (r : Int)) = false := by simpa using hzs
          go_wp2_with fail
          go_roundw
          case rel => exact ⟨k + 1, false, by omega, by simp, by go_num, show false = _ by rw [contains_take hlt HZ.out, ← Hid.out hu, hb]; rfl, by first | rfl | trivial⟩
          case measure => simp [intOf]; omega
      · go_wp2_with fail
        go_roundw
        case rel => exact ⟨k + 1, true, by omega, by simp, by go_num, show true = _ by rw [contains_take hlt HZ.out, ← Hid.out hu]; rfl, by first | rfl | trivial⟩
        case measure => simp [intOf]; omega
    · have hkI : ¬ (k : Int) < xs.length := by omega
      have e1 := Hid.out hu
      rw [List.take_of_length_le (by omega), ← HXS.out] at e1
      have HU := Lib.hid e1
      clear hu e1
      have q0 := hM7.cell 0
      have q1 := hM7.cell 1
      have q2 := hM7.cell 2
      have q3 := hM7.cell 3
      simp only [List.getElem?_cons_zero, List.getElem?_cons_succ] at q0 q1 q2 q3
      have hm7 := hM7.lt
      cases u
      · skip
        have hur : (r : Int) ∉ rdl n a b c i := by
          have h := HU.out
          intro hm
          rw [List.contains_eq_mem, decide_eq_true hm] at h
          cases h
        have FI := Lib.hid (fits_all _ _ 0 _ _ _ w7 him7 hSt7 ⟨_, _, rfl⟩)
        clear HU HLC HXS
        go_wp2_with fail
        refine FI.out.mono ?_
        clear FI
        rintro e w2 ⟨rfl, hb2⟩
        have hB2 : Below w.heap.size w w2 := bThen hb2 hB7.size hB7
        cases hfit : fitP (oneIm (encW n a b c i) s.d.length sh.length) 0 { s with pc := 0, halted := false, r := s.r.set 0 0 }
        · go_wp2_with fail
          go_ret
          exact ⟨rfl, hB2⟩
        have hSt2 := hSt7.below hb2 hSt7.lt
        have hI2 := hI7.below hb2 hI7.lt
        have hM2 := hM7.below hb2 hM7.lt
        have him2 := him7.below hb2 (Nat.le_refl _)
        clear hfit hSt7 hI7 hM7 him7 hb2 q0 q1 q2 q3 hm7
        obtain ⟨z, hz⟩ : ∃ z : St, z = { s with pc := 0, halted := false, r := s.r.set 0 0 } := ⟨_, rfl⟩
        rw [← hz] at hSt2
        have hrz : z.r.length = 16 := by rw [hz]; exact HR6.out
        have hz0 : z.r.getD 0 0 = 0 := by rw [hz]; exact HZ6.out
        have hzpc : z.pc = 0 := by rw [hz]
        have hzd : z.d = s.d := by rw [hz]
        have Rz : Hid (∀ j, W32 (z.r.getD j 0)) := (show ∀ j, W32 (z.r.getD j 0) by rw [hz]; exact HW6.out)
        clear hz HR6 HZ6 HW6 R32
        have Dz : Hid (∀ j, W32 (z.d.getD j 0)) := (show ∀ j, W32 (z.d.getD j 0) by rw [hzd]; exact D32.out)
        rw [← hzd] at hSt2 hrd hn0 him2 hsz ⊢
        clear hzd D32 hr HI
        have HI20 : (Tryd.prog.info? 29).map (·.size) = some (stCells z (.slice dp z.d.length dcap)).length := by rw [stCells_len hrz]; exact infoState
        have hrd2 := hrd.below hB2 (Nat.le_refl _)
        have hrm2 := hrm.below hB2 (Nat.le_refl _)
        have hlS := hSt2.lt
        have hlI := hI2.lt
        have hS2 := hSt2.2
        go_wp2_with fail
        refine two_meet w2 z (.slice dp z.d.length dcap) 82 84 83 85 17 18 ?_ ?_
        · skip
          repeat (rename_i x_; clear x_)
          try clear hT
          try clear hO
          try clear hrm
          try clear hm0
          try clear M32
          try clear hv32
          try clear hxi
          try clear hi0
          try clear hz0'
          try clear hz1'
          try clear hz2'
          try clear hB1
          try clear hs1b
          try clear hs1a
          try clear hsz2
          try clear hv
          try clear hB13
          try clear hB3
          try clear hz3
          try clear hrb
          try clear hB7
          try clear hur
          try clear hB2
          try clear hSt2
          try clear hI2
          try clear hM2
          try clear him2
          try clear hz0
          try clear hzpc
          try clear Rz
          try clear Dz
          try clear hrm2
          try clear hlI
          try clear hrd
          try clear hB13
          try clear hxl
          refine wp_region_held_drew (S := fun W => Below w2.heap.size w2 W) (by kernel_rfl) (Below.refl _ _).drew (fun hHeld => ?_)
          generalize w2.drew = v0 at hHeld ⊢
          have hz0 := hHeld.size
          refine wpAnyH_take (i := 0) (oi := { dst := some 82, op := Go.Op.load 29 (Go.Operand.tmp 6), type := 29, pos := "law.go:183", after := #[], guard := none }) rfl (by kernel_rfl) (by kernel_rfl) (by kernel_rfl) (fun _ _ _ h => nomatch h.1) (yieldsIf_load_mid rfl 29 (.tmp 6) rfl (w.heap.size + 1) 0 rfl (stCells z (.slice dp z.d.length dcap)) _ (fun w hb => (hS2.below hb hlS).range) Tryd.underlying29 rfl HI20) hHeld ?_
          (try simp only [put_lit, put_no]); (try dsimp only [List.set_cons_succ, List.set_cons_zero])
          refine wpAnyH_take (i := 2) (oi := { dst := some 84, op := Go.Op.load 29 (Go.Operand.tmp 6), type := 29, pos := "law.go:183", after := #[], guard := none }) rfl (by kernel_rfl) (by kernel_rfl) (by kernel_rfl) (fun _ _ _ h => nomatch h.1) (yieldsIf_load_mid rfl 29 (.tmp 6) rfl (w.heap.size + 1) 0 rfl (stCells z (.slice dp z.d.length dcap)) _ (fun w hb => (hS2.below hb hlS).range) Tryd.underlying29 rfl HI20) hHeld ?_
          (try simp only [put_lit, put_no]); (try dsimp only [List.set_cons_succ, List.set_cons_zero])
          refine wpAnyH_ready (rs := [1, 4, 5]) (by kernel_rfl) (by simp) ?_
          refine AllReadyH.cons (o := { dst := some 83, op := Go.Op.call { callee := Go.Callee.value (Go.Operand.func 12), args := #[Go.Operand.tmp 82], argTypes := #[29] }, type := 29, pos := "law.go:183", after := #[{ on := 0, ground := Go.Ground.data }], guard := none }) rfl (fun K hK => ?_) (AllReadyH.cons (o := { dst := some 17, op := Go.Op.alloc 29, type := 0, pos := "law.go:183", after := #[], guard := none }) rfl (fun K hK => ?_) (AllReadyH.cons (o := { dst := some 18, op := Go.Op.alloc 29, type := 0, pos := "law.go:183", after := #[], guard := none }) rfl (fun K hK => ?_) AllReadyH.nil))
          · skip
            go_simp
            refine (copyS z dp z.d.length dcap _ hrz rfl (hrd2.below hHeld (Nat.le_refl _)) hn0 (by omega)).mono ?_
            rintro e v1 ⟨px, cx, rfl, hC, hown⟩
            first | (refine hK.out _ _ ?_ (fun hHeld => ?_)) | (go_wp2_with fail; refine hK.out _ _ ?_ (fun hHeld => ?_))
            · exact hHeld.trans (hC.mono hHeld.size)
            clear hK K
            (try simp only [put_lit, put_no]); (try dsimp only [List.set_cons_succ, List.set_cons_zero])
            have mx1 := MemAt.of_owns hown
            have hz1 := hC.size
            have ox : ∀ k, (Value.slice px z.d.length cx).ownBlock = some k → v0.heap.size ≤ k ∧ k < v1.heap.size := fun k hk => ⟨by have := ownBase hown hk; omega, own_lt hown hk⟩
            clear hown
            clear hC
            refine wpAnyH_ready (rs := [3, 4, 5]) (by kernel_rfl) (by simp) ?_
            refine AllReadyH.cons (o := { dst := some 85, op := Go.Op.call { callee := Go.Callee.value (Go.Operand.func 12), args := #[Go.Operand.tmp 84], argTypes := #[29] }, type := 29, pos := "law.go:183", after := #[{ on := 2, ground := Go.Ground.data }, { on := 1, ground := Go.Ground.chain }], guard := none }) rfl (fun K hK => ?_) (AllReadyH.cons (o := { dst := some 17, op := Go.Op.alloc 29, type := 0, pos := "law.go:183", after := #[], guard := none }) rfl (fun K hK => ?_) (AllReadyH.cons (o := { dst := some 18, op := Go.Op.alloc 29, type := 0, pos := "law.go:183", after := #[], guard := none }) rfl (fun K hK => ?_) AllReadyH.nil))
            · skip
              go_simp
              refine (copyS z dp z.d.length dcap _ hrz rfl (hrd2.below hHeld (Nat.le_refl _)) hn0 (by omega)).mono ?_
              rintro e v2 ⟨py, cy, rfl, hC, hown⟩
              first | (refine hK.out _ _ ?_ (fun hHeld => ?_)) | (go_wp2_with fail; refine hK.out _ _ ?_ (fun hHeld => ?_))
              · exact hHeld.trans (hC.mono hHeld.size)
              clear hK K
              (try simp only [put_lit, put_no]); (try dsimp only [List.set_cons_succ, List.set_cons_zero])
              have my2 := MemAt.of_owns hown
              have hz2 := hC.size
              have oy : ∀ k, (Value.slice py z.d.length cy).ownBlock = some k → v1.heap.size ≤ k ∧ k < v2.heap.size := fun k hk => ⟨by have := ownBase hown hk; omega, own_lt hown hk⟩
              clear hown
              have mx2 := mx1.below hC (Nat.le_refl _)
              clear hC
              refine wpAnyH_ready (rs := [4, 5]) (by kernel_rfl) (by simp) ?_
              refine AllReadyH.cons (o := { dst := some 17, op := Go.Op.alloc 29, type := 0, pos := "law.go:183", after := #[], guard := none }) rfl (fun K hK => ?_) (AllReadyH.cons (o := { dst := some 18, op := Go.Op.alloc 29, type := 0, pos := "law.go:183", after := #[], guard := none }) rfl (fun K hK => ?_) AllReadyH.nil)
              · skip
                go_simp
                refine hK.out _ _ ?_ (fun hHeld => ?_)
                · exact bAlloc hHeld.size hHeld
                clear hK K
                (try simp only [put_lit, put_no]); (try dsimp only [List.set_cons_succ, List.set_cons_zero])
                have hC : Below v2.heap.size v2 (v2.alloc (.cells #[.int .i64 0, .int .i32 0, .int .i32 0, .int .i32 0, .int .i32 0, .int .i32 0, .int .i32 0, .int .i32 0, .int .i32 0, .int .i32 0, .int .i32 0, .int .i32 0, .int .i32 0, .int .i32 0, .int .i32 0, .int .i32 0, .int .i32 0, .slice none 0 0, .bool false, .int .i64 0] 29)) := bAlloc (Nat.le_refl _) (Below.refl _ _)
                have x3 := RowAt.alloc_new v2 [.int .i64 0, .int .i32 0, .int .i32 0, .int .i32 0, .int .i32 0, .int .i32 0, .int .i32 0, .int .i32 0, .int .i32 0, .int .i32 0, .int .i32 0, .int .i32 0, .int .i32 0, .int .i32 0, .int .i32 0, .int .i32 0, .int .i32 0, .slice none 0 0, .bool false, .int .i64 0] 29
                have hz3 : v2.heap.size < (v2.alloc (.cells #[.int .i64 0, .int .i32 0, .int .i32 0, .int .i32 0, .int .i32 0, .int .i32 0, .int .i32 0, .int .i32 0, .int .i32 0, .int .i32 0, .int .i32 0, .int .i32 0, .int .i32 0, .int .i32 0, .int .i32 0, .int .i32 0, .int .i32 0, .slice none 0 0, .bool false, .int .i64 0] 29)).heap.size := by simp
                have bdx : v2.heap.size ≤ v2.heap.size := Nat.le_refl _
                generalize v2.alloc (.cells #[.int .i64 0, .int .i32 0, .int .i32 0, .int .i32 0, .int .i32 0, .int .i32 0, .int .i32 0, .int .i32 0, .int .i32 0, .int .i32 0, .int .i32 0, .int .i32 0, .int .i32 0, .int .i32 0, .int .i32 0, .int .i32 0, .int .i32 0, .slice none 0 0, .bool false, .int .i64 0] 29) = v3 at hHeld hC x3 hz3 ⊢
                have mx3 := mx2.below hC (Nat.le_refl _)
                have my3 := my2.below hC (Nat.le_refl _)
                clear hC
                refine wpAnyH_ready (rs := [5]) (by kernel_rfl) (by simp) ?_
                refine AllReadyH.cons (o := { dst := some 18, op := Go.Op.alloc 29, type := 0, pos := "law.go:183", after := #[], guard := none }) rfl (fun K hK => ?_) AllReadyH.nil
                go_simp
                refine hK.out _ _ ?_ (fun hHeld => ?_)
                · exact bAlloc hHeld.size hHeld
                clear hK K
                (try simp only [put_lit, put_no]); (try dsimp only [List.set_cons_succ, List.set_cons_zero])
                have hC : Below v3.heap.size v3 (v3.alloc (.cells #[.int .i64 0, .int .i32 0, .int .i32 0, .int .i32 0, .int .i32 0, .int .i32 0, .int .i32 0, .int .i32 0, .int .i32 0, .int .i32 0, .int .i32 0, .int .i32 0, .int .i32 0, .int .i32 0, .int .i32 0, .int .i32 0, .int .i32 0, .slice none 0 0, .bool false, .int .i64 0] 29)) := bAlloc (Nat.le_refl _) (Below.refl _ _)
                have y4 := RowAt.alloc_new v3 [.int .i64 0, .int .i32 0, .int .i32 0, .int .i32 0, .int .i32 0, .int .i32 0, .int .i32 0, .int .i32 0, .int .i32 0, .int .i32 0, .int .i32 0, .int .i32 0, .int .i32 0, .int .i32 0, .int .i32 0, .int .i32 0, .int .i32 0, .slice none 0 0, .bool false, .int .i64 0] 29
                have hz4 : v3.heap.size < (v3.alloc (.cells #[.int .i64 0, .int .i32 0, .int .i32 0, .int .i32 0, .int .i32 0, .int .i32 0, .int .i32 0, .int .i32 0, .int .i32 0, .int .i32 0, .int .i32 0, .int .i32 0, .int .i32 0, .int .i32 0, .int .i32 0, .int .i32 0, .int .i32 0, .slice none 0 0, .bool false, .int .i64 0] 29)).heap.size := by simp
                have bdy : v3.heap.size ≤ v3.heap.size := Nat.le_refl _
                generalize v3.alloc (.cells #[.int .i64 0, .int .i32 0, .int .i32 0, .int .i32 0, .int .i32 0, .int .i32 0, .int .i32 0, .int .i32 0, .int .i32 0, .int .i32 0, .int .i32 0, .int .i32 0, .int .i32 0, .int .i32 0, .int .i32 0, .int .i32 0, .int .i32 0, .slice none 0 0, .bool false, .int .i64 0] 29) = v4 at hHeld hC y4 hz4 ⊢
                have x4 := x3.below hC x3.lt
                have mx4 := mx3.below hC (Nat.le_refl _)
                have my4 := my3.below hC (Nat.le_refl _)
                clear hC
                refine wpAnyH_ready (rs := [6]) (by kernel_rfl) (by simp) ?_
                refine AllReadyH.cons (o := { dst := none, op := Go.Op.store 29 (Go.Operand.tmp 17) (Go.Operand.tmp 83), type := 0, pos := "law.go:183", after := #[{ on := 4, ground := Go.Ground.data }, { on := 1, ground := Go.Ground.data }, { on := 3, ground := Go.Ground.chain }, { on := 0, ground := Go.Ground.phase }, { on := 1, ground := Go.Ground.phase }, { on := 2, ground := Go.Ground.phase }, { on := 3, ground := Go.Ground.phase }, { on := 4, ground := Go.Ground.phase }, { on := 5, ground := Go.Ground.phase }], guard := none }) rfl (fun K hK => ?_) AllReadyH.nil
                obtain ⟨tzx, hz⟩ := x4
                have hbx := lt_of_block hz
                have hby := y4.lt
                refine step_store_row rfl 29 (.tmp 17) (.tmp 83) rfl (v2.heap.size) _ rfl rfl tzx _ hz (by rw [List.size_toArray, stCells_len hrz]; exact infoState) (by first | (rw [List.size_toArray, List.size_toArray, stCells_len hrz]; rfl) | (rw [List.size_toArray, stCells_len hrz]; rfl)) (stCells_one z _ _ _) ?_
                refine hK.out _ _ ?_ (fun hHeld => ?_)
                · exact bRow (by have := hHeld.size; omega) hHeld
                clear hK K
                (try simp only [put_lit, put_no]); (try dsimp only [List.set_cons_succ, List.set_cons_zero])
                have x5 : RowAt (v4.setRow (v2.heap.size) (stCells z (.slice px z.d.length cx)).toArray) (v2.heap.size) (stCells z (.slice px z.d.length cx)) := ⟨_, setRow_heap _ _ _ _ _ _ hz⟩
                have hz5 : v4.heap.size ≤ (v4.setRow (v2.heap.size) (stCells z (.slice px z.d.length cx)).toArray).heap.size := by rw [setRow_size]; exact Nat.le_refl _
                have y5 := y4.block (setRow_block v4 (v2.heap.size) (stCells z (.slice px z.d.length cx)).toArray (by omega))
                have mx5 := mx4.block (fun k hk => setRow_block v4 (v2.heap.size) (stCells z (.slice px z.d.length cx)).toArray (by have := ox k hk; omega))
                have my5 := my4.block (fun k hk => setRow_block v4 (v2.heap.size) (stCells z (.slice px z.d.length cx)).toArray (by have := oy k hk; omega))
                clear hz
                generalize v4.setRow (v2.heap.size) (stCells z (.slice px z.d.length cx)).toArray = v5 at hHeld hz5 x5 y5 mx5 my5 ⊢
                refine wpAnyH_ready (rs := [7]) (by kernel_rfl) (by simp) ?_
                refine AllReadyH.cons (o := { dst := none, op := Go.Op.store 29 (Go.Operand.tmp 18) (Go.Operand.tmp 85), type := 0, pos := "law.go:183", after := #[{ on := 5, ground := Go.Ground.data }, { on := 3, ground := Go.Ground.data }, { on := 6, ground := Go.Ground.chain }, { on := 0, ground := Go.Ground.phase }, { on := 1, ground := Go.Ground.phase }, { on := 2, ground := Go.Ground.phase }, { on := 3, ground := Go.Ground.phase }, { on := 4, ground := Go.Ground.phase }, { on := 5, ground := Go.Ground.phase }, { on := 6, ground := Go.Ground.phase }], guard := none }) rfl (fun K hK => ?_) AllReadyH.nil
                obtain ⟨tzy, hz⟩ := y5
                refine step_store_row rfl 29 (.tmp 18) (.tmp 85) rfl (v3.heap.size) _ rfl rfl tzy _ hz (by rw [List.size_toArray, stCells_len hrz]; exact infoState) (by first | (rw [List.size_toArray, List.size_toArray, stCells_len hrz]; rfl) | (rw [List.size_toArray, stCells_len hrz]; rfl)) (stCells_one z _ _ _) ?_
                refine hK.out _ _ ?_ (fun hHeld => ?_)
                · exact bRow (by have := hHeld.size; omega) hHeld
                clear hK K
                (try simp only [put_lit, put_no]); (try dsimp only [List.set_cons_succ, List.set_cons_zero])
                have y6 : RowAt (v5.setRow (v3.heap.size) (stCells z (.slice py z.d.length cy)).toArray) (v3.heap.size) (stCells z (.slice py z.d.length cy)) := ⟨_, setRow_heap _ _ _ _ _ _ hz⟩
                have hz6 : v5.heap.size ≤ (v5.setRow (v3.heap.size) (stCells z (.slice py z.d.length cy)).toArray).heap.size := by rw [setRow_size]; exact Nat.le_refl _
                have x6 := x5.block (setRow_block v5 (v3.heap.size) (stCells z (.slice py z.d.length cy)).toArray (by omega))
                have mx6 := mx5.block (fun k hk => setRow_block v5 (v3.heap.size) (stCells z (.slice py z.d.length cy)).toArray (by have := ox k hk; omega))
                have my6 := my5.block (fun k hk => setRow_block v5 (v3.heap.size) (stCells z (.slice py z.d.length cy)).toArray (by have := oy k hk; omega))
                clear hz
                generalize v5.setRow (v3.heap.size) (stCells z (.slice py z.d.length cy)).toArray = v6 at hHeld hz6 x6 y6 mx6 my6 ⊢
                refine wpAnyH_done (by kernel_rfl) ?_ _
                exact ⟨rfl, v2.heap.size, v3.heap.size, px, cx, py, cy, by first | rfl | (simp only [put6, Act.put, List.setIfInBounds_toArray, List.set_cons_zero, List.set_cons_succ]), ⟨hHeld, ⟨hrz, x6⟩, ⟨hrz, y6⟩, mx6, my6, by omega, by omega, fun k hk => by have h1 := ox k hk; exact ⟨by omega, by omega, by omega, by omega, fun h => by have h2 := oy k h; omega⟩, fun k hk => by have h1 := oy k hk; exact ⟨by omega, by omega, by omega, by omega, fun h => by have h2 := ox k h; omega⟩, by omega⟩⟩
              · skip
                go_simp
                refine hK.out _ _ ?_ (fun hHeld => ?_)
                · exact bAlloc hHeld.size hHeld
                clear hK K
                (try simp only [put_lit, put_no]); (try dsimp only [List.set_cons_succ, List.set_cons_zero])
                have hC : Below v2.heap.size v2 (v2.alloc (.cells #[.int .i64 0, .int .i32 0, .int .i32 0, .int .i32 0, .int .i32 0, .int .i32 0, .int .i32 0, .int .i32 0, .int .i32 0, .int .i32 0, .int .i32 0, .int .i32 0, .int .i32 0, .int .i32 0, .int .i32 0, .int .i32 0, .int .i32 0, .slice none 0 0, .bool false, .int .i64 0] 29)) := bAlloc (Nat.le_refl _) (Below.refl _ _)
                have y3 := RowAt.alloc_new v2 [.int .i64 0, .int .i32 0, .int .i32 0, .int .i32 0, .int .i32 0, .int .i32 0, .int .i32 0, .int .i32 0, .int .i32 0, .int .i32 0, .int .i32 0, .int .i32 0, .int .i32 0, .int .i32 0, .int .i32 0, .int .i32 0, .int .i32 0, .slice none 0 0, .bool false, .int .i64 0] 29
                have hz3 : v2.heap.size < (v2.alloc (.cells #[.int .i64 0, .int .i32 0, .int .i32 0, .int .i32 0, .int .i32 0, .int .i32 0, .int .i32 0, .int .i32 0, .int .i32 0, .int .i32 0, .int .i32 0, .int .i32 0, .int .i32 0, .int .i32 0, .int .i32 0, .int .i32 0, .int .i32 0, .slice none 0 0, .bool false, .int .i64 0] 29)).heap.size := by simp
                have bdy : v2.heap.size ≤ v2.heap.size := Nat.le_refl _
                generalize v2.alloc (.cells #[.int .i64 0, .int .i32 0, .int .i32 0, .int .i32 0, .int .i32 0, .int .i32 0, .int .i32 0, .int .i32 0, .int .i32 0, .int .i32 0, .int .i32 0, .int .i32 0, .int .i32 0, .int .i32 0, .int .i32 0, .int .i32 0, .int .i32 0, .slice none 0 0, .bool false, .int .i64 0] 29) = v3 at hHeld hC y3 hz3 ⊢
                have mx3 := mx2.below hC (Nat.le_refl _)
                have my3 := my2.below hC (Nat.le_refl _)
                clear hC
                refine wpAnyH_ready (rs := [4]) (by kernel_rfl) (by simp) ?_
                refine AllReadyH.cons (o := { dst := some 17, op := Go.Op.alloc 29, type := 0, pos := "law.go:183", after := #[], guard := none }) rfl (fun K hK => ?_) AllReadyH.nil
                go_simp
                refine hK.out _ _ ?_ (fun hHeld => ?_)
                · exact bAlloc hHeld.size hHeld
                clear hK K
                (try simp only [put_lit, put_no]); (try dsimp only [List.set_cons_succ, List.set_cons_zero])
                have hC : Below v3.heap.size v3 (v3.alloc (.cells #[.int .i64 0, .int .i32 0, .int .i32 0, .int .i32 0, .int .i32 0, .int .i32 0, .int .i32 0, .int .i32 0, .int .i32 0, .int .i32 0, .int .i32 0, .int .i32 0, .int .i32 0, .int .i32 0, .int .i32 0, .int .i32 0, .int .i32 0, .slice none 0 0, .bool false, .int .i64 0] 29)) := bAlloc (Nat.le_refl _) (Below.refl _ _)
                have x4 := RowAt.alloc_new v3 [.int .i64 0, .int .i32 0, .int .i32 0, .int .i32 0, .int .i32 0, .int .i32 0, .int .i32 0, .int .i32 0, .int .i32 0, .int .i32 0, .int .i32 0, .int .i32 0, .int .i32 0, .int .i32 0, .int .i32 0, .int .i32 0, .int .i32 0, .slice none 0 0, .bool false, .int .i64 0] 29
                have hz4 : v3.heap.size < (v3.alloc (.cells #[.int .i64 0, .int .i32 0, .int .i32 0, .int .i32 0, .int .i32 0, .int .i32 0, .int .i32 0, .int .i32 0, .int .i32 0, .int .i32 0, .int .i32 0, .int .i32 0, .int .i32 0, .int .i32 0, .int .i32 0, .int .i32 0, .int .i32 0, .slice none 0 0, .bool false, .int .i64 0] 29)).heap.size := by simp
                have bdx : v3.heap.size ≤ v3.heap.size := Nat.le_refl _
                generalize v3.alloc (.cells #[.int .i64 0, .int .i32 0, .int .i32 0, .int .i32 0, .int .i32 0, .int .i32 0, .int .i32 0, .int .i32 0, .int .i32 0, .int .i32 0, .int .i32 0, .int .i32 0, .int .i32 0, .int .i32 0, .int .i32 0, .int .i32 0, .int .i32 0, .slice none 0 0, .bool false, .int .i64 0] 29) = v4 at hHeld hC x4 hz4 ⊢
                have y4 := y3.below hC y3.lt
                have mx4 := mx3.below hC (Nat.le_refl _)
                have my4 := my3.below hC (Nat.le_refl _)
                clear hC
                refine wpAnyH_ready (rs := [6]) (by kernel_rfl) (by simp) ?_
                refine AllReadyH.cons (o := { dst := none, op := Go.Op.store 29 (Go.Operand.tmp 17) (Go.Operand.tmp 83), type := 0, pos := "law.go:183", after := #[{ on := 4, ground := Go.Ground.data }, { on := 1, ground := Go.Ground.data }, { on := 3, ground := Go.Ground.chain }, { on := 0, ground := Go.Ground.phase }, { on := 1, ground := Go.Ground.phase }, { on := 2, ground := Go.Ground.phase }, { on := 3, ground := Go.Ground.phase }, { on := 4, ground := Go.Ground.phase }, { on := 5, ground := Go.Ground.phase }], guard := none }) rfl (fun K hK => ?_) AllReadyH.nil
                obtain ⟨tzx, hz⟩ := x4
                have hbx := lt_of_block hz
                have hby := y4.lt
                refine step_store_row rfl 29 (.tmp 17) (.tmp 83) rfl (v3.heap.size) _ rfl rfl tzx _ hz (by rw [List.size_toArray, stCells_len hrz]; exact infoState) (by first | (rw [List.size_toArray, List.size_toArray, stCells_len hrz]; rfl) | (rw [List.size_toArray, stCells_len hrz]; rfl)) (stCells_one z _ _ _) ?_
                refine hK.out _ _ ?_ (fun hHeld => ?_)
                · exact bRow (by have := hHeld.size; omega) hHeld
                clear hK K
                (try simp only [put_lit, put_no]); (try dsimp only [List.set_cons_succ, List.set_cons_zero])
                have x5 : RowAt (v4.setRow (v3.heap.size) (stCells z (.slice px z.d.length cx)).toArray) (v3.heap.size) (stCells z (.slice px z.d.length cx)) := ⟨_, setRow_heap _ _ _ _ _ _ hz⟩
                have hz5 : v4.heap.size ≤ (v4.setRow (v3.heap.size) (stCells z (.slice px z.d.length cx)).toArray).heap.size := by rw [setRow_size]; exact Nat.le_refl _
                have y5 := y4.block (setRow_block v4 (v3.heap.size) (stCells z (.slice px z.d.length cx)).toArray (by omega))
                have mx5 := mx4.block (fun k hk => setRow_block v4 (v3.heap.size) (stCells z (.slice px z.d.length cx)).toArray (by have := ox k hk; omega))
                have my5 := my4.block (fun k hk => setRow_block v4 (v3.heap.size) (stCells z (.slice px z.d.length cx)).toArray (by have := oy k hk; omega))
                clear hz
                generalize v4.setRow (v3.heap.size) (stCells z (.slice px z.d.length cx)).toArray = v5 at hHeld hz5 y5 x5 mx5 my5 ⊢
                refine wpAnyH_ready (rs := [7]) (by kernel_rfl) (by simp) ?_
                refine AllReadyH.cons (o := { dst := none, op := Go.Op.store 29 (Go.Operand.tmp 18) (Go.Operand.tmp 85), type := 0, pos := "law.go:183", after := #[{ on := 5, ground := Go.Ground.data }, { on := 3, ground := Go.Ground.data }, { on := 6, ground := Go.Ground.chain }, { on := 0, ground := Go.Ground.phase }, { on := 1, ground := Go.Ground.phase }, { on := 2, ground := Go.Ground.phase }, { on := 3, ground := Go.Ground.phase }, { on := 4, ground := Go.Ground.phase }, { on := 5, ground := Go.Ground.phase }, { on := 6, ground := Go.Ground.phase }], guard := none }) rfl (fun K hK => ?_) AllReadyH.nil
                obtain ⟨tzy, hz⟩ := y5
                refine step_store_row rfl 29 (.tmp 18) (.tmp 85) rfl (v2.heap.size) _ rfl rfl tzy _ hz (by rw [List.size_toArray, stCells_len hrz]; exact infoState) (by first | (rw [List.size_toArray, List.size_toArray, stCells_len hrz]; rfl) | (rw [List.size_toArray, stCells_len hrz]; rfl)) (stCells_one z _ _ _) ?_
                refine hK.out _ _ ?_ (fun hHeld => ?_)
                · exact bRow (by have := hHeld.size; omega) hHeld
                clear hK K
                (try simp only [put_lit, put_no]); (try dsimp only [List.set_cons_succ, List.set_cons_zero])
                have y6 : RowAt (v5.setRow (v2.heap.size) (stCells z (.slice py z.d.length cy)).toArray) (v2.heap.size) (stCells z (.slice py z.d.length cy)) := ⟨_, setRow_heap _ _ _ _ _ _ hz⟩
                have hz6 : v5.heap.size ≤ (v5.setRow (v2.heap.size) (stCells z (.slice py z.d.length cy)).toArray).heap.size := by rw [setRow_size]; exact Nat.le_refl _
                have x6 := x5.block (setRow_block v5 (v2.heap.size) (stCells z (.slice py z.d.length cy)).toArray (by omega))
                have mx6 := mx5.block (fun k hk => setRow_block v5 (v2.heap.size) (stCells z (.slice py z.d.length cy)).toArray (by have := ox k hk; omega))
                have my6 := my5.block (fun k hk => setRow_block v5 (v2.heap.size) (stCells z (.slice py z.d.length cy)).toArray (by have := oy k hk; omega))
                clear hz
                generalize v5.setRow (v2.heap.size) (stCells z (.slice py z.d.length cy)).toArray = v6 at hHeld hz6 y6 x6 mx6 my6 ⊢
                refine wpAnyH_done (by kernel_rfl) ?_ _
                exact ⟨rfl, v3.heap.size, v2.heap.size, px, cx, py, cy, by first | rfl | (simp only [put6, Act.put, List.setIfInBounds_toArray, List.set_cons_zero, List.set_cons_succ]), ⟨hHeld, ⟨hrz, x6⟩, ⟨hrz, y6⟩, mx6, my6, by omega, by omega, fun k hk => by have h1 := ox k hk; exact ⟨by omega, by omega, by omega, by omega, fun h => by have h2 := oy k h; omega⟩, fun k hk => by have h1 := oy k hk; exact ⟨by omega, by omega, by omega, by omega, fun h => by have h2 := ox k h; omega⟩, by omega⟩⟩
            · skip
              go_simp
              refine hK.out _ _ ?_ (fun hHeld => ?_)
              · exact bAlloc hHeld.size hHeld
              clear hK K
              (try simp only [put_lit, put_no]); (try dsimp only [List.set_cons_succ, List.set_cons_zero])
              have hC : Below v1.heap.size v1 (v1.alloc (.cells #[.int .i64 0, .int .i32 0, .int .i32 0, .int .i32 0, .int .i32 0, .int .i32 0, .int .i32 0, .int .i32 0, .int .i32 0, .int .i32 0, .int .i32 0, .int .i32 0, .int .i32 0, .int .i32 0, .int .i32 0, .int .i32 0, .int .i32 0, .slice none 0 0, .bool false, .int .i64 0] 29)) := bAlloc (Nat.le_refl _) (Below.refl _ _)
              have x2 := RowAt.alloc_new v1 [.int .i64 0, .int .i32 0, .int .i32 0, .int .i32 0, .int .i32 0, .int .i32 0, .int .i32 0, .int .i32 0, .int .i32 0, .int .i32 0, .int .i32 0, .int .i32 0, .int .i32 0, .int .i32 0, .int .i32 0, .int .i32 0, .int .i32 0, .slice none 0 0, .bool false, .int .i64 0] 29
              have hz2 : v1.heap.size < (v1.alloc (.cells #[.int .i64 0, .int .i32 0, .int .i32 0, .int .i32 0, .int .i32 0, .int .i32 0, .int .i32 0, .int .i32 0, .int .i32 0, .int .i32 0, .int .i32 0, .int .i32 0, .int .i32 0, .int .i32 0, .int .i32 0, .int .i32 0, .int .i32 0, .slice none 0 0, .bool false, .int .i64 0] 29)).heap.size := by simp
              have bdx : v1.heap.size ≤ v1.heap.size := Nat.le_refl _
              generalize v1.alloc (.cells #[.int .i64 0, .int .i32 0, .int .i32 0, .int .i32 0, .int .i32 0, .int .i32 0, .int .i32 0, .int .i32 0, .int .i32 0, .int .i32 0, .int .i32 0, .int .i32 0, .int .i32 0, .int .i32 0, .int .i32 0, .int .i32 0, .int .i32 0, .slice none 0 0, .bool false, .int .i64 0] 29) = v2 at hHeld hC x2 hz2 ⊢
              have mx2 := mx1.below hC (Nat.le_refl _)
              clear hC
              refine wpAnyH_ready (rs := [3, 5]) (by kernel_rfl) (by simp) ?_
              refine AllReadyH.cons (o := { dst := some 85, op := Go.Op.call { callee := Go.Callee.value (Go.Operand.func 12), args := #[Go.Operand.tmp 84], argTypes := #[29] }, type := 29, pos := "law.go:183", after := #[{ on := 2, ground := Go.Ground.data }, { on := 1, ground := Go.Ground.chain }], guard := none }) rfl (fun K hK => ?_) (AllReadyH.cons (o := { dst := some 18, op := Go.Op.alloc 29, type := 0, pos := "law.go:183", after := #[], guard := none }) rfl (fun K hK => ?_) AllReadyH.nil)
              · skip
                go_simp
                refine (copyS z dp z.d.length dcap _ hrz rfl (hrd2.below hHeld (Nat.le_refl _)) hn0 (by omega)).mono ?_
                rintro e v3 ⟨py, cy, rfl, hC, hown⟩
                first | (refine hK.out _ _ ?_ (fun hHeld => ?_)) | (go_wp2_with fail; refine hK.out _ _ ?_ (fun hHeld => ?_))
                · exact hHeld.trans (hC.mono hHeld.size)
                clear hK K
                (try simp only [put_lit, put_no]); (try dsimp only [List.set_cons_succ, List.set_cons_zero])
                have my3 := MemAt.of_owns hown
                have hz3 := hC.size
                have oy : ∀ k, (Value.slice py z.d.length cy).ownBlock = some k → v2.heap.size ≤ k ∧ k < v3.heap.size := fun k hk => ⟨by have := ownBase hown hk; omega, own_lt hown hk⟩
                clear hown
                have x3 := x2.below hC x2.lt
                have mx3 := mx2.below hC (Nat.le_refl _)
                clear hC
                refine wpAnyH_ready (rs := [5]) (by kernel_rfl) (by simp) ?_
                refine AllReadyH.cons (o := { dst := some 18, op := Go.Op.alloc 29, type := 0, pos := "law.go:183", after := #[], guard := none }) rfl (fun K hK => ?_) AllReadyH.nil
                go_simp
                refine hK.out _ _ ?_ (fun hHeld => ?_)
                · exact bAlloc hHeld.size hHeld
                clear hK K
                (try simp only [put_lit, put_no]); (try dsimp only [List.set_cons_succ, List.set_cons_zero])
                have hC : Below v3.heap.size v3 (v3.alloc (.cells #[.int .i64 0, .int .i32 0, .int .i32 0, .int .i32 0, .int .i32 0, .int .i32 0, .int .i32 0, .int .i32 0, .int .i32 0, .int .i32 0, .int .i32 0, .int .i32 0, .int .i32 0, .int .i32 0, .int .i32 0, .int .i32 0, .int .i32 0, .slice none 0 0, .bool false, .int .i64 0] 29)) := bAlloc (Nat.le_refl _) (Below.refl _ _)
                have y4 := RowAt.alloc_new v3 [.int .i64 0, .int .i32 0, .int .i32 0, .int .i32 0, .int .i32 0, .int .i32 0, .int .i32 0, .int .i32 0, .int .i32 0, .int .i32 0, .int .i32 0, .int .i32 0, .int .i32 0, .int .i32 0, .int .i32 0, .int .i32 0, .int .i32 0, .slice none 0 0, .bool false, .int .i64 0] 29
                have hz4 : v3.heap.size < (v3.alloc (.cells #[.int .i64 0, .int .i32 0, .int .i32 0, .int .i32 0, .int .i32 0, .int .i32 0, .int .i32 0, .int .i32 0, .int .i32 0, .int .i32 0, .int .i32 0, .int .i32 0, .int .i32 0, .int .i32 0, .int .i32 0, .int .i32 0, .int .i32 0, .slice none 0 0, .bool false, .int .i64 0] 29)).heap.size := by simp
                have bdy : v3.heap.size ≤ v3.heap.size := Nat.le_refl _
                generalize v3.alloc (.cells #[.int .i64 0, .int .i32 0, .int .i32 0, .int .i32 0, .int .i32 0, .int .i32 0, .int .i32 0, .int .i32 0, .int .i32 0, .int .i32 0, .int .i32 0, .int .i32 0, .int .i32 0, .int .i32 0, .int .i32 0, .int .i32 0, .int .i32 0, .slice none 0 0, .bool false, .int .i64 0] 29) = v4 at hHeld hC y4 hz4 ⊢
                have x4 := x3.below hC x3.lt
                have mx4 := mx3.below hC (Nat.le_refl _)
                have my4 := my3.below hC (Nat.le_refl _)
                clear hC
                refine wpAnyH_ready (rs := [6]) (by kernel_rfl) (by simp) ?_
                refine AllReadyH.cons (o := { dst := none, op := Go.Op.store 29 (Go.Operand.tmp 17) (Go.Operand.tmp 83), type := 0, pos := "law.go:183", after := #[{ on := 4, ground := Go.Ground.data }, { on := 1, ground := Go.Ground.data }, { on := 3, ground := Go.Ground.chain }, { on := 0, ground := Go.Ground.phase }, { on := 1, ground := Go.Ground.phase }, { on := 2, ground := Go.Ground.phase }, { on := 3, ground := Go.Ground.phase }, { on := 4, ground := Go.Ground.phase }, { on := 5, ground := Go.Ground.phase }], guard := none }) rfl (fun K hK => ?_) AllReadyH.nil
                obtain ⟨tzx, hz⟩ := x4
                have hbx := lt_of_block hz
                have hby := y4.lt
                refine step_store_row rfl 29 (.tmp 17) (.tmp 83) rfl (v1.heap.size) _ rfl rfl tzx _ hz (by rw [List.size_toArray, stCells_len hrz]; exact infoState) (by first | (rw [List.size_toArray, List.size_toArray, stCells_len hrz]; rfl) | (rw [List.size_toArray, stCells_len hrz]; rfl)) (stCells_one z _ _ _) ?_
                refine hK.out _ _ ?_ (fun hHeld => ?_)
                · exact bRow (by have := hHeld.size; omega) hHeld
                clear hK K
                (try simp only [put_lit, put_no]); (try dsimp only [List.set_cons_succ, List.set_cons_zero])
                have x5 : RowAt (v4.setRow (v1.heap.size) (stCells z (.slice px z.d.length cx)).toArray) (v1.heap.size) (stCells z (.slice px z.d.length cx)) := ⟨_, setRow_heap _ _ _ _ _ _ hz⟩
                have hz5 : v4.heap.size ≤ (v4.setRow (v1.heap.size) (stCells z (.slice px z.d.length cx)).toArray).heap.size := by rw [setRow_size]; exact Nat.le_refl _
                have y5 := y4.block (setRow_block v4 (v1.heap.size) (stCells z (.slice px z.d.length cx)).toArray (by omega))
                have mx5 := mx4.block (fun k hk => setRow_block v4 (v1.heap.size) (stCells z (.slice px z.d.length cx)).toArray (by have := ox k hk; omega))
                have my5 := my4.block (fun k hk => setRow_block v4 (v1.heap.size) (stCells z (.slice px z.d.length cx)).toArray (by have := oy k hk; omega))
                clear hz
                generalize v4.setRow (v1.heap.size) (stCells z (.slice px z.d.length cx)).toArray = v5 at hHeld hz5 x5 y5 mx5 my5 ⊢
                refine wpAnyH_ready (rs := [7]) (by kernel_rfl) (by simp) ?_
                refine AllReadyH.cons (o := { dst := none, op := Go.Op.store 29 (Go.Operand.tmp 18) (Go.Operand.tmp 85), type := 0, pos := "law.go:183", after := #[{ on := 5, ground := Go.Ground.data }, { on := 3, ground := Go.Ground.data }, { on := 6, ground := Go.Ground.chain }, { on := 0, ground := Go.Ground.phase }, { on := 1, ground := Go.Ground.phase }, { on := 2, ground := Go.Ground.phase }, { on := 3, ground := Go.Ground.phase }, { on := 4, ground := Go.Ground.phase }, { on := 5, ground := Go.Ground.phase }, { on := 6, ground := Go.Ground.phase }], guard := none }) rfl (fun K hK => ?_) AllReadyH.nil
                obtain ⟨tzy, hz⟩ := y5
                refine step_store_row rfl 29 (.tmp 18) (.tmp 85) rfl (v3.heap.size) _ rfl rfl tzy _ hz (by rw [List.size_toArray, stCells_len hrz]; exact infoState) (by first | (rw [List.size_toArray, List.size_toArray, stCells_len hrz]; rfl) | (rw [List.size_toArray, stCells_len hrz]; rfl)) (stCells_one z _ _ _) ?_
                refine hK.out _ _ ?_ (fun hHeld => ?_)
                · exact bRow (by have := hHeld.size; omega) hHeld
                clear hK K
                (try simp only [put_lit, put_no]); (try dsimp only [List.set_cons_succ, List.set_cons_zero])
                have y6 : RowAt (v5.setRow (v3.heap.size) (stCells z (.slice py z.d.length cy)).toArray) (v3.heap.size) (stCells z (.slice py z.d.length cy)) := ⟨_, setRow_heap _ _ _ _ _ _ hz⟩
                have hz6 : v5.heap.size ≤ (v5.setRow (v3.heap.size) (stCells z (.slice py z.d.length cy)).toArray).heap.size := by rw [setRow_size]; exact Nat.le_refl _
                have x6 := x5.block (setRow_block v5 (v3.heap.size) (stCells z (.slice py z.d.length cy)).toArray (by omega))
                have mx6 := mx5.block (fun k hk => setRow_block v5 (v3.heap.size) (stCells z (.slice py z.d.length cy)).toArray (by have := ox k hk; omega))
                have my6 := my5.block (fun k hk => setRow_block v5 (v3.heap.size) (stCells z (.slice py z.d.length cy)).toArray (by have := oy k hk; omega))
                clear hz
                generalize v5.setRow (v3.heap.size) (stCells z (.slice py z.d.length cy)).toArray = v6 at hHeld hz6 x6 y6 mx6 my6 ⊢
                refine wpAnyH_done (by kernel_rfl) ?_ _
                exact ⟨rfl, v1.heap.size, v3.heap.size, px, cx, py, cy, by first | rfl | (simp only [put6, Act.put, List.setIfInBounds_toArray, List.set_cons_zero, List.set_cons_succ]), ⟨hHeld, ⟨hrz, x6⟩, ⟨hrz, y6⟩, mx6, my6, by omega, by omega, fun k hk => by have h1 := ox k hk; exact ⟨by omega, by omega, by omega, by omega, fun h => by have h2 := oy k h; omega⟩, fun k hk => by have h1 := oy k hk; exact ⟨by omega, by omega, by omega, by omega, fun h => by have h2 := ox k h; omega⟩, by omega⟩⟩
              · skip
                go_simp
                refine hK.out _ _ ?_ (fun hHeld => ?_)
                · exact bAlloc hHeld.size hHeld
                clear hK K
                (try simp only [put_lit, put_no]); (try dsimp only [List.set_cons_succ, List.set_cons_zero])
                have hC : Below v2.heap.size v2 (v2.alloc (.cells #[.int .i64 0, .int .i32 0, .int .i32 0, .int .i32 0, .int .i32 0, .int .i32 0, .int .i32 0, .int .i32 0, .int .i32 0, .int .i32 0, .int .i32 0, .int .i32 0, .int .i32 0, .int .i32 0, .int .i32 0, .int .i32 0, .int .i32 0, .slice none 0 0, .bool false, .int .i64 0] 29)) := bAlloc (Nat.le_refl _) (Below.refl _ _)
                have y3 := RowAt.alloc_new v2 [.int .i64 0, .int .i32 0, .int .i32 0, .int .i32 0, .int .i32 0, .int .i32 0, .int .i32 0, .int .i32 0, .int .i32 0, .int .i32 0, .int .i32 0, .int .i32 0, .int .i32 0, .int .i32 0, .int .i32 0, .int .i32 0, .int .i32 0, .slice none 0 0, .bool false, .int .i64 0] 29
                have hz3 : v2.heap.size < (v2.alloc (.cells #[.int .i64 0, .int .i32 0, .int .i32 0, .int .i32 0, .int .i32 0, .int .i32 0, .int .i32 0, .int .i32 0, .int .i32 0, .int .i32 0, .int .i32 0, .int .i32 0, .int .i32 0, .int .i32 0, .int .i32 0, .int .i32 0, .int .i32 0, .slice none 0 0, .bool false, .int .i64 0] 29)).heap.size := by simp
                have bdy : v2.heap.size ≤ v2.heap.size := Nat.le_refl _
                generalize v2.alloc (.cells #[.int .i64 0, .int .i32 0, .int .i32 0, .int .i32 0, .int .i32 0, .int .i32 0, .int .i32 0, .int .i32 0, .int .i32 0, .int .i32 0, .int .i32 0, .int .i32 0, .int .i32 0, .int .i32 0, .int .i32 0, .int .i32 0, .int .i32 0, .slice none 0 0, .bool false, .int .i64 0] 29) = v3 at hHeld hC y3 hz3 ⊢
                have x3 := x2.below hC x2.lt
                have mx3 := mx2.below hC (Nat.le_refl _)
                clear hC
                refine wpAnyH_ready (rs := [3]) (by kernel_rfl) (by simp) ?_
                refine AllReadyH.cons (o := { dst := some 85, op := Go.Op.call { callee := Go.Callee.value (Go.Operand.func 12), args := #[Go.Operand.tmp 84], argTypes := #[29] }, type := 29, pos := "law.go:183", after := #[{ on := 2, ground := Go.Ground.data }, { on := 1, ground := Go.Ground.chain }], guard := none }) rfl (fun K hK => ?_) AllReadyH.nil
                go_simp
                refine (copyS z dp z.d.length dcap _ hrz rfl (hrd2.below hHeld (Nat.le_refl _)) hn0 (by omega)).mono ?_
                rintro e v4 ⟨py, cy, rfl, hC, hown⟩
                first | (refine hK.out _ _ ?_ (fun hHeld => ?_)) | (go_wp2_with fail; refine hK.out _ _ ?_ (fun hHeld => ?_))
                · exact hHeld.trans (hC.mono hHeld.size)
                clear hK K
                (try simp only [put_lit, put_no]); (try dsimp only [List.set_cons_succ, List.set_cons_zero])
                have my4 := MemAt.of_owns hown
                have hz4 := hC.size
                have oy : ∀ k, (Value.slice py z.d.length cy).ownBlock = some k → v3.heap.size ≤ k ∧ k < v4.heap.size := fun k hk => ⟨by have := ownBase hown hk; omega, own_lt hown hk⟩
                clear hown
                have x4 := x3.below hC x3.lt
                have y4 := y3.below hC y3.lt
                have mx4 := mx3.below hC (Nat.le_refl _)
                clear hC
                refine wpAnyH_ready (rs := [6]) (by kernel_rfl) (by simp) ?_
                refine AllReadyH.cons (o := { dst := none, op := Go.Op.store 29 (Go.Operand.tmp 17) (Go.Operand.tmp 83), type := 0, pos := "law.go:183", after := #[{ on := 4, ground := Go.Ground.data }, { on := 1, ground := Go.Ground.data }, { on := 3, ground := Go.Ground.chain }, { on := 0, ground := Go.Ground.phase }, { on := 1, ground := Go.Ground.phase }, { on := 2, ground := Go.Ground.phase }, { on := 3, ground := Go.Ground.phase }, { on := 4, ground := Go.Ground.phase }, { on := 5, ground := Go.Ground.phase }], guard := none }) rfl (fun K hK => ?_) AllReadyH.nil
                obtain ⟨tzx, hz⟩ := x4
                have hbx := lt_of_block hz
                have hby := y4.lt
                refine step_store_row rfl 29 (.tmp 17) (.tmp 83) rfl (v1.heap.size) _ rfl rfl tzx _ hz (by rw [List.size_toArray, stCells_len hrz]; exact infoState) (by first | (rw [List.size_toArray, List.size_toArray, stCells_len hrz]; rfl) | (rw [List.size_toArray, stCells_len hrz]; rfl)) (stCells_one z _ _ _) ?_
                refine hK.out _ _ ?_ (fun hHeld => ?_)
                · exact bRow (by have := hHeld.size; omega) hHeld
                clear hK K
                (try simp only [put_lit, put_no]); (try dsimp only [List.set_cons_succ, List.set_cons_zero])
                have x5 : RowAt (v4.setRow (v1.heap.size) (stCells z (.slice px z.d.length cx)).toArray) (v1.heap.size) (stCells z (.slice px z.d.length cx)) := ⟨_, setRow_heap _ _ _ _ _ _ hz⟩
                have hz5 : v4.heap.size ≤ (v4.setRow (v1.heap.size) (stCells z (.slice px z.d.length cx)).toArray).heap.size := by rw [setRow_size]; exact Nat.le_refl _
                have y5 := y4.block (setRow_block v4 (v1.heap.size) (stCells z (.slice px z.d.length cx)).toArray (by omega))
                have mx5 := mx4.block (fun k hk => setRow_block v4 (v1.heap.size) (stCells z (.slice px z.d.length cx)).toArray (by have := ox k hk; omega))
                have my5 := my4.block (fun k hk => setRow_block v4 (v1.heap.size) (stCells z (.slice px z.d.length cx)).toArray (by have := oy k hk; omega))
                clear hz
                generalize v4.setRow (v1.heap.size) (stCells z (.slice px z.d.length cx)).toArray = v5 at hHeld hz5 x5 y5 mx5 my5 ⊢
                refine wpAnyH_ready (rs := [7]) (by kernel_rfl) (by simp) ?_
                refine AllReadyH.cons (o := { dst := none, op := Go.Op.store 29 (Go.Operand.tmp 18) (Go.Operand.tmp 85), type := 0, pos := "law.go:183", after := #[{ on := 5, ground := Go.Ground.data }, { on := 3, ground := Go.Ground.data }, { on := 6, ground := Go.Ground.chain }, { on := 0, ground := Go.Ground.phase }, { on := 1, ground := Go.Ground.phase }, { on := 2, ground := Go.Ground.phase }, { on := 3, ground := Go.Ground.phase }, { on := 4, ground := Go.Ground.phase }, { on := 5, ground := Go.Ground.phase }, { on := 6, ground := Go.Ground.phase }], guard := none }) rfl (fun K hK => ?_) AllReadyH.nil
                obtain ⟨tzy, hz⟩ := y5
                refine step_store_row rfl 29 (.tmp 18) (.tmp 85) rfl (v2.heap.size) _ rfl rfl tzy _ hz (by rw [List.size_toArray, stCells_len hrz]; exact infoState) (by first | (rw [List.size_toArray, List.size_toArray, stCells_len hrz]; rfl) | (rw [List.size_toArray, stCells_len hrz]; rfl)) (stCells_one z _ _ _) ?_
                refine hK.out _ _ ?_ (fun hHeld => ?_)
                · exact bRow (by have := hHeld.size; omega) hHeld
                clear hK K
                (try simp only [put_lit, put_no]); (try dsimp only [List.set_cons_succ, List.set_cons_zero])
                have y6 : RowAt (v5.setRow (v2.heap.size) (stCells z (.slice py z.d.length cy)).toArray) (v2.heap.size) (stCells z (.slice py z.d.length cy)) := ⟨_, setRow_heap _ _ _ _ _ _ hz⟩
                have hz6 : v5.heap.size ≤ (v5.setRow (v2.heap.size) (stCells z (.slice py z.d.length cy)).toArray).heap.size := by rw [setRow_size]; exact Nat.le_refl _
                have x6 := x5.block (setRow_block v5 (v2.heap.size) (stCells z (.slice py z.d.length cy)).toArray (by omega))
                have mx6 := mx5.block (fun k hk => setRow_block v5 (v2.heap.size) (stCells z (.slice py z.d.length cy)).toArray (by have := ox k hk; omega))
                have my6 := my5.block (fun k hk => setRow_block v5 (v2.heap.size) (stCells z (.slice py z.d.length cy)).toArray (by have := oy k hk; omega))
                clear hz
                generalize v5.setRow (v2.heap.size) (stCells z (.slice py z.d.length cy)).toArray = v6 at hHeld hz6 x6 y6 mx6 my6 ⊢
                refine wpAnyH_done (by kernel_rfl) ?_ _
                exact ⟨rfl, v1.heap.size, v2.heap.size, px, cx, py, cy, by first | rfl | (simp only [put6, Act.put, List.setIfInBounds_toArray, List.set_cons_zero, List.set_cons_succ]), ⟨hHeld, ⟨hrz, x6⟩, ⟨hrz, y6⟩, mx6, my6, by omega, by omega, fun k hk => by have h1 := ox k hk; exact ⟨by omega, by omega, by omega, by omega, fun h => by have h2 := oy k h; omega⟩, fun k hk => by have h1 := oy k hk; exact ⟨by omega, by omega, by omega, by omega, fun h => by have h2 := ox k h; omega⟩, by omega⟩⟩
            · skip
              go_simp
              refine hK.out _ _ ?_ (fun hHeld => ?_)
              · exact bAlloc hHeld.size hHeld
              clear hK K
              (try simp only [put_lit, put_no]); (try dsimp only [List.set_cons_succ, List.set_cons_zero])
              have hC : Below v1.heap.size v1 (v1.alloc (.cells #[.int .i64 0, .int .i32 0, .int .i32 0, .int .i32 0, .int .i32 0, .int .i32 0, .int .i32 0, .int .i32 0, .int .i32 0, .int .i32 0, .int .i32 0, .int .i32 0, .int .i32 0, .int .i32 0, .int .i32 0, .int .i32 0, .int .i32 0, .slice none 0 0, .bool false, .int .i64 0] 29)) := bAlloc (Nat.le_refl _) (Below.refl _ _)
              have y2 := RowAt.alloc_new v1 [.int .i64 0, .int .i32 0, .int .i32 0, .int .i32 0, .int .i32 0, .int .i32 0, .int .i32 0, .int .i32 0, .int .i32 0, .int .i32 0, .int .i32 0, .int .i32 0, .int .i32 0, .int .i32 0, .int .i32 0, .int .i32 0, .int .i32 0, .slice none 0 0, .bool false, .int .i64 0] 29
              have hz2 : v1.heap.size < (v1.alloc (.cells #[.int .i64 0, .int .i32 0, .int .i32 0, .int .i32 0, .int .i32 0, .int .i32 0, .int .i32 0, .int .i32 0, .int .i32 0, .int .i32 0, .int .i32 0, .int .i32 0, .int .i32 0, .int .i32 0, .int .i32 0, .int .i32 0, .int .i32 0, .slice none 0 0, .bool false, .int .i64 0] 29)).heap.size := by simp
              have bdy : v1.heap.size ≤ v1.heap.size := Nat.le_refl _
              generalize v1.alloc (.cells #[.int .i64 0, .int .i32 0, .int .i32 0, .int .i32 0, .int .i32 0, .int .i32 0, .int .i32 0, .int .i32 0, .int .i32 0, .int .i32 0, .int .i32 0, .int .i32 0, .int .i32 0, .int .i32 0, .int .i32 0, .int .i32 0, .int .i32 0, .slice none 0 0, .bool false, .int .i64 0] 29) = v2 at hHeld hC y2 hz2 ⊢
              have mx2 := mx1.below hC (Nat.le_refl _)
              clear hC
              refine wpAnyH_ready (rs := [3, 4]) (by kernel_rfl) (by simp) ?_
              refine AllReadyH.cons (o := { dst := some 85, op := Go.Op.call { callee := Go.Callee.value (Go.Operand.func 12), args := #[Go.Operand.tmp 84], argTypes := #[29] }, type := 29, pos := "law.go:183", after := #[{ on := 2, ground := Go.Ground.data }, { on := 1, ground := Go.Ground.chain }], guard := none }) rfl (fun K hK => ?_) (AllReadyH.cons (o := { dst := some 17, op := Go.Op.alloc 29, type := 0, pos := "law.go:183", after := #[], guard := none }) rfl (fun K hK => ?_) AllReadyH.nil)
              · skip
                go_simp
                refine (copyS z dp z.d.length dcap _ hrz rfl (hrd2.below hHeld (Nat.le_refl _)) hn0 (by omega)).mono ?_
                rintro e v3 ⟨py, cy, rfl, hC, hown⟩
                first | (refine hK.out _ _ ?_ (fun hHeld => ?_)) | (go_wp2_with fail; refine hK.out _ _ ?_ (fun hHeld => ?_))
                · exact hHeld.trans (hC.mono hHeld.size)
                clear hK K
                (try simp only [put_lit, put_no]); (try dsimp only [List.set_cons_succ, List.set_cons_zero])
                have my3 := MemAt.of_owns hown
                have hz3 := hC.size
                have oy : ∀ k, (Value.slice py z.d.length cy).ownBlock = some k → v2.heap.size ≤ k ∧ k < v3.heap.size := fun k hk => ⟨by have := ownBase hown hk; omega, own_lt hown hk⟩
                clear hown
                have y3 := y2.below hC y2.lt
                have mx3 := mx2.below hC (Nat.le_refl _)
                clear hC
                refine wpAnyH_ready (rs := [4]) (by kernel_rfl) (by simp) ?_
                refine AllReadyH.cons (o := { dst := some 17, op := Go.Op.alloc 29, type := 0, pos := "law.go:183", after := #[], guard := none }) rfl (fun K hK => ?_) AllReadyH.nil
                go_simp
                refine hK.out _ _ ?_ (fun hHeld => ?_)
                · exact bAlloc hHeld.size hHeld
                clear hK K
                (try simp only [put_lit, put_no]); (try dsimp only [List.set_cons_succ, List.set_cons_zero])
                have hC : Below v3.heap.size v3 (v3.alloc (.cells #[.int .i64 0, .int .i32 0, .int .i32 0, .int .i32 0, .int .i32 0, .int .i32 0, .int .i32 0, .int .i32 0, .int .i32 0, .int .i32 0, .int .i32 0, .int .i32 0, .int .i32 0, .int .i32 0, .int .i32 0, .int .i32 0, .int .i32 0, .slice none 0 0, .bool false, .int .i64 0] 29)) := bAlloc (Nat.le_refl _) (Below.refl _ _)
                have x4 := RowAt.alloc_new v3 [.int .i64 0, .int .i32 0, .int .i32 0, .int .i32 0, .int .i32 0, .int .i32 0, .int .i32 0, .int .i32 0, .int .i32 0, .int .i32 0, .int .i32 0, .int .i32 0, .int .i32 0, .int .i32 0, .int .i32 0, .int .i32 0, .int .i32 0, .slice none 0 0, .bool false, .int .i64 0] 29
                have hz4 : v3.heap.size < (v3.alloc (.cells #[.int .i64 0, .int .i32 0, .int .i32 0, .int .i32 0, .int .i32 0, .int .i32 0, .int .i32 0, .int .i32 0, .int .i32 0, .int .i32 0, .int .i32 0, .int .i32 0, .int .i32 0, .int .i32 0, .int .i32 0, .int .i32 0, .int .i32 0, .slice none 0 0, .bool false, .int .i64 0] 29)).heap.size := by simp
                have bdx : v3.heap.size ≤ v3.heap.size := Nat.le_refl _
                generalize v3.alloc (.cells #[.int .i64 0, .int .i32 0, .int .i32 0, .int .i32 0, .int .i32 0, .int .i32 0, .int .i32 0, .int .i32 0, .int .i32 0, .int .i32 0, .int .i32 0, .int .i32 0, .int .i32 0, .int .i32 0, .int .i32 0, .int .i32 0, .int .i32 0, .slice none 0 0, .bool false, .int .i64 0] 29) = v4 at hHeld hC x4 hz4 ⊢
                have y4 := y3.below hC y3.lt
                have mx4 := mx3.below hC (Nat.le_refl _)
                have my4 := my3.below hC (Nat.le_refl _)
                clear hC
                refine wpAnyH_ready (rs := [6]) (by kernel_rfl) (by simp) ?_
                refine AllReadyH.cons (o := { dst := none, op := Go.Op.store 29 (Go.Operand.tmp 17) (Go.Operand.tmp 83), type := 0, pos := "law.go:183", after := #[{ on := 4, ground := Go.Ground.data }, { on := 1, ground := Go.Ground.data }, { on := 3, ground := Go.Ground.chain }, { on := 0, ground := Go.Ground.phase }, { on := 1, ground := Go.Ground.phase }, { on := 2, ground := Go.Ground.phase }, { on := 3, ground := Go.Ground.phase }, { on := 4, ground := Go.Ground.phase }, { on := 5, ground := Go.Ground.phase }], guard := none }) rfl (fun K hK => ?_) AllReadyH.nil
                obtain ⟨tzx, hz⟩ := x4
                have hbx := lt_of_block hz
                have hby := y4.lt
                refine step_store_row rfl 29 (.tmp 17) (.tmp 83) rfl (v3.heap.size) _ rfl rfl tzx _ hz (by rw [List.size_toArray, stCells_len hrz]; exact infoState) (by first | (rw [List.size_toArray, List.size_toArray, stCells_len hrz]; rfl) | (rw [List.size_toArray, stCells_len hrz]; rfl)) (stCells_one z _ _ _) ?_
                refine hK.out _ _ ?_ (fun hHeld => ?_)
                · exact bRow (by have := hHeld.size; omega) hHeld
                clear hK K
                (try simp only [put_lit, put_no]); (try dsimp only [List.set_cons_succ, List.set_cons_zero])
                have x5 : RowAt (v4.setRow (v3.heap.size) (stCells z (.slice px z.d.length cx)).toArray) (v3.heap.size) (stCells z (.slice px z.d.length cx)) := ⟨_, setRow_heap _ _ _ _ _ _ hz⟩
                have hz5 : v4.heap.size ≤ (v4.setRow (v3.heap.size) (stCells z (.slice px z.d.length cx)).toArray).heap.size := by rw [setRow_size]; exact Nat.le_refl _
                have y5 := y4.block (setRow_block v4 (v3.heap.size) (stCells z (.slice px z.d.length cx)).toArray (by omega))
                have mx5 := mx4.block (fun k hk => setRow_block v4 (v3.heap.size) (stCells z (.slice px z.d.length cx)).toArray (by have := ox k hk; omega))
                have my5 := my4.block (fun k hk => setRow_block v4 (v3.heap.size) (stCells z (.slice px z.d.length cx)).toArray (by have := oy k hk; omega))
                clear hz
                generalize v4.setRow (v3.heap.size) (stCells z (.slice px z.d.length cx)).toArray = v5 at hHeld hz5 y5 x5 mx5 my5 ⊢
                refine wpAnyH_ready (rs := [7]) (by kernel_rfl) (by simp) ?_
                refine AllReadyH.cons (o := { dst := none, op := Go.Op.store 29 (Go.Operand.tmp 18) (Go.Operand.tmp 85), type := 0, pos := "law.go:183", after := #[{ on := 5, ground := Go.Ground.data }, { on := 3, ground := Go.Ground.data }, { on := 6, ground := Go.Ground.chain }, { on := 0, ground := Go.Ground.phase }, { on := 1, ground := Go.Ground.phase }, { on := 2, ground := Go.Ground.phase }, { on := 3, ground := Go.Ground.phase }, { on := 4, ground := Go.Ground.phase }, { on := 5, ground := Go.Ground.phase }, { on := 6, ground := Go.Ground.phase }], guard := none }) rfl (fun K hK => ?_) AllReadyH.nil
                obtain ⟨tzy, hz⟩ := y5
                refine step_store_row rfl 29 (.tmp 18) (.tmp 85) rfl (v1.heap.size) _ rfl rfl tzy _ hz (by rw [List.size_toArray, stCells_len hrz]; exact infoState) (by first | (rw [List.size_toArray, List.size_toArray, stCells_len hrz]; rfl) | (rw [List.size_toArray, stCells_len hrz]; rfl)) (stCells_one z _ _ _) ?_
                refine hK.out _ _ ?_ (fun hHeld => ?_)
                · exact bRow (by have := hHeld.size; omega) hHeld
                clear hK K
                (try simp only [put_lit, put_no]); (try dsimp only [List.set_cons_succ, List.set_cons_zero])
                have y6 : RowAt (v5.setRow (v1.heap.size) (stCells z (.slice py z.d.length cy)).toArray) (v1.heap.size) (stCells z (.slice py z.d.length cy)) := ⟨_, setRow_heap _ _ _ _ _ _ hz⟩
                have hz6 : v5.heap.size ≤ (v5.setRow (v1.heap.size) (stCells z (.slice py z.d.length cy)).toArray).heap.size := by rw [setRow_size]; exact Nat.le_refl _
                have x6 := x5.block (setRow_block v5 (v1.heap.size) (stCells z (.slice py z.d.length cy)).toArray (by omega))
                have mx6 := mx5.block (fun k hk => setRow_block v5 (v1.heap.size) (stCells z (.slice py z.d.length cy)).toArray (by have := ox k hk; omega))
                have my6 := my5.block (fun k hk => setRow_block v5 (v1.heap.size) (stCells z (.slice py z.d.length cy)).toArray (by have := oy k hk; omega))
                clear hz
                generalize v5.setRow (v1.heap.size) (stCells z (.slice py z.d.length cy)).toArray = v6 at hHeld hz6 y6 x6 mx6 my6 ⊢
                refine wpAnyH_done (by kernel_rfl) ?_ _
                exact ⟨rfl, v3.heap.size, v1.heap.size, px, cx, py, cy, by first | rfl | (simp only [put6, Act.put, List.setIfInBounds_toArray, List.set_cons_zero, List.set_cons_succ]), ⟨hHeld, ⟨hrz, x6⟩, ⟨hrz, y6⟩, mx6, my6, by omega, by omega, fun k hk => by have h1 := ox k hk; exact ⟨by omega, by omega, by omega, by omega, fun h => by have h2 := oy k h; omega⟩, fun k hk => by have h1 := oy k hk; exact ⟨by omega, by omega, by omega, by omega, fun h => by have h2 := ox k h; omega⟩, by omega⟩⟩
              · skip
                go_simp
                refine hK.out _ _ ?_ (fun hHeld => ?_)
                · exact bAlloc hHeld.size hHeld
                clear hK K
                (try simp only [put_lit, put_no]); (try dsimp only [List.set_cons_succ, List.set_cons_zero])
                have hC : Below v2.heap.size v2 (v2.alloc (.cells #[.int .i64 0, .int .i32 0, .int .i32 0, .int .i32 0, .int .i32 0, .int .i32 0, .int .i32 0, .int .i32 0, .int .i32 0, .int .i32 0, .int .i32 0, .int .i32 0, .int .i32 0, .int .i32 0, .int .i32 0, .int .i32 0, .int .i32 0, .slice none 0 0, .bool false, .int .i64 0] 29)) := bAlloc (Nat.le_refl _) (Below.refl _ _)
                have x3 := RowAt.alloc_new v2 [.int .i64 0, .int .i32 0, .int .i32 0, .int .i32 0, .int .i32 0, .int .i32 0, .int .i32 0, .int .i32 0, .int .i32 0, .int .i32 0, .int .i32 0, .int .i32 0, .int .i32 0, .int .i32 0, .int .i32 0, .int .i32 0, .int .i32 0, .slice none 0 0, .bool false, .int .i64 0] 29
                have hz3 : v2.heap.size < (v2.alloc (.cells #[.int .i64 0, .int .i32 0, .int .i32 0, .int .i32 0, .int .i32 0, .int .i32 0, .int .i32 0, .int .i32 0, .int .i32 0, .int .i32 0, .int .i32 0, .int .i32 0, .int .i32 0, .int .i32 0, .int .i32 0, .int .i32 0, .int .i32 0, .slice none 0 0, .bool false, .int .i64 0] 29)).heap.size := by simp
                have bdx : v2.heap.size ≤ v2.heap.size := Nat.le_refl _
                generalize v2.alloc (.cells #[.int .i64 0, .int .i32 0, .int .i32 0, .int .i32 0, .int .i32 0, .int .i32 0, .int .i32 0, .int .i32 0, .int .i32 0, .int .i32 0, .int .i32 0, .int .i32 0, .int .i32 0, .int .i32 0, .int .i32 0, .int .i32 0, .int .i32 0, .slice none 0 0, .bool false, .int .i64 0] 29) = v3 at hHeld hC x3 hz3 ⊢
                have y3 := y2.below hC y2.lt
                have mx3 := mx2.below hC (Nat.le_refl _)
                clear hC
                refine wpAnyH_ready (rs := [3]) (by kernel_rfl) (by simp) ?_
                refine AllReadyH.cons (o := { dst := some 85, op := Go.Op.call { callee := Go.Callee.value (Go.Operand.func 12), args := #[Go.Operand.tmp 84], argTypes := #[29] }, type := 29, pos := "law.go:183", after := #[{ on := 2, ground := Go.Ground.data }, { on := 1, ground := Go.Ground.chain }], guard := none }) rfl (fun K hK => ?_) AllReadyH.nil
                go_simp
                refine (copyS z dp z.d.length dcap _ hrz rfl (hrd2.below hHeld (Nat.le_refl _)) hn0 (by omega)).mono ?_
                rintro e v4 ⟨py, cy, rfl, hC, hown⟩
                first | (refine hK.out _ _ ?_ (fun hHeld => ?_)) | (go_wp2_with fail; refine hK.out _ _ ?_ (fun hHeld => ?_))
                · exact hHeld.trans (hC.mono hHeld.size)
                clear hK K
                (try simp only [put_lit, put_no]); (try dsimp only [List.set_cons_succ, List.set_cons_zero])
                have my4 := MemAt.of_owns hown
                have hz4 := hC.size
                have oy : ∀ k, (Value.slice py z.d.length cy).ownBlock = some k → v3.heap.size ≤ k ∧ k < v4.heap.size := fun k hk => ⟨by have := ownBase hown hk; omega, own_lt hown hk⟩
                clear hown
                have y4 := y3.below hC y3.lt
                have x4 := x3.below hC x3.lt
                have mx4 := mx3.below hC (Nat.le_refl _)
                clear hC
                refine wpAnyH_ready (rs := [6]) (by kernel_rfl) (by simp) ?_
                refine AllReadyH.cons (o := { dst := none, op := Go.Op.store 29 (Go.Operand.tmp 17) (Go.Operand.tmp 83), type := 0, pos := "law.go:183", after := #[{ on := 4, ground := Go.Ground.data }, { on := 1, ground := Go.Ground.data }, { on := 3, ground := Go.Ground.chain }, { on := 0, ground := Go.Ground.phase }, { on := 1, ground := Go.Ground.phase }, { on := 2, ground := Go.Ground.phase }, { on := 3, ground := Go.Ground.phase }, { on := 4, ground := Go.Ground.phase }, { on := 5, ground := Go.Ground.phase }], guard := none }) rfl (fun K hK => ?_) AllReadyH.nil
                obtain ⟨tzx, hz⟩ := x4
                have hbx := lt_of_block hz
                have hby := y4.lt
                refine step_store_row rfl 29 (.tmp 17) (.tmp 83) rfl (v2.heap.size) _ rfl rfl tzx _ hz (by rw [List.size_toArray, stCells_len hrz]; exact infoState) (by first | (rw [List.size_toArray, List.size_toArray, stCells_len hrz]; rfl) | (rw [List.size_toArray, stCells_len hrz]; rfl)) (stCells_one z _ _ _) ?_
                refine hK.out _ _ ?_ (fun hHeld => ?_)
                · exact bRow (by have := hHeld.size; omega) hHeld
                clear hK K
                (try simp only [put_lit, put_no]); (try dsimp only [List.set_cons_succ, List.set_cons_zero])
                have x5 : RowAt (v4.setRow (v2.heap.size) (stCells z (.slice px z.d.length cx)).toArray) (v2.heap.size) (stCells z (.slice px z.d.length cx)) := ⟨_, setRow_heap _ _ _ _ _ _ hz⟩
                have hz5 : v4.heap.size ≤ (v4.setRow (v2.heap.size) (stCells z (.slice px z.d.length cx)).toArray).heap.size := by rw [setRow_size]; exact Nat.le_refl _
                have y5 := y4.block (setRow_block v4 (v2.heap.size) (stCells z (.slice px z.d.length cx)).toArray (by omega))
                have mx5 := mx4.block (fun k hk => setRow_block v4 (v2.heap.size) (stCells z (.slice px z.d.length cx)).toArray (by have := ox k hk; omega))
                have my5 := my4.block (fun k hk => setRow_block v4 (v2.heap.size) (stCells z (.slice px z.d.length cx)).toArray (by have := oy k hk; omega))
                clear hz
                generalize v4.setRow (v2.heap.size) (stCells z (.slice px z.d.length cx)).toArray = v5 at hHeld hz5 y5 x5 mx5 my5 ⊢
                refine wpAnyH_ready (rs := [7]) (by kernel_rfl) (by simp) ?_
                refine AllReadyH.cons (o := { dst := none, op := Go.Op.store 29 (Go.Operand.tmp 18) (Go.Operand.tmp 85), type := 0, pos := "law.go:183", after := #[{ on := 5, ground := Go.Ground.data }, { on := 3, ground := Go.Ground.data }, { on := 6, ground := Go.Ground.chain }, { on := 0, ground := Go.Ground.phase }, { on := 1, ground := Go.Ground.phase }, { on := 2, ground := Go.Ground.phase }, { on := 3, ground := Go.Ground.phase }, { on := 4, ground := Go.Ground.phase }, { on := 5, ground := Go.Ground.phase }, { on := 6, ground := Go.Ground.phase }], guard := none }) rfl (fun K hK => ?_) AllReadyH.nil
                obtain ⟨tzy, hz⟩ := y5
                refine step_store_row rfl 29 (.tmp 18) (.tmp 85) rfl (v1.heap.size) _ rfl rfl tzy _ hz (by rw [List.size_toArray, stCells_len hrz]; exact infoState) (by first | (rw [List.size_toArray, List.size_toArray, stCells_len hrz]; rfl) | (rw [List.size_toArray, stCells_len hrz]; rfl)) (stCells_one z _ _ _) ?_
                refine hK.out _ _ ?_ (fun hHeld => ?_)
                · exact bRow (by have := hHeld.size; omega) hHeld
                clear hK K
                (try simp only [put_lit, put_no]); (try dsimp only [List.set_cons_succ, List.set_cons_zero])
                have y6 : RowAt (v5.setRow (v1.heap.size) (stCells z (.slice py z.d.length cy)).toArray) (v1.heap.size) (stCells z (.slice py z.d.length cy)) := ⟨_, setRow_heap _ _ _ _ _ _ hz⟩
                have hz6 : v5.heap.size ≤ (v5.setRow (v1.heap.size) (stCells z (.slice py z.d.length cy)).toArray).heap.size := by rw [setRow_size]; exact Nat.le_refl _
                have x6 := x5.block (setRow_block v5 (v1.heap.size) (stCells z (.slice py z.d.length cy)).toArray (by omega))
                have mx6 := mx5.block (fun k hk => setRow_block v5 (v1.heap.size) (stCells z (.slice py z.d.length cy)).toArray (by have := ox k hk; omega))
                have my6 := my5.block (fun k hk => setRow_block v5 (v1.heap.size) (stCells z (.slice py z.d.length cy)).toArray (by have := oy k hk; omega))
                clear hz
                generalize v5.setRow (v1.heap.size) (stCells z (.slice py z.d.length cy)).toArray = v6 at hHeld hz6 y6 x6 mx6 my6 ⊢
                refine wpAnyH_done (by kernel_rfl) ?_ _
                exact ⟨rfl, v2.heap.size, v1.heap.size, px, cx, py, cy, by first | rfl | (simp only [put6, Act.put, List.setIfInBounds_toArray, List.set_cons_zero, List.set_cons_succ]), ⟨hHeld, ⟨hrz, x6⟩, ⟨hrz, y6⟩, mx6, my6, by omega, by omega, fun k hk => by have h1 := ox k hk; exact ⟨by omega, by omega, by omega, by omega, fun h => by have h2 := oy k h; omega⟩, fun k hk => by have h1 := oy k hk; exact ⟨by omega, by omega, by omega, by omega, fun h => by have h2 := ox k h; omega⟩, by omega⟩⟩
          · skip
            go_simp
            refine hK.out _ _ ?_ (fun hHeld => ?_)
            · exact bAlloc hHeld.size hHeld
            clear hK K
            (try simp only [put_lit, put_no]); (try dsimp only [List.set_cons_succ, List.set_cons_zero])
            have hC : Below v0.heap.size v0 (v0.alloc (.cells #[.int .i64 0, .int .i32 0, .int .i32 0, .int .i32 0, .int .i32 0, .int .i32 0, .int .i32 0, .int .i32 0, .int .i32 0, .int .i32 0, .int .i32 0, .int .i32 0, .int .i32 0, .int .i32 0, .int .i32 0, .int .i32 0, .int .i32 0, .slice none 0 0, .bool false, .int .i64 0] 29)) := bAlloc (Nat.le_refl _) (Below.refl _ _)
            have x1 := RowAt.alloc_new v0 [.int .i64 0, .int .i32 0, .int .i32 0, .int .i32 0, .int .i32 0, .int .i32 0, .int .i32 0, .int .i32 0, .int .i32 0, .int .i32 0, .int .i32 0, .int .i32 0, .int .i32 0, .int .i32 0, .int .i32 0, .int .i32 0, .int .i32 0, .slice none 0 0, .bool false, .int .i64 0] 29
            have hz1 : v0.heap.size < (v0.alloc (.cells #[.int .i64 0, .int .i32 0, .int .i32 0, .int .i32 0, .int .i32 0, .int .i32 0, .int .i32 0, .int .i32 0, .int .i32 0, .int .i32 0, .int .i32 0, .int .i32 0, .int .i32 0, .int .i32 0, .int .i32 0, .int .i32 0, .int .i32 0, .slice none 0 0, .bool false, .int .i64 0] 29)).heap.size := by simp
            have bdx : v0.heap.size ≤ v0.heap.size := Nat.le_refl _
            generalize v0.alloc (.cells #[.int .i64 0, .int .i32 0, .int .i32 0, .int .i32 0, .int .i32 0, .int .i32 0, .int .i32 0, .int .i32 0, .int .i32 0, .int .i32 0, .int .i32 0, .int .i32 0, .int .i32 0, .int .i32 0, .int .i32 0, .int .i32 0, .int .i32 0, .slice none 0 0, .bool false, .int .i64 0] 29) = v1 at hHeld hC x1 hz1 ⊢
            clear hC
            refine wpAnyH_ready (rs := [1, 5]) (by kernel_rfl) (by simp) ?_
            refine AllReadyH.cons (o := { dst := some 83, op := Go.Op.call { callee := Go.Callee.value (Go.Operand.func 12), args := #[Go.Operand.tmp 82], argTypes := #[29] }, type := 29, pos := "law.go:183", after := #[{ on := 0, ground := Go.Ground.data }], guard := none }) rfl (fun K hK => ?_) (AllReadyH.cons (o := { dst := some 18, op := Go.Op.alloc 29, type := 0, pos := "law.go:183", after := #[], guard := none }) rfl (fun K hK => ?_) AllReadyH.nil)
            · skip
              go_simp
              refine (copyS z dp z.d.length dcap _ hrz rfl (hrd2.below hHeld (Nat.le_refl _)) hn0 (by omega)).mono ?_
              rintro e v2 ⟨px, cx, rfl, hC, hown⟩
              first | (refine hK.out _ _ ?_ (fun hHeld => ?_)) | (go_wp2_with fail; refine hK.out _ _ ?_ (fun hHeld => ?_))
              · exact hHeld.trans (hC.mono hHeld.size)
              clear hK K
              (try simp only [put_lit, put_no]); (try dsimp only [List.set_cons_succ, List.set_cons_zero])
              have mx2 := MemAt.of_owns hown
              have hz2 := hC.size
              have ox : ∀ k, (Value.slice px z.d.length cx).ownBlock = some k → v1.heap.size ≤ k ∧ k < v2.heap.size := fun k hk => ⟨by have := ownBase hown hk; omega, own_lt hown hk⟩
              clear hown
              have x2 := x1.below hC x1.lt
              clear hC
              refine wpAnyH_ready (rs := [3, 5]) (by kernel_rfl) (by simp) ?_
              refine AllReadyH.cons (o := { dst := some 85, op := Go.Op.call { callee := Go.Callee.value (Go.Operand.func 12), args := #[Go.Operand.tmp 84], argTypes := #[29] }, type := 29, pos := "law.go:183", after := #[{ on := 2, ground := Go.Ground.data }, { on := 1, ground := Go.Ground.chain }], guard := none }) rfl (fun K hK => ?_) (AllReadyH.cons (o := { dst := some 18, op := Go.Op.alloc 29, type := 0, pos := "law.go:183", after := #[], guard := none }) rfl (fun K hK => ?_) AllReadyH.nil)
              · skip
                go_simp
                refine (copyS z dp z.d.length dcap _ hrz rfl (hrd2.below hHeld (Nat.le_refl _)) hn0 (by omega)).mono ?_
                rintro e v3 ⟨py, cy, rfl, hC, hown⟩
                first | (refine hK.out _ _ ?_ (fun hHeld => ?_)) | (go_wp2_with fail; refine hK.out _ _ ?_ (fun hHeld => ?_))
                · exact hHeld.trans (hC.mono hHeld.size)
                clear hK K
                (try simp only [put_lit, put_no]); (try dsimp only [List.set_cons_succ, List.set_cons_zero])
                have my3 := MemAt.of_owns hown
                have hz3 := hC.size
                have oy : ∀ k, (Value.slice py z.d.length cy).ownBlock = some k → v2.heap.size ≤ k ∧ k < v3.heap.size := fun k hk => ⟨by have := ownBase hown hk; omega, own_lt hown hk⟩
                clear hown
                have x3 := x2.below hC x2.lt
                have mx3 := mx2.below hC (Nat.le_refl _)
                clear hC
                refine wpAnyH_ready (rs := [5]) (by kernel_rfl) (by simp) ?_
                refine AllReadyH.cons (o := { dst := some 18, op := Go.Op.alloc 29, type := 0, pos := "law.go:183", after := #[], guard := none }) rfl (fun K hK => ?_) AllReadyH.nil
                go_simp
                refine hK.out _ _ ?_ (fun hHeld => ?_)
                · exact bAlloc hHeld.size hHeld
                clear hK K
                (try simp only [put_lit, put_no]); (try dsimp only [List.set_cons_succ, List.set_cons_zero])
                have hC : Below v3.heap.size v3 (v3.alloc (.cells #[.int .i64 0, .int .i32 0, .int .i32 0, .int .i32 0, .int .i32 0, .int .i32 0, .int .i32 0, .int .i32 0, .int .i32 0, .int .i32 0, .int .i32 0, .int .i32 0, .int .i32 0, .int .i32 0, .int .i32 0, .int .i32 0, .int .i32 0, .slice none 0 0, .bool false, .int .i64 0] 29)) := bAlloc (Nat.le_refl _) (Below.refl _ _)
                have y4 := RowAt.alloc_new v3 [.int .i64 0, .int .i32 0, .int .i32 0, .int .i32 0, .int .i32 0, .int .i32 0, .int .i32 0, .int .i32 0, .int .i32 0, .int .i32 0, .int .i32 0, .int .i32 0, .int .i32 0, .int .i32 0, .int .i32 0, .int .i32 0, .int .i32 0, .slice none 0 0, .bool false, .int .i64 0] 29
                have hz4 : v3.heap.size < (v3.alloc (.cells #[.int .i64 0, .int .i32 0, .int .i32 0, .int .i32 0, .int .i32 0, .int .i32 0, .int .i32 0, .int .i32 0, .int .i32 0, .int .i32 0, .int .i32 0, .int .i32 0, .int .i32 0, .int .i32 0, .int .i32 0, .int .i32 0, .int .i32 0, .slice none 0 0, .bool false, .int .i64 0] 29)).heap.size := by simp
                have bdy : v3.heap.size ≤ v3.heap.size := Nat.le_refl _
                generalize v3.alloc (.cells #[.int .i64 0, .int .i32 0, .int .i32 0, .int .i32 0, .int .i32 0, .int .i32 0, .int .i32 0, .int .i32 0, .int .i32 0, .int .i32 0, .int .i32 0, .int .i32 0, .int .i32 0, .int .i32 0, .int .i32 0, .int .i32 0, .int .i32 0, .slice none 0 0, .bool false, .int .i64 0] 29) = v4 at hHeld hC y4 hz4 ⊢
                have x4 := x3.below hC x3.lt
                have mx4 := mx3.below hC (Nat.le_refl _)
                have my4 := my3.below hC (Nat.le_refl _)
                clear hC
                refine wpAnyH_ready (rs := [6]) (by kernel_rfl) (by simp) ?_
                refine AllReadyH.cons (o := { dst := none, op := Go.Op.store 29 (Go.Operand.tmp 17) (Go.Operand.tmp 83), type := 0, pos := "law.go:183", after := #[{ on := 4, ground := Go.Ground.data }, { on := 1, ground := Go.Ground.data }, { on := 3, ground := Go.Ground.chain }, { on := 0, ground := Go.Ground.phase }, { on := 1, ground := Go.Ground.phase }, { on := 2, ground := Go.Ground.phase }, { on := 3, ground := Go.Ground.phase }, { on := 4, ground := Go.Ground.phase }, { on := 5, ground := Go.Ground.phase }], guard := none }) rfl (fun K hK => ?_) AllReadyH.nil
                obtain ⟨tzx, hz⟩ := x4
                have hbx := lt_of_block hz
                have hby := y4.lt
                refine step_store_row rfl 29 (.tmp 17) (.tmp 83) rfl (v0.heap.size) _ rfl rfl tzx _ hz (by rw [List.size_toArray, stCells_len hrz]; exact infoState) (by first | (rw [List.size_toArray, List.size_toArray, stCells_len hrz]; rfl) | (rw [List.size_toArray, stCells_len hrz]; rfl)) (stCells_one z _ _ _) ?_
                refine hK.out _ _ ?_ (fun hHeld => ?_)
                · exact bRow (by have := hHeld.size; omega) hHeld
                clear hK K
                (try simp only [put_lit, put_no]); (try dsimp only [List.set_cons_succ, List.set_cons_zero])
                have x5 : RowAt (v4.setRow (v0.heap.size) (stCells z (.slice px z.d.length cx)).toArray) (v0.heap.size) (stCells z (.slice px z.d.length cx)) := ⟨_, setRow_heap _ _ _ _ _ _ hz⟩
                have hz5 : v4.heap.size ≤ (v4.setRow (v0.heap.size) (stCells z (.slice px z.d.length cx)).toArray).heap.size := by rw [setRow_size]; exact Nat.le_refl _
                have y5 := y4.block (setRow_block v4 (v0.heap.size) (stCells z (.slice px z.d.length cx)).toArray (by omega))
                have mx5 := mx4.block (fun k hk => setRow_block v4 (v0.heap.size) (stCells z (.slice px z.d.length cx)).toArray (by have := ox k hk; omega))
                have my5 := my4.block (fun k hk => setRow_block v4 (v0.heap.size) (stCells z (.slice px z.d.length cx)).toArray (by have := oy k hk; omega))
                clear hz
                generalize v4.setRow (v0.heap.size) (stCells z (.slice px z.d.length cx)).toArray = v5 at hHeld hz5 x5 y5 mx5 my5 ⊢
                refine wpAnyH_ready (rs := [7]) (by kernel_rfl) (by simp) ?_
                refine AllReadyH.cons (o := { dst := none, op := Go.Op.store 29 (Go.Operand.tmp 18) (Go.Operand.tmp 85), type := 0, pos := "law.go:183", after := #[{ on := 5, ground := Go.Ground.data }, { on := 3, ground := Go.Ground.data }, { on := 6, ground := Go.Ground.chain }, { on := 0, ground := Go.Ground.phase }, { on := 1, ground := Go.Ground.phase }, { on := 2, ground := Go.Ground.phase }, { on := 3, ground := Go.Ground.phase }, { on := 4, ground := Go.Ground.phase }, { on := 5, ground := Go.Ground.phase }, { on := 6, ground := Go.Ground.phase }], guard := none }) rfl (fun K hK => ?_) AllReadyH.nil
                obtain ⟨tzy, hz⟩ := y5
                refine step_store_row rfl 29 (.tmp 18) (.tmp 85) rfl (v3.heap.size) _ rfl rfl tzy _ hz (by rw [List.size_toArray, stCells_len hrz]; exact infoState) (by first | (rw [List.size_toArray, List.size_toArray, stCells_len hrz]; rfl) | (rw [List.size_toArray, stCells_len hrz]; rfl)) (stCells_one z _ _ _) ?_
                refine hK.out _ _ ?_ (fun hHeld => ?_)
                · exact bRow (by have := hHeld.size; omega) hHeld
                clear hK K
                (try simp only [put_lit, put_no]); (try dsimp only [List.set_cons_succ, List.set_cons_zero])
                have y6 : RowAt (v5.setRow (v3.heap.size) (stCells z (.slice py z.d.length cy)).toArray) (v3.heap.size) (stCells z (.slice py z.d.length cy)) := ⟨_, setRow_heap _ _ _ _ _ _ hz⟩
                have hz6 : v5.heap.size ≤ (v5.setRow (v3.heap.size) (stCells z (.slice py z.d.length cy)).toArray).heap.size := by rw [setRow_size]; exact Nat.le_refl _
                have x6 := x5.block (setRow_block v5 (v3.heap.size) (stCells z (.slice py z.d.length cy)).toArray (by omega))
                have mx6 := mx5.block (fun k hk => setRow_block v5 (v3.heap.size) (stCells z (.slice py z.d.length cy)).toArray (by have := ox k hk; omega))
                have my6 := my5.block (fun k hk => setRow_block v5 (v3.heap.size) (stCells z (.slice py z.d.length cy)).toArray (by have := oy k hk; omega))
                clear hz
                generalize v5.setRow (v3.heap.size) (stCells z (.slice py z.d.length cy)).toArray = v6 at hHeld hz6 x6 y6 mx6 my6 ⊢
                refine wpAnyH_done (by kernel_rfl) ?_ _
                exact ⟨rfl, v0.heap.size, v3.heap.size, px, cx, py, cy, by first | rfl | (simp only [put6, Act.put, List.setIfInBounds_toArray, List.set_cons_zero, List.set_cons_succ]), ⟨hHeld, ⟨hrz, x6⟩, ⟨hrz, y6⟩, mx6, my6, by omega, by omega, fun k hk => by have h1 := ox k hk; exact ⟨by omega, by omega, by omega, by omega, fun h => by have h2 := oy k h; omega⟩, fun k hk => by have h1 := oy k hk; exact ⟨by omega, by omega, by omega, by omega, fun h => by have h2 := ox k h; omega⟩, by omega⟩⟩
              · skip
                go_simp
                refine hK.out _ _ ?_ (fun hHeld => ?_)
                · exact bAlloc hHeld.size hHeld
                clear hK K
                (try simp only [put_lit, put_no]); (try dsimp only [List.set_cons_succ, List.set_cons_zero])
                have hC : Below v2.heap.size v2 (v2.alloc (.cells #[.int .i64 0, .int .i32 0, .int .i32 0, .int .i32 0, .int .i32 0, .int .i32 0, .int .i32 0, .int .i32 0, .int .i32 0, .int .i32 0, .int .i32 0, .int .i32 0, .int .i32 0, .int .i32 0, .int .i32 0, .int .i32 0, .int .i32 0, .slice none 0 0, .bool false, .int .i64 0] 29)) := bAlloc (Nat.le_refl _) (Below.refl _ _)
                have y3 := RowAt.alloc_new v2 [.int .i64 0, .int .i32 0, .int .i32 0, .int .i32 0, .int .i32 0, .int .i32 0, .int .i32 0, .int .i32 0, .int .i32 0, .int .i32 0, .int .i32 0, .int .i32 0, .int .i32 0, .int .i32 0, .int .i32 0, .int .i32 0, .int .i32 0, .slice none 0 0, .bool false, .int .i64 0] 29
                have hz3 : v2.heap.size < (v2.alloc (.cells #[.int .i64 0, .int .i32 0, .int .i32 0, .int .i32 0, .int .i32 0, .int .i32 0, .int .i32 0, .int .i32 0, .int .i32 0, .int .i32 0, .int .i32 0, .int .i32 0, .int .i32 0, .int .i32 0, .int .i32 0, .int .i32 0, .int .i32 0, .slice none 0 0, .bool false, .int .i64 0] 29)).heap.size := by simp
                have bdy : v2.heap.size ≤ v2.heap.size := Nat.le_refl _
                generalize v2.alloc (.cells #[.int .i64 0, .int .i32 0, .int .i32 0, .int .i32 0, .int .i32 0, .int .i32 0, .int .i32 0, .int .i32 0, .int .i32 0, .int .i32 0, .int .i32 0, .int .i32 0, .int .i32 0, .int .i32 0, .int .i32 0, .int .i32 0, .int .i32 0, .slice none 0 0, .bool false, .int .i64 0] 29) = v3 at hHeld hC y3 hz3 ⊢
                have x3 := x2.below hC x2.lt
                have mx3 := mx2.below hC (Nat.le_refl _)
                clear hC
                refine wpAnyH_ready (rs := [3]) (by kernel_rfl) (by simp) ?_
                refine AllReadyH.cons (o := { dst := some 85, op := Go.Op.call { callee := Go.Callee.value (Go.Operand.func 12), args := #[Go.Operand.tmp 84], argTypes := #[29] }, type := 29, pos := "law.go:183", after := #[{ on := 2, ground := Go.Ground.data }, { on := 1, ground := Go.Ground.chain }], guard := none }) rfl (fun K hK => ?_) AllReadyH.nil
                go_simp
                refine (copyS z dp z.d.length dcap _ hrz rfl (hrd2.below hHeld (Nat.le_refl _)) hn0 (by omega)).mono ?_
                rintro e v4 ⟨py, cy, rfl, hC, hown⟩
                first | (refine hK.out _ _ ?_ (fun hHeld => ?_)) | (go_wp2_with fail; refine hK.out _ _ ?_ (fun hHeld => ?_))
                · exact hHeld.trans (hC.mono hHeld.size)
                clear hK K
                (try simp only [put_lit, put_no]); (try dsimp only [List.set_cons_succ, List.set_cons_zero])
                have my4 := MemAt.of_owns hown
                have hz4 := hC.size
                have oy : ∀ k, (Value.slice py z.d.length cy).ownBlock = some k → v3.heap.size ≤ k ∧ k < v4.heap.size := fun k hk => ⟨by have := ownBase hown hk; omega, own_lt hown hk⟩
                clear hown
                have x4 := x3.below hC x3.lt
                have y4 := y3.below hC y3.lt
                have mx4 := mx3.below hC (Nat.le_refl _)
                clear hC
                refine wpAnyH_ready (rs := [6]) (by kernel_rfl) (by simp) ?_
                refine AllReadyH.cons (o := { dst := none, op := Go.Op.store 29 (Go.Operand.tmp 17) (Go.Operand.tmp 83), type := 0, pos := "law.go:183", after := #[{ on := 4, ground := Go.Ground.data }, { on := 1, ground := Go.Ground.data }, { on := 3, ground := Go.Ground.chain }, { on := 0, ground := Go.Ground.phase }, { on := 1, ground := Go.Ground.phase }, { on := 2, ground := Go.Ground.phase }, { on := 3, ground := Go.Ground.phase }, { on := 4, ground := Go.Ground.phase }, { on := 5, ground := Go.Ground.phase }], guard := none }) rfl (fun K hK => ?_) AllReadyH.nil
                obtain ⟨tzx, hz⟩ := x4
                have hbx := lt_of_block hz
                have hby := y4.lt
                refine step_store_row rfl 29 (.tmp 17) (.tmp 83) rfl (v0.heap.size) _ rfl rfl tzx _ hz (by rw [List.size_toArray, stCells_len hrz]; exact infoState) (by first | (rw [List.size_toArray, List.size_toArray, stCells_len hrz]; rfl) | (rw [List.size_toArray, stCells_len hrz]; rfl)) (stCells_one z _ _ _) ?_
                refine hK.out _ _ ?_ (fun hHeld => ?_)
                · exact bRow (by have := hHeld.size; omega) hHeld
                clear hK K
                (try simp only [put_lit, put_no]); (try dsimp only [List.set_cons_succ, List.set_cons_zero])
                have x5 : RowAt (v4.setRow (v0.heap.size) (stCells z (.slice px z.d.length cx)).toArray) (v0.heap.size) (stCells z (.slice px z.d.length cx)) := ⟨_, setRow_heap _ _ _ _ _ _ hz⟩
                have hz5 : v4.heap.size ≤ (v4.setRow (v0.heap.size) (stCells z (.slice px z.d.length cx)).toArray).heap.size := by rw [setRow_size]; exact Nat.le_refl _
                have y5 := y4.block (setRow_block v4 (v0.heap.size) (stCells z (.slice px z.d.length cx)).toArray (by omega))
                have mx5 := mx4.block (fun k hk => setRow_block v4 (v0.heap.size) (stCells z (.slice px z.d.length cx)).toArray (by have := ox k hk; omega))
                have my5 := my4.block (fun k hk => setRow_block v4 (v0.heap.size) (stCells z (.slice px z.d.length cx)).toArray (by have := oy k hk; omega))
                clear hz
                generalize v4.setRow (v0.heap.size) (stCells z (.slice px z.d.length cx)).toArray = v5 at hHeld hz5 x5 y5 mx5 my5 ⊢
                refine wpAnyH_ready (rs := [7]) (by kernel_rfl) (by simp) ?_
                refine AllReadyH.cons (o := { dst := none, op := Go.Op.store 29 (Go.Operand.tmp 18) (Go.Operand.tmp 85), type := 0, pos := "law.go:183", after := #[{ on := 5, ground := Go.Ground.data }, { on := 3, ground := Go.Ground.data }, { on := 6, ground := Go.Ground.chain }, { on := 0, ground := Go.Ground.phase }, { on := 1, ground := Go.Ground.phase }, { on := 2, ground := Go.Ground.phase }, { on := 3, ground := Go.Ground.phase }, { on := 4, ground := Go.Ground.phase }, { on := 5, ground := Go.Ground.phase }, { on := 6, ground := Go.Ground.phase }], guard := none }) rfl (fun K hK => ?_) AllReadyH.nil
                obtain ⟨tzy, hz⟩ := y5
                refine step_store_row rfl 29 (.tmp 18) (.tmp 85) rfl (v2.heap.size) _ rfl rfl tzy _ hz (by rw [List.size_toArray, stCells_len hrz]; exact infoState) (by first | (rw [List.size_toArray, List.size_toArray, stCells_len hrz]; rfl) | (rw [List.size_toArray, stCells_len hrz]; rfl)) (stCells_one z _ _ _) ?_
                refine hK.out _ _ ?_ (fun hHeld => ?_)
                · exact bRow (by have := hHeld.size; omega) hHeld
                clear hK K
                (try simp only [put_lit, put_no]); (try dsimp only [List.set_cons_succ, List.set_cons_zero])
                have y6 : RowAt (v5.setRow (v2.heap.size) (stCells z (.slice py z.d.length cy)).toArray) (v2.heap.size) (stCells z (.slice py z.d.length cy)) := ⟨_, setRow_heap _ _ _ _ _ _ hz⟩
                have hz6 : v5.heap.size ≤ (v5.setRow (v2.heap.size) (stCells z (.slice py z.d.length cy)).toArray).heap.size := by rw [setRow_size]; exact Nat.le_refl _
                have x6 := x5.block (setRow_block v5 (v2.heap.size) (stCells z (.slice py z.d.length cy)).toArray (by omega))
                have mx6 := mx5.block (fun k hk => setRow_block v5 (v2.heap.size) (stCells z (.slice py z.d.length cy)).toArray (by have := ox k hk; omega))
                have my6 := my5.block (fun k hk => setRow_block v5 (v2.heap.size) (stCells z (.slice py z.d.length cy)).toArray (by have := oy k hk; omega))
                clear hz
                generalize v5.setRow (v2.heap.size) (stCells z (.slice py z.d.length cy)).toArray = v6 at hHeld hz6 x6 y6 mx6 my6 ⊢
                refine wpAnyH_done (by kernel_rfl) ?_ _
                exact ⟨rfl, v0.heap.size, v2.heap.size, px, cx, py, cy, by first | rfl | (simp only [put6, Act.put, List.setIfInBounds_toArray, List.set_cons_zero, List.set_cons_succ]), ⟨hHeld, ⟨hrz, x6⟩, ⟨hrz, y6⟩, mx6, my6, by omega, by omega, fun k hk => by have h1 := ox k hk; exact ⟨by omega, by omega, by omega, by omega, fun h => by have h2 := oy k h; omega⟩, fun k hk => by have h1 := oy k hk; exact ⟨by omega, by omega, by omega, by omega, fun h => by have h2 := ox k h; omega⟩, by omega⟩⟩
            · skip
              go_simp
              refine hK.out _ _ ?_ (fun hHeld => ?_)
              · exact bAlloc hHeld.size hHeld
              clear hK K
              (try simp only [put_lit, put_no]); (try dsimp only [List.set_cons_succ, List.set_cons_zero])
              have hC : Below v1.heap.size v1 (v1.alloc (.cells #[.int .i64 0, .int .i32 0, .int .i32 0, .int .i32 0, .int .i32 0, .int .i32 0, .int .i32 0, .int .i32 0, .int .i32 0, .int .i32 0, .int .i32 0, .int .i32 0, .int .i32 0, .int .i32 0, .int .i32 0, .int .i32 0, .int .i32 0, .slice none 0 0, .bool false, .int .i64 0] 29)) := bAlloc (Nat.le_refl _) (Below.refl _ _)
              have y2 := RowAt.alloc_new v1 [.int .i64 0, .int .i32 0, .int .i32 0, .int .i32 0, .int .i32 0, .int .i32 0, .int .i32 0, .int .i32 0, .int .i32 0, .int .i32 0, .int .i32 0, .int .i32 0, .int .i32 0, .int .i32 0, .int .i32 0, .int .i32 0, .int .i32 0, .slice none 0 0, .bool false, .int .i64 0] 29
              have hz2 : v1.heap.size < (v1.alloc (.cells #[.int .i64 0, .int .i32 0, .int .i32 0, .int .i32 0, .int .i32 0, .int .i32 0, .int .i32 0, .int .i32 0, .int .i32 0, .int .i32 0, .int .i32 0, .int .i32 0, .int .i32 0, .int .i32 0, .int .i32 0, .int .i32 0, .int .i32 0, .slice none 0 0, .bool false, .int .i64 0] 29)).heap.size := by simp
              have bdy : v1.heap.size ≤ v1.heap.size := Nat.le_refl _
              generalize v1.alloc (.cells #[.int .i64 0, .int .i32 0, .int .i32 0, .int .i32 0, .int .i32 0, .int .i32 0, .int .i32 0, .int .i32 0, .int .i32 0, .int .i32 0, .int .i32 0, .int .i32 0, .int .i32 0, .int .i32 0, .int .i32 0, .int .i32 0, .int .i32 0, .slice none 0 0, .bool false, .int .i64 0] 29) = v2 at hHeld hC y2 hz2 ⊢
              have x2 := x1.below hC x1.lt
              clear hC
              refine wpAnyH_ready (rs := [1]) (by kernel_rfl) (by simp) ?_
              refine AllReadyH.cons (o := { dst := some 83, op := Go.Op.call { callee := Go.Callee.value (Go.Operand.func 12), args := #[Go.Operand.tmp 82], argTypes := #[29] }, type := 29, pos := "law.go:183", after := #[{ on := 0, ground := Go.Ground.data }], guard := none }) rfl (fun K hK => ?_) AllReadyH.nil
              go_simp
              refine (copyS z dp z.d.length dcap _ hrz rfl (hrd2.below hHeld (Nat.le_refl _)) hn0 (by omega)).mono ?_
              rintro e v3 ⟨px, cx, rfl, hC, hown⟩
              first | (refine hK.out _ _ ?_ (fun hHeld => ?_)) | (go_wp2_with fail; refine hK.out _ _ ?_ (fun hHeld => ?_))
              · exact hHeld.trans (hC.mono hHeld.size)
              clear hK K
              (try simp only [put_lit, put_no]); (try dsimp only [List.set_cons_succ, List.set_cons_zero])
              have mx3 := MemAt.of_owns hown
              have hz3 := hC.size
              have ox : ∀ k, (Value.slice px z.d.length cx).ownBlock = some k → v2.heap.size ≤ k ∧ k < v3.heap.size := fun k hk => ⟨by have := ownBase hown hk; omega, own_lt hown hk⟩
              clear hown
              have x3 := x2.below hC x2.lt
              have y3 := y2.below hC y2.lt
              clear hC
              refine wpAnyH_ready (rs := [3]) (by kernel_rfl) (by simp) ?_
              refine AllReadyH.cons (o := { dst := some 85, op := Go.Op.call { callee := Go.Callee.value (Go.Operand.func 12), args := #[Go.Operand.tmp 84], argTypes := #[29] }, type := 29, pos := "law.go:183", after := #[{ on := 2, ground := Go.Ground.data }, { on := 1, ground := Go.Ground.chain }], guard := none }) rfl (fun K hK => ?_) AllReadyH.nil
              go_simp
              refine (copyS z dp z.d.length dcap _ hrz rfl (hrd2.below hHeld (Nat.le_refl _)) hn0 (by omega)).mono ?_
              rintro e v4 ⟨py, cy, rfl, hC, hown⟩
              first | (refine hK.out _ _ ?_ (fun hHeld => ?_)) | (go_wp2_with fail; refine hK.out _ _ ?_ (fun hHeld => ?_))
              · exact hHeld.trans (hC.mono hHeld.size)
              clear hK K
              (try simp only [put_lit, put_no]); (try dsimp only [List.set_cons_succ, List.set_cons_zero])
              have my4 := MemAt.of_owns hown
              have hz4 := hC.size
              have oy : ∀ k, (Value.slice py z.d.length cy).ownBlock = some k → v3.heap.size ≤ k ∧ k < v4.heap.size := fun k hk => ⟨by have := ownBase hown hk; omega, own_lt hown hk⟩
              clear hown
              have x4 := x3.below hC x3.lt
              have y4 := y3.below hC y3.lt
              have mx4 := mx3.below hC (Nat.le_refl _)
              clear hC
              refine wpAnyH_ready (rs := [6]) (by kernel_rfl) (by simp) ?_
              refine AllReadyH.cons (o := { dst := none, op := Go.Op.store 29 (Go.Operand.tmp 17) (Go.Operand.tmp 83), type := 0, pos := "law.go:183", after := #[{ on := 4, ground := Go.Ground.data }, { on := 1, ground := Go.Ground.data }, { on := 3, ground := Go.Ground.chain }, { on := 0, ground := Go.Ground.phase }, { on := 1, ground := Go.Ground.phase }, { on := 2, ground := Go.Ground.phase }, { on := 3, ground := Go.Ground.phase }, { on := 4, ground := Go.Ground.phase }, { on := 5, ground := Go.Ground.phase }], guard := none }) rfl (fun K hK => ?_) AllReadyH.nil
              obtain ⟨tzx, hz⟩ := x4
              have hbx := lt_of_block hz
              have hby := y4.lt
              refine step_store_row rfl 29 (.tmp 17) (.tmp 83) rfl (v0.heap.size) _ rfl rfl tzx _ hz (by rw [List.size_toArray, stCells_len hrz]; exact infoState) (by first | (rw [List.size_toArray, List.size_toArray, stCells_len hrz]; rfl) | (rw [List.size_toArray, stCells_len hrz]; rfl)) (stCells_one z _ _ _) ?_
              refine hK.out _ _ ?_ (fun hHeld => ?_)
              · exact bRow (by have := hHeld.size; omega) hHeld
              clear hK K
              (try simp only [put_lit, put_no]); (try dsimp only [List.set_cons_succ, List.set_cons_zero])
              have x5 : RowAt (v4.setRow (v0.heap.size) (stCells z (.slice px z.d.length cx)).toArray) (v0.heap.size) (stCells z (.slice px z.d.length cx)) := ⟨_, setRow_heap _ _ _ _ _ _ hz⟩
              have hz5 : v4.heap.size ≤ (v4.setRow (v0.heap.size) (stCells z (.slice px z.d.length cx)).toArray).heap.size := by rw [setRow_size]; exact Nat.le_refl _
              have y5 := y4.block (setRow_block v4 (v0.heap.size) (stCells z (.slice px z.d.length cx)).toArray (by omega))
              have mx5 := mx4.block (fun k hk => setRow_block v4 (v0.heap.size) (stCells z (.slice px z.d.length cx)).toArray (by have := ox k hk; omega))
              have my5 := my4.block (fun k hk => setRow_block v4 (v0.heap.size) (stCells z (.slice px z.d.length cx)).toArray (by have := oy k hk; omega))
              clear hz
              generalize v4.setRow (v0.heap.size) (stCells z (.slice px z.d.length cx)).toArray = v5 at hHeld hz5 x5 y5 mx5 my5 ⊢
              refine wpAnyH_ready (rs := [7]) (by kernel_rfl) (by simp) ?_
              refine AllReadyH.cons (o := { dst := none, op := Go.Op.store 29 (Go.Operand.tmp 18) (Go.Operand.tmp 85), type := 0, pos := "law.go:183", after := #[{ on := 5, ground := Go.Ground.data }, { on := 3, ground := Go.Ground.data }, { on := 6, ground := Go.Ground.chain }, { on := 0, ground := Go.Ground.phase }, { on := 1, ground := Go.Ground.phase }, { on := 2, ground := Go.Ground.phase }, { on := 3, ground := Go.Ground.phase }, { on := 4, ground := Go.Ground.phase }, { on := 5, ground := Go.Ground.phase }, { on := 6, ground := Go.Ground.phase }], guard := none }) rfl (fun K hK => ?_) AllReadyH.nil
              obtain ⟨tzy, hz⟩ := y5
              refine step_store_row rfl 29 (.tmp 18) (.tmp 85) rfl (v1.heap.size) _ rfl rfl tzy _ hz (by rw [List.size_toArray, stCells_len hrz]; exact infoState) (by first | (rw [List.size_toArray, List.size_toArray, stCells_len hrz]; rfl) | (rw [List.size_toArray, stCells_len hrz]; rfl)) (stCells_one z _ _ _) ?_
              refine hK.out _ _ ?_ (fun hHeld => ?_)
              · exact bRow (by have := hHeld.size; omega) hHeld
              clear hK K
              (try simp only [put_lit, put_no]); (try dsimp only [List.set_cons_succ, List.set_cons_zero])
              have y6 : RowAt (v5.setRow (v1.heap.size) (stCells z (.slice py z.d.length cy)).toArray) (v1.heap.size) (stCells z (.slice py z.d.length cy)) := ⟨_, setRow_heap _ _ _ _ _ _ hz⟩
              have hz6 : v5.heap.size ≤ (v5.setRow (v1.heap.size) (stCells z (.slice py z.d.length cy)).toArray).heap.size := by rw [setRow_size]; exact Nat.le_refl _
              have x6 := x5.block (setRow_block v5 (v1.heap.size) (stCells z (.slice py z.d.length cy)).toArray (by omega))
              have mx6 := mx5.block (fun k hk => setRow_block v5 (v1.heap.size) (stCells z (.slice py z.d.length cy)).toArray (by have := ox k hk; omega))
              have my6 := my5.block (fun k hk => setRow_block v5 (v1.heap.size) (stCells z (.slice py z.d.length cy)).toArray (by have := oy k hk; omega))
              clear hz
              generalize v5.setRow (v1.heap.size) (stCells z (.slice py z.d.length cy)).toArray = v6 at hHeld hz6 x6 y6 mx6 my6 ⊢
              refine wpAnyH_done (by kernel_rfl) ?_ _
              exact ⟨rfl, v0.heap.size, v1.heap.size, px, cx, py, cy, by first | rfl | (simp only [put6, Act.put, List.setIfInBounds_toArray, List.set_cons_zero, List.set_cons_succ]), ⟨hHeld, ⟨hrz, x6⟩, ⟨hrz, y6⟩, mx6, my6, by omega, by omega, fun k hk => by have h1 := ox k hk; exact ⟨by omega, by omega, by omega, by omega, fun h => by have h2 := oy k h; omega⟩, fun k hk => by have h1 := oy k hk; exact ⟨by omega, by omega, by omega, by omega, fun h => by have h2 := ox k h; omega⟩, by omega⟩⟩
          · skip
            go_simp
            refine hK.out _ _ ?_ (fun hHeld => ?_)
            · exact bAlloc hHeld.size hHeld
            clear hK K
            (try simp only [put_lit, put_no]); (try dsimp only [List.set_cons_succ, List.set_cons_zero])
            have hC : Below v0.heap.size v0 (v0.alloc (.cells #[.int .i64 0, .int .i32 0, .int .i32 0, .int .i32 0, .int .i32 0, .int .i32 0, .int .i32 0, .int .i32 0, .int .i32 0, .int .i32 0, .int .i32 0, .int .i32 0, .int .i32 0, .int .i32 0, .int .i32 0, .int .i32 0, .int .i32 0, .slice none 0 0, .bool false, .int .i64 0] 29)) := bAlloc (Nat.le_refl _) (Below.refl _ _)
            have y1 := RowAt.alloc_new v0 [.int .i64 0, .int .i32 0, .int .i32 0, .int .i32 0, .int .i32 0, .int .i32 0, .int .i32 0, .int .i32 0, .int .i32 0, .int .i32 0, .int .i32 0, .int .i32 0, .int .i32 0, .int .i32 0, .int .i32 0, .int .i32 0, .int .i32 0, .slice none 0 0, .bool false, .int .i64 0] 29
            have hz1 : v0.heap.size < (v0.alloc (.cells #[.int .i64 0, .int .i32 0, .int .i32 0, .int .i32 0, .int .i32 0, .int .i32 0, .int .i32 0, .int .i32 0, .int .i32 0, .int .i32 0, .int .i32 0, .int .i32 0, .int .i32 0, .int .i32 0, .int .i32 0, .int .i32 0, .int .i32 0, .slice none 0 0, .bool false, .int .i64 0] 29)).heap.size := by simp
            have bdy : v0.heap.size ≤ v0.heap.size := Nat.le_refl _
            generalize v0.alloc (.cells #[.int .i64 0, .int .i32 0, .int .i32 0, .int .i32 0, .int .i32 0, .int .i32 0, .int .i32 0, .int .i32 0, .int .i32 0, .int .i32 0, .int .i32 0, .int .i32 0, .int .i32 0, .int .i32 0, .int .i32 0, .int .i32 0, .int .i32 0, .slice none 0 0, .bool false, .int .i64 0] 29) = v1 at hHeld hC y1 hz1 ⊢
            clear hC
            refine wpAnyH_ready (rs := [1, 4]) (by kernel_rfl) (by simp) ?_
            refine AllReadyH.cons (o := { dst := some 83, op := Go.Op.call { callee := Go.Callee.value (Go.Operand.func 12), args := #[Go.Operand.tmp 82], argTypes := #[29] }, type := 29, pos := "law.go:183", after := #[{ on := 0, ground := Go.Ground.data }], guard := none }) rfl (fun K hK => ?_) (AllReadyH.cons (o := { dst := some 17, op := Go.Op.alloc 29, type := 0, pos := "law.go:183", after := #[], guard := none }) rfl (fun K hK => ?_) AllReadyH.nil)
            · skip
              go_simp
              refine (copyS z dp z.d.length dcap _ hrz rfl (hrd2.below hHeld (Nat.le_refl _)) hn0 (by omega)).mono ?_
              rintro e v2 ⟨px, cx, rfl, hC, hown⟩
              first | (refine hK.out _ _ ?_ (fun hHeld => ?_)) | (go_wp2_with fail; refine hK.out _ _ ?_ (fun hHeld => ?_))
              · exact hHeld.trans (hC.mono hHeld.size)
              clear hK K
              (try simp only [put_lit, put_no]); (try dsimp only [List.set_cons_succ, List.set_cons_zero])
              have mx2 := MemAt.of_owns hown
              have hz2 := hC.size
              have ox : ∀ k, (Value.slice px z.d.length cx).ownBlock = some k → v1.heap.size ≤ k ∧ k < v2.heap.size := fun k hk => ⟨by have := ownBase hown hk; omega, own_lt hown hk⟩
              clear hown
              have y2 := y1.below hC y1.lt
              clear hC
              refine wpAnyH_ready (rs := [3, 4]) (by kernel_rfl) (by simp) ?_
              refine AllReadyH.cons (o := { dst := some 85, op := Go.Op.call { callee := Go.Callee.value (Go.Operand.func 12), args := #[Go.Operand.tmp 84], argTypes := #[29] }, type := 29, pos := "law.go:183", after := #[{ on := 2, ground := Go.Ground.data }, { on := 1, ground := Go.Ground.chain }], guard := none }) rfl (fun K hK => ?_) (AllReadyH.cons (o := { dst := some 17, op := Go.Op.alloc 29, type := 0, pos := "law.go:183", after := #[], guard := none }) rfl (fun K hK => ?_) AllReadyH.nil)
              · skip
                go_simp
                refine (copyS z dp z.d.length dcap _ hrz rfl (hrd2.below hHeld (Nat.le_refl _)) hn0 (by omega)).mono ?_
                rintro e v3 ⟨py, cy, rfl, hC, hown⟩
                first | (refine hK.out _ _ ?_ (fun hHeld => ?_)) | (go_wp2_with fail; refine hK.out _ _ ?_ (fun hHeld => ?_))
                · exact hHeld.trans (hC.mono hHeld.size)
                clear hK K
                (try simp only [put_lit, put_no]); (try dsimp only [List.set_cons_succ, List.set_cons_zero])
                have my3 := MemAt.of_owns hown
                have hz3 := hC.size
                have oy : ∀ k, (Value.slice py z.d.length cy).ownBlock = some k → v2.heap.size ≤ k ∧ k < v3.heap.size := fun k hk => ⟨by have := ownBase hown hk; omega, own_lt hown hk⟩
                clear hown
                have y3 := y2.below hC y2.lt
                have mx3 := mx2.below hC (Nat.le_refl _)
                clear hC
                refine wpAnyH_ready (rs := [4]) (by kernel_rfl) (by simp) ?_
                refine AllReadyH.cons (o := { dst := some 17, op := Go.Op.alloc 29, type := 0, pos := "law.go:183", after := #[], guard := none }) rfl (fun K hK => ?_) AllReadyH.nil
                go_simp
                refine hK.out _ _ ?_ (fun hHeld => ?_)
                · exact bAlloc hHeld.size hHeld
                clear hK K
                (try simp only [put_lit, put_no]); (try dsimp only [List.set_cons_succ, List.set_cons_zero])
                have hC : Below v3.heap.size v3 (v3.alloc (.cells #[.int .i64 0, .int .i32 0, .int .i32 0, .int .i32 0, .int .i32 0, .int .i32 0, .int .i32 0, .int .i32 0, .int .i32 0, .int .i32 0, .int .i32 0, .int .i32 0, .int .i32 0, .int .i32 0, .int .i32 0, .int .i32 0, .int .i32 0, .slice none 0 0, .bool false, .int .i64 0] 29)) := bAlloc (Nat.le_refl _) (Below.refl _ _)
                have x4 := RowAt.alloc_new v3 [.int .i64 0, .int .i32 0, .int .i32 0, .int .i32 0, .int .i32 0, .int .i32 0, .int .i32 0, .int .i32 0, .int .i32 0, .int .i32 0, .int .i32 0, .int .i32 0, .int .i32 0, .int .i32 0, .int .i32 0, .int .i32 0, .int .i32 0, .slice none 0 0, .bool false, .int .i64 0] 29
                have hz4 : v3.heap.size < (v3.alloc (.cells #[.int .i64 0, .int .i32 0, .int .i32 0, .int .i32 0, .int .i32 0, .int .i32 0, .int .i32 0, .int .i32 0, .int .i32 0, .int .i32 0, .int .i32 0, .int .i32 0, .int .i32 0, .int .i32 0, .int .i32 0, .int .i32 0, .int .i32 0, .slice none 0 0, .bool false, .int .i64 0] 29)).heap.size := by simp
                have bdx : v3.heap.size ≤ v3.heap.size := Nat.le_refl _
                generalize v3.alloc (.cells #[.int .i64 0, .int .i32 0, .int .i32 0, .int .i32 0, .int .i32 0, .int .i32 0, .int .i32 0, .int .i32 0, .int .i32 0, .int .i32 0, .int .i32 0, .int .i32 0, .int .i32 0, .int .i32 0, .int .i32 0, .int .i32 0, .int .i32 0, .slice none 0 0, .bool false, .int .i64 0] 29) = v4 at hHeld hC x4 hz4 ⊢
                have y4 := y3.below hC y3.lt
                have mx4 := mx3.below hC (Nat.le_refl _)
                have my4 := my3.below hC (Nat.le_refl _)
                clear hC
                refine wpAnyH_ready (rs := [6]) (by kernel_rfl) (by simp) ?_
                refine AllReadyH.cons (o := { dst := none, op := Go.Op.store 29 (Go.Operand.tmp 17) (Go.Operand.tmp 83), type := 0, pos := "law.go:183", after := #[{ on := 4, ground := Go.Ground.data }, { on := 1, ground := Go.Ground.data }, { on := 3, ground := Go.Ground.chain }, { on := 0, ground := Go.Ground.phase }, { on := 1, ground := Go.Ground.phase }, { on := 2, ground := Go.Ground.phase }, { on := 3, ground := Go.Ground.phase }, { on := 4, ground := Go.Ground.phase }, { on := 5, ground := Go.Ground.phase }], guard := none }) rfl (fun K hK => ?_) AllReadyH.nil
                obtain ⟨tzx, hz⟩ := x4
                have hbx := lt_of_block hz
                have hby := y4.lt
                refine step_store_row rfl 29 (.tmp 17) (.tmp 83) rfl (v3.heap.size) _ rfl rfl tzx _ hz (by rw [List.size_toArray, stCells_len hrz]; exact infoState) (by first | (rw [List.size_toArray, List.size_toArray, stCells_len hrz]; rfl) | (rw [List.size_toArray, stCells_len hrz]; rfl)) (stCells_one z _ _ _) ?_
                refine hK.out _ _ ?_ (fun hHeld => ?_)
                · exact bRow (by have := hHeld.size; omega) hHeld
                clear hK K
                (try simp only [put_lit, put_no]); (try dsimp only [List.set_cons_succ, List.set_cons_zero])
                have x5 : RowAt (v4.setRow (v3.heap.size) (stCells z (.slice px z.d.length cx)).toArray) (v3.heap.size) (stCells z (.slice px z.d.length cx)) := ⟨_, setRow_heap _ _ _ _ _ _ hz⟩
                have hz5 : v4.heap.size ≤ (v4.setRow (v3.heap.size) (stCells z (.slice px z.d.length cx)).toArray).heap.size := by rw [setRow_size]; exact Nat.le_refl _
                have y5 := y4.block (setRow_block v4 (v3.heap.size) (stCells z (.slice px z.d.length cx)).toArray (by omega))
                have mx5 := mx4.block (fun k hk => setRow_block v4 (v3.heap.size) (stCells z (.slice px z.d.length cx)).toArray (by have := ox k hk; omega))
                have my5 := my4.block (fun k hk => setRow_block v4 (v3.heap.size) (stCells z (.slice px z.d.length cx)).toArray (by have := oy k hk; omega))
                clear hz
                generalize v4.setRow (v3.heap.size) (stCells z (.slice px z.d.length cx)).toArray = v5 at hHeld hz5 y5 x5 mx5 my5 ⊢
                refine wpAnyH_ready (rs := [7]) (by kernel_rfl) (by simp) ?_
                refine AllReadyH.cons (o := { dst := none, op := Go.Op.store 29 (Go.Operand.tmp 18) (Go.Operand.tmp 85), type := 0, pos := "law.go:183", after := #[{ on := 5, ground := Go.Ground.data }, { on := 3, ground := Go.Ground.data }, { on := 6, ground := Go.Ground.chain }, { on := 0, ground := Go.Ground.phase }, { on := 1, ground := Go.Ground.phase }, { on := 2, ground := Go.Ground.phase }, { on := 3, ground := Go.Ground.phase }, { on := 4, ground := Go.Ground.phase }, { on := 5, ground := Go.Ground.phase }, { on := 6, ground := Go.Ground.phase }], guard := none }) rfl (fun K hK => ?_) AllReadyH.nil
                obtain ⟨tzy, hz⟩ := y5
                refine step_store_row rfl 29 (.tmp 18) (.tmp 85) rfl (v0.heap.size) _ rfl rfl tzy _ hz (by rw [List.size_toArray, stCells_len hrz]; exact infoState) (by first | (rw [List.size_toArray, List.size_toArray, stCells_len hrz]; rfl) | (rw [List.size_toArray, stCells_len hrz]; rfl)) (stCells_one z _ _ _) ?_
                refine hK.out _ _ ?_ (fun hHeld => ?_)
                · exact bRow (by have := hHeld.size; omega) hHeld
                clear hK K
                (try simp only [put_lit, put_no]); (try dsimp only [List.set_cons_succ, List.set_cons_zero])
                have y6 : RowAt (v5.setRow (v0.heap.size) (stCells z (.slice py z.d.length cy)).toArray) (v0.heap.size) (stCells z (.slice py z.d.length cy)) := ⟨_, setRow_heap _ _ _ _ _ _ hz⟩
                have hz6 : v5.heap.size ≤ (v5.setRow (v0.heap.size) (stCells z (.slice py z.d.length cy)).toArray).heap.size := by rw [setRow_size]; exact Nat.le_refl _
                have x6 := x5.block (setRow_block v5 (v0.heap.size) (stCells z (.slice py z.d.length cy)).toArray (by omega))
                have mx6 := mx5.block (fun k hk => setRow_block v5 (v0.heap.size) (stCells z (.slice py z.d.length cy)).toArray (by have := ox k hk; omega))
                have my6 := my5.block (fun k hk => setRow_block v5 (v0.heap.size) (stCells z (.slice py z.d.length cy)).toArray (by have := oy k hk; omega))
                clear hz
                generalize v5.setRow (v0.heap.size) (stCells z (.slice py z.d.length cy)).toArray = v6 at hHeld hz6 y6 x6 mx6 my6 ⊢
                refine wpAnyH_done (by kernel_rfl) ?_ _
                exact ⟨rfl, v3.heap.size, v0.heap.size, px, cx, py, cy, by first | rfl | (simp only [put6, Act.put, List.setIfInBounds_toArray, List.set_cons_zero, List.set_cons_succ]), ⟨hHeld, ⟨hrz, x6⟩, ⟨hrz, y6⟩, mx6, my6, by omega, by omega, fun k hk => by have h1 := ox k hk; exact ⟨by omega, by omega, by omega, by omega, fun h => by have h2 := oy k h; omega⟩, fun k hk => by have h1 := oy k hk; exact ⟨by omega, by omega, by omega, by omega, fun h => by have h2 := ox k h; omega⟩, by omega⟩⟩
              · skip
                go_simp
                refine hK.out _ _ ?_ (fun hHeld => ?_)
                · exact bAlloc hHeld.size hHeld
                clear hK K
                (try simp only [put_lit, put_no]); (try dsimp only [List.set_cons_succ, List.set_cons_zero])
                have hC : Below v2.heap.size v2 (v2.alloc (.cells #[.int .i64 0, .int .i32 0, .int .i32 0, .int .i32 0, .int .i32 0, .int .i32 0, .int .i32 0, .int .i32 0, .int .i32 0, .int .i32 0, .int .i32 0, .int .i32 0, .int .i32 0, .int .i32 0, .int .i32 0, .int .i32 0, .int .i32 0, .slice none 0 0, .bool false, .int .i64 0] 29)) := bAlloc (Nat.le_refl _) (Below.refl _ _)
                have x3 := RowAt.alloc_new v2 [.int .i64 0, .int .i32 0, .int .i32 0, .int .i32 0, .int .i32 0, .int .i32 0, .int .i32 0, .int .i32 0, .int .i32 0, .int .i32 0, .int .i32 0, .int .i32 0, .int .i32 0, .int .i32 0, .int .i32 0, .int .i32 0, .int .i32 0, .slice none 0 0, .bool false, .int .i64 0] 29
                have hz3 : v2.heap.size < (v2.alloc (.cells #[.int .i64 0, .int .i32 0, .int .i32 0, .int .i32 0, .int .i32 0, .int .i32 0, .int .i32 0, .int .i32 0, .int .i32 0, .int .i32 0, .int .i32 0, .int .i32 0, .int .i32 0, .int .i32 0, .int .i32 0, .int .i32 0, .int .i32 0, .slice none 0 0, .bool false, .int .i64 0] 29)).heap.size := by simp
                have bdx : v2.heap.size ≤ v2.heap.size := Nat.le_refl _
                generalize v2.alloc (.cells #[.int .i64 0, .int .i32 0, .int .i32 0, .int .i32 0, .int .i32 0, .int .i32 0, .int .i32 0, .int .i32 0, .int .i32 0, .int .i32 0, .int .i32 0, .int .i32 0, .int .i32 0, .int .i32 0, .int .i32 0, .int .i32 0, .int .i32 0, .slice none 0 0, .bool false, .int .i64 0] 29) = v3 at hHeld hC x3 hz3 ⊢
                have y3 := y2.below hC y2.lt
                have mx3 := mx2.below hC (Nat.le_refl _)
                clear hC
                refine wpAnyH_ready (rs := [3]) (by kernel_rfl) (by simp) ?_
                refine AllReadyH.cons (o := { dst := some 85, op := Go.Op.call { callee := Go.Callee.value (Go.Operand.func 12), args := #[Go.Operand.tmp 84], argTypes := #[29] }, type := 29, pos := "law.go:183", after := #[{ on := 2, ground := Go.Ground.data }, { on := 1, ground := Go.Ground.chain }], guard := none }) rfl (fun K hK => ?_) AllReadyH.nil
                go_simp
                refine (copyS z dp z.d.length dcap _ hrz rfl (hrd2.below hHeld (Nat.le_refl _)) hn0 (by omega)).mono ?_
                rintro e v4 ⟨py, cy, rfl, hC, hown⟩
                first | (refine hK.out _ _ ?_ (fun hHeld => ?_)) | (go_wp2_with fail; refine hK.out _ _ ?_ (fun hHeld => ?_))
                · exact hHeld.trans (hC.mono hHeld.size)
                clear hK K
                (try simp only [put_lit, put_no]); (try dsimp only [List.set_cons_succ, List.set_cons_zero])
                have my4 := MemAt.of_owns hown
                have hz4 := hC.size
                have oy : ∀ k, (Value.slice py z.d.length cy).ownBlock = some k → v3.heap.size ≤ k ∧ k < v4.heap.size := fun k hk => ⟨by have := ownBase hown hk; omega, own_lt hown hk⟩
                clear hown
                have y4 := y3.below hC y3.lt
                have x4 := x3.below hC x3.lt
                have mx4 := mx3.below hC (Nat.le_refl _)
                clear hC
                refine wpAnyH_ready (rs := [6]) (by kernel_rfl) (by simp) ?_
                refine AllReadyH.cons (o := { dst := none, op := Go.Op.store 29 (Go.Operand.tmp 17) (Go.Operand.tmp 83), type := 0, pos := "law.go:183", after := #[{ on := 4, ground := Go.Ground.data }, { on := 1, ground := Go.Ground.data }, { on := 3, ground := Go.Ground.chain }, { on := 0, ground := Go.Ground.phase }, { on := 1, ground := Go.Ground.phase }, { on := 2, ground := Go.Ground.phase }, { on := 3, ground := Go.Ground.phase }, { on := 4, ground := Go.Ground.phase }, { on := 5, ground := Go.Ground.phase }], guard := none }) rfl (fun K hK => ?_) AllReadyH.nil
                obtain ⟨tzx, hz⟩ := x4
                have hbx := lt_of_block hz
                have hby := y4.lt
                refine step_store_row rfl 29 (.tmp 17) (.tmp 83) rfl (v2.heap.size) _ rfl rfl tzx _ hz (by rw [List.size_toArray, stCells_len hrz]; exact infoState) (by first | (rw [List.size_toArray, List.size_toArray, stCells_len hrz]; rfl) | (rw [List.size_toArray, stCells_len hrz]; rfl)) (stCells_one z _ _ _) ?_
                refine hK.out _ _ ?_ (fun hHeld => ?_)
                · exact bRow (by have := hHeld.size; omega) hHeld
                clear hK K
                (try simp only [put_lit, put_no]); (try dsimp only [List.set_cons_succ, List.set_cons_zero])
                have x5 : RowAt (v4.setRow (v2.heap.size) (stCells z (.slice px z.d.length cx)).toArray) (v2.heap.size) (stCells z (.slice px z.d.length cx)) := ⟨_, setRow_heap _ _ _ _ _ _ hz⟩
                have hz5 : v4.heap.size ≤ (v4.setRow (v2.heap.size) (stCells z (.slice px z.d.length cx)).toArray).heap.size := by rw [setRow_size]; exact Nat.le_refl _
                have y5 := y4.block (setRow_block v4 (v2.heap.size) (stCells z (.slice px z.d.length cx)).toArray (by omega))
                have mx5 := mx4.block (fun k hk => setRow_block v4 (v2.heap.size) (stCells z (.slice px z.d.length cx)).toArray (by have := ox k hk; omega))
                have my5 := my4.block (fun k hk => setRow_block v4 (v2.heap.size) (stCells z (.slice px z.d.length cx)).toArray (by have := oy k hk; omega))
                clear hz
                generalize v4.setRow (v2.heap.size) (stCells z (.slice px z.d.length cx)).toArray = v5 at hHeld hz5 y5 x5 mx5 my5 ⊢
                refine wpAnyH_ready (rs := [7]) (by kernel_rfl) (by simp) ?_
                refine AllReadyH.cons (o := { dst := none, op := Go.Op.store 29 (Go.Operand.tmp 18) (Go.Operand.tmp 85), type := 0, pos := "law.go:183", after := #[{ on := 5, ground := Go.Ground.data }, { on := 3, ground := Go.Ground.data }, { on := 6, ground := Go.Ground.chain }, { on := 0, ground := Go.Ground.phase }, { on := 1, ground := Go.Ground.phase }, { on := 2, ground := Go.Ground.phase }, { on := 3, ground := Go.Ground.phase }, { on := 4, ground := Go.Ground.phase }, { on := 5, ground := Go.Ground.phase }, { on := 6, ground := Go.Ground.phase }], guard := none }) rfl (fun K hK => ?_) AllReadyH.nil
                obtain ⟨tzy, hz⟩ := y5
                refine step_store_row rfl 29 (.tmp 18) (.tmp 85) rfl (v0.heap.size) _ rfl rfl tzy _ hz (by rw [List.size_toArray, stCells_len hrz]; exact infoState) (by first | (rw [List.size_toArray, List.size_toArray, stCells_len hrz]; rfl) | (rw [List.size_toArray, stCells_len hrz]; rfl)) (stCells_one z _ _ _) ?_
                refine hK.out _ _ ?_ (fun hHeld => ?_)
                · exact bRow (by have := hHeld.size; omega) hHeld
                clear hK K
                (try simp only [put_lit, put_no]); (try dsimp only [List.set_cons_succ, List.set_cons_zero])
                have y6 : RowAt (v5.setRow (v0.heap.size) (stCells z (.slice py z.d.length cy)).toArray) (v0.heap.size) (stCells z (.slice py z.d.length cy)) := ⟨_, setRow_heap _ _ _ _ _ _ hz⟩
                have hz6 : v5.heap.size ≤ (v5.setRow (v0.heap.size) (stCells z (.slice py z.d.length cy)).toArray).heap.size := by rw [setRow_size]; exact Nat.le_refl _
                have x6 := x5.block (setRow_block v5 (v0.heap.size) (stCells z (.slice py z.d.length cy)).toArray (by omega))
                have mx6 := mx5.block (fun k hk => setRow_block v5 (v0.heap.size) (stCells z (.slice py z.d.length cy)).toArray (by have := ox k hk; omega))
                have my6 := my5.block (fun k hk => setRow_block v5 (v0.heap.size) (stCells z (.slice py z.d.length cy)).toArray (by have := oy k hk; omega))
                clear hz
                generalize v5.setRow (v0.heap.size) (stCells z (.slice py z.d.length cy)).toArray = v6 at hHeld hz6 y6 x6 mx6 my6 ⊢
                refine wpAnyH_done (by kernel_rfl) ?_ _
                exact ⟨rfl, v2.heap.size, v0.heap.size, px, cx, py, cy, by first | rfl | (simp only [put6, Act.put, List.setIfInBounds_toArray, List.set_cons_zero, List.set_cons_succ]), ⟨hHeld, ⟨hrz, x6⟩, ⟨hrz, y6⟩, mx6, my6, by omega, by omega, fun k hk => by have h1 := ox k hk; exact ⟨by omega, by omega, by omega, by omega, fun h => by have h2 := oy k h; omega⟩, fun k hk => by have h1 := oy k hk; exact ⟨by omega, by omega, by omega, by omega, fun h => by have h2 := ox k h; omega⟩, by omega⟩⟩
            · skip
              go_simp
              refine hK.out _ _ ?_ (fun hHeld => ?_)
              · exact bAlloc hHeld.size hHeld
              clear hK K
              (try simp only [put_lit, put_no]); (try dsimp only [List.set_cons_succ, List.set_cons_zero])
              have hC : Below v1.heap.size v1 (v1.alloc (.cells #[.int .i64 0, .int .i32 0, .int .i32 0, .int .i32 0, .int .i32 0, .int .i32 0, .int .i32 0, .int .i32 0, .int .i32 0, .int .i32 0, .int .i32 0, .int .i32 0, .int .i32 0, .int .i32 0, .int .i32 0, .int .i32 0, .int .i32 0, .slice none 0 0, .bool false, .int .i64 0] 29)) := bAlloc (Nat.le_refl _) (Below.refl _ _)
              have x2 := RowAt.alloc_new v1 [.int .i64 0, .int .i32 0, .int .i32 0, .int .i32 0, .int .i32 0, .int .i32 0, .int .i32 0, .int .i32 0, .int .i32 0, .int .i32 0, .int .i32 0, .int .i32 0, .int .i32 0, .int .i32 0, .int .i32 0, .int .i32 0, .int .i32 0, .slice none 0 0, .bool false, .int .i64 0] 29
              have hz2 : v1.heap.size < (v1.alloc (.cells #[.int .i64 0, .int .i32 0, .int .i32 0, .int .i32 0, .int .i32 0, .int .i32 0, .int .i32 0, .int .i32 0, .int .i32 0, .int .i32 0, .int .i32 0, .int .i32 0, .int .i32 0, .int .i32 0, .int .i32 0, .int .i32 0, .int .i32 0, .slice none 0 0, .bool false, .int .i64 0] 29)).heap.size := by simp
              have bdx : v1.heap.size ≤ v1.heap.size := Nat.le_refl _
              generalize v1.alloc (.cells #[.int .i64 0, .int .i32 0, .int .i32 0, .int .i32 0, .int .i32 0, .int .i32 0, .int .i32 0, .int .i32 0, .int .i32 0, .int .i32 0, .int .i32 0, .int .i32 0, .int .i32 0, .int .i32 0, .int .i32 0, .int .i32 0, .int .i32 0, .slice none 0 0, .bool false, .int .i64 0] 29) = v2 at hHeld hC x2 hz2 ⊢
              have y2 := y1.below hC y1.lt
              clear hC
              refine wpAnyH_ready (rs := [1]) (by kernel_rfl) (by simp) ?_
              refine AllReadyH.cons (o := { dst := some 83, op := Go.Op.call { callee := Go.Callee.value (Go.Operand.func 12), args := #[Go.Operand.tmp 82], argTypes := #[29] }, type := 29, pos := "law.go:183", after := #[{ on := 0, ground := Go.Ground.data }], guard := none }) rfl (fun K hK => ?_) AllReadyH.nil
              go_simp
              refine (copyS z dp z.d.length dcap _ hrz rfl (hrd2.below hHeld (Nat.le_refl _)) hn0 (by omega)).mono ?_
              rintro e v3 ⟨px, cx, rfl, hC, hown⟩
              first | (refine hK.out _ _ ?_ (fun hHeld => ?_)) | (go_wp2_with fail; refine hK.out _ _ ?_ (fun hHeld => ?_))
              · exact hHeld.trans (hC.mono hHeld.size)
              clear hK K
              (try simp only [put_lit, put_no]); (try dsimp only [List.set_cons_succ, List.set_cons_zero])
              have mx3 := MemAt.of_owns hown
              have hz3 := hC.size
              have ox : ∀ k, (Value.slice px z.d.length cx).ownBlock = some k → v2.heap.size ≤ k ∧ k < v3.heap.size := fun k hk => ⟨by have := ownBase hown hk; omega, own_lt hown hk⟩
              clear hown
              have y3 := y2.below hC y2.lt
              have x3 := x2.below hC x2.lt
              clear hC
              refine wpAnyH_ready (rs := [3]) (by kernel_rfl) (by simp) ?_
              refine AllReadyH.cons (o := { dst := some 85, op := Go.Op.call { callee := Go.Callee.value (Go.Operand.func 12), args := #[Go.Operand.tmp 84], argTypes := #[29] }, type := 29, pos := "law.go:183", after := #[{ on := 2, ground := Go.Ground.data }, { on := 1, ground := Go.Ground.chain }], guard := none }) rfl (fun K hK => ?_) AllReadyH.nil
              go_simp
              refine (copyS z dp z.d.length dcap _ hrz rfl (hrd2.below hHeld (Nat.le_refl _)) hn0 (by omega)).mono ?_
              rintro e v4 ⟨py, cy, rfl, hC, hown⟩
              first | (refine hK.out _ _ ?_ (fun hHeld => ?_)) | (go_wp2_with fail; refine hK.out _ _ ?_ (fun hHeld => ?_))
              · exact hHeld.trans (hC.mono hHeld.size)
              clear hK K
              (try simp only [put_lit, put_no]); (try dsimp only [List.set_cons_succ, List.set_cons_zero])
              have my4 := MemAt.of_owns hown
              have hz4 := hC.size
              have oy : ∀ k, (Value.slice py z.d.length cy).ownBlock = some k → v3.heap.size ≤ k ∧ k < v4.heap.size := fun k hk => ⟨by have := ownBase hown hk; omega, own_lt hown hk⟩
              clear hown
              have y4 := y3.below hC y3.lt
              have x4 := x3.below hC x3.lt
              have mx4 := mx3.below hC (Nat.le_refl _)
              clear hC
              refine wpAnyH_ready (rs := [6]) (by kernel_rfl) (by simp) ?_
              refine AllReadyH.cons (o := { dst := none, op := Go.Op.store 29 (Go.Operand.tmp 17) (Go.Operand.tmp 83), type := 0, pos := "law.go:183", after := #[{ on := 4, ground := Go.Ground.data }, { on := 1, ground := Go.Ground.data }, { on := 3, ground := Go.Ground.chain }, { on := 0, ground := Go.Ground.phase }, { on := 1, ground := Go.Ground.phase }, { on := 2, ground := Go.Ground.phase }, { on := 3, ground := Go.Ground.phase }, { on := 4, ground := Go.Ground.phase }, { on := 5, ground := Go.Ground.phase }], guard := none }) rfl (fun K hK => ?_) AllReadyH.nil
              obtain ⟨tzx, hz⟩ := x4
              have hbx := lt_of_block hz
              have hby := y4.lt
              refine step_store_row rfl 29 (.tmp 17) (.tmp 83) rfl (v1.heap.size) _ rfl rfl tzx _ hz (by rw [List.size_toArray, stCells_len hrz]; exact infoState) (by first | (rw [List.size_toArray, List.size_toArray, stCells_len hrz]; rfl) | (rw [List.size_toArray, stCells_len hrz]; rfl)) (stCells_one z _ _ _) ?_
              refine hK.out _ _ ?_ (fun hHeld => ?_)
              · exact bRow (by have := hHeld.size; omega) hHeld
              clear hK K
              (try simp only [put_lit, put_no]); (try dsimp only [List.set_cons_succ, List.set_cons_zero])
              have x5 : RowAt (v4.setRow (v1.heap.size) (stCells z (.slice px z.d.length cx)).toArray) (v1.heap.size) (stCells z (.slice px z.d.length cx)) := ⟨_, setRow_heap _ _ _ _ _ _ hz⟩
              have hz5 : v4.heap.size ≤ (v4.setRow (v1.heap.size) (stCells z (.slice px z.d.length cx)).toArray).heap.size := by rw [setRow_size]; exact Nat.le_refl _
              have y5 := y4.block (setRow_block v4 (v1.heap.size) (stCells z (.slice px z.d.length cx)).toArray (by omega))
              have mx5 := mx4.block (fun k hk => setRow_block v4 (v1.heap.size) (stCells z (.slice px z.d.length cx)).toArray (by have := ox k hk; omega))
              have my5 := my4.block (fun k hk => setRow_block v4 (v1.heap.size) (stCells z (.slice px z.d.length cx)).toArray (by have := oy k hk; omega))
              clear hz
              generalize v4.setRow (v1.heap.size) (stCells z (.slice px z.d.length cx)).toArray = v5 at hHeld hz5 y5 x5 mx5 my5 ⊢
              refine wpAnyH_ready (rs := [7]) (by kernel_rfl) (by simp) ?_
              refine AllReadyH.cons (o := { dst := none, op := Go.Op.store 29 (Go.Operand.tmp 18) (Go.Operand.tmp 85), type := 0, pos := "law.go:183", after := #[{ on := 5, ground := Go.Ground.data }, { on := 3, ground := Go.Ground.data }, { on := 6, ground := Go.Ground.chain }, { on := 0, ground := Go.Ground.phase }, { on := 1, ground := Go.Ground.phase }, { on := 2, ground := Go.Ground.phase }, { on := 3, ground := Go.Ground.phase }, { on := 4, ground := Go.Ground.phase }, { on := 5, ground := Go.Ground.phase }, { on := 6, ground := Go.Ground.phase }], guard := none }) rfl (fun K hK => ?_) AllReadyH.nil
              obtain ⟨tzy, hz⟩ := y5
              refine step_store_row rfl 29 (.tmp 18) (.tmp 85) rfl (v0.heap.size) _ rfl rfl tzy _ hz (by rw [List.size_toArray, stCells_len hrz]; exact infoState) (by first | (rw [List.size_toArray, List.size_toArray, stCells_len hrz]; rfl) | (rw [List.size_toArray, stCells_len hrz]; rfl)) (stCells_one z _ _ _) ?_
              refine hK.out _ _ ?_ (fun hHeld => ?_)
              · exact bRow (by have := hHeld.size; omega) hHeld
              clear hK K
              (try simp only [put_lit, put_no]); (try dsimp only [List.set_cons_succ, List.set_cons_zero])
              have y6 : RowAt (v5.setRow (v0.heap.size) (stCells z (.slice py z.d.length cy)).toArray) (v0.heap.size) (stCells z (.slice py z.d.length cy)) := ⟨_, setRow_heap _ _ _ _ _ _ hz⟩
              have hz6 : v5.heap.size ≤ (v5.setRow (v0.heap.size) (stCells z (.slice py z.d.length cy)).toArray).heap.size := by rw [setRow_size]; exact Nat.le_refl _
              have x6 := x5.block (setRow_block v5 (v0.heap.size) (stCells z (.slice py z.d.length cy)).toArray (by omega))
              have mx6 := mx5.block (fun k hk => setRow_block v5 (v0.heap.size) (stCells z (.slice py z.d.length cy)).toArray (by have := ox k hk; omega))
              have my6 := my5.block (fun k hk => setRow_block v5 (v0.heap.size) (stCells z (.slice py z.d.length cy)).toArray (by have := oy k hk; omega))
              clear hz
              generalize v5.setRow (v0.heap.size) (stCells z (.slice py z.d.length cy)).toArray = v6 at hHeld hz6 y6 x6 mx6 my6 ⊢
              refine wpAnyH_done (by kernel_rfl) ?_ _
              exact ⟨rfl, v1.heap.size, v0.heap.size, px, cx, py, cy, by first | rfl | (simp only [put6, Act.put, List.setIfInBounds_toArray, List.set_cons_zero, List.set_cons_succ]), ⟨hHeld, ⟨hrz, x6⟩, ⟨hrz, y6⟩, mx6, my6, by omega, by omega, fun k hk => by have h1 := ox k hk; exact ⟨by omega, by omega, by omega, by omega, fun h => by have h2 := oy k h; omega⟩, fun k hk => by have h1 := oy k hk; exact ⟨by omega, by omega, by omega, by omega, fun h => by have h2 := ox k h; omega⟩, by omega⟩⟩
        intro bx by' px cx py cy w3 hTwo
        simp only [put6, Act.put, List.setIfInBounds_toArray, List.set_cons_zero, List.set_cons_succ]
        have cy1 := hTwo.y.reg r (by omega)
        have fy1 := hTwo.y.frozen (1 + r)
        have hly := hTwo.y.lt
        have hrI : (r : Int) < 16 := by omega
        have hT3 := hTwo.set2 r (by omega) v
        have hz3' : (w3.setCell ⟨by', 1 + r, none⟩ (.int .i32 v)).heap.size = w3.heap.size := by simp [World.setCell]
        go_upto_region 18 with fail
        generalize w3.setCell ⟨by', 1 + r, none⟩ (.int .i32 v) = w3 at hT3 ⊢
        clear cy1 fy1 hly hTwo hz3'
        have HQ32 : ∀ j, W32 ((z.r.set r v).getD j 0) := fun j => by
          by_cases hj : r = j
          · subst hj; rw [getD_set_eq (by omega)]; exact hv32
          · rw [getD_set_ne hj]; exact Rz.out j
        have hsB2 := hB2.size
        have hB03 : Below w.heap.size w w3 := hB2.trans (hT3.bel.mono hsB2)
        have HO3 := Lib.hid (owns_empty w3 w3.heap.size 21 w3.heap.size rfl (Nat.le_refl _))
        have HM3 := Lib.hid (Src.of_rd (hrm.below (hB03.trans ((bAlloc (o := .cells #[] 21) (Nat.le_refl _) (Below.refl w3.heap.size w3)).mono hB03.size)) (Nat.le_refl _)) hm0)
        have H1 := Lib.hid (show ∀ u ∈ sh.map (Value.int .i32), u.oneCell' = true from fun u hu => by obtain ⟨y, _, rfl⟩ := List.mem_map.1 hu; rfl)
        go_wp2_with (first | (at_builtin; refine wpList_append_new _ rfl (.tmp 90) (.tmp 91) 27 rfl w3.heap.size 21 i0 (.int .i32 0) 1 4 hxi hi0 hz0' hz1' hz2' rfl (by decide) _ rfl HO3.out _ sh.length (sh.map (.int .i32)) rfl HM3.out H1.out ?c1 ?c2 ?c3 ?_))
        case c1 => unfold maxLen; omega
        case c2 => omega
        case c3 => simp
        intro pa ca w4 hown4 hg4
        clear HO3 HM3
        have hB34 : Below w3.heap.size w3 w4 := Below.grown (bAlloc (Nat.le_refl _) (Below.refl _ _)) hg4 (by simp) (fun k hk => by simp [Value.ownBlock] at hk; omega)
        clear hg4
        have hB04 : Below w.heap.size w w4 := hB03.trans (hB34.mono hB03.size)
        have HO4 := Lib.hid (owns_empty w4 w4.heap.size 21 w4.heap.size rfl (Nat.le_refl _))
        have HM4 := Lib.hid (Src.of_rd (hrm.below (hB04.trans ((bAlloc (o := .cells #[] 21) (Nat.le_refl _) (Below.refl w4.heap.size w4)).mono hB04.size)) (Nat.le_refl _)) hm0)
        go_wp2_with (first | (at_builtin; refine wpList_append_new _ rfl (.tmp 93) (.tmp 94) 27 rfl w4.heap.size 21 i0 (.int .i32 0) 1 4 hxi hi0 hz0' hz1' hz2' rfl (by decide) _ rfl HO4.out _ sh.length (sh.map (.int .i32)) rfl HM4.out H1.out ?d1 ?d2 ?d3 ?_))
        case d1 => unfold maxLen; omega
        case d2 => omega
        case d3 => simp
        intro pb cb w5 hown5 hg5
        clear HO4 HM4
        have hB45 : Below w4.heap.size w4 w5 := Below.grown (bAlloc (Nat.le_refl _) (Below.refl _ _)) hg5 (by simp) (fun k hk => by simp [Value.ownBlock] at hk; omega)
        clear hg5
        obtain ⟨hA, hD, hdis, hB25⟩ := both_of2 hT3 hB34 hown4 hB45 hown5 Rz.out Dz.out HQ32 Dz.out M32.out
        clear hT3 hB34 hown4 hB45 hown5 hB03 hB04 H1
        have HDI := Lib.hid hdis
        clear hdis
        have hM5 := hM2.below hB25 hM2.lt
        have HB5 : Below w.heap.size w w5 := hB2.trans (hB25.mono hsB2)
        have him5 := him2.below hB25 (Nat.le_refl _)
        have hz5 := hB25.size
        obtain ⟨er, f, s', m', ho⟩ : ∃ er f s' m', stepO (oneIm (encW n a b c i) z.d.length sh.length) 0 z sh (fun _ => 7) = (er, f, s', m') := ⟨_, _, _, _, rfl⟩
        obtain ⟨t', ho2, hRF⟩ := reads_facts (v := v) hv hzpc hrz (by omega) (by omega) hur ho
        have HRF := Lib.hid hRF
        have HST := Lib.hid (step_out (.agg #[.slice p 2 cc, .slice (some ⟨w1.heap.size + 1 + 1, 0, none⟩) 1 1, .int .i64 sh.length, .int .i64 4]) (oneIm (encW n a b c i) z.d.length sh.length) 0 bx z (.slice px z.d.length cx) (.slice pa sh.length ca) (.func (.func 28) #[] #[]) sh (fun _ => 7) w5 ⟨hT.of_below HB5, hO.of_below HB5, him5, hA.st, hA.d, hA.m, hA.dS, hA.mS, hA.dm, hA.r32⟩ (fun j => .pure 28 #[] rfl (enters_of Tryd.func28 (by kernel_rfl) rfl) rfl (fun W _ => seven_port W j)) er f s' m' ho)
        have HO2 := Lib.hid ho2
        have HOA := Lib.hid hA.own
        have HOD := Lib.hid hD.own
        have HD5 := Lib.hid hD
        have HNE := Lib.hid (show by' ≠ bx from fun e => HDI.out bx (.inl rfl) (.inl e.symm))
        have HLY := Lib.hid (show w.heap.size ≤ by' by have := (hD.own by' (.inl rfl)).1; omega)
        have HOX : Hid (((.slice px z.d.length cx) : Value).ownBlock ≠ some by') := (show _ ≠ _ from fun e => HDI.out by' (.inr (.inl e)) (.inl rfl))
        have HOY : Hid (((.slice py z.d.length cy) : Value).ownBlock ≠ some by') := (show _ ≠ _ from hD.dS)
        clear ho ho2 hRF hA hD him5 hur hzpc hz0
        have hm5 := hM5.lt
        have q0 := hM5.cell 0
        have q1 := hM5.cell 1
        have q2 := hM5.cell 2
        have q3 := hM5.cell 3
        simp only [List.getElem?_cons_zero, List.getElem?_cons_succ] at q0 q1 q2 q3
        go_wp2_with fail
        refine HST.out.mono ?_
        rintro e w6 ⟨rfl, hK6, hX6, hDx6, hCx6⟩
        simp only [Ef.val, effV]
        have hXt : Tri w6 bx (.slice px z.d.length cx) (.slice pa sh.length ca) s' m' := ⟨hX6, hDx6, hCx6⟩
        have hD6 := HD5.out.kept hK6 (fun k h => HDI.out k h)
        have hB56 : Below w2.heap.size w5 w6 := hK6.below hB25.size (fun k h => (HOA.out k h).1)
        have hB26 : Below w2.heap.size w2 w6 := hB25.trans hB56
        have hz6 := hK6.size
        have hM6 := hM2.below hB26 hM2.lt
        have hml : m'.length = sh.length := mem_len hCx6
        have hsl' : s'.d.length = z.d.length := mem_len hDx6
        clear HST q0 q1 q2 q3 hM5 hm5 hK6 hX6 hDx6 hCx6 hB56 HD5
        have hba : Below w6.heap.size w6 (w6.alloc (.cells #[.int .u8 f.n, .int .i64 f.a, .int .i64 f.b, .int .i64 f.c, .int .i64 f.i, .int .i64 f.pc, .bool f.tk, .int .i64 f.ad, .int .i32 f.vl] 36)) := bAlloc (Nat.le_refl _) (Below.refl _ _)
        have hD6a := hD6.below hba
        have hXa := hXt.below hba
        have hB26a : Below w2.heap.size w2 (w6.alloc (.cells #[.int .u8 f.n, .int .i64 f.a, .int .i64 f.b, .int .i64 f.c, .int .i64 f.i, .int .i64 f.pc, .bool f.tk, .int .i64 f.ad, .int .i32 f.vl] 36)) := hB26.trans (hba.mono hB26.size)
        have HB6a : Below w.heap.size w (w6.alloc (.cells #[.int .u8 f.n, .int .i64 f.a, .int .i64 f.b, .int .i64 f.c, .int .i64 f.i, .int .i64 f.pc, .bool f.tk, .int .i64 f.ad, .int .i32 f.vl] 36)) := hB2.trans (hB26a.mono hsB2)
        have hEa : RowAt (w6.alloc (.cells #[.int .u8 f.n, .int .i64 f.a, .int .i64 f.b, .int .i64 f.c, .int .i64 f.i, .int .i64 f.pc, .bool f.tk, .int .i64 f.ad, .int .i32 f.vl] 36)) w6.heap.size [.int .u8 f.n, .int .i64 f.a, .int .i64 f.b, .int .i64 f.c, .int .i64 f.i, .int .i64 f.pc, .bool f.tk, .int .i64 f.ad, .int .i32 f.vl] := ⟨_, heap_alloc_new _ _⟩
        have hza : (w6.alloc (.cells #[.int .u8 f.n, .int .i64 f.a, .int .i64 f.b, .int .i64 f.c, .int .i64 f.i, .int .i64 f.pc, .bool f.tk, .int .i64 f.ad, .int .i32 f.vl] 36)).heap.size = w6.heap.size + 1 := by simp
        have HST := Lib.hid (step_out (.agg #[.slice p 2 cc, .slice (some ⟨w1.heap.size + 1 + 1, 0, none⟩) 1 1, .int .i64 sh.length, .int .i64 4]) (oneIm (encW n a b c i) z.d.length sh.length) 0 by' { z with r := z.r.set r v } (.slice py z.d.length cy) (.slice pb sh.length cb) (.func (.func 28) #[] #[]) sh (fun _ => 7) (w6.alloc (.cells #[.int .u8 f.n, .int .i64 f.a, .int .i64 f.b, .int .i64 f.c, .int .i64 f.i, .int .i64 f.pc, .bool f.tk, .int .i64 f.ad, .int .i32 f.vl] 36)) ⟨hT.of_below HB6a, hO.of_below HB6a, him2.below hB26a (Nat.le_refl _), hD6a.st, hD6a.d, hD6a.m, hD6a.dS, hD6a.mS, hD6a.dm, hD6a.r32⟩ (fun j => .pure 28 #[] rfl (enters_of Tryd.func28 (by kernel_rfl) rfl) rfl (fun W _ => seven_port W j)) er f t' m' HO2.out)
        have HXA := Lib.hid (⟨hXa, hB26a, HB6a, hEa, hza⟩ : _ ∧ _ ∧ _ ∧ _ ∧ _)
        clear hD6 hD6a hXt hXa hB26a HB6a hEa hza hba HO2 hB26
        have hm6 := hM6.lt
        have q0 := hM6.cell 0
        have q1 := hM6.cell 1
        have q2 := hM6.cell 2
        have q3 := hM6.cell 3
        simp only [List.getElem?_cons_zero, List.getElem?_cons_succ] at q0 q1 q2 q3
        go_wp2_with fail
        obtain ⟨hXa, hB26a, HB6a, hEa, hza⟩ := HXA.out
        have hst := HST.out
        clear HXA HST q0 q1 q2 q3 hM6 hm6
        generalize (w6.alloc (.cells #[.int .u8 f.n, .int .i64 f.a, .int .i64 f.b, .int .i64 f.c, .int .i64 f.i, .int .i64 f.pc, .bool f.tk, .int .i64 f.ad, .int .i32 f.vl] 36)) = w6a at hXa hB26a HB6a hEa hza hst ⊢
        refine hst.mono ?_
        clear hst
        rintro e w7 ⟨rfl, hK7, hY7, hDy7, hCy7⟩
        simp only [Ef.val, effV]
        have hYt : Tri w7 by' (.slice py z.d.length cy) (.slice pb sh.length cb) t' m' := ⟨hY7, hDy7, hCy7⟩
        have hX7 := hXa.kept hK7 (fun k h => HDI.out k h) (fun k h => by have := (HOA.out k h).2; omega)
        have hE7 := hEa.block (hK7.block _ (by omega) (fun h => by have := (HOD.out _ h).2; omega))
        have hB67 : Below w2.heap.size w6a w7 := hK7.below hB26a.size (fun k h => (HOD.out k h).1)
        have hB27 : Below w2.heap.size w2 w7 := hB26a.trans hB67
        have hz7 := hK7.size
        clear hK7 hY7 hDy7 hCy7 hXa hEa hB67 hB26a HB6a HOA HOD HDI
        have hba : Below w7.heap.size w7 (w7.alloc (.cells #[.int .u8 f.n, .int .i64 f.a, .int .i64 f.b, .int .i64 f.c, .int .i64 f.i, .int .i64 f.pc, .bool f.tk, .int .i64 f.ad, .int .i32 f.vl] 36)) := bAlloc (Nat.le_refl _) (Below.refl _ _)
        have hB27a : Below w2.heap.size w2 (w7.alloc (.cells #[.int .u8 f.n, .int .i64 f.a, .int .i64 f.b, .int .i64 f.c, .int .i64 f.i, .int .i64 f.pc, .bool f.tk, .int .i64 f.ad, .int .i32 f.vl] 36)) := hB27.trans (hba.mono hB27.size)
        have HB7a : Below w.heap.size w (w7.alloc (.cells #[.int .u8 f.n, .int .i64 f.a, .int .i64 f.b, .int .i64 f.c, .int .i64 f.i, .int .i64 f.pc, .bool f.tk, .int .i64 f.ad, .int .i32 f.vl] 36)) := hB2.trans (hB27a.mono hsB2)
        have hE7l := hE7.lt
        have HW7 := Lib.hid (words_any (.slice pa sh.length ca) (.slice pb sh.length cb) m' m' (w7.alloc (.cells #[.int .u8 f.n, .int .i64 f.a, .int .i64 f.b, .int .i64 f.c, .int .i64 f.i, .int .i64 f.pc, .bool f.tk, .int .i64 f.ad, .int .i32 f.vl] 36)) (hX7.below hba).m.rd (hYt.below hba).m.rd (by omega))
        have HXA := Lib.hid (⟨hX7.below hba, hYt.below hba, hB27a, HB7a⟩ : _ ∧ _ ∧ _ ∧ _)
        clear hX7 hYt hB27 hB27a HB7a hba
        have hneq := fun w => neq_ef f.n f.a f.b f.c f.i f.pc f.tk f.ad f.vl w
        have q0 := hE7.cell 0
        have q1 := hE7.cell 1
        have q2 := hE7.cell 2
        have q3 := hE7.cell 3
        have q4 := hE7.cell 4
        have q5 := hE7.cell 5
        have q6 := hE7.cell 6
        have q7 := hE7.cell 7
        have q8 := hE7.cell 8
        simp only [List.getElem?_cons_zero, List.getElem?_cons_succ] at q0 q1 q2 q3 q4 q5 q6 q7 q8
        go_wp2_with fail
        obtain ⟨hX7, hY7, hB27, HB7⟩ := HXA.out
        have hwd := HW7.out
        clear HXA HW7 hneq q0 q1 q2 q3 q4 q5 q6 q7 q8 hE7 hE7l
        generalize (w7.alloc (.cells #[.int .u8 f.n, .int .i64 f.a, .int .i64 f.b, .int .i64 f.c, .int .i64 f.i, .int .i64 f.pc, .bool f.tk, .int .i64 f.ad, .int .i32 f.vl] 36)) = w7a at hX7 hY7 hB27 HB7 hwd ⊢
        simp only [decide_true] at hwd
        refine hwd.mono ?_
        clear hwd
        rintro e w8 ⟨rfl, hb8⟩
        have hX8 := hX7.below hb8
        have hY8 := hY7.below hb8
        have hB28 : Below w2.heap.size w2 w8 := hB27.trans (hb8.mono hB27.size)
        have HB8 : Below w.heap.size w w8 := hB2.trans (hB28.mono hsB2)
        have hI8 := hI2.below hB28 hI2.lt
        have hl8 := hI8.lt
        have HWR := Lib.hid (writes_any n a b c i w8 (hT.of_below HB8))
        clear hX7 hY7 hB27 HB7 hb8
        have q0 := hI8.cell 0
        have q1 := hI8.cell 1
        have q2 := hI8.cell 2
        have q3 := hI8.cell 3
        have q4 := hI8.cell 4
        simp only [List.getElem?_cons_zero, List.getElem?_cons_succ] at q0 q1 q2 q3 q4
        go_wp2_with fail
        refine HWR.out.mono ?_
        clear HWR q0 q1 q2 q3 q4 hI8 hl8
        rintro e w9 ⟨rfl, hb9⟩
        have HX9 := Lib.hid (hX8.below hb9)
        have HY9 := Lib.hid (hY8.below hb9)
        have hB29 : Below w2.heap.size w2 w9 := hB28.trans (hb9.mono hB28.size)
        have HB9 : Below w.heap.size w w9 := hB2.trans (hB29.mono hsB2)
        have hS9 := hSt2.below hB29 hSt2.lt
        have hgs := hS9.reg r (by omega)
        have hls := hS9.lt
        clear hX8 hY8 hB28 HB8 hb9 hS9
        generalize wrR n a b c i = wv at HRF ⊢
        have hrx : HX9.out.st.1 = HX9.out.st.1 := rfl
        clear hrx
        have hlx := HX9.out.st.lt
        have hly := HY9.out.st.lt
        have HIs : Hid ((Tryd.prog.info? 29).map (·.size) = some (stCells s' (.slice px z.d.length cx)).length) := (show _ = _ by rw [stCells_len HX9.out.st.1]; exact infoState)
        have HIy : Hid ((Tryd.prog.info? 29).map (·.size) = some (stCells s' (.slice py z.d.length cy)).length) := (show _ = _ by rw [stCells_len HX9.out.st.1]; exact infoState)
        have HXr := Lib.hid HX9.out.st.2.range
        obtain ⟨u, hu⟩ : ∃ u : Bool, (wv != 0) = u := ⟨_, rfl⟩
        rw [hu]
        have HU := Lib.hid hu
        clear hu
        go_upto_region 25 with fail
        go_cut [138] (fun v wx => v = .bool (decide (er = 0 ∧ wv = r)) ∧ wx = w9)
        case first =>
          by_cases h1 : er = 0
          · subst h1
            cases u
            · go_wp2_with fail
              go_meet
              exact ⟨by have h := HU.out; have h2 : wv = 0 := by simpa using h
                        rw [h2]; simp; omega, rfl⟩
            · go_wp2_with fail
              go_meet
              exact ⟨by by_cases e : wv = (r : Int) <;> simp [e], rfl⟩
          · have h1' : (er == 0) = false := by simpa using h1
            go_wp2_with fail
            go_meet
            exact ⟨by simp [h1], rfl⟩
        case rest =>
          obtain ⟨hv9, hwc⟩ := hcut
          rw [hv9, hwc]
          clear hv9 hwc
          by_cases hc : er = 0 ∧ wv = r
          · have hcd : decide (er = 0 ∧ wv = r) = true := by simpa using hc
            rw [hcd]
            clear hcd
            obtain ⟨rfl, rfl⟩ := hc
            have hts := HRF.out.same ⟨rfl, rfl⟩
            rw [hts] at HY9
            have HYr := Lib.hid HY9.out.st.2.range
            have HRx := Lib.hid HX9.out.st.regs
            have HRy := Lib.hid HY9.out.st.regs
            have HI16 : Hid ((Tryd.prog.info? 26).map (·.size) = some (s'.r.map (Value.int .i32)).length) := (show _ = _ by rw [List.length_map, HX9.out.st.1]; kernel_rfl)
            have heq := run_eql_regs s'.r s'.r HX9.out.st.1 HX9.out.st.1
            rw [show (s'.r == s'.r) = true by simp] at heq
            have HE := Lib.hid (equalS s' (.slice px z.d.length cx) (.slice py z.d.length cy) w9 HX9.out.st.1 HX9.out.d.rd HY9.out.d.rd (by omega))
            go_upto_region 26 with fail
            go_wp2_with (first
              | (refine BigFrame.wpList_want rfl (fun K hK => wp_load_mid 26 (.tmp 139) rfl bx 1 rfl (s'.r.map (Value.int .i32)) _ HRx.out Tryd.underlying26 rfl HI16.out (hK _ _ ?_)))
              | (refine BigFrame.wpList_want rfl (fun K hK => wp_load_mid 26 (.tmp 141) rfl by' 1 rfl (s'.r.map (Value.int .i32)) _ HRy.out Tryd.underlying26 rfl HI16.out (hK _ _ ?_)))
              | (refine wpList_eql_regs rfl _ _ _ rfl s'.r HX9.out.st.1 rfl rfl ?_)
              | (refine BigFrame.wpList_want rfl (fun K hK => wp_load_mid 29 (.tmp 17) rfl bx 0 rfl (stCells s' (.slice px z.d.length cx)) _ HXr.out Tryd.underlying29 rfl HIs.out (hK _ _ ?_)))
              | (refine BigFrame.wpList_want rfl (fun K hK => wp_load_mid 29 (.tmp 18) rfl by' 0 rfl (stCells s' (.slice py z.d.length cy)) _ HYr.out Tryd.underlying29 rfl HIy.out (hK _ _ ?_))))
            refine HE.out.mono ?_
            rintro e w10 ⟨rfl, hb10⟩
            go_wp2_with fail
            go_ret
            exact ⟨rfl, bThen hb10 HB9.size HB9⟩
          · have HBK := Lib.hid (HRF.out.back hc)
            have hown : t'.r.getD r 0 = v := HRF.out.own hc
            have hgy : w9.cell? ⟨by', 1 + r, none⟩ = some (.int .i32 v) := by rw [← hown]; exact HY9.out.st.reg r (by omega)
            have hfy := HY9.out.st.frozen (1 + r)
            have hYs : StAt (w9.setCell ⟨by', 1 + r, none⟩ (.int .i32 (z.r.getD r 0))) by' s' (.slice py z.d.length cy) := by
              have h := HY9.out.st.setReg r (by omega) (z.r.getD r 0)
              rw [HBK.out] at h
              exact h
            have hne : by' ≠ bx := HNE.out
            have hbs : Below w.heap.size w (w9.setCell ⟨by', 1 + r, none⟩ (.int .i32 (z.r.getD r 0))) := bSet HLY.out HB9
            have hXs : StAt (w9.setCell ⟨by', 1 + r, none⟩ (.int .i32 (z.r.getD r 0))) bx s' (.slice px z.d.length cx) := HX9.out.st.other hne _
            have HXq := Lib.hid hXs.2.range
            have HYq := Lib.hid hYs.2.range
            have HE := Lib.hid (equalS s' (.slice px z.d.length cx) (.slice py z.d.length cy) (w9.setCell ⟨by', 1 + r, none⟩ (.int .i32 (z.r.getD r 0))) HX9.out.st.1 (HX9.out.d.other (p := ⟨by', 1 + r, none⟩) (fun e => HOX.out e) (.int .i32 (z.r.getD r 0))).rd (by have h := (HY9.out.d.other (p := ⟨by', 1 + r, none⟩) (fun e => HOY.out e) (.int .i32 (z.r.getD r 0))).rd; rw [HRF.out.dlen] at h; exact h) (by omega))
            have hbs2 := Lib.hid hbs
            clear hbs hXs hYs HX9 HY9 HXr hown
            generalize z.r.getD r 0 = zr at hgs HXq HYq HE hbs2
            have hcd : decide (er = 0 ∧ wv = r) = false := by simpa using hc
            rw [hcd]
            clear hcd hc
            go_upto_region 27 with fail
            go_upto_region 30 with fail
            go_wp2_with (first
              | (refine wpList_load_mid rfl 29 (.tmp 17) rfl bx 0 rfl (stCells s' (.slice px z.d.length cx)) _ HXq.out Tryd.underlying29 rfl HIs.out ?_; simp only [put_lit, put_no]; dsimp only [List.set_cons_succ, List.set_cons_zero])
              | (refine wpList_load_mid rfl 29 (.tmp 18) rfl by' 0 rfl (stCells s' (.slice py z.d.length cy)) _ HYq.out Tryd.underlying29 rfl HIy.out ?_; simp only [put_lit, put_no]; dsimp only [List.set_cons_succ, List.set_cons_zero]))
            refine HE.out.mono ?_
            rintro e w10 ⟨rfl, hb10⟩
            go_wp2_with fail
            go_ret
            exact ⟨rfl, bThen hb10 hbs2.out.size hbs2.out⟩
      · go_wp2_with fail
        go_ret
        exact ⟨rfl, hB7⟩

end Go.Proofs.YtlmipchjmgnlfaaDoor
