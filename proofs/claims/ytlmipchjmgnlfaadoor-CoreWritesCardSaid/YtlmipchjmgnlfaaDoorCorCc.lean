/- The law CoreWrites. -/
import Derived.Test.YtlmipchjmgnlfaaDoorCorCb
import Derived.Deep.RegionHeld3
import Derived.Test.YtlmipchjmgnlfaaDoorIsaO
import Derived.Deep.CutBlock
set_option linter.unusedVariables false
set_option linter.unusedSimpArgs false
namespace Go.Proofs.YtlmipchjmgnlfaaDoor
open Go.RowKit

theorem in_port (q : Nat) (W : World) (i v : Int) (hq : W.cell? ⟨q, 0, none⟩ = some (.int .i32 v)) : Calls Tryd.prog 25 #[.int .i64 i, .pointer (some ⟨q, 0, none⟩)] W fun e w' => e = .returned (.int .i32 v) ∧ Below W.heap.size W w' := by
  go_enter Tryd.func25, Tryd.ntmps25
  go_wp2_with fail
  go_ret
  exact ⟨rfl, Below.refl _ _⟩

theorem mem_at {w : World} {p : Option Addr} {n cap : Nat} {xs : List Int} (h : MemAt w (.slice p n cap) xs) (k : Nat) (hk : k < xs.length) : ∃ g o, p = some ⟨g, o, none⟩ ∧ g < w.heap.size ∧ w.cell? ⟨g, o + k, none⟩ = some (.int .i32 (xs.getD k 0)) := by
  obtain ⟨g, o, cap', hv, hg, hc, _⟩ := h.at k hk
  injection hv with e1
  exact ⟨g, o, e1, hg, hc⟩
theorem rd_at {w : World} {p : Option Addr} {n cap : Nat} {xs : List Int} (h : RdAt w (.slice p n cap) xs) (k : Nat) (hk : k < xs.length) : ∃ g o, p = some ⟨g, o, none⟩ ∧ g < w.heap.size ∧ w.cell? ⟨g, o + k, none⟩ = some (.int .i32 (xs.getD k 0)) := by
  obtain ⟨p', cap', hv, hr⟩ := h
  injection hv with e1
  subst e1
  exact hr k hk

set_option maxHeartbeats 30000000 in
set_option maxRecDepth 100000 in
theorem writesLaw_any (n : Nat) (a b c i : Int) (s : St) (dp : Option Addr) (dcap : Nat) (mp : Option Addr) (mcap : Nat) (sh : List Int) (inp : Int) (w : World) (hT : Tab w) (hO : OTab w) (hr : s.r.length = 16) (hrd : RdAt w (.slice dp s.d.length dcap) s.d) (hn0 : ∀ c, Value.slice dp s.d.length dcap = .slice none 0 c → c = 0)
    (hrm : RdAt w (.slice mp sh.length mcap) sh) (hm0 : ∀ c, Value.slice mp sh.length mcap = .slice none 0 c → c = 0) (R32 : Hid (∀ j, W32 (s.r.getD j 0))) (D32 : Hid (∀ j, W32 (s.d.getD j 0))) (M32 : Hid (∀ j, W32 (sh.getD j 0))) (hin : W32 inp) :
    Calls Tryd.prog 8 #[.agg #[.int .u8 n, .int .i64 a, .int .i64 b, .int .i64 c, .int .i64 i], stV s (.slice dp s.d.length dcap), .slice mp sh.length mcap, .int .i32 inp] w fun e w' => e = .returned (.bool true) ∧ Below w.heap.size w w' := by
  obtain ⟨i0, hi0, hz0', hz1', hz2'⟩ := info_parts Tryd.info32
  have hxi := Tryd.underlying27
  have HI : Hid ((Tryd.prog.info? 29).map (·.size) = some (stCells s (.slice dp s.d.length dcap)).length) := (show _ = _ by rw [stCells_len hr]; exact infoState)
  go_enter Tryd.func8, Tryd.ntmps8
  go_wp2_with fail
  have hb0 : Below w.heap.size w (((w.alloc (.cells #[.int .u8 n, .int .i64 a, .int .i64 b, .int .i64 c, .int .i64 i] 34)).alloc (.cells (stCells s (.slice dp s.d.length dcap)).toArray 29)).alloc (.cells #[.int .i32 inp] 21)) := bAlloc (by simp; omega) (bAlloc (by simp) (bAlloc (Nat.le_refl _) (Below.refl _ _)))
  refine (awake_any _ (hT.of_below hb0) (hO.of_below hb0)).mono ?_
  rintro e w1 ⟨rfl, hb1⟩
  have hB1 : Below w.heap.size w w1 := below_then hb0 hb1 (by simp; omega)
  have hI1 : RowAt w1 w.heap.size [.int .u8 n, .int .i64 a, .int .i64 b, .int .i64 c, .int .i64 i] := RowAt.below (B := w.heap.size + 1) ⟨_, (Below.heap_alloc _ _ _ (by simp; omega)).trans ((Below.heap_alloc _ _ _ (by simp)).trans (heap_alloc_new _ _))⟩ (hb1.mono (by simp)) (by omega)
  have hS1 : RowAt w1 (w.heap.size + 1) (stCells s (.slice dp s.d.length dcap)) := RowAt.below (B := w.heap.size + 2) ⟨_, (Below.heap_alloc _ _ _ (by simp)).trans (heap_at1 _ _ _)⟩ (hb1.mono (by simp)) (by omega)
  have hN1 : RowAt w1 (w.heap.size + 1 + 1) [.int .i32 inp] := by
    have h := heap_alloc_new ((w.alloc (.cells #[.int .u8 n, .int .i64 a, .int .i64 b, .int .i64 c, .int .i64 i] 34)).alloc (.cells (stCells s (.slice dp s.d.length dcap)).toArray 29)) (.cells #[.int .i32 inp] 21)
    rw [show ((w.alloc (.cells #[.int .u8 n, .int .i64 a, .int .i64 b, .int .i64 c, .int .i64 i] 34)).alloc (.cells (stCells s (.slice dp s.d.length dcap)).toArray 29)).heap.size = w.heap.size + 1 + 1 by simp] at h
    exact RowAt.below (B := w.heap.size + 3) ⟨_, h⟩ (hb1.mono (by simp)) (by omega)
  clear hb1 hb0
  have x0 := hI1.cell 0
  have x1 := hI1.cell 1
  have x2 := hI1.cell 2
  have x3 := hI1.cell 3
  have x4 := hI1.cell 4
  simp only [List.getElem?_cons_zero, List.getElem?_cons_succ] at x0 x1 x2 x3 x4
  have d17 := (show StAt w1 (w.heap.size + 1) s (.slice dp s.d.length dcap) from ⟨hr, hS1⟩).d
  have hs1 := hN1.lt
  have hs1b := hS1.lt
  have hs1a := hI1.lt
  go_wp2_with fail
  have hb2 : Below w1.heap.size w1 (w1.alloc (.cells #[.int .u8 n, .int .i64 a, .int .i64 b, .int .i64 c, .int .i64 i, .int .u8 0, .int .i64 0, .int .i64 0, .int .i64 0, .int .i64 0] 34)) := bAlloc (Nat.le_refl _) (Below.refl _ _)
  have hz2 : ∀ j, (w1.alloc (.cells #[.int .u8 n, .int .i64 a, .int .i64 b, .int .i64 c, .int .i64 i, .int .u8 0, .int .i64 0, .int .i64 0, .int .i64 0, .int .i64 0] 34)).cell? ⟨w1.heap.size, j, none⟩ = (#[.int .u8 n, .int .i64 a, .int .i64 b, .int .i64 c, .int .i64 i, .int .u8 0, .int .i64 0, .int .i64 0, .int .i64 0, .int .i64 0] : Array Value)[j]? := fun j => cell_of_row _ _ _ _ _ _ (heap_alloc_new _ _)
  have hsz2 : (w1.alloc (.cells #[.int .u8 n, .int .i64 a, .int .i64 b, .int .i64 c, .int .i64 i, .int .u8 0, .int .i64 0, .int .i64 0, .int .i64 0, .int .i64 0] 34)).heap.size = w1.heap.size + 1 := by simp
  have hB2 : Below w.heap.size w (w1.alloc (.cells #[.int .u8 n, .int .i64 a, .int .i64 b, .int .i64 c, .int .i64 i, .int .u8 0, .int .i64 0, .int .i64 0, .int .i64 0, .int .i64 0] 34)) := bThen hb2 hB1.size hB1
  have hT2 : Tab (w1.alloc (.cells #[.int .u8 n, .int .i64 a, .int .i64 b, .int .i64 c, .int .i64 i, .int .u8 0, .int .i64 0, .int .i64 0, .int .i64 0, .int .i64 0] 34)) := hT.of_below hB2
  generalize (w1.alloc (.cells #[.int .u8 n, .int .i64 a, .int .i64 b, .int .i64 c, .int .i64 i, .int .u8 0, .int .i64 0, .int .i64 0, .int .i64 0, .int .i64 0] 34)) = w2 at hb2 hz2 hsz2 hB2 hT2 ⊢
  cases hv : vld n a b c i
  · refine (one_bad w1.heap.size 2 n a b c i s.d.length sh.length 4 w2 hT2 (by omega) hv ⟨hz2 0, hz2 1, hz2 2, hz2 3, hz2 4⟩).mono ?_
    rintro e w3 ⟨rfl, hb3⟩
    have hB3 : Below w.heap.size w w3 := bThen hb3 hB2.size hB2
    clear x0 x1 x2 x3 x4 d17 hz2 hb3
    go_wp2_with fail
    go_ret
    exact ⟨rfl, bAlloc hB3.size hB3⟩
  have hone := one_ok w1.heap.size 0 2 [⟨n, a, b, c, i⟩, ⟨0, 0, 0, 0, 0⟩] s.d.length sh.length 4 w2 hT2 (by simp) (by omega) (by
    intro k hk
    match k, hk with
    | 0, _ => exact hv
    | 1, _ => rfl) (by
    intro k hk
    match k, hk with
    | 0, _ => exact ⟨hz2 0, hz2 1, hz2 2, hz2 3, hz2 4⟩
    | 1, _ => exact ⟨hz2 5, hz2 6, hz2 7, hz2 8, hz2 9⟩)
  clear hz2
  rw [show ([⟨n, a, b, c, i⟩, ⟨0, 0, 0, 0, 0⟩] : List Ins).length = 2 from rfl, hsz2] at hone
  refine hone.mono ?_
  rintro e w3 ⟨p, cc, rfl, hown, hen, hb3⟩
  clear hone
  have hbd := encW_bd hv
  have hB13 : Below w1.heap.size w1 w3 := hb2.trans (hb3.mono (by omega))
  have hB3 : Below w.heap.size w w3 := hB2.trans (hb3.mono (by have := hB1.size; omega))
  have hz3 := hb3.size
  have HOW := Lib.hid hown
  have HEN := Lib.hid hen
  have HBD := Lib.hid hbd
  clear hown hen hb3 hb2 hB2 hT2 hbd x0 x1 x2 x3 x4 d17
  have hI3 := hI1.below hB13 hI1.lt
  have hS3 := hS1.below hB13 hS1.lt
  have hN3 := hN1.below hB13 hN1.lt
  clear hI1 hS1 hN1
  have hb4 : Below w3.heap.size w3 (w3.alloc (.cells #[.slice p 2 cc, .slice (some ⟨(w1.heap.size + 1 + 1), 0, none⟩) 1 1, .int .i64 sh.length, .int .i64 4] 25)) := bAlloc (Nat.le_refl _) (Below.refl _ _)
  have hM4 : RowAt (w3.alloc (.cells #[.slice p 2 cc, .slice (some ⟨(w1.heap.size + 1 + 1), 0, none⟩) 1 1, .int .i64 sh.length, .int .i64 4] 25)) w3.heap.size [.slice p 2 cc, .slice (some ⟨(w1.heap.size + 1 + 1), 0, none⟩) 1 1, .int .i64 sh.length, .int .i64 4] := ⟨_, heap_alloc_new _ _⟩
  have hB4 : Below w.heap.size w (w3.alloc (.cells #[.slice p 2 cc, .slice (some ⟨(w1.heap.size + 1 + 1), 0, none⟩) 1 1, .int .i64 sh.length, .int .i64 4] 25)) := bThen hb4 hB3.size hB3
  have hS4 := hS3.below hb4 hS3.lt
  have HS4 := Lib.hid hS4.range
  have hz4 : (w3.alloc (.cells #[.slice p 2 cc, .slice (some ⟨(w1.heap.size + 1 + 1), 0, none⟩) 1 1, .int .i64 sh.length, .int .i64 4] 25)).heap.size = w3.heap.size + 1 := by simp
  cases hsm : smallB 2 1 s.d.length sh.length
  · have SM := Lib.hid (fun (w : World) => smallS s p (some ⟨(w1.heap.size + 1 + 1), 0, none⟩) dp mp 2 cc 1 1 s.d.length dcap sh.length mcap sh.length 4 w hr)
    rw [hsm, if_neg (by simp)] at SM
    go_wp2_with (first | (refine BigFrame.wpList_want rfl (fun K hK => wp_load_mid 29 (.tmp 5) rfl (w.heap.size + 1) 0 rfl (stCells s (.slice dp s.d.length dcap)) _ HS4.out Tryd.underlying29 rfl HI.out (hK _ _ ?_))))
    refine (SM.out _).mono ?_
    rintro e w5 ⟨rfl, hb5⟩
    go_wp2_with fail
    go_ret
    exact ⟨rfl, bThen hb5 (by have := hB3.size; omega) hB4⟩
  have SM := Lib.hid (fun (w : World) => smallS s p (some ⟨(w1.heap.size + 1 + 1), 0, none⟩) dp mp 2 cc 1 1 s.d.length dcap sh.length mcap sh.length 4 w hr)
  rw [hsm, if_pos (by simp)] at SM
  have hsz : s.d.length ≤ 100 ∧ sh.length ≤ 100 := by
    have h : 2 ≤ 200 ∧ 1 ≤ 8 ∧ s.d.length ≤ 100 ∧ sh.length ≤ 100 := by simpa [smallB] using hsm
    exact ⟨h.2.2.1, h.2.2.2⟩
  clear hsm
  go_wp2_with (first | (refine BigFrame.wpList_want rfl (fun K hK => wp_load_mid 29 (.tmp 5) rfl (w.heap.size + 1) 0 rfl (stCells s (.slice dp s.d.length dcap)) _ HS4.out Tryd.underlying29 rfl HI.out (hK _ _ ?_))))
  refine (SM.out _).mono ?_
  rintro e w5 ⟨rfl, hb5⟩
  have hB5 : Below w.heap.size w w5 := bThen hb5 (by have := hB3.size; omega) hB4
  have hM5 := hM4.below hb5 hM4.lt
  have hb35 : Below w3.heap.size w3 w5 := hb4.trans (hb5.mono (by omega))
  have HK35 := Lib.hid (Kept.of_below (F := fun k => k = w.heap.size + 1) hb35)
  have hI5 := hI3.below hb35 hI3.lt
  have hS5 := hS3.below hb35 hS3.lt
  have hN5 := hN3.below hb35 hN3.lt
  clear hb5 hM4 hS4 HS4 SM hb4 hB4 hz4 hb35 hI3 hS3 hN3
  have hSt5 : StAt w5 (w.heap.size + 1) s (.slice dp s.d.length dcap) := ⟨hr, hS5⟩
  have f0 := hSt5.frozen 0
  have f1 := hSt5.frozen 1
  have f18 := hSt5.frozen 18
  have p0 := hSt5.pc
  have p1 : w5.cell? ⟨w.heap.size + 1, 1, none⟩ = some (.int .i32 (s.r.getD 0 0)) := hSt5.reg 0 (by omega)
  have p18 := hSt5.halted
  have hl5 := hS5.lt
  have hm5 := hM5.lt
  have hn5 := hN5.lt
  have q0 := hM5.cell 0
  have q1 := hM5.cell 1
  have q2 := hM5.cell 2
  have q3 := hM5.cell 3
  simp only [List.getElem?_cons_zero, List.getElem?_cons_succ] at q0 q1 q2 q3
  have hK36 : Kept (fun k => k = w.heap.size + 1) w3 (((w5.setCell ⟨w.heap.size + 1, 0, none⟩ (.int .i64 0)).setCell ⟨w.heap.size + 1, 18, none⟩ (.bool false)).setCell ⟨w.heap.size + 1, 1, none⟩ (.int .i32 0)) := ((HK35.out.setCell rfl _).setCell rfl _).setCell rfl _
  have hSt6 : StAt (((w5.setCell ⟨w.heap.size + 1, 0, none⟩ (.int .i64 0)).setCell ⟨w.heap.size + 1, 18, none⟩ (.bool false)).setCell ⟨w.heap.size + 1, 1, none⟩ (.int .i32 0)) (w.heap.size + 1) { s with pc := 0, halted := false, r := s.r.set 0 0 } (.slice dp s.d.length dcap) := ((hSt5.setPc 0).setHalted false).setReg 0 (by omega) 0
  have hB6 : Below w.heap.size w (((w5.setCell ⟨w.heap.size + 1, 0, none⟩ (.int .i64 0)).setCell ⟨w.heap.size + 1, 18, none⟩ (.bool false)).setCell ⟨w.heap.size + 1, 1, none⟩ (.int .i32 0)) := bSet (by show w.heap.size ≤ w.heap.size + 1; omega) (bSet (by show w.heap.size ≤ w.heap.size + 1; omega) (bSet (by show w.heap.size ≤ w.heap.size + 1; omega) hB5))
  have hI6 : RowAt (((w5.setCell ⟨w.heap.size + 1, 0, none⟩ (.int .i64 0)).setCell ⟨w.heap.size + 1, 18, none⟩ (.bool false)).setCell ⟨w.heap.size + 1, 1, none⟩ (.int .i32 0)) w.heap.size [.int .u8 n, .int .i64 a, .int .i64 b, .int .i64 c, .int .i64 i] := ((hI5.other (by show w.heap.size + 1 ≠ w.heap.size; omega) _).other (by show w.heap.size + 1 ≠ w.heap.size; omega) _).other (by show w.heap.size + 1 ≠ w.heap.size; omega) _
  have hM6 : RowAt (((w5.setCell ⟨w.heap.size + 1, 0, none⟩ (.int .i64 0)).setCell ⟨w.heap.size + 1, 18, none⟩ (.bool false)).setCell ⟨w.heap.size + 1, 1, none⟩ (.int .i32 0)) w3.heap.size [.slice p 2 cc, .slice (some ⟨(w1.heap.size + 1 + 1), 0, none⟩) 1 1, .int .i64 sh.length, .int .i64 4] := ((hM5.other (by show w.heap.size + 1 ≠ w3.heap.size; omega) _).other (by show w.heap.size + 1 ≠ w3.heap.size; omega) _).other (by show w.heap.size + 1 ≠ w3.heap.size; omega) _
  have hN6 : RowAt (((w5.setCell ⟨w.heap.size + 1, 0, none⟩ (.int .i64 0)).setCell ⟨w.heap.size + 1, 18, none⟩ (.bool false)).setCell ⟨w.heap.size + 1, 1, none⟩ (.int .i32 0)) (w.heap.size + 1 + 1) [.int .i32 inp] := ((hN5.other (by show w.heap.size + 1 ≠ w.heap.size + 1 + 1; omega) _).other (by show w.heap.size + 1 ≠ w.heap.size + 1 + 1; omega) _).other (by show w.heap.size + 1 ≠ w.heap.size + 1 + 1; omega) _
  have him6 : ImAt (((w5.setCell ⟨w.heap.size + 1, 0, none⟩ (.int .i64 0)).setCell ⟨w.heap.size + 1, 18, none⟩ (.bool false)).setCell ⟨w.heap.size + 1, 1, none⟩ (.int .i32 0)) (.agg #[.slice p 2 cc, .slice (some ⟨(w1.heap.size + 1 + 1), 0, none⟩) 1 1, .int .i64 sh.length, .int .i64 4]) (oneIm (encW n a b c i) s.d.length sh.length) := imAt_one (codes := [encW n a b c i, encW 0 0 0 0 0]) (own_kept HOW.out hK36 (fun k hk => by omega) (Nat.le_refl _)) (HEN.out.block (hK36.block _ HEN.out.lt (by omega))) (by
    intro k hk
    match k, hk with
    | 0, _ => exact HBD.out
    | 1, _ => exact encW_bd (n := 0) (a := 0) (b := 0) (c := 0) (i := 0) rfl) (by simp)
  have HR6 := Lib.hid (show (s.r.set 0 0).length = 16 by rw [List.length_set]; exact hr)
  have HZ6 := Lib.hid (show (s.r.set 0 0).getD 0 0 = 0 by rw [getD_set_eq (by omega)])
  have HW6 := Lib.hid (show ∀ j, W32 ((s.r.set 0 0).getD j 0) from fun j => by
    by_cases hj : j = 0
    · subst hj; rw [getD_set_eq (by omega)]; exact ⟨by omega, by omega⟩
    · rw [getD_set_ne (Ne.symm hj)]; exact R32.out j)
  have HX6 := Lib.hid (⟨hSt6, hB6, hI6, hM6, hN6, him6⟩ : _ ∧ _ ∧ _ ∧ _ ∧ _ ∧ _)
  clear HK35 hK36 HOW HEN HBD hSt6 hB6 hI6 hM6 hN6 him6 hSt5
  go_wp2_with fail
  obtain ⟨hSt6, hB6, hI6, hM6, hN6, him6⟩ := HX6.out
  clear HX6
  generalize (((w5.setCell ⟨w.heap.size + 1, 0, none⟩ (.int .i64 0)).setCell ⟨w.heap.size + 1, 18, none⟩ (.bool false)).setCell ⟨w.heap.size + 1, 1, none⟩ (.int .i32 0)) = w6 at hSt6 hB6 hI6 hM6 hN6 him6 ⊢
  clear f0 f1 f18 p0 p1 p18 hl5 hm5 hn5 q0 q1 q2 q3 hI5 hS5 hM5 hN5 hB5
  refine (fits_all _ _ 0 _ _ _ _ him6 hSt6 ⟨_, _, rfl⟩).mono ?_
  rintro e w7 ⟨rfl, hb7⟩
  have hB7 : Below w.heap.size w w7 := bThen hb7 hB6.size hB6
  cases hfit : fitP (oneIm (encW n a b c i) s.d.length sh.length) 0 { s with pc := 0, halted := false, r := s.r.set 0 0 }
  · go_wp2_with fail
    go_ret
    exact ⟨rfl, hB7⟩
  have hSt7 := hSt6.below hb7 hSt6.lt
  have hI7 := hI6.below hb7 hI6.lt
  have hM7 := hM6.below hb7 hM6.lt
  have hN7 := hN6.below hb7 hN6.lt
  have him7 := him6.below hb7 (Nat.le_refl _)
  clear hfit hSt6 hB6 hI6 hM6 hN6 him6 hb7
  obtain ⟨z, hz⟩ : ∃ z : St, z = { s with pc := 0, halted := false, r := s.r.set 0 0 } := ⟨_, rfl⟩
  rw [← hz] at hSt7
  have hrz : z.r.length = 16 := by rw [hz]; exact HR6.out
  have hz0 : z.r.getD 0 0 = 0 := by rw [hz]; exact HZ6.out
  have hzpc : z.pc = 0 := by rw [hz]
  have hzd : z.d = s.d := by rw [hz]
  have Rz : Hid (∀ j, W32 (z.r.getD j 0)) := (show ∀ j, W32 (z.r.getD j 0) by rw [hz]; exact HW6.out)
  clear hz HR6 HZ6 HW6 R32
  have Dz : Hid (∀ j, W32 (z.d.getD j 0)) := (show ∀ j, W32 (z.d.getD j 0) by rw [hzd]; exact D32.out)
  rw [← hzd] at hSt7 hrd hn0 him7 hsz ⊢
  clear hzd D32 hr HI
  have HI20 : (Tryd.prog.info? 29).map (·.size) = some (stCells z (.slice dp z.d.length dcap)).length := by rw [stCells_len hrz]; exact infoState
  have hrz7 := hrd.below hB7 (Nat.le_refl _)
  have hrm7 := hrm.below hB7 (Nat.le_refl _)
  have hlhS := hSt7.lt
  have hS := hSt7.2
  have HR := Lib.hid hS.range
  have HIz := Lib.hid HI20
  have HCP := Lib.hid (copyS z dp z.d.length dcap w7 hrz rfl hrz7 hn0 (by omega))
  go_wp2_with (first | (refine BigFrame.wpList_want rfl (fun K hK => wp_load_mid 29 (.tmp 5) rfl (w.heap.size + 1) 0 rfl (stCells z (.slice dp z.d.length dcap)) _ HR.out Tryd.underlying29 rfl HIz.out (hK _ _ ?_))))
  refine HCP.out.mono ?_
  rintro e wa ⟨px, cx, rfl, hba, hown⟩
  have hmxa := MemAt.of_owns hown
  have ox := Lib.hid (fun k (hk : ((.slice px z.d.length cx) : Value).ownBlock = some k) => (⟨by have := ownBase hown hk; omega, own_lt hown hk⟩ : w7.heap.size ≤ k ∧ k < wa.heap.size))
  clear HR HCP hown hS hlhS
  have hza := hba.size
  have hBa : Below w.heap.size w wa := bThen hba hB7.size hB7
  have hOa := Lib.hid (owns_empty wa wa.heap.size 21 wa.heap.size rfl (Nat.le_refl _))
  have HMa := Lib.hid (Src.of_rd (hrm.below (hBa.trans ((bAlloc (o := .cells #[] 21) (Nat.le_refl _) (Below.refl wa.heap.size wa)).mono hBa.size)) (Nat.le_refl _)) hm0)
  have H1 := Lib.hid (show ∀ u ∈ sh.map (Value.int .i32), u.oneCell' = true from fun u hu => by obtain ⟨y, _, rfl⟩ := List.mem_map.1 hu; rfl)
  go_wp2_with (first | (at_builtin; refine wpList_append_new _ rfl (.tmp 53) (.tmp 54) 27 rfl wa.heap.size 21 i0 (.int .i32 0) 1 4 hxi hi0 hz0' hz1' hz2' rfl (by decide) _ rfl hOa.out _ sh.length (sh.map (.int .i32)) rfl HMa.out H1.out ?c1 ?c2 ?c3 ?_))
  case c1 => unfold maxLen; omega
  case c2 => omega
  case c3 => simp
  intro pm cm wb hownb hgb
  clear hOa HMa H1
  have hbb : Below wa.heap.size wa wb := Below.grown (bAlloc (Nat.le_refl _) (Below.refl _ _)) hgb (by simp) (fun k hk => by simp [Value.ownBlock] at hk; omega)
  clear hgb
  have hzb := hbb.size
  have hmab : MemAt wb (.slice pm sh.length cm) sh := MemAt.of_owns hownb
  have om := Lib.hid (fun k (hk : ((.slice pm sh.length cm) : Value).ownBlock = some k) => (⟨by have := ownBase hownb hk; omega, own_lt hownb hk⟩ : wa.heap.size ≤ k ∧ k < wb.heap.size))
  have hmxb := hmxa.below hbb (Nat.le_refl _)
  have hb7b : Below w7.heap.size w7 wb := hba.trans (hbb.mono hza)
  have hMb := hM7.below hb7b hM7.lt
  clear hownb hmxa hM7 hba hbb hBa
  have HX := Lib.hid (boxed_new wb [.int .i64 0, .int .i32 0, .int .i32 0, .int .i32 0, .int .i32 0, .int .i32 0, .int .i32 0, .int .i32 0, .int .i32 0, .int .i32 0, .int .i32 0, .int .i32 0, .int .i32 0, .int .i32 0, .int .i32 0, .int .i32 0, .int .i32 0, .slice none 0 0, .bool false, .int .i64 0] (stCells z (.slice px z.d.length cx)) 29)
  have HZr : Hid ((wb.alloc (.cells #[.int .i64 0, .int .i32 0, .int .i32 0, .int .i32 0, .int .i32 0, .int .i32 0, .int .i32 0, .int .i32 0, .int .i32 0, .int .i32 0, .int .i32 0, .int .i32 0, .int .i32 0, .int .i32 0, .int .i32 0, .int .i32 0, .int .i32 0, .slice none 0 0, .bool false, .int .i64 0] 29)).heap[wb.heap.size]? = some (.cells #[.int .i64 0, .int .i32 0, .int .i32 0, .int .i32 0, .int .i32 0, .int .i32 0, .int .i32 0, .int .i32 0, .int .i32 0, .int .i32 0, .int .i32 0, .int .i32 0, .int .i32 0, .int .i32 0, .int .i32 0, .int .i32 0, .int .i32 0, .slice none 0 0, .bool false, .int .i64 0] 29 (0, 0))) := (show _ = _ from heap_alloc_new _ _)
  have HIx : Hid ((Tryd.prog.info? 29).map (·.size) = some (stCells z (.slice px z.d.length cx)).toArray.size) := (show _ = _ by rw [List.size_toArray, stCells_len hrz]; exact infoState)
  have HZs : Hid ((#[.int .i64 0, .int .i32 0, .int .i32 0, .int .i32 0, .int .i32 0, .int .i32 0, .int .i32 0, .int .i32 0, .int .i32 0, .int .i32 0, .int .i32 0, .int .i32 0, .int .i32 0, .int .i32 0, .int .i32 0, .int .i32 0, .int .i32 0, .slice none 0 0, .bool false, .int .i64 0] : Array Value).size = (stCells z (.slice px z.d.length cx)).toArray.size) := (show (20 : Nat) = _ by rw [List.size_toArray, stCells_len hrz])
  have HAll : Hid ((stCells z (.slice px z.d.length cx)).toArray.all (·.oneCell') = true) := (show _ = _ from stCells_one _ _ _ _)
  go_wp2_with (first | (refine wpList_store_row rfl 29 (.tmp 11) (.tmp 52) rfl wb.heap.size _ rfl rfl 29 _ HZr.out HIx.out HZs.out HAll.out ?_; obtain ⟨w8, hw8, hx8, hC8, hs8⟩ := HX.out; rw [hw8]; clear hw8 HX HZr; have hs8' : wb.heap.size < w8.heap.size := (by omega); clear hs8; have hM8 := hMb.below hC8 hMb.lt; have hm8 := hM8.lt; have q0 := hM8.cell 0; have q1 := hM8.cell 1; have q2 := hM8.cell 2; have q3 := hM8.cell 3; simp only [List.getElem?_cons_zero, List.getElem?_cons_succ] at q0 q1 q2 q3))
  have hA8 : Side w7.heap.size w8 wb.heap.size (.slice px z.d.length cx) (.slice pm sh.length cm) z sh := side_of (w0 := w7) (w2 := w7) (be := 0) hrz hx8 (hmxb.below hC8 (Nat.le_refl _)) (hmab.below hC8 (Nat.le_refl _)) (by omega) (fun k hk => by have h := ox.out k hk; exact ⟨h.1, by omega, by omega⟩) (fun k hk => by
    have h := om.out k hk
    exact ⟨by omega, by omega, by omega, fun e => by have h2 := ox.out k e; omega⟩) Rz.out Dz.out M32.out
  have hb8 : Below w7.heap.size w7 w8 := hb7b.trans (hC8.mono (by omega))
  clear hx8 hmxb hmab hC8 ox om HIx HZs HAll hMb hb7b HIz
  have hB8 : Below w.heap.size w w8 := bThen hb8 hB7.size hB7
  have hSt8 := hSt7.below hb8 hSt7.lt
  have hI8 := hI7.below hb8 hI7.lt
  have hN8 := hN7.below hb8 hN7.lt
  have him8 := him7.below hb8 (Nat.le_refl _)
  have howF : Hid (∀ k, OwnF wb.heap.size (.slice px z.d.length cx) (.slice pm sh.length cm) k → w7.heap.size ≤ k) := (show ∀ k, OwnF wb.heap.size (.slice px z.d.length cx) (.slice pm sh.length cm) k → w7.heap.size ≤ k from fun k hk => (hA8.own k hk).1)
  have hl7 := hI7.lt
  have hlS7 := hSt7.lt
  have hz78 := hb8.size
  clear hSt7 hI7 hN7 him7 hb8 hrz7 hrm7 hza hzb hs8'
  obtain ⟨er, f, s', m', ho⟩ : ∃ er f s' m', stepO (oneIm (encW n a b c i) z.d.length sh.length) 0 z sh (fun _ => inp) = (er, f, s', m') := ⟨_, _, _, _, rfl⟩
  have HF : Hid (WF n (wrR n a b c i) er f.ad z s' sh m') := (show WF n (wrR n a b c i) er f.ad z s' sh m' from writes_facts hv hzpc hz0 ho)
  have hstep := step_out (.agg #[.slice p 2 cc, .slice (some ⟨(w1.heap.size + 1 + 1), 0, none⟩) 1 1, .int .i64 sh.length, .int .i64 4]) (oneIm (encW n a b c i) z.d.length sh.length) 0 wb.heap.size z (.slice px z.d.length cx) (.slice pm sh.length cm) (.func (.func 25) #[] #[.pointer (some ⟨w.heap.size + 1 + 1, 0, none⟩)]) sh (fun _ => inp) w8 ⟨hT.of_below hB8, hO.of_below hB8, him8, hA8.st, hA8.d, hA8.m, hA8.dS, hA8.mS, hA8.dm, hA8.r32⟩ (fun j => .pure 25 #[.pointer (some ⟨w.heap.size + 1 + 1, 0, none⟩)] rfl (enters_of Tryd.func25 (by kernel_rfl) rfl) rfl (fun W hb => in_port _ W j inp ((hN8.below hb hN8.lt).cell 0))) er f s' m' ho
  clear ho
  have HST := Lib.hid hstep
  clear hstep
  go_wp2_with fail
  refine HST.out.mono ?_
  rintro e w9 ⟨rfl, hK9, hX9, hD9, hC9⟩
  have hb79 : Below w7.heap.size w8 w9 := hK9.below hz78 howF.out
  have hB9 : Below w.heap.size w w9 := hB8.trans (hb79.mono (by have := hB7.size; omega))
  have hI9 := hI8.below hb79 hl7
  have hSt9 := hSt8.below hb79 hlS7
  clear HST q0 q1 q2 q3 hM8 hm8 hN8 him8 hI8 hSt8 hK9 hb79 hA8 howF
  simp only [Ef.val, effV]
  have hb10 : Below w9.heap.size w9 (w9.alloc (.cells #[.int .u8 f.n, .int .i64 f.a, .int .i64 f.b, .int .i64 f.c, .int .i64 f.i, .int .i64 f.pc, .bool f.tk, .int .i64 f.ad, .int .i32 f.vl] 36)) := bAlloc (Nat.le_refl _) (Below.refl _ _)
  have hB10 : Below w.heap.size w (w9.alloc (.cells #[.int .u8 f.n, .int .i64 f.a, .int .i64 f.b, .int .i64 f.c, .int .i64 f.i, .int .i64 f.pc, .bool f.tk, .int .i64 f.ad, .int .i32 f.vl] 36)) := bThen hb10 hB9.size hB9
  have hlI := hI9.lt
  have HX10 := Lib.hid (⟨hI9.below hb10 hI9.lt, hX9.below hb10 hX9.lt, hSt9.below hb10 hSt9.lt, hD9.below hb10 (Nat.le_refl _), hC9.below hb10 (Nat.le_refl _), (⟨_, heap_alloc_new _ _⟩ : RowAt (w9.alloc (.cells #[.int .u8 f.n, .int .i64 f.a, .int .i64 f.b, .int .i64 f.c, .int .i64 f.i, .int .i64 f.pc, .bool f.tk, .int .i64 f.ad, .int .i32 f.vl] 36)) w9.heap.size [.int .u8 f.n, .int .i64 f.a, .int .i64 f.b, .int .i64 f.c, .int .i64 f.i, .int .i64 f.pc, .bool f.tk, .int .i64 f.ad, .int .i32 f.vl]), hB10⟩ : _ ∧ _ ∧ _ ∧ _ ∧ _ ∧ _ ∧ _)
  have HWR := Lib.hid (writes_any n a b c i (w9.alloc (.cells #[.int .u8 f.n, .int .i64 f.a, .int .i64 f.b, .int .i64 f.c, .int .i64 f.i, .int .i64 f.pc, .bool f.tk, .int .i64 f.ad, .int .i32 f.vl] 36)) (hT.of_below hB10))
  clear hX9 hSt9 hD9 hC9 hb10 hB10
  have y0 := hI9.cell 0
  have y1 := hI9.cell 1
  have y2 := hI9.cell 2
  have y3 := hI9.cell 3
  have y4 := hI9.cell 4
  simp only [List.getElem?_cons_zero, List.getElem?_cons_succ] at y0 y1 y2 y3 y4
  clear hI9
  go_wp2_with fail
  obtain ⟨hI10, hX10, hSt10, hD10, hC10, hE10, hB10⟩ := HX10.out
  have hwr := HWR.out
  clear HX10 HWR y0 y1 y2 y3 y4 hlI
  generalize (w9.alloc (.cells #[.int .u8 f.n, .int .i64 f.a, .int .i64 f.b, .int .i64 f.c, .int .i64 f.i, .int .i64 f.pc, .bool f.tk, .int .i64 f.ad, .int .i32 f.vl] 36)) = w10 at hI10 hX10 hSt10 hD10 hC10 hE10 hB10 hwr ⊢
  refine hwr.mono ?_
  clear hwr
  rintro e w11 ⟨rfl, hb11⟩
  have hB11 : Below w.heap.size w w11 := bThen hb11 hB10.size hB10
  have hI11 := hI10.below hb11 hI10.lt
  have HX := Lib.hid (hX10.below hb11 hX10.lt)
  have HS := Lib.hid (hSt10.below hb11 hSt10.lt)
  have HD := Lib.hid (hD10.below hb11 (Nat.le_refl _))
  have HC := Lib.hid (hC10.below hb11 (Nat.le_refl _))
  have hE10' : RowAt w10 w9.heap.size [.int .u8 f.n, .int .i64 f.a, .int .i64 f.b, .int .i64 f.c, .int .i64 f.i, .int .i64 f.pc, .bool f.tk, .int .i64 f.ad, .int .i32 f.vl] := hE10
  have hE11 := hE10'.below hb11 hE10'.lt
  clear hI10 hX10 hSt10 hD10 hC10 hE10 hE10' hb11 hB10
  have HRD := Lib.hid (hrd.below hB11 (Nat.le_refl _))
  have HRM := Lib.hid (hrm.below hB11 (Nat.le_refl _))
  have hlX := HX.out.lt
  have hlS := HS.out.lt
  have hlE := hE11.lt
  have hlI := hI11.lt
  have x0 : w11.cell? ⟨w.heap.size, 0, none⟩ = some (.int .u8 n) := hI11.cell 0
  have x7 : w11.cell? ⟨w9.heap.size, 7, none⟩ = some (.int .i64 f.ad) := hE11.cell 7
  clear hI11 hE11
  generalize wrR n a b c i = wv at HF ⊢
  generalize f.ad = ad at HF x7
  have hdX := HX.out.d
  have hdS := HS.out.d
  go_wp2_with fail
  go_loopw [17] (fun sv wr => ∃ (k n : Nat), sv = .int .i64 k ∧ k ≤ 16 ∧ wr = w11.drewN n) (fun sv _ => 16 - (intOf sv).toNat)
  case atStart => exact ⟨0, 0, rfl, Nat.zero_le _, rfl⟩
  case round =>
    obtain ⟨k, n1, rfl, hk, rfl⟩ := hrel
    by_cases hlt : k < 16
    · have hltI : (k : Int) < 16 := by omega
      have gx := HX.out.reg k hlt
      have gs := HS.out.reg k hlt
      by_cases heq : s'.r.getD k 0 = z.r.getD k 0
      · rw [heq] at gx
        generalize z.r.getD k 0 = vx at gx gs
        go_wp2_with fail
        go_quiet (fail)
        go_wp2_with fail
        go_roundw
        case rel => exact ⟨k + 1, n1 + nq, by go_num, by omega, by simp [World.drewN_drewN]⟩
        case measure => simp [intOf]; omega
      · obtain ⟨rfl, hk0, rfl⟩ := HF.out.regs k heq
        have hne : (s'.r.getD k 0 != z.r.getD k 0) = true := by simpa using heq
        have hw0 : ((k : Int) != 0) = true := by simp; omega
        have hw1 : ((k : Int) == 0) = false := by simp; omega
        generalize s'.r.getD k 0 = vx at gx hne
        generalize z.r.getD k 0 = vy at gs hne
        go_wp2_with fail
        go_quiet (fail)
        go_wp2_with fail
        go_roundw
        case rel => exact ⟨k + 1, n1 + nq, by go_num, by omega, by simp [World.drewN_drewN]⟩
        case measure => simp [intOf]; omega
    · have hltI : ¬ (k : Int) < 16 := by omega
      go_wp2_with fail
      go_loopw [18, 19] (fun cv sv wr => ∃ (k q n : Nat), cv = .int .i64 q ∧ sv = .int .i64 k ∧ Hid (q = chg m' sh k) ∧ q ≤ k ∧ k ≤ sh.length ∧ wr = w11.drewN n) (fun _ sv _ => sh.length - (intOf sv).toNat)
      case atStart => exact ⟨0, 0, n1, rfl, rfl, (Lib.hid (rfl : (0 : Nat) = chg m' sh 0)), by omega, Nat.zero_le _, rfl⟩
      case round =>
        obtain ⟨k, q, n2, rfl, rfl, HQ, hqk, hk, rfl⟩ := hrel
        by_cases hlt : k < sh.length
        · have hltI : (k : Int) < sh.length := by omega
          obtain ⟨g1, o1, rfl, hg1, hc1⟩ := mem_at HC.out k (by rw [HF.out.mlen]; exact hlt)
          obtain ⟨g2, o2, rfl, hg2, hc2⟩ := rd_at HRM.out k hlt
          by_cases heq : m'.getD k 0 = sh.getD k 0
          · have HQ2 : Hid (q = chg m' sh (k + 1)) := (show q = chg m' sh (k + 1) by rw [HQ.out]; simp only [chg, heq, if_true, Nat.add_zero])
            rw [heq] at hc1
            generalize sh.getD k 0 = vx at hc1 hc2
            clear heq HQ
            go_wp2_with fail
            go_quiet (fail)
            go_wp2_with fail
            go_roundw
            case rel => exact ⟨k + 1, q, n2 + nq, rfl, by go_num, HQ2, by omega, by omega, by simp [World.drewN_drewN]⟩
            case measure => simp [intOf]; omega
          · have HQ2 : Hid (q + 1 = chg m' sh (k + 1)) := (show q + 1 = chg m' sh (k + 1) by rw [HQ.out]; simp only [chg, heq, if_false] <;> omega)
            obtain ⟨rfl, rfl⟩ := HF.out.memc k heq
            have hne : (m'.getD k 0 != sh.getD k 0) = true := by simpa using heq
            have x0' : w11.cell? ⟨w.heap.size, 0, none⟩ = some (.int .u8 21) := x0
            generalize m'.getD k 0 = vx at hc1 hne
            generalize sh.getD k 0 = vy at hc2 hne
            clear heq HQ x0
            go_wp2_with fail
            go_quiet (fail)
            go_wp2_with fail
            go_roundw
            case rel => exact ⟨k + 1, q + 1, n2 + nq, by go_num, by go_num, HQ2, by omega, by omega, by simp [World.drewN_drewN]⟩
            case measure => simp [intOf]; omega
        · have hltI : ¬ (k : Int) < sh.length := by omega
          have hke : k = sh.length := by omega
          subst hke
          have HQ3 : Hid (q = chg m' sh sh.length + chg s'.d z.d 0) := (show q = chg m' sh sh.length + 0 from HQ.out)
          clear HQ
          go_wp2_with fail
          go_loopw [18, 20] (fun cv sv wr => ∃ (k q n : Nat), cv = .int .i64 q ∧ sv = .int .i64 k ∧ Hid (q = chg m' sh sh.length + chg s'.d z.d k) ∧ q ≤ sh.length + k ∧ k ≤ z.d.length ∧ wr = w11.drewN n) (fun _ sv _ => z.d.length - (intOf sv).toNat)
          case atStart => exact ⟨0, q, n2, rfl, rfl, HQ3, by omega, Nat.zero_le _, rfl⟩
          case round =>
            obtain ⟨k, q, n2, rfl, rfl, HQ, hqk, hk, rfl⟩ := hrel
            by_cases hlt : k < z.d.length
            · have hltI : (k : Int) < z.d.length := by omega
              obtain ⟨g1, o1, rfl, hg1, hc1⟩ := mem_at HD.out k (by rw [HF.out.dlen]; exact hlt)
              obtain ⟨g2, o2, rfl, hg2, hc2⟩ := rd_at HRD.out k hlt
              by_cases heq : s'.d.getD k 0 = z.d.getD k 0
              · have HQ2 : Hid (q = chg m' sh sh.length + chg s'.d z.d (k + 1)) := (show q = chg m' sh sh.length + chg s'.d z.d (k + 1) by rw [HQ.out]; simp only [chg, heq, if_true, Nat.add_zero])
                rw [heq] at hc1
                generalize z.d.getD k 0 = vx at hc1 hc2
                clear heq HQ
                go_wp2_with fail
                go_quiet (fail)
                go_wp2_with fail
                go_roundw
                case rel => exact ⟨k + 1, q, n2 + nq, rfl, by go_num, HQ2, by omega, by omega, by simp [World.drewN_drewN]⟩
                case measure => simp [intOf]; omega
              · have HQ2 : Hid (q + 1 = chg m' sh sh.length + chg s'.d z.d (k + 1)) := (show q + 1 = chg m' sh sh.length + chg s'.d z.d (k + 1) by rw [HQ.out]; simp only [chg, heq, if_false] <;> omega)
                obtain ⟨rfl, rfl⟩ := HF.out.datc k heq
                have hne : (s'.d.getD k 0 != z.d.getD k 0) = true := by simpa using heq
                have x0' : w11.cell? ⟨w.heap.size, 0, none⟩ = some (.int .u8 19) := x0
                generalize s'.d.getD k 0 = vx at hc1 hne
                generalize z.d.getD k 0 = vy at hc2 hne
                clear heq HQ x0
                go_wp2_with fail
                go_quiet (fail)
                go_wp2_with fail
                go_roundw
                case rel => exact ⟨k + 1, q + 1, n2 + nq, by go_num, by go_num, HQ2, by omega, by omega, by simp [World.drewN_drewN]⟩
                case measure => simp [intOf]; omega
            · have hltI : ¬ (k : Int) < z.d.length := by omega
              have hke : k = z.d.length := by omega
              subst hke
              have hq1 : (q : Int) ≤ 1 := by have := HF.out.total sh.length z.d.length; have := HQ.out; omega
              have hr0 : w11.cell? ⟨wb.heap.size, 1, none⟩ = some (.int .i32 0) := by have h := HX.out.reg 0 (by omega); rw [HF.out.zero] at h; exact h
              go_wp2_with fail
              go_ret
              exact ⟨rfl, bDrewN hB11⟩
  

end Go.Proofs.YtlmipchjmgnlfaaDoor
