import Derived.Test.YtkcfbonchhidlaaGreatDoorMs40
import Derived.RegionTactic
set_option linter.unusedVariables false
set_option linter.unusedSimpArgs false
namespace Go.Proofs.YtkcfbonchhidlaaGreatDoor
open Go.RowKit Go.Maps

set_option maxHeartbeats 3200000 in
set_option maxRecDepth 20000 in
theorem ins8_any {q : GK} {R : List (Nat × List Value)} {g : Gen} {w : World} (h : GenRel q R g w) (hc : CfOk q.c) (dst x y imm : Int) (sym : ByteArray) (hx : okR q.c.P.length x = true) (hz : SzG g 800000) :
    Calls Tryz.prog 22 #[.pointer (some ⟨q.gb, 0, none⟩), .agg #[.int .u8 8, .int .i64 dst, .int .i64 x, .int .i64 y, .int .i64 imm, .string sym]] w (InsPost q R ⟨8, dst, x, y, imm, sym⟩ g) := by
  have HE : Hid (insG q.c ⟨8, dst, x, y, imm, sym⟩ g = emitG [⟨25, (readG q.c x 1 g).1, 0, 0, imm⟩] (readG q.c x 1 g).2) := (show _ = _ by unfold insG; rfl)
  have hW := (h.made [.pointer (some ⟨q.gb, 0, none⟩)] 91).made [.int .u8 8, .int .i64 dst, .int .i64 x, .int .i64 y, .int .i64 imm, .string sym] 54
  rw [show (w.alloc (.cells ([.pointer (some ⟨q.gb, 0, none⟩)] : List Value).toArray 91)).heap.size = w.heap.size + 1 by simp] at hW
  have HZ := Lib.hid hz
  clear h hz
  go_enter Tryz.func22, Tryz.ntmps22
  go_upto_region 1 with fail
  obtain ⟨w1, hw1⟩ : ∃ W : World, W = (w.alloc (.cells #[.pointer (some ⟨q.gb, 0, none⟩)] 91)).alloc (.cells #[.int .u8 8, .int .i64 dst, .int .i64 x, .int .i64 y, .int .i64 imm, .string sym] 54) := ⟨_, rfl⟩
  rw [← hw1]
  have hW : GenRel q ((w.heap.size + 1, [.int .u8 8, .int .i64 dst, .int .i64 x, .int .i64 y, .int .i64 imm, .string sym]) :: (w.heap.size, [.pointer (some ⟨q.gb, 0, none⟩)]) :: R) g w1 := by rw [hw1]; exact hW
  have HG := Lib.hid hW
  clear hw1 hW
  have ra0 := HG.out.at (List.mem_cons_self ..)
  have la0 := ra0.lt
  have a0_0 := ra0.at 0 rfl
  have a0_1 := ra0.at 1 rfl
  have a0_2 := ra0.at 2 rfl
  have a0_3 := ra0.at 3 rfl
  have a0_4 := ra0.at 4 rfl
  have a0_5 := ra0.at 5 rfl
  clear ra0
  have rb0 := HG.out.at (List.mem_cons_of_mem _ (List.mem_cons_self ..))
  have lb0 := rb0.lt
  have b0_0 := rb0.at 0 rfl
  clear rb0
  have HMK := Lib.hid (fun (w' : World) (g' : Gen) (h' : GenRel q ((w.heap.size + 1, [.int .u8 8, .int .i64 dst, .int .i64 x, .int .i64 y, .int .i64 imm, .string sym]) :: (w.heap.size, [.pointer (some ⟨q.gb, 0, none⟩)]) :: R) g' w') => (show w'.cell? ⟨w.heap.size, 0, none⟩ = some (.pointer (some ⟨q.gb, 0, none⟩)) ∧ w'.cell? ⟨w.heap.size + 1, 2, none⟩ = some (.int .i64 x) ∧ w'.cell? ⟨w.heap.size + 1, 4, none⟩ = some (.int .i64 imm) from ⟨(h'.at (List.mem_cons_of_mem _ (List.mem_cons_self ..))).at 0 rfl, (h'.at (List.mem_cons_self ..)).at 2 rfl, (h'.at (List.mem_cons_self ..)).at 4 rfl⟩))
  have HG0 := Lib.hid (HG.out.keep (w' := w1.drew) (Below.drew (Below.refl _ _)))
  have hs0 := HMK.out _ _ HG0.out
  have HZ2 := Lib.hid (HZ.out.read (c := q.c) (v := x) (scr := 1))
  go_upto_region 24 with fail
  clear la0 a0_0 a0_1 a0_2 a0_3 a0_4 a0_5 lb0 b0_0
  go_region_held3 (fun W => W.cell? ⟨w.heap.size, 0, none⟩ = some (.pointer (some ⟨q.gb, 0, none⟩)) ∧ W.cell? ⟨w.heap.size + 1, 2, none⟩ = some (.int .i64 x) ∧ W.cell? ⟨w.heap.size + 1, 4, none⟩ = some (.int .i64 imm)) (first | exact hs0 | exact hal _ | exact hs1 | exact hs2 | assumption) (first | (go_at_call 21; refine (emit_any (l := [⟨25, (readG q.c x 1 g).1, 0, 0, imm⟩]) (H2.out.keep (by repeat (first | (with_reducible exact Below.refl _ _) | (with_reducible apply Below.drew) | ((with_reducible apply bAlloc); (focus first | (exact Nat.le_refl _) | (simp; done) | (simp; omega)))))) (GsRd.one _ 25 _ _ _ _ _) (by simp) (by have := HZ2.out.1; simp; omega)).mono ?_; rintro e we ⟨rfl, HK⟩; have hs2 := HMK.out _ _ HK.out) | (go_at_call 36; refine (read_any HG0.out hc hx 1 (HZ.out.le (by decide))).mono ?_; rintro e w2 ⟨rfl, H2⟩; have hs1 := HMK.out _ _ H2.out; have hal := fun o : Obj => HMK.out _ _ (H2.out.keep (w' := w2.alloc o) (bAlloc (Nat.le_refl _) (Below.refl _ _)))))
  all_goals (
    go_wp2_with fail
    go_end0
    exact ⟨rfl, by rw [HE.out]; exact HK.out.drop.drop⟩)

set_option maxHeartbeats 3200000 in
set_option maxRecDepth 20000 in
theorem ins10_any {q : GK} {R : List (Nat × List Value)} {g : Gen} {w : World} (h : GenRel q R g w) (hc : CfOk q.c) (dst x y imm : Int) (sym : ByteArray) (hx : okR q.c.P.length x = true) (hz : SzG g 800000) :
    Calls Tryz.prog 22 #[.pointer (some ⟨q.gb, 0, none⟩), .agg #[.int .u8 10, .int .i64 dst, .int .i64 x, .int .i64 y, .int .i64 imm, .string sym]] w (InsPost q R ⟨10, dst, x, y, imm, sym⟩ g) := by
  have HE : Hid (insG q.c ⟨10, dst, x, y, imm, sym⟩ g = emitG [⟨27, (readG q.c x 1 g).1, 0, 0, imm⟩] (readG q.c x 1 g).2) := (show _ = _ by unfold insG; rfl)
  have hW := (h.made [.pointer (some ⟨q.gb, 0, none⟩)] 91).made [.int .u8 10, .int .i64 dst, .int .i64 x, .int .i64 y, .int .i64 imm, .string sym] 54
  rw [show (w.alloc (.cells ([.pointer (some ⟨q.gb, 0, none⟩)] : List Value).toArray 91)).heap.size = w.heap.size + 1 by simp] at hW
  have HZ := Lib.hid hz
  clear h hz
  go_enter Tryz.func22, Tryz.ntmps22
  go_upto_region 1 with fail
  obtain ⟨w1, hw1⟩ : ∃ W : World, W = (w.alloc (.cells #[.pointer (some ⟨q.gb, 0, none⟩)] 91)).alloc (.cells #[.int .u8 10, .int .i64 dst, .int .i64 x, .int .i64 y, .int .i64 imm, .string sym] 54) := ⟨_, rfl⟩
  rw [← hw1]
  have hW : GenRel q ((w.heap.size + 1, [.int .u8 10, .int .i64 dst, .int .i64 x, .int .i64 y, .int .i64 imm, .string sym]) :: (w.heap.size, [.pointer (some ⟨q.gb, 0, none⟩)]) :: R) g w1 := by rw [hw1]; exact hW
  have HG := Lib.hid hW
  clear hw1 hW
  have ra0 := HG.out.at (List.mem_cons_self ..)
  have la0 := ra0.lt
  have a0_0 := ra0.at 0 rfl
  have a0_1 := ra0.at 1 rfl
  have a0_2 := ra0.at 2 rfl
  have a0_3 := ra0.at 3 rfl
  have a0_4 := ra0.at 4 rfl
  have a0_5 := ra0.at 5 rfl
  clear ra0
  have rb0 := HG.out.at (List.mem_cons_of_mem _ (List.mem_cons_self ..))
  have lb0 := rb0.lt
  have b0_0 := rb0.at 0 rfl
  clear rb0
  have HMK := Lib.hid (fun (w' : World) (g' : Gen) (h' : GenRel q ((w.heap.size + 1, [.int .u8 10, .int .i64 dst, .int .i64 x, .int .i64 y, .int .i64 imm, .string sym]) :: (w.heap.size, [.pointer (some ⟨q.gb, 0, none⟩)]) :: R) g' w') => (show w'.cell? ⟨w.heap.size, 0, none⟩ = some (.pointer (some ⟨q.gb, 0, none⟩)) ∧ w'.cell? ⟨w.heap.size + 1, 2, none⟩ = some (.int .i64 x) ∧ w'.cell? ⟨w.heap.size + 1, 4, none⟩ = some (.int .i64 imm) from ⟨(h'.at (List.mem_cons_of_mem _ (List.mem_cons_self ..))).at 0 rfl, (h'.at (List.mem_cons_self ..)).at 2 rfl, (h'.at (List.mem_cons_self ..)).at 4 rfl⟩))
  have HG0 := Lib.hid (HG.out.keep (w' := w1.drew) (Below.drew (Below.refl _ _)))
  have hs0 := HMK.out _ _ HG0.out
  have HZ2 := Lib.hid (HZ.out.read (c := q.c) (v := x) (scr := 1))
  go_upto_region 28 with fail
  clear la0 a0_0 a0_1 a0_2 a0_3 a0_4 a0_5 lb0 b0_0
  go_region_held3 (fun W => W.cell? ⟨w.heap.size, 0, none⟩ = some (.pointer (some ⟨q.gb, 0, none⟩)) ∧ W.cell? ⟨w.heap.size + 1, 2, none⟩ = some (.int .i64 x) ∧ W.cell? ⟨w.heap.size + 1, 4, none⟩ = some (.int .i64 imm)) (first | exact hs0 | exact hal _ | exact hs1 | exact hs2 | assumption) (first | (go_at_call 21; refine (emit_any (l := [⟨27, (readG q.c x 1 g).1, 0, 0, imm⟩]) (H2.out.keep (by repeat (first | (with_reducible exact Below.refl _ _) | (with_reducible apply Below.drew) | ((with_reducible apply bAlloc); (focus first | (exact Nat.le_refl _) | (simp; done) | (simp; omega)))))) (GsRd.one _ 27 _ _ _ _ _) (by simp) (by have := HZ2.out.1; simp; omega)).mono ?_; rintro e we ⟨rfl, HK⟩; have hs2 := HMK.out _ _ HK.out) | (go_at_call 36; refine (read_any HG0.out hc hx 1 (HZ.out.le (by decide))).mono ?_; rintro e w2 ⟨rfl, H2⟩; have hs1 := HMK.out _ _ H2.out; have hal := fun o : Obj => HMK.out _ _ (H2.out.keep (w' := w2.alloc o) (bAlloc (Nat.le_refl _) (Below.refl _ _)))))
  all_goals (
    go_wp2_with fail
    go_end0
    exact ⟨rfl, by rw [HE.out]; exact HK.out.drop.drop⟩)

set_option maxHeartbeats 3200000 in
set_option maxRecDepth 20000 in
theorem ins5_any {q : GK} {R : List (Nat × List Value)} {g : Gen} {w : World} (h : GenRel q R g w) (hc : CfOk q.c) (dst x y imm : Int) (sym : ByteArray) (hx : okR q.c.P.length x = true) (hy : okR q.c.P.length y = true) (hs5 : sym.size ≤ maxLen) (hF : (q.F sym).getD (.int .i64 0) = .int .i64 (q.c.ar sym)) (hz : SzG g 800000) :
    Calls Tryz.prog 22 #[.pointer (some ⟨q.gb, 0, none⟩), .agg #[.int .u8 5, .int .i64 dst, .int .i64 x, .int .i64 y, .int .i64 imm, .string sym]] w (InsPost q R ⟨5, dst, x, y, imm, sym⟩ g) := by
  have HE : Hid (insG q.c ⟨5, dst, x, y, imm, sym⟩ g = emitG [⟨19, (readG q.c y 14 (readG q.c x 1 g).2).1, (readG q.c x 1 g).1, 0, q.c.ar sym⟩] (readG q.c y 14 (readG q.c x 1 g).2).2) := (show _ = _ by unfold insG; rfl)
  have hW := (h.made [.pointer (some ⟨q.gb, 0, none⟩)] 91).made [.int .u8 5, .int .i64 dst, .int .i64 x, .int .i64 y, .int .i64 imm, .string sym] 54
  rw [show (w.alloc (.cells ([.pointer (some ⟨q.gb, 0, none⟩)] : List Value).toArray 91)).heap.size = w.heap.size + 1 by simp] at hW
  have HZ := Lib.hid hz
  clear h hz
  go_enter Tryz.func22, Tryz.ntmps22
  go_upto_region 1 with fail
  obtain ⟨w1, hw1⟩ : ∃ W : World, W = (w.alloc (.cells #[.pointer (some ⟨q.gb, 0, none⟩)] 91)).alloc (.cells #[.int .u8 5, .int .i64 dst, .int .i64 x, .int .i64 y, .int .i64 imm, .string sym] 54) := ⟨_, rfl⟩
  rw [← hw1]
  have hW : GenRel q ((w.heap.size + 1, [.int .u8 5, .int .i64 dst, .int .i64 x, .int .i64 y, .int .i64 imm, .string sym]) :: (w.heap.size, [.pointer (some ⟨q.gb, 0, none⟩)]) :: R) g w1 := by rw [hw1]; exact hW
  have HG := Lib.hid hW
  clear hw1 hW
  have ra0 := HG.out.at (List.mem_cons_self ..)
  have la0 := ra0.lt
  have a0_0 := ra0.at 0 rfl
  have a0_1 := ra0.at 1 rfl
  have a0_2 := ra0.at 2 rfl
  have a0_3 := ra0.at 3 rfl
  have a0_4 := ra0.at 4 rfl
  have a0_5 := ra0.at 5 rfl
  clear ra0
  have rb0 := HG.out.at (List.mem_cons_of_mem _ (List.mem_cons_self ..))
  have lb0 := rb0.lt
  have b0_0 := rb0.at 0 rfl
  clear rb0
  go_wp2_with fail
  refine (read_any HG.out hc hx 1 (HZ.out.le (by decide))).mono ?_
  rintro e w2 ⟨rfl, Hw2⟩
  clear la0 a0_0 a0_1 a0_2 a0_3 a0_4 a0_5 lb0 b0_0
  have ra1 := Hw2.out.at (List.mem_cons_self ..)
  have la1 := ra1.lt
  have a1_0 := ra1.at 0 rfl
  have a1_1 := ra1.at 1 rfl
  have a1_2 := ra1.at 2 rfl
  have a1_3 := ra1.at 3 rfl
  have a1_4 := ra1.at 4 rfl
  have a1_5 := ra1.at 5 rfl
  clear ra1
  have rb1 := Hw2.out.at (List.mem_cons_of_mem _ (List.mem_cons_self ..))
  have lb1 := rb1.lt
  have b1_0 := rb1.at 0 rfl
  clear rb1
  have HZ2 := Lib.hid (HZ.out.read (c := q.c) (v := x) (scr := 1))
  generalize readG q.c x 1 g = X at Hw2 HE HZ2 ⊢
  obtain ⟨X, g2⟩ := X
  simp only at Hw2 HE HZ2 ⊢
  go_wp2_with fail
  refine (read_any Hw2.out hc hy 14 (HZ2.out.le (by decide))).mono ?_
  rintro e w4 ⟨rfl, Hw4⟩
  clear la1 a1_0 a1_1 a1_2 a1_3 a1_4 a1_5 lb1 b1_0
  have ra2 := Hw4.out.at (List.mem_cons_self ..)
  have la2 := ra2.lt
  have a2_0 := ra2.at 0 rfl
  have a2_1 := ra2.at 1 rfl
  have a2_2 := ra2.at 2 rfl
  have a2_3 := ra2.at 3 rfl
  have a2_4 := ra2.at 4 rfl
  have a2_5 := ra2.at 5 rfl
  clear ra2
  have rb2 := Hw4.out.at (List.mem_cons_of_mem _ (List.mem_cons_self ..))
  have lb2 := rb2.lt
  have b2_0 := rb2.at 0 rfl
  clear rb2
  have HZ4 := Lib.hid (HZ2.out.read (c := q.c) (v := y) (scr := 14))
  generalize readG q.c y 14 g2 = Y at Hw4 HE HZ4 ⊢
  obtain ⟨Y, g4⟩ := Y
  simp only at Hw4 HE HZ4 ⊢
  have HMK := Lib.hid (fun (w' : World) (g' : Gen) (h' : GenRel q ((w.heap.size + 1, [.int .u8 5, .int .i64 dst, .int .i64 x, .int .i64 y, .int .i64 imm, .string sym]) :: (w.heap.size, [.pointer (some ⟨q.gb, 0, none⟩)]) :: R) g' w') => (show (w'.cell? ⟨w.heap.size, 0, none⟩ = some (.pointer (some ⟨q.gb, 0, none⟩)) ∧ w'.cell? ⟨w.heap.size + 1, 5, none⟩ = some (.string sym)) ∧ w'.cell? ⟨q.gb, 2, none⟩ = some (.map (some q.mb)) ∧ (Instr.lookup 92 (.map (some q.mb)) (.string sym) false).run Tryz.prog w' = .ok (.int .i64 (q.c.ar sym)) w' from ⟨⟨(h'.at (List.mem_cons_of_mem _ (List.mem_cons_self ..))).at 0 rfl, (h'.at (List.mem_cons_self ..)).at 5 rfl⟩, (h'.map hs5 hF).1, (h'.map hs5 hF).2⟩))
  have HG0 := Lib.hid (Hw4.out.keep (w' := w4.drew) (Below.drew (Below.refl _ _)))
  have hs0 := HMK.out _ _ HG0.out
  have hal := fun o : Obj => HMK.out _ _ (Hw4.out.keep (w' := (w4.alloc o).drew) (Below.drew (bAlloc (Nat.le_refl _) (Below.refl _ _))))
  go_upto_region 21 with fail
  clear la2 a2_0 a2_1 a2_2 a2_3 a2_4 a2_5 lb2 b2_0
  go_region_held3 (fun W => (W.cell? ⟨w.heap.size, 0, none⟩ = some (.pointer (some ⟨q.gb, 0, none⟩)) ∧ W.cell? ⟨w.heap.size + 1, 5, none⟩ = some (.string sym)) ∧ W.cell? ⟨q.gb, 2, none⟩ = some (.map (some q.mb)) ∧ (Instr.lookup 92 (.map (some q.mb)) (.string sym) false).run Tryz.prog W = .ok (.int .i64 (q.c.ar sym)) W) (first | exact hs0 | exact hal _ | exact hs1 | assumption) (first | (go_at_call 21; refine (emit_any (l := [⟨19, Y, X, 0, q.c.ar sym⟩]) (Hw4.out.keep (by repeat (first | (with_reducible exact Below.refl _ _) | (with_reducible apply Below.drew) | ((with_reducible apply bAlloc); (focus first | (exact Nat.le_refl _) | (simp; done) | (simp; omega)))))) (GsRd.drew (GsRd.one _ 19 _ _ _ _ _)) (by simp) (by have := HZ4.out.1; simp; omega)).mono ?_; rintro e we ⟨rfl, HK⟩; have hs1 := HMK.out _ _ HK.out))
  all_goals (
    go_wp2_with fail
    go_end0
    exact ⟨rfl, by rw [HE.out]; exact HK.out.drop.drop⟩)

set_option maxHeartbeats 3200000 in
set_option maxRecDepth 20000 in
theorem ins7_any {q : GK} {R : List (Nat × List Value)} {g : Gen} {w : World} (h : GenRel q R g w) (hc : CfOk q.c) (dst x y imm : Int) (sym : ByteArray) (hx : okR q.c.P.length x = true) (hy : okR q.c.P.length y = true) (hz : SzG g 800000) :
    Calls Tryz.prog 22 #[.pointer (some ⟨q.gb, 0, none⟩), .agg #[.int .u8 7, .int .i64 dst, .int .i64 x, .int .i64 y, .int .i64 imm, .string sym]] w (InsPost q R ⟨7, dst, x, y, imm, sym⟩ g) := by
  have HE : Hid (insG q.c ⟨7, dst, x, y, imm, sym⟩ g = referG ⟨21, (readG q.c y 14 (readG q.c x 1 g).2).1, (readG q.c x 1 g).1, 0, 0⟩ sym (readG q.c y 14 (readG q.c x 1 g).2).2) := (show _ = _ by unfold insG; rfl)
  have hW := (h.made [.pointer (some ⟨q.gb, 0, none⟩)] 91).made [.int .u8 7, .int .i64 dst, .int .i64 x, .int .i64 y, .int .i64 imm, .string sym] 54
  rw [show (w.alloc (.cells ([.pointer (some ⟨q.gb, 0, none⟩)] : List Value).toArray 91)).heap.size = w.heap.size + 1 by simp] at hW
  have HZ := Lib.hid hz
  clear h hz
  go_enter Tryz.func22, Tryz.ntmps22
  go_upto_region 1 with fail
  obtain ⟨w1, hw1⟩ : ∃ W : World, W = (w.alloc (.cells #[.pointer (some ⟨q.gb, 0, none⟩)] 91)).alloc (.cells #[.int .u8 7, .int .i64 dst, .int .i64 x, .int .i64 y, .int .i64 imm, .string sym] 54) := ⟨_, rfl⟩
  rw [← hw1]
  have hW : GenRel q ((w.heap.size + 1, [.int .u8 7, .int .i64 dst, .int .i64 x, .int .i64 y, .int .i64 imm, .string sym]) :: (w.heap.size, [.pointer (some ⟨q.gb, 0, none⟩)]) :: R) g w1 := by rw [hw1]; exact hW
  have HG := Lib.hid hW
  clear hw1 hW
  have ra0 := HG.out.at (List.mem_cons_self ..)
  have la0 := ra0.lt
  have a0_0 := ra0.at 0 rfl
  have a0_1 := ra0.at 1 rfl
  have a0_2 := ra0.at 2 rfl
  have a0_3 := ra0.at 3 rfl
  have a0_4 := ra0.at 4 rfl
  have a0_5 := ra0.at 5 rfl
  clear ra0
  have rb0 := HG.out.at (List.mem_cons_of_mem _ (List.mem_cons_self ..))
  have lb0 := rb0.lt
  have b0_0 := rb0.at 0 rfl
  clear rb0
  go_wp2_with fail
  refine (read_any HG.out hc hx 1 (HZ.out.le (by decide))).mono ?_
  rintro e w2 ⟨rfl, Hw2⟩
  clear la0 a0_0 a0_1 a0_2 a0_3 a0_4 a0_5 lb0 b0_0
  have ra1 := Hw2.out.at (List.mem_cons_self ..)
  have la1 := ra1.lt
  have a1_0 := ra1.at 0 rfl
  have a1_1 := ra1.at 1 rfl
  have a1_2 := ra1.at 2 rfl
  have a1_3 := ra1.at 3 rfl
  have a1_4 := ra1.at 4 rfl
  have a1_5 := ra1.at 5 rfl
  clear ra1
  have rb1 := Hw2.out.at (List.mem_cons_of_mem _ (List.mem_cons_self ..))
  have lb1 := rb1.lt
  have b1_0 := rb1.at 0 rfl
  clear rb1
  have HZ2 := Lib.hid (HZ.out.read (c := q.c) (v := x) (scr := 1))
  generalize readG q.c x 1 g = X at Hw2 HE HZ2 ⊢
  obtain ⟨X, g2⟩ := X
  simp only at Hw2 HE HZ2 ⊢
  go_wp2_with fail
  refine (read_any Hw2.out hc hy 14 (HZ2.out.le (by decide))).mono ?_
  rintro e w4 ⟨rfl, Hw4⟩
  clear la1 a1_0 a1_1 a1_2 a1_3 a1_4 a1_5 lb1 b1_0
  have ra2 := Hw4.out.at (List.mem_cons_self ..)
  have la2 := ra2.lt
  have a2_0 := ra2.at 0 rfl
  have a2_1 := ra2.at 1 rfl
  have a2_2 := ra2.at 2 rfl
  have a2_3 := ra2.at 3 rfl
  have a2_4 := ra2.at 4 rfl
  have a2_5 := ra2.at 5 rfl
  clear ra2
  have rb2 := Hw4.out.at (List.mem_cons_of_mem _ (List.mem_cons_self ..))
  have lb2 := rb2.lt
  have b2_0 := rb2.at 0 rfl
  clear rb2
  have HZ4 := Lib.hid (HZ2.out.read (c := q.c) (v := y) (scr := 14))
  generalize readG q.c y 14 g2 = Y at Hw4 HE HZ4 ⊢
  obtain ⟨Y, g4⟩ := Y
  simp only at Hw4 HE HZ4 ⊢
  go_wp2_with fail
  refine (refer_any Hw4.out (op := 21) (.inr (.inl rfl)) Y X 0 0 sym (HZ4.out.le (by decide))).mono ?_
  rintro e we ⟨rfl, HK⟩
  clear la2 a2_0 a2_1 a2_2 a2_3 a2_4 a2_5 lb2 b2_0
  go_wp2_with fail
  go_end0
  exact ⟨rfl, by rw [HE.out]; exact HK.out.drop.drop⟩
end Go.Proofs.YtkcfbonchhidlaaGreatDoor

set_option linter.unusedVariables false
set_option linter.unusedSimpArgs false
namespace Go.Proofs.YtkcfbonchhidlaaGreatDoor
open Go.RowKit Go.Maps

set_option maxHeartbeats 3200000 in
set_option maxRecDepth 20000 in
theorem dup_any {q : GK} {R : List (Nat × List Value)} {g : Gen} {w : World} (h : GenRel q R g w) (hc : CfOk q.c) (op : Nat) (dst x y imm : Int) (sym : ByteArray) (hd : okR q.c.P.length dst = true) (hx : okR q.c.P.length x = true) (hz : SzG g 800000) :
    Calls Tryz.prog 35 #[.pointer (some ⟨q.gb, 0, none⟩), .agg #[.int .u8 op, .int .i64 dst, .int .i64 x, .int .i64 y, .int .i64 imm, .string sym]] w fun e w' => e = .returned (.tuple #[]) ∧ Hid (GenRel q R (insG q.c ⟨2, dst, x, y, imm, sym⟩ g) w') := by
  have hW := (h.made [.pointer (some ⟨q.gb, 0, none⟩)] 91).made [.int .u8 op, .int .i64 dst, .int .i64 x, .int .i64 y, .int .i64 imm, .string sym] 54
  rw [show (w.alloc (.cells ([.pointer (some ⟨q.gb, 0, none⟩)] : List Value).toArray 91)).heap.size = w.heap.size + 1 by simp] at hW
  have HZ := Lib.hid hz
  have HD := Lib.hid hd
  have HX := Lib.hid hx
  have hdv : 0 ≤ dst ∧ dst < q.c.P.length := of_decide_eq_true hd
  have hxv : 0 ≤ x ∧ x < q.c.P.length := of_decide_eq_true hx
  obtain ⟨kd, rfl⟩ := Int.eq_ofNat_of_zero_le hdv.1
  obtain ⟨kx, rfl⟩ := Int.eq_ofNat_of_zero_le hxv.1
  have hkd : kd < q.c.P.length := by omega
  have hkx : kx < q.c.P.length := by omega
  have hkdI : (kd : Int) < q.c.P.length := by omega
  have hkxI : (kx : Int) < q.c.P.length := by omega
  clear h hz hd hx hdv hxv
  have HPD : Hid (placeG q.c (kd : Int) = q.c.P.getD kd (0, 0)) := (show _ = _ by unfold placeG; rw [Int.toNat_natCast])
  have HPX : Hid (placeG q.c (kx : Int) = q.c.P.getD kx (0, 0)) := (show _ = _ by unfold placeG; rw [Int.toNat_natCast])
  go_enter Tryz.func35, Tryz.ntmps35
  go_upto_region 1 with fail
  obtain ⟨w1, hw1⟩ : ∃ W : World, W = (w.alloc (.cells #[.pointer (some ⟨q.gb, 0, none⟩)] 91)).alloc (.cells #[.int .u8 op, .int .i64 kd, .int .i64 kx, .int .i64 y, .int .i64 imm, .string sym] 54) := ⟨_, rfl⟩
  rw [← hw1]
  have hW : GenRel q ((w.heap.size + 1, [.int .u8 op, .int .i64 kd, .int .i64 kx, .int .i64 y, .int .i64 imm, .string sym]) :: (w.heap.size, [.pointer (some ⟨q.gb, 0, none⟩)]) :: R) g w1 := by rw [hw1]; exact hW
  have HG := Lib.hid (hW.keep (w' := w1.drew) (Below.drew (Below.refl _ _)))
  clear hw1
  have r1 := hW.at (List.mem_cons_self ..)
  have l1 := r1.lt
  have a1 := r1.at 1 rfl
  have a2 := r1.at 2 rfl
  clear r1
  have r0 := hW.at (List.mem_cons_of_mem _ (List.mem_cons_self ..))
  have l0 := r0.lt
  have b0 := r0.at 0 rfl
  clear r0
  obtain ⟨p0, p1, hpl⟩ := hW.place hkd
  obtain ⟨s0, s1, -⟩ := hW.place hkx
  obtain ⟨col, cv, rv, sv, bv, hA⟩ := hW
  obtain ⟨hlt, ⟨c0, c1, c2⟩, -⟩ := hA.cells
  clear hA c1 c2
  generalize q.c.P.getD kd (0, 0) = pd at p0 p1 HPD
  generalize q.c.P.getD kx (0, 0) = px at s0 s1 HPX
  obtain ⟨d1, d2⟩ := pd
  obtain ⟨x1, x2⟩ := px
  simp only at p0 p1 s0 s1 HPD HPX
  have hcs : (d1 = x1 ∧ d2 = x2) ∨ ((placeG q.c (kd : Int) = placeG q.c (kx : Int) → False) ∧ (¬ d1 = x1 ∨ (d1 = x1 ∧ ¬ d2 = x2))) := by
    rw [HPD.out, HPX.out]
    by_cases e1 : d1 = x1
    · by_cases e2 : d2 = x2
      · exact .inl ⟨e1, e2⟩
      · exact .inr ⟨fun e => e2 (Prod.mk.inj e).2, .inr ⟨e1, e2⟩⟩
    · exact .inr ⟨fun e => e1 (Prod.mk.inj e).1, .inl e1⟩
  rcases hcs with ⟨rfl, rfl⟩ | ⟨hne, hcs⟩
  · have HE : Hid (insG q.c ⟨2, kd, kx, y, imm, sym⟩ g = g) := (show _ = _ from (show (if placeG q.c (kd : Int) = placeG q.c (kx : Int) then g else _) = g from if_pos (HPD.out.trans HPX.out.symm)))
    clear HPD HPX
    go_region
    all_goals (
      go_wp2_with fail
      try simp only [Exit.inBlock, Exit.then]
      refine bodyPost_ret (results_none rfl _ _ _) rfl ?_
      exact ⟨rfl, by rw [HE.out]; exact HG.out.drop.drop⟩)
  · have HE : Hid (insG q.c ⟨2, kd, kx, y, imm, sym⟩ g = writeG q.c kd (fun r => if r ≠ (readG q.c kx 1 g).1 then emitG [⟨15, r, (readG q.c kx 1 g).1, 0, 0⟩] else id) (readG q.c kx 1 g).2) := (show _ = _ from (show (if placeG q.c (kd : Int) = placeG q.c (kx : Int) then g else _) = _ from if_neg hne))
    clear HPD HPX hne
    rcases hcs with e1 | ⟨rfl, e1⟩
    all_goals (
      go_region
      all_goals (
        clear e1 p0 p1 s0 s1 c0 hlt hpl
        clear hkdI hkxI
        go_upto_region 2 with fail
        obtain ⟨w2, hw2⟩ : ∃ W : World, W = w1.drew := ⟨_, rfl⟩
        rw [← hw2] at HG ⊢
        clear hw2 l1 a1 a2 l0 b0
        have r1 := HG.out.at (List.mem_cons_self ..)
        have l1 := r1.lt
        have a1 := r1.at 1 rfl
        have a2 := r1.at 2 rfl
        clear r1
        have r0 := HG.out.at (List.mem_cons_of_mem _ (List.mem_cons_self ..))
        have l0 := r0.lt
        have b0 := r0.at 0 rfl
        clear r0
        go_wp2_with fail
        refine (read_any HG.out hc HX.out 1 (HZ.out.le (by decide))).mono ?_
        rintro e w3 ⟨rfl, H3⟩
        have HZ3 := Lib.hid (HZ.out.read (c := q.c) (v := kx) (scr := 1))
        generalize readG q.c kx 1 g = X at H3 HE HZ3 ⊢
        obtain ⟨X, g2⟩ := X
        simp only at H3 HE HZ3 ⊢
        clear l1 a1 a2 l0 b0
        have r1 := H3.out.at (List.mem_cons_self ..)
        have l1 := r1.lt
        have a1 := r1.at 1 rfl
        clear r1
        have r0 := H3.out.at (List.mem_cons_of_mem _ (List.mem_cons_self ..))
        have l0 := r0.lt
        have b0 := r0.at 0 rfl
        clear r0
        have H4 := Lib.hid (H3.out.made [.int .i64 X] 3)
        go_wp2_with fail
        refine (write_any H4.out hc HD.out (fun r => if r ≠ X then emitG [⟨15, r, X, 0, 0⟩] else id) 68 #[.pointer (some ⟨w3.heap.size, 0, none⟩), .pointer (some ⟨w.heap.size, 0, none⟩)] (enters_of Tryz.func68 (by kernel_rfl) rfl) (fun r R' w1 hs hr h1 => by
          have h5 : (if r ≠ X then emitG [⟨15, r, X, 0, 0⟩] else id) g2 = if r ≠ X then emitG [⟨15, r, X, 0, 0⟩] g2 else g2 := by split <;> rfl
          rw [h5]
          simpa using dup1_any h1 (hs _ (List.mem_cons_of_mem _ (List.mem_cons_of_mem _ (List.mem_cons_self ..)))) (hs _ (List.mem_cons_self ..)) r (HZ3.out.le (by decide))) (fun r => by
          show SzG ((if r ≠ X then emitG [⟨15, r, X, 0, 0⟩] else id) g2) _
          split
          · exact (HZ3.out.emit _).le (by simp)
          · exact HZ3.out.le (by decide))).mono ?_
        rintro e w5 ⟨rfl, HK⟩
        clear l1 a1 l0 b0
        go_wp2_with fail
        go_end0
        exact ⟨rfl, by rw [HE.out]; exact HK.out.drop.drop.drop⟩))
end Go.Proofs.YtkcfbonchhidlaaGreatDoor

