import Derived.Test.YtkcfbonchhidlaaGreatDoorMs40
set_option linter.unusedVariables false
set_option linter.unusedSimpArgs false
namespace Go.Proofs.YtkcfbonchhidlaaGreatDoor
open Go.RowKit Go.Maps

set_option maxHeartbeats 3200000 in
set_option maxRecDepth 20000 in
theorem ins4_any {q : GK} {R : List (Nat × List Value)} {g : Gen} {w : World} (h : GenRel q R g w) (hc : CfOk q.c) (dst x y imm : Int) (sym : ByteArray) (hd : okR q.c.P.length dst = true) (hx : okR q.c.P.length x = true) (hs5 : sym.size ≤ maxLen) (hF : (q.F sym).getD (.int .i64 0) = .int .i64 (q.c.ar sym)) (hz : SzG g 800000) :
    Calls Tryz.prog 22 #[.pointer (some ⟨q.gb, 0, none⟩), .agg #[.int .u8 4, .int .i64 dst, .int .i64 x, .int .i64 y, .int .i64 imm, .string sym]] w (InsPost q R ⟨4, dst, x, y, imm, sym⟩ g) := by
  have HE : Hid (insG q.c ⟨4, dst, x, y, imm, sym⟩ g = writeG q.c dst (fun r => emitG [⟨18, r, (readG q.c x 1 g).1, 0, q.c.ar sym⟩]) (readG q.c x 1 g).2) := (show _ = _ by unfold insG; rfl)
  have hW := (h.made [.pointer (some ⟨q.gb, 0, none⟩)] 91).made [.int .u8 4, .int .i64 dst, .int .i64 x, .int .i64 y, .int .i64 imm, .string sym] 54
  rw [show (w.alloc (.cells ([.pointer (some ⟨q.gb, 0, none⟩)] : List Value).toArray 91)).heap.size = w.heap.size + 1 by simp] at hW
  have HZ := Lib.hid hz
  clear h hz
  go_enter Tryz.func22, Tryz.ntmps22
  go_upto_region 1 with fail
  obtain ⟨w1, hw1⟩ : ∃ W : World, W = (w.alloc (.cells #[.pointer (some ⟨q.gb, 0, none⟩)] 91)).alloc (.cells #[.int .u8 4, .int .i64 dst, .int .i64 x, .int .i64 y, .int .i64 imm, .string sym] 54) := ⟨_, rfl⟩
  rw [← hw1]
  have hW : GenRel q ((w.heap.size + 1, [.int .u8 4, .int .i64 dst, .int .i64 x, .int .i64 y, .int .i64 imm, .string sym]) :: (w.heap.size, [.pointer (some ⟨q.gb, 0, none⟩)]) :: R) g w1 := by rw [hw1]; exact hW
  have HG := Lib.hid hW
  clear hw1 hW
  have ra0 := HG.out.at (List.mem_cons_self ..)
  have la0 := ra0.lt
  have a0_0 := ra0.at 0 rfl
  have a0_1 := ra0.at 1 rfl
  have a0_2 := ra0.at 2 rfl
  have a0_3 := ra0.at 3 rfl
  have a0_4 := ra0.at 4 rfl
  have a0_5 := ra0.at 5 rfl
  clear ra0
  have rb0 := HG.out.at (List.mem_cons_of_mem _ (List.mem_cons_self ..))
  have lb0 := rb0.lt
  have b0_0 := rb0.at 0 rfl
  clear rb0
  go_wp2_with fail
  refine (read_any HG.out hc hx 1 (HZ.out.le (by decide))).mono ?_
  rintro e w2 ⟨rfl, Hw2⟩
  clear la0 a0_0 a0_1 a0_2 a0_3 a0_4 a0_5 lb0 b0_0
  have ra1 := Hw2.out.at (List.mem_cons_self ..)
  have la1 := ra1.lt
  have a1_1 := ra1.at 1 rfl
  have a1_2 := ra1.at 2 rfl
  have a1_3 := ra1.at 3 rfl
  have a1_4 := ra1.at 4 rfl
  have a1_5 := ra1.at 5 rfl
  clear ra1
  have rb1 := Hw2.out.at (List.mem_cons_of_mem _ (List.mem_cons_self ..))
  have lb1 := rb1.lt
  have b1_0 := rb1.at 0 rfl
  clear rb1
  have HZ2 := Lib.hid (HZ.out.read (c := q.c) (v := x) (scr := 1))
  generalize readG q.c x 1 g = X at Hw2 HE HZ2 ⊢
  obtain ⟨X, g2⟩ := X
  simp only at Hw2 HE HZ2 ⊢
  go_wp2_with fail
  have HG3 := Lib.hid (Hw2.out.made [.int .i64 X] 3)
  refine (write_any HG3.out hc hd (fun r => emitG [⟨18, r, X, 0, q.c.ar sym⟩]) 39 #[.pointer (some ⟨w.heap.size, 0, none⟩), .pointer (some ⟨w2.heap.size, 0, none⟩), .pointer (some ⟨w.heap.size + 1, 0, none⟩)] (enters_of Tryz.func39 (by kernel_rfl) rfl) (fun r R' w1 hs hr h1 => by simpa using clo3_any h1 (hs _ (List.mem_cons_of_mem _ (List.mem_cons_of_mem _ (List.mem_cons_self ..)))) (hs _ (List.mem_cons_of_mem _ (List.mem_cons_self ..))) (hs _ (List.mem_cons_self ..)) r hs5 hF (HZ2.out.le (by decide))) (fun r => (HZ2.out.emit _).le (by simp))).mono ?_
  rintro e we ⟨rfl, HK⟩
  clear la1 a1_1 a1_2 a1_3 a1_4 a1_5 lb1 b1_0
  go_wp2_with fail
  go_end0
  exact ⟨rfl, by rw [HE.out]; exact HK.out.drop.drop.drop⟩

set_option maxHeartbeats 3200000 in
set_option maxRecDepth 20000 in
theorem ins6_any {q : GK} {R : List (Nat × List Value)} {g : Gen} {w : World} (h : GenRel q R g w) (hc : CfOk q.c) (dst x y imm : Int) (sym : ByteArray) (hd : okR q.c.P.length dst = true) (hx : okR q.c.P.length x = true) (hz : SzG g 800000) :
    Calls Tryz.prog 22 #[.pointer (some ⟨q.gb, 0, none⟩), .agg #[.int .u8 6, .int .i64 dst, .int .i64 x, .int .i64 y, .int .i64 imm, .string sym]] w (InsPost q R ⟨6, dst, x, y, imm, sym⟩ g) := by
  have HE : Hid (insG q.c ⟨6, dst, x, y, imm, sym⟩ g = writeG q.c dst (fun r => referG ⟨20, r, (readG q.c x 1 g).1, 0, 0⟩ sym) (readG q.c x 1 g).2) := (show _ = _ by unfold insG; rfl)
  have hW := (h.made [.pointer (some ⟨q.gb, 0, none⟩)] 91).made [.int .u8 6, .int .i64 dst, .int .i64 x, .int .i64 y, .int .i64 imm, .string sym] 54
  rw [show (w.alloc (.cells ([.pointer (some ⟨q.gb, 0, none⟩)] : List Value).toArray 91)).heap.size = w.heap.size + 1 by simp] at hW
  have HZ := Lib.hid hz
  clear h hz
  go_enter Tryz.func22, Tryz.ntmps22
  go_upto_region 1 with fail
  obtain ⟨w1, hw1⟩ : ∃ W : World, W = (w.alloc (.cells #[.pointer (some ⟨q.gb, 0, none⟩)] 91)).alloc (.cells #[.int .u8 6, .int .i64 dst, .int .i64 x, .int .i64 y, .int .i64 imm, .string sym] 54) := ⟨_, rfl⟩
  rw [← hw1]
  have hW : GenRel q ((w.heap.size + 1, [.int .u8 6, .int .i64 dst, .int .i64 x, .int .i64 y, .int .i64 imm, .string sym]) :: (w.heap.size, [.pointer (some ⟨q.gb, 0, none⟩)]) :: R) g w1 := by rw [hw1]; exact hW
  have HG := Lib.hid hW
  clear hw1 hW
  have ra0 := HG.out.at (List.mem_cons_self ..)
  have la0 := ra0.lt
  have a0_0 := ra0.at 0 rfl
  have a0_1 := ra0.at 1 rfl
  have a0_2 := ra0.at 2 rfl
  have a0_3 := ra0.at 3 rfl
  have a0_4 := ra0.at 4 rfl
  have a0_5 := ra0.at 5 rfl
  clear ra0
  have rb0 := HG.out.at (List.mem_cons_of_mem _ (List.mem_cons_self ..))
  have lb0 := rb0.lt
  have b0_0 := rb0.at 0 rfl
  clear rb0
  go_wp2_with fail
  refine (read_any HG.out hc hx 1 (HZ.out.le (by decide))).mono ?_
  rintro e w2 ⟨rfl, Hw2⟩
  clear la0 a0_0 a0_1 a0_2 a0_3 a0_4 a0_5 lb0 b0_0
  have ra1 := Hw2.out.at (List.mem_cons_self ..)
  have la1 := ra1.lt
  have a1_1 := ra1.at 1 rfl
  have a1_2 := ra1.at 2 rfl
  have a1_3 := ra1.at 3 rfl
  have a1_4 := ra1.at 4 rfl
  have a1_5 := ra1.at 5 rfl
  clear ra1
  have rb1 := Hw2.out.at (List.mem_cons_of_mem _ (List.mem_cons_self ..))
  have lb1 := rb1.lt
  have b1_0 := rb1.at 0 rfl
  clear rb1
  have HZ2 := Lib.hid (HZ.out.read (c := q.c) (v := x) (scr := 1))
  generalize readG q.c x 1 g = X at Hw2 HE HZ2 ⊢
  obtain ⟨X, g2⟩ := X
  simp only at Hw2 HE HZ2 ⊢
  go_wp2_with fail
  have HG3 := Lib.hid (Hw2.out.made [.int .i64 X] 3)
  refine (write_any HG3.out hc hd (fun r => referG ⟨20, r, X, 0, 0⟩ sym) 40 #[.pointer (some ⟨w.heap.size, 0, none⟩), .pointer (some ⟨w2.heap.size, 0, none⟩), .pointer (some ⟨w.heap.size + 1, 0, none⟩)] (enters_of Tryz.func40 (by kernel_rfl) rfl) (fun r R' w1 hs hr h1 => by simpa using clo4_any h1 (hs _ (List.mem_cons_of_mem _ (List.mem_cons_of_mem _ (List.mem_cons_self ..)))) (hs _ (List.mem_cons_of_mem _ (List.mem_cons_self ..))) (hs _ (List.mem_cons_self ..)) r (HZ2.out.le (by decide))) (fun r => (HZ2.out.refer _ _).le (by simp))).mono ?_
  rintro e we ⟨rfl, HK⟩
  clear la1 a1_1 a1_2 a1_3 a1_4 a1_5 lb1 b1_0
  go_wp2_with fail
  go_end0
  exact ⟨rfl, by rw [HE.out]; exact HK.out.drop.drop.drop⟩

set_option maxHeartbeats 3200000 in
set_option maxRecDepth 20000 in
theorem ins3_any {q : GK} {R : List (Nat × List Value)} {g : Gen} {w : World} (h : GenRel q R g w) (hc : CfOk q.c) (dst x y imm : Int) (sym : ByteArray) (hd : okR q.c.P.length dst = true) (hx : okR q.c.P.length x = true) (hy : okR q.c.P.length y = true) (hb : 6 ≤ imm ∧ imm ≤ 23) (hz : SzG g 800000) :
    Calls Tryz.prog 22 #[.pointer (some ⟨q.gb, 0, none⟩), .agg #[.int .u8 3, .int .i64 dst, .int .i64 x, .int .i64 y, .int .i64 imm, .string sym]] w (InsPost q R ⟨3, dst, x, y, imm, sym⟩ g) := by
  have HE : Hid (insG q.c ⟨3, dst, x, y, imm, sym⟩ g = writeG q.c dst (fun r => emitG (operG imm.toNat r (readG q.c x 1 g).1 (readG q.c y 14 (readG q.c x 1 g).2).1)) (readG q.c y 14 (readG q.c x 1 g).2).2) := (show _ = _ by unfold insG; rfl)
  have hW := (h.made [.pointer (some ⟨q.gb, 0, none⟩)] 91).made [.int .u8 3, .int .i64 dst, .int .i64 x, .int .i64 y, .int .i64 imm, .string sym] 54
  rw [show (w.alloc (.cells ([.pointer (some ⟨q.gb, 0, none⟩)] : List Value).toArray 91)).heap.size = w.heap.size + 1 by simp] at hW
  have HZ := Lib.hid hz
  clear h hz
  go_enter Tryz.func22, Tryz.ntmps22
  go_upto_region 1 with fail
  obtain ⟨w1, hw1⟩ : ∃ W : World, W = (w.alloc (.cells #[.pointer (some ⟨q.gb, 0, none⟩)] 91)).alloc (.cells #[.int .u8 3, .int .i64 dst, .int .i64 x, .int .i64 y, .int .i64 imm, .string sym] 54) := ⟨_, rfl⟩
  rw [← hw1]
  have hW : GenRel q ((w.heap.size + 1, [.int .u8 3, .int .i64 dst, .int .i64 x, .int .i64 y, .int .i64 imm, .string sym]) :: (w.heap.size, [.pointer (some ⟨q.gb, 0, none⟩)]) :: R) g w1 := by rw [hw1]; exact hW
  have HG := Lib.hid hW
  clear hw1 hW
  have ra0 := HG.out.at (List.mem_cons_self ..)
  have la0 := ra0.lt
  have a0_0 := ra0.at 0 rfl
  have a0_1 := ra0.at 1 rfl
  have a0_2 := ra0.at 2 rfl
  have a0_3 := ra0.at 3 rfl
  have a0_4 := ra0.at 4 rfl
  have a0_5 := ra0.at 5 rfl
  clear ra0
  have rb0 := HG.out.at (List.mem_cons_of_mem _ (List.mem_cons_self ..))
  have lb0 := rb0.lt
  have b0_0 := rb0.at 0 rfl
  clear rb0
  go_wp2_with fail
  refine (read_any HG.out hc hx 1 (HZ.out.le (by decide))).mono ?_
  rintro e w2 ⟨rfl, Hw2⟩
  clear la0 a0_0 a0_1 a0_2 a0_3 a0_4 a0_5 lb0 b0_0
  have ra1 := Hw2.out.at (List.mem_cons_self ..)
  have la1 := ra1.lt
  have a1_1 := ra1.at 1 rfl
  have a1_2 := ra1.at 2 rfl
  have a1_3 := ra1.at 3 rfl
  have a1_4 := ra1.at 4 rfl
  have a1_5 := ra1.at 5 rfl
  clear ra1
  have rb1 := Hw2.out.at (List.mem_cons_of_mem _ (List.mem_cons_self ..))
  have lb1 := rb1.lt
  have b1_0 := rb1.at 0 rfl
  clear rb1
  have HZ2 := Lib.hid (HZ.out.read (c := q.c) (v := x) (scr := 1))
  generalize readG q.c x 1 g = X at Hw2 HE HZ2 ⊢
  obtain ⟨X, g2⟩ := X
  simp only at Hw2 HE HZ2 ⊢
  have HG3 := Lib.hid (Hw2.out.made [.int .i64 X] 3)
  go_wp2_with fail
  refine (read_any HG3.out hc hy 14 (HZ2.out.le (by decide))).mono ?_
  rintro e w4 ⟨rfl, Hw4⟩
  clear la1 a1_1 a1_2 a1_3 a1_4 a1_5 lb1 b1_0
  have ra2 := Hw4.out.at (List.mem_cons_of_mem _ (List.mem_cons_self ..))
  have la2 := ra2.lt
  have a2_1 := ra2.at 1 rfl
  have a2_2 := ra2.at 2 rfl
  have a2_3 := ra2.at 3 rfl
  have a2_4 := ra2.at 4 rfl
  have a2_5 := ra2.at 5 rfl
  clear ra2
  have rb2 := Hw4.out.at (List.mem_cons_of_mem _ (List.mem_cons_of_mem _ (List.mem_cons_self ..)))
  have lb2 := rb2.lt
  have b2_0 := rb2.at 0 rfl
  clear rb2
  have HZ4 := Lib.hid (HZ2.out.read (c := q.c) (v := y) (scr := 14))
  generalize readG q.c y 14 g2 = Y at Hw4 HE HZ4 ⊢
  obtain ⟨Y, g4⟩ := Y
  simp only at Hw4 HE HZ4 ⊢
  go_wp2_with fail
  have HG5 := Lib.hid (Hw4.out.made [.int .i64 Y] 3)
  refine (write_any HG5.out hc hd (fun r => emitG (operG imm.toNat r X Y)) 37 #[.pointer (some ⟨w.heap.size, 0, none⟩), .pointer (some ⟨w.heap.size + 1, 0, none⟩), .pointer (some ⟨w2.heap.size, 0, none⟩), .pointer (some ⟨w4.heap.size, 0, none⟩)] (enters_of Tryz.func37 (by kernel_rfl) rfl) (fun r R' w1 hs hr h1 => by simpa using clo2_any h1 (hs _ (List.mem_cons_of_mem _ (List.mem_cons_of_mem _ (List.mem_cons_of_mem _ (List.mem_cons_self ..))))) (hs _ (List.mem_cons_of_mem _ (List.mem_cons_of_mem _ (List.mem_cons_self ..)))) (hs _ (List.mem_cons_of_mem _ (List.mem_cons_self ..))) (hs _ (List.mem_cons_self ..)) r hb (HZ4.out.le (by decide))) (fun r => (HZ4.out.emit _).le (by have := operG_len imm.toNat r X Y; omega))).mono ?_
  rintro e we ⟨rfl, HK⟩
  clear la2 a2_1 a2_2 a2_3 a2_4 a2_5 lb2 b2_0
  go_wp2_with fail
  go_end0
  exact ⟨rfl, by rw [HE.out]; exact HK.out.drop.drop.drop.drop⟩
end Go.Proofs.YtkcfbonchhidlaaGreatDoor
