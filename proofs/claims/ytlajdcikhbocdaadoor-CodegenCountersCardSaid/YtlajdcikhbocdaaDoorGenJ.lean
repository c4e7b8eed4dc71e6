/- The generator's instruction, by its contract: a theorem for each operation. -/
import Derived.Test.YtlajdcikhbocdaaDoorGenI
import Derived.Test.YtlajdcikhbocdaaDoorGenL
set_option linter.unusedVariables false
set_option linter.unusedSimpArgs false
namespace Go.Proofs.YtlajdcikhbocdaaDoor
open Go.RowKit Go.Maps

def InsPost (q : GK) (R : List (Nat × List Value)) (i : IIns) (g : Gen) (e : Ending) (w' : World) : Prop := e = .returned (.tuple #[]) ∧ Hid (GenRel q R (insG q.c i g) w')
theorem SzG.refer {g : Gen} {n : Nat} (h : SzG g n) (i : GI) (nm : ByteArray) : SzG (referG i nm g) (n + 1) := by
  refine ⟨?_, ?_, Nat.le_trans h.2.2 (by omega)⟩
  · show (g.code ++ [i]).length ≤ _
    rw [List.length_append]; have := h.1; simp; omega
  · show (g.refs ++ [_]).length ≤ _
    rw [List.length_append]; have := h.2.1; simp; omega
theorem constG_len (r n : Int) : (constG r n).length ≤ 3 := by
  unfold constG
  split
  · simp
  · split <;> simp
theorem operG_len (k : Nat) (r x y : Int) : (operG k r x y).length ≤ 4 := by
  unfold operG
  repeat' split
  all_goals simp

set_option maxHeartbeats 3200000 in
set_option maxRecDepth 20000 in
theorem ins1_any {q : GK} {R : List (Nat × List Value)} {g : Gen} {w : World} (h : GenRel q R g w) (hc : CfOk q.c) (dst x y imm : Int) (sym : ByteArray) (hd : okR q.c.P.length dst = true) (hb : -2147483648 ≤ imm ∧ imm ≤ 2147483647) (hz : SzG g 800000) :
    Calls Tryd.prog 25 #[.pointer (some ⟨q.gb, 0, none⟩), .agg #[.int .u8 1, .int .i64 dst, .int .i64 x, .int .i64 y, .int .i64 imm, .string sym]] w (InsPost q R ⟨1, dst, x, y, imm, sym⟩ g) := by
  have HE : Hid (insG q.c ⟨1, dst, x, y, imm, sym⟩ g = writeG q.c dst (fun r => emitG (constG r imm)) g) := (show _ = _ by unfold insG; rfl)
  have hW := (h.made [.pointer (some ⟨q.gb, 0, none⟩)] 66).made [.int .u8 1, .int .i64 dst, .int .i64 x, .int .i64 y, .int .i64 imm, .string sym] 51
  rw [show (w.alloc (.cells ([.pointer (some ⟨q.gb, 0, none⟩)] : List Value).toArray 66)).heap.size = w.heap.size + 1 by simp] at hW
  have HZ := Lib.hid hz
  clear h hz
  go_enter Tryd.func25, Tryd.ntmps25
  go_upto_region 1 with fail
  obtain ⟨w1, hw1⟩ : ∃ W : World, W = (w.alloc (.cells #[.pointer (some ⟨q.gb, 0, none⟩)] 66)).alloc (.cells #[.int .u8 1, .int .i64 dst, .int .i64 x, .int .i64 y, .int .i64 imm, .string sym] 51) := ⟨_, rfl⟩
  rw [← hw1]
  have hW : GenRel q ((w.heap.size + 1, [.int .u8 1, .int .i64 dst, .int .i64 x, .int .i64 y, .int .i64 imm, .string sym]) :: (w.heap.size, [.pointer (some ⟨q.gb, 0, none⟩)]) :: R) g w1 := by rw [hw1]; exact hW
  have HG := Lib.hid hW
  clear hw1 hW
  have ra0 := HG.out.at (List.mem_cons_self ..)
  have la0 := ra0.lt
  have a0_0 := ra0.at 0 rfl
  have a0_1 := ra0.at 1 rfl
  have a0_2 := ra0.at 2 rfl
  have a0_3 := ra0.at 3 rfl
  have a0_4 := ra0.at 4 rfl
  have a0_5 := ra0.at 5 rfl
  clear ra0
  have rb0 := HG.out.at (List.mem_cons_of_mem _ (List.mem_cons_self ..))
  have lb0 := rb0.lt
  have b0_0 := rb0.at 0 rfl
  clear rb0
  go_wp2_with fail
  refine (write_any HG.out hc hd (fun r => emitG (constG r imm)) 36 #[.pointer (some ⟨w.heap.size, 0, none⟩), .pointer (some ⟨w.heap.size + 1, 0, none⟩)] (enters_of Tryd.func36 (by kernel_rfl) rfl) (fun r R' w1 hs hr h1 => by simpa using clo1_any h1 (hs _ (List.mem_cons_of_mem _ (List.mem_cons_self ..))) (hs _ (List.mem_cons_self ..)) r hr hb (HZ.out.le (by decide))) (fun r => (HZ.out.emit _).le (by have := constG_len r imm; omega))).mono ?_
  rintro e we ⟨rfl, HK⟩
  clear la0 a0_0 a0_1 a0_2 a0_3 a0_4 a0_5 lb0 b0_0
  go_wp2_with fail
  go_end0
  exact ⟨rfl, by rw [HE.out]; exact HK.out.drop.drop⟩

set_option maxHeartbeats 3200000 in
set_option maxRecDepth 20000 in
theorem ins9_any {q : GK} {R : List (Nat × List Value)} {g : Gen} {w : World} (h : GenRel q R g w) (hc : CfOk q.c) (dst x y imm : Int) (sym : ByteArray) (hd : okR q.c.P.length dst = true) (hz : SzG g 800000) :
    Calls Tryd.prog 25 #[.pointer (some ⟨q.gb, 0, none⟩), .agg #[.int .u8 9, .int .i64 dst, .int .i64 x, .int .i64 y, .int .i64 imm, .string sym]] w (InsPost q R ⟨9, dst, x, y, imm, sym⟩ g) := by
  have HE : Hid (insG q.c ⟨9, dst, x, y, imm, sym⟩ g = writeG q.c dst (fun r => emitG [⟨26, r, 0, 0, imm⟩]) g) := (show _ = _ by unfold insG; rfl)
  have hW := (h.made [.pointer (some ⟨q.gb, 0, none⟩)] 66).made [.int .u8 9, .int .i64 dst, .int .i64 x, .int .i64 y, .int .i64 imm, .string sym] 51
  rw [show (w.alloc (.cells ([.pointer (some ⟨q.gb, 0, none⟩)] : List Value).toArray 66)).heap.size = w.heap.size + 1 by simp] at hW
  have HZ := Lib.hid hz
  clear h hz
  go_enter Tryd.func25, Tryd.ntmps25
  go_upto_region 1 with fail
  obtain ⟨w1, hw1⟩ : ∃ W : World, W = (w.alloc (.cells #[.pointer (some ⟨q.gb, 0, none⟩)] 66)).alloc (.cells #[.int .u8 9, .int .i64 dst, .int .i64 x, .int .i64 y, .int .i64 imm, .string sym] 51) := ⟨_, rfl⟩
  rw [← hw1]
  have hW : GenRel q ((w.heap.size + 1, [.int .u8 9, .int .i64 dst, .int .i64 x, .int .i64 y, .int .i64 imm, .string sym]) :: (w.heap.size, [.pointer (some ⟨q.gb, 0, none⟩)]) :: R) g w1 := by rw [hw1]; exact hW
  have HG := Lib.hid hW
  clear hw1 hW
  have ra0 := HG.out.at (List.mem_cons_self ..)
  have la0 := ra0.lt
  have a0_0 := ra0.at 0 rfl
  have a0_1 := ra0.at 1 rfl
  have a0_2 := ra0.at 2 rfl
  have a0_3 := ra0.at 3 rfl
  have a0_4 := ra0.at 4 rfl
  have a0_5 := ra0.at 5 rfl
  clear ra0
  have rb0 := HG.out.at (List.mem_cons_of_mem _ (List.mem_cons_self ..))
  have lb0 := rb0.lt
  have b0_0 := rb0.at 0 rfl
  clear rb0
  go_wp2_with fail
  refine (write_any HG.out hc hd (fun r => emitG [⟨26, r, 0, 0, imm⟩]) 44 #[.pointer (some ⟨w.heap.size, 0, none⟩), .pointer (some ⟨w.heap.size + 1, 0, none⟩)] (enters_of Tryd.func44 (by kernel_rfl) rfl) (fun r R' w1 hs hr h1 => by simpa using clo5_any h1 (hs _ (List.mem_cons_of_mem _ (List.mem_cons_self ..))) (hs _ (List.mem_cons_self ..)) r (HZ.out.le (by decide))) (fun r => (HZ.out.emit _).le (by simp))).mono ?_
  rintro e we ⟨rfl, HK⟩
  clear la0 a0_0 a0_1 a0_2 a0_3 a0_4 a0_5 lb0 b0_0
  go_wp2_with fail
  go_end0
  exact ⟨rfl, by rw [HE.out]; exact HK.out.drop.drop⟩

set_option maxHeartbeats 3200000 in
set_option maxRecDepth 20000 in
theorem ins15_any {q : GK} {R : List (Nat × List Value)} {g : Gen} {w : World} (h : GenRel q R g w) (hc : CfOk q.c) (dst x y imm : Int) (sym : ByteArray) (hd : okR q.c.P.length dst = true) (hb : 0 ≤ imm ∧ imm ≤ 1000) (hz : SzG g 800000) :
    Calls Tryd.prog 25 #[.pointer (some ⟨q.gb, 0, none⟩), .agg #[.int .u8 15, .int .i64 dst, .int .i64 x, .int .i64 y, .int .i64 imm, .string sym]] w (InsPost q R ⟨15, dst, x, y, imm, sym⟩ g) := by
  have HE : Hid (insG q.c ⟨15, dst, x, y, imm, sym⟩ g = writeG q.c dst (fun r => emitG [⟨15, r, 10 + imm, 0, 0⟩]) g) := (show _ = _ by unfold insG; rfl)
  have hW := (h.made [.pointer (some ⟨q.gb, 0, none⟩)] 66).made [.int .u8 15, .int .i64 dst, .int .i64 x, .int .i64 y, .int .i64 imm, .string sym] 51
  rw [show (w.alloc (.cells ([.pointer (some ⟨q.gb, 0, none⟩)] : List Value).toArray 66)).heap.size = w.heap.size + 1 by simp] at hW
  have HZ := Lib.hid hz
  clear h hz
  go_enter Tryd.func25, Tryd.ntmps25
  go_upto_region 1 with fail
  obtain ⟨w1, hw1⟩ : ∃ W : World, W = (w.alloc (.cells #[.pointer (some ⟨q.gb, 0, none⟩)] 66)).alloc (.cells #[.int .u8 15, .int .i64 dst, .int .i64 x, .int .i64 y, .int .i64 imm, .string sym] 51) := ⟨_, rfl⟩
  rw [← hw1]
  have hW : GenRel q ((w.heap.size + 1, [.int .u8 15, .int .i64 dst, .int .i64 x, .int .i64 y, .int .i64 imm, .string sym]) :: (w.heap.size, [.pointer (some ⟨q.gb, 0, none⟩)]) :: R) g w1 := by rw [hw1]; exact hW
  have HG := Lib.hid hW
  clear hw1 hW
  have ra0 := HG.out.at (List.mem_cons_self ..)
  have la0 := ra0.lt
  have a0_0 := ra0.at 0 rfl
  have a0_1 := ra0.at 1 rfl
  have a0_2 := ra0.at 2 rfl
  have a0_3 := ra0.at 3 rfl
  have a0_4 := ra0.at 4 rfl
  have a0_5 := ra0.at 5 rfl
  clear ra0
  have rb0 := HG.out.at (List.mem_cons_of_mem _ (List.mem_cons_self ..))
  have lb0 := rb0.lt
  have b0_0 := rb0.at 0 rfl
  clear rb0
  go_wp2_with fail
  refine (write_any HG.out hc hd (fun r => emitG [⟨15, r, 10 + imm, 0, 0⟩]) 45 #[.pointer (some ⟨w.heap.size, 0, none⟩), .pointer (some ⟨w.heap.size + 1, 0, none⟩)] (enters_of Tryd.func45 (by kernel_rfl) rfl) (fun r R' w1 hs hr h1 => by simpa using clo6_any h1 (hs _ (List.mem_cons_of_mem _ (List.mem_cons_self ..))) (hs _ (List.mem_cons_self ..)) r hb (HZ.out.le (by decide))) (fun r => (HZ.out.emit _).le (by simp))).mono ?_
  rintro e we ⟨rfl, HK⟩
  clear la0 a0_0 a0_1 a0_2 a0_3 a0_4 a0_5 lb0 b0_0
  go_wp2_with fail
  go_end0
  exact ⟨rfl, by rw [HE.out]; exact HK.out.drop.drop⟩

set_option maxHeartbeats 3200000 in
set_option maxRecDepth 20000 in
theorem ins11_any {q : GK} {R : List (Nat × List Value)} {g : Gen} {w : World} (h : GenRel q R g w) (hc : CfOk q.c) (dst x y imm : Int) (sym : ByteArray)  (hz : SzG g 800000) :
    Calls Tryd.prog 25 #[.pointer (some ⟨q.gb, 0, none⟩), .agg #[.int .u8 11, .int .i64 dst, .int .i64 x, .int .i64 y, .int .i64 imm, .string sym]] w (InsPost q R ⟨11, dst, x, y, imm, sym⟩ g) := by
  have HE : Hid (insG q.c ⟨11, dst, x, y, imm, sym⟩ g = referG ⟨28, 0, 0, 0, 0⟩ sym g) := (show _ = _ by unfold insG; rfl)
  have hW := (h.made [.pointer (some ⟨q.gb, 0, none⟩)] 66).made [.int .u8 11, .int .i64 dst, .int .i64 x, .int .i64 y, .int .i64 imm, .string sym] 51
  rw [show (w.alloc (.cells ([.pointer (some ⟨q.gb, 0, none⟩)] : List Value).toArray 66)).heap.size = w.heap.size + 1 by simp] at hW
  have HZ := Lib.hid hz
  clear h hz
  go_enter Tryd.func25, Tryd.ntmps25
  go_upto_region 1 with fail
  obtain ⟨w1, hw1⟩ : ∃ W : World, W = (w.alloc (.cells #[.pointer (some ⟨q.gb, 0, none⟩)] 66)).alloc (.cells #[.int .u8 11, .int .i64 dst, .int .i64 x, .int .i64 y, .int .i64 imm, .string sym] 51) := ⟨_, rfl⟩
  rw [← hw1]
  have hW : GenRel q ((w.heap.size + 1, [.int .u8 11, .int .i64 dst, .int .i64 x, .int .i64 y, .int .i64 imm, .string sym]) :: (w.heap.size, [.pointer (some ⟨q.gb, 0, none⟩)]) :: R) g w1 := by rw [hw1]; exact hW
  have HG := Lib.hid hW
  clear hw1 hW
  have ra0 := HG.out.at (List.mem_cons_self ..)
  have la0 := ra0.lt
  have a0_0 := ra0.at 0 rfl
  have a0_1 := ra0.at 1 rfl
  have a0_2 := ra0.at 2 rfl
  have a0_3 := ra0.at 3 rfl
  have a0_4 := ra0.at 4 rfl
  have a0_5 := ra0.at 5 rfl
  clear ra0
  have rb0 := HG.out.at (List.mem_cons_of_mem _ (List.mem_cons_self ..))
  have lb0 := rb0.lt
  have b0_0 := rb0.at 0 rfl
  clear rb0
  go_wp2_with fail
  refine (refer_any HG.out (op := 28) (.inr (.inr (.inl rfl))) 0 0 0 0 sym (HZ.out.le (by decide))).mono ?_
  rintro e we ⟨rfl, HK⟩
  clear la0 a0_0 a0_1 a0_2 a0_3 a0_4 a0_5 lb0 b0_0
  go_wp2_with fail
  go_end0
  exact ⟨rfl, by rw [HE.out]; exact HK.out.drop.drop⟩

set_option maxHeartbeats 3200000 in
set_option maxRecDepth 20000 in
theorem ins12_any {q : GK} {R : List (Nat × List Value)} {g : Gen} {w : World} (h : GenRel q R g w) (hc : CfOk q.c) (dst x y imm : Int) (sym : ByteArray)  (hz : SzG g 800000) :
    Calls Tryd.prog 25 #[.pointer (some ⟨q.gb, 0, none⟩), .agg #[.int .u8 12, .int .i64 dst, .int .i64 x, .int .i64 y, .int .i64 imm, .string sym]] w (InsPost q R ⟨12, dst, x, y, imm, sym⟩ g) := by
  have HE : Hid (insG q.c ⟨12, dst, x, y, imm, sym⟩ g = referG ⟨29, 0, 0, 0, 0⟩ sym g) := (show _ = _ by unfold insG; rfl)
  have hW := (h.made [.pointer (some ⟨q.gb, 0, none⟩)] 66).made [.int .u8 12, .int .i64 dst, .int .i64 x, .int .i64 y, .int .i64 imm, .string sym] 51
  rw [show (w.alloc (.cells ([.pointer (some ⟨q.gb, 0, none⟩)] : List Value).toArray 66)).heap.size = w.heap.size + 1 by simp] at hW
  have HZ := Lib.hid hz
  clear h hz
  go_enter Tryd.func25, Tryd.ntmps25
  go_upto_region 1 with fail
  obtain ⟨w1, hw1⟩ : ∃ W : World, W = (w.alloc (.cells #[.pointer (some ⟨q.gb, 0, none⟩)] 66)).alloc (.cells #[.int .u8 12, .int .i64 dst, .int .i64 x, .int .i64 y, .int .i64 imm, .string sym] 51) := ⟨_, rfl⟩
  rw [← hw1]
  have hW : GenRel q ((w.heap.size + 1, [.int .u8 12, .int .i64 dst, .int .i64 x, .int .i64 y, .int .i64 imm, .string sym]) :: (w.heap.size, [.pointer (some ⟨q.gb, 0, none⟩)]) :: R) g w1 := by rw [hw1]; exact hW
  have HG := Lib.hid hW
  clear hw1 hW
  have ra0 := HG.out.at (List.mem_cons_self ..)
  have la0 := ra0.lt
  have a0_0 := ra0.at 0 rfl
  have a0_1 := ra0.at 1 rfl
  have a0_2 := ra0.at 2 rfl
  have a0_3 := ra0.at 3 rfl
  have a0_4 := ra0.at 4 rfl
  have a0_5 := ra0.at 5 rfl
  clear ra0
  have rb0 := HG.out.at (List.mem_cons_of_mem _ (List.mem_cons_self ..))
  have lb0 := rb0.lt
  have b0_0 := rb0.at 0 rfl
  clear rb0
  go_wp2_with fail
  refine (refer_any HG.out (op := 29) (.inr (.inr (.inr rfl))) 0 0 0 0 sym (HZ.out.le (by decide))).mono ?_
  rintro e we ⟨rfl, HK⟩
  clear la0 a0_0 a0_1 a0_2 a0_3 a0_4 a0_5 lb0 b0_0
  go_wp2_with fail
  go_end0
  exact ⟨rfl, by rw [HE.out]; exact HK.out.drop.drop⟩

set_option maxHeartbeats 3200000 in
set_option maxRecDepth 20000 in
theorem ins13_any {q : GK} {R : List (Nat × List Value)} {g : Gen} {w : World} (h : GenRel q R g w) (hc : CfOk q.c) (dst x y imm : Int) (sym : ByteArray) (hb : 0 ≤ imm ∧ imm ≤ 1000) (hz : SzG g 800000) :
    Calls Tryd.prog 25 #[.pointer (some ⟨q.gb, 0, none⟩), .agg #[.int .u8 13, .int .i64 dst, .int .i64 x, .int .i64 y, .int .i64 imm, .string sym]] w (InsPost q R ⟨13, dst, x, y, imm, sym⟩ g) := by
  have HE : Hid (insG q.c ⟨13, dst, x, y, imm, sym⟩ g = emitG [⟨14, 10 + imm, 0, 0, 0⟩] g) := (show _ = _ by unfold insG; rfl)
  have hW := (h.made [.pointer (some ⟨q.gb, 0, none⟩)] 66).made [.int .u8 13, .int .i64 dst, .int .i64 x, .int .i64 y, .int .i64 imm, .string sym] 51
  rw [show (w.alloc (.cells ([.pointer (some ⟨q.gb, 0, none⟩)] : List Value).toArray 66)).heap.size = w.heap.size + 1 by simp] at hW
  have HZ := Lib.hid hz
  clear h hz
  go_enter Tryd.func25, Tryd.ntmps25
  go_upto_region 1 with fail
  obtain ⟨w1, hw1⟩ : ∃ W : World, W = (w.alloc (.cells #[.pointer (some ⟨q.gb, 0, none⟩)] 66)).alloc (.cells #[.int .u8 13, .int .i64 dst, .int .i64 x, .int .i64 y, .int .i64 imm, .string sym] 51) := ⟨_, rfl⟩
  rw [← hw1]
  have hW : GenRel q ((w.heap.size + 1, [.int .u8 13, .int .i64 dst, .int .i64 x, .int .i64 y, .int .i64 imm, .string sym]) :: (w.heap.size, [.pointer (some ⟨q.gb, 0, none⟩)]) :: R) g w1 := by rw [hw1]; exact hW
  have HG := Lib.hid hW
  clear hw1 hW
  have ra0 := HG.out.at (List.mem_cons_self ..)
  have la0 := ra0.lt
  have a0_0 := ra0.at 0 rfl
  have a0_1 := ra0.at 1 rfl
  have a0_2 := ra0.at 2 rfl
  have a0_3 := ra0.at 3 rfl
  have a0_4 := ra0.at 4 rfl
  have a0_5 := ra0.at 5 rfl
  clear ra0
  have rb0 := HG.out.at (List.mem_cons_of_mem _ (List.mem_cons_self ..))
  have lb0 := rb0.lt
  have b0_0 := rb0.at 0 rfl
  clear rb0
  have hwr : IntKind.i64.wrap (10 + imm) = 10 + imm := IntWalk.i64_in _ (by omega)
  go_wp2_with fail
  refine (emit_any (l := [⟨14, 10 + imm, 0, 0, 0⟩]) (HG.out.keep (by repeat (first | (with_reducible exact Below.refl _ _) | (with_reducible apply Below.drew) | ((with_reducible apply bAlloc); (focus first | (exact Nat.le_refl _) | (simp; done) | (simp; omega)))))) (GsRd.one _ 14 _ _ _ _ _) (by simp) (by have := HZ.out.1; simp; omega)).mono ?_
  rintro e we ⟨rfl, HK⟩
  clear la0 a0_0 a0_1 a0_2 a0_3 a0_4 a0_5 lb0 b0_0
  go_wp2_with fail
  go_end0
  exact ⟨rfl, by rw [HE.out]; exact HK.out.drop.drop⟩

set_option maxHeartbeats 3200000 in
set_option maxRecDepth 20000 in
theorem ins14_any {q : GK} {R : List (Nat × List Value)} {g : Gen} {w : World} (h : GenRel q R g w) (hc : CfOk q.c) (dst x y imm : Int) (sym : ByteArray) (hb : 0 ≤ imm ∧ imm ≤ 1000) (hz : SzG g 800000) :
    Calls Tryd.prog 25 #[.pointer (some ⟨q.gb, 0, none⟩), .agg #[.int .u8 14, .int .i64 dst, .int .i64 x, .int .i64 y, .int .i64 imm, .string sym]] w (InsPost q R ⟨14, dst, x, y, imm, sym⟩ g) := by
  have HE : Hid (insG q.c ⟨14, dst, x, y, imm, sym⟩ g = emitG [⟨15, 10 + imm, 10 + imm, 0, 1⟩] g) := (show _ = _ by unfold insG; rfl)
  have hW := (h.made [.pointer (some ⟨q.gb, 0, none⟩)] 66).made [.int .u8 14, .int .i64 dst, .int .i64 x, .int .i64 y, .int .i64 imm, .string sym] 51
  rw [show (w.alloc (.cells ([.pointer (some ⟨q.gb, 0, none⟩)] : List Value).toArray 66)).heap.size = w.heap.size + 1 by simp] at hW
  have HZ := Lib.hid hz
  clear h hz
  go_enter Tryd.func25, Tryd.ntmps25
  go_upto_region 1 with fail
  obtain ⟨w1, hw1⟩ : ∃ W : World, W = (w.alloc (.cells #[.pointer (some ⟨q.gb, 0, none⟩)] 66)).alloc (.cells #[.int .u8 14, .int .i64 dst, .int .i64 x, .int .i64 y, .int .i64 imm, .string sym] 51) := ⟨_, rfl⟩
  rw [← hw1]
  have hW : GenRel q ((w.heap.size + 1, [.int .u8 14, .int .i64 dst, .int .i64 x, .int .i64 y, .int .i64 imm, .string sym]) :: (w.heap.size, [.pointer (some ⟨q.gb, 0, none⟩)]) :: R) g w1 := by rw [hw1]; exact hW
  have HG := Lib.hid hW
  clear hw1 hW
  have ra0 := HG.out.at (List.mem_cons_self ..)
  have la0 := ra0.lt
  have a0_0 := ra0.at 0 rfl
  have a0_1 := ra0.at 1 rfl
  have a0_2 := ra0.at 2 rfl
  have a0_3 := ra0.at 3 rfl
  have a0_4 := ra0.at 4 rfl
  have a0_5 := ra0.at 5 rfl
  clear ra0
  have rb0 := HG.out.at (List.mem_cons_of_mem _ (List.mem_cons_self ..))
  have lb0 := rb0.lt
  have b0_0 := rb0.at 0 rfl
  clear rb0
  have hwr : IntKind.i64.wrap (10 + imm) = 10 + imm := IntWalk.i64_in _ (by omega)
  go_wp2_with fail
  refine (emit_any (l := [⟨15, 10 + imm, 10 + imm, 0, 1⟩]) (HG.out.keep (by repeat (first | (with_reducible exact Below.refl _ _) | (with_reducible apply Below.drew) | ((with_reducible apply bAlloc); (focus first | (exact Nat.le_refl _) | (simp; done) | (simp; omega)))))) (GsRd.one _ 15 _ _ _ _ _) (by simp) (by have := HZ.out.1; simp; omega)).mono ?_
  rintro e we ⟨rfl, HK⟩
  clear la0 a0_0 a0_1 a0_2 a0_3 a0_4 a0_5 lb0 b0_0
  go_wp2_with fail
  go_end0
  exact ⟨rfl, by rw [HE.out]; exact HK.out.drop.drop⟩

set_option maxHeartbeats 3200000 in
set_option maxRecDepth 20000 in
theorem ins16_any {q : GK} {R : List (Nat × List Value)} {g : Gen} {w : World} (h : GenRel q R g w) (hc : CfOk q.c) (dst x y imm : Int) (sym : ByteArray) (hb : 0 ≤ x ∧ x ≤ 1000) (hz : SzG g 800000) :
    Calls Tryd.prog 25 #[.pointer (some ⟨q.gb, 0, none⟩), .agg #[.int .u8 16, .int .i64 dst, .int .i64 x, .int .i64 y, .int .i64 imm, .string sym]] w (InsPost q R ⟨16, dst, x, y, imm, sym⟩ g) := by
  have HE : Hid (insG q.c ⟨16, dst, x, y, imm, sym⟩ g = emitG [⟨25, 10 + x, 0, 0, imm⟩] g) := (show _ = _ by unfold insG; rfl)
  have hW := (h.made [.pointer (some ⟨q.gb, 0, none⟩)] 66).made [.int .u8 16, .int .i64 dst, .int .i64 x, .int .i64 y, .int .i64 imm, .string sym] 51
  rw [show (w.alloc (.cells ([.pointer (some ⟨q.gb, 0, none⟩)] : List Value).toArray 66)).heap.size = w.heap.size + 1 by simp] at hW
  have HZ := Lib.hid hz
  clear h hz
  go_enter Tryd.func25, Tryd.ntmps25
  go_upto_region 1 with fail
  obtain ⟨w1, hw1⟩ : ∃ W : World, W = (w.alloc (.cells #[.pointer (some ⟨q.gb, 0, none⟩)] 66)).alloc (.cells #[.int .u8 16, .int .i64 dst, .int .i64 x, .int .i64 y, .int .i64 imm, .string sym] 51) := ⟨_, rfl⟩
  rw [← hw1]
  have hW : GenRel q ((w.heap.size + 1, [.int .u8 16, .int .i64 dst, .int .i64 x, .int .i64 y, .int .i64 imm, .string sym]) :: (w.heap.size, [.pointer (some ⟨q.gb, 0, none⟩)]) :: R) g w1 := by rw [hw1]; exact hW
  have HG := Lib.hid hW
  clear hw1 hW
  have ra0 := HG.out.at (List.mem_cons_self ..)
  have la0 := ra0.lt
  have a0_0 := ra0.at 0 rfl
  have a0_1 := ra0.at 1 rfl
  have a0_2 := ra0.at 2 rfl
  have a0_3 := ra0.at 3 rfl
  have a0_4 := ra0.at 4 rfl
  have a0_5 := ra0.at 5 rfl
  clear ra0
  have rb0 := HG.out.at (List.mem_cons_of_mem _ (List.mem_cons_self ..))
  have lb0 := rb0.lt
  have b0_0 := rb0.at 0 rfl
  clear rb0
  have hwr : IntKind.i64.wrap (10 + x) = 10 + x := IntWalk.i64_in _ (by omega)
  go_wp2_with fail
  refine (emit_any (l := [⟨25, 10 + x, 0, 0, imm⟩]) (HG.out.keep (by repeat (first | (with_reducible exact Below.refl _ _) | (with_reducible apply Below.drew) | ((with_reducible apply bAlloc); (focus first | (exact Nat.le_refl _) | (simp; done) | (simp; omega)))))) (GsRd.one _ 25 _ _ _ _ _) (by simp) (by have := HZ.out.1; simp; omega)).mono ?_
  rintro e we ⟨rfl, HK⟩
  clear la0 a0_0 a0_1 a0_2 a0_3 a0_4 a0_5 lb0 b0_0
  go_wp2_with fail
  go_end0
  exact ⟨rfl, by rw [HE.out]; exact HK.out.drop.drop⟩
end Go.Proofs.YtlajdcikhbocdaaDoor
