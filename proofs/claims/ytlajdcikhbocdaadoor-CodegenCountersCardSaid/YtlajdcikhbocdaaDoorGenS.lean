/- The generator's instruction, by its contract: all operations. -/
import Derived.Test.YtlajdcikhbocdaaDoorMgI
import Derived.Test.YtlajdcikhbocdaaDoorGenN
import Derived.Test.YtlajdcikhbocdaaDoorMgH
set_option linter.unusedVariables false
set_option linter.unusedSimpArgs false
namespace Go.Proofs.YtlajdcikhbocdaaDoor
open Go.RowKit Go.Maps

set_option maxHeartbeats 3200000 in
set_option maxRecDepth 20000 in
theorem ins2_any {q : GK} {R : List (Nat × List Value)} {g : Gen} {w : World} (h : GenRel q R g w) (hc : CfOk q.c) (dst x y imm : Int) (sym : ByteArray) (hd : okR q.c.P.length dst = true) (hx : okR q.c.P.length x = true) (hz : SzG g 800000) :
    Calls Tryd.prog 25 #[.pointer (some ⟨q.gb, 0, none⟩), .agg #[.int .u8 2, .int .i64 dst, .int .i64 x, .int .i64 y, .int .i64 imm, .string sym]] w (InsPost q R ⟨2, dst, x, y, imm, sym⟩ g) := by
  have HE : Hid (insG q.c ⟨2, dst, x, y, imm, sym⟩ g = insG q.c ⟨2, dst, x, y, imm, sym⟩ g) := (show _ = _ from rfl)
  have hW := (h.made [.pointer (some ⟨q.gb, 0, none⟩)] 66).made [.int .u8 2, .int .i64 dst, .int .i64 x, .int .i64 y, .int .i64 imm, .string sym] 51
  rw [show (w.alloc (.cells ([.pointer (some ⟨q.gb, 0, none⟩)] : List Value).toArray 66)).heap.size = w.heap.size + 1 by simp] at hW
  have HZ := Lib.hid hz
  clear h hz
  go_enter Tryd.func25, Tryd.ntmps25
  go_upto_region 1 with fail
  obtain ⟨w1, hw1⟩ : ∃ W : World, W = (w.alloc (.cells #[.pointer (some ⟨q.gb, 0, none⟩)] 66)).alloc (.cells #[.int .u8 2, .int .i64 dst, .int .i64 x, .int .i64 y, .int .i64 imm, .string sym] 51) := ⟨_, rfl⟩
  rw [← hw1]
  have hW : GenRel q ((w.heap.size + 1, [.int .u8 2, .int .i64 dst, .int .i64 x, .int .i64 y, .int .i64 imm, .string sym]) :: (w.heap.size, [.pointer (some ⟨q.gb, 0, none⟩)]) :: R) g w1 := by rw [hw1]; exact hW
  have HG := Lib.hid hW
  clear hw1 hW
  have ra0 := HG.out.at (List.mem_cons_self ..)
  have la0 := ra0.lt
  have a0_0 := ra0.at 0 rfl
  have a0_1 := ra0.at 1 rfl
  have a0_2 := ra0.at 2 rfl
  have a0_3 := ra0.at 3 rfl
  have a0_4 := ra0.at 4 rfl
  have a0_5 := ra0.at 5 rfl
  clear ra0
  have rb0 := HG.out.at (List.mem_cons_of_mem _ (List.mem_cons_self ..))
  have lb0 := rb0.lt
  have b0_0 := rb0.at 0 rfl
  clear rb0
  go_wp2_with fail
  refine (dup_any HG.out hc 2 dst x y imm sym hd hx (HZ.out.le (by decide))).mono ?_
  rintro e we ⟨rfl, HK⟩
  clear la0 a0_0 a0_1 a0_2 a0_3 a0_4 a0_5 lb0 b0_0
  go_wp2_with fail
  go_end0
  exact ⟨rfl, HK.out.drop.drop⟩

theorem ins_any {q : GK} {R : List (Nat × List Value)} {g : Gen} {w : World} (h : GenRel q R g w) (hc : CfOk q.c) (hF : ∀ s, (q.F s).getD (.int .i64 0) = .int .i64 (q.c.ar s)) {K : Kinds} (i : IIns) (hv : vIns q.c.P.length K i = true) (hs : i.sym.size ≤ maxLen) (hz : SzG g 800000) :
    Calls Tryd.prog 25 #[.pointer (some ⟨q.gb, 0, none⟩), .agg #[.int .u8 i.op, .int .i64 i.dst, .int .i64 i.x, .int .i64 i.y, .int .i64 i.imm, .string i.sym]] w (InsPost q R i g) := by
  obtain ⟨op, dst, x, y, imm, sym⟩ := i
  have hop : op = 1 ∨ op = 2 ∨ op = 3 ∨ op = 4 ∨ op = 5 ∨ op = 6 ∨ op = 7 ∨ op = 8 ∨ op = 9 ∨ op = 10 ∨ op = 11 ∨ op = 12 ∨ op = 13 ∨ op = 14 ∨ op = 15 ∨ op = 16 ∨ (op ≠ 1 ∧ op ≠ 2 ∧ op ≠ 3 ∧ ¬ (op = 4 ∨ op = 6) ∧ ¬ (op = 5 ∨ op = 7) ∧ op ≠ 8 ∧ op ≠ 9 ∧ op ≠ 10 ∧ ¬ (op = 11 ∨ op = 12) ∧ ¬ (op = 13 ∨ op = 14) ∧ op ≠ 15 ∧ op ≠ 16) := by omega
  have hs : sym.size ≤ maxLen := hs
  unfold vIns at hv
  simp only [] at hv ⊢
  rcases hop with rfl | rfl | rfl | rfl | rfl | rfl | rfl | rfl | rfl | rfl | rfl | rfl | rfl | rfl | rfl | rfl | ⟨h1, h2, h3, h4, h5, h8, h9, h10, h11, h13, h15, h16⟩
  all_goals (try simp only [Nat.reduceEqDiff, if_true, if_false, or_false, false_or, or_true, true_or, or_self, Bool.and_eq_true] at hv)
  · have hb := bw_of hv.1.1.1.2
    exact ins1_any h hc dst x y imm sym hv.1.1.1.1 hb hz
  · exact ins2_any h hc dst x y imm sym hv.1.1.1.1 hv.1.1.1.2 hz
  · have hb := bw_of hv.1.2
    exact ins3_any h hc dst x y imm sym hv.1.1.1.1 hv.1.1.1.2 hv.1.1.2 hb hz
  · exact ins4_any h hc dst x y imm sym hv.1.1.1.1 hv.1.1.1.2 hs (hF sym) hz
  · exact ins5_any h hc dst x y imm sym hv.1.1.1.1 hv.1.1.1.2 hs (hF sym) hz
  · exact ins6_any h hc dst x y imm sym hv.1.1.1.1 hv.1.1.1.2 hz
  · exact ins7_any h hc dst x y imm sym hv.1.1.1.1 hv.1.1.1.2 hz
  · exact ins8_any h hc dst x y imm sym hv.1.1.1.1 hz
  · exact ins9_any h hc dst x y imm sym hv.1.1.1.1 hz
  · exact ins10_any h hc dst x y imm sym hv.1.1.1.1 hz
  · exact ins11_any h hc dst x y imm sym hz
  · exact ins12_any h hc dst x y imm sym hz
  · have hb := bw_of hv.1.1.1.1
    exact ins13_any h hc dst x y imm sym (by omega) hz
  · have hb := bw_of hv.1.1.1.1
    exact ins14_any h hc dst x y imm sym (by omega) hz
  · have hb := bw_of hv.1.1.1.2
    exact ins15_any h hc dst x y imm sym hv.1.1.1.1 (by omega) hz
  · have hb := bw_of hv.1.1.1.1
    exact ins16_any h hc dst x y imm sym (by omega) hz
  · rw [if_neg h1, if_neg h2, if_neg h3, if_neg h4, if_neg h5, if_neg h8, if_neg h9, if_neg h10, if_neg h11, if_neg h13, if_neg h15, if_neg h16] at hv
    cases hv
end Go.Proofs.YtlajdcikhbocdaaDoor
