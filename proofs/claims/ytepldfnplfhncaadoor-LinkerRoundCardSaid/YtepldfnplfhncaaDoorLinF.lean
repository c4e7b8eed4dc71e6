/- The example of layer 22: codegen.Valid of its object. -/
import Derived.Test.YtepldfnplfhncaaDoorLinC
set_option linter.unusedVariables false
set_option linter.unusedSimpArgs false
namespace Go.Proofs.YtepldfnplfhncaaDoor
open Go.RowKit

/-- Block b begins with these cells. -/
def RowC (w : World) (b : Nat) (l : List Value) : Prop := b < w.heap.size ∧ ∀ k v, l[k]? = some v → w.cell? ⟨b, k, none⟩ = some v
theorem RowC.lt {w : World} {b : Nat} {l : List Value} (h : RowC w b l) : b < w.heap.size := h.1
theorem RowC.at {w : World} {b : Nat} {l : List Value} (h : RowC w b l) (k : Nat) {v : Value} (hv : l[k]? = some v) : w.cell? ⟨b, k, none⟩ = some v := h.2 k v hv
theorem RowC.below {B : Nat} {w w' : World} {b : Nat} {l : List Value} (h : RowC w b l) (hb : Below B w w') (hB : b < B) : RowC w' b l :=
  ⟨Nat.lt_of_lt_of_le h.1 hb.size, fun k v hv => (hb.cell (p := ⟨b, k, none⟩) hB).trans (h.2 k v hv)⟩
theorem RowC.made (w : World) (l : List Value) (t : TypeId) : RowC (w.alloc (.cells l.toArray t)) w.heap.size l := by
  refine ⟨by simp, fun k v hv => ?_⟩
  have h : (w.alloc (.cells l.toArray t)).heap[w.heap.size]? = some (.cells l.toArray t (0, 0)) := heap_alloc_new w _
  simp only [World.cell?, h, Option.isSome_none, Bool.false_eq_true, if_false]
  simpa using hv
theorem RowC.alloc {w : World} {b : Nat} {l : List Value} (h : RowC w b l) (o : Obj) : RowC (w.alloc o) b l := h.below (B := w.heap.size) (bAlloc (Nat.le_refl _) (Below.refl _ _)) h.1
theorem v20 : vld 20 2 3 0 1 = true := by decide
theorem v1 : vld 1 0 0 0 0 = true := by decide

set_option maxHeartbeats 3200000 in
set_option maxRecDepth 20000 in
theorem cvalid_ex (C R : Nat) (w : World) (hT : Tab w) (hC : RowC w C [.int .u8 20, .int .i64 2, .int .i64 3, .int .i64 0, .int .i64 1, .int .u8 1, .int .i64 0, .int .i64 0, .int .i64 0, .int .i64 0]) (hR : RowC w R [.int .i64 0, .string ⟨#[98]⟩, .bool false]) :
    Calls Tryd.prog 41 #[.agg #[.string ⟨#[116]⟩, .slice (some ⟨C, 0, none⟩) 2 2, .int .i64 0, .slice (some ⟨R, 0, none⟩) 1 1]] w fun e w' => e = .returned (.bool true) ∧ Below w.heap.size w w' := by
  go_enter Tryd.func41, Tryd.ntmps41
  have rC0 : RowC w (C) [.int .u8 20, .int .i64 2, .int .i64 3, .int .i64 0, .int .i64 1, .int .u8 1, .int .i64 0, .int .i64 0, .int .i64 0, .int .i64 0] := hC
  have rR0 : RowC w (R) [.int .i64 0, .string ⟨#[98]⟩, .bool false] := hR
  have hb0 : Below w.heap.size w w := Below.refl _ _
  have ht0 : Tab w := hT
  have zC0 := rC0.lt
  have C0_0 := rC0.at 0 rfl
  have C0_1 := rC0.at 1 rfl
  have C0_2 := rC0.at 2 rfl
  have C0_3 := rC0.at 3 rfl
  have C0_4 := rC0.at 4 rfl
  have C0_5 := rC0.at 5 rfl
  have C0_6 := rC0.at 6 rfl
  have C0_7 := rC0.at 7 rfl
  have C0_8 := rC0.at 8 rfl
  have C0_9 := rC0.at 9 rfl
  have zR0 := rR0.lt
  have R0_0 := rR0.at 0 rfl
  have R0_1 := rR0.at 1 rfl
  have R0_2 := rR0.at 2 rfl
  have RC0 := Lib.hid rC0
  have RR0 := Lib.hid rR0
  have HB0 := Lib.hid hb0
  have HT0 := Lib.hid ht0
  clear rC0 rR0 hb0 ht0
  clear hC hR hT
  go_wp2_with fail
  refine wp_loop_rounds 3 ?_
  rw [rounds_succ]
  go_wp2_with fail
  refine (valid_any 20 2 3 0 1 ((w.alloc (.cells [.string ⟨#[116]⟩, .slice (some ⟨C, 0, none⟩) 2 2, .int .i64 0, .slice (some ⟨R, 0, none⟩) 1 1].toArray 51)).alloc (.cells [.int .u8 20, .int .i64 2, .int .i64 3, .int .i64 0, .int .i64 1].toArray 64)) (HT0.out.of_below (by repeat (first | exact Below.refl _ _ | (apply bAlloc; (focus first | omega | exact Nat.le_refl _ | (simp; done) | (simp; omega))))))).mono ?_
  rintro e w1 ⟨rfl, hbc1⟩
  have hba1 : Below w.heap.size w ((w.alloc (.cells [.string ⟨#[116]⟩, .slice (some ⟨C, 0, none⟩) 2 2, .int .i64 0, .slice (some ⟨R, 0, none⟩) 1 1].toArray 51)).alloc (.cells [.int .u8 20, .int .i64 2, .int .i64 3, .int .i64 0, .int .i64 1].toArray 64)) := by have h := HB0.out; have hs := h.size; repeat (first | exact h | (apply bAlloc; (focus first | omega | exact Nat.le_refl _ | (simp; done) | (simp; omega))))
  have rC1 : RowC w1 (C) [.int .u8 20, .int .i64 2, .int .i64 3, .int .i64 0, .int .i64 1, .int .u8 1, .int .i64 0, .int .i64 0, .int .i64 0, .int .i64 0] := ((RC0.out.alloc _).alloc _).below hbc1 ((RC0.out.alloc _).alloc _).lt
  have rR1 : RowC w1 (R) [.int .i64 0, .string ⟨#[98]⟩, .bool false] := ((RR0.out.alloc _).alloc _).below hbc1 ((RR0.out.alloc _).alloc _).lt
  have rO1 : RowC w1 (w.heap.size) [.string ⟨#[116]⟩, .slice (some ⟨C, 0, none⟩) 2 2, .int .i64 0, .slice (some ⟨R, 0, none⟩) 1 1] := ((show RowC (w.alloc (.cells [.string ⟨#[116]⟩, .slice (some ⟨C, 0, none⟩) 2 2, .int .i64 0, .slice (some ⟨R, 0, none⟩) 1 1].toArray 51)) (w.heap.size) [.string ⟨#[116]⟩, .slice (some ⟨C, 0, none⟩) 2 2, .int .i64 0, .slice (some ⟨R, 0, none⟩) 1 1] by have h := RowC.made w [.string ⟨#[116]⟩, .slice (some ⟨C, 0, none⟩) 2 2, .int .i64 0, .slice (some ⟨R, 0, none⟩) 1 1] 51; simpa only [size_alloc1] using h).alloc _).below hbc1 ((show RowC (w.alloc (.cells [.string ⟨#[116]⟩, .slice (some ⟨C, 0, none⟩) 2 2, .int .i64 0, .slice (some ⟨R, 0, none⟩) 1 1].toArray 51)) (w.heap.size) [.string ⟨#[116]⟩, .slice (some ⟨C, 0, none⟩) 2 2, .int .i64 0, .slice (some ⟨R, 0, none⟩) 1 1] by have h := RowC.made w [.string ⟨#[116]⟩, .slice (some ⟨C, 0, none⟩) 2 2, .int .i64 0, .slice (some ⟨R, 0, none⟩) 1 1] 51; simpa only [size_alloc1] using h).alloc _).lt
  have rI1 : RowC w1 (w.heap.size + 1) [.int .u8 20, .int .i64 2, .int .i64 3, .int .i64 0, .int .i64 1] := (show RowC ((w.alloc (.cells [.string ⟨#[116]⟩, .slice (some ⟨C, 0, none⟩) 2 2, .int .i64 0, .slice (some ⟨R, 0, none⟩) 1 1].toArray 51)).alloc (.cells [.int .u8 20, .int .i64 2, .int .i64 3, .int .i64 0, .int .i64 1].toArray 64)) (w.heap.size + 1) [.int .u8 20, .int .i64 2, .int .i64 3, .int .i64 0, .int .i64 1] by have h := RowC.made (w.alloc (.cells [.string ⟨#[116]⟩, .slice (some ⟨C, 0, none⟩) 2 2, .int .i64 0, .slice (some ⟨R, 0, none⟩) 1 1].toArray 51)) [.int .u8 20, .int .i64 2, .int .i64 3, .int .i64 0, .int .i64 1] 64; simpa only [size_alloc1] using h).below hbc1 (show RowC ((w.alloc (.cells [.string ⟨#[116]⟩, .slice (some ⟨C, 0, none⟩) 2 2, .int .i64 0, .slice (some ⟨R, 0, none⟩) 1 1].toArray 51)).alloc (.cells [.int .u8 20, .int .i64 2, .int .i64 3, .int .i64 0, .int .i64 1].toArray 64)) (w.heap.size + 1) [.int .u8 20, .int .i64 2, .int .i64 3, .int .i64 0, .int .i64 1] by have h := RowC.made (w.alloc (.cells [.string ⟨#[116]⟩, .slice (some ⟨C, 0, none⟩) 2 2, .int .i64 0, .slice (some ⟨R, 0, none⟩) 1 1].toArray 51)) [.int .u8 20, .int .i64 2, .int .i64 3, .int .i64 0, .int .i64 1] 64; simpa only [size_alloc1] using h).lt
  have hb1 : Below w.heap.size w w1 := bThen hbc1 hba1.size hba1
  have ht1 : Tab w1 := HT0.out.of_below ((show Below w.heap.size w ((w.alloc (.cells [.string ⟨#[116]⟩, .slice (some ⟨C, 0, none⟩) 2 2, .int .i64 0, .slice (some ⟨R, 0, none⟩) 1 1].toArray 51)).alloc (.cells [.int .u8 20, .int .i64 2, .int .i64 3, .int .i64 0, .int .i64 1].toArray 64)) by repeat (first | exact Below.refl _ _ | (apply bAlloc; (focus first | omega | exact Nat.le_refl _ | (simp; done) | (simp; omega))))).trans (hbc1.mono (by simp; try omega)))
  have zC1 := rC1.lt
  have C1_0 := rC1.at 0 rfl
  have C1_1 := rC1.at 1 rfl
  have C1_2 := rC1.at 2 rfl
  have C1_3 := rC1.at 3 rfl
  have C1_4 := rC1.at 4 rfl
  have C1_5 := rC1.at 5 rfl
  have C1_6 := rC1.at 6 rfl
  have C1_7 := rC1.at 7 rfl
  have C1_8 := rC1.at 8 rfl
  have C1_9 := rC1.at 9 rfl
  have zR1 := rR1.lt
  have R1_0 := rR1.at 0 rfl
  have R1_1 := rR1.at 1 rfl
  have R1_2 := rR1.at 2 rfl
  have zO1 := rO1.lt
  have O1_0 := rO1.at 0 rfl
  have O1_1 := rO1.at 1 rfl
  have O1_2 := rO1.at 2 rfl
  have O1_3 := rO1.at 3 rfl
  have zI1 := rI1.lt
  have I1_0 := rI1.at 0 rfl
  have I1_1 := rI1.at 1 rfl
  have I1_2 := rI1.at 2 rfl
  have I1_3 := rI1.at 3 rfl
  have I1_4 := rI1.at 4 rfl
  clear zC0 C0_0 C0_1 C0_2 C0_3 C0_4 C0_5 C0_6 C0_7 C0_8 C0_9 zR0 R0_0 R0_1 R0_2
  have RC1 := Lib.hid rC1
  have RR1 := Lib.hid rR1
  have RO1 := Lib.hid rO1
  have RI1 := Lib.hid rI1
  have HB1 := Lib.hid hb1
  have HT1 := Lib.hid ht1
  clear rC1 rR1 rO1 rI1 hb1 ht1
  clear hbc1 hba1
  rw [v20]
  go_wp2_with fail
  refine (target_no 20 2 3 0 1 0 w1 rfl).mono ?_
  rintro e w2 ⟨rfl, hbc2⟩
  have hba2 : Below w.heap.size w w1 := by have h := HB1.out; have hs := h.size; repeat (first | exact h | (apply bAlloc; (focus first | omega | exact Nat.le_refl _ | (simp; done) | (simp; omega))))
  have rC2 : RowC w2 (C) [.int .u8 20, .int .i64 2, .int .i64 3, .int .i64 0, .int .i64 1, .int .u8 1, .int .i64 0, .int .i64 0, .int .i64 0, .int .i64 0] := RC1.out.below hbc2 RC1.out.lt
  have rR2 : RowC w2 (R) [.int .i64 0, .string ⟨#[98]⟩, .bool false] := RR1.out.below hbc2 RR1.out.lt
  have rO2 : RowC w2 (w.heap.size) [.string ⟨#[116]⟩, .slice (some ⟨C, 0, none⟩) 2 2, .int .i64 0, .slice (some ⟨R, 0, none⟩) 1 1] := RO1.out.below hbc2 RO1.out.lt
  have rI2 : RowC w2 (w.heap.size + 1) [.int .u8 20, .int .i64 2, .int .i64 3, .int .i64 0, .int .i64 1] := RI1.out.below hbc2 RI1.out.lt
  have hb2 : Below w.heap.size w w2 := bThen hbc2 hba2.size hba2
  have ht2 : Tab w2 := HT1.out.of_below ((show Below w1.heap.size w1 w1 by repeat (first | exact Below.refl _ _ | (apply bAlloc; (focus first | omega | exact Nat.le_refl _ | (simp; done) | (simp; omega))))).trans (hbc2.mono (by simp; try omega)))
  have zC2 := rC2.lt
  have C2_0 := rC2.at 0 rfl
  have C2_1 := rC2.at 1 rfl
  have C2_2 := rC2.at 2 rfl
  have C2_3 := rC2.at 3 rfl
  have C2_4 := rC2.at 4 rfl
  have C2_5 := rC2.at 5 rfl
  have C2_6 := rC2.at 6 rfl
  have C2_7 := rC2.at 7 rfl
  have C2_8 := rC2.at 8 rfl
  have C2_9 := rC2.at 9 rfl
  have zR2 := rR2.lt
  have R2_0 := rR2.at 0 rfl
  have R2_1 := rR2.at 1 rfl
  have R2_2 := rR2.at 2 rfl
  have zO2 := rO2.lt
  have O2_0 := rO2.at 0 rfl
  have O2_1 := rO2.at 1 rfl
  have O2_2 := rO2.at 2 rfl
  have O2_3 := rO2.at 3 rfl
  have zI2 := rI2.lt
  have I2_0 := rI2.at 0 rfl
  have I2_1 := rI2.at 1 rfl
  have I2_2 := rI2.at 2 rfl
  have I2_3 := rI2.at 3 rfl
  have I2_4 := rI2.at 4 rfl
  clear zC1 C1_0 C1_1 C1_2 C1_3 C1_4 C1_5 C1_6 C1_7 C1_8 C1_9 zR1 R1_0 R1_1 R1_2 zO1 O1_0 O1_1 O1_2 O1_3 zI1 I1_0 I1_1 I1_2 I1_3 I1_4
  have RC2 := Lib.hid rC2
  have RR2 := Lib.hid rR2
  have RO2 := Lib.hid rO2
  have RI2 := Lib.hid rI2
  have HB2 := Lib.hid hb2
  have HT2 := Lib.hid ht2
  clear rC2 rR2 rO2 rI2 hb2 ht2
  clear hbc2 hba2
  go_wp2_with fail
  rw [rounds_succ]
  go_wp2_with fail
  refine (valid_any 1 0 0 0 0 (w2.alloc (.cells [.int .u8 1, .int .i64 0, .int .i64 0, .int .i64 0, .int .i64 0].toArray 64)) (HT2.out.of_below (by repeat (first | exact Below.refl _ _ | (apply bAlloc; (focus first | omega | exact Nat.le_refl _ | (simp; done) | (simp; omega))))))).mono ?_
  rintro e w3 ⟨rfl, hbc3⟩
  have hba3 : Below w.heap.size w (w2.alloc (.cells [.int .u8 1, .int .i64 0, .int .i64 0, .int .i64 0, .int .i64 0].toArray 64)) := by have h := HB2.out; have hs := h.size; repeat (first | exact h | (apply bAlloc; (focus first | omega | exact Nat.le_refl _ | (simp; done) | (simp; omega))))
  have rC3 : RowC w3 (C) [.int .u8 20, .int .i64 2, .int .i64 3, .int .i64 0, .int .i64 1, .int .u8 1, .int .i64 0, .int .i64 0, .int .i64 0, .int .i64 0] := (RC2.out.alloc _).below hbc3 (RC2.out.alloc _).lt
  have rR3 : RowC w3 (R) [.int .i64 0, .string ⟨#[98]⟩, .bool false] := (RR2.out.alloc _).below hbc3 (RR2.out.alloc _).lt
  have rO3 : RowC w3 (w.heap.size) [.string ⟨#[116]⟩, .slice (some ⟨C, 0, none⟩) 2 2, .int .i64 0, .slice (some ⟨R, 0, none⟩) 1 1] := (RO2.out.alloc _).below hbc3 (RO2.out.alloc _).lt
  have rI3 : RowC w3 (w.heap.size + 1) [.int .u8 20, .int .i64 2, .int .i64 3, .int .i64 0, .int .i64 1] := (RI2.out.alloc _).below hbc3 (RI2.out.alloc _).lt
  have rJ3 : RowC w3 (w2.heap.size) [.int .u8 1, .int .i64 0, .int .i64 0, .int .i64 0, .int .i64 0] := (show RowC (w2.alloc (.cells [.int .u8 1, .int .i64 0, .int .i64 0, .int .i64 0, .int .i64 0].toArray 64)) (w2.heap.size) [.int .u8 1, .int .i64 0, .int .i64 0, .int .i64 0, .int .i64 0] by have h := RowC.made w2 [.int .u8 1, .int .i64 0, .int .i64 0, .int .i64 0, .int .i64 0] 64; simpa only [size_alloc1] using h).below hbc3 (show RowC (w2.alloc (.cells [.int .u8 1, .int .i64 0, .int .i64 0, .int .i64 0, .int .i64 0].toArray 64)) (w2.heap.size) [.int .u8 1, .int .i64 0, .int .i64 0, .int .i64 0, .int .i64 0] by have h := RowC.made w2 [.int .u8 1, .int .i64 0, .int .i64 0, .int .i64 0, .int .i64 0] 64; simpa only [size_alloc1] using h).lt
  have hb3 : Below w.heap.size w w3 := bThen hbc3 hba3.size hba3
  have ht3 : Tab w3 := HT2.out.of_below ((show Below w2.heap.size w2 (w2.alloc (.cells [.int .u8 1, .int .i64 0, .int .i64 0, .int .i64 0, .int .i64 0].toArray 64)) by repeat (first | exact Below.refl _ _ | (apply bAlloc; (focus first | omega | exact Nat.le_refl _ | (simp; done) | (simp; omega))))).trans (hbc3.mono (by simp; try omega)))
  have zC3 := rC3.lt
  have C3_0 := rC3.at 0 rfl
  have C3_1 := rC3.at 1 rfl
  have C3_2 := rC3.at 2 rfl
  have C3_3 := rC3.at 3 rfl
  have C3_4 := rC3.at 4 rfl
  have C3_5 := rC3.at 5 rfl
  have C3_6 := rC3.at 6 rfl
  have C3_7 := rC3.at 7 rfl
  have C3_8 := rC3.at 8 rfl
  have C3_9 := rC3.at 9 rfl
  have zR3 := rR3.lt
  have R3_0 := rR3.at 0 rfl
  have R3_1 := rR3.at 1 rfl
  have R3_2 := rR3.at 2 rfl
  have zO3 := rO3.lt
  have O3_0 := rO3.at 0 rfl
  have O3_1 := rO3.at 1 rfl
  have O3_2 := rO3.at 2 rfl
  have O3_3 := rO3.at 3 rfl
  have zI3 := rI3.lt
  have I3_0 := rI3.at 0 rfl
  have I3_1 := rI3.at 1 rfl
  have I3_2 := rI3.at 2 rfl
  have I3_3 := rI3.at 3 rfl
  have I3_4 := rI3.at 4 rfl
  have zJ3 := rJ3.lt
  have J3_0 := rJ3.at 0 rfl
  have J3_1 := rJ3.at 1 rfl
  have J3_2 := rJ3.at 2 rfl
  have J3_3 := rJ3.at 3 rfl
  have J3_4 := rJ3.at 4 rfl
  clear zC2 C2_0 C2_1 C2_2 C2_3 C2_4 C2_5 C2_6 C2_7 C2_8 C2_9 zR2 R2_0 R2_1 R2_2 zO2 O2_0 O2_1 O2_2 O2_3 zI2 I2_0 I2_1 I2_2 I2_3 I2_4
  have RC3 := Lib.hid rC3
  have RR3 := Lib.hid rR3
  have RO3 := Lib.hid rO3
  have RI3 := Lib.hid rI3
  have RJ3 := Lib.hid rJ3
  have HB3 := Lib.hid hb3
  have HT3 := Lib.hid ht3
  clear rC3 rR3 rO3 rI3 rJ3 hb3 ht3
  clear hbc3 hba3
  rw [v1]
  go_wp2_with fail
  refine (target_no 1 0 0 0 0 1 w3 rfl).mono ?_
  rintro e w4 ⟨rfl, hbc4⟩
  have hba4 : Below w.heap.size w w3 := by have h := HB3.out; have hs := h.size; repeat (first | exact h | (apply bAlloc; (focus first | omega | exact Nat.le_refl _ | (simp; done) | (simp; omega))))
  have rC4 : RowC w4 (C) [.int .u8 20, .int .i64 2, .int .i64 3, .int .i64 0, .int .i64 1, .int .u8 1, .int .i64 0, .int .i64 0, .int .i64 0, .int .i64 0] := RC3.out.below hbc4 RC3.out.lt
  have rR4 : RowC w4 (R) [.int .i64 0, .string ⟨#[98]⟩, .bool false] := RR3.out.below hbc4 RR3.out.lt
  have rO4 : RowC w4 (w.heap.size) [.string ⟨#[116]⟩, .slice (some ⟨C, 0, none⟩) 2 2, .int .i64 0, .slice (some ⟨R, 0, none⟩) 1 1] := RO3.out.below hbc4 RO3.out.lt
  have rI4 : RowC w4 (w.heap.size + 1) [.int .u8 20, .int .i64 2, .int .i64 3, .int .i64 0, .int .i64 1] := RI3.out.below hbc4 RI3.out.lt
  have rJ4 : RowC w4 (w2.heap.size) [.int .u8 1, .int .i64 0, .int .i64 0, .int .i64 0, .int .i64 0] := RJ3.out.below hbc4 RJ3.out.lt
  have hb4 : Below w.heap.size w w4 := bThen hbc4 hba4.size hba4
  have ht4 : Tab w4 := HT3.out.of_below ((show Below w3.heap.size w3 w3 by repeat (first | exact Below.refl _ _ | (apply bAlloc; (focus first | omega | exact Nat.le_refl _ | (simp; done) | (simp; omega))))).trans (hbc4.mono (by simp; try omega)))
  have zC4 := rC4.lt
  have C4_0 := rC4.at 0 rfl
  have C4_1 := rC4.at 1 rfl
  have C4_2 := rC4.at 2 rfl
  have C4_3 := rC4.at 3 rfl
  have C4_4 := rC4.at 4 rfl
  have C4_5 := rC4.at 5 rfl
  have C4_6 := rC4.at 6 rfl
  have C4_7 := rC4.at 7 rfl
  have C4_8 := rC4.at 8 rfl
  have C4_9 := rC4.at 9 rfl
  have zR4 := rR4.lt
  have R4_0 := rR4.at 0 rfl
  have R4_1 := rR4.at 1 rfl
  have R4_2 := rR4.at 2 rfl
  have zO4 := rO4.lt
  have O4_0 := rO4.at 0 rfl
  have O4_1 := rO4.at 1 rfl
  have O4_2 := rO4.at 2 rfl
  have O4_3 := rO4.at 3 rfl
  have zI4 := rI4.lt
  have I4_0 := rI4.at 0 rfl
  have I4_1 := rI4.at 1 rfl
  have I4_2 := rI4.at 2 rfl
  have I4_3 := rI4.at 3 rfl
  have I4_4 := rI4.at 4 rfl
  have zJ4 := rJ4.lt
  have J4_0 := rJ4.at 0 rfl
  have J4_1 := rJ4.at 1 rfl
  have J4_2 := rJ4.at 2 rfl
  have J4_3 := rJ4.at 3 rfl
  have J4_4 := rJ4.at 4 rfl
  clear zC3 C3_0 C3_1 C3_2 C3_3 C3_4 C3_5 C3_6 C3_7 C3_8 C3_9 zR3 R3_0 R3_1 R3_2 zO3 O3_0 O3_1 O3_2 O3_3 zI3 I3_0 I3_1 I3_2 I3_3 I3_4 zJ3 J3_0 J3_1 J3_2 J3_3 J3_4
  have RC4 := Lib.hid rC4
  have RR4 := Lib.hid rR4
  have RO4 := Lib.hid rO4
  have RI4 := Lib.hid rI4
  have RJ4 := Lib.hid rJ4
  have HB4 := Lib.hid hb4
  have HT4 := Lib.hid ht4
  clear rC4 rR4 rO4 rI4 rJ4 hb4 ht4
  clear hbc4 hba4
  go_wp2_with fail
  rw [rounds_succ]
  go_wp2_with fail
  go_ret
  exact ⟨rfl, HB4.out⟩
end Go.Proofs.YtepldfnplfhncaaDoor
