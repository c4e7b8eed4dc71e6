import Derived.Test.YtdfofelchjpioaaDoorMs22
set_option linter.unusedVariables false
set_option linter.unusedSimpArgs false
namespace Go.Proofs.YtdfofelchjpioaaDoor
open Go.RowKit

set_option maxRecDepth 100000 in
set_option maxHeartbeats 1600000 in
theorem rfits_neg (pc r0 r1 r2 r3 r4 r5 r6 r7 r8 r9 r10 r11 r12 r13 r14 r15 he : Int) (hl : Bool) (cv : Value) (ep dp : Option Addr) (nE ecap dl dcap : Nat) (sh lk dat t : Int) (w : World) (h : t < 0) (h' : decide (t < 0) = true) :
    Calls Tryd.prog 9 #[.agg #[cv, .slice ep nE ecap, .int .i64 sh, .int .i64 lk], .int .i64 t, .agg #[.int .i64 pc, .int .i32 r0, .int .i32 r1, .int .i32 r2, .int .i32 r3, .int .i32 r4, .int .i32 r5, .int .i32 r6, .int .i32 r7, .int .i32 r8, .int .i32 r9, .int .i32 r10, .int .i32 r11, .int .i32 r12, .int .i32 r13, .int .i32 r14, .int .i32 r15, .slice dp dl dcap, .bool hl, .int .i64 he]] w fun e w' => e = .returned (.bool false) ∧ Below w.heap.size w w' := by
  go_enter Tryd.func9, Tryd.ntmps9
  go_wp2_with fail
  go_ret
  refine ⟨rfl, ?_⟩
  repeat (first | (with_reducible apply bBoth) | (with_reducible exact Below.refl _ _) | (with_reducible apply bDrewN) | (with_reducible apply Below.drew) | ((with_reducible apply bSet); (focus first | (simp; done) | (simp; omega) | omega)) | ((with_reducible apply bAlloc); (focus first | (simp; done) | (simp; omega) | omega)))

set_option maxRecDepth 100000 in
set_option maxHeartbeats 1600000 in
theorem rfits_over (pc r0 r1 r2 r3 r4 r5 r6 r7 r8 r9 r10 r11 r12 r13 r14 r15 he : Int) (hl : Bool) (cv : Value) (ep dp : Option Addr) (nE ecap dl dcap : Nat) (sh lk dat t : Int) (w : World) (h0 : 0 ≤ t) (h0' : decide (t < 0) = false) (h : (nE : Int) ≤ t) (h' : decide ((nE : Int) ≤ t) = true) :
    Calls Tryd.prog 9 #[.agg #[cv, .slice ep nE ecap, .int .i64 sh, .int .i64 lk], .int .i64 t, .agg #[.int .i64 pc, .int .i32 r0, .int .i32 r1, .int .i32 r2, .int .i32 r3, .int .i32 r4, .int .i32 r5, .int .i32 r6, .int .i32 r7, .int .i32 r8, .int .i32 r9, .int .i32 r10, .int .i32 r11, .int .i32 r12, .int .i32 r13, .int .i32 r14, .int .i32 r15, .slice dp dl dcap, .bool hl, .int .i64 he]] w fun e w' => e = .returned (.bool false) ∧ Below w.heap.size w w' := by
  go_enter Tryd.func9, Tryd.ntmps9
  go_wp2_with fail
  go_ret
  refine ⟨rfl, ?_⟩
  repeat (first | (with_reducible apply bBoth) | (with_reducible exact Below.refl _ _) | (with_reducible apply bDrewN) | (with_reducible apply Below.drew) | ((with_reducible apply bSet); (focus first | (simp; done) | (simp; omega) | omega)) | ((with_reducible apply bAlloc); (focus first | (simp; done) | (simp; omega) | omega)))

set_option maxRecDepth 100000 in
set_option maxHeartbeats 1600000 in
theorem rfits_len (pc r0 r1 r2 r3 r4 r5 r6 r7 r8 r9 r10 r11 r12 r13 r14 r15 he : Int) (hl : Bool) (cv : Value) (ep dp : Option Addr) (nE ecap dl dcap eb eo t : Nat) (sh lk dat : Int) (w : World) (heb : eb < w.heap.size) (het : w.cell? ⟨eb, eo + t * 4 + 3, none⟩ = some (.int .i64 dat)) (ht : t < nE) (htI : (t : Int) < nE) (htd : decide (nE ≤ t) = false) (htn : ¬ nE ≤ t) (h : ((dl : Int) == dat) = false) :
    Calls Tryd.prog 9 #[.agg #[cv, .slice (some ⟨eb, eo, none⟩) nE ecap, .int .i64 sh, .int .i64 lk], .int .i64 (t : Nat), .agg #[.int .i64 pc, .int .i32 r0, .int .i32 r1, .int .i32 r2, .int .i32 r3, .int .i32 r4, .int .i32 r5, .int .i32 r6, .int .i32 r7, .int .i32 r8, .int .i32 r9, .int .i32 r10, .int .i32 r11, .int .i32 r12, .int .i32 r13, .int .i32 r14, .int .i32 r15, .slice dp dl dcap, .bool hl, .int .i64 he]] w fun e w' => e = .returned (.bool false) ∧ Below w.heap.size w w' := by
  have heb1 : eb < w.heap.size + 1 := by omega
  go_enter Tryd.func9, Tryd.ntmps9
  go_wp2_with fail
  go_quiet (fail)
  go_wp2_with fail
  go_ret
  refine ⟨rfl, ?_⟩
  repeat (first | (with_reducible apply bBoth) | (with_reducible exact Below.refl _ _) | (with_reducible apply bDrewN) | (with_reducible apply Below.drew) | ((with_reducible apply bSet); (focus first | (simp; done) | (simp; omega) | omega)) | ((with_reducible apply bAlloc); (focus first | (simp; done) | (simp; omega) | omega)))

set_option maxRecDepth 100000 in
set_option maxHeartbeats 1600000 in
theorem rfits_r0 (pc r0 r1 r2 r3 r4 r5 r6 r7 r8 r9 r10 r11 r12 r13 r14 r15 he : Int) (hl : Bool) (cv : Value) (ep dp : Option Addr) (nE ecap dl dcap eb eo t : Nat) (sh lk dat : Int) (w : World) (heb : eb < w.heap.size) (het : w.cell? ⟨eb, eo + t * 4 + 3, none⟩ = some (.int .i64 dl)) (ht : t < nE) (htI : (t : Int) < nE) (htd : decide (nE ≤ t) = false) (htn : ¬ nE ≤ t) (h : (r0 == 0) = false) :
    Calls Tryd.prog 9 #[.agg #[cv, .slice (some ⟨eb, eo, none⟩) nE ecap, .int .i64 sh, .int .i64 lk], .int .i64 (t : Nat), .agg #[.int .i64 pc, .int .i32 r0, .int .i32 r1, .int .i32 r2, .int .i32 r3, .int .i32 r4, .int .i32 r5, .int .i32 r6, .int .i32 r7, .int .i32 r8, .int .i32 r9, .int .i32 r10, .int .i32 r11, .int .i32 r12, .int .i32 r13, .int .i32 r14, .int .i32 r15, .slice dp dl dcap, .bool hl, .int .i64 he]] w fun e w' => e = .returned (.bool false) ∧ Below w.heap.size w w' := by
  have heb1 : eb < w.heap.size + 1 := by omega
  go_enter Tryd.func9, Tryd.ntmps9
  go_wp2_with fail
  go_quiet (fail)
  go_wp2_with fail
  go_ret
  refine ⟨rfl, ?_⟩
  repeat (first | (with_reducible apply bBoth) | (with_reducible exact Below.refl _ _) | (with_reducible apply bDrewN) | (with_reducible apply Below.drew) | ((with_reducible apply bSet); (focus first | (simp; done) | (simp; omega) | omega)) | ((with_reducible apply bAlloc); (focus first | (simp; done) | (simp; omega) | omega)))

set_option maxRecDepth 100000 in
set_option maxHeartbeats 1600000 in
theorem rfits_ok1 (pc r0 r1 r2 r3 r4 r5 r6 r7 r8 r9 r10 r11 r12 r13 r14 r15 he : Int) (hl : Bool) (cv : Value) (ep dp : Option Addr) (nE ecap dl dcap eb eo t : Nat) (sh lk dat : Int) (w : World) (heb : eb < w.heap.size) (het : w.cell? ⟨eb, eo + t * 4 + 3, none⟩ = some (.int .i64 dl)) (ht : t < nE) (htI : (t : Int) < nE) (htd : decide (nE ≤ t) = false) (htn : ¬ nE ≤ t)  :
    Calls Tryd.prog 9 #[.agg #[cv, .slice (some ⟨eb, eo, none⟩) nE ecap, .int .i64 sh, .int .i64 lk], .int .i64 (t : Nat), .agg #[.int .i64 pc, .int .i32 0, .int .i32 r1, .int .i32 r2, .int .i32 r3, .int .i32 r4, .int .i32 r5, .int .i32 r6, .int .i32 r7, .int .i32 r8, .int .i32 r9, .int .i32 r10, .int .i32 r11, .int .i32 r12, .int .i32 r13, .int .i32 r14, .int .i32 r15, .slice dp dl dcap, .bool hl, .int .i64 (-1)]] w fun e w' => e = .returned (.bool true) ∧ Below w.heap.size w w' := by
  have heb1 : eb < w.heap.size + 1 := by omega
  go_enter Tryd.func9, Tryd.ntmps9
  go_wp2_with fail
  go_quiet (fail)
  go_wp2_with fail
  go_ret
  refine ⟨rfl, ?_⟩
  repeat (first | (with_reducible apply bBoth) | (with_reducible exact Below.refl _ _) | (with_reducible apply bDrewN) | (with_reducible apply Below.drew) | ((with_reducible apply bSet); (focus first | (simp; done) | (simp; omega) | omega)) | ((with_reducible apply bAlloc); (focus first | (simp; done) | (simp; omega) | omega)))

set_option maxRecDepth 100000 in
set_option maxHeartbeats 1600000 in
theorem rfits_held (pc r0 r1 r2 r3 r4 r5 r6 r7 r8 r9 r10 r11 r12 r13 r14 r15 he : Int) (hl : Bool) (cv : Value) (ep dp : Option Addr) (nE ecap dl dcap eb eo t : Nat) (sh lk dat : Int) (w : World) (heb : eb < w.heap.size) (het : w.cell? ⟨eb, eo + t * 4 + 3, none⟩ = some (.int .i64 dl)) (ht : t < nE) (htI : (t : Int) < nE) (htd : decide (nE ≤ t) = false) (htn : ¬ nE ≤ t) (h0 : (he == -1) = false) (h1 : he < 0) (h1' : decide (0 ≤ he) = false) :
    Calls Tryd.prog 9 #[.agg #[cv, .slice (some ⟨eb, eo, none⟩) nE ecap, .int .i64 sh, .int .i64 lk], .int .i64 (t : Nat), .agg #[.int .i64 pc, .int .i32 0, .int .i32 r1, .int .i32 r2, .int .i32 r3, .int .i32 r4, .int .i32 r5, .int .i32 r6, .int .i32 r7, .int .i32 r8, .int .i32 r9, .int .i32 r10, .int .i32 r11, .int .i32 r12, .int .i32 r13, .int .i32 r14, .int .i32 r15, .slice dp dl dcap, .bool hl, .int .i64 he]] w fun e w' => e = .returned (.bool false) ∧ Below w.heap.size w w' := by
  have heb1 : eb < w.heap.size + 1 := by omega
  go_enter Tryd.func9, Tryd.ntmps9
  go_wp2_with fail
  go_quiet (fail)
  go_wp2_with fail
  go_ret
  refine ⟨rfl, ?_⟩
  repeat (first | (with_reducible apply bBoth) | (with_reducible exact Below.refl _ _) | (with_reducible apply bDrewN) | (with_reducible apply Below.drew) | ((with_reducible apply bSet); (focus first | (simp; done) | (simp; omega) | omega)) | ((with_reducible apply bAlloc); (focus first | (simp; done) | (simp; omega) | omega)))

set_option maxRecDepth 100000 in
set_option maxHeartbeats 1600000 in
theorem rfits_ok2 (pc r0 r1 r2 r3 r4 r5 r6 r7 r8 r9 r10 r11 r12 r13 r14 r15 he : Int) (hl : Bool) (cv : Value) (ep dp : Option Addr) (nE ecap dl dcap eb eo t : Nat) (sh lk dat : Int) (w : World) (heb : eb < w.heap.size) (het : w.cell? ⟨eb, eo + t * 4 + 3, none⟩ = some (.int .i64 dl)) (ht : t < nE) (htI : (t : Int) < nE) (htd : decide (nE ≤ t) = false) (htn : ¬ nE ≤ t) (h0 : (he == -1) = false) (h1 : 0 ≤ he) (h1' : decide (0 ≤ he) = true) (h2 : he < lk) (h2' : decide (he < lk) = true) :
    Calls Tryd.prog 9 #[.agg #[cv, .slice (some ⟨eb, eo, none⟩) nE ecap, .int .i64 sh, .int .i64 lk], .int .i64 (t : Nat), .agg #[.int .i64 pc, .int .i32 0, .int .i32 r1, .int .i32 r2, .int .i32 r3, .int .i32 r4, .int .i32 r5, .int .i32 r6, .int .i32 r7, .int .i32 r8, .int .i32 r9, .int .i32 r10, .int .i32 r11, .int .i32 r12, .int .i32 r13, .int .i32 r14, .int .i32 r15, .slice dp dl dcap, .bool hl, .int .i64 he]] w fun e w' => e = .returned (.bool true) ∧ Below w.heap.size w w' := by
  have heb1 : eb < w.heap.size + 1 := by omega
  go_enter Tryd.func9, Tryd.ntmps9
  go_wp2_with fail
  go_quiet (fail)
  go_wp2_with fail
  go_ret
  refine ⟨rfl, ?_⟩
  repeat (first | (with_reducible apply bBoth) | (with_reducible exact Below.refl _ _) | (with_reducible apply bDrewN) | (with_reducible apply Below.drew) | ((with_reducible apply bSet); (focus first | (simp; done) | (simp; omega) | omega)) | ((with_reducible apply bAlloc); (focus first | (simp; done) | (simp; omega) | omega)))

set_option maxRecDepth 100000 in
set_option maxHeartbeats 1600000 in
theorem rfits_locks (pc r0 r1 r2 r3 r4 r5 r6 r7 r8 r9 r10 r11 r12 r13 r14 r15 he : Int) (hl : Bool) (cv : Value) (ep dp : Option Addr) (nE ecap dl dcap eb eo t : Nat) (sh lk dat : Int) (w : World) (heb : eb < w.heap.size) (het : w.cell? ⟨eb, eo + t * 4 + 3, none⟩ = some (.int .i64 dl)) (ht : t < nE) (htI : (t : Int) < nE) (htd : decide (nE ≤ t) = false) (htn : ¬ nE ≤ t) (h0 : (he == -1) = false) (h1 : 0 ≤ he) (h1' : decide (0 ≤ he) = true) (h2 : lk ≤ he) (h2' : decide (he < lk) = false) :
    Calls Tryd.prog 9 #[.agg #[cv, .slice (some ⟨eb, eo, none⟩) nE ecap, .int .i64 sh, .int .i64 lk], .int .i64 (t : Nat), .agg #[.int .i64 pc, .int .i32 0, .int .i32 r1, .int .i32 r2, .int .i32 r3, .int .i32 r4, .int .i32 r5, .int .i32 r6, .int .i32 r7, .int .i32 r8, .int .i32 r9, .int .i32 r10, .int .i32 r11, .int .i32 r12, .int .i32 r13, .int .i32 r14, .int .i32 r15, .slice dp dl dcap, .bool hl, .int .i64 he]] w fun e w' => e = .returned (.bool false) ∧ Below w.heap.size w w' := by
  have heb1 : eb < w.heap.size + 1 := by omega
  go_enter Tryd.func9, Tryd.ntmps9
  go_wp2_with fail
  go_quiet (fail)
  go_wp2_with fail
  go_ret
  refine ⟨rfl, ?_⟩
  repeat (first | (with_reducible apply bBoth) | (with_reducible exact Below.refl _ _) | (with_reducible apply bDrewN) | (with_reducible apply Below.drew) | ((with_reducible apply bSet); (focus first | (simp; done) | (simp; omega) | omega)) | ((with_reducible apply bAlloc); (focus first | (simp; done) | (simp; omega) | omega)))

end Go.Proofs.YtdfofelchjpioaaDoor
