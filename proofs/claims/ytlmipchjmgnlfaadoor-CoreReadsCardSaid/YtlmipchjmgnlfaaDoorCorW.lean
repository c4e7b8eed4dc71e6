/- The laws' bound, by its contract. -/
import Derived.Test.YtlmipchjmgnlfaaDoorBase
set_option linter.unusedVariables false
set_option linter.unusedSimpArgs false
namespace Go.Proofs.YtlmipchjmgnlfaaDoor
open Go.RowKit

set_option maxRecDepth 100000 in
theorem small_yes (pc r0 r1 r2 r3 r4 r5 r6 r7 r8 r9 r10 r11 r12 r13 r14 r15 he : Int) (hl : Bool) (cp ep dp mp : Option Addr) (nC ccap nE ecap dl dcap ml mcap : Nat) (sh lk : Int) (w : World) (h1 : nC ≤ 200) (h2 : nE ≤ 8) (h3 : dl ≤ 100) (h4 : ml ≤ 100) :
    Calls Tryd.prog 11 #[.agg #[.slice cp nC ccap, .slice ep nE ecap, .int .i64 sh, .int .i64 lk], .agg #[.int .i64 pc, .int .i32 r0, .int .i32 r1, .int .i32 r2, .int .i32 r3, .int .i32 r4, .int .i32 r5, .int .i32 r6, .int .i32 r7, .int .i32 r8, .int .i32 r9, .int .i32 r10, .int .i32 r11, .int .i32 r12, .int .i32 r13, .int .i32 r14, .int .i32 r15, .slice dp dl dcap, .bool hl, .int .i64 he], .slice mp ml mcap] w fun e w' => e = .returned (.int .i64 1) ∧ Below w.heap.size w w' := by
  have g0 : decide (((nC : Nat) : Int) > 200) = false := by simp; omega
  have q0 : ¬ (200 : Int) < nC := by omega
  have g1 : decide (((nE : Nat) : Int) > 8) = false := by simp; omega
  have q1 : ¬ (8 : Int) < nE := by omega
  have g2 : decide (((dl : Nat) : Int) > 100) = false := by simp; omega
  have q2 : ¬ (100 : Int) < dl := by omega
  have g3 : decide (((ml : Nat) : Int) > 100) = false := by simp; omega
  have q3 : ¬ (100 : Int) < ml := by omega
  go_enter Tryd.func11, Tryd.ntmps11
  go_wp2_with fail
  go_ret
  refine ⟨rfl, ?_⟩
  repeat (first | (with_reducible apply bBoth) | (with_reducible exact Below.refl _ _) | (with_reducible apply bDrewN) | (with_reducible apply Below.drew) | ((with_reducible apply bSet); (focus first | (simp; done) | (simp; omega) | omega)) | ((with_reducible apply bAlloc); (focus first | (simp; done) | (simp; omega) | omega)))

set_option maxRecDepth 100000 in
theorem small_code (pc r0 r1 r2 r3 r4 r5 r6 r7 r8 r9 r10 r11 r12 r13 r14 r15 he : Int) (hl : Bool) (cp ep dp mp : Option Addr) (nC ccap nE ecap dl dcap ml mcap : Nat) (sh lk : Int) (w : World) (h1 : 200 < nC) :
    Calls Tryd.prog 11 #[.agg #[.slice cp nC ccap, .slice ep nE ecap, .int .i64 sh, .int .i64 lk], .agg #[.int .i64 pc, .int .i32 r0, .int .i32 r1, .int .i32 r2, .int .i32 r3, .int .i32 r4, .int .i32 r5, .int .i32 r6, .int .i32 r7, .int .i32 r8, .int .i32 r9, .int .i32 r10, .int .i32 r11, .int .i32 r12, .int .i32 r13, .int .i32 r14, .int .i32 r15, .slice dp dl dcap, .bool hl, .int .i64 he], .slice mp ml mcap] w fun e w' => e = .returned (.int .i64 0) ∧ Below w.heap.size w w' := by
  have g0 : decide (((nC : Nat) : Int) > 200) = true := by simp; omega
  have q0 : (200 : Int) < nC := by omega
  go_enter Tryd.func11, Tryd.ntmps11
  go_wp2_with fail
  go_ret
  refine ⟨rfl, ?_⟩
  repeat (first | (with_reducible apply bBoth) | (with_reducible exact Below.refl _ _) | (with_reducible apply bDrewN) | (with_reducible apply Below.drew) | ((with_reducible apply bSet); (focus first | (simp; done) | (simp; omega) | omega)) | ((with_reducible apply bAlloc); (focus first | (simp; done) | (simp; omega) | omega)))

set_option maxRecDepth 100000 in
theorem small_ents (pc r0 r1 r2 r3 r4 r5 r6 r7 r8 r9 r10 r11 r12 r13 r14 r15 he : Int) (hl : Bool) (cp ep dp mp : Option Addr) (nC ccap nE ecap dl dcap ml mcap : Nat) (sh lk : Int) (w : World) (h1 : nC ≤ 200) (h2 : 8 < nE) :
    Calls Tryd.prog 11 #[.agg #[.slice cp nC ccap, .slice ep nE ecap, .int .i64 sh, .int .i64 lk], .agg #[.int .i64 pc, .int .i32 r0, .int .i32 r1, .int .i32 r2, .int .i32 r3, .int .i32 r4, .int .i32 r5, .int .i32 r6, .int .i32 r7, .int .i32 r8, .int .i32 r9, .int .i32 r10, .int .i32 r11, .int .i32 r12, .int .i32 r13, .int .i32 r14, .int .i32 r15, .slice dp dl dcap, .bool hl, .int .i64 he], .slice mp ml mcap] w fun e w' => e = .returned (.int .i64 0) ∧ Below w.heap.size w w' := by
  have g0 : decide (((nC : Nat) : Int) > 200) = false := by simp; omega
  have q0 : ¬ (200 : Int) < nC := by omega
  have g1 : decide (((nE : Nat) : Int) > 8) = true := by simp; omega
  have q1 : (8 : Int) < nE := by omega
  go_enter Tryd.func11, Tryd.ntmps11
  go_wp2_with fail
  go_ret
  refine ⟨rfl, ?_⟩
  repeat (first | (with_reducible apply bBoth) | (with_reducible exact Below.refl _ _) | (with_reducible apply bDrewN) | (with_reducible apply Below.drew) | ((with_reducible apply bSet); (focus first | (simp; done) | (simp; omega) | omega)) | ((with_reducible apply bAlloc); (focus first | (simp; done) | (simp; omega) | omega)))

set_option maxRecDepth 100000 in
theorem small_data (pc r0 r1 r2 r3 r4 r5 r6 r7 r8 r9 r10 r11 r12 r13 r14 r15 he : Int) (hl : Bool) (cp ep dp mp : Option Addr) (nC ccap nE ecap dl dcap ml mcap : Nat) (sh lk : Int) (w : World) (h1 : nC ≤ 200) (h2 : nE ≤ 8) (h3 : 100 < dl) :
    Calls Tryd.prog 11 #[.agg #[.slice cp nC ccap, .slice ep nE ecap, .int .i64 sh, .int .i64 lk], .agg #[.int .i64 pc, .int .i32 r0, .int .i32 r1, .int .i32 r2, .int .i32 r3, .int .i32 r4, .int .i32 r5, .int .i32 r6, .int .i32 r7, .int .i32 r8, .int .i32 r9, .int .i32 r10, .int .i32 r11, .int .i32 r12, .int .i32 r13, .int .i32 r14, .int .i32 r15, .slice dp dl dcap, .bool hl, .int .i64 he], .slice mp ml mcap] w fun e w' => e = .returned (.int .i64 0) ∧ Below w.heap.size w w' := by
  have g0 : decide (((nC : Nat) : Int) > 200) = false := by simp; omega
  have q0 : ¬ (200 : Int) < nC := by omega
  have g1 : decide (((nE : Nat) : Int) > 8) = false := by simp; omega
  have q1 : ¬ (8 : Int) < nE := by omega
  have g2 : decide (((dl : Nat) : Int) > 100) = true := by simp; omega
  have q2 : (100 : Int) < dl := by omega
  go_enter Tryd.func11, Tryd.ntmps11
  go_wp2_with fail
  go_ret
  refine ⟨rfl, ?_⟩
  repeat (first | (with_reducible apply bBoth) | (with_reducible exact Below.refl _ _) | (with_reducible apply bDrewN) | (with_reducible apply Below.drew) | ((with_reducible apply bSet); (focus first | (simp; done) | (simp; omega) | omega)) | ((with_reducible apply bAlloc); (focus first | (simp; done) | (simp; omega) | omega)))

set_option maxRecDepth 100000 in
theorem small_mem (pc r0 r1 r2 r3 r4 r5 r6 r7 r8 r9 r10 r11 r12 r13 r14 r15 he : Int) (hl : Bool) (cp ep dp mp : Option Addr) (nC ccap nE ecap dl dcap ml mcap : Nat) (sh lk : Int) (w : World) (h1 : nC ≤ 200) (h2 : nE ≤ 8) (h3 : dl ≤ 100) (h4 : 100 < ml) :
    Calls Tryd.prog 11 #[.agg #[.slice cp nC ccap, .slice ep nE ecap, .int .i64 sh, .int .i64 lk], .agg #[.int .i64 pc, .int .i32 r0, .int .i32 r1, .int .i32 r2, .int .i32 r3, .int .i32 r4, .int .i32 r5, .int .i32 r6, .int .i32 r7, .int .i32 r8, .int .i32 r9, .int .i32 r10, .int .i32 r11, .int .i32 r12, .int .i32 r13, .int .i32 r14, .int .i32 r15, .slice dp dl dcap, .bool hl, .int .i64 he], .slice mp ml mcap] w fun e w' => e = .returned (.int .i64 0) ∧ Below w.heap.size w w' := by
  have g0 : decide (((nC : Nat) : Int) > 200) = false := by simp; omega
  have q0 : ¬ (200 : Int) < nC := by omega
  have g1 : decide (((nE : Nat) : Int) > 8) = false := by simp; omega
  have q1 : ¬ (8 : Int) < nE := by omega
  have g2 : decide (((dl : Nat) : Int) > 100) = false := by simp; omega
  have q2 : ¬ (100 : Int) < dl := by omega
  have g3 : decide (((ml : Nat) : Int) > 100) = true := by simp; omega
  have q3 : (100 : Int) < ml := by omega
  go_enter Tryd.func11, Tryd.ntmps11
  go_wp2_with fail
  go_ret
  refine ⟨rfl, ?_⟩
  repeat (first | (with_reducible apply bBoth) | (with_reducible exact Below.refl _ _) | (with_reducible apply bDrewN) | (with_reducible apply Below.drew) | ((with_reducible apply bSet); (focus first | (simp; done) | (simp; omega) | omega)) | ((with_reducible apply bAlloc); (focus first | (simp; done) | (simp; omega) | omega)))

end Go.Proofs.YtlmipchjmgnlfaaDoor
