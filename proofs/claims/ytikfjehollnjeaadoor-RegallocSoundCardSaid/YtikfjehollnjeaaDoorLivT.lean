/- regalloc.Allocate of a function that is not valid. -/
import Derived.Test.YtikfjehollnjeaaDoorLivR
set_option linter.unusedVariables false
set_option linter.unusedSimpArgs false
namespace Go.Proofs.YtikfjehollnjeaaDoor
open Go.RowKit Go.Maps Go.WideMaps

set_option maxHeartbeats 3200000 in
set_option maxRecDepth 40000 in
theorem alloc_no (nm : ByteArray) (R : Nat) (ap : Option Addr) (an ac : Nat) (bv : Value) (bs : List IBlk) (w : World) (hB : BksAt w bv bs) (hl : bs.length ≤ 1000) (hcl : ∀ k, k < bs.length → (bs.getD k default).code.length ≤ 1000) (hw : wfF R bs = false) :
    Calls Tryd.prog 8 #[.agg #[.string nm, .int .i64 R, .slice ap an ac, bv]] w fun e w' => e = .returned (.tuple #[.agg #[.slice none 0 0, .int .i64 0], .int .i64 3]) ∧ Below w.heap.size w w' := by
  obtain ⟨bp, bcap, rfl⟩ := hB.shape
  have hb0 : Below w.heap.size w ((w.alloc (.cells #[.string nm, .int .i64 R, .slice ap an ac, .slice bp bs.length bcap] 25)).alloc (.cells #[.slice none 0 0, .int .i64 0] 30)) := bAlloc (by simp) (bAlloc (Nat.le_refl _) (Below.refl _ _))
  have HIN := Lib.hid (interf_no nm R ap an ac _ bs _ (hB.below hb0 (Nat.le_refl _)) hl hcl hw)
  have hbx3 := AlBox.made (w.alloc (.cells #[.string nm, .int .i64 R, .slice ap an ac, .slice bp bs.length bcap] 25)) (.slice none 0 0) 0
  rw [show (w.alloc (.cells #[.string nm, .int .i64 R, .slice ap an ac, .slice bp bs.length bcap] 25)).heap.size = w.heap.size + 1 by simp] at hbx3
  have BX3 := Lib.hid hbx3
  have HB0 := Lib.hid hb0
  clear hB hw hb0 hl hcl hbx3
  go_enter Tryd.func8, Tryd.ntmps8
  go_wp2_with fail
  refine HIN.out.mono ?_
  rintro e w1 ⟨rfl, hb1⟩
  have hx3 := BX3.out.of_block (hb1.block _ BX3.out.1)
  have x0 := hx3.2.2.1
  have x1 := hx3.2.2.2
  have xf0 := hx3.2.1 0
  have xf1 := hx3.2.1 1
  have xl := hx3.1
  have HB1 := Lib.hid (bThen hb1 HB0.out.size HB0.out)
  clear hx3 hb1 BX3 HIN
  go_wp2_with fail
  refine bodyPost_ret (run_result2 Tryd.results8 (fun _ => by kernel_rfl) (fun _ => by kernel_rfl) _ _ (w.heap.size + 1) (.slice none 0 0) (.int .i64 0) (.int .i64 3) rfl rfl ?_ ?_) rfl ?_
  · simp [go_sem, *]
  · simp [go_sem, *]
  exact ⟨rfl, bSet (Nat.le_succ _) (bSet (Nat.le_succ _) HB1.out)⟩
end Go.Proofs.YtikfjehollnjeaaDoor
