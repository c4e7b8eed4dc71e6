/- core: the small closures (set, nothing, store, lock, unlock, halt) by their contracts. -/
import Derived.Test.YtpachmkklppmjaaDoorBase
import Derived.RegionTactic
import Derived.StillTailTactics
import Derived.BigRegion
set_option linter.unusedVariables false
namespace Go.Proofs.YtpachmkklppmjaaDoor
open Go.RowKit

theorem set_any (E : Nat) (v : Int) (w : World) :
    Calls Tryd.prog 35 #[.pointer (some ⟨E, 0, none⟩), .int .i32 v] w fun e w' =>
      e = .returned (.func (.func 44) #[] #[.pointer (some ⟨w.heap.size, 0, none⟩), .pointer (some ⟨w.heap.size + 1, 0, none⟩)]) ∧
      (w.alloc (.cells #[.pointer (some ⟨E, 0, none⟩)] 107)).alloc (.cells #[.int .i32 v] 21) = w' := by
  have hmf : ∀ (fn : Fn) (first cap : Array Value) (w : World), (Instr.makeFunc fn first cap).run Tryd.prog w = .ok (.func fn first cap) w := fun _ _ _ _ => rfl
  go_enter Tryd.func35, Tryd.ntmps35
  go_wp2_with fail
  go_ret
  exact ⟨rfl, rfl⟩

theorem nothing_any (w : World) : Calls Tryd.prog 34 #[] w fun e w' => e = .returned (.tuple #[]) ∧ w = w' := by
  go_enter Tryd.func34, Tryd.ntmps34
  go_wp2_with fail
  go_end0
  exact ⟨rfl, rfl⟩

set_option maxRecDepth 100000 in
/-- The closure that writes the register A, A not 0. -/
theorem set1_any (B B' E b : Nat) (a : Nat) (v old : Int) (w : World) (ha : 0 < a) (ha' : a < 16)
    (h0 : w.cell? ⟨B, 0, none⟩ = some (.pointer (some ⟨E, 0, none⟩))) (h1 : w.cell? ⟨B', 0, none⟩ = some (.int .i32 v))
    (hA : w.cell? ⟨E, 1, none⟩ = some (.int .i64 a)) (hs : w.cell? ⟨E, 9, none⟩ = some (.pointer (some ⟨b, 0, none⟩)))
    (hr : w.cell? ⟨b, 1 + a, none⟩ = some (.int .i32 old)) (hf : w.frozen? ⟨b, 1 + a, none⟩ = false) :
    Calls Tryd.prog 44 #[.pointer (some ⟨B, 0, none⟩), .pointer (some ⟨B', 0, none⟩)] w fun e w' =>
      e = .returned (.tuple #[]) ∧ (w.setCell ⟨b, 1 + a, none⟩ (.int .i32 v)).drew = w' := by
  have ha2 : (a : Int) < 16 := by omega
  go_enter Tryd.func44, Tryd.ntmps44
  go_wp2_with fail
  go_still_tail 14, (by kernel_rfl)
  go_wp2_with fail
  go_end0
  exact ⟨rfl, rfl⟩

theorem set1_zero (B B' E : Nat) (w : World)
    (h0 : w.cell? ⟨B, 0, none⟩ = some (.pointer (some ⟨E, 0, none⟩))) (hA : w.cell? ⟨E, 1, none⟩ = some (.int .i64 0)) :
    Calls Tryd.prog 44 #[.pointer (some ⟨B, 0, none⟩), .pointer (some ⟨B', 0, none⟩)] w fun e w' =>
      e = .returned (.tuple #[]) ∧ w = w' := by
  go_enter Tryd.func44, Tryd.ntmps44
  go_wp2_with fail
  go_end0
  exact ⟨rfl, rfl⟩

set_option maxRecDepth 100000 in
/-- The closure that stores register A into a memory. -/
theorem access1_any (S1 S2 S3 S4 b m off len cap : Nat) (a k : Nat) (v old : Int) (w : World) (ha' : a < 16) (hk : k < len)
    (h1 : w.cell? ⟨S1, 0, none⟩ = some (.pointer (some ⟨b, 0, none⟩))) (h2 : w.cell? ⟨S2, 1, none⟩ = some (.int .i64 a))
    (h3 : w.cell? ⟨S3, 0, none⟩ = some (.slice (some ⟨m, off, none⟩) len cap)) (h4 : w.cell? ⟨S4, 0, none⟩ = some (.int .i64 k))
    (hr : w.cell? ⟨b, 1 + a, none⟩ = some (.int .i32 v)) (hm : w.cell? ⟨m, off + k, none⟩ = some (.int .i32 old)) (hf : w.frozen? ⟨m, off + k, none⟩ = false) :
    Calls Tryd.prog 45 #[.pointer (some ⟨S1, 0, none⟩), .pointer (some ⟨S2, 0, none⟩), .pointer (some ⟨S3, 0, none⟩), .pointer (some ⟨S4, 0, none⟩)] w fun e w' =>
      e = .returned (.tuple #[]) ∧ (w.setCell ⟨m, off + k, none⟩ (.int .i32 v)).drew = w' := by
  have ha2 : (a : Int) < 16 := by omega
  have hk2 : (k : Int) < len := by omega
  go_enter Tryd.func45, Tryd.ntmps45
  go_wp2_with fail
  go_still_tail 10, (by kernel_rfl)
  go_wp2_with fail
  go_end0
  exact ⟨rfl, rfl⟩

theorem control1_any (S1 S2 b : Nat) (i old : Int) (w : World)
    (h1 : w.cell? ⟨S1, 4, none⟩ = some (.int .i64 i)) (h2 : w.cell? ⟨S2, 0, none⟩ = some (.pointer (some ⟨b, 0, none⟩)))
    (hr : w.cell? ⟨b, 19, none⟩ = some (.int .i64 old)) (hf : w.frozen? ⟨b, 19, none⟩ = false) :
    Calls Tryd.prog 46 #[.pointer (some ⟨S1, 0, none⟩), .pointer (some ⟨S2, 0, none⟩)] w fun e w' =>
      e = .returned (.tuple #[]) ∧ w.setCell ⟨b, 19, none⟩ (.int .i64 i) = w' := by
  go_enter Tryd.func46, Tryd.ntmps46
  go_wp2_with fail
  go_end0
  exact ⟨rfl, rfl⟩

theorem control2_any (S2 b : Nat) (old : Int) (w : World)
    (h2 : w.cell? ⟨S2, 0, none⟩ = some (.pointer (some ⟨b, 0, none⟩)))
    (hr : w.cell? ⟨b, 19, none⟩ = some (.int .i64 old)) (hf : w.frozen? ⟨b, 19, none⟩ = false) :
    Calls Tryd.prog 47 #[.pointer (some ⟨S2, 0, none⟩)] w fun e w' =>
      e = .returned (.tuple #[]) ∧ w.setCell ⟨b, 19, none⟩ (.int .i64 (-1)) = w' := by
  go_enter Tryd.func47, Tryd.ntmps47
  go_wp2_with fail
  go_end0
  exact ⟨rfl, rfl⟩

theorem control3_any (S2 b : Nat) (old : Bool) (w : World)
    (h2 : w.cell? ⟨S2, 0, none⟩ = some (.pointer (some ⟨b, 0, none⟩)))
    (hr : w.cell? ⟨b, 18, none⟩ = some (.bool old)) (hf : w.frozen? ⟨b, 18, none⟩ = false) :
    Calls Tryd.prog 48 #[.pointer (some ⟨S2, 0, none⟩)] w fun e w' =>
      e = .returned (.tuple #[]) ∧ w.setCell ⟨b, 18, none⟩ (.bool true) = w' := by
  go_enter Tryd.func48, Tryd.ntmps48
  go_wp2_with fail
  go_end0
  exact ⟨rfl, rfl⟩

end Go.Proofs.YtpachmkklppmjaaDoor
