import Derived.Test.YtkcfbonchhidlaaGreatDoorMs05
set_option linter.unusedVariables false
namespace Go.Proofs.YtkcfbonchhidlaaGreatDoor
open Go.RowKit

set_option maxRecDepth 100000 in
set_option maxHeartbeats 1600000 in
theorem control_halt_ok (E S a b c : Nat) (i pc nx : Int) (locks held : Int) (w : World) (hE0 : w.cell? ⟨E, 0, none⟩ = some (.int .u8 1)) (hE1 : w.cell? ⟨E, 1, none⟩ = some (.int .i64 a)) (hE2 : w.cell? ⟨E, 2, none⟩ = some (.int .i64 b)) (hE3 : w.cell? ⟨E, 3, none⟩ = some (.int .i64 c)) (hE4 : w.cell? ⟨E, 4, none⟩ = some (.int .i64 i)) (hE5 : w.cell? ⟨E, 5, none⟩ = some (.int .i64 pc)) (hE6 : w.cell? ⟨E, 6, none⟩ = some (.bool false)) (hE7 : w.cell? ⟨E, 7, none⟩ = some (.int .i64 (-1))) (hE8 : w.cell? ⟨E, 8, none⟩ = some (.int .i32 0)) (hE9 : w.cell? ⟨E, 9, none⟩ = some (.pointer (some ⟨S, 0, none⟩))) (hE10 : w.cell? ⟨E, 10, none⟩ = some (.int .i64 nx)) (hF6 : w.frozen? ⟨E, 6, none⟩ = false) (hF7 : w.frozen? ⟨E, 7, none⟩ = false) (hF8 : w.frozen? ⟨E, 8, none⟩ = false) (hF10 : w.frozen? ⟨E, 10, none⟩ = false)
    (hS : S < E) (hEw : E < w.heap.size) (hh : held < 0) (hr : w.cell? ⟨S, 19, none⟩ = some (.int .i64 held)) :
    Calls Tryz.prog 51 #[.pointer (some ⟨E, 0, none⟩), .int .i64 locks] w fun e w' => ∃ S2, e = .returned (.tuple #[.func (.func 75) #[] #[.pointer (some ⟨S2, 0, none⟩)], .int .i64 0]) ∧ w'.cell? ⟨S2, 0, none⟩ = some (.pointer (some ⟨S, 0, none⟩)) ∧ Below w.heap.size (w.setCell ⟨E, 10, none⟩ (.int .i64 pc)) w' := by
  have hmf : ∀ (fn : Fn) (first cap : Array Value) (w : World), (Instr.makeFunc fn first cap).run Tryz.prog w = .ok (.func fn first cap) w := fun _ _ _ _ => rfl
  go_enter Tryz.func51, Tryz.ntmps51
  go_wp2_with fail
  have szE0 : E < w.heap.size := by omega
  have szE1 : E < w.heap.size + 1 := by omega
  have szE2 : E < w.heap.size + 1 + 1 := by omega
  have szE3 : E < w.heap.size + 1 + 1 + 1 := by omega
  have szS0 : S < w.heap.size := by omega
  have szS1 : S < w.heap.size + 1 := by omega
  have szS2 : S < w.heap.size + 1 + 1 := by omega
  have szS3 : S < w.heap.size + 1 + 1 + 1 := by omega
  go_region
  all_goals go_wp2_with fail
  all_goals go_ret2
  all_goals refine ⟨_, rfl, ?_, ?_⟩
  all_goals first | omega | (simp; done) | (simp; omega) | (simp [go_sem]; done) | (repeat (first | (with_reducible apply bBoth) | (with_reducible exact Below.refl _ _) | (with_reducible apply bDrewN) | (with_reducible apply Below.drew) | ((with_reducible apply bSet); (focus first | (simp; done) | (simp; omega) | omega)) | ((with_reducible apply bAlloc); (focus first | (simp; done) | (simp; omega) | omega))))

set_option maxRecDepth 100000 in
set_option maxHeartbeats 1600000 in
theorem control_halt_bad (E S a b c : Nat) (i pc nx : Int) (locks held : Int) (w : World) (hE0 : w.cell? ⟨E, 0, none⟩ = some (.int .u8 1)) (hE1 : w.cell? ⟨E, 1, none⟩ = some (.int .i64 a)) (hE2 : w.cell? ⟨E, 2, none⟩ = some (.int .i64 b)) (hE3 : w.cell? ⟨E, 3, none⟩ = some (.int .i64 c)) (hE4 : w.cell? ⟨E, 4, none⟩ = some (.int .i64 i)) (hE5 : w.cell? ⟨E, 5, none⟩ = some (.int .i64 pc)) (hE6 : w.cell? ⟨E, 6, none⟩ = some (.bool false)) (hE7 : w.cell? ⟨E, 7, none⟩ = some (.int .i64 (-1))) (hE8 : w.cell? ⟨E, 8, none⟩ = some (.int .i32 0)) (hE9 : w.cell? ⟨E, 9, none⟩ = some (.pointer (some ⟨S, 0, none⟩))) (hE10 : w.cell? ⟨E, 10, none⟩ = some (.int .i64 nx)) (hF6 : w.frozen? ⟨E, 6, none⟩ = false) (hF7 : w.frozen? ⟨E, 7, none⟩ = false) (hF8 : w.frozen? ⟨E, 8, none⟩ = false) (hF10 : w.frozen? ⟨E, 10, none⟩ = false)
    (hS : S < E) (hEw : E < w.heap.size) (hh : 0 ≤ held) (hr : w.cell? ⟨S, 19, none⟩ = some (.int .i64 held)) :
    Calls Tryz.prog 51 #[.pointer (some ⟨E, 0, none⟩), .int .i64 locks] w fun e w' => e = .returned (.tuple #[.nilFunc, .int .i64 12]) ∧ Below w.heap.size w w' := by
  have hmf : ∀ (fn : Fn) (first cap : Array Value) (w : World), (Instr.makeFunc fn first cap).run Tryz.prog w = .ok (.func fn first cap) w := fun _ _ _ _ => rfl
  go_enter Tryz.func51, Tryz.ntmps51
  go_wp2_with fail
  have szE0 : E < w.heap.size := by omega
  have szE1 : E < w.heap.size + 1 := by omega
  have szE2 : E < w.heap.size + 1 + 1 := by omega
  have szE3 : E < w.heap.size + 1 + 1 + 1 := by omega
  have szS0 : S < w.heap.size := by omega
  have szS1 : S < w.heap.size + 1 := by omega
  have szS2 : S < w.heap.size + 1 + 1 := by omega
  have szS3 : S < w.heap.size + 1 + 1 + 1 := by omega
  go_region
  all_goals go_wp2_with fail
  all_goals go_ret2
  all_goals refine ⟨rfl, ?_⟩
  all_goals first | omega | (simp; done) | (simp; omega) | (simp [go_sem]; done) | (repeat (first | (with_reducible apply bBoth) | (with_reducible exact Below.refl _ _) | (with_reducible apply bDrewN) | (with_reducible apply Below.drew) | ((with_reducible apply bSet); (focus first | (simp; done) | (simp; omega) | omega)) | ((with_reducible apply bAlloc); (focus first | (simp; done) | (simp; omega) | omega))))

end Go.Proofs.YtkcfbonchhidlaaGreatDoor
