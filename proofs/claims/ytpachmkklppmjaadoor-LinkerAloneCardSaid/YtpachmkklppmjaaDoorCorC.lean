/- core: branch, control by their contracts. -/
import Derived.Test.YtpachmkklppmjaaDoorCorB
set_option linter.unusedVariables false
namespace Go.Proofs.YtpachmkklppmjaaDoor
open Go.RowKit

set_option maxRecDepth 100000 in
set_option maxHeartbeats 1600000 in
theorem branch_beqz_t (E S a b c : Nat) (i pc nx va : Int) (w : World) (hE0 : w.cell? ⟨E, 0, none⟩ = some (.int .u8 22)) (hE1 : w.cell? ⟨E, 1, none⟩ = some (.int .i64 a)) (hE2 : w.cell? ⟨E, 2, none⟩ = some (.int .i64 b)) (hE3 : w.cell? ⟨E, 3, none⟩ = some (.int .i64 c)) (hE4 : w.cell? ⟨E, 4, none⟩ = some (.int .i64 i)) (hE5 : w.cell? ⟨E, 5, none⟩ = some (.int .i64 pc)) (hE6 : w.cell? ⟨E, 6, none⟩ = some (.bool false)) (hE7 : w.cell? ⟨E, 7, none⟩ = some (.int .i64 (-1))) (hE8 : w.cell? ⟨E, 8, none⟩ = some (.int .i32 0)) (hE9 : w.cell? ⟨E, 9, none⟩ = some (.pointer (some ⟨S, 0, none⟩))) (hE10 : w.cell? ⟨E, 10, none⟩ = some (.int .i64 nx)) (hF6 : w.frozen? ⟨E, 6, none⟩ = false) (hF7 : w.frozen? ⟨E, 7, none⟩ = false) (hF8 : w.frozen? ⟨E, 8, none⟩ = false) (hF10 : w.frozen? ⟨E, 10, none⟩ = false)
    (hS : S < E) (hEw : E < w.heap.size) (ha : a < 16) (hi : -131072 ≤ i) (hi1 : i ≤ 131071) (hp : 0 ≤ pc) (hp1 : pc ≤ 140737488351232) (hr : w.cell? ⟨S, 1 + a, none⟩ = some (.int .i32 0)) :
    Calls Tryd.prog 37 #[.pointer (some ⟨E, 0, none⟩)] w fun e w' => e = .returned (.tuple #[.func (.func 34) #[] #[], .int .i64 0]) ∧ Below w.heap.size ((w.setCell ⟨E, 6, none⟩ (.bool true)).setCell ⟨E, 10, none⟩ (.int .i64 (pc + 1 + i))) w' := by
  have ha2 : (a : Int) < 16 := by omega
  have hmf : ∀ (fn : Fn) (first cap : Array Value) (w : World), (Instr.makeFunc fn first cap).run Tryd.prog w = .ok (.func fn first cap) w := fun _ _ _ _ => rfl
  go_enter Tryd.func37, Tryd.ntmps37
  go_wp2_with fail
  have szE0 : E < w.heap.size := by omega
  have szE1 : E < w.heap.size + 1 := by omega
  have szE2 : E < w.heap.size + 1 + 1 := by omega
  have szS0 : S < w.heap.size := by omega
  have szS1 : S < w.heap.size + 1 := by omega
  have szS2 : S < w.heap.size + 1 + 1 := by omega
  go_quiet (fail)
  go_wp2_with fail
  have hb0 : Below w.heap.size (w.setCell ⟨E, 6, none⟩ (.bool true)) ((w.drewN nq).setCell ⟨E, 6, none⟩ (.bool true)) := bBoth (bDrewN (Below.refl _ _))
  have g0 : ((w.drewN nq).setCell ⟨E, 6, none⟩ (.bool true)).cell? ⟨E, 0, none⟩ = some (.int .u8 22) := by simp [go_sem, *]
  have g1 : ((w.drewN nq).setCell ⟨E, 6, none⟩ (.bool true)).cell? ⟨E, 1, none⟩ = some (.int .i64 a) := by simp [go_sem, *]
  have g2 : ((w.drewN nq).setCell ⟨E, 6, none⟩ (.bool true)).cell? ⟨E, 2, none⟩ = some (.int .i64 b) := by simp [go_sem, *]
  have g3 : ((w.drewN nq).setCell ⟨E, 6, none⟩ (.bool true)).cell? ⟨E, 3, none⟩ = some (.int .i64 c) := by simp [go_sem, *]
  have g4 : ((w.drewN nq).setCell ⟨E, 6, none⟩ (.bool true)).cell? ⟨E, 4, none⟩ = some (.int .i64 i) := by simp [go_sem, *]
  have g5 : ((w.drewN nq).setCell ⟨E, 6, none⟩ (.bool true)).cell? ⟨E, 5, none⟩ = some (.int .i64 pc) := by simp [go_sem, *]
  have g10 : ((w.drewN nq).setCell ⟨E, 6, none⟩ (.bool true)).cell? ⟨E, 10, none⟩ = some (.int .i64 nx) := by simp [go_sem, *]
  have gf : ((w.drewN nq).setCell ⟨E, 6, none⟩ (.bool true)).frozen? ⟨E, 10, none⟩ = false := by simp [go_sem, *]
  have gz : E < ((w.drewN nq).setCell ⟨E, 6, none⟩ (.bool true)).heap.size := by simpa [go_sem] using hEw
  clear hE0 hE1 hE2 hE3 hE4 hE5 hE6 hE7 hE8 hE9 hE10 hF6 hF7 hF8 hF10 hr hEw szE0 szE1 szE2 szS0 szS1 szS2
  generalize ((w.drewN nq).setCell ⟨E, 6, none⟩ (.bool true)) = W at g0 g1 g2 g3 g4 g5 g10 gf gz hb0 ⊢
  have gz1 : E < W.heap.size + 1 := by omega
  have gs : w.heap.size ≤ W.heap.size := by have := hb0.size; simpa using this
  go_region_with (go_at_call 24; refine (target_br 22 _ _ _ _ _ _ rfl hp hp1 hi hi1).mono ?_; rintro e w' ⟨rfl, rfl⟩)
  all_goals go_wp2_with fail
  all_goals go_ret2
  all_goals refine ⟨rfl, ?_⟩
  all_goals first | omega | (simp; done) | (simp; omega) | (simp [go_sem]; done) | (repeat (first | (with_reducible apply bBoth) | (with_reducible exact Below.refl _ _) | (with_reducible apply bDrewN) | (with_reducible apply Below.drew) | (with_reducible exact hb0) | ((with_reducible apply bSet); (focus first | (simp; done) | (simp; omega) | omega)) | ((with_reducible apply bAlloc); (focus first | (simp; done) | (simp; omega) | omega))))

set_option maxRecDepth 100000 in
set_option maxHeartbeats 1600000 in
theorem branch_beqz_f (E S a b c : Nat) (i pc nx va : Int) (w : World) (hE0 : w.cell? ⟨E, 0, none⟩ = some (.int .u8 22)) (hE1 : w.cell? ⟨E, 1, none⟩ = some (.int .i64 a)) (hE2 : w.cell? ⟨E, 2, none⟩ = some (.int .i64 b)) (hE3 : w.cell? ⟨E, 3, none⟩ = some (.int .i64 c)) (hE4 : w.cell? ⟨E, 4, none⟩ = some (.int .i64 i)) (hE5 : w.cell? ⟨E, 5, none⟩ = some (.int .i64 pc)) (hE6 : w.cell? ⟨E, 6, none⟩ = some (.bool false)) (hE7 : w.cell? ⟨E, 7, none⟩ = some (.int .i64 (-1))) (hE8 : w.cell? ⟨E, 8, none⟩ = some (.int .i32 0)) (hE9 : w.cell? ⟨E, 9, none⟩ = some (.pointer (some ⟨S, 0, none⟩))) (hE10 : w.cell? ⟨E, 10, none⟩ = some (.int .i64 nx)) (hF6 : w.frozen? ⟨E, 6, none⟩ = false) (hF7 : w.frozen? ⟨E, 7, none⟩ = false) (hF8 : w.frozen? ⟨E, 8, none⟩ = false) (hF10 : w.frozen? ⟨E, 10, none⟩ = false)
    (hS : S < E) (hEw : E < w.heap.size) (ha : a < 16) (hi : -131072 ≤ i) (hi1 : i ≤ 131071) (hp : 0 ≤ pc) (hp1 : pc ≤ 140737488351232) (hz : (va == 0) = false) (hr : w.cell? ⟨S, 1 + a, none⟩ = some (.int .i32 va)) :
    Calls Tryd.prog 37 #[.pointer (some ⟨E, 0, none⟩)] w fun e w' => e = .returned (.tuple #[.func (.func 34) #[] #[], .int .i64 0]) ∧ Below w.heap.size (w.setCell ⟨E, 6, none⟩ (.bool false)) w' := by
  have ha2 : (a : Int) < 16 := by omega
  have hmf : ∀ (fn : Fn) (first cap : Array Value) (w : World), (Instr.makeFunc fn first cap).run Tryd.prog w = .ok (.func fn first cap) w := fun _ _ _ _ => rfl
  go_enter Tryd.func37, Tryd.ntmps37
  go_wp2_with fail
  have szE0 : E < w.heap.size := by omega
  have szE1 : E < w.heap.size + 1 := by omega
  have szE2 : E < w.heap.size + 1 + 1 := by omega
  have szS0 : S < w.heap.size := by omega
  have szS1 : S < w.heap.size + 1 := by omega
  have szS2 : S < w.heap.size + 1 + 1 := by omega
  go_quiet (fail)
  go_wp2_with fail
  all_goals go_ret2
  all_goals refine ⟨rfl, ?_⟩
  all_goals first | omega | (simp; done) | (simp; omega) | (simp [go_sem]; done) | (repeat (first | (with_reducible apply bBoth) | (with_reducible exact Below.refl _ _) | (with_reducible apply bDrewN) | (with_reducible apply Below.drew) | ((with_reducible apply bSet); (focus first | (simp; done) | (simp; omega) | omega)) | ((with_reducible apply bAlloc); (focus first | (simp; done) | (simp; omega) | omega))))

set_option maxRecDepth 100000 in
set_option maxHeartbeats 1600000 in
theorem branch_bnez_f (E S a b c : Nat) (i pc nx va : Int) (w : World) (hE0 : w.cell? ⟨E, 0, none⟩ = some (.int .u8 23)) (hE1 : w.cell? ⟨E, 1, none⟩ = some (.int .i64 a)) (hE2 : w.cell? ⟨E, 2, none⟩ = some (.int .i64 b)) (hE3 : w.cell? ⟨E, 3, none⟩ = some (.int .i64 c)) (hE4 : w.cell? ⟨E, 4, none⟩ = some (.int .i64 i)) (hE5 : w.cell? ⟨E, 5, none⟩ = some (.int .i64 pc)) (hE6 : w.cell? ⟨E, 6, none⟩ = some (.bool false)) (hE7 : w.cell? ⟨E, 7, none⟩ = some (.int .i64 (-1))) (hE8 : w.cell? ⟨E, 8, none⟩ = some (.int .i32 0)) (hE9 : w.cell? ⟨E, 9, none⟩ = some (.pointer (some ⟨S, 0, none⟩))) (hE10 : w.cell? ⟨E, 10, none⟩ = some (.int .i64 nx)) (hF6 : w.frozen? ⟨E, 6, none⟩ = false) (hF7 : w.frozen? ⟨E, 7, none⟩ = false) (hF8 : w.frozen? ⟨E, 8, none⟩ = false) (hF10 : w.frozen? ⟨E, 10, none⟩ = false)
    (hS : S < E) (hEw : E < w.heap.size) (ha : a < 16) (hi : -131072 ≤ i) (hi1 : i ≤ 131071) (hp : 0 ≤ pc) (hp1 : pc ≤ 140737488351232) (hr : w.cell? ⟨S, 1 + a, none⟩ = some (.int .i32 0)) :
    Calls Tryd.prog 37 #[.pointer (some ⟨E, 0, none⟩)] w fun e w' => e = .returned (.tuple #[.func (.func 34) #[] #[], .int .i64 0]) ∧ Below w.heap.size (w.setCell ⟨E, 6, none⟩ (.bool false)) w' := by
  have ha2 : (a : Int) < 16 := by omega
  have hmf : ∀ (fn : Fn) (first cap : Array Value) (w : World), (Instr.makeFunc fn first cap).run Tryd.prog w = .ok (.func fn first cap) w := fun _ _ _ _ => rfl
  go_enter Tryd.func37, Tryd.ntmps37
  go_wp2_with fail
  have szE0 : E < w.heap.size := by omega
  have szE1 : E < w.heap.size + 1 := by omega
  have szE2 : E < w.heap.size + 1 + 1 := by omega
  have szS0 : S < w.heap.size := by omega
  have szS1 : S < w.heap.size + 1 := by omega
  have szS2 : S < w.heap.size + 1 + 1 := by omega
  go_quiet (fail)
  go_wp2_with fail
  all_goals go_ret2
  all_goals refine ⟨rfl, ?_⟩
  all_goals first | omega | (simp; done) | (simp; omega) | (simp [go_sem]; done) | (repeat (first | (with_reducible apply bBoth) | (with_reducible exact Below.refl _ _) | (with_reducible apply bDrewN) | (with_reducible apply Below.drew) | ((with_reducible apply bSet); (focus first | (simp; done) | (simp; omega) | omega)) | ((with_reducible apply bAlloc); (focus first | (simp; done) | (simp; omega) | omega))))

set_option maxRecDepth 100000 in
set_option maxHeartbeats 1600000 in
theorem branch_bnez_t (E S a b c : Nat) (i pc nx va : Int) (w : World) (hE0 : w.cell? ⟨E, 0, none⟩ = some (.int .u8 23)) (hE1 : w.cell? ⟨E, 1, none⟩ = some (.int .i64 a)) (hE2 : w.cell? ⟨E, 2, none⟩ = some (.int .i64 b)) (hE3 : w.cell? ⟨E, 3, none⟩ = some (.int .i64 c)) (hE4 : w.cell? ⟨E, 4, none⟩ = some (.int .i64 i)) (hE5 : w.cell? ⟨E, 5, none⟩ = some (.int .i64 pc)) (hE6 : w.cell? ⟨E, 6, none⟩ = some (.bool false)) (hE7 : w.cell? ⟨E, 7, none⟩ = some (.int .i64 (-1))) (hE8 : w.cell? ⟨E, 8, none⟩ = some (.int .i32 0)) (hE9 : w.cell? ⟨E, 9, none⟩ = some (.pointer (some ⟨S, 0, none⟩))) (hE10 : w.cell? ⟨E, 10, none⟩ = some (.int .i64 nx)) (hF6 : w.frozen? ⟨E, 6, none⟩ = false) (hF7 : w.frozen? ⟨E, 7, none⟩ = false) (hF8 : w.frozen? ⟨E, 8, none⟩ = false) (hF10 : w.frozen? ⟨E, 10, none⟩ = false)
    (hS : S < E) (hEw : E < w.heap.size) (ha : a < 16) (hi : -131072 ≤ i) (hi1 : i ≤ 131071) (hp : 0 ≤ pc) (hp1 : pc ≤ 140737488351232) (hz : (va == 0) = false) (hr : w.cell? ⟨S, 1 + a, none⟩ = some (.int .i32 va)) :
    Calls Tryd.prog 37 #[.pointer (some ⟨E, 0, none⟩)] w fun e w' => e = .returned (.tuple #[.func (.func 34) #[] #[], .int .i64 0]) ∧ Below w.heap.size ((w.setCell ⟨E, 6, none⟩ (.bool true)).setCell ⟨E, 10, none⟩ (.int .i64 (pc + 1 + i))) w' := by
  have ha2 : (a : Int) < 16 := by omega
  have hmf : ∀ (fn : Fn) (first cap : Array Value) (w : World), (Instr.makeFunc fn first cap).run Tryd.prog w = .ok (.func fn first cap) w := fun _ _ _ _ => rfl
  go_enter Tryd.func37, Tryd.ntmps37
  go_wp2_with fail
  have szE0 : E < w.heap.size := by omega
  have szE1 : E < w.heap.size + 1 := by omega
  have szE2 : E < w.heap.size + 1 + 1 := by omega
  have szS0 : S < w.heap.size := by omega
  have szS1 : S < w.heap.size + 1 := by omega
  have szS2 : S < w.heap.size + 1 + 1 := by omega
  go_quiet (fail)
  go_wp2_with fail
  have hb0 : Below w.heap.size (w.setCell ⟨E, 6, none⟩ (.bool true)) ((w.drewN nq).setCell ⟨E, 6, none⟩ (.bool true)) := bBoth (bDrewN (Below.refl _ _))
  have g0 : ((w.drewN nq).setCell ⟨E, 6, none⟩ (.bool true)).cell? ⟨E, 0, none⟩ = some (.int .u8 23) := by simp [go_sem, *]
  have g1 : ((w.drewN nq).setCell ⟨E, 6, none⟩ (.bool true)).cell? ⟨E, 1, none⟩ = some (.int .i64 a) := by simp [go_sem, *]
  have g2 : ((w.drewN nq).setCell ⟨E, 6, none⟩ (.bool true)).cell? ⟨E, 2, none⟩ = some (.int .i64 b) := by simp [go_sem, *]
  have g3 : ((w.drewN nq).setCell ⟨E, 6, none⟩ (.bool true)).cell? ⟨E, 3, none⟩ = some (.int .i64 c) := by simp [go_sem, *]
  have g4 : ((w.drewN nq).setCell ⟨E, 6, none⟩ (.bool true)).cell? ⟨E, 4, none⟩ = some (.int .i64 i) := by simp [go_sem, *]
  have g5 : ((w.drewN nq).setCell ⟨E, 6, none⟩ (.bool true)).cell? ⟨E, 5, none⟩ = some (.int .i64 pc) := by simp [go_sem, *]
  have g10 : ((w.drewN nq).setCell ⟨E, 6, none⟩ (.bool true)).cell? ⟨E, 10, none⟩ = some (.int .i64 nx) := by simp [go_sem, *]
  have gf : ((w.drewN nq).setCell ⟨E, 6, none⟩ (.bool true)).frozen? ⟨E, 10, none⟩ = false := by simp [go_sem, *]
  have gz : E < ((w.drewN nq).setCell ⟨E, 6, none⟩ (.bool true)).heap.size := by simpa [go_sem] using hEw
  clear hE0 hE1 hE2 hE3 hE4 hE5 hE6 hE7 hE8 hE9 hE10 hF6 hF7 hF8 hF10 hr hEw szE0 szE1 szE2 szS0 szS1 szS2
  generalize ((w.drewN nq).setCell ⟨E, 6, none⟩ (.bool true)) = W at g0 g1 g2 g3 g4 g5 g10 gf gz hb0 ⊢
  have gz1 : E < W.heap.size + 1 := by omega
  have gs : w.heap.size ≤ W.heap.size := by have := hb0.size; simpa using this
  go_region_with (go_at_call 24; refine (target_br 23 _ _ _ _ _ _ rfl hp hp1 hi hi1).mono ?_; rintro e w' ⟨rfl, rfl⟩)
  all_goals go_wp2_with fail
  all_goals go_ret2
  all_goals refine ⟨rfl, ?_⟩
  all_goals first | omega | (simp; done) | (simp; omega) | (simp [go_sem]; done) | (repeat (first | (with_reducible apply bBoth) | (with_reducible exact Below.refl _ _) | (with_reducible apply bDrewN) | (with_reducible apply Below.drew) | (with_reducible exact hb0) | ((with_reducible apply bSet); (focus first | (simp; done) | (simp; omega) | omega)) | ((with_reducible apply bAlloc); (focus first | (simp; done) | (simp; omega) | omega))))

set_option maxRecDepth 100000 in
set_option maxHeartbeats 1600000 in
theorem branch_jmp (E S a b c : Nat) (i pc nx va : Int) (w : World) (hE0 : w.cell? ⟨E, 0, none⟩ = some (.int .u8 24)) (hE1 : w.cell? ⟨E, 1, none⟩ = some (.int .i64 a)) (hE2 : w.cell? ⟨E, 2, none⟩ = some (.int .i64 b)) (hE3 : w.cell? ⟨E, 3, none⟩ = some (.int .i64 c)) (hE4 : w.cell? ⟨E, 4, none⟩ = some (.int .i64 i)) (hE5 : w.cell? ⟨E, 5, none⟩ = some (.int .i64 pc)) (hE6 : w.cell? ⟨E, 6, none⟩ = some (.bool false)) (hE7 : w.cell? ⟨E, 7, none⟩ = some (.int .i64 (-1))) (hE8 : w.cell? ⟨E, 8, none⟩ = some (.int .i32 0)) (hE9 : w.cell? ⟨E, 9, none⟩ = some (.pointer (some ⟨S, 0, none⟩))) (hE10 : w.cell? ⟨E, 10, none⟩ = some (.int .i64 nx)) (hF6 : w.frozen? ⟨E, 6, none⟩ = false) (hF7 : w.frozen? ⟨E, 7, none⟩ = false) (hF8 : w.frozen? ⟨E, 8, none⟩ = false) (hF10 : w.frozen? ⟨E, 10, none⟩ = false)
    (hS : S < E) (hEw : E < w.heap.size) (ha : a < 16) (hi : -131072 ≤ i) (hi1 : i ≤ 131071) (hp : 0 ≤ pc) (hp1 : pc ≤ 140737488351232) (hr : w.cell? ⟨S, 1 + a, none⟩ = some (.int .i32 va)) :
    Calls Tryd.prog 37 #[.pointer (some ⟨E, 0, none⟩)] w fun e w' => e = .returned (.tuple #[.func (.func 34) #[] #[], .int .i64 0]) ∧ Below w.heap.size ((w.setCell ⟨E, 6, none⟩ (.bool true)).setCell ⟨E, 10, none⟩ (.int .i64 (pc + 1 + i))) w' := by
  have ha2 : (a : Int) < 16 := by omega
  have hmf : ∀ (fn : Fn) (first cap : Array Value) (w : World), (Instr.makeFunc fn first cap).run Tryd.prog w = .ok (.func fn first cap) w := fun _ _ _ _ => rfl
  go_enter Tryd.func37, Tryd.ntmps37
  go_wp2_with fail
  have szE0 : E < w.heap.size := by omega
  have szE1 : E < w.heap.size + 1 := by omega
  have szE2 : E < w.heap.size + 1 + 1 := by omega
  have szS0 : S < w.heap.size := by omega
  have szS1 : S < w.heap.size + 1 := by omega
  have szS2 : S < w.heap.size + 1 + 1 := by omega
  go_quiet (fail)
  go_wp2_with fail
  have hb0 : Below w.heap.size (w.setCell ⟨E, 6, none⟩ (.bool true)) ((w.drewN nq).setCell ⟨E, 6, none⟩ (.bool true)) := bBoth (bDrewN (Below.refl _ _))
  have g0 : ((w.drewN nq).setCell ⟨E, 6, none⟩ (.bool true)).cell? ⟨E, 0, none⟩ = some (.int .u8 24) := by simp [go_sem, *]
  have g1 : ((w.drewN nq).setCell ⟨E, 6, none⟩ (.bool true)).cell? ⟨E, 1, none⟩ = some (.int .i64 a) := by simp [go_sem, *]
  have g2 : ((w.drewN nq).setCell ⟨E, 6, none⟩ (.bool true)).cell? ⟨E, 2, none⟩ = some (.int .i64 b) := by simp [go_sem, *]
  have g3 : ((w.drewN nq).setCell ⟨E, 6, none⟩ (.bool true)).cell? ⟨E, 3, none⟩ = some (.int .i64 c) := by simp [go_sem, *]
  have g4 : ((w.drewN nq).setCell ⟨E, 6, none⟩ (.bool true)).cell? ⟨E, 4, none⟩ = some (.int .i64 i) := by simp [go_sem, *]
  have g5 : ((w.drewN nq).setCell ⟨E, 6, none⟩ (.bool true)).cell? ⟨E, 5, none⟩ = some (.int .i64 pc) := by simp [go_sem, *]
  have g10 : ((w.drewN nq).setCell ⟨E, 6, none⟩ (.bool true)).cell? ⟨E, 10, none⟩ = some (.int .i64 nx) := by simp [go_sem, *]
  have gf : ((w.drewN nq).setCell ⟨E, 6, none⟩ (.bool true)).frozen? ⟨E, 10, none⟩ = false := by simp [go_sem, *]
  have gz : E < ((w.drewN nq).setCell ⟨E, 6, none⟩ (.bool true)).heap.size := by simpa [go_sem] using hEw
  clear hE0 hE1 hE2 hE3 hE4 hE5 hE6 hE7 hE8 hE9 hE10 hF6 hF7 hF8 hF10 hr hEw szE0 szE1 szE2 szS0 szS1 szS2
  generalize ((w.drewN nq).setCell ⟨E, 6, none⟩ (.bool true)) = W at g0 g1 g2 g3 g4 g5 g10 gf gz hb0 ⊢
  have gz1 : E < W.heap.size + 1 := by omega
  have gs : w.heap.size ≤ W.heap.size := by have := hb0.size; simpa using this
  go_region_with (go_at_call 24; refine (target_br 24 _ _ _ _ _ _ rfl hp hp1 hi hi1).mono ?_; rintro e w' ⟨rfl, rfl⟩)
  all_goals go_wp2_with fail
  all_goals go_ret2
  all_goals refine ⟨rfl, ?_⟩
  all_goals first | omega | (simp; done) | (simp; omega) | (simp [go_sem]; done) | (repeat (first | (with_reducible apply bBoth) | (with_reducible exact Below.refl _ _) | (with_reducible apply bDrewN) | (with_reducible apply Below.drew) | (with_reducible exact hb0) | ((with_reducible apply bSet); (focus first | (simp; done) | (simp; omega) | omega)) | ((with_reducible apply bAlloc); (focus first | (simp; done) | (simp; omega) | omega))))

set_option maxRecDepth 100000 in
set_option maxHeartbeats 1600000 in
theorem control_lock_ok (E S a b c : Nat) (i pc nx : Int) (locks held : Int) (w : World) (hE0 : w.cell? ⟨E, 0, none⟩ = some (.int .u8 28)) (hE1 : w.cell? ⟨E, 1, none⟩ = some (.int .i64 a)) (hE2 : w.cell? ⟨E, 2, none⟩ = some (.int .i64 b)) (hE3 : w.cell? ⟨E, 3, none⟩ = some (.int .i64 c)) (hE4 : w.cell? ⟨E, 4, none⟩ = some (.int .i64 i)) (hE5 : w.cell? ⟨E, 5, none⟩ = some (.int .i64 pc)) (hE6 : w.cell? ⟨E, 6, none⟩ = some (.bool false)) (hE7 : w.cell? ⟨E, 7, none⟩ = some (.int .i64 (-1))) (hE8 : w.cell? ⟨E, 8, none⟩ = some (.int .i32 0)) (hE9 : w.cell? ⟨E, 9, none⟩ = some (.pointer (some ⟨S, 0, none⟩))) (hE10 : w.cell? ⟨E, 10, none⟩ = some (.int .i64 nx)) (hF6 : w.frozen? ⟨E, 6, none⟩ = false) (hF7 : w.frozen? ⟨E, 7, none⟩ = false) (hF8 : w.frozen? ⟨E, 8, none⟩ = false) (hF10 : w.frozen? ⟨E, 10, none⟩ = false)
    (hS : S < E) (hEw : E < w.heap.size) (hh : held < 0) (hl : i < locks) (hr : w.cell? ⟨S, 19, none⟩ = some (.int .i64 held)) :
    Calls Tryd.prog 38 #[.pointer (some ⟨E, 0, none⟩), .int .i64 locks] w fun e w' => ∃ S1 S2, e = .returned (.tuple #[.func (.func 46) #[] #[.pointer (some ⟨S1, 0, none⟩), .pointer (some ⟨S2, 0, none⟩)], .int .i64 0]) ∧ w'.cell? ⟨S1, 4, none⟩ = some (.int .i64 i) ∧ w'.cell? ⟨S2, 0, none⟩ = some (.pointer (some ⟨S, 0, none⟩)) ∧ Below w.heap.size w w' := by
  have hl2 : decide (locks ≤ i) = false := by simpa using hl
  have hl3 : ¬ locks ≤ i := by omega
  have hmf : ∀ (fn : Fn) (first cap : Array Value) (w : World), (Instr.makeFunc fn first cap).run Tryd.prog w = .ok (.func fn first cap) w := fun _ _ _ _ => rfl
  go_enter Tryd.func38, Tryd.ntmps38
  go_wp2_with fail
  have szE0 : E < w.heap.size := by omega
  have szE1 : E < w.heap.size + 1 := by omega
  have szE2 : E < w.heap.size + 1 + 1 := by omega
  have szE3 : E < w.heap.size + 1 + 1 + 1 := by omega
  have szS0 : S < w.heap.size := by omega
  have szS1 : S < w.heap.size + 1 := by omega
  have szS2 : S < w.heap.size + 1 + 1 := by omega
  have szS3 : S < w.heap.size + 1 + 1 + 1 := by omega
  go_region
  all_goals go_wp2_with fail
  all_goals try (exfalso; omega)
  all_goals go_ret2
  all_goals refine ⟨_, _, rfl, ?_, ?_, ?_⟩
  all_goals first | omega | (simp; done) | (simp; omega) | (simp [go_sem]; done) | (repeat (first | (with_reducible apply bBoth) | (with_reducible exact Below.refl _ _) | (with_reducible apply bDrewN) | (with_reducible apply Below.drew) | ((with_reducible apply bSet); (focus first | (simp; done) | (simp; omega) | omega)) | ((with_reducible apply bAlloc); (focus first | (simp; done) | (simp; omega) | omega))))

set_option maxRecDepth 100000 in
set_option maxHeartbeats 1600000 in
theorem control_lock_held (E S a b c : Nat) (i pc nx : Int) (locks held : Int) (w : World) (hE0 : w.cell? ⟨E, 0, none⟩ = some (.int .u8 28)) (hE1 : w.cell? ⟨E, 1, none⟩ = some (.int .i64 a)) (hE2 : w.cell? ⟨E, 2, none⟩ = some (.int .i64 b)) (hE3 : w.cell? ⟨E, 3, none⟩ = some (.int .i64 c)) (hE4 : w.cell? ⟨E, 4, none⟩ = some (.int .i64 i)) (hE5 : w.cell? ⟨E, 5, none⟩ = some (.int .i64 pc)) (hE6 : w.cell? ⟨E, 6, none⟩ = some (.bool false)) (hE7 : w.cell? ⟨E, 7, none⟩ = some (.int .i64 (-1))) (hE8 : w.cell? ⟨E, 8, none⟩ = some (.int .i32 0)) (hE9 : w.cell? ⟨E, 9, none⟩ = some (.pointer (some ⟨S, 0, none⟩))) (hE10 : w.cell? ⟨E, 10, none⟩ = some (.int .i64 nx)) (hF6 : w.frozen? ⟨E, 6, none⟩ = false) (hF7 : w.frozen? ⟨E, 7, none⟩ = false) (hF8 : w.frozen? ⟨E, 8, none⟩ = false) (hF10 : w.frozen? ⟨E, 10, none⟩ = false)
    (hS : S < E) (hEw : E < w.heap.size) (hh : 0 ≤ held) (hr : w.cell? ⟨S, 19, none⟩ = some (.int .i64 held)) :
    Calls Tryd.prog 38 #[.pointer (some ⟨E, 0, none⟩), .int .i64 locks] w fun e w' => e = .returned (.tuple #[.nilFunc, .int .i64 12]) ∧ Below w.heap.size w w' := by
  have hmf : ∀ (fn : Fn) (first cap : Array Value) (w : World), (Instr.makeFunc fn first cap).run Tryd.prog w = .ok (.func fn first cap) w := fun _ _ _ _ => rfl
  go_enter Tryd.func38, Tryd.ntmps38
  go_wp2_with fail
  have szE0 : E < w.heap.size := by omega
  have szE1 : E < w.heap.size + 1 := by omega
  have szE2 : E < w.heap.size + 1 + 1 := by omega
  have szE3 : E < w.heap.size + 1 + 1 + 1 := by omega
  have szS0 : S < w.heap.size := by omega
  have szS1 : S < w.heap.size + 1 := by omega
  have szS2 : S < w.heap.size + 1 + 1 := by omega
  have szS3 : S < w.heap.size + 1 + 1 + 1 := by omega
  go_region
  all_goals go_wp2_with fail
  all_goals go_ret2
  all_goals refine ⟨rfl, ?_⟩
  all_goals first | omega | (simp; done) | (simp; omega) | (simp [go_sem]; done) | (repeat (first | (with_reducible apply bBoth) | (with_reducible exact Below.refl _ _) | (with_reducible apply bDrewN) | (with_reducible apply Below.drew) | ((with_reducible apply bSet); (focus first | (simp; done) | (simp; omega) | omega)) | ((with_reducible apply bAlloc); (focus first | (simp; done) | (simp; omega) | omega))))

set_option maxRecDepth 100000 in
set_option maxHeartbeats 1600000 in
theorem control_lock_many (E S a b c : Nat) (i pc nx : Int) (locks held : Int) (w : World) (hE0 : w.cell? ⟨E, 0, none⟩ = some (.int .u8 28)) (hE1 : w.cell? ⟨E, 1, none⟩ = some (.int .i64 a)) (hE2 : w.cell? ⟨E, 2, none⟩ = some (.int .i64 b)) (hE3 : w.cell? ⟨E, 3, none⟩ = some (.int .i64 c)) (hE4 : w.cell? ⟨E, 4, none⟩ = some (.int .i64 i)) (hE5 : w.cell? ⟨E, 5, none⟩ = some (.int .i64 pc)) (hE6 : w.cell? ⟨E, 6, none⟩ = some (.bool false)) (hE7 : w.cell? ⟨E, 7, none⟩ = some (.int .i64 (-1))) (hE8 : w.cell? ⟨E, 8, none⟩ = some (.int .i32 0)) (hE9 : w.cell? ⟨E, 9, none⟩ = some (.pointer (some ⟨S, 0, none⟩))) (hE10 : w.cell? ⟨E, 10, none⟩ = some (.int .i64 nx)) (hF6 : w.frozen? ⟨E, 6, none⟩ = false) (hF7 : w.frozen? ⟨E, 7, none⟩ = false) (hF8 : w.frozen? ⟨E, 8, none⟩ = false) (hF10 : w.frozen? ⟨E, 10, none⟩ = false)
    (hS : S < E) (hEw : E < w.heap.size) (hh : held < 0) (hl : locks ≤ i) (hr : w.cell? ⟨S, 19, none⟩ = some (.int .i64 held)) :
    Calls Tryd.prog 38 #[.pointer (some ⟨E, 0, none⟩), .int .i64 locks] w fun e w' => e = .returned (.tuple #[.nilFunc, .int .i64 12]) ∧ Below w.heap.size w w' := by
  have hmf : ∀ (fn : Fn) (first cap : Array Value) (w : World), (Instr.makeFunc fn first cap).run Tryd.prog w = .ok (.func fn first cap) w := fun _ _ _ _ => rfl
  go_enter Tryd.func38, Tryd.ntmps38
  go_wp2_with fail
  have szE0 : E < w.heap.size := by omega
  have szE1 : E < w.heap.size + 1 := by omega
  have szE2 : E < w.heap.size + 1 + 1 := by omega
  have szE3 : E < w.heap.size + 1 + 1 + 1 := by omega
  have szS0 : S < w.heap.size := by omega
  have szS1 : S < w.heap.size + 1 := by omega
  have szS2 : S < w.heap.size + 1 + 1 := by omega
  have szS3 : S < w.heap.size + 1 + 1 + 1 := by omega
  go_region
  all_goals go_wp2_with fail
  all_goals go_ret2
  all_goals refine ⟨rfl, ?_⟩
  all_goals first | omega | (simp; done) | (simp; omega) | (simp [go_sem]; done) | (repeat (first | (with_reducible apply bBoth) | (with_reducible exact Below.refl _ _) | (with_reducible apply bDrewN) | (with_reducible apply Below.drew) | ((with_reducible apply bSet); (focus first | (simp; done) | (simp; omega) | omega)) | ((with_reducible apply bAlloc); (focus first | (simp; done) | (simp; omega) | omega))))

set_option maxRecDepth 100000 in
set_option maxHeartbeats 1600000 in
theorem control_unlock_ok (E S a b c : Nat) (i pc nx : Int) (locks : Int) (w : World) (hE0 : w.cell? ⟨E, 0, none⟩ = some (.int .u8 29)) (hE1 : w.cell? ⟨E, 1, none⟩ = some (.int .i64 a)) (hE2 : w.cell? ⟨E, 2, none⟩ = some (.int .i64 b)) (hE3 : w.cell? ⟨E, 3, none⟩ = some (.int .i64 c)) (hE4 : w.cell? ⟨E, 4, none⟩ = some (.int .i64 i)) (hE5 : w.cell? ⟨E, 5, none⟩ = some (.int .i64 pc)) (hE6 : w.cell? ⟨E, 6, none⟩ = some (.bool false)) (hE7 : w.cell? ⟨E, 7, none⟩ = some (.int .i64 (-1))) (hE8 : w.cell? ⟨E, 8, none⟩ = some (.int .i32 0)) (hE9 : w.cell? ⟨E, 9, none⟩ = some (.pointer (some ⟨S, 0, none⟩))) (hE10 : w.cell? ⟨E, 10, none⟩ = some (.int .i64 nx)) (hF6 : w.frozen? ⟨E, 6, none⟩ = false) (hF7 : w.frozen? ⟨E, 7, none⟩ = false) (hF8 : w.frozen? ⟨E, 8, none⟩ = false) (hF10 : w.frozen? ⟨E, 10, none⟩ = false)
    (hS : S < E) (hEw : E < w.heap.size)  (hr : w.cell? ⟨S, 19, none⟩ = some (.int .i64 i)) :
    Calls Tryd.prog 38 #[.pointer (some ⟨E, 0, none⟩), .int .i64 locks] w fun e w' => ∃ S2, e = .returned (.tuple #[.func (.func 47) #[] #[.pointer (some ⟨S2, 0, none⟩)], .int .i64 0]) ∧ w'.cell? ⟨S2, 0, none⟩ = some (.pointer (some ⟨S, 0, none⟩)) ∧ Below w.heap.size w w' := by
  have hmf : ∀ (fn : Fn) (first cap : Array Value) (w : World), (Instr.makeFunc fn first cap).run Tryd.prog w = .ok (.func fn first cap) w := fun _ _ _ _ => rfl
  go_enter Tryd.func38, Tryd.ntmps38
  go_wp2_with fail
  have szE0 : E < w.heap.size := by omega
  have szE1 : E < w.heap.size + 1 := by omega
  have szE2 : E < w.heap.size + 1 + 1 := by omega
  have szE3 : E < w.heap.size + 1 + 1 + 1 := by omega
  have szS0 : S < w.heap.size := by omega
  have szS1 : S < w.heap.size + 1 := by omega
  have szS2 : S < w.heap.size + 1 + 1 := by omega
  have szS3 : S < w.heap.size + 1 + 1 + 1 := by omega
  go_region
  all_goals go_wp2_with fail
  all_goals go_quiet (fail)
  all_goals go_wp2_with fail
  all_goals go_ret2
  all_goals refine ⟨_, rfl, ?_, ?_⟩
  all_goals first | omega | (simp; done) | (simp; omega) | (simp [go_sem]; done) | (repeat (first | (with_reducible apply bBoth) | (with_reducible exact Below.refl _ _) | (with_reducible apply bDrewN) | (with_reducible apply Below.drew) | ((with_reducible apply bSet); (focus first | (simp; done) | (simp; omega) | omega)) | ((with_reducible apply bAlloc); (focus first | (simp; done) | (simp; omega) | omega))))

set_option maxRecDepth 100000 in
set_option maxHeartbeats 1600000 in
theorem control_unlock_bad (E S a b c : Nat) (i pc nx : Int) (locks held : Int) (w : World) (hE0 : w.cell? ⟨E, 0, none⟩ = some (.int .u8 29)) (hE1 : w.cell? ⟨E, 1, none⟩ = some (.int .i64 a)) (hE2 : w.cell? ⟨E, 2, none⟩ = some (.int .i64 b)) (hE3 : w.cell? ⟨E, 3, none⟩ = some (.int .i64 c)) (hE4 : w.cell? ⟨E, 4, none⟩ = some (.int .i64 i)) (hE5 : w.cell? ⟨E, 5, none⟩ = some (.int .i64 pc)) (hE6 : w.cell? ⟨E, 6, none⟩ = some (.bool false)) (hE7 : w.cell? ⟨E, 7, none⟩ = some (.int .i64 (-1))) (hE8 : w.cell? ⟨E, 8, none⟩ = some (.int .i32 0)) (hE9 : w.cell? ⟨E, 9, none⟩ = some (.pointer (some ⟨S, 0, none⟩))) (hE10 : w.cell? ⟨E, 10, none⟩ = some (.int .i64 nx)) (hF6 : w.frozen? ⟨E, 6, none⟩ = false) (hF7 : w.frozen? ⟨E, 7, none⟩ = false) (hF8 : w.frozen? ⟨E, 8, none⟩ = false) (hF10 : w.frozen? ⟨E, 10, none⟩ = false)
    (hS : S < E) (hEw : E < w.heap.size) (hh : (held == i) = false) (hr : w.cell? ⟨S, 19, none⟩ = some (.int .i64 held)) :
    Calls Tryd.prog 38 #[.pointer (some ⟨E, 0, none⟩), .int .i64 locks] w fun e w' => e = .returned (.tuple #[.nilFunc, .int .i64 12]) ∧ Below w.heap.size w w' := by
  have hmf : ∀ (fn : Fn) (first cap : Array Value) (w : World), (Instr.makeFunc fn first cap).run Tryd.prog w = .ok (.func fn first cap) w := fun _ _ _ _ => rfl
  go_enter Tryd.func38, Tryd.ntmps38
  go_wp2_with fail
  have szE0 : E < w.heap.size := by omega
  have szE1 : E < w.heap.size + 1 := by omega
  have szE2 : E < w.heap.size + 1 + 1 := by omega
  have szE3 : E < w.heap.size + 1 + 1 + 1 := by omega
  have szS0 : S < w.heap.size := by omega
  have szS1 : S < w.heap.size + 1 := by omega
  have szS2 : S < w.heap.size + 1 + 1 := by omega
  have szS3 : S < w.heap.size + 1 + 1 + 1 := by omega
  go_region
  all_goals go_wp2_with fail
  all_goals go_quiet (fail)
  all_goals go_wp2_with fail
  all_goals go_ret2
  all_goals refine ⟨rfl, ?_⟩
  all_goals first | omega | (simp; done) | (simp; omega) | (simp [go_sem]; done) | (repeat (first | (with_reducible apply bBoth) | (with_reducible exact Below.refl _ _) | (with_reducible apply bDrewN) | (with_reducible apply Below.drew) | ((with_reducible apply bSet); (focus first | (simp; done) | (simp; omega) | omega)) | ((with_reducible apply bAlloc); (focus first | (simp; done) | (simp; omega) | omega))))

set_option maxRecDepth 100000 in
set_option maxHeartbeats 1600000 in
theorem control_halt_ok (E S a b c : Nat) (i pc nx : Int) (locks held : Int) (w : World) (hE0 : w.cell? ⟨E, 0, none⟩ = some (.int .u8 1)) (hE1 : w.cell? ⟨E, 1, none⟩ = some (.int .i64 a)) (hE2 : w.cell? ⟨E, 2, none⟩ = some (.int .i64 b)) (hE3 : w.cell? ⟨E, 3, none⟩ = some (.int .i64 c)) (hE4 : w.cell? ⟨E, 4, none⟩ = some (.int .i64 i)) (hE5 : w.cell? ⟨E, 5, none⟩ = some (.int .i64 pc)) (hE6 : w.cell? ⟨E, 6, none⟩ = some (.bool false)) (hE7 : w.cell? ⟨E, 7, none⟩ = some (.int .i64 (-1))) (hE8 : w.cell? ⟨E, 8, none⟩ = some (.int .i32 0)) (hE9 : w.cell? ⟨E, 9, none⟩ = some (.pointer (some ⟨S, 0, none⟩))) (hE10 : w.cell? ⟨E, 10, none⟩ = some (.int .i64 nx)) (hF6 : w.frozen? ⟨E, 6, none⟩ = false) (hF7 : w.frozen? ⟨E, 7, none⟩ = false) (hF8 : w.frozen? ⟨E, 8, none⟩ = false) (hF10 : w.frozen? ⟨E, 10, none⟩ = false)
    (hS : S < E) (hEw : E < w.heap.size) (hh : held < 0) (hr : w.cell? ⟨S, 19, none⟩ = some (.int .i64 held)) :
    Calls Tryd.prog 38 #[.pointer (some ⟨E, 0, none⟩), .int .i64 locks] w fun e w' => ∃ S2, e = .returned (.tuple #[.func (.func 48) #[] #[.pointer (some ⟨S2, 0, none⟩)], .int .i64 0]) ∧ w'.cell? ⟨S2, 0, none⟩ = some (.pointer (some ⟨S, 0, none⟩)) ∧ Below w.heap.size (w.setCell ⟨E, 10, none⟩ (.int .i64 pc)) w' := by
  have hmf : ∀ (fn : Fn) (first cap : Array Value) (w : World), (Instr.makeFunc fn first cap).run Tryd.prog w = .ok (.func fn first cap) w := fun _ _ _ _ => rfl
  go_enter Tryd.func38, Tryd.ntmps38
  go_wp2_with fail
  have szE0 : E < w.heap.size := by omega
  have szE1 : E < w.heap.size + 1 := by omega
  have szE2 : E < w.heap.size + 1 + 1 := by omega
  have szE3 : E < w.heap.size + 1 + 1 + 1 := by omega
  have szS0 : S < w.heap.size := by omega
  have szS1 : S < w.heap.size + 1 := by omega
  have szS2 : S < w.heap.size + 1 + 1 := by omega
  have szS3 : S < w.heap.size + 1 + 1 + 1 := by omega
  go_region
  all_goals go_wp2_with fail
  all_goals go_ret2
  all_goals refine ⟨_, rfl, ?_, ?_⟩
  all_goals first | omega | (simp; done) | (simp; omega) | (simp [go_sem]; done) | (repeat (first | (with_reducible apply bBoth) | (with_reducible exact Below.refl _ _) | (with_reducible apply bDrewN) | (with_reducible apply Below.drew) | ((with_reducible apply bSet); (focus first | (simp; done) | (simp; omega) | omega)) | ((with_reducible apply bAlloc); (focus first | (simp; done) | (simp; omega) | omega))))

set_option maxRecDepth 100000 in
set_option maxHeartbeats 1600000 in
theorem control_halt_bad (E S a b c : Nat) (i pc nx : Int) (locks held : Int) (w : World) (hE0 : w.cell? ⟨E, 0, none⟩ = some (.int .u8 1)) (hE1 : w.cell? ⟨E, 1, none⟩ = some (.int .i64 a)) (hE2 : w.cell? ⟨E, 2, none⟩ = some (.int .i64 b)) (hE3 : w.cell? ⟨E, 3, none⟩ = some (.int .i64 c)) (hE4 : w.cell? ⟨E, 4, none⟩ = some (.int .i64 i)) (hE5 : w.cell? ⟨E, 5, none⟩ = some (.int .i64 pc)) (hE6 : w.cell? ⟨E, 6, none⟩ = some (.bool false)) (hE7 : w.cell? ⟨E, 7, none⟩ = some (.int .i64 (-1))) (hE8 : w.cell? ⟨E, 8, none⟩ = some (.int .i32 0)) (hE9 : w.cell? ⟨E, 9, none⟩ = some (.pointer (some ⟨S, 0, none⟩))) (hE10 : w.cell? ⟨E, 10, none⟩ = some (.int .i64 nx)) (hF6 : w.frozen? ⟨E, 6, none⟩ = false) (hF7 : w.frozen? ⟨E, 7, none⟩ = false) (hF8 : w.frozen? ⟨E, 8, none⟩ = false) (hF10 : w.frozen? ⟨E, 10, none⟩ = false)
    (hS : S < E) (hEw : E < w.heap.size) (hh : 0 ≤ held) (hr : w.cell? ⟨S, 19, none⟩ = some (.int .i64 held)) :
    Calls Tryd.prog 38 #[.pointer (some ⟨E, 0, none⟩), .int .i64 locks] w fun e w' => e = .returned (.tuple #[.nilFunc, .int .i64 12]) ∧ Below w.heap.size w w' := by
  have hmf : ∀ (fn : Fn) (first cap : Array Value) (w : World), (Instr.makeFunc fn first cap).run Tryd.prog w = .ok (.func fn first cap) w := fun _ _ _ _ => rfl
  go_enter Tryd.func38, Tryd.ntmps38
  go_wp2_with fail
  have szE0 : E < w.heap.size := by omega
  have szE1 : E < w.heap.size + 1 := by omega
  have szE2 : E < w.heap.size + 1 + 1 := by omega
  have szE3 : E < w.heap.size + 1 + 1 + 1 := by omega
  have szS0 : S < w.heap.size := by omega
  have szS1 : S < w.heap.size + 1 := by omega
  have szS2 : S < w.heap.size + 1 + 1 := by omega
  have szS3 : S < w.heap.size + 1 + 1 + 1 := by omega
  go_region
  all_goals go_wp2_with fail
  all_goals go_ret2
  all_goals refine ⟨rfl, ?_⟩
  all_goals first | omega | (simp; done) | (simp; omega) | (simp [go_sem]; done) | (repeat (first | (with_reducible apply bBoth) | (with_reducible exact Below.refl _ _) | (with_reducible apply bDrewN) | (with_reducible apply Below.drew) | ((with_reducible apply bSet); (focus first | (simp; done) | (simp; omega) | omega)) | ((with_reducible apply bAlloc); (focus first | (simp; done) | (simp; omega) | omega))))

end Go.Proofs.YtpachmkklppmjaaDoor
