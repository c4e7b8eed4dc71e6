/- core: prepare (branches, bound, out, lock, unlock, halt). -/
import Derived.Test.YtpachmkklppmjaaDoorCorC
import Derived.Test.YtpachmkklppmjaaDoorCorD
import Derived.Shelf.Abstract
import Derived.Test.YtpachmkklppmjaaDoorCorE
set_option linter.unusedVariables false
set_option linter.unusedSimpArgs false
namespace Go.Proofs.YtpachmkklppmjaaDoor
open Go.RowKit

set_option maxRecDepth 100000 in
set_option maxHeartbeats 1600000 in
theorem prep_beqz_t (E S a b c : Nat) (i pc nx locks va vb vc : Int) (mv pv : Value) (w : World) (hE0 : w.cell? ⟨E, 0, none⟩ = some (.int .u8 22)) (hE1 : w.cell? ⟨E, 1, none⟩ = some (.int .i64 a)) (hE2 : w.cell? ⟨E, 2, none⟩ = some (.int .i64 b)) (hE3 : w.cell? ⟨E, 3, none⟩ = some (.int .i64 c)) (hE4 : w.cell? ⟨E, 4, none⟩ = some (.int .i64 i)) (hE5 : w.cell? ⟨E, 5, none⟩ = some (.int .i64 pc)) (hE6 : w.cell? ⟨E, 6, none⟩ = some (.bool false)) (hE7 : w.cell? ⟨E, 7, none⟩ = some (.int .i64 (-1))) (hE8 : w.cell? ⟨E, 8, none⟩ = some (.int .i32 0)) (hE9 : w.cell? ⟨E, 9, none⟩ = some (.pointer (some ⟨S, 0, none⟩))) (hE10 : w.cell? ⟨E, 10, none⟩ = some (.int .i64 nx)) (hF6 : w.frozen? ⟨E, 6, none⟩ = false) (hF7 : w.frozen? ⟨E, 7, none⟩ = false) (hF8 : w.frozen? ⟨E, 8, none⟩ = false) (hF10 : w.frozen? ⟨E, 10, none⟩ = false)
    (hS : S < E) (hEw : E < w.heap.size) (ha : a < 16) (hi : -131072 ≤ i) (hi1 : i ≤ 131071) (hp : 0 ≤ pc) (hp1 : pc ≤ 140737488351232) (hrA : w.cell? ⟨S, 1 + a, none⟩ = some (.int .i32 0)) :
    Calls Tryd.prog 28 #[.pointer (some ⟨E, 0, none⟩), .int .i64 locks, mv, pv] w (PrepOk w ((w.setCell ⟨E, 6, none⟩ (.bool true)).setCell ⟨E, 10, none⟩ (.int .i64 (pc + 1 + i))) ((w.setCell ⟨E, 6, none⟩ (.bool true)).setCell ⟨E, 10, none⟩ (.int .i64 (pc + 1 + i))) (0)) := by
  have hmf : ∀ (fn : Fn) (first cap : Array Value) (w : World), (Instr.makeFunc fn first cap).run Tryd.prog w = .ok (.func fn first cap) w := fun _ _ _ _ => rfl
  have hE0w : E < w.heap.size + 1 := by omega
  have hS0w : S < w.heap.size := by omega
  have hS1w : S < w.heap.size + 1 := by omega
  go_enter Tryd.func28, Tryd.ntmps28
  go_wp2_with fail
  go_region
  all_goals have g0 : (w.alloc (.cells #[.int .u8 22, .int .i64 a, .int .i64 b, .int .i64 c, .int .i64 i] 51)).drew.cell? ⟨E, 0, none⟩ = some (.int .u8 22) := by simp [go_sem, *]
  all_goals have g1 : (w.alloc (.cells #[.int .u8 22, .int .i64 a, .int .i64 b, .int .i64 c, .int .i64 i] 51)).drew.cell? ⟨E, 1, none⟩ = some (.int .i64 a) := by simp [go_sem, *]
  all_goals have g2 : (w.alloc (.cells #[.int .u8 22, .int .i64 a, .int .i64 b, .int .i64 c, .int .i64 i] 51)).drew.cell? ⟨E, 2, none⟩ = some (.int .i64 b) := by simp [go_sem, *]
  all_goals have g3 : (w.alloc (.cells #[.int .u8 22, .int .i64 a, .int .i64 b, .int .i64 c, .int .i64 i] 51)).drew.cell? ⟨E, 3, none⟩ = some (.int .i64 c) := by simp [go_sem, *]
  all_goals have g4 : (w.alloc (.cells #[.int .u8 22, .int .i64 a, .int .i64 b, .int .i64 c, .int .i64 i] 51)).drew.cell? ⟨E, 4, none⟩ = some (.int .i64 i) := by simp [go_sem, *]
  all_goals have g5 : (w.alloc (.cells #[.int .u8 22, .int .i64 a, .int .i64 b, .int .i64 c, .int .i64 i] 51)).drew.cell? ⟨E, 5, none⟩ = some (.int .i64 pc) := by simp [go_sem, *]
  all_goals have g6 : (w.alloc (.cells #[.int .u8 22, .int .i64 a, .int .i64 b, .int .i64 c, .int .i64 i] 51)).drew.cell? ⟨E, 6, none⟩ = some (.bool false) := by simp [go_sem, *]
  all_goals have g7 : (w.alloc (.cells #[.int .u8 22, .int .i64 a, .int .i64 b, .int .i64 c, .int .i64 i] 51)).drew.cell? ⟨E, 7, none⟩ = some (.int .i64 (-1)) := by simp [go_sem, *]
  all_goals have g8 : (w.alloc (.cells #[.int .u8 22, .int .i64 a, .int .i64 b, .int .i64 c, .int .i64 i] 51)).drew.cell? ⟨E, 8, none⟩ = some (.int .i32 0) := by simp [go_sem, *]
  all_goals have g9 : (w.alloc (.cells #[.int .u8 22, .int .i64 a, .int .i64 b, .int .i64 c, .int .i64 i] 51)).drew.cell? ⟨E, 9, none⟩ = some (.pointer (some ⟨S, 0, none⟩)) := by simp [go_sem, *]
  all_goals have g10 : (w.alloc (.cells #[.int .u8 22, .int .i64 a, .int .i64 b, .int .i64 c, .int .i64 i] 51)).drew.cell? ⟨E, 10, none⟩ = some (.int .i64 nx) := by simp [go_sem, *]
  all_goals have gf6 : (w.alloc (.cells #[.int .u8 22, .int .i64 a, .int .i64 b, .int .i64 c, .int .i64 i] 51)).drew.frozen? ⟨E, 6, none⟩ = false := by simp [go_sem, *]
  all_goals have gf7 : (w.alloc (.cells #[.int .u8 22, .int .i64 a, .int .i64 b, .int .i64 c, .int .i64 i] 51)).drew.frozen? ⟨E, 7, none⟩ = false := by simp [go_sem, *]
  all_goals have gf8 : (w.alloc (.cells #[.int .u8 22, .int .i64 a, .int .i64 b, .int .i64 c, .int .i64 i] 51)).drew.frozen? ⟨E, 8, none⟩ = false := by simp [go_sem, *]
  all_goals have gf10 : (w.alloc (.cells #[.int .u8 22, .int .i64 a, .int .i64 b, .int .i64 c, .int .i64 i] 51)).drew.frozen? ⟨E, 10, none⟩ = false := by simp [go_sem, *]
  all_goals have gA : (w.alloc (.cells #[.int .u8 22, .int .i64 a, .int .i64 b, .int .i64 c, .int .i64 i] 51)).drew.cell? ⟨S, 1 + a, none⟩ = some (.int .i32 0) := by simp [go_sem, *]
  all_goals go_wp2_with fail
  all_goals refine (branch_beqz_t E S a b c i pc nx va _ g0 g1 g2 g3 g4 g5 g6 g7 g8 g9 g10 gf6 gf7 gf8 gf10 hS (by simp; omega) ha hi hi1 hp hp1 gA).mono ?_
  all_goals rintro e w' ⟨rfl, hbl⟩
  all_goals have hbl2 : Below w.heap.size ((w.setCell ⟨E, 6, none⟩ (.bool true)).setCell ⟨E, 10, none⟩ (.int .i64 (pc + 1 + i))) w' := by (refine Below.trans ?_ (hbl.mono (by simp)); repeat (first | (with_reducible apply bBoth) | (with_reducible exact Below.refl _ _) | (with_reducible apply bDrewN) | (with_reducible apply Below.drew) | ((with_reducible apply bSet); (focus first | (simp; done) | (simp; omega) | omega)) | ((with_reducible apply bAlloc); (focus first | (simp; done) | (simp; omega) | omega))))
  all_goals clear hbl g0 g1 g2 g3 g4 g5 g6 g7 g8 g9 g10 gf6 gf7 gf8 gf10 gA
  all_goals go_wp2_with fail
  all_goals go_ret2
  all_goals exact prep_nothing rfl hbl2

set_option maxRecDepth 100000 in
set_option maxHeartbeats 1600000 in
theorem prep_beqz_f (E S a b c : Nat) (i pc nx locks va vb vc : Int) (mv pv : Value) (w : World) (hE0 : w.cell? ⟨E, 0, none⟩ = some (.int .u8 22)) (hE1 : w.cell? ⟨E, 1, none⟩ = some (.int .i64 a)) (hE2 : w.cell? ⟨E, 2, none⟩ = some (.int .i64 b)) (hE3 : w.cell? ⟨E, 3, none⟩ = some (.int .i64 c)) (hE4 : w.cell? ⟨E, 4, none⟩ = some (.int .i64 i)) (hE5 : w.cell? ⟨E, 5, none⟩ = some (.int .i64 pc)) (hE6 : w.cell? ⟨E, 6, none⟩ = some (.bool false)) (hE7 : w.cell? ⟨E, 7, none⟩ = some (.int .i64 (-1))) (hE8 : w.cell? ⟨E, 8, none⟩ = some (.int .i32 0)) (hE9 : w.cell? ⟨E, 9, none⟩ = some (.pointer (some ⟨S, 0, none⟩))) (hE10 : w.cell? ⟨E, 10, none⟩ = some (.int .i64 nx)) (hF6 : w.frozen? ⟨E, 6, none⟩ = false) (hF7 : w.frozen? ⟨E, 7, none⟩ = false) (hF8 : w.frozen? ⟨E, 8, none⟩ = false) (hF10 : w.frozen? ⟨E, 10, none⟩ = false)
    (hS : S < E) (hEw : E < w.heap.size) (ha : a < 16) (hi : -131072 ≤ i) (hi1 : i ≤ 131071) (hp : 0 ≤ pc) (hp1 : pc ≤ 140737488351232) (hz : (va == 0) = false) (hrA : w.cell? ⟨S, 1 + a, none⟩ = some (.int .i32 va)) :
    Calls Tryd.prog 28 #[.pointer (some ⟨E, 0, none⟩), .int .i64 locks, mv, pv] w (PrepOk w (w.setCell ⟨E, 6, none⟩ (.bool false)) (w.setCell ⟨E, 6, none⟩ (.bool false)) (0)) := by
  have hmf : ∀ (fn : Fn) (first cap : Array Value) (w : World), (Instr.makeFunc fn first cap).run Tryd.prog w = .ok (.func fn first cap) w := fun _ _ _ _ => rfl
  have hE0w : E < w.heap.size + 1 := by omega
  have hS0w : S < w.heap.size := by omega
  have hS1w : S < w.heap.size + 1 := by omega
  go_enter Tryd.func28, Tryd.ntmps28
  go_wp2_with fail
  go_region
  all_goals have g0 : (w.alloc (.cells #[.int .u8 22, .int .i64 a, .int .i64 b, .int .i64 c, .int .i64 i] 51)).drew.cell? ⟨E, 0, none⟩ = some (.int .u8 22) := by simp [go_sem, *]
  all_goals have g1 : (w.alloc (.cells #[.int .u8 22, .int .i64 a, .int .i64 b, .int .i64 c, .int .i64 i] 51)).drew.cell? ⟨E, 1, none⟩ = some (.int .i64 a) := by simp [go_sem, *]
  all_goals have g2 : (w.alloc (.cells #[.int .u8 22, .int .i64 a, .int .i64 b, .int .i64 c, .int .i64 i] 51)).drew.cell? ⟨E, 2, none⟩ = some (.int .i64 b) := by simp [go_sem, *]
  all_goals have g3 : (w.alloc (.cells #[.int .u8 22, .int .i64 a, .int .i64 b, .int .i64 c, .int .i64 i] 51)).drew.cell? ⟨E, 3, none⟩ = some (.int .i64 c) := by simp [go_sem, *]
  all_goals have g4 : (w.alloc (.cells #[.int .u8 22, .int .i64 a, .int .i64 b, .int .i64 c, .int .i64 i] 51)).drew.cell? ⟨E, 4, none⟩ = some (.int .i64 i) := by simp [go_sem, *]
  all_goals have g5 : (w.alloc (.cells #[.int .u8 22, .int .i64 a, .int .i64 b, .int .i64 c, .int .i64 i] 51)).drew.cell? ⟨E, 5, none⟩ = some (.int .i64 pc) := by simp [go_sem, *]
  all_goals have g6 : (w.alloc (.cells #[.int .u8 22, .int .i64 a, .int .i64 b, .int .i64 c, .int .i64 i] 51)).drew.cell? ⟨E, 6, none⟩ = some (.bool false) := by simp [go_sem, *]
  all_goals have g7 : (w.alloc (.cells #[.int .u8 22, .int .i64 a, .int .i64 b, .int .i64 c, .int .i64 i] 51)).drew.cell? ⟨E, 7, none⟩ = some (.int .i64 (-1)) := by simp [go_sem, *]
  all_goals have g8 : (w.alloc (.cells #[.int .u8 22, .int .i64 a, .int .i64 b, .int .i64 c, .int .i64 i] 51)).drew.cell? ⟨E, 8, none⟩ = some (.int .i32 0) := by simp [go_sem, *]
  all_goals have g9 : (w.alloc (.cells #[.int .u8 22, .int .i64 a, .int .i64 b, .int .i64 c, .int .i64 i] 51)).drew.cell? ⟨E, 9, none⟩ = some (.pointer (some ⟨S, 0, none⟩)) := by simp [go_sem, *]
  all_goals have g10 : (w.alloc (.cells #[.int .u8 22, .int .i64 a, .int .i64 b, .int .i64 c, .int .i64 i] 51)).drew.cell? ⟨E, 10, none⟩ = some (.int .i64 nx) := by simp [go_sem, *]
  all_goals have gf6 : (w.alloc (.cells #[.int .u8 22, .int .i64 a, .int .i64 b, .int .i64 c, .int .i64 i] 51)).drew.frozen? ⟨E, 6, none⟩ = false := by simp [go_sem, *]
  all_goals have gf7 : (w.alloc (.cells #[.int .u8 22, .int .i64 a, .int .i64 b, .int .i64 c, .int .i64 i] 51)).drew.frozen? ⟨E, 7, none⟩ = false := by simp [go_sem, *]
  all_goals have gf8 : (w.alloc (.cells #[.int .u8 22, .int .i64 a, .int .i64 b, .int .i64 c, .int .i64 i] 51)).drew.frozen? ⟨E, 8, none⟩ = false := by simp [go_sem, *]
  all_goals have gf10 : (w.alloc (.cells #[.int .u8 22, .int .i64 a, .int .i64 b, .int .i64 c, .int .i64 i] 51)).drew.frozen? ⟨E, 10, none⟩ = false := by simp [go_sem, *]
  all_goals have gA : (w.alloc (.cells #[.int .u8 22, .int .i64 a, .int .i64 b, .int .i64 c, .int .i64 i] 51)).drew.cell? ⟨S, 1 + a, none⟩ = some (.int .i32 va) := by simp [go_sem, *]
  all_goals go_wp2_with fail
  all_goals refine (branch_beqz_f E S a b c i pc nx va _ g0 g1 g2 g3 g4 g5 g6 g7 g8 g9 g10 gf6 gf7 gf8 gf10 hS (by simp; omega) ha hi hi1 hp hp1 hz gA).mono ?_
  all_goals rintro e w' ⟨rfl, hbl⟩
  all_goals have hbl2 : Below w.heap.size (w.setCell ⟨E, 6, none⟩ (.bool false)) w' := by (refine Below.trans ?_ (hbl.mono (by simp)); repeat (first | (with_reducible apply bBoth) | (with_reducible exact Below.refl _ _) | (with_reducible apply bDrewN) | (with_reducible apply Below.drew) | ((with_reducible apply bSet); (focus first | (simp; done) | (simp; omega) | omega)) | ((with_reducible apply bAlloc); (focus first | (simp; done) | (simp; omega) | omega))))
  all_goals clear hbl g0 g1 g2 g3 g4 g5 g6 g7 g8 g9 g10 gf6 gf7 gf8 gf10 gA
  all_goals go_wp2_with fail
  all_goals go_ret2
  all_goals exact prep_nothing rfl hbl2

set_option maxRecDepth 100000 in
set_option maxHeartbeats 1600000 in
theorem prep_bnez_f (E S a b c : Nat) (i pc nx locks va vb vc : Int) (mv pv : Value) (w : World) (hE0 : w.cell? ⟨E, 0, none⟩ = some (.int .u8 23)) (hE1 : w.cell? ⟨E, 1, none⟩ = some (.int .i64 a)) (hE2 : w.cell? ⟨E, 2, none⟩ = some (.int .i64 b)) (hE3 : w.cell? ⟨E, 3, none⟩ = some (.int .i64 c)) (hE4 : w.cell? ⟨E, 4, none⟩ = some (.int .i64 i)) (hE5 : w.cell? ⟨E, 5, none⟩ = some (.int .i64 pc)) (hE6 : w.cell? ⟨E, 6, none⟩ = some (.bool false)) (hE7 : w.cell? ⟨E, 7, none⟩ = some (.int .i64 (-1))) (hE8 : w.cell? ⟨E, 8, none⟩ = some (.int .i32 0)) (hE9 : w.cell? ⟨E, 9, none⟩ = some (.pointer (some ⟨S, 0, none⟩))) (hE10 : w.cell? ⟨E, 10, none⟩ = some (.int .i64 nx)) (hF6 : w.frozen? ⟨E, 6, none⟩ = false) (hF7 : w.frozen? ⟨E, 7, none⟩ = false) (hF8 : w.frozen? ⟨E, 8, none⟩ = false) (hF10 : w.frozen? ⟨E, 10, none⟩ = false)
    (hS : S < E) (hEw : E < w.heap.size) (ha : a < 16) (hi : -131072 ≤ i) (hi1 : i ≤ 131071) (hp : 0 ≤ pc) (hp1 : pc ≤ 140737488351232) (hrA : w.cell? ⟨S, 1 + a, none⟩ = some (.int .i32 0)) :
    Calls Tryd.prog 28 #[.pointer (some ⟨E, 0, none⟩), .int .i64 locks, mv, pv] w (PrepOk w (w.setCell ⟨E, 6, none⟩ (.bool false)) (w.setCell ⟨E, 6, none⟩ (.bool false)) (0)) := by
  have hmf : ∀ (fn : Fn) (first cap : Array Value) (w : World), (Instr.makeFunc fn first cap).run Tryd.prog w = .ok (.func fn first cap) w := fun _ _ _ _ => rfl
  have hE0w : E < w.heap.size + 1 := by omega
  have hS0w : S < w.heap.size := by omega
  have hS1w : S < w.heap.size + 1 := by omega
  go_enter Tryd.func28, Tryd.ntmps28
  go_wp2_with fail
  go_region
  all_goals have g0 : (w.alloc (.cells #[.int .u8 23, .int .i64 a, .int .i64 b, .int .i64 c, .int .i64 i] 51)).drew.cell? ⟨E, 0, none⟩ = some (.int .u8 23) := by simp [go_sem, *]
  all_goals have g1 : (w.alloc (.cells #[.int .u8 23, .int .i64 a, .int .i64 b, .int .i64 c, .int .i64 i] 51)).drew.cell? ⟨E, 1, none⟩ = some (.int .i64 a) := by simp [go_sem, *]
  all_goals have g2 : (w.alloc (.cells #[.int .u8 23, .int .i64 a, .int .i64 b, .int .i64 c, .int .i64 i] 51)).drew.cell? ⟨E, 2, none⟩ = some (.int .i64 b) := by simp [go_sem, *]
  all_goals have g3 : (w.alloc (.cells #[.int .u8 23, .int .i64 a, .int .i64 b, .int .i64 c, .int .i64 i] 51)).drew.cell? ⟨E, 3, none⟩ = some (.int .i64 c) := by simp [go_sem, *]
  all_goals have g4 : (w.alloc (.cells #[.int .u8 23, .int .i64 a, .int .i64 b, .int .i64 c, .int .i64 i] 51)).drew.cell? ⟨E, 4, none⟩ = some (.int .i64 i) := by simp [go_sem, *]
  all_goals have g5 : (w.alloc (.cells #[.int .u8 23, .int .i64 a, .int .i64 b, .int .i64 c, .int .i64 i] 51)).drew.cell? ⟨E, 5, none⟩ = some (.int .i64 pc) := by simp [go_sem, *]
  all_goals have g6 : (w.alloc (.cells #[.int .u8 23, .int .i64 a, .int .i64 b, .int .i64 c, .int .i64 i] 51)).drew.cell? ⟨E, 6, none⟩ = some (.bool false) := by simp [go_sem, *]
  all_goals have g7 : (w.alloc (.cells #[.int .u8 23, .int .i64 a, .int .i64 b, .int .i64 c, .int .i64 i] 51)).drew.cell? ⟨E, 7, none⟩ = some (.int .i64 (-1)) := by simp [go_sem, *]
  all_goals have g8 : (w.alloc (.cells #[.int .u8 23, .int .i64 a, .int .i64 b, .int .i64 c, .int .i64 i] 51)).drew.cell? ⟨E, 8, none⟩ = some (.int .i32 0) := by simp [go_sem, *]
  all_goals have g9 : (w.alloc (.cells #[.int .u8 23, .int .i64 a, .int .i64 b, .int .i64 c, .int .i64 i] 51)).drew.cell? ⟨E, 9, none⟩ = some (.pointer (some ⟨S, 0, none⟩)) := by simp [go_sem, *]
  all_goals have g10 : (w.alloc (.cells #[.int .u8 23, .int .i64 a, .int .i64 b, .int .i64 c, .int .i64 i] 51)).drew.cell? ⟨E, 10, none⟩ = some (.int .i64 nx) := by simp [go_sem, *]
  all_goals have gf6 : (w.alloc (.cells #[.int .u8 23, .int .i64 a, .int .i64 b, .int .i64 c, .int .i64 i] 51)).drew.frozen? ⟨E, 6, none⟩ = false := by simp [go_sem, *]
  all_goals have gf7 : (w.alloc (.cells #[.int .u8 23, .int .i64 a, .int .i64 b, .int .i64 c, .int .i64 i] 51)).drew.frozen? ⟨E, 7, none⟩ = false := by simp [go_sem, *]
  all_goals have gf8 : (w.alloc (.cells #[.int .u8 23, .int .i64 a, .int .i64 b, .int .i64 c, .int .i64 i] 51)).drew.frozen? ⟨E, 8, none⟩ = false := by simp [go_sem, *]
  all_goals have gf10 : (w.alloc (.cells #[.int .u8 23, .int .i64 a, .int .i64 b, .int .i64 c, .int .i64 i] 51)).drew.frozen? ⟨E, 10, none⟩ = false := by simp [go_sem, *]
  all_goals have gA : (w.alloc (.cells #[.int .u8 23, .int .i64 a, .int .i64 b, .int .i64 c, .int .i64 i] 51)).drew.cell? ⟨S, 1 + a, none⟩ = some (.int .i32 0) := by simp [go_sem, *]
  all_goals go_wp2_with fail
  all_goals refine (branch_bnez_f E S a b c i pc nx va _ g0 g1 g2 g3 g4 g5 g6 g7 g8 g9 g10 gf6 gf7 gf8 gf10 hS (by simp; omega) ha hi hi1 hp hp1 gA).mono ?_
  all_goals rintro e w' ⟨rfl, hbl⟩
  all_goals have hbl2 : Below w.heap.size (w.setCell ⟨E, 6, none⟩ (.bool false)) w' := by (refine Below.trans ?_ (hbl.mono (by simp)); repeat (first | (with_reducible apply bBoth) | (with_reducible exact Below.refl _ _) | (with_reducible apply bDrewN) | (with_reducible apply Below.drew) | ((with_reducible apply bSet); (focus first | (simp; done) | (simp; omega) | omega)) | ((with_reducible apply bAlloc); (focus first | (simp; done) | (simp; omega) | omega))))
  all_goals clear hbl g0 g1 g2 g3 g4 g5 g6 g7 g8 g9 g10 gf6 gf7 gf8 gf10 gA
  all_goals go_wp2_with fail
  all_goals go_ret2
  all_goals exact prep_nothing rfl hbl2

set_option maxRecDepth 100000 in
set_option maxHeartbeats 1600000 in
theorem prep_bnez_t (E S a b c : Nat) (i pc nx locks va vb vc : Int) (mv pv : Value) (w : World) (hE0 : w.cell? ⟨E, 0, none⟩ = some (.int .u8 23)) (hE1 : w.cell? ⟨E, 1, none⟩ = some (.int .i64 a)) (hE2 : w.cell? ⟨E, 2, none⟩ = some (.int .i64 b)) (hE3 : w.cell? ⟨E, 3, none⟩ = some (.int .i64 c)) (hE4 : w.cell? ⟨E, 4, none⟩ = some (.int .i64 i)) (hE5 : w.cell? ⟨E, 5, none⟩ = some (.int .i64 pc)) (hE6 : w.cell? ⟨E, 6, none⟩ = some (.bool false)) (hE7 : w.cell? ⟨E, 7, none⟩ = some (.int .i64 (-1))) (hE8 : w.cell? ⟨E, 8, none⟩ = some (.int .i32 0)) (hE9 : w.cell? ⟨E, 9, none⟩ = some (.pointer (some ⟨S, 0, none⟩))) (hE10 : w.cell? ⟨E, 10, none⟩ = some (.int .i64 nx)) (hF6 : w.frozen? ⟨E, 6, none⟩ = false) (hF7 : w.frozen? ⟨E, 7, none⟩ = false) (hF8 : w.frozen? ⟨E, 8, none⟩ = false) (hF10 : w.frozen? ⟨E, 10, none⟩ = false)
    (hS : S < E) (hEw : E < w.heap.size) (ha : a < 16) (hi : -131072 ≤ i) (hi1 : i ≤ 131071) (hp : 0 ≤ pc) (hp1 : pc ≤ 140737488351232) (hz : (va == 0) = false) (hrA : w.cell? ⟨S, 1 + a, none⟩ = some (.int .i32 va)) :
    Calls Tryd.prog 28 #[.pointer (some ⟨E, 0, none⟩), .int .i64 locks, mv, pv] w (PrepOk w ((w.setCell ⟨E, 6, none⟩ (.bool true)).setCell ⟨E, 10, none⟩ (.int .i64 (pc + 1 + i))) ((w.setCell ⟨E, 6, none⟩ (.bool true)).setCell ⟨E, 10, none⟩ (.int .i64 (pc + 1 + i))) (0)) := by
  have hmf : ∀ (fn : Fn) (first cap : Array Value) (w : World), (Instr.makeFunc fn first cap).run Tryd.prog w = .ok (.func fn first cap) w := fun _ _ _ _ => rfl
  have hE0w : E < w.heap.size + 1 := by omega
  have hS0w : S < w.heap.size := by omega
  have hS1w : S < w.heap.size + 1 := by omega
  go_enter Tryd.func28, Tryd.ntmps28
  go_wp2_with fail
  go_region
  all_goals have g0 : (w.alloc (.cells #[.int .u8 23, .int .i64 a, .int .i64 b, .int .i64 c, .int .i64 i] 51)).drew.cell? ⟨E, 0, none⟩ = some (.int .u8 23) := by simp [go_sem, *]
  all_goals have g1 : (w.alloc (.cells #[.int .u8 23, .int .i64 a, .int .i64 b, .int .i64 c, .int .i64 i] 51)).drew.cell? ⟨E, 1, none⟩ = some (.int .i64 a) := by simp [go_sem, *]
  all_goals have g2 : (w.alloc (.cells #[.int .u8 23, .int .i64 a, .int .i64 b, .int .i64 c, .int .i64 i] 51)).drew.cell? ⟨E, 2, none⟩ = some (.int .i64 b) := by simp [go_sem, *]
  all_goals have g3 : (w.alloc (.cells #[.int .u8 23, .int .i64 a, .int .i64 b, .int .i64 c, .int .i64 i] 51)).drew.cell? ⟨E, 3, none⟩ = some (.int .i64 c) := by simp [go_sem, *]
  all_goals have g4 : (w.alloc (.cells #[.int .u8 23, .int .i64 a, .int .i64 b, .int .i64 c, .int .i64 i] 51)).drew.cell? ⟨E, 4, none⟩ = some (.int .i64 i) := by simp [go_sem, *]
  all_goals have g5 : (w.alloc (.cells #[.int .u8 23, .int .i64 a, .int .i64 b, .int .i64 c, .int .i64 i] 51)).drew.cell? ⟨E, 5, none⟩ = some (.int .i64 pc) := by simp [go_sem, *]
  all_goals have g6 : (w.alloc (.cells #[.int .u8 23, .int .i64 a, .int .i64 b, .int .i64 c, .int .i64 i] 51)).drew.cell? ⟨E, 6, none⟩ = some (.bool false) := by simp [go_sem, *]
  all_goals have g7 : (w.alloc (.cells #[.int .u8 23, .int .i64 a, .int .i64 b, .int .i64 c, .int .i64 i] 51)).drew.cell? ⟨E, 7, none⟩ = some (.int .i64 (-1)) := by simp [go_sem, *]
  all_goals have g8 : (w.alloc (.cells #[.int .u8 23, .int .i64 a, .int .i64 b, .int .i64 c, .int .i64 i] 51)).drew.cell? ⟨E, 8, none⟩ = some (.int .i32 0) := by simp [go_sem, *]
  all_goals have g9 : (w.alloc (.cells #[.int .u8 23, .int .i64 a, .int .i64 b, .int .i64 c, .int .i64 i] 51)).drew.cell? ⟨E, 9, none⟩ = some (.pointer (some ⟨S, 0, none⟩)) := by simp [go_sem, *]
  all_goals have g10 : (w.alloc (.cells #[.int .u8 23, .int .i64 a, .int .i64 b, .int .i64 c, .int .i64 i] 51)).drew.cell? ⟨E, 10, none⟩ = some (.int .i64 nx) := by simp [go_sem, *]
  all_goals have gf6 : (w.alloc (.cells #[.int .u8 23, .int .i64 a, .int .i64 b, .int .i64 c, .int .i64 i] 51)).drew.frozen? ⟨E, 6, none⟩ = false := by simp [go_sem, *]
  all_goals have gf7 : (w.alloc (.cells #[.int .u8 23, .int .i64 a, .int .i64 b, .int .i64 c, .int .i64 i] 51)).drew.frozen? ⟨E, 7, none⟩ = false := by simp [go_sem, *]
  all_goals have gf8 : (w.alloc (.cells #[.int .u8 23, .int .i64 a, .int .i64 b, .int .i64 c, .int .i64 i] 51)).drew.frozen? ⟨E, 8, none⟩ = false := by simp [go_sem, *]
  all_goals have gf10 : (w.alloc (.cells #[.int .u8 23, .int .i64 a, .int .i64 b, .int .i64 c, .int .i64 i] 51)).drew.frozen? ⟨E, 10, none⟩ = false := by simp [go_sem, *]
  all_goals have gA : (w.alloc (.cells #[.int .u8 23, .int .i64 a, .int .i64 b, .int .i64 c, .int .i64 i] 51)).drew.cell? ⟨S, 1 + a, none⟩ = some (.int .i32 va) := by simp [go_sem, *]
  all_goals go_wp2_with fail
  all_goals refine (branch_bnez_t E S a b c i pc nx va _ g0 g1 g2 g3 g4 g5 g6 g7 g8 g9 g10 gf6 gf7 gf8 gf10 hS (by simp; omega) ha hi hi1 hp hp1 hz gA).mono ?_
  all_goals rintro e w' ⟨rfl, hbl⟩
  all_goals have hbl2 : Below w.heap.size ((w.setCell ⟨E, 6, none⟩ (.bool true)).setCell ⟨E, 10, none⟩ (.int .i64 (pc + 1 + i))) w' := by (refine Below.trans ?_ (hbl.mono (by simp)); repeat (first | (with_reducible apply bBoth) | (with_reducible exact Below.refl _ _) | (with_reducible apply bDrewN) | (with_reducible apply Below.drew) | ((with_reducible apply bSet); (focus first | (simp; done) | (simp; omega) | omega)) | ((with_reducible apply bAlloc); (focus first | (simp; done) | (simp; omega) | omega))))
  all_goals clear hbl g0 g1 g2 g3 g4 g5 g6 g7 g8 g9 g10 gf6 gf7 gf8 gf10 gA
  all_goals go_wp2_with fail
  all_goals go_ret2
  all_goals exact prep_nothing rfl hbl2

set_option maxRecDepth 100000 in
set_option maxHeartbeats 1600000 in
theorem prep_jmp (E S a b c : Nat) (i pc nx locks va vb vc : Int) (mv pv : Value) (w : World) (hE0 : w.cell? ⟨E, 0, none⟩ = some (.int .u8 24)) (hE1 : w.cell? ⟨E, 1, none⟩ = some (.int .i64 a)) (hE2 : w.cell? ⟨E, 2, none⟩ = some (.int .i64 b)) (hE3 : w.cell? ⟨E, 3, none⟩ = some (.int .i64 c)) (hE4 : w.cell? ⟨E, 4, none⟩ = some (.int .i64 i)) (hE5 : w.cell? ⟨E, 5, none⟩ = some (.int .i64 pc)) (hE6 : w.cell? ⟨E, 6, none⟩ = some (.bool false)) (hE7 : w.cell? ⟨E, 7, none⟩ = some (.int .i64 (-1))) (hE8 : w.cell? ⟨E, 8, none⟩ = some (.int .i32 0)) (hE9 : w.cell? ⟨E, 9, none⟩ = some (.pointer (some ⟨S, 0, none⟩))) (hE10 : w.cell? ⟨E, 10, none⟩ = some (.int .i64 nx)) (hF6 : w.frozen? ⟨E, 6, none⟩ = false) (hF7 : w.frozen? ⟨E, 7, none⟩ = false) (hF8 : w.frozen? ⟨E, 8, none⟩ = false) (hF10 : w.frozen? ⟨E, 10, none⟩ = false)
    (hS : S < E) (hEw : E < w.heap.size) (ha : a < 16) (hi : -131072 ≤ i) (hi1 : i ≤ 131071) (hp : 0 ≤ pc) (hp1 : pc ≤ 140737488351232) (hrA : w.cell? ⟨S, 1 + a, none⟩ = some (.int .i32 va)) :
    Calls Tryd.prog 28 #[.pointer (some ⟨E, 0, none⟩), .int .i64 locks, mv, pv] w (PrepOk w ((w.setCell ⟨E, 6, none⟩ (.bool true)).setCell ⟨E, 10, none⟩ (.int .i64 (pc + 1 + i))) ((w.setCell ⟨E, 6, none⟩ (.bool true)).setCell ⟨E, 10, none⟩ (.int .i64 (pc + 1 + i))) (0)) := by
  have hmf : ∀ (fn : Fn) (first cap : Array Value) (w : World), (Instr.makeFunc fn first cap).run Tryd.prog w = .ok (.func fn first cap) w := fun _ _ _ _ => rfl
  have hE0w : E < w.heap.size + 1 := by omega
  have hS0w : S < w.heap.size := by omega
  have hS1w : S < w.heap.size + 1 := by omega
  go_enter Tryd.func28, Tryd.ntmps28
  go_wp2_with fail
  go_region
  all_goals have g0 : (w.alloc (.cells #[.int .u8 24, .int .i64 a, .int .i64 b, .int .i64 c, .int .i64 i] 51)).drew.cell? ⟨E, 0, none⟩ = some (.int .u8 24) := by simp [go_sem, *]
  all_goals have g1 : (w.alloc (.cells #[.int .u8 24, .int .i64 a, .int .i64 b, .int .i64 c, .int .i64 i] 51)).drew.cell? ⟨E, 1, none⟩ = some (.int .i64 a) := by simp [go_sem, *]
  all_goals have g2 : (w.alloc (.cells #[.int .u8 24, .int .i64 a, .int .i64 b, .int .i64 c, .int .i64 i] 51)).drew.cell? ⟨E, 2, none⟩ = some (.int .i64 b) := by simp [go_sem, *]
  all_goals have g3 : (w.alloc (.cells #[.int .u8 24, .int .i64 a, .int .i64 b, .int .i64 c, .int .i64 i] 51)).drew.cell? ⟨E, 3, none⟩ = some (.int .i64 c) := by simp [go_sem, *]
  all_goals have g4 : (w.alloc (.cells #[.int .u8 24, .int .i64 a, .int .i64 b, .int .i64 c, .int .i64 i] 51)).drew.cell? ⟨E, 4, none⟩ = some (.int .i64 i) := by simp [go_sem, *]
  all_goals have g5 : (w.alloc (.cells #[.int .u8 24, .int .i64 a, .int .i64 b, .int .i64 c, .int .i64 i] 51)).drew.cell? ⟨E, 5, none⟩ = some (.int .i64 pc) := by simp [go_sem, *]
  all_goals have g6 : (w.alloc (.cells #[.int .u8 24, .int .i64 a, .int .i64 b, .int .i64 c, .int .i64 i] 51)).drew.cell? ⟨E, 6, none⟩ = some (.bool false) := by simp [go_sem, *]
  all_goals have g7 : (w.alloc (.cells #[.int .u8 24, .int .i64 a, .int .i64 b, .int .i64 c, .int .i64 i] 51)).drew.cell? ⟨E, 7, none⟩ = some (.int .i64 (-1)) := by simp [go_sem, *]
  all_goals have g8 : (w.alloc (.cells #[.int .u8 24, .int .i64 a, .int .i64 b, .int .i64 c, .int .i64 i] 51)).drew.cell? ⟨E, 8, none⟩ = some (.int .i32 0) := by simp [go_sem, *]
  all_goals have g9 : (w.alloc (.cells #[.int .u8 24, .int .i64 a, .int .i64 b, .int .i64 c, .int .i64 i] 51)).drew.cell? ⟨E, 9, none⟩ = some (.pointer (some ⟨S, 0, none⟩)) := by simp [go_sem, *]
  all_goals have g10 : (w.alloc (.cells #[.int .u8 24, .int .i64 a, .int .i64 b, .int .i64 c, .int .i64 i] 51)).drew.cell? ⟨E, 10, none⟩ = some (.int .i64 nx) := by simp [go_sem, *]
  all_goals have gf6 : (w.alloc (.cells #[.int .u8 24, .int .i64 a, .int .i64 b, .int .i64 c, .int .i64 i] 51)).drew.frozen? ⟨E, 6, none⟩ = false := by simp [go_sem, *]
  all_goals have gf7 : (w.alloc (.cells #[.int .u8 24, .int .i64 a, .int .i64 b, .int .i64 c, .int .i64 i] 51)).drew.frozen? ⟨E, 7, none⟩ = false := by simp [go_sem, *]
  all_goals have gf8 : (w.alloc (.cells #[.int .u8 24, .int .i64 a, .int .i64 b, .int .i64 c, .int .i64 i] 51)).drew.frozen? ⟨E, 8, none⟩ = false := by simp [go_sem, *]
  all_goals have gf10 : (w.alloc (.cells #[.int .u8 24, .int .i64 a, .int .i64 b, .int .i64 c, .int .i64 i] 51)).drew.frozen? ⟨E, 10, none⟩ = false := by simp [go_sem, *]
  all_goals have gA : (w.alloc (.cells #[.int .u8 24, .int .i64 a, .int .i64 b, .int .i64 c, .int .i64 i] 51)).drew.cell? ⟨S, 1 + a, none⟩ = some (.int .i32 va) := by simp [go_sem, *]
  all_goals go_wp2_with fail
  all_goals refine (branch_jmp E S a b c i pc nx va _ g0 g1 g2 g3 g4 g5 g6 g7 g8 g9 g10 gf6 gf7 gf8 gf10 hS (by simp; omega) ha hi hi1 hp hp1 gA).mono ?_
  all_goals rintro e w' ⟨rfl, hbl⟩
  all_goals have hbl2 : Below w.heap.size ((w.setCell ⟨E, 6, none⟩ (.bool true)).setCell ⟨E, 10, none⟩ (.int .i64 (pc + 1 + i))) w' := by (refine Below.trans ?_ (hbl.mono (by simp)); repeat (first | (with_reducible apply bBoth) | (with_reducible exact Below.refl _ _) | (with_reducible apply bDrewN) | (with_reducible apply Below.drew) | ((with_reducible apply bSet); (focus first | (simp; done) | (simp; omega) | omega)) | ((with_reducible apply bAlloc); (focus first | (simp; done) | (simp; omega) | omega))))
  all_goals clear hbl g0 g1 g2 g3 g4 g5 g6 g7 g8 g9 g10 gf6 gf7 gf8 gf10 gA
  all_goals go_wp2_with fail
  all_goals go_ret2
  all_goals exact prep_nothing rfl hbl2

set_option maxRecDepth 100000 in
set_option maxHeartbeats 1600000 in
theorem prep_bound_ok (E S a b c : Nat) (i pc nx locks va vb vc : Int) (mv pv : Value) (w : World) (hE0 : w.cell? ⟨E, 0, none⟩ = some (.int .u8 25)) (hE1 : w.cell? ⟨E, 1, none⟩ = some (.int .i64 a)) (hE2 : w.cell? ⟨E, 2, none⟩ = some (.int .i64 b)) (hE3 : w.cell? ⟨E, 3, none⟩ = some (.int .i64 c)) (hE4 : w.cell? ⟨E, 4, none⟩ = some (.int .i64 i)) (hE5 : w.cell? ⟨E, 5, none⟩ = some (.int .i64 pc)) (hE6 : w.cell? ⟨E, 6, none⟩ = some (.bool false)) (hE7 : w.cell? ⟨E, 7, none⟩ = some (.int .i64 (-1))) (hE8 : w.cell? ⟨E, 8, none⟩ = some (.int .i32 0)) (hE9 : w.cell? ⟨E, 9, none⟩ = some (.pointer (some ⟨S, 0, none⟩))) (hE10 : w.cell? ⟨E, 10, none⟩ = some (.int .i64 nx)) (hF6 : w.frozen? ⟨E, 6, none⟩ = false) (hF7 : w.frozen? ⟨E, 7, none⟩ = false) (hF8 : w.frozen? ⟨E, 8, none⟩ = false) (hF10 : w.frozen? ⟨E, 10, none⟩ = false)
    (hS : S < E) (hEw : E < w.heap.size) (ha : a < 16) (hrA : w.cell? ⟨S, 1 + a, none⟩ = some (.int .i32 va)) (hva : -2147483648 ≤ va) (hva1 : va ≤ 2147483647) (h0 : 0 ≤ va) (h0' : decide (va < 0) = false) (h1 : va < i) (h1' : decide (i ≤ va) = false) :
    Calls Tryd.prog 28 #[.pointer (some ⟨E, 0, none⟩), .int .i64 locks, mv, pv] w (PrepOk w (w) (w) (0)) := by
  have hmf : ∀ (fn : Fn) (first cap : Array Value) (w : World), (Instr.makeFunc fn first cap).run Tryd.prog w = .ok (.func fn first cap) w := fun _ _ _ _ => rfl
  have hE0w : E < w.heap.size + 1 := by omega
  have hS0w : S < w.heap.size := by omega
  have hS1w : S < w.heap.size + 1 := by omega
  go_enter Tryd.func28, Tryd.ntmps28
  go_wp2_with fail
  go_region
  all_goals have ha2 : (a : Int) < 16 := by omega
  all_goals go_wp2_with fail
  all_goals go_quiet (fail)
  all_goals go_wp2_with fail
  all_goals go_ret2
  all_goals refine prep_nothing rfl ?_
  all_goals first | omega | (simp; done) | (simp; omega) | (simp [go_sem]; done) | (repeat (first | (with_reducible apply bBoth) | (with_reducible exact Below.refl _ _) | (with_reducible apply bDrewN) | (with_reducible apply Below.drew) | ((with_reducible apply bSet); (focus first | (simp; done) | (simp; omega) | omega)) | ((with_reducible apply bAlloc); (focus first | (simp; done) | (simp; omega) | omega))))

set_option maxRecDepth 100000 in
set_option maxHeartbeats 1600000 in
theorem prep_bound_neg (E S a b c : Nat) (i pc nx locks va vb vc : Int) (mv pv : Value) (w : World) (hE0 : w.cell? ⟨E, 0, none⟩ = some (.int .u8 25)) (hE1 : w.cell? ⟨E, 1, none⟩ = some (.int .i64 a)) (hE2 : w.cell? ⟨E, 2, none⟩ = some (.int .i64 b)) (hE3 : w.cell? ⟨E, 3, none⟩ = some (.int .i64 c)) (hE4 : w.cell? ⟨E, 4, none⟩ = some (.int .i64 i)) (hE5 : w.cell? ⟨E, 5, none⟩ = some (.int .i64 pc)) (hE6 : w.cell? ⟨E, 6, none⟩ = some (.bool false)) (hE7 : w.cell? ⟨E, 7, none⟩ = some (.int .i64 (-1))) (hE8 : w.cell? ⟨E, 8, none⟩ = some (.int .i32 0)) (hE9 : w.cell? ⟨E, 9, none⟩ = some (.pointer (some ⟨S, 0, none⟩))) (hE10 : w.cell? ⟨E, 10, none⟩ = some (.int .i64 nx)) (hF6 : w.frozen? ⟨E, 6, none⟩ = false) (hF7 : w.frozen? ⟨E, 7, none⟩ = false) (hF8 : w.frozen? ⟨E, 8, none⟩ = false) (hF10 : w.frozen? ⟨E, 10, none⟩ = false)
    (hS : S < E) (hEw : E < w.heap.size) (ha : a < 16) (hrA : w.cell? ⟨S, 1 + a, none⟩ = some (.int .i32 va)) (hva : -2147483648 ≤ va) (hva1 : va ≤ 2147483647) (h0 : va < 0) (h0' : decide (va < 0) = true) :
    Calls Tryd.prog 28 #[.pointer (some ⟨E, 0, none⟩), .int .i64 locks, mv, pv] w (fun e w' => e = .returned (.tuple #[.nilFunc, .int .i64 11]) ∧ Below w.heap.size w w') := by
  have hmf : ∀ (fn : Fn) (first cap : Array Value) (w : World), (Instr.makeFunc fn first cap).run Tryd.prog w = .ok (.func fn first cap) w := fun _ _ _ _ => rfl
  have hE0w : E < w.heap.size + 1 := by omega
  have hS0w : S < w.heap.size := by omega
  have hS1w : S < w.heap.size + 1 := by omega
  go_enter Tryd.func28, Tryd.ntmps28
  go_wp2_with fail
  go_region
  all_goals have ha2 : (a : Int) < 16 := by omega
  all_goals go_wp2_with fail
  all_goals go_quiet (fail)
  all_goals go_wp2_with fail
  all_goals go_ret2
  all_goals refine ⟨rfl, ?_⟩
  all_goals first | omega | (simp; done) | (simp; omega) | (simp [go_sem]; done) | (repeat (first | (with_reducible apply bBoth) | (with_reducible exact Below.refl _ _) | (with_reducible apply bDrewN) | (with_reducible apply Below.drew) | ((with_reducible apply bSet); (focus first | (simp; done) | (simp; omega) | omega)) | ((with_reducible apply bAlloc); (focus first | (simp; done) | (simp; omega) | omega))))

set_option maxRecDepth 100000 in
set_option maxHeartbeats 1600000 in
theorem prep_bound_over (E S a b c : Nat) (i pc nx locks va vb vc : Int) (mv pv : Value) (w : World) (hE0 : w.cell? ⟨E, 0, none⟩ = some (.int .u8 25)) (hE1 : w.cell? ⟨E, 1, none⟩ = some (.int .i64 a)) (hE2 : w.cell? ⟨E, 2, none⟩ = some (.int .i64 b)) (hE3 : w.cell? ⟨E, 3, none⟩ = some (.int .i64 c)) (hE4 : w.cell? ⟨E, 4, none⟩ = some (.int .i64 i)) (hE5 : w.cell? ⟨E, 5, none⟩ = some (.int .i64 pc)) (hE6 : w.cell? ⟨E, 6, none⟩ = some (.bool false)) (hE7 : w.cell? ⟨E, 7, none⟩ = some (.int .i64 (-1))) (hE8 : w.cell? ⟨E, 8, none⟩ = some (.int .i32 0)) (hE9 : w.cell? ⟨E, 9, none⟩ = some (.pointer (some ⟨S, 0, none⟩))) (hE10 : w.cell? ⟨E, 10, none⟩ = some (.int .i64 nx)) (hF6 : w.frozen? ⟨E, 6, none⟩ = false) (hF7 : w.frozen? ⟨E, 7, none⟩ = false) (hF8 : w.frozen? ⟨E, 8, none⟩ = false) (hF10 : w.frozen? ⟨E, 10, none⟩ = false)
    (hS : S < E) (hEw : E < w.heap.size) (ha : a < 16) (hrA : w.cell? ⟨S, 1 + a, none⟩ = some (.int .i32 va)) (hva : -2147483648 ≤ va) (hva1 : va ≤ 2147483647) (h0 : 0 ≤ va) (h0' : decide (va < 0) = false) (h1 : i ≤ va) (h1' : decide (i ≤ va) = true) :
    Calls Tryd.prog 28 #[.pointer (some ⟨E, 0, none⟩), .int .i64 locks, mv, pv] w (fun e w' => e = .returned (.tuple #[.nilFunc, .int .i64 11]) ∧ Below w.heap.size w w') := by
  have hmf : ∀ (fn : Fn) (first cap : Array Value) (w : World), (Instr.makeFunc fn first cap).run Tryd.prog w = .ok (.func fn first cap) w := fun _ _ _ _ => rfl
  have hE0w : E < w.heap.size + 1 := by omega
  have hS0w : S < w.heap.size := by omega
  have hS1w : S < w.heap.size + 1 := by omega
  go_enter Tryd.func28, Tryd.ntmps28
  go_wp2_with fail
  go_region
  all_goals have ha2 : (a : Int) < 16 := by omega
  all_goals go_wp2_with fail
  all_goals go_quiet (fail)
  all_goals go_wp2_with fail
  all_goals go_ret2
  all_goals refine ⟨rfl, ?_⟩
  all_goals first | omega | (simp; done) | (simp; omega) | (simp [go_sem]; done) | (repeat (first | (with_reducible apply bBoth) | (with_reducible exact Below.refl _ _) | (with_reducible apply bDrewN) | (with_reducible apply Below.drew) | ((with_reducible apply bSet); (focus first | (simp; done) | (simp; omega) | omega)) | ((with_reducible apply bAlloc); (focus first | (simp; done) | (simp; omega) | omega))))

set_option maxRecDepth 100000 in
set_option maxHeartbeats 1600000 in
theorem prep_out (E S a b c : Nat) (i pc nx locks va vb vc : Int) (mv pv : Value) (w : World) (hE0 : w.cell? ⟨E, 0, none⟩ = some (.int .u8 27)) (hE1 : w.cell? ⟨E, 1, none⟩ = some (.int .i64 a)) (hE2 : w.cell? ⟨E, 2, none⟩ = some (.int .i64 b)) (hE3 : w.cell? ⟨E, 3, none⟩ = some (.int .i64 c)) (hE4 : w.cell? ⟨E, 4, none⟩ = some (.int .i64 i)) (hE5 : w.cell? ⟨E, 5, none⟩ = some (.int .i64 pc)) (hE6 : w.cell? ⟨E, 6, none⟩ = some (.bool false)) (hE7 : w.cell? ⟨E, 7, none⟩ = some (.int .i64 (-1))) (hE8 : w.cell? ⟨E, 8, none⟩ = some (.int .i32 0)) (hE9 : w.cell? ⟨E, 9, none⟩ = some (.pointer (some ⟨S, 0, none⟩))) (hE10 : w.cell? ⟨E, 10, none⟩ = some (.int .i64 nx)) (hF6 : w.frozen? ⟨E, 6, none⟩ = false) (hF7 : w.frozen? ⟨E, 7, none⟩ = false) (hF8 : w.frozen? ⟨E, 8, none⟩ = false) (hF10 : w.frozen? ⟨E, 10, none⟩ = false)
    (hS : S < E) (hEw : E < w.heap.size) (ha : a < 16) (hrA : w.cell? ⟨S, 1 + a, none⟩ = some (.int .i32 va)) :
    Calls Tryd.prog 28 #[.pointer (some ⟨E, 0, none⟩), .int .i64 locks, mv, pv] w (PrepOk w (w.setCell ⟨E, 8, none⟩ (.int .i32 va)) (w.setCell ⟨E, 8, none⟩ (.int .i32 va)) (0)) := by
  have hmf : ∀ (fn : Fn) (first cap : Array Value) (w : World), (Instr.makeFunc fn first cap).run Tryd.prog w = .ok (.func fn first cap) w := fun _ _ _ _ => rfl
  have hE0w : E < w.heap.size + 1 := by omega
  have hS0w : S < w.heap.size := by omega
  have hS1w : S < w.heap.size + 1 := by omega
  go_enter Tryd.func28, Tryd.ntmps28
  go_wp2_with fail
  go_region
  all_goals have ha2 : (a : Int) < 16 := by omega
  all_goals go_wp2_with fail
  all_goals go_region
  all_goals go_wp2_with fail
  all_goals go_ret2
  all_goals refine prep_nothing rfl ?_
  all_goals first | omega | (simp; done) | (simp; omega) | (simp [go_sem]; done) | (repeat (first | (with_reducible apply bBoth) | (with_reducible exact Below.refl _ _) | (with_reducible apply bDrewN) | (with_reducible apply Below.drew) | ((with_reducible apply bSet); (focus first | (simp; done) | (simp; omega) | omega)) | ((with_reducible apply bAlloc); (focus first | (simp; done) | (simp; omega) | omega))))

end Go.Proofs.YtpachmkklppmjaaDoor
