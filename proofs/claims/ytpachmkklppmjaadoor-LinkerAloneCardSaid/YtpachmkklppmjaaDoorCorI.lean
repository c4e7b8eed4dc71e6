/- core: prepare (arithmetic, in). -/
import Derived.Test.YtpachmkklppmjaaDoorCorC
import Derived.Test.YtpachmkklppmjaaDoorCorD
import Derived.Shelf.Abstract
import Derived.Test.YtpachmkklppmjaaDoorCorE
set_option linter.unusedVariables false
set_option linter.unusedSimpArgs false
namespace Go.Proofs.YtpachmkklppmjaaDoor
open Go.RowKit

set_option maxRecDepth 100000 in
set_option maxHeartbeats 1600000 in
theorem prep_ari (E S a b c n : Nat) (i pc nx locks va vb vc : Int) (mv pv : Value) (w : World) (hE0 : w.cell? ⟨E, 0, none⟩ = some (.int .u8 n)) (hE1 : w.cell? ⟨E, 1, none⟩ = some (.int .i64 a)) (hE2 : w.cell? ⟨E, 2, none⟩ = some (.int .i64 b)) (hE3 : w.cell? ⟨E, 3, none⟩ = some (.int .i64 c)) (hE4 : w.cell? ⟨E, 4, none⟩ = some (.int .i64 i)) (hE5 : w.cell? ⟨E, 5, none⟩ = some (.int .i64 pc)) (hE6 : w.cell? ⟨E, 6, none⟩ = some (.bool false)) (hE7 : w.cell? ⟨E, 7, none⟩ = some (.int .i64 (-1))) (hE8 : w.cell? ⟨E, 8, none⟩ = some (.int .i32 0)) (hE9 : w.cell? ⟨E, 9, none⟩ = some (.pointer (some ⟨S, 0, none⟩))) (hE10 : w.cell? ⟨E, 10, none⟩ = some (.int .i64 nx)) (hF6 : w.frozen? ⟨E, 6, none⟩ = false) (hF7 : w.frozen? ⟨E, 7, none⟩ = false) (hF8 : w.frozen? ⟨E, 8, none⟩ = false) (hF10 : w.frozen? ⟨E, 10, none⟩ = false)
    (hS : S < E) (hEw : E < w.heap.size) (hn : 2 ≤ n) (hn' : n < 14) (hop : w.cell? ⟨1, n, none⟩ = some (.int .u8 (ariOp n))) (hg : 1 < w.heap.size) (ha : a < 16) (hrA : w.cell? ⟨S, 1 + a, none⟩ = some (.int .i32 va)) (hfA : w.frozen? ⟨S, 1 + a, none⟩ = false) (hb : b < 16) (hrB : w.cell? ⟨S, 1 + b, none⟩ = some (.int .i32 vb)) (hvb : -2147483648 ≤ vb) (hvb1 : vb ≤ 2147483647) (hc : c < 16) (hrC : w.cell? ⟨S, 1 + c, none⟩ = some (.int .i32 vc)) (hvc : -2147483648 ≤ vc) (hvc1 : vc ≤ 2147483647) :
    Calls Tryd.prog 28 #[.pointer (some ⟨E, 0, none⟩), .int .i64 locks, mv, pv] w (PrepOk w (w) (setW w S a (ariV n vb vc)) (ariE n vc)) := by
  have hmf : ∀ (fn : Fn) (first cap : Array Value) (w : World), (Instr.makeFunc fn first cap).run Tryd.prog w = .ok (.func fn first cap) w := fun _ _ _ _ => rfl
  have hE0w : E < w.heap.size + 1 := by omega
  have hS0w : S < w.heap.size := by omega
  have hS1w : S < w.heap.size + 1 := by omega
  have n0 : ((n : Int) == 0) = false := by simp; omega
  have n14 : ((n : Int) == 14) = false := by simp; omega
  have n15 : ((n : Int) == 15) = false := by simp; omega
  have n16 : ((n : Int) == 16) = false := by simp; omega
  have n17 : ((n : Int) == 17) = false := by simp; omega
  have n18 : ((n : Int) == 18) = false := by simp; omega
  have n19 : ((n : Int) == 19) = false := by simp; omega
  have n20 : ((n : Int) == 20) = false := by simp; omega
  have n21 : ((n : Int) == 21) = false := by simp; omega
  have n22 : ((n : Int) == 22) = false := by simp; omega
  have n23 : ((n : Int) == 23) = false := by simp; omega
  have n24 : ((n : Int) == 24) = false := by simp; omega
  have n25 : ((n : Int) == 25) = false := by simp; omega
  have n26 : ((n : Int) == 26) = false := by simp; omega
  have n27 : ((n : Int) == 27) = false := by simp; omega
  have n28 : ((n : Int) == 28) = false := by simp; omega
  have n29 : ((n : Int) == 29) = false := by simp; omega
  have n1 : ((n : Int) == 1) = false := by simp; omega
  go_enter Tryd.func28, Tryd.ntmps28
  go_wp2_with fail
  go_region
  all_goals have hb2 : (b : Int) < 16 := by omega
  all_goals have hc2 : (c : Int) < 16 := by omega
  all_goals have hn30 : (n : Int) < 30 := by omega
  all_goals go_wp2_with fail
  all_goals go_quiet ((go_at_call 39; first | exact quiet_left (apply_any n _ _ _ hn hn' hvb hvb1 hvc hvc1) | exact quiet_add_left (apply_any n _ _ _ hn hn' hvb hvb1 hvc hvc1)))
  all_goals go_wp2_with (go_at_call 35; refine (set_any _ _ _).mono ?_; rintro e w' ⟨rfl, rfl⟩)
  all_goals go_ret2
  all_goals have hw : True := trivial
  all_goals refine prep_set (B := w.heap.size + 1) (E := E) (S := S) (a := a) (v := _) (old := va) hEw hS0w ha rfl ?_ ?_ ?_ hE1 hE9 hrA hfA
  all_goals first | omega | (simp; done) | (simp; omega) | (simp [go_sem]; done) | (simp [go_sem, IntWalk.i32_left, hw]; done) | (repeat (first | (with_reducible apply bBoth) | (with_reducible exact Below.refl _ _) | (with_reducible apply bDrewN) | (with_reducible apply Below.drew) | ((with_reducible apply bSet); (focus first | (simp; done) | (simp; omega) | omega)) | ((with_reducible apply bAlloc); (focus first | (simp; done) | (simp; omega) | omega))))

theorem neq_func (fn : Fn) (first cap : Array Value) (w : World) : (binOp .neq 88 (.func fn first cap) .nilFunc).run Tryd.prog w = .ok (.bool true) w := by kernel_rfl
theorem neq_nilFunc (w : World) : (binOp .neq 88 .nilFunc .nilFunc).run Tryd.prog w = .ok (.bool false) w := by kernel_rfl
set_option maxRecDepth 100000 in
set_option maxHeartbeats 1600000 in
theorem prep_in_nil (E S a b c : Nat) (i pc nx locks va vb vc : Int) (mv pv : Value) (w : World) (hE0 : w.cell? ⟨E, 0, none⟩ = some (.int .u8 26)) (hE1 : w.cell? ⟨E, 1, none⟩ = some (.int .i64 a)) (hE2 : w.cell? ⟨E, 2, none⟩ = some (.int .i64 b)) (hE3 : w.cell? ⟨E, 3, none⟩ = some (.int .i64 c)) (hE4 : w.cell? ⟨E, 4, none⟩ = some (.int .i64 i)) (hE5 : w.cell? ⟨E, 5, none⟩ = some (.int .i64 pc)) (hE6 : w.cell? ⟨E, 6, none⟩ = some (.bool false)) (hE7 : w.cell? ⟨E, 7, none⟩ = some (.int .i64 (-1))) (hE8 : w.cell? ⟨E, 8, none⟩ = some (.int .i32 0)) (hE9 : w.cell? ⟨E, 9, none⟩ = some (.pointer (some ⟨S, 0, none⟩))) (hE10 : w.cell? ⟨E, 10, none⟩ = some (.int .i64 nx)) (hF6 : w.frozen? ⟨E, 6, none⟩ = false) (hF7 : w.frozen? ⟨E, 7, none⟩ = false) (hF8 : w.frozen? ⟨E, 8, none⟩ = false) (hF10 : w.frozen? ⟨E, 10, none⟩ = false)
    (hS : S < E) (hEw : E < w.heap.size) (ha : a < 16) (hrA : w.cell? ⟨S, 1 + a, none⟩ = some (.int .i32 va)) (hfA : w.frozen? ⟨S, 1 + a, none⟩ = false) :
    Calls Tryd.prog 28 #[.pointer (some ⟨E, 0, none⟩), .int .i64 locks, mv, .nilFunc] w (PrepOk w (w) (setW w S a 0) (0)) := by
  have hmf : ∀ (fn : Fn) (first cap : Array Value) (w : World), (Instr.makeFunc fn first cap).run Tryd.prog w = .ok (.func fn first cap) w := fun _ _ _ _ => rfl
  have hE0w : E < w.heap.size + 1 := by omega
  have hS0w : S < w.heap.size := by omega
  have hS1w : S < w.heap.size + 1 := by omega
  go_enter Tryd.func28, Tryd.ntmps28
  go_wp2_with fail
  go_region
  all_goals have hq := neq_nilFunc
  all_goals go_wp2_with (go_at_call 35; refine (set_any _ _ _).mono ?_; rintro e w' ⟨rfl, rfl⟩)
  all_goals go_ret2
  all_goals have hw : True := trivial
  all_goals refine prep_set (B := w.heap.size + 1) (E := E) (S := S) (a := a) (v := _) (old := va) hEw hS0w ha rfl ?_ ?_ ?_ hE1 hE9 hrA hfA
  all_goals first | omega | (simp; done) | (simp; omega) | (simp [go_sem]; done) | (simp [go_sem, IntWalk.i32_left, hw]; done) | (repeat (first | (with_reducible apply bBoth) | (with_reducible exact Below.refl _ _) | (with_reducible apply bDrewN) | (with_reducible apply Below.drew) | ((with_reducible apply bSet); (focus first | (simp; done) | (simp; omega) | omega)) | ((with_reducible apply bAlloc); (focus first | (simp; done) | (simp; omega) | omega))))

set_option maxRecDepth 100000 in
set_option maxHeartbeats 1600000 in
theorem prep_in_pure (E S a b c : Nat) (i pc nx locks va vb vc v : Int) (mv pv : Value) (w : World) (pf : Nat) (pcaps : Array Value) (pa : Addr) (pval : Value) (hE0 : w.cell? ⟨E, 0, none⟩ = some (.int .u8 26)) (hE1 : w.cell? ⟨E, 1, none⟩ = some (.int .i64 a)) (hE2 : w.cell? ⟨E, 2, none⟩ = some (.int .i64 b)) (hE3 : w.cell? ⟨E, 3, none⟩ = some (.int .i64 c)) (hE4 : w.cell? ⟨E, 4, none⟩ = some (.int .i64 i)) (hE5 : w.cell? ⟨E, 5, none⟩ = some (.int .i64 pc)) (hE6 : w.cell? ⟨E, 6, none⟩ = some (.bool false)) (hE7 : w.cell? ⟨E, 7, none⟩ = some (.int .i64 (-1))) (hE8 : w.cell? ⟨E, 8, none⟩ = some (.int .i32 0)) (hE9 : w.cell? ⟨E, 9, none⟩ = some (.pointer (some ⟨S, 0, none⟩))) (hE10 : w.cell? ⟨E, 10, none⟩ = some (.int .i64 nx)) (hF6 : w.frozen? ⟨E, 6, none⟩ = false) (hF7 : w.frozen? ⟨E, 7, none⟩ = false) (hF8 : w.frozen? ⟨E, 8, none⟩ = false) (hF10 : w.frozen? ⟨E, 10, none⟩ = false)
    (hS : S < E) (hEw : E < w.heap.size) (ha : a < 16) (hrA : w.cell? ⟨S, 1 + a, none⟩ = some (.int .i32 va)) (hfA : w.frozen? ⟨S, 1 + a, none⟩ = false) (hent : Enters Tryd.prog pf) (hport : ∀ W, Below w.heap.size w W → Calls Tryd.prog pf (#[.int .i64 i] ++ pcaps) W (fun e w' => e = .returned (.int .i32 v) ∧ Below W.heap.size (W) w')) :
    Calls Tryd.prog 28 #[.pointer (some ⟨E, 0, none⟩), .int .i64 locks, mv, .func (.func pf) #[] pcaps] w (PrepOk w ((w).setCell ⟨E, 8, none⟩ (.int .i32 v)) (setW ((w).setCell ⟨E, 8, none⟩ (.int .i32 v)) S a v) (0)) := by
  have hmf : ∀ (fn : Fn) (first cap : Array Value) (w : World), (Instr.makeFunc fn first cap).run Tryd.prog w = .ok (.func fn first cap) w := fun _ _ _ _ => rfl
  have hE0w : E < w.heap.size + 1 := by omega
  have hS0w : S < w.heap.size := by omega
  have hS1w : S < w.heap.size + 1 := by omega
  go_enter Tryd.func28, Tryd.ntmps28
  go_wp2_with fail
  go_region
  all_goals have hq := neq_func
  all_goals have hent' : ∀ args w, (callFunc pf args).run Tryd.prog w = .ok (.enter pf args) w := hent
  all_goals go_wp2_with fail
  all_goals refine (hport _ (by repeat (first | (with_reducible apply bBoth) | (with_reducible exact Below.refl _ _) | (with_reducible apply bDrewN) | (with_reducible apply Below.drew) | ((with_reducible apply bSet); (focus first | (simp; done) | (simp; omega) | omega)) | ((with_reducible apply bAlloc); (focus first | (simp; done) | (simp; omega) | omega))))).mono ?_
  all_goals rintro e w1 ⟨rfl, hbl⟩
  all_goals have g1 : w1.cell? ⟨E, 1, none⟩ = some (.int .i64 a) := by rw [hbl.cell (p := ⟨E, 1, none⟩) (by simp; omega)]; first | (simp [go_sem, *]; done) | (rw [World.cell?_setCell_other _ _ _ _ (by intro e; rw [e] at hpE; exact absurd hpE (Nat.lt_irrefl _))]; simp [go_sem, *])
  all_goals have g8 : w1.cell? ⟨E, 8, none⟩ = some (.int .i32 0) := by rw [hbl.cell (p := ⟨E, 8, none⟩) (by simp; omega)]; first | (simp [go_sem, *]; done) | (rw [World.cell?_setCell_other _ _ _ _ (by intro e; rw [e] at hpE; exact absurd hpE (Nat.lt_irrefl _))]; simp [go_sem, *])
  all_goals have g9 : w1.cell? ⟨E, 9, none⟩ = some (.pointer (some ⟨S, 0, none⟩)) := by rw [hbl.cell (p := ⟨E, 9, none⟩) (by simp; omega)]; first | (simp [go_sem, *]; done) | (rw [World.cell?_setCell_other _ _ _ _ (by intro e; rw [e] at hpE; exact absurd hpE (Nat.lt_irrefl _))]; simp [go_sem, *])
  all_goals have gf8 : w1.frozen? ⟨E, 8, none⟩ = false := by rw [hbl.frozen (p := ⟨E, 8, none⟩) (by simp; omega)]; simp [go_sem, *]
  all_goals have hsz1 : w.heap.size < w1.heap.size := by have := hbl.size; simp at this; omega
  all_goals have hEw1 : E < w1.heap.size := by omega
  all_goals have hb0 : Below w.heap.size (w) w1 := by (refine Below.trans ?_ (hbl.mono (by simp)); repeat (first | (with_reducible apply bBoth) | (with_reducible exact Below.refl _ _) | (with_reducible apply bDrewN) | (with_reducible apply Below.drew) | ((with_reducible apply bSet); (focus first | (simp; done) | (simp; omega) | omega)) | ((with_reducible apply bAlloc); (focus first | (simp; done) | (simp; omega) | omega))))
  all_goals clear hbl hport
  all_goals go_wp2_with (go_at_call 35; refine (set_any _ _ _).mono ?_; rintro e w' ⟨rfl, rfl⟩)
  all_goals go_ret2
  all_goals refine prep_set (B := w1.heap.size) (E := E) (S := S) (a := a) (v := v) (old := va) hEw hS0w ha rfl ?_ ?_ ?_ ?_ ?_ ?_ ?_
  all_goals first | (simp [go_sem, *]; done) | (repeat (first | (with_reducible apply bBoth) | (with_reducible exact Below.refl _ _) | (with_reducible apply bDrewN) | (with_reducible apply Below.drew) | (with_reducible exact hb0) | ((with_reducible apply bSet); (focus first | (simp; done) | (simp; omega) | omega)) | ((with_reducible apply bAlloc); (focus first | (simp; done) | (simp; omega) | omega)))) | skip

set_option maxRecDepth 100000 in
set_option maxHeartbeats 1600000 in
theorem prep_in_st (E S a b c : Nat) (i pc nx locks va vb vc v : Int) (mv pv : Value) (w : World) (pf : Nat) (pcaps : Array Value) (pa : Addr) (pval : Value) (hE0 : w.cell? ⟨E, 0, none⟩ = some (.int .u8 26)) (hE1 : w.cell? ⟨E, 1, none⟩ = some (.int .i64 a)) (hE2 : w.cell? ⟨E, 2, none⟩ = some (.int .i64 b)) (hE3 : w.cell? ⟨E, 3, none⟩ = some (.int .i64 c)) (hE4 : w.cell? ⟨E, 4, none⟩ = some (.int .i64 i)) (hE5 : w.cell? ⟨E, 5, none⟩ = some (.int .i64 pc)) (hE6 : w.cell? ⟨E, 6, none⟩ = some (.bool false)) (hE7 : w.cell? ⟨E, 7, none⟩ = some (.int .i64 (-1))) (hE8 : w.cell? ⟨E, 8, none⟩ = some (.int .i32 0)) (hE9 : w.cell? ⟨E, 9, none⟩ = some (.pointer (some ⟨S, 0, none⟩))) (hE10 : w.cell? ⟨E, 10, none⟩ = some (.int .i64 nx)) (hF6 : w.frozen? ⟨E, 6, none⟩ = false) (hF7 : w.frozen? ⟨E, 7, none⟩ = false) (hF8 : w.frozen? ⟨E, 8, none⟩ = false) (hF10 : w.frozen? ⟨E, 10, none⟩ = false)
    (hS : S < E) (hEw : E < w.heap.size) (ha : a < 16) (hrA : w.cell? ⟨S, 1 + a, none⟩ = some (.int .i32 va)) (hfA : w.frozen? ⟨S, 1 + a, none⟩ = false) (hpE : pa.block < E) (hpS : pa.block ≠ S) (hpw : pa.block < w.heap.size) (hent : Enters Tryd.prog pf) (hport : ∀ W, Below w.heap.size w W → Calls Tryd.prog pf (#[.int .i64 i] ++ pcaps) W (fun e w' => e = .returned (.int .i32 v) ∧ Below W.heap.size (W.setCell pa pval) w')) :
    Calls Tryd.prog 28 #[.pointer (some ⟨E, 0, none⟩), .int .i64 locks, mv, .func (.func pf) #[] pcaps] w (PrepOk w ((w.setCell pa pval).setCell ⟨E, 8, none⟩ (.int .i32 v)) (setW ((w.setCell pa pval).setCell ⟨E, 8, none⟩ (.int .i32 v)) S a v) (0)) := by
  have hmf : ∀ (fn : Fn) (first cap : Array Value) (w : World), (Instr.makeFunc fn first cap).run Tryd.prog w = .ok (.func fn first cap) w := fun _ _ _ _ => rfl
  have hE0w : E < w.heap.size + 1 := by omega
  have hS0w : S < w.heap.size := by omega
  have hS1w : S < w.heap.size + 1 := by omega
  go_enter Tryd.func28, Tryd.ntmps28
  go_wp2_with fail
  go_region
  all_goals have hq := neq_func
  all_goals have hent' : ∀ args w, (callFunc pf args).run Tryd.prog w = .ok (.enter pf args) w := hent
  all_goals go_wp2_with fail
  all_goals refine (hport _ (by repeat (first | (with_reducible apply bBoth) | (with_reducible exact Below.refl _ _) | (with_reducible apply bDrewN) | (with_reducible apply Below.drew) | ((with_reducible apply bSet); (focus first | (simp; done) | (simp; omega) | omega)) | ((with_reducible apply bAlloc); (focus first | (simp; done) | (simp; omega) | omega))))).mono ?_
  all_goals rintro e w1 ⟨rfl, hbl⟩
  all_goals have g1 : w1.cell? ⟨E, 1, none⟩ = some (.int .i64 a) := by rw [hbl.cell (p := ⟨E, 1, none⟩) (by simp; omega)]; first | (simp [go_sem, *]; done) | (rw [World.cell?_setCell_other _ _ _ _ (by intro e; rw [e] at hpE; exact absurd hpE (Nat.lt_irrefl _))]; simp [go_sem, *])
  all_goals have g8 : w1.cell? ⟨E, 8, none⟩ = some (.int .i32 0) := by rw [hbl.cell (p := ⟨E, 8, none⟩) (by simp; omega)]; first | (simp [go_sem, *]; done) | (rw [World.cell?_setCell_other _ _ _ _ (by intro e; rw [e] at hpE; exact absurd hpE (Nat.lt_irrefl _))]; simp [go_sem, *])
  all_goals have g9 : w1.cell? ⟨E, 9, none⟩ = some (.pointer (some ⟨S, 0, none⟩)) := by rw [hbl.cell (p := ⟨E, 9, none⟩) (by simp; omega)]; first | (simp [go_sem, *]; done) | (rw [World.cell?_setCell_other _ _ _ _ (by intro e; rw [e] at hpE; exact absurd hpE (Nat.lt_irrefl _))]; simp [go_sem, *])
  all_goals have gf8 : w1.frozen? ⟨E, 8, none⟩ = false := by rw [hbl.frozen (p := ⟨E, 8, none⟩) (by simp; omega)]; simp [go_sem, *]
  all_goals have hsz1 : w.heap.size < w1.heap.size := by have := hbl.size; simp at this; omega
  all_goals have hEw1 : E < w1.heap.size := by omega
  all_goals have hb0 : Below w.heap.size (w.setCell pa pval) w1 := by (refine Below.trans ?_ (hbl.mono (by simp)); repeat (first | (with_reducible apply bBoth) | (with_reducible exact Below.refl _ _) | (with_reducible apply bDrewN) | (with_reducible apply Below.drew) | ((with_reducible apply bSet); (focus first | (simp; done) | (simp; omega) | omega)) | ((with_reducible apply bAlloc); (focus first | (simp; done) | (simp; omega) | omega))))
  all_goals clear hbl hport
  all_goals go_wp2_with (go_at_call 35; refine (set_any _ _ _).mono ?_; rintro e w' ⟨rfl, rfl⟩)
  all_goals go_ret2
  all_goals have kE : ∀ o, (w.setCell pa pval).cell? ⟨E, o, none⟩ = w.cell? ⟨E, o, none⟩ := fun o => World.cell?_setCell_other _ _ _ _ (by intro e; rw [e] at hpE; exact absurd hpE (Nat.lt_irrefl _))
  all_goals have kS : ∀ o, (w.setCell pa pval).cell? ⟨S, o, none⟩ = w.cell? ⟨S, o, none⟩ := fun o => World.cell?_setCell_other _ _ _ _ (by intro e; rw [e] at hpS; exact hpS rfl)
  all_goals refine prep_set (B := w1.heap.size) (E := E) (S := S) (a := a) (v := v) (old := va) hEw hS0w ha rfl ?_ ?_ ?_ ?_ ?_ ?_ ?_
  all_goals first | (simp [go_sem, *]; done) | (repeat (first | (with_reducible apply bBoth) | (with_reducible exact Below.refl _ _) | (with_reducible apply bDrewN) | (with_reducible apply Below.drew) | (with_reducible exact hb0) | ((with_reducible apply bSet); (focus first | (simp; done) | (simp; omega) | omega)) | ((with_reducible apply bAlloc); (focus first | (simp; done) | (simp; omega) | omega)))) | skip

end Go.Proofs.YtpachmkklppmjaaDoor
