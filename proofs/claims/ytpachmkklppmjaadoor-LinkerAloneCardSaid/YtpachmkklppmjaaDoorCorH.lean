/- core: prepare (lock, unlock, halt). -/
import Derived.Test.YtpachmkklppmjaaDoorCorC
import Derived.Test.YtpachmkklppmjaaDoorCorD
import Derived.Shelf.Abstract
import Derived.Test.YtpachmkklppmjaaDoorCorE
set_option linter.unusedVariables false
set_option linter.unusedSimpArgs false
namespace Go.Proofs.YtpachmkklppmjaaDoor
open Go.RowKit

theorem prep_lock {w w' : World} {er : Int} {e : Ending} {S1 S2 S : Nat} {i old : Int} (hS : S < w.heap.size)
    (he : e = .returned (.tuple #[.func (.func 46) #[] #[.pointer (some ⟨S1, 0, none⟩), .pointer (some ⟨S2, 0, none⟩)], .int .i64 er]))
    (hb : Below w.heap.size w w') (h1 : w'.cell? ⟨S1, 4, none⟩ = some (.int .i64 i)) (h2 : w'.cell? ⟨S2, 0, none⟩ = some (.pointer (some ⟨S, 0, none⟩)))
    (hr : w.cell? ⟨S, 19, none⟩ = some (.int .i64 old)) (hf : w.frozen? ⟨S, 19, none⟩ = false) : PrepOk w w (w.setCell ⟨S, 19, none⟩ (.int .i64 i)) er e w' := by
  refine ⟨_, _, he, hb, enters_of Tryd.func46 (by kernel_rfl) rfl, ?_⟩
  rw [← hb.cell (p := ⟨S, 19, none⟩) hS] at hr
  rw [← hb.frozen (p := ⟨S, 19, none⟩) hS] at hf
  exact (control1_any S1 S2 S i old w' h1 h2 hr hf).mono fun e w'' ⟨h1, h2⟩ => by subst h2; exact ⟨h1, bBoth hb, by simp⟩
theorem prep_unlock {w w' : World} {er : Int} {e : Ending} {S2 S : Nat} {old : Int} (hS : S < w.heap.size)
    (he : e = .returned (.tuple #[.func (.func 47) #[] #[.pointer (some ⟨S2, 0, none⟩)], .int .i64 er]))
    (hb : Below w.heap.size w w') (h2 : w'.cell? ⟨S2, 0, none⟩ = some (.pointer (some ⟨S, 0, none⟩)))
    (hr : w.cell? ⟨S, 19, none⟩ = some (.int .i64 old)) (hf : w.frozen? ⟨S, 19, none⟩ = false) : PrepOk w w (w.setCell ⟨S, 19, none⟩ (.int .i64 (-1))) er e w' := by
  refine ⟨_, _, he, hb, enters_of Tryd.func47 (by kernel_rfl) rfl, ?_⟩
  rw [← hb.cell (p := ⟨S, 19, none⟩) hS] at hr
  rw [← hb.frozen (p := ⟨S, 19, none⟩) hS] at hf
  exact (control2_any S2 S old w' h2 hr hf).mono fun e w'' ⟨h1, h2⟩ => by subst h2; exact ⟨h1, bBoth hb, by simp⟩
theorem prep_stop {w EX w' : World} {er : Int} {e : Ending} {S2 S : Nat} {old : Bool} (hS : S < w.heap.size)
    (he : e = .returned (.tuple #[.func (.func 48) #[] #[.pointer (some ⟨S2, 0, none⟩)], .int .i64 er]))
    (hb : Below w.heap.size EX w') (h2 : w'.cell? ⟨S2, 0, none⟩ = some (.pointer (some ⟨S, 0, none⟩)))
    (hr : EX.cell? ⟨S, 18, none⟩ = some (.bool old)) (hf : EX.frozen? ⟨S, 18, none⟩ = false) : PrepOk w EX (EX.setCell ⟨S, 18, none⟩ (.bool true)) er e w' := by
  refine ⟨_, _, he, hb, enters_of Tryd.func48 (by kernel_rfl) rfl, ?_⟩
  rw [← hb.cell (p := ⟨S, 18, none⟩) hS] at hr
  rw [← hb.frozen (p := ⟨S, 18, none⟩) hS] at hf
  exact (control3_any S2 S old w' h2 hr hf).mono fun e w'' ⟨h1, h2⟩ => by subst h2; exact ⟨h1, bBoth hb, by simp⟩

set_option maxRecDepth 100000 in
set_option maxHeartbeats 1600000 in
theorem prep_lock_ok (E S a b c : Nat) (i pc nx locks va vb vc held : Int) (mv pv : Value) (w : World) (hE0 : w.cell? ⟨E, 0, none⟩ = some (.int .u8 28)) (hE1 : w.cell? ⟨E, 1, none⟩ = some (.int .i64 a)) (hE2 : w.cell? ⟨E, 2, none⟩ = some (.int .i64 b)) (hE3 : w.cell? ⟨E, 3, none⟩ = some (.int .i64 c)) (hE4 : w.cell? ⟨E, 4, none⟩ = some (.int .i64 i)) (hE5 : w.cell? ⟨E, 5, none⟩ = some (.int .i64 pc)) (hE6 : w.cell? ⟨E, 6, none⟩ = some (.bool false)) (hE7 : w.cell? ⟨E, 7, none⟩ = some (.int .i64 (-1))) (hE8 : w.cell? ⟨E, 8, none⟩ = some (.int .i32 0)) (hE9 : w.cell? ⟨E, 9, none⟩ = some (.pointer (some ⟨S, 0, none⟩))) (hE10 : w.cell? ⟨E, 10, none⟩ = some (.int .i64 nx)) (hF6 : w.frozen? ⟨E, 6, none⟩ = false) (hF7 : w.frozen? ⟨E, 7, none⟩ = false) (hF8 : w.frozen? ⟨E, 8, none⟩ = false) (hF10 : w.frozen? ⟨E, 10, none⟩ = false)
    (hS : S < E) (hEw : E < w.heap.size) (hh : held < 0) (hl : i < locks) (hrH : w.cell? ⟨S, 19, none⟩ = some (.int .i64 held)) (hfH : w.frozen? ⟨S, 19, none⟩ = false) :
    Calls Tryd.prog 28 #[.pointer (some ⟨E, 0, none⟩), .int .i64 locks, mv, pv] w (PrepOk w (w) (w.setCell ⟨S, 19, none⟩ (.int .i64 i)) (0)) := by
  have hmf : ∀ (fn : Fn) (first cap : Array Value) (w : World), (Instr.makeFunc fn first cap).run Tryd.prog w = .ok (.func fn first cap) w := fun _ _ _ _ => rfl
  have hE0w : E < w.heap.size + 1 := by omega
  have hS0w : S < w.heap.size := by omega
  have hS1w : S < w.heap.size + 1 := by omega
  go_enter Tryd.func28, Tryd.ntmps28
  go_wp2_with fail
  go_region
  all_goals have g0 : (w.alloc (.cells #[.int .u8 28, .int .i64 a, .int .i64 b, .int .i64 c, .int .i64 i] 51)).drew.cell? ⟨E, 0, none⟩ = some (.int .u8 28) := by simp [go_sem, *]
  all_goals have g1 : (w.alloc (.cells #[.int .u8 28, .int .i64 a, .int .i64 b, .int .i64 c, .int .i64 i] 51)).drew.cell? ⟨E, 1, none⟩ = some (.int .i64 a) := by simp [go_sem, *]
  all_goals have g2 : (w.alloc (.cells #[.int .u8 28, .int .i64 a, .int .i64 b, .int .i64 c, .int .i64 i] 51)).drew.cell? ⟨E, 2, none⟩ = some (.int .i64 b) := by simp [go_sem, *]
  all_goals have g3 : (w.alloc (.cells #[.int .u8 28, .int .i64 a, .int .i64 b, .int .i64 c, .int .i64 i] 51)).drew.cell? ⟨E, 3, none⟩ = some (.int .i64 c) := by simp [go_sem, *]
  all_goals have g4 : (w.alloc (.cells #[.int .u8 28, .int .i64 a, .int .i64 b, .int .i64 c, .int .i64 i] 51)).drew.cell? ⟨E, 4, none⟩ = some (.int .i64 i) := by simp [go_sem, *]
  all_goals have g5 : (w.alloc (.cells #[.int .u8 28, .int .i64 a, .int .i64 b, .int .i64 c, .int .i64 i] 51)).drew.cell? ⟨E, 5, none⟩ = some (.int .i64 pc) := by simp [go_sem, *]
  all_goals have g6 : (w.alloc (.cells #[.int .u8 28, .int .i64 a, .int .i64 b, .int .i64 c, .int .i64 i] 51)).drew.cell? ⟨E, 6, none⟩ = some (.bool false) := by simp [go_sem, *]
  all_goals have g7 : (w.alloc (.cells #[.int .u8 28, .int .i64 a, .int .i64 b, .int .i64 c, .int .i64 i] 51)).drew.cell? ⟨E, 7, none⟩ = some (.int .i64 (-1)) := by simp [go_sem, *]
  all_goals have g8 : (w.alloc (.cells #[.int .u8 28, .int .i64 a, .int .i64 b, .int .i64 c, .int .i64 i] 51)).drew.cell? ⟨E, 8, none⟩ = some (.int .i32 0) := by simp [go_sem, *]
  all_goals have g9 : (w.alloc (.cells #[.int .u8 28, .int .i64 a, .int .i64 b, .int .i64 c, .int .i64 i] 51)).drew.cell? ⟨E, 9, none⟩ = some (.pointer (some ⟨S, 0, none⟩)) := by simp [go_sem, *]
  all_goals have g10 : (w.alloc (.cells #[.int .u8 28, .int .i64 a, .int .i64 b, .int .i64 c, .int .i64 i] 51)).drew.cell? ⟨E, 10, none⟩ = some (.int .i64 nx) := by simp [go_sem, *]
  all_goals have gf6 : (w.alloc (.cells #[.int .u8 28, .int .i64 a, .int .i64 b, .int .i64 c, .int .i64 i] 51)).drew.frozen? ⟨E, 6, none⟩ = false := by simp [go_sem, *]
  all_goals have gf7 : (w.alloc (.cells #[.int .u8 28, .int .i64 a, .int .i64 b, .int .i64 c, .int .i64 i] 51)).drew.frozen? ⟨E, 7, none⟩ = false := by simp [go_sem, *]
  all_goals have gf8 : (w.alloc (.cells #[.int .u8 28, .int .i64 a, .int .i64 b, .int .i64 c, .int .i64 i] 51)).drew.frozen? ⟨E, 8, none⟩ = false := by simp [go_sem, *]
  all_goals have gf10 : (w.alloc (.cells #[.int .u8 28, .int .i64 a, .int .i64 b, .int .i64 c, .int .i64 i] 51)).drew.frozen? ⟨E, 10, none⟩ = false := by simp [go_sem, *]
  all_goals have gH : (w.alloc (.cells #[.int .u8 28, .int .i64 a, .int .i64 b, .int .i64 c, .int .i64 i] 51)).drew.cell? ⟨S, 19, none⟩ = some (.int .i64 held) := by simp [go_sem, *]
  all_goals go_wp2_with fail
  all_goals refine (control_lock_ok E S a b c i pc nx locks held _ g0 g1 g2 g3 g4 g5 g6 g7 g8 g9 g10 gf6 gf7 gf8 gf10 hS (by simp; omega) hh hl gH).mono ?_
  all_goals rintro e w' ⟨S1, S2, rfl, h1, h2, hbl⟩
  all_goals have hbl2 : Below w.heap.size (w) w' := by (refine Below.trans ?_ (hbl.mono (by simp)); repeat (first | (with_reducible apply bBoth) | (with_reducible exact Below.refl _ _) | (with_reducible apply bDrewN) | (with_reducible apply Below.drew) | ((with_reducible apply bSet); (focus first | (simp; done) | (simp; omega) | omega)) | ((with_reducible apply bAlloc); (focus first | (simp; done) | (simp; omega) | omega))))
  all_goals clear hbl g0 g1 g2 g3 g4 g5 g6 g7 g8 g9 g10 gf6 gf7 gf8 gf10 gH
  all_goals go_wp2_with fail
  all_goals go_ret2
  all_goals exact prep_lock hS0w rfl hbl2 h1 h2 hrH hfH

set_option maxRecDepth 100000 in
set_option maxHeartbeats 1600000 in
theorem prep_lock_held (E S a b c : Nat) (i pc nx locks va vb vc held : Int) (mv pv : Value) (w : World) (hE0 : w.cell? ⟨E, 0, none⟩ = some (.int .u8 28)) (hE1 : w.cell? ⟨E, 1, none⟩ = some (.int .i64 a)) (hE2 : w.cell? ⟨E, 2, none⟩ = some (.int .i64 b)) (hE3 : w.cell? ⟨E, 3, none⟩ = some (.int .i64 c)) (hE4 : w.cell? ⟨E, 4, none⟩ = some (.int .i64 i)) (hE5 : w.cell? ⟨E, 5, none⟩ = some (.int .i64 pc)) (hE6 : w.cell? ⟨E, 6, none⟩ = some (.bool false)) (hE7 : w.cell? ⟨E, 7, none⟩ = some (.int .i64 (-1))) (hE8 : w.cell? ⟨E, 8, none⟩ = some (.int .i32 0)) (hE9 : w.cell? ⟨E, 9, none⟩ = some (.pointer (some ⟨S, 0, none⟩))) (hE10 : w.cell? ⟨E, 10, none⟩ = some (.int .i64 nx)) (hF6 : w.frozen? ⟨E, 6, none⟩ = false) (hF7 : w.frozen? ⟨E, 7, none⟩ = false) (hF8 : w.frozen? ⟨E, 8, none⟩ = false) (hF10 : w.frozen? ⟨E, 10, none⟩ = false)
    (hS : S < E) (hEw : E < w.heap.size) (hh : 0 ≤ held) (hrH : w.cell? ⟨S, 19, none⟩ = some (.int .i64 held)) (hfH : w.frozen? ⟨S, 19, none⟩ = false) :
    Calls Tryd.prog 28 #[.pointer (some ⟨E, 0, none⟩), .int .i64 locks, mv, pv] w (fun e w' => e = .returned (.tuple #[.nilFunc, .int .i64 12]) ∧ Below w.heap.size w w') := by
  have hmf : ∀ (fn : Fn) (first cap : Array Value) (w : World), (Instr.makeFunc fn first cap).run Tryd.prog w = .ok (.func fn first cap) w := fun _ _ _ _ => rfl
  have hE0w : E < w.heap.size + 1 := by omega
  have hS0w : S < w.heap.size := by omega
  have hS1w : S < w.heap.size + 1 := by omega
  go_enter Tryd.func28, Tryd.ntmps28
  go_wp2_with fail
  go_region
  all_goals have g0 : (w.alloc (.cells #[.int .u8 28, .int .i64 a, .int .i64 b, .int .i64 c, .int .i64 i] 51)).drew.cell? ⟨E, 0, none⟩ = some (.int .u8 28) := by simp [go_sem, *]
  all_goals have g1 : (w.alloc (.cells #[.int .u8 28, .int .i64 a, .int .i64 b, .int .i64 c, .int .i64 i] 51)).drew.cell? ⟨E, 1, none⟩ = some (.int .i64 a) := by simp [go_sem, *]
  all_goals have g2 : (w.alloc (.cells #[.int .u8 28, .int .i64 a, .int .i64 b, .int .i64 c, .int .i64 i] 51)).drew.cell? ⟨E, 2, none⟩ = some (.int .i64 b) := by simp [go_sem, *]
  all_goals have g3 : (w.alloc (.cells #[.int .u8 28, .int .i64 a, .int .i64 b, .int .i64 c, .int .i64 i] 51)).drew.cell? ⟨E, 3, none⟩ = some (.int .i64 c) := by simp [go_sem, *]
  all_goals have g4 : (w.alloc (.cells #[.int .u8 28, .int .i64 a, .int .i64 b, .int .i64 c, .int .i64 i] 51)).drew.cell? ⟨E, 4, none⟩ = some (.int .i64 i) := by simp [go_sem, *]
  all_goals have g5 : (w.alloc (.cells #[.int .u8 28, .int .i64 a, .int .i64 b, .int .i64 c, .int .i64 i] 51)).drew.cell? ⟨E, 5, none⟩ = some (.int .i64 pc) := by simp [go_sem, *]
  all_goals have g6 : (w.alloc (.cells #[.int .u8 28, .int .i64 a, .int .i64 b, .int .i64 c, .int .i64 i] 51)).drew.cell? ⟨E, 6, none⟩ = some (.bool false) := by simp [go_sem, *]
  all_goals have g7 : (w.alloc (.cells #[.int .u8 28, .int .i64 a, .int .i64 b, .int .i64 c, .int .i64 i] 51)).drew.cell? ⟨E, 7, none⟩ = some (.int .i64 (-1)) := by simp [go_sem, *]
  all_goals have g8 : (w.alloc (.cells #[.int .u8 28, .int .i64 a, .int .i64 b, .int .i64 c, .int .i64 i] 51)).drew.cell? ⟨E, 8, none⟩ = some (.int .i32 0) := by simp [go_sem, *]
  all_goals have g9 : (w.alloc (.cells #[.int .u8 28, .int .i64 a, .int .i64 b, .int .i64 c, .int .i64 i] 51)).drew.cell? ⟨E, 9, none⟩ = some (.pointer (some ⟨S, 0, none⟩)) := by simp [go_sem, *]
  all_goals have g10 : (w.alloc (.cells #[.int .u8 28, .int .i64 a, .int .i64 b, .int .i64 c, .int .i64 i] 51)).drew.cell? ⟨E, 10, none⟩ = some (.int .i64 nx) := by simp [go_sem, *]
  all_goals have gf6 : (w.alloc (.cells #[.int .u8 28, .int .i64 a, .int .i64 b, .int .i64 c, .int .i64 i] 51)).drew.frozen? ⟨E, 6, none⟩ = false := by simp [go_sem, *]
  all_goals have gf7 : (w.alloc (.cells #[.int .u8 28, .int .i64 a, .int .i64 b, .int .i64 c, .int .i64 i] 51)).drew.frozen? ⟨E, 7, none⟩ = false := by simp [go_sem, *]
  all_goals have gf8 : (w.alloc (.cells #[.int .u8 28, .int .i64 a, .int .i64 b, .int .i64 c, .int .i64 i] 51)).drew.frozen? ⟨E, 8, none⟩ = false := by simp [go_sem, *]
  all_goals have gf10 : (w.alloc (.cells #[.int .u8 28, .int .i64 a, .int .i64 b, .int .i64 c, .int .i64 i] 51)).drew.frozen? ⟨E, 10, none⟩ = false := by simp [go_sem, *]
  all_goals have gH : (w.alloc (.cells #[.int .u8 28, .int .i64 a, .int .i64 b, .int .i64 c, .int .i64 i] 51)).drew.cell? ⟨S, 19, none⟩ = some (.int .i64 held) := by simp [go_sem, *]
  all_goals go_wp2_with fail
  all_goals refine (control_lock_held E S a b c i pc nx locks held _ g0 g1 g2 g3 g4 g5 g6 g7 g8 g9 g10 gf6 gf7 gf8 gf10 hS (by simp; omega) hh gH).mono ?_
  all_goals rintro e w' ⟨rfl, hbl⟩
  all_goals have hbl2 : Below w.heap.size (w) w' := by (refine Below.trans ?_ (hbl.mono (by simp)); repeat (first | (with_reducible apply bBoth) | (with_reducible exact Below.refl _ _) | (with_reducible apply bDrewN) | (with_reducible apply Below.drew) | ((with_reducible apply bSet); (focus first | (simp; done) | (simp; omega) | omega)) | ((with_reducible apply bAlloc); (focus first | (simp; done) | (simp; omega) | omega))))
  all_goals clear hbl g0 g1 g2 g3 g4 g5 g6 g7 g8 g9 g10 gf6 gf7 gf8 gf10 gH
  all_goals go_wp2_with fail
  all_goals go_ret2
  all_goals exact ⟨rfl, hbl2⟩

set_option maxRecDepth 100000 in
set_option maxHeartbeats 1600000 in
theorem prep_lock_many (E S a b c : Nat) (i pc nx locks va vb vc held : Int) (mv pv : Value) (w : World) (hE0 : w.cell? ⟨E, 0, none⟩ = some (.int .u8 28)) (hE1 : w.cell? ⟨E, 1, none⟩ = some (.int .i64 a)) (hE2 : w.cell? ⟨E, 2, none⟩ = some (.int .i64 b)) (hE3 : w.cell? ⟨E, 3, none⟩ = some (.int .i64 c)) (hE4 : w.cell? ⟨E, 4, none⟩ = some (.int .i64 i)) (hE5 : w.cell? ⟨E, 5, none⟩ = some (.int .i64 pc)) (hE6 : w.cell? ⟨E, 6, none⟩ = some (.bool false)) (hE7 : w.cell? ⟨E, 7, none⟩ = some (.int .i64 (-1))) (hE8 : w.cell? ⟨E, 8, none⟩ = some (.int .i32 0)) (hE9 : w.cell? ⟨E, 9, none⟩ = some (.pointer (some ⟨S, 0, none⟩))) (hE10 : w.cell? ⟨E, 10, none⟩ = some (.int .i64 nx)) (hF6 : w.frozen? ⟨E, 6, none⟩ = false) (hF7 : w.frozen? ⟨E, 7, none⟩ = false) (hF8 : w.frozen? ⟨E, 8, none⟩ = false) (hF10 : w.frozen? ⟨E, 10, none⟩ = false)
    (hS : S < E) (hEw : E < w.heap.size) (hh : held < 0) (hl : locks ≤ i) (hrH : w.cell? ⟨S, 19, none⟩ = some (.int .i64 held)) (hfH : w.frozen? ⟨S, 19, none⟩ = false) :
    Calls Tryd.prog 28 #[.pointer (some ⟨E, 0, none⟩), .int .i64 locks, mv, pv] w (fun e w' => e = .returned (.tuple #[.nilFunc, .int .i64 12]) ∧ Below w.heap.size w w') := by
  have hmf : ∀ (fn : Fn) (first cap : Array Value) (w : World), (Instr.makeFunc fn first cap).run Tryd.prog w = .ok (.func fn first cap) w := fun _ _ _ _ => rfl
  have hE0w : E < w.heap.size + 1 := by omega
  have hS0w : S < w.heap.size := by omega
  have hS1w : S < w.heap.size + 1 := by omega
  go_enter Tryd.func28, Tryd.ntmps28
  go_wp2_with fail
  go_region
  all_goals have g0 : (w.alloc (.cells #[.int .u8 28, .int .i64 a, .int .i64 b, .int .i64 c, .int .i64 i] 51)).drew.cell? ⟨E, 0, none⟩ = some (.int .u8 28) := by simp [go_sem, *]
  all_goals have g1 : (w.alloc (.cells #[.int .u8 28, .int .i64 a, .int .i64 b, .int .i64 c, .int .i64 i] 51)).drew.cell? ⟨E, 1, none⟩ = some (.int .i64 a) := by simp [go_sem, *]
  all_goals have g2 : (w.alloc (.cells #[.int .u8 28, .int .i64 a, .int .i64 b, .int .i64 c, .int .i64 i] 51)).drew.cell? ⟨E, 2, none⟩ = some (.int .i64 b) := by simp [go_sem, *]
  all_goals have g3 : (w.alloc (.cells #[.int .u8 28, .int .i64 a, .int .i64 b, .int .i64 c, .int .i64 i] 51)).drew.cell? ⟨E, 3, none⟩ = some (.int .i64 c) := by simp [go_sem, *]
  all_goals have g4 : (w.alloc (.cells #[.int .u8 28, .int .i64 a, .int .i64 b, .int .i64 c, .int .i64 i] 51)).drew.cell? ⟨E, 4, none⟩ = some (.int .i64 i) := by simp [go_sem, *]
  all_goals have g5 : (w.alloc (.cells #[.int .u8 28, .int .i64 a, .int .i64 b, .int .i64 c, .int .i64 i] 51)).drew.cell? ⟨E, 5, none⟩ = some (.int .i64 pc) := by simp [go_sem, *]
  all_goals have g6 : (w.alloc (.cells #[.int .u8 28, .int .i64 a, .int .i64 b, .int .i64 c, .int .i64 i] 51)).drew.cell? ⟨E, 6, none⟩ = some (.bool false) := by simp [go_sem, *]
  all_goals have g7 : (w.alloc (.cells #[.int .u8 28, .int .i64 a, .int .i64 b, .int .i64 c, .int .i64 i] 51)).drew.cell? ⟨E, 7, none⟩ = some (.int .i64 (-1)) := by simp [go_sem, *]
  all_goals have g8 : (w.alloc (.cells #[.int .u8 28, .int .i64 a, .int .i64 b, .int .i64 c, .int .i64 i] 51)).drew.cell? ⟨E, 8, none⟩ = some (.int .i32 0) := by simp [go_sem, *]
  all_goals have g9 : (w.alloc (.cells #[.int .u8 28, .int .i64 a, .int .i64 b, .int .i64 c, .int .i64 i] 51)).drew.cell? ⟨E, 9, none⟩ = some (.pointer (some ⟨S, 0, none⟩)) := by simp [go_sem, *]
  all_goals have g10 : (w.alloc (.cells #[.int .u8 28, .int .i64 a, .int .i64 b, .int .i64 c, .int .i64 i] 51)).drew.cell? ⟨E, 10, none⟩ = some (.int .i64 nx) := by simp [go_sem, *]
  all_goals have gf6 : (w.alloc (.cells #[.int .u8 28, .int .i64 a, .int .i64 b, .int .i64 c, .int .i64 i] 51)).drew.frozen? ⟨E, 6, none⟩ = false := by simp [go_sem, *]
  all_goals have gf7 : (w.alloc (.cells #[.int .u8 28, .int .i64 a, .int .i64 b, .int .i64 c, .int .i64 i] 51)).drew.frozen? ⟨E, 7, none⟩ = false := by simp [go_sem, *]
  all_goals have gf8 : (w.alloc (.cells #[.int .u8 28, .int .i64 a, .int .i64 b, .int .i64 c, .int .i64 i] 51)).drew.frozen? ⟨E, 8, none⟩ = false := by simp [go_sem, *]
  all_goals have gf10 : (w.alloc (.cells #[.int .u8 28, .int .i64 a, .int .i64 b, .int .i64 c, .int .i64 i] 51)).drew.frozen? ⟨E, 10, none⟩ = false := by simp [go_sem, *]
  all_goals have gH : (w.alloc (.cells #[.int .u8 28, .int .i64 a, .int .i64 b, .int .i64 c, .int .i64 i] 51)).drew.cell? ⟨S, 19, none⟩ = some (.int .i64 held) := by simp [go_sem, *]
  all_goals go_wp2_with fail
  all_goals refine (control_lock_many E S a b c i pc nx locks held _ g0 g1 g2 g3 g4 g5 g6 g7 g8 g9 g10 gf6 gf7 gf8 gf10 hS (by simp; omega) hh hl gH).mono ?_
  all_goals rintro e w' ⟨rfl, hbl⟩
  all_goals have hbl2 : Below w.heap.size (w) w' := by (refine Below.trans ?_ (hbl.mono (by simp)); repeat (first | (with_reducible apply bBoth) | (with_reducible exact Below.refl _ _) | (with_reducible apply bDrewN) | (with_reducible apply Below.drew) | ((with_reducible apply bSet); (focus first | (simp; done) | (simp; omega) | omega)) | ((with_reducible apply bAlloc); (focus first | (simp; done) | (simp; omega) | omega))))
  all_goals clear hbl g0 g1 g2 g3 g4 g5 g6 g7 g8 g9 g10 gf6 gf7 gf8 gf10 gH
  all_goals go_wp2_with fail
  all_goals go_ret2
  all_goals exact ⟨rfl, hbl2⟩

set_option maxRecDepth 100000 in
set_option maxHeartbeats 1600000 in
theorem prep_unlock_ok (E S a b c : Nat) (i pc nx locks va vb vc : Int) (mv pv : Value) (w : World) (hE0 : w.cell? ⟨E, 0, none⟩ = some (.int .u8 29)) (hE1 : w.cell? ⟨E, 1, none⟩ = some (.int .i64 a)) (hE2 : w.cell? ⟨E, 2, none⟩ = some (.int .i64 b)) (hE3 : w.cell? ⟨E, 3, none⟩ = some (.int .i64 c)) (hE4 : w.cell? ⟨E, 4, none⟩ = some (.int .i64 i)) (hE5 : w.cell? ⟨E, 5, none⟩ = some (.int .i64 pc)) (hE6 : w.cell? ⟨E, 6, none⟩ = some (.bool false)) (hE7 : w.cell? ⟨E, 7, none⟩ = some (.int .i64 (-1))) (hE8 : w.cell? ⟨E, 8, none⟩ = some (.int .i32 0)) (hE9 : w.cell? ⟨E, 9, none⟩ = some (.pointer (some ⟨S, 0, none⟩))) (hE10 : w.cell? ⟨E, 10, none⟩ = some (.int .i64 nx)) (hF6 : w.frozen? ⟨E, 6, none⟩ = false) (hF7 : w.frozen? ⟨E, 7, none⟩ = false) (hF8 : w.frozen? ⟨E, 8, none⟩ = false) (hF10 : w.frozen? ⟨E, 10, none⟩ = false)
    (hS : S < E) (hEw : E < w.heap.size)  (hrH : w.cell? ⟨S, 19, none⟩ = some (.int .i64 i)) (hfH : w.frozen? ⟨S, 19, none⟩ = false) :
    Calls Tryd.prog 28 #[.pointer (some ⟨E, 0, none⟩), .int .i64 locks, mv, pv] w (PrepOk w (w) (w.setCell ⟨S, 19, none⟩ (.int .i64 (-1))) (0)) := by
  have hmf : ∀ (fn : Fn) (first cap : Array Value) (w : World), (Instr.makeFunc fn first cap).run Tryd.prog w = .ok (.func fn first cap) w := fun _ _ _ _ => rfl
  have hE0w : E < w.heap.size + 1 := by omega
  have hS0w : S < w.heap.size := by omega
  have hS1w : S < w.heap.size + 1 := by omega
  go_enter Tryd.func28, Tryd.ntmps28
  go_wp2_with fail
  go_region
  all_goals have g0 : (w.alloc (.cells #[.int .u8 29, .int .i64 a, .int .i64 b, .int .i64 c, .int .i64 i] 51)).drew.cell? ⟨E, 0, none⟩ = some (.int .u8 29) := by simp [go_sem, *]
  all_goals have g1 : (w.alloc (.cells #[.int .u8 29, .int .i64 a, .int .i64 b, .int .i64 c, .int .i64 i] 51)).drew.cell? ⟨E, 1, none⟩ = some (.int .i64 a) := by simp [go_sem, *]
  all_goals have g2 : (w.alloc (.cells #[.int .u8 29, .int .i64 a, .int .i64 b, .int .i64 c, .int .i64 i] 51)).drew.cell? ⟨E, 2, none⟩ = some (.int .i64 b) := by simp [go_sem, *]
  all_goals have g3 : (w.alloc (.cells #[.int .u8 29, .int .i64 a, .int .i64 b, .int .i64 c, .int .i64 i] 51)).drew.cell? ⟨E, 3, none⟩ = some (.int .i64 c) := by simp [go_sem, *]
  all_goals have g4 : (w.alloc (.cells #[.int .u8 29, .int .i64 a, .int .i64 b, .int .i64 c, .int .i64 i] 51)).drew.cell? ⟨E, 4, none⟩ = some (.int .i64 i) := by simp [go_sem, *]
  all_goals have g5 : (w.alloc (.cells #[.int .u8 29, .int .i64 a, .int .i64 b, .int .i64 c, .int .i64 i] 51)).drew.cell? ⟨E, 5, none⟩ = some (.int .i64 pc) := by simp [go_sem, *]
  all_goals have g6 : (w.alloc (.cells #[.int .u8 29, .int .i64 a, .int .i64 b, .int .i64 c, .int .i64 i] 51)).drew.cell? ⟨E, 6, none⟩ = some (.bool false) := by simp [go_sem, *]
  all_goals have g7 : (w.alloc (.cells #[.int .u8 29, .int .i64 a, .int .i64 b, .int .i64 c, .int .i64 i] 51)).drew.cell? ⟨E, 7, none⟩ = some (.int .i64 (-1)) := by simp [go_sem, *]
  all_goals have g8 : (w.alloc (.cells #[.int .u8 29, .int .i64 a, .int .i64 b, .int .i64 c, .int .i64 i] 51)).drew.cell? ⟨E, 8, none⟩ = some (.int .i32 0) := by simp [go_sem, *]
  all_goals have g9 : (w.alloc (.cells #[.int .u8 29, .int .i64 a, .int .i64 b, .int .i64 c, .int .i64 i] 51)).drew.cell? ⟨E, 9, none⟩ = some (.pointer (some ⟨S, 0, none⟩)) := by simp [go_sem, *]
  all_goals have g10 : (w.alloc (.cells #[.int .u8 29, .int .i64 a, .int .i64 b, .int .i64 c, .int .i64 i] 51)).drew.cell? ⟨E, 10, none⟩ = some (.int .i64 nx) := by simp [go_sem, *]
  all_goals have gf6 : (w.alloc (.cells #[.int .u8 29, .int .i64 a, .int .i64 b, .int .i64 c, .int .i64 i] 51)).drew.frozen? ⟨E, 6, none⟩ = false := by simp [go_sem, *]
  all_goals have gf7 : (w.alloc (.cells #[.int .u8 29, .int .i64 a, .int .i64 b, .int .i64 c, .int .i64 i] 51)).drew.frozen? ⟨E, 7, none⟩ = false := by simp [go_sem, *]
  all_goals have gf8 : (w.alloc (.cells #[.int .u8 29, .int .i64 a, .int .i64 b, .int .i64 c, .int .i64 i] 51)).drew.frozen? ⟨E, 8, none⟩ = false := by simp [go_sem, *]
  all_goals have gf10 : (w.alloc (.cells #[.int .u8 29, .int .i64 a, .int .i64 b, .int .i64 c, .int .i64 i] 51)).drew.frozen? ⟨E, 10, none⟩ = false := by simp [go_sem, *]
  all_goals have gH : (w.alloc (.cells #[.int .u8 29, .int .i64 a, .int .i64 b, .int .i64 c, .int .i64 i] 51)).drew.cell? ⟨S, 19, none⟩ = some (.int .i64 i) := by simp [go_sem, *]
  all_goals go_wp2_with fail
  all_goals refine (control_unlock_ok E S a b c i pc nx locks _ g0 g1 g2 g3 g4 g5 g6 g7 g8 g9 g10 gf6 gf7 gf8 gf10 hS (by simp; omega)  gH).mono ?_
  all_goals rintro e w' ⟨S2, rfl, h2, hbl⟩
  all_goals have hbl2 : Below w.heap.size (w) w' := by (refine Below.trans ?_ (hbl.mono (by simp)); repeat (first | (with_reducible apply bBoth) | (with_reducible exact Below.refl _ _) | (with_reducible apply bDrewN) | (with_reducible apply Below.drew) | ((with_reducible apply bSet); (focus first | (simp; done) | (simp; omega) | omega)) | ((with_reducible apply bAlloc); (focus first | (simp; done) | (simp; omega) | omega))))
  all_goals clear hbl g0 g1 g2 g3 g4 g5 g6 g7 g8 g9 g10 gf6 gf7 gf8 gf10 gH
  all_goals go_wp2_with fail
  all_goals go_ret2
  all_goals exact prep_unlock hS0w rfl hbl2 h2 hrH hfH

set_option maxRecDepth 100000 in
set_option maxHeartbeats 1600000 in
theorem prep_unlock_bad (E S a b c : Nat) (i pc nx locks va vb vc held : Int) (mv pv : Value) (w : World) (hE0 : w.cell? ⟨E, 0, none⟩ = some (.int .u8 29)) (hE1 : w.cell? ⟨E, 1, none⟩ = some (.int .i64 a)) (hE2 : w.cell? ⟨E, 2, none⟩ = some (.int .i64 b)) (hE3 : w.cell? ⟨E, 3, none⟩ = some (.int .i64 c)) (hE4 : w.cell? ⟨E, 4, none⟩ = some (.int .i64 i)) (hE5 : w.cell? ⟨E, 5, none⟩ = some (.int .i64 pc)) (hE6 : w.cell? ⟨E, 6, none⟩ = some (.bool false)) (hE7 : w.cell? ⟨E, 7, none⟩ = some (.int .i64 (-1))) (hE8 : w.cell? ⟨E, 8, none⟩ = some (.int .i32 0)) (hE9 : w.cell? ⟨E, 9, none⟩ = some (.pointer (some ⟨S, 0, none⟩))) (hE10 : w.cell? ⟨E, 10, none⟩ = some (.int .i64 nx)) (hF6 : w.frozen? ⟨E, 6, none⟩ = false) (hF7 : w.frozen? ⟨E, 7, none⟩ = false) (hF8 : w.frozen? ⟨E, 8, none⟩ = false) (hF10 : w.frozen? ⟨E, 10, none⟩ = false)
    (hS : S < E) (hEw : E < w.heap.size) (hh : (held == i) = false) (hrH : w.cell? ⟨S, 19, none⟩ = some (.int .i64 held)) (hfH : w.frozen? ⟨S, 19, none⟩ = false) :
    Calls Tryd.prog 28 #[.pointer (some ⟨E, 0, none⟩), .int .i64 locks, mv, pv] w (fun e w' => e = .returned (.tuple #[.nilFunc, .int .i64 12]) ∧ Below w.heap.size w w') := by
  have hmf : ∀ (fn : Fn) (first cap : Array Value) (w : World), (Instr.makeFunc fn first cap).run Tryd.prog w = .ok (.func fn first cap) w := fun _ _ _ _ => rfl
  have hE0w : E < w.heap.size + 1 := by omega
  have hS0w : S < w.heap.size := by omega
  have hS1w : S < w.heap.size + 1 := by omega
  go_enter Tryd.func28, Tryd.ntmps28
  go_wp2_with fail
  go_region
  all_goals have g0 : (w.alloc (.cells #[.int .u8 29, .int .i64 a, .int .i64 b, .int .i64 c, .int .i64 i] 51)).drew.cell? ⟨E, 0, none⟩ = some (.int .u8 29) := by simp [go_sem, *]
  all_goals have g1 : (w.alloc (.cells #[.int .u8 29, .int .i64 a, .int .i64 b, .int .i64 c, .int .i64 i] 51)).drew.cell? ⟨E, 1, none⟩ = some (.int .i64 a) := by simp [go_sem, *]
  all_goals have g2 : (w.alloc (.cells #[.int .u8 29, .int .i64 a, .int .i64 b, .int .i64 c, .int .i64 i] 51)).drew.cell? ⟨E, 2, none⟩ = some (.int .i64 b) := by simp [go_sem, *]
  all_goals have g3 : (w.alloc (.cells #[.int .u8 29, .int .i64 a, .int .i64 b, .int .i64 c, .int .i64 i] 51)).drew.cell? ⟨E, 3, none⟩ = some (.int .i64 c) := by simp [go_sem, *]
  all_goals have g4 : (w.alloc (.cells #[.int .u8 29, .int .i64 a, .int .i64 b, .int .i64 c, .int .i64 i] 51)).drew.cell? ⟨E, 4, none⟩ = some (.int .i64 i) := by simp [go_sem, *]
  all_goals have g5 : (w.alloc (.cells #[.int .u8 29, .int .i64 a, .int .i64 b, .int .i64 c, .int .i64 i] 51)).drew.cell? ⟨E, 5, none⟩ = some (.int .i64 pc) := by simp [go_sem, *]
  all_goals have g6 : (w.alloc (.cells #[.int .u8 29, .int .i64 a, .int .i64 b, .int .i64 c, .int .i64 i] 51)).drew.cell? ⟨E, 6, none⟩ = some (.bool false) := by simp [go_sem, *]
  all_goals have g7 : (w.alloc (.cells #[.int .u8 29, .int .i64 a, .int .i64 b, .int .i64 c, .int .i64 i] 51)).drew.cell? ⟨E, 7, none⟩ = some (.int .i64 (-1)) := by simp [go_sem, *]
  all_goals have g8 : (w.alloc (.cells #[.int .u8 29, .int .i64 a, .int .i64 b, .int .i64 c, .int .i64 i] 51)).drew.cell? ⟨E, 8, none⟩ = some (.int .i32 0) := by simp [go_sem, *]
  all_goals have g9 : (w.alloc (.cells #[.int .u8 29, .int .i64 a, .int .i64 b, .int .i64 c, .int .i64 i] 51)).drew.cell? ⟨E, 9, none⟩ = some (.pointer (some ⟨S, 0, none⟩)) := by simp [go_sem, *]
  all_goals have g10 : (w.alloc (.cells #[.int .u8 29, .int .i64 a, .int .i64 b, .int .i64 c, .int .i64 i] 51)).drew.cell? ⟨E, 10, none⟩ = some (.int .i64 nx) := by simp [go_sem, *]
  all_goals have gf6 : (w.alloc (.cells #[.int .u8 29, .int .i64 a, .int .i64 b, .int .i64 c, .int .i64 i] 51)).drew.frozen? ⟨E, 6, none⟩ = false := by simp [go_sem, *]
  all_goals have gf7 : (w.alloc (.cells #[.int .u8 29, .int .i64 a, .int .i64 b, .int .i64 c, .int .i64 i] 51)).drew.frozen? ⟨E, 7, none⟩ = false := by simp [go_sem, *]
  all_goals have gf8 : (w.alloc (.cells #[.int .u8 29, .int .i64 a, .int .i64 b, .int .i64 c, .int .i64 i] 51)).drew.frozen? ⟨E, 8, none⟩ = false := by simp [go_sem, *]
  all_goals have gf10 : (w.alloc (.cells #[.int .u8 29, .int .i64 a, .int .i64 b, .int .i64 c, .int .i64 i] 51)).drew.frozen? ⟨E, 10, none⟩ = false := by simp [go_sem, *]
  all_goals have gH : (w.alloc (.cells #[.int .u8 29, .int .i64 a, .int .i64 b, .int .i64 c, .int .i64 i] 51)).drew.cell? ⟨S, 19, none⟩ = some (.int .i64 held) := by simp [go_sem, *]
  all_goals go_wp2_with fail
  all_goals refine (control_unlock_bad E S a b c i pc nx locks held _ g0 g1 g2 g3 g4 g5 g6 g7 g8 g9 g10 gf6 gf7 gf8 gf10 hS (by simp; omega) hh gH).mono ?_
  all_goals rintro e w' ⟨rfl, hbl⟩
  all_goals have hbl2 : Below w.heap.size (w) w' := by (refine Below.trans ?_ (hbl.mono (by simp)); repeat (first | (with_reducible apply bBoth) | (with_reducible exact Below.refl _ _) | (with_reducible apply bDrewN) | (with_reducible apply Below.drew) | ((with_reducible apply bSet); (focus first | (simp; done) | (simp; omega) | omega)) | ((with_reducible apply bAlloc); (focus first | (simp; done) | (simp; omega) | omega))))
  all_goals clear hbl g0 g1 g2 g3 g4 g5 g6 g7 g8 g9 g10 gf6 gf7 gf8 gf10 gH
  all_goals go_wp2_with fail
  all_goals go_ret2
  all_goals exact ⟨rfl, hbl2⟩

set_option maxRecDepth 100000 in
set_option maxHeartbeats 1600000 in
theorem prep_halt_ok (E S a b c : Nat) (i pc nx locks va vb vc held : Int) (mv pv : Value) (w : World) (hl : Bool) (hE0 : w.cell? ⟨E, 0, none⟩ = some (.int .u8 1)) (hE1 : w.cell? ⟨E, 1, none⟩ = some (.int .i64 a)) (hE2 : w.cell? ⟨E, 2, none⟩ = some (.int .i64 b)) (hE3 : w.cell? ⟨E, 3, none⟩ = some (.int .i64 c)) (hE4 : w.cell? ⟨E, 4, none⟩ = some (.int .i64 i)) (hE5 : w.cell? ⟨E, 5, none⟩ = some (.int .i64 pc)) (hE6 : w.cell? ⟨E, 6, none⟩ = some (.bool false)) (hE7 : w.cell? ⟨E, 7, none⟩ = some (.int .i64 (-1))) (hE8 : w.cell? ⟨E, 8, none⟩ = some (.int .i32 0)) (hE9 : w.cell? ⟨E, 9, none⟩ = some (.pointer (some ⟨S, 0, none⟩))) (hE10 : w.cell? ⟨E, 10, none⟩ = some (.int .i64 nx)) (hF6 : w.frozen? ⟨E, 6, none⟩ = false) (hF7 : w.frozen? ⟨E, 7, none⟩ = false) (hF8 : w.frozen? ⟨E, 8, none⟩ = false) (hF10 : w.frozen? ⟨E, 10, none⟩ = false)
    (hS : S < E) (hEw : E < w.heap.size) (hh : held < 0) (hrH : w.cell? ⟨S, 19, none⟩ = some (.int .i64 held)) (hfH : w.frozen? ⟨S, 19, none⟩ = false) (hrL : w.cell? ⟨S, 18, none⟩ = some (.bool hl)) (hfL : w.frozen? ⟨S, 18, none⟩ = false) :
    Calls Tryd.prog 28 #[.pointer (some ⟨E, 0, none⟩), .int .i64 locks, mv, pv] w (PrepOk w (w.setCell ⟨E, 10, none⟩ (.int .i64 pc)) ((w.setCell ⟨E, 10, none⟩ (.int .i64 pc)).setCell ⟨S, 18, none⟩ (.bool true)) (0)) := by
  have hmf : ∀ (fn : Fn) (first cap : Array Value) (w : World), (Instr.makeFunc fn first cap).run Tryd.prog w = .ok (.func fn first cap) w := fun _ _ _ _ => rfl
  have hE0w : E < w.heap.size + 1 := by omega
  have hS0w : S < w.heap.size := by omega
  have hS1w : S < w.heap.size + 1 := by omega
  go_enter Tryd.func28, Tryd.ntmps28
  go_wp2_with fail
  go_region
  all_goals have g0 : (w.alloc (.cells #[.int .u8 1, .int .i64 a, .int .i64 b, .int .i64 c, .int .i64 i] 51)).drew.cell? ⟨E, 0, none⟩ = some (.int .u8 1) := by simp [go_sem, *]
  all_goals have g1 : (w.alloc (.cells #[.int .u8 1, .int .i64 a, .int .i64 b, .int .i64 c, .int .i64 i] 51)).drew.cell? ⟨E, 1, none⟩ = some (.int .i64 a) := by simp [go_sem, *]
  all_goals have g2 : (w.alloc (.cells #[.int .u8 1, .int .i64 a, .int .i64 b, .int .i64 c, .int .i64 i] 51)).drew.cell? ⟨E, 2, none⟩ = some (.int .i64 b) := by simp [go_sem, *]
  all_goals have g3 : (w.alloc (.cells #[.int .u8 1, .int .i64 a, .int .i64 b, .int .i64 c, .int .i64 i] 51)).drew.cell? ⟨E, 3, none⟩ = some (.int .i64 c) := by simp [go_sem, *]
  all_goals have g4 : (w.alloc (.cells #[.int .u8 1, .int .i64 a, .int .i64 b, .int .i64 c, .int .i64 i] 51)).drew.cell? ⟨E, 4, none⟩ = some (.int .i64 i) := by simp [go_sem, *]
  all_goals have g5 : (w.alloc (.cells #[.int .u8 1, .int .i64 a, .int .i64 b, .int .i64 c, .int .i64 i] 51)).drew.cell? ⟨E, 5, none⟩ = some (.int .i64 pc) := by simp [go_sem, *]
  all_goals have g6 : (w.alloc (.cells #[.int .u8 1, .int .i64 a, .int .i64 b, .int .i64 c, .int .i64 i] 51)).drew.cell? ⟨E, 6, none⟩ = some (.bool false) := by simp [go_sem, *]
  all_goals have g7 : (w.alloc (.cells #[.int .u8 1, .int .i64 a, .int .i64 b, .int .i64 c, .int .i64 i] 51)).drew.cell? ⟨E, 7, none⟩ = some (.int .i64 (-1)) := by simp [go_sem, *]
  all_goals have g8 : (w.alloc (.cells #[.int .u8 1, .int .i64 a, .int .i64 b, .int .i64 c, .int .i64 i] 51)).drew.cell? ⟨E, 8, none⟩ = some (.int .i32 0) := by simp [go_sem, *]
  all_goals have g9 : (w.alloc (.cells #[.int .u8 1, .int .i64 a, .int .i64 b, .int .i64 c, .int .i64 i] 51)).drew.cell? ⟨E, 9, none⟩ = some (.pointer (some ⟨S, 0, none⟩)) := by simp [go_sem, *]
  all_goals have g10 : (w.alloc (.cells #[.int .u8 1, .int .i64 a, .int .i64 b, .int .i64 c, .int .i64 i] 51)).drew.cell? ⟨E, 10, none⟩ = some (.int .i64 nx) := by simp [go_sem, *]
  all_goals have gf6 : (w.alloc (.cells #[.int .u8 1, .int .i64 a, .int .i64 b, .int .i64 c, .int .i64 i] 51)).drew.frozen? ⟨E, 6, none⟩ = false := by simp [go_sem, *]
  all_goals have gf7 : (w.alloc (.cells #[.int .u8 1, .int .i64 a, .int .i64 b, .int .i64 c, .int .i64 i] 51)).drew.frozen? ⟨E, 7, none⟩ = false := by simp [go_sem, *]
  all_goals have gf8 : (w.alloc (.cells #[.int .u8 1, .int .i64 a, .int .i64 b, .int .i64 c, .int .i64 i] 51)).drew.frozen? ⟨E, 8, none⟩ = false := by simp [go_sem, *]
  all_goals have gf10 : (w.alloc (.cells #[.int .u8 1, .int .i64 a, .int .i64 b, .int .i64 c, .int .i64 i] 51)).drew.frozen? ⟨E, 10, none⟩ = false := by simp [go_sem, *]
  all_goals have gH : (w.alloc (.cells #[.int .u8 1, .int .i64 a, .int .i64 b, .int .i64 c, .int .i64 i] 51)).drew.cell? ⟨S, 19, none⟩ = some (.int .i64 held) := by simp [go_sem, *]
  all_goals go_wp2_with fail
  all_goals refine (control_halt_ok E S a b c i pc nx locks held _ g0 g1 g2 g3 g4 g5 g6 g7 g8 g9 g10 gf6 gf7 gf8 gf10 hS (by simp; omega) hh gH).mono ?_
  all_goals rintro e w' ⟨S2, rfl, h2, hbl⟩
  all_goals have hbl2 : Below w.heap.size (w.setCell ⟨E, 10, none⟩ (.int .i64 pc)) w' := by (refine Below.trans ?_ (hbl.mono (by simp)); repeat (first | (with_reducible apply bBoth) | (with_reducible exact Below.refl _ _) | (with_reducible apply bDrewN) | (with_reducible apply Below.drew) | ((with_reducible apply bSet); (focus first | (simp; done) | (simp; omega) | omega)) | ((with_reducible apply bAlloc); (focus first | (simp; done) | (simp; omega) | omega))))
  all_goals clear hbl g0 g1 g2 g3 g4 g5 g6 g7 g8 g9 g10 gf6 gf7 gf8 gf10 gH
  all_goals go_wp2_with fail
  all_goals go_ret2
  all_goals (refine prep_stop (old := hl) hS0w rfl hbl2 h2 ?_ ?_ <;> simp [go_sem, *])

set_option maxRecDepth 100000 in
set_option maxHeartbeats 1600000 in
theorem prep_halt_bad (E S a b c : Nat) (i pc nx locks va vb vc held : Int) (mv pv : Value) (w : World) (hE0 : w.cell? ⟨E, 0, none⟩ = some (.int .u8 1)) (hE1 : w.cell? ⟨E, 1, none⟩ = some (.int .i64 a)) (hE2 : w.cell? ⟨E, 2, none⟩ = some (.int .i64 b)) (hE3 : w.cell? ⟨E, 3, none⟩ = some (.int .i64 c)) (hE4 : w.cell? ⟨E, 4, none⟩ = some (.int .i64 i)) (hE5 : w.cell? ⟨E, 5, none⟩ = some (.int .i64 pc)) (hE6 : w.cell? ⟨E, 6, none⟩ = some (.bool false)) (hE7 : w.cell? ⟨E, 7, none⟩ = some (.int .i64 (-1))) (hE8 : w.cell? ⟨E, 8, none⟩ = some (.int .i32 0)) (hE9 : w.cell? ⟨E, 9, none⟩ = some (.pointer (some ⟨S, 0, none⟩))) (hE10 : w.cell? ⟨E, 10, none⟩ = some (.int .i64 nx)) (hF6 : w.frozen? ⟨E, 6, none⟩ = false) (hF7 : w.frozen? ⟨E, 7, none⟩ = false) (hF8 : w.frozen? ⟨E, 8, none⟩ = false) (hF10 : w.frozen? ⟨E, 10, none⟩ = false)
    (hS : S < E) (hEw : E < w.heap.size) (hh : 0 ≤ held) (hrH : w.cell? ⟨S, 19, none⟩ = some (.int .i64 held)) (hfH : w.frozen? ⟨S, 19, none⟩ = false) :
    Calls Tryd.prog 28 #[.pointer (some ⟨E, 0, none⟩), .int .i64 locks, mv, pv] w (fun e w' => e = .returned (.tuple #[.nilFunc, .int .i64 12]) ∧ Below w.heap.size w w') := by
  have hmf : ∀ (fn : Fn) (first cap : Array Value) (w : World), (Instr.makeFunc fn first cap).run Tryd.prog w = .ok (.func fn first cap) w := fun _ _ _ _ => rfl
  have hE0w : E < w.heap.size + 1 := by omega
  have hS0w : S < w.heap.size := by omega
  have hS1w : S < w.heap.size + 1 := by omega
  go_enter Tryd.func28, Tryd.ntmps28
  go_wp2_with fail
  go_region
  all_goals have g0 : (w.alloc (.cells #[.int .u8 1, .int .i64 a, .int .i64 b, .int .i64 c, .int .i64 i] 51)).drew.cell? ⟨E, 0, none⟩ = some (.int .u8 1) := by simp [go_sem, *]
  all_goals have g1 : (w.alloc (.cells #[.int .u8 1, .int .i64 a, .int .i64 b, .int .i64 c, .int .i64 i] 51)).drew.cell? ⟨E, 1, none⟩ = some (.int .i64 a) := by simp [go_sem, *]
  all_goals have g2 : (w.alloc (.cells #[.int .u8 1, .int .i64 a, .int .i64 b, .int .i64 c, .int .i64 i] 51)).drew.cell? ⟨E, 2, none⟩ = some (.int .i64 b) := by simp [go_sem, *]
  all_goals have g3 : (w.alloc (.cells #[.int .u8 1, .int .i64 a, .int .i64 b, .int .i64 c, .int .i64 i] 51)).drew.cell? ⟨E, 3, none⟩ = some (.int .i64 c) := by simp [go_sem, *]
  all_goals have g4 : (w.alloc (.cells #[.int .u8 1, .int .i64 a, .int .i64 b, .int .i64 c, .int .i64 i] 51)).drew.cell? ⟨E, 4, none⟩ = some (.int .i64 i) := by simp [go_sem, *]
  all_goals have g5 : (w.alloc (.cells #[.int .u8 1, .int .i64 a, .int .i64 b, .int .i64 c, .int .i64 i] 51)).drew.cell? ⟨E, 5, none⟩ = some (.int .i64 pc) := by simp [go_sem, *]
  all_goals have g6 : (w.alloc (.cells #[.int .u8 1, .int .i64 a, .int .i64 b, .int .i64 c, .int .i64 i] 51)).drew.cell? ⟨E, 6, none⟩ = some (.bool false) := by simp [go_sem, *]
  all_goals have g7 : (w.alloc (.cells #[.int .u8 1, .int .i64 a, .int .i64 b, .int .i64 c, .int .i64 i] 51)).drew.cell? ⟨E, 7, none⟩ = some (.int .i64 (-1)) := by simp [go_sem, *]
  all_goals have g8 : (w.alloc (.cells #[.int .u8 1, .int .i64 a, .int .i64 b, .int .i64 c, .int .i64 i] 51)).drew.cell? ⟨E, 8, none⟩ = some (.int .i32 0) := by simp [go_sem, *]
  all_goals have g9 : (w.alloc (.cells #[.int .u8 1, .int .i64 a, .int .i64 b, .int .i64 c, .int .i64 i] 51)).drew.cell? ⟨E, 9, none⟩ = some (.pointer (some ⟨S, 0, none⟩)) := by simp [go_sem, *]
  all_goals have g10 : (w.alloc (.cells #[.int .u8 1, .int .i64 a, .int .i64 b, .int .i64 c, .int .i64 i] 51)).drew.cell? ⟨E, 10, none⟩ = some (.int .i64 nx) := by simp [go_sem, *]
  all_goals have gf6 : (w.alloc (.cells #[.int .u8 1, .int .i64 a, .int .i64 b, .int .i64 c, .int .i64 i] 51)).drew.frozen? ⟨E, 6, none⟩ = false := by simp [go_sem, *]
  all_goals have gf7 : (w.alloc (.cells #[.int .u8 1, .int .i64 a, .int .i64 b, .int .i64 c, .int .i64 i] 51)).drew.frozen? ⟨E, 7, none⟩ = false := by simp [go_sem, *]
  all_goals have gf8 : (w.alloc (.cells #[.int .u8 1, .int .i64 a, .int .i64 b, .int .i64 c, .int .i64 i] 51)).drew.frozen? ⟨E, 8, none⟩ = false := by simp [go_sem, *]
  all_goals have gf10 : (w.alloc (.cells #[.int .u8 1, .int .i64 a, .int .i64 b, .int .i64 c, .int .i64 i] 51)).drew.frozen? ⟨E, 10, none⟩ = false := by simp [go_sem, *]
  all_goals have gH : (w.alloc (.cells #[.int .u8 1, .int .i64 a, .int .i64 b, .int .i64 c, .int .i64 i] 51)).drew.cell? ⟨S, 19, none⟩ = some (.int .i64 held) := by simp [go_sem, *]
  all_goals go_wp2_with fail
  all_goals refine (control_halt_bad E S a b c i pc nx locks held _ g0 g1 g2 g3 g4 g5 g6 g7 g8 g9 g10 gf6 gf7 gf8 gf10 hS (by simp; omega) hh gH).mono ?_
  all_goals rintro e w' ⟨rfl, hbl⟩
  all_goals have hbl2 : Below w.heap.size (w) w' := by (refine Below.trans ?_ (hbl.mono (by simp)); repeat (first | (with_reducible apply bBoth) | (with_reducible exact Below.refl _ _) | (with_reducible apply bDrewN) | (with_reducible apply Below.drew) | ((with_reducible apply bSet); (focus first | (simp; done) | (simp; omega) | omega)) | ((with_reducible apply bAlloc); (focus first | (simp; done) | (simp; omega) | omega))))
  all_goals clear hbl g0 g1 g2 g3 g4 g5 g6 g7 g8 g9 g10 gf6 gf7 gf8 gf10 gH
  all_goals go_wp2_with fail
  all_goals go_ret2
  all_goals exact ⟨rfl, hbl2⟩

end Go.Proofs.YtpachmkklppmjaaDoor
