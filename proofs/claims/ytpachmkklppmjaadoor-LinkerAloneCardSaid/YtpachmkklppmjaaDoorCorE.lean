/- core: prepare (nop, li, addi, shli, ori). -/
import Derived.Test.YtpachmkklppmjaaDoorCorC
import Derived.Test.YtpachmkklppmjaaDoorCorD
import Derived.Shelf.Abstract
set_option linter.unusedVariables false
set_option linter.unusedSimpArgs false
namespace Go.Proofs.YtpachmkklppmjaaDoor
open Go.RowKit

/-- What prepare leaves: a closure whose call turns EX into ST, and an error number. -/
def PrepOk (w EX ST : World) (er : Int) (e : Ending) (w' : World) : Prop :=
  ∃ f caps, e = .returned (.tuple #[.func (.func f) #[] caps, .int .i64 er]) ∧ Below w.heap.size EX w' ∧ Enters Tryd.prog f ∧
    Calls Tryd.prog f caps w' (fun e w'' => e = .returned (.tuple #[]) ∧ Below w.heap.size ST w'' ∧ w'.heap.size ≤ w''.heap.size)

theorem prep_nothing {w EX w' : World} {er : Int} {e : Ending} (he : e = .returned (.tuple #[.func (.func 34) #[] #[], .int .i64 er])) (hb : Below w.heap.size EX w') : PrepOk w EX EX er e w' :=
  ⟨_, _, he, hb, enters_of Tryd.func34 (by kernel_rfl) rfl, (nothing_any w').mono fun e w'' ⟨h1, h2⟩ => by subst h2; exact ⟨h1, hb, Nat.le_refl _⟩⟩

/-- What the closure of set does, whatever A is. -/
def setW (w : World) (S a : Nat) (v : Int) : World := if a = 0 then w else w.setCell ⟨S, 1 + a, none⟩ (.int .i32 v)

theorem prep_set {w EX w' : World} {er : Int} {e : Ending} {B E S a : Nat} {v old : Int} (hE : E < w.heap.size) (hS : S < w.heap.size) (ha : a < 16)
    (he : e = .returned (.tuple #[.func (.func 44) #[] #[.pointer (some ⟨B, 0, none⟩), .pointer (some ⟨B + 1, 0, none⟩)], .int .i64 er]))
    (hb : Below w.heap.size EX w') (h0 : w'.cell? ⟨B, 0, none⟩ = some (.pointer (some ⟨E, 0, none⟩))) (h1 : w'.cell? ⟨B + 1, 0, none⟩ = some (.int .i32 v))
    (hA : EX.cell? ⟨E, 1, none⟩ = some (.int .i64 a)) (h9 : EX.cell? ⟨E, 9, none⟩ = some (.pointer (some ⟨S, 0, none⟩)))
    (hr : EX.cell? ⟨S, 1 + a, none⟩ = some (.int .i32 old)) (hf : EX.frozen? ⟨S, 1 + a, none⟩ = false) : PrepOk w EX (setW EX S a v) er e w' := by
  refine ⟨_, _, he, hb, enters_of Tryd.func44 (by kernel_rfl) rfl, ?_⟩
  rw [← hb.cell (p := ⟨E, 1, none⟩) hE] at hA
  rw [← hb.cell (p := ⟨E, 9, none⟩) hE] at h9
  rw [← hb.cell (p := ⟨S, 1 + a, none⟩) hS] at hr
  rw [← hb.frozen (p := ⟨S, 1 + a, none⟩) hS] at hf
  unfold setW
  by_cases h : a = 0
  · subst h
    rw [if_pos rfl]
    exact (set1_zero B (B + 1) E w' h0 hA).mono fun e w'' ⟨h1, h2⟩ => by subst h2; exact ⟨h1, hb, Nat.le_refl _⟩
  · rw [if_neg h]
    exact (set1_any B (B + 1) E S a v old w' (by omega) ha h0 h1 hA h9 hr hf).mono fun e w'' ⟨h1, h2⟩ => by subst h2; exact ⟨h1, (bBoth hb).drew, by simp⟩

set_option maxRecDepth 100000 in
set_option maxHeartbeats 1600000 in
theorem prep_nop (E S a b c : Nat) (i pc nx locks va vb vc : Int) (mv pv : Value) (w : World) (hE0 : w.cell? ⟨E, 0, none⟩ = some (.int .u8 0)) (hE1 : w.cell? ⟨E, 1, none⟩ = some (.int .i64 a)) (hE2 : w.cell? ⟨E, 2, none⟩ = some (.int .i64 b)) (hE3 : w.cell? ⟨E, 3, none⟩ = some (.int .i64 c)) (hE4 : w.cell? ⟨E, 4, none⟩ = some (.int .i64 i)) (hE5 : w.cell? ⟨E, 5, none⟩ = some (.int .i64 pc)) (hE6 : w.cell? ⟨E, 6, none⟩ = some (.bool false)) (hE7 : w.cell? ⟨E, 7, none⟩ = some (.int .i64 (-1))) (hE8 : w.cell? ⟨E, 8, none⟩ = some (.int .i32 0)) (hE9 : w.cell? ⟨E, 9, none⟩ = some (.pointer (some ⟨S, 0, none⟩))) (hE10 : w.cell? ⟨E, 10, none⟩ = some (.int .i64 nx)) (hF6 : w.frozen? ⟨E, 6, none⟩ = false) (hF7 : w.frozen? ⟨E, 7, none⟩ = false) (hF8 : w.frozen? ⟨E, 8, none⟩ = false) (hF10 : w.frozen? ⟨E, 10, none⟩ = false)
    (hS : S < E) (hEw : E < w.heap.size)  :
    Calls Tryd.prog 28 #[.pointer (some ⟨E, 0, none⟩), .int .i64 locks, mv, pv] w (PrepOk w (w) (w) (0)) := by
  have hmf : ∀ (fn : Fn) (first cap : Array Value) (w : World), (Instr.makeFunc fn first cap).run Tryd.prog w = .ok (.func fn first cap) w := fun _ _ _ _ => rfl
  have hE0w : E < w.heap.size + 1 := by omega
  have hS0w : S < w.heap.size := by omega
  have hS1w : S < w.heap.size + 1 := by omega
  go_enter Tryd.func28, Tryd.ntmps28
  go_wp2_with fail
  go_region
  all_goals go_wp2_with fail
  all_goals go_ret2
  all_goals refine prep_nothing rfl ?_
  all_goals first | omega | (simp; done) | (simp; omega) | (simp [go_sem]; done) | (repeat (first | (with_reducible apply bBoth) | (with_reducible exact Below.refl _ _) | (with_reducible apply bDrewN) | (with_reducible apply Below.drew) | ((with_reducible apply bSet); (focus first | (simp; done) | (simp; omega) | omega)) | ((with_reducible apply bAlloc); (focus first | (simp; done) | (simp; omega) | omega))))

set_option maxRecDepth 100000 in
set_option maxHeartbeats 1600000 in
theorem prep_li (E S a b c : Nat) (i pc nx locks va vb vc : Int) (mv pv : Value) (w : World) (hE0 : w.cell? ⟨E, 0, none⟩ = some (.int .u8 14)) (hE1 : w.cell? ⟨E, 1, none⟩ = some (.int .i64 a)) (hE2 : w.cell? ⟨E, 2, none⟩ = some (.int .i64 b)) (hE3 : w.cell? ⟨E, 3, none⟩ = some (.int .i64 c)) (hE4 : w.cell? ⟨E, 4, none⟩ = some (.int .i64 i)) (hE5 : w.cell? ⟨E, 5, none⟩ = some (.int .i64 pc)) (hE6 : w.cell? ⟨E, 6, none⟩ = some (.bool false)) (hE7 : w.cell? ⟨E, 7, none⟩ = some (.int .i64 (-1))) (hE8 : w.cell? ⟨E, 8, none⟩ = some (.int .i32 0)) (hE9 : w.cell? ⟨E, 9, none⟩ = some (.pointer (some ⟨S, 0, none⟩))) (hE10 : w.cell? ⟨E, 10, none⟩ = some (.int .i64 nx)) (hF6 : w.frozen? ⟨E, 6, none⟩ = false) (hF7 : w.frozen? ⟨E, 7, none⟩ = false) (hF8 : w.frozen? ⟨E, 8, none⟩ = false) (hF10 : w.frozen? ⟨E, 10, none⟩ = false)
    (hS : S < E) (hEw : E < w.heap.size) (ha : a < 16) (hrA : w.cell? ⟨S, 1 + a, none⟩ = some (.int .i32 va)) (hfA : w.frozen? ⟨S, 1 + a, none⟩ = false) (hi : -131072 ≤ i) (hi1 : i ≤ 131071) :
    Calls Tryd.prog 28 #[.pointer (some ⟨E, 0, none⟩), .int .i64 locks, mv, pv] w (PrepOk w (w) (setW w S a i) (0)) := by
  have hmf : ∀ (fn : Fn) (first cap : Array Value) (w : World), (Instr.makeFunc fn first cap).run Tryd.prog w = .ok (.func fn first cap) w := fun _ _ _ _ => rfl
  have hE0w : E < w.heap.size + 1 := by omega
  have hS0w : S < w.heap.size := by omega
  have hS1w : S < w.heap.size + 1 := by omega
  go_enter Tryd.func28, Tryd.ntmps28
  go_wp2_with fail
  go_region
  all_goals go_wp2_with (go_at_call 35; refine (set_any _ _ _).mono ?_; rintro e w' ⟨rfl, rfl⟩)
  all_goals go_ret2
  all_goals refine prep_set (B := w.heap.size + 1) (E := E) (S := S) (a := a) (v := _) (old := va) hEw hS0w ha rfl ?_ ?_ ?_ hE1 hE9 hrA hfA
  all_goals first | omega | (simp; done) | (simp; omega) | (simp [go_sem]; done) | (repeat (first | (with_reducible apply bBoth) | (with_reducible exact Below.refl _ _) | (with_reducible apply bDrewN) | (with_reducible apply Below.drew) | ((with_reducible apply bSet); (focus first | (simp; done) | (simp; omega) | omega)) | ((with_reducible apply bAlloc); (focus first | (simp; done) | (simp; omega) | omega))))

set_option maxRecDepth 100000 in
set_option maxHeartbeats 1600000 in
theorem prep_addi (E S a b c : Nat) (i pc nx locks va vb vc : Int) (mv pv : Value) (w : World) (hE0 : w.cell? ⟨E, 0, none⟩ = some (.int .u8 15)) (hE1 : w.cell? ⟨E, 1, none⟩ = some (.int .i64 a)) (hE2 : w.cell? ⟨E, 2, none⟩ = some (.int .i64 b)) (hE3 : w.cell? ⟨E, 3, none⟩ = some (.int .i64 c)) (hE4 : w.cell? ⟨E, 4, none⟩ = some (.int .i64 i)) (hE5 : w.cell? ⟨E, 5, none⟩ = some (.int .i64 pc)) (hE6 : w.cell? ⟨E, 6, none⟩ = some (.bool false)) (hE7 : w.cell? ⟨E, 7, none⟩ = some (.int .i64 (-1))) (hE8 : w.cell? ⟨E, 8, none⟩ = some (.int .i32 0)) (hE9 : w.cell? ⟨E, 9, none⟩ = some (.pointer (some ⟨S, 0, none⟩))) (hE10 : w.cell? ⟨E, 10, none⟩ = some (.int .i64 nx)) (hF6 : w.frozen? ⟨E, 6, none⟩ = false) (hF7 : w.frozen? ⟨E, 7, none⟩ = false) (hF8 : w.frozen? ⟨E, 8, none⟩ = false) (hF10 : w.frozen? ⟨E, 10, none⟩ = false)
    (hS : S < E) (hEw : E < w.heap.size) (ha : a < 16) (hrA : w.cell? ⟨S, 1 + a, none⟩ = some (.int .i32 va)) (hfA : w.frozen? ⟨S, 1 + a, none⟩ = false) (hb : b < 16) (hrB : w.cell? ⟨S, 1 + b, none⟩ = some (.int .i32 vb)) (hvb : -2147483648 ≤ vb) (hvb1 : vb ≤ 2147483647) (hi : -131072 ≤ i) (hi1 : i ≤ 131071) :
    Calls Tryd.prog 28 #[.pointer (some ⟨E, 0, none⟩), .int .i64 locks, mv, pv] w (PrepOk w (w) (setW w S a (wrap32 (vb + i))) (0)) := by
  have hmf : ∀ (fn : Fn) (first cap : Array Value) (w : World), (Instr.makeFunc fn first cap).run Tryd.prog w = .ok (.func fn first cap) w := fun _ _ _ _ => rfl
  have hE0w : E < w.heap.size + 1 := by omega
  have hS0w : S < w.heap.size := by omega
  have hS1w : S < w.heap.size + 1 := by omega
  go_enter Tryd.func28, Tryd.ntmps28
  go_wp2_with fail
  go_region
  all_goals have hb2 : (b : Int) < 16 := by omega
  all_goals go_wp2_with fail
  all_goals go_region_with (go_at_call 35; refine (set_any _ _ _).mono ?_; rintro e w' ⟨rfl, rfl⟩)
  all_goals go_wp2_with fail
  all_goals go_ret2
  all_goals have hw : wrap32 i = i := IntWalk.wrap32_in _ (by omega)
  all_goals refine prep_set (B := w.heap.size + 1) (E := E) (S := S) (a := a) (v := _) (old := va) hEw hS0w ha rfl ?_ ?_ ?_ hE1 hE9 hrA hfA
  all_goals first | omega | (simp; done) | (simp; omega) | (simp [go_sem]; done) | (simp [go_sem, IntWalk.i32_left, hw]; done) | (repeat (first | (with_reducible apply bBoth) | (with_reducible exact Below.refl _ _) | (with_reducible apply bDrewN) | (with_reducible apply Below.drew) | ((with_reducible apply bSet); (focus first | (simp; done) | (simp; omega) | omega)) | ((with_reducible apply bAlloc); (focus first | (simp; done) | (simp; omega) | omega))))

set_option maxRecDepth 100000 in
set_option maxHeartbeats 1600000 in
theorem prep_shli (E S a b c : Nat) (i pc nx locks va vb vc : Int) (mv pv : Value) (w : World) (hE0 : w.cell? ⟨E, 0, none⟩ = some (.int .u8 16)) (hE1 : w.cell? ⟨E, 1, none⟩ = some (.int .i64 a)) (hE2 : w.cell? ⟨E, 2, none⟩ = some (.int .i64 b)) (hE3 : w.cell? ⟨E, 3, none⟩ = some (.int .i64 c)) (hE4 : w.cell? ⟨E, 4, none⟩ = some (.int .i64 i)) (hE5 : w.cell? ⟨E, 5, none⟩ = some (.int .i64 pc)) (hE6 : w.cell? ⟨E, 6, none⟩ = some (.bool false)) (hE7 : w.cell? ⟨E, 7, none⟩ = some (.int .i64 (-1))) (hE8 : w.cell? ⟨E, 8, none⟩ = some (.int .i32 0)) (hE9 : w.cell? ⟨E, 9, none⟩ = some (.pointer (some ⟨S, 0, none⟩))) (hE10 : w.cell? ⟨E, 10, none⟩ = some (.int .i64 nx)) (hF6 : w.frozen? ⟨E, 6, none⟩ = false) (hF7 : w.frozen? ⟨E, 7, none⟩ = false) (hF8 : w.frozen? ⟨E, 8, none⟩ = false) (hF10 : w.frozen? ⟨E, 10, none⟩ = false)
    (hS : S < E) (hEw : E < w.heap.size) (ha : a < 16) (hrA : w.cell? ⟨S, 1 + a, none⟩ = some (.int .i32 va)) (hfA : w.frozen? ⟨S, 1 + a, none⟩ = false) (hb : b < 16) (hrB : w.cell? ⟨S, 1 + b, none⟩ = some (.int .i32 vb)) (hvb : -2147483648 ≤ vb) (hvb1 : vb ≤ 2147483647) (hi : -131072 ≤ i) (hi1 : i ≤ 131071) (hi0 : 0 ≤ i) (hi31 : i ≤ 31) :
    Calls Tryd.prog 28 #[.pointer (some ⟨E, 0, none⟩), .int .i64 locks, mv, pv] w (PrepOk w (w) (setW w S a (wrap32 (vb * 2 ^ i.toNat))) (0)) := by
  have hmf : ∀ (fn : Fn) (first cap : Array Value) (w : World), (Instr.makeFunc fn first cap).run Tryd.prog w = .ok (.func fn first cap) w := fun _ _ _ _ => rfl
  have hE0w : E < w.heap.size + 1 := by omega
  have hS0w : S < w.heap.size := by omega
  have hS1w : S < w.heap.size + 1 := by omega
  go_enter Tryd.func28, Tryd.ntmps28
  go_wp2_with fail
  go_region
  all_goals have hb2 : (b : Int) < 16 := by omega
  all_goals go_wp2_with fail
  all_goals go_region_with (go_at_call 35; refine (set_any _ _ _).mono ?_; rintro e w' ⟨rfl, rfl⟩)
  all_goals go_wp2_with fail
  all_goals go_ret2
  all_goals have hw : wrap32 i = i := IntWalk.wrap32_in _ (by omega)
  all_goals refine prep_set (B := w.heap.size + 1) (E := E) (S := S) (a := a) (v := _) (old := va) hEw hS0w ha rfl ?_ ?_ ?_ hE1 hE9 hrA hfA
  all_goals first | omega | (simp; done) | (simp; omega) | (simp [go_sem]; done) | (simp [go_sem, IntWalk.i32_left, hw]; done) | (repeat (first | (with_reducible apply bBoth) | (with_reducible exact Below.refl _ _) | (with_reducible apply bDrewN) | (with_reducible apply Below.drew) | ((with_reducible apply bSet); (focus first | (simp; done) | (simp; omega) | omega)) | ((with_reducible apply bAlloc); (focus first | (simp; done) | (simp; omega) | omega))))

set_option maxRecDepth 100000 in
set_option maxHeartbeats 1600000 in
theorem prep_ori (E S a b c : Nat) (i pc nx locks va vb vc : Int) (mv pv : Value) (w : World) (hE0 : w.cell? ⟨E, 0, none⟩ = some (.int .u8 17)) (hE1 : w.cell? ⟨E, 1, none⟩ = some (.int .i64 a)) (hE2 : w.cell? ⟨E, 2, none⟩ = some (.int .i64 b)) (hE3 : w.cell? ⟨E, 3, none⟩ = some (.int .i64 c)) (hE4 : w.cell? ⟨E, 4, none⟩ = some (.int .i64 i)) (hE5 : w.cell? ⟨E, 5, none⟩ = some (.int .i64 pc)) (hE6 : w.cell? ⟨E, 6, none⟩ = some (.bool false)) (hE7 : w.cell? ⟨E, 7, none⟩ = some (.int .i64 (-1))) (hE8 : w.cell? ⟨E, 8, none⟩ = some (.int .i32 0)) (hE9 : w.cell? ⟨E, 9, none⟩ = some (.pointer (some ⟨S, 0, none⟩))) (hE10 : w.cell? ⟨E, 10, none⟩ = some (.int .i64 nx)) (hF6 : w.frozen? ⟨E, 6, none⟩ = false) (hF7 : w.frozen? ⟨E, 7, none⟩ = false) (hF8 : w.frozen? ⟨E, 8, none⟩ = false) (hF10 : w.frozen? ⟨E, 10, none⟩ = false)
    (hS : S < E) (hEw : E < w.heap.size) (ha : a < 16) (hrA : w.cell? ⟨S, 1 + a, none⟩ = some (.int .i32 va)) (hfA : w.frozen? ⟨S, 1 + a, none⟩ = false) (hb : b < 16) (hrB : w.cell? ⟨S, 1 + b, none⟩ = some (.int .i32 vb)) (hvb : -2147483648 ≤ vb) (hvb1 : vb ≤ 2147483647) (hi : -131072 ≤ i) (hi1 : i ≤ 131071) (hi0 : 0 ≤ i) :
    Calls Tryd.prog 28 #[.pointer (some ⟨E, 0, none⟩), .int .i64 locks, mv, pv] w (PrepOk w (w) (setW w S a (bits .or .i32 vb i)) (0)) := by
  have hmf : ∀ (fn : Fn) (first cap : Array Value) (w : World), (Instr.makeFunc fn first cap).run Tryd.prog w = .ok (.func fn first cap) w := fun _ _ _ _ => rfl
  have hE0w : E < w.heap.size + 1 := by omega
  have hS0w : S < w.heap.size := by omega
  have hS1w : S < w.heap.size + 1 := by omega
  go_enter Tryd.func28, Tryd.ntmps28
  go_wp2_with fail
  go_region
  all_goals have hb2 : (b : Int) < 16 := by omega
  all_goals go_wp2_with fail
  all_goals go_region_with (go_at_call 35; refine (set_any _ _ _).mono ?_; rintro e w' ⟨rfl, rfl⟩)
  all_goals go_wp2_with fail
  all_goals go_ret2
  all_goals have hw : wrap32 i = i := IntWalk.wrap32_in _ (by omega)
  all_goals refine prep_set (B := w.heap.size + 1) (E := E) (S := S) (a := a) (v := _) (old := va) hEw hS0w ha rfl ?_ ?_ ?_ hE1 hE9 hrA hfA
  all_goals first | omega | (simp; done) | (simp; omega) | (simp [go_sem]; done) | (simp [go_sem, IntWalk.i32_left, hw]; done) | (repeat (first | (with_reducible apply bBoth) | (with_reducible exact Below.refl _ _) | (with_reducible apply bDrewN) | (with_reducible apply Below.drew) | ((with_reducible apply bSet); (focus first | (simp; done) | (simp; omega) | omega)) | ((with_reducible apply bAlloc); (focus first | (simp; done) | (simp; omega) | omega))))

end Go.Proofs.YtpachmkklppmjaaDoor
