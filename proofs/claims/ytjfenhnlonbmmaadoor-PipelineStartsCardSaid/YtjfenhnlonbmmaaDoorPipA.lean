/- Layer 8: what the pipeline computes, and the contracts of Valid, Least, Next, IsBranch and their references. -/
import Derived.Test.YtjfenhnlonbmmaaDoorBase
import Derived.LoopTactic
set_option linter.unusedVariables false
set_option linter.unusedSimpArgs false
namespace Go.Proofs.YtjfenhnlonbmmaaDoor
open Go.RowKit

/-- Whether a timing is valid. -/
def okT (m d t h : Int) : Bool := decide ((0 ≤ m ∧ m ≤ 1000) ∧ (0 ≤ d ∧ d ≤ 1000) ∧ (0 ≤ t ∧ t ≤ 1000) ∧ (0 ≤ h ∧ h ≤ 1000))
def brn (n : Nat) : Bool := decide (n = 22 ∨ n = 23 ∨ n = 24)
def lst (m d : Int) (n : Nat) : Int := if n = 4 then 1 + m else if n = 5 ∨ n = 6 then 1 + d else 1
theorem okT_bd {m d t h : Int} (e : okT m d t h = true) : (0 ≤ m ∧ m ≤ 1000) ∧ (0 ≤ d ∧ d ≤ 1000) ∧ (0 ≤ t ∧ t ≤ 1000) ∧ (0 ≤ h ∧ h ≤ 1000) := by simpa [okT] using e
theorem lst_bd {m d : Int} (n : Nat) (hm : 0 ≤ m ∧ m ≤ 1000) (hd : 0 ≤ d ∧ d ≤ 1000) : 1 ≤ lst m d n ∧ lst m d n ≤ 1001 := by unfold lst; split <;> (try split) <;> omega

set_option maxHeartbeats 800000 in
theorem validT_any (m d t h : Int) (w : World) :
    Calls Tryd.prog 12 #[.agg #[.int .i64 m, .int .i64 d, .int .i64 t, .int .i64 h]] w fun e w' => e = .returned (.bool (okT m d t h)) ∧ Below w.heap.size w w' := by
  have i0 : ∀ w, (Instr.index 53 (.agg #[.int .i64 m, .int .i64 d, .int .i64 t, .int .i64 h]) (.int .i64 0)).run Tryd.prog w = .ok (.int .i64 m) w := fun _ => by kernel_rfl
  have i1 : ∀ w, (Instr.index 53 (.agg #[.int .i64 m, .int .i64 d, .int .i64 t, .int .i64 h]) (.int .i64 1)).run Tryd.prog w = .ok (.int .i64 d) w := fun _ => by kernel_rfl
  have i2 : ∀ w, (Instr.index 53 (.agg #[.int .i64 m, .int .i64 d, .int .i64 t, .int .i64 h]) (.int .i64 2)).run Tryd.prog w = .ok (.int .i64 t) w := fun _ => by kernel_rfl
  have i3 : ∀ w, (Instr.index 53 (.agg #[.int .i64 m, .int .i64 d, .int .i64 t, .int .i64 h]) (.int .i64 3)).run Tryd.prog w = .ok (.int .i64 h) w := fun _ => by kernel_rfl
  go_enter Tryd.func12, Tryd.ntmps12
  go_wp2_with fail
  refine wp_loop_rounds 5 ?_
  rw [rounds_succ]
  go_wp2_with fail
  · go_ret
    exact ⟨by simp [okT]; omega, bAlloc (Nat.le_refl _) (Below.refl _ _)⟩
  · go_ret
    exact ⟨by simp [okT]; omega, bAlloc (Nat.le_refl _) (Below.refl _ _)⟩
  rw [rounds_succ]
  go_wp2_with fail
  · go_ret
    exact ⟨by simp [okT]; omega, bAlloc (Nat.le_refl _) (Below.refl _ _)⟩
  · go_ret
    exact ⟨by simp [okT]; omega, bAlloc (Nat.le_refl _) (Below.refl _ _)⟩
  rw [rounds_succ]
  go_wp2_with fail
  · go_ret
    exact ⟨by simp [okT]; omega, bAlloc (Nat.le_refl _) (Below.refl _ _)⟩
  · go_ret
    exact ⟨by simp [okT]; omega, bAlloc (Nat.le_refl _) (Below.refl _ _)⟩
  rw [rounds_succ]
  go_wp2_with fail
  · go_ret
    exact ⟨by simp [okT]; omega, bAlloc (Nat.le_refl _) (Below.refl _ _)⟩
  · go_ret
    exact ⟨by simp [okT]; omega, bAlloc (Nat.le_refl _) (Below.refl _ _)⟩
  rw [rounds_succ]
  go_wp2_with fail
  go_ret
  exact ⟨by simp [okT]; omega, bAlloc (Nat.le_refl _) (Below.refl _ _)⟩

set_option maxHeartbeats 800000 in
theorem rvalidT_any (m d t h : Int) (w : World) :
    Calls Tryd.prog 13 #[.agg #[.int .i64 m, .int .i64 d, .int .i64 t, .int .i64 h]] w fun e w' => e = .returned (.bool (okT m d t h)) ∧ Below w.heap.size w w' := by
  go_enter Tryd.func13, Tryd.ntmps13
  go_wp2_with fail
  refine wp_loop_rounds 5 ?_
  rw [rounds_succ]
  go_wp2_with fail
  · go_ret
    refine ⟨by simp [okT]; omega, ?_⟩; (repeat (first | (with_reducible exact Below.refl _ _) | (with_reducible apply bDrewN) | (with_reducible apply Below.drew) | ((with_reducible apply bSet); (focus first | (simp; done) | (simp; omega) | omega)) | ((with_reducible apply bAlloc); (focus first | (simp; done) | (simp; omega) | omega))))
  · go_ret
    refine ⟨by simp [okT]; omega, ?_⟩; (repeat (first | (with_reducible exact Below.refl _ _) | (with_reducible apply bDrewN) | (with_reducible apply Below.drew) | ((with_reducible apply bSet); (focus first | (simp; done) | (simp; omega) | omega)) | ((with_reducible apply bAlloc); (focus first | (simp; done) | (simp; omega) | omega))))
  rw [rounds_succ]
  go_wp2_with fail
  · go_ret
    refine ⟨by simp [okT]; omega, ?_⟩; (repeat (first | (with_reducible exact Below.refl _ _) | (with_reducible apply bDrewN) | (with_reducible apply Below.drew) | ((with_reducible apply bSet); (focus first | (simp; done) | (simp; omega) | omega)) | ((with_reducible apply bAlloc); (focus first | (simp; done) | (simp; omega) | omega))))
  · go_ret
    refine ⟨by simp [okT]; omega, ?_⟩; (repeat (first | (with_reducible exact Below.refl _ _) | (with_reducible apply bDrewN) | (with_reducible apply Below.drew) | ((with_reducible apply bSet); (focus first | (simp; done) | (simp; omega) | omega)) | ((with_reducible apply bAlloc); (focus first | (simp; done) | (simp; omega) | omega))))
  rw [rounds_succ]
  go_wp2_with fail
  · go_ret
    refine ⟨by simp [okT]; omega, ?_⟩; (repeat (first | (with_reducible exact Below.refl _ _) | (with_reducible apply bDrewN) | (with_reducible apply Below.drew) | ((with_reducible apply bSet); (focus first | (simp; done) | (simp; omega) | omega)) | ((with_reducible apply bAlloc); (focus first | (simp; done) | (simp; omega) | omega))))
  · go_ret
    refine ⟨by simp [okT]; omega, ?_⟩; (repeat (first | (with_reducible exact Below.refl _ _) | (with_reducible apply bDrewN) | (with_reducible apply Below.drew) | ((with_reducible apply bSet); (focus first | (simp; done) | (simp; omega) | omega)) | ((with_reducible apply bAlloc); (focus first | (simp; done) | (simp; omega) | omega))))
  rw [rounds_succ]
  go_wp2_with fail
  · go_ret
    refine ⟨by simp [okT]; omega, ?_⟩; (repeat (first | (with_reducible exact Below.refl _ _) | (with_reducible apply bDrewN) | (with_reducible apply Below.drew) | ((with_reducible apply bSet); (focus first | (simp; done) | (simp; omega) | omega)) | ((with_reducible apply bAlloc); (focus first | (simp; done) | (simp; omega) | omega))))
  · go_ret
    refine ⟨by simp [okT]; omega, ?_⟩; (repeat (first | (with_reducible exact Below.refl _ _) | (with_reducible apply bDrewN) | (with_reducible apply Below.drew) | ((with_reducible apply bSet); (focus first | (simp; done) | (simp; omega) | omega)) | ((with_reducible apply bAlloc); (focus first | (simp; done) | (simp; omega) | omega))))
  rw [rounds_succ]
  go_wp2_with fail
  go_ret
  refine ⟨by simp [okT]; omega, ?_⟩; (repeat (first | (with_reducible exact Below.refl _ _) | (with_reducible apply bDrewN) | (with_reducible apply Below.drew) | ((with_reducible apply bSet); (focus first | (simp; done) | (simp; omega) | omega)) | ((with_reducible apply bAlloc); (focus first | (simp; done) | (simp; omega) | omega))))

theorem rbranch_any (n : Nat) (w : World) :
    Calls Tryd.prog 37 #[.int .u8 n] w fun e w' => e = .returned (.bool (brn n)) ∧ w = w' := by
  go_enter Tryd.func37, Tryd.ntmps37
  go_wp2_with fail
  all_goals (go_ret; refine ⟨?_, rfl⟩; simp_all [brn]; try (first | omega | (rw [Bool.eq_iff_iff]; simp; omega)))

theorem branch_any (n : Nat) (w : World) :
    Calls Tryd.prog 31 #[.int .u8 n] w fun e w' => e = .returned (.bool (brn n)) ∧ w = w' := by
  go_enter Tryd.func31, Tryd.ntmps31
  go_wp2_with fail
  all_goals (go_ret; refine ⟨?_, rfl⟩; simp_all [brn]; try (first | omega | (rw [Bool.eq_iff_iff]; simp; omega)))

set_option maxHeartbeats 800000 in
theorem least_any (m d t h : Int) (n : Nat) (a b c i : Int) (w : World) (hm : 0 ≤ m ∧ m ≤ 1000) (hd : 0 ≤ d ∧ d ≤ 1000) :
    Calls Tryd.prog 26 #[.agg #[.int .i64 m, .int .i64 d, .int .i64 t, .int .i64 h], .agg #[.int .u8 n, .int .i64 a, .int .i64 b, .int .i64 c, .int .i64 i]] w fun e w' => e = .returned (.int .i64 (lst m d n)) ∧ Below w.heap.size w w' := by
  go_enter Tryd.func26, Tryd.ntmps26
  go_wp2_with fail
  all_goals (go_ret; refine ⟨?_, ?_⟩)
  all_goals (try (repeat (first | (with_reducible exact Below.refl _ _) | (with_reducible apply bDrewN) | (with_reducible apply Below.drew) | ((with_reducible apply bSet); (focus first | (simp; done) | (simp; omega) | omega)) | ((with_reducible apply bAlloc); (focus first | (simp; done) | (simp; omega) | omega)))))
  all_goals (congr 2; simp_all [lst]; try omega)

set_option maxHeartbeats 800000 in
theorem rbase_any (m d t h : Int) (n : Nat) (a b c i : Int) (w : World) (hm : 0 ≤ m ∧ m ≤ 1000) (hd : 0 ≤ d ∧ d ≤ 1000) :
    Calls Tryd.prog 36 #[.agg #[.int .i64 m, .int .i64 d, .int .i64 t, .int .i64 h], .agg #[.int .u8 n, .int .i64 a, .int .i64 b, .int .i64 c, .int .i64 i]] w fun e w' => e = .returned (.int .i64 (lst m d n)) ∧ Below w.heap.size w w' := by
  go_enter Tryd.func36, Tryd.ntmps36
  go_wp2_with fail
  all_goals (go_ret; refine ⟨?_, ?_⟩)
  all_goals (try (repeat (first | (with_reducible exact Below.refl _ _) | (with_reducible apply bDrewN) | (with_reducible apply Below.drew) | ((with_reducible apply bSet); (focus first | (simp; done) | (simp; omega) | omega)) | ((with_reducible apply bAlloc); (focus first | (simp; done) | (simp; omega) | omega)))))
  all_goals (congr 2; simp_all [lst]; try omega)

end Go.Proofs.YtjfenhnlonbmmaaDoor
