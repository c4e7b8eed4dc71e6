/- core.Step where nothing is executed: nil, a state that does not fit, a halted one, traps. -/
import Derived.Test.YtpachmkklppmjaaDoorCorJ
set_option linter.unusedVariables false
set_option linter.unusedSimpArgs false
namespace Go.Proofs.YtpachmkklppmjaaDoor
open Go.RowKit

set_option maxRecDepth 100000 in
set_option maxHeartbeats 1600000 in
theorem step_nil (cv ev mv pv : Value) (sh lk t : Int) (w : World) :
    Calls Tryd.prog 23 #[.agg #[cv, ev, .int .i64 sh, .int .i64 lk], .int .i64 t, .pointer none, mv, pv] w (fun e w' => e = .returned (.tuple #[.agg #[.int .u8 0, .int .i64 0, .int .i64 0, .int .i64 0, .int .i64 0, .int .i64 0, .bool false, .int .i64 0, .int .i32 0], .int .i64 1]) ∧ Below w.heap.size w w') := by
  go_enter Tryd.func23, Tryd.ntmps23
  go_wp2_with fail
  refine bodyPost_ret (v := .tuple #[.agg #[.int .u8 0, .int .i64 0, .int .i64 0, .int .i64 0, .int .i64 0, .int .i64 0, .bool false, .int .i64 0, .int .i32 0], .int .i64 1]) (by simp [results, Tryd.results23, go_sem]) rfl ⟨rfl, ?_⟩
  repeat (first | (with_reducible apply bBoth) | (with_reducible exact Below.refl _ _) | (with_reducible apply bDrewN) | (with_reducible apply Below.drew) | ((with_reducible apply bSet); (focus first | (simp; done) | (simp; omega) | omega)) | ((with_reducible apply bAlloc); (focus first | (simp; done) | (simp; omega) | omega)))

set_option maxRecDepth 100000 in
set_option maxHeartbeats 1600000 in
theorem step_unfit (S : Nat) (cv ev mv pv : Value) (sh lk t : Int) (w : World) (hfits : ∀ W, Below w.heap.size w W → Calls Tryd.prog 22 #[.agg #[cv, ev, .int .i64 sh, .int .i64 lk], .int .i64 t, .pointer (some ⟨S, 0, none⟩)] W fun e w' => e = .returned (.bool false) ∧ Below W.heap.size W w') :
    Calls Tryd.prog 23 #[.agg #[cv, ev, .int .i64 sh, .int .i64 lk], .int .i64 t, .pointer (some ⟨S, 0, none⟩), mv, pv] w (fun e w' => e = .returned (.tuple #[.agg #[.int .u8 0, .int .i64 0, .int .i64 0, .int .i64 0, .int .i64 0, .int .i64 0, .bool false, .int .i64 0, .int .i32 0], .int .i64 14]) ∧ Below w.heap.size w w') := by
  go_enter Tryd.func23, Tryd.ntmps23
  go_wp2_with fail
  refine (hfits _ (by repeat (first | (with_reducible apply bBoth) | (with_reducible exact Below.refl _ _) | (with_reducible apply bDrewN) | (with_reducible apply Below.drew) | ((with_reducible apply bSet); (focus first | (simp; done) | (simp; omega) | omega)) | ((with_reducible apply bAlloc); (focus first | (simp; done) | (simp; omega) | omega))))).mono ?_
  rintro e w1 ⟨rfl, hb1⟩
  have r0_1 : w1.cell? ⟨w.heap.size + 1, 0, none⟩ = some (.int .u8 0) := by rw [hb1.cell (p := ⟨w.heap.size + 1, 0, none⟩) (by first | (simp; done) | (simp; omega) | omega)]; first | assumption | (simp [go_sem, *]; done)
  have r0f_1 : w1.frozen? ⟨w.heap.size + 1, 0, none⟩ = false := by rw [hb1.frozen (p := ⟨w.heap.size + 1, 0, none⟩) (by first | (simp; done) | (simp; omega) | omega)]; first | assumption | (simp [go_sem, *]; done)
  have r1_1 : w1.cell? ⟨w.heap.size + 1, 1, none⟩ = some (.int .i64 0) := by rw [hb1.cell (p := ⟨w.heap.size + 1, 1, none⟩) (by first | (simp; done) | (simp; omega) | omega)]; first | assumption | (simp [go_sem, *]; done)
  have r1f_1 : w1.frozen? ⟨w.heap.size + 1, 1, none⟩ = false := by rw [hb1.frozen (p := ⟨w.heap.size + 1, 1, none⟩) (by first | (simp; done) | (simp; omega) | omega)]; first | assumption | (simp [go_sem, *]; done)
  have r2_1 : w1.cell? ⟨w.heap.size + 1, 2, none⟩ = some (.int .i64 0) := by rw [hb1.cell (p := ⟨w.heap.size + 1, 2, none⟩) (by first | (simp; done) | (simp; omega) | omega)]; first | assumption | (simp [go_sem, *]; done)
  have r2f_1 : w1.frozen? ⟨w.heap.size + 1, 2, none⟩ = false := by rw [hb1.frozen (p := ⟨w.heap.size + 1, 2, none⟩) (by first | (simp; done) | (simp; omega) | omega)]; first | assumption | (simp [go_sem, *]; done)
  have r3_1 : w1.cell? ⟨w.heap.size + 1, 3, none⟩ = some (.int .i64 0) := by rw [hb1.cell (p := ⟨w.heap.size + 1, 3, none⟩) (by first | (simp; done) | (simp; omega) | omega)]; first | assumption | (simp [go_sem, *]; done)
  have r3f_1 : w1.frozen? ⟨w.heap.size + 1, 3, none⟩ = false := by rw [hb1.frozen (p := ⟨w.heap.size + 1, 3, none⟩) (by first | (simp; done) | (simp; omega) | omega)]; first | assumption | (simp [go_sem, *]; done)
  have r4_1 : w1.cell? ⟨w.heap.size + 1, 4, none⟩ = some (.int .i64 0) := by rw [hb1.cell (p := ⟨w.heap.size + 1, 4, none⟩) (by first | (simp; done) | (simp; omega) | omega)]; first | assumption | (simp [go_sem, *]; done)
  have r4f_1 : w1.frozen? ⟨w.heap.size + 1, 4, none⟩ = false := by rw [hb1.frozen (p := ⟨w.heap.size + 1, 4, none⟩) (by first | (simp; done) | (simp; omega) | omega)]; first | assumption | (simp [go_sem, *]; done)
  have r5_1 : w1.cell? ⟨w.heap.size + 1, 5, none⟩ = some (.int .i64 0) := by rw [hb1.cell (p := ⟨w.heap.size + 1, 5, none⟩) (by first | (simp; done) | (simp; omega) | omega)]; first | assumption | (simp [go_sem, *]; done)
  have r5f_1 : w1.frozen? ⟨w.heap.size + 1, 5, none⟩ = false := by rw [hb1.frozen (p := ⟨w.heap.size + 1, 5, none⟩) (by first | (simp; done) | (simp; omega) | omega)]; first | assumption | (simp [go_sem, *]; done)
  have r6_1 : w1.cell? ⟨w.heap.size + 1, 6, none⟩ = some (.bool false) := by rw [hb1.cell (p := ⟨w.heap.size + 1, 6, none⟩) (by first | (simp; done) | (simp; omega) | omega)]; first | assumption | (simp [go_sem, *]; done)
  have r6f_1 : w1.frozen? ⟨w.heap.size + 1, 6, none⟩ = false := by rw [hb1.frozen (p := ⟨w.heap.size + 1, 6, none⟩) (by first | (simp; done) | (simp; omega) | omega)]; first | assumption | (simp [go_sem, *]; done)
  have r7_1 : w1.cell? ⟨w.heap.size + 1, 7, none⟩ = some (.int .i64 0) := by rw [hb1.cell (p := ⟨w.heap.size + 1, 7, none⟩) (by first | (simp; done) | (simp; omega) | omega)]; first | assumption | (simp [go_sem, *]; done)
  have r7f_1 : w1.frozen? ⟨w.heap.size + 1, 7, none⟩ = false := by rw [hb1.frozen (p := ⟨w.heap.size + 1, 7, none⟩) (by first | (simp; done) | (simp; omega) | omega)]; first | assumption | (simp [go_sem, *]; done)
  have r8_1 : w1.cell? ⟨w.heap.size + 1, 8, none⟩ = some (.int .i32 0) := by rw [hb1.cell (p := ⟨w.heap.size + 1, 8, none⟩) (by first | (simp; done) | (simp; omega) | omega)]; first | assumption | (simp [go_sem, *]; done)
  have r8f_1 : w1.frozen? ⟨w.heap.size + 1, 8, none⟩ = false := by rw [hb1.frozen (p := ⟨w.heap.size + 1, 8, none⟩) (by first | (simp; done) | (simp; omega) | omega)]; first | assumption | (simp [go_sem, *]; done)
  have szB_1 : w.heap.size < w1.heap.size := by have h := hb1.size; first | (simp at h; omega) | omega
  have szR_1 : w.heap.size + 1 < w1.heap.size := by have h := hb1.size; first | (simp at h; omega) | omega
  have HB1 : Below w.heap.size w w1 := by
    repeat (first | (with_reducible apply bBoth) | (with_reducible exact Below.refl _ _) | (with_reducible apply bDrewN) | (with_reducible apply Below.drew) | ((with_reducible apply bThen hb1); (focus first | (simp; done) | (simp; omega) | omega)) | ((with_reducible apply bSet); (focus first | (simp; done) | (simp; omega) | omega)) | ((with_reducible apply bAlloc); (focus first | (simp; done) | (simp; omega) | omega)))
  clear hb1 hfits
  go_wp2_with fail
  refine bodyPost_ret (v := .tuple #[.agg #[.int .u8 0, .int .i64 0, .int .i64 0, .int .i64 0, .int .i64 0, .int .i64 0, .bool false, .int .i64 0, .int .i32 0], .int .i64 14]) (run_result9 Tryd.results23 (fun _ => by kernel_rfl) (fun _ => by kernel_rfl) _ _ _ _ _ _ _ _ _ _ rfl rfl (by simp [go_sem, r0_1]) (by simp [go_sem, r1_1]) (by simp [go_sem, r2_1]) (by simp [go_sem, r3_1]) (by simp [go_sem, r4_1]) (by simp [go_sem, r5_1]) (by simp [go_sem, r6_1]) (by simp [go_sem, r7_1]) (by simp [go_sem, r8_1])) rfl ⟨rfl, ?_⟩
  repeat (first | (with_reducible apply bBoth) | (with_reducible exact Below.refl _ _) | (with_reducible apply bDrewN) | (with_reducible apply Below.drew) | (with_reducible exact HB1) | ((with_reducible apply bSet); (focus first | (simp; done) | (simp; omega) | omega)) | ((with_reducible apply bAlloc); (focus first | (simp; done) | (simp; omega) | omega)))

set_option maxRecDepth 100000 in
set_option maxHeartbeats 1600000 in
theorem step_halted (cb co nC ccap eb eo nE ecap t S dl dcap : Nat) (pc : Int) (sh lk st fin held : Int) (nm : ByteArray) (dp : Option Addr) (mv pv cv : Value) (w : World) (hS : S < w.heap.size) (hPC : w.cell? ⟨S, 0, none⟩ = some (.int .i64 pc)) (hPf : w.frozen? ⟨S, 0, none⟩ = false) (hR : w.cell? ⟨S, 1, none⟩ = some (.int .i32 0)) (hD : w.cell? ⟨S, 17, none⟩ = some (.slice dp dl dcap)) (hL : w.cell? ⟨S, 18, none⟩ = some (.bool true)) (hH : w.cell? ⟨S, 19, none⟩ = some (.int .i64 held)) (heb : eb < w.heap.size) (ht : t < nE) (he0 : w.cell? ⟨eb, eo + t * 4, none⟩ = some (.string nm)) (he1 : w.cell? ⟨eb, eo + t * 4 + 1, none⟩ = some (.int .i64 st)) (he2 : w.cell? ⟨eb, eo + t * 4 + 2, none⟩ = some (.int .i64 fin)) (he3 : w.cell? ⟨eb, eo + t * 4 + 3, none⟩ = some (.int .i64 dl)) (hfit : held = -1 ∨ (0 ≤ held ∧ held < lk)) :
    Calls Tryd.prog 23 #[.agg #[cv, .slice (some ⟨eb, eo, none⟩) nE ecap, .int .i64 sh, .int .i64 lk], .int .i64 (t : Nat), .pointer (some ⟨S, 0, none⟩), mv, pv] w (fun e w' => e = .returned (.tuple #[.agg #[.int .u8 0, .int .i64 0, .int .i64 0, .int .i64 0, .int .i64 0, .int .i64 0, .bool false, .int .i64 0, .int .i32 0], .int .i64 14]) ∧ Below w.heap.size w w') := by
  go_enter Tryd.func23, Tryd.ntmps23
  go_wp2_with fail
  refine (fits_yes _ dp S nE ecap dl dcap eb eo t sh lk held _ (by simp; omega) (by simp [go_sem, *]) (by simp; omega) (by simp [go_sem, *]) (by simp [go_sem, *]) (by simp [go_sem, *]) ht hfit).mono ?_
  rintro e w1 ⟨rfl, hb1⟩
  have hl_1 : w1.cell? ⟨S, 18, none⟩ = some (.bool true) := by rw [hb1.cell (p := ⟨S, 18, none⟩) (by first | (simp; done) | (simp; omega) | omega)]; first | assumption | (simp [go_sem, *]; done)
  have r0_1 : w1.cell? ⟨w.heap.size + 1, 0, none⟩ = some (.int .u8 0) := by rw [hb1.cell (p := ⟨w.heap.size + 1, 0, none⟩) (by first | (simp; done) | (simp; omega) | omega)]; first | assumption | (simp [go_sem, *]; done)
  have r0f_1 : w1.frozen? ⟨w.heap.size + 1, 0, none⟩ = false := by rw [hb1.frozen (p := ⟨w.heap.size + 1, 0, none⟩) (by first | (simp; done) | (simp; omega) | omega)]; first | assumption | (simp [go_sem, *]; done)
  have r1_1 : w1.cell? ⟨w.heap.size + 1, 1, none⟩ = some (.int .i64 0) := by rw [hb1.cell (p := ⟨w.heap.size + 1, 1, none⟩) (by first | (simp; done) | (simp; omega) | omega)]; first | assumption | (simp [go_sem, *]; done)
  have r1f_1 : w1.frozen? ⟨w.heap.size + 1, 1, none⟩ = false := by rw [hb1.frozen (p := ⟨w.heap.size + 1, 1, none⟩) (by first | (simp; done) | (simp; omega) | omega)]; first | assumption | (simp [go_sem, *]; done)
  have r2_1 : w1.cell? ⟨w.heap.size + 1, 2, none⟩ = some (.int .i64 0) := by rw [hb1.cell (p := ⟨w.heap.size + 1, 2, none⟩) (by first | (simp; done) | (simp; omega) | omega)]; first | assumption | (simp [go_sem, *]; done)
  have r2f_1 : w1.frozen? ⟨w.heap.size + 1, 2, none⟩ = false := by rw [hb1.frozen (p := ⟨w.heap.size + 1, 2, none⟩) (by first | (simp; done) | (simp; omega) | omega)]; first | assumption | (simp [go_sem, *]; done)
  have r3_1 : w1.cell? ⟨w.heap.size + 1, 3, none⟩ = some (.int .i64 0) := by rw [hb1.cell (p := ⟨w.heap.size + 1, 3, none⟩) (by first | (simp; done) | (simp; omega) | omega)]; first | assumption | (simp [go_sem, *]; done)
  have r3f_1 : w1.frozen? ⟨w.heap.size + 1, 3, none⟩ = false := by rw [hb1.frozen (p := ⟨w.heap.size + 1, 3, none⟩) (by first | (simp; done) | (simp; omega) | omega)]; first | assumption | (simp [go_sem, *]; done)
  have r4_1 : w1.cell? ⟨w.heap.size + 1, 4, none⟩ = some (.int .i64 0) := by rw [hb1.cell (p := ⟨w.heap.size + 1, 4, none⟩) (by first | (simp; done) | (simp; omega) | omega)]; first | assumption | (simp [go_sem, *]; done)
  have r4f_1 : w1.frozen? ⟨w.heap.size + 1, 4, none⟩ = false := by rw [hb1.frozen (p := ⟨w.heap.size + 1, 4, none⟩) (by first | (simp; done) | (simp; omega) | omega)]; first | assumption | (simp [go_sem, *]; done)
  have r5_1 : w1.cell? ⟨w.heap.size + 1, 5, none⟩ = some (.int .i64 0) := by rw [hb1.cell (p := ⟨w.heap.size + 1, 5, none⟩) (by first | (simp; done) | (simp; omega) | omega)]; first | assumption | (simp [go_sem, *]; done)
  have r5f_1 : w1.frozen? ⟨w.heap.size + 1, 5, none⟩ = false := by rw [hb1.frozen (p := ⟨w.heap.size + 1, 5, none⟩) (by first | (simp; done) | (simp; omega) | omega)]; first | assumption | (simp [go_sem, *]; done)
  have r6_1 : w1.cell? ⟨w.heap.size + 1, 6, none⟩ = some (.bool false) := by rw [hb1.cell (p := ⟨w.heap.size + 1, 6, none⟩) (by first | (simp; done) | (simp; omega) | omega)]; first | assumption | (simp [go_sem, *]; done)
  have r6f_1 : w1.frozen? ⟨w.heap.size + 1, 6, none⟩ = false := by rw [hb1.frozen (p := ⟨w.heap.size + 1, 6, none⟩) (by first | (simp; done) | (simp; omega) | omega)]; first | assumption | (simp [go_sem, *]; done)
  have r7_1 : w1.cell? ⟨w.heap.size + 1, 7, none⟩ = some (.int .i64 0) := by rw [hb1.cell (p := ⟨w.heap.size + 1, 7, none⟩) (by first | (simp; done) | (simp; omega) | omega)]; first | assumption | (simp [go_sem, *]; done)
  have r7f_1 : w1.frozen? ⟨w.heap.size + 1, 7, none⟩ = false := by rw [hb1.frozen (p := ⟨w.heap.size + 1, 7, none⟩) (by first | (simp; done) | (simp; omega) | omega)]; first | assumption | (simp [go_sem, *]; done)
  have r8_1 : w1.cell? ⟨w.heap.size + 1, 8, none⟩ = some (.int .i32 0) := by rw [hb1.cell (p := ⟨w.heap.size + 1, 8, none⟩) (by first | (simp; done) | (simp; omega) | omega)]; first | assumption | (simp [go_sem, *]; done)
  have r8f_1 : w1.frozen? ⟨w.heap.size + 1, 8, none⟩ = false := by rw [hb1.frozen (p := ⟨w.heap.size + 1, 8, none⟩) (by first | (simp; done) | (simp; omega) | omega)]; first | assumption | (simp [go_sem, *]; done)
  have szS_1 : S < w1.heap.size := by have h := hb1.size; first | (simp at h; omega) | omega
  have szB_1 : w.heap.size < w1.heap.size := by have h := hb1.size; first | (simp at h; omega) | omega
  have szR_1 : w.heap.size + 1 < w1.heap.size := by have h := hb1.size; first | (simp at h; omega) | omega
  have HB1 : Below w.heap.size w w1 := by
    repeat (first | (with_reducible apply bBoth) | (with_reducible exact Below.refl _ _) | (with_reducible apply bDrewN) | (with_reducible apply Below.drew) | ((with_reducible apply bThen hb1); (focus first | (simp; done) | (simp; omega) | omega)) | ((with_reducible apply bSet); (focus first | (simp; done) | (simp; omega) | omega)) | ((with_reducible apply bAlloc); (focus first | (simp; done) | (simp; omega) | omega)))
  clear hb1
  go_wp2_with fail
  refine bodyPost_ret (v := .tuple #[.agg #[.int .u8 0, .int .i64 0, .int .i64 0, .int .i64 0, .int .i64 0, .int .i64 0, .bool false, .int .i64 0, .int .i32 0], .int .i64 14]) (run_result9 Tryd.results23 (fun _ => by kernel_rfl) (fun _ => by kernel_rfl) _ _ _ _ _ _ _ _ _ _ rfl rfl (by simp [go_sem, r0_1]) (by simp [go_sem, r1_1]) (by simp [go_sem, r2_1]) (by simp [go_sem, r3_1]) (by simp [go_sem, r4_1]) (by simp [go_sem, r5_1]) (by simp [go_sem, r6_1]) (by simp [go_sem, r7_1]) (by simp [go_sem, r8_1])) rfl ⟨rfl, ?_⟩
  repeat (first | (with_reducible apply bBoth) | (with_reducible exact Below.refl _ _) | (with_reducible apply bDrewN) | (with_reducible apply Below.drew) | (with_reducible exact HB1) | ((with_reducible apply bSet); (focus first | (simp; done) | (simp; omega) | omega)) | ((with_reducible apply bAlloc); (focus first | (simp; done) | (simp; omega) | omega)))

set_option maxRecDepth 100000 in
set_option maxHeartbeats 1600000 in
theorem step_pc_low (cb co nC ccap eb eo nE ecap t S dl dcap : Nat) (pc : Int) (sh lk st fin held : Int) (nm : ByteArray) (dp : Option Addr) (cp : Option Addr) (mv pv : Value) (w : World) (hS : S < w.heap.size) (hPC : w.cell? ⟨S, 0, none⟩ = some (.int .i64 pc)) (hPf : w.frozen? ⟨S, 0, none⟩ = false) (hR : w.cell? ⟨S, 1, none⟩ = some (.int .i32 0)) (hD : w.cell? ⟨S, 17, none⟩ = some (.slice dp dl dcap)) (hL : w.cell? ⟨S, 18, none⟩ = some (.bool false)) (hH : w.cell? ⟨S, 19, none⟩ = some (.int .i64 held)) (heb : eb < w.heap.size) (ht : t < nE) (he0 : w.cell? ⟨eb, eo + t * 4, none⟩ = some (.string nm)) (he1 : w.cell? ⟨eb, eo + t * 4 + 1, none⟩ = some (.int .i64 st)) (he2 : w.cell? ⟨eb, eo + t * 4 + 2, none⟩ = some (.int .i64 fin)) (he3 : w.cell? ⟨eb, eo + t * 4 + 3, none⟩ = some (.int .i64 dl)) (hfit : held = -1 ∨ (0 ≤ held ∧ held < lk)) (h1 : pc < st) :
    Calls Tryd.prog 23 #[.agg #[.slice cp nC ccap, .slice (some ⟨eb, eo, none⟩) nE ecap, .int .i64 sh, .int .i64 lk], .int .i64 (t : Nat), .pointer (some ⟨S, 0, none⟩), mv, pv] w (fun e w' => e = .returned (.tuple #[.agg #[.int .u8 0, .int .i64 0, .int .i64 0, .int .i64 0, .int .i64 0, .int .i64 0, .bool false, .int .i64 0, .int .i32 0], .int .i64 10]) ∧ Below w.heap.size w w') := by
  go_enter Tryd.func23, Tryd.ntmps23
  go_wp2_with fail
  refine (fits_yes _ dp S nE ecap dl dcap eb eo t sh lk held _ (by simp; omega) (by simp [go_sem, *]) (by simp; omega) (by simp [go_sem, *]) (by simp [go_sem, *]) (by simp [go_sem, *]) ht hfit).mono ?_
  rintro e w1 ⟨rfl, hb1⟩
  have pc_1 : w1.cell? ⟨S, 0, none⟩ = some (.int .i64 pc) := by rw [hb1.cell (p := ⟨S, 0, none⟩) (by first | (simp; done) | (simp; omega) | omega)]; first | assumption | (simp [go_sem, *]; done)
  have pcf_1 : w1.frozen? ⟨S, 0, none⟩ = false := by rw [hb1.frozen (p := ⟨S, 0, none⟩) (by first | (simp; done) | (simp; omega) | omega)]; first | assumption | (simp [go_sem, *]; done)
  have hl_1 : w1.cell? ⟨S, 18, none⟩ = some (.bool false) := by rw [hb1.cell (p := ⟨S, 18, none⟩) (by first | (simp; done) | (simp; omega) | omega)]; first | assumption | (simp [go_sem, *]; done)
  have en0_1 : w1.cell? ⟨eb, eo + t * 4, none⟩ = some (.string nm) := by rw [hb1.cell (p := ⟨eb, eo + t * 4, none⟩) (by first | (simp; done) | (simp; omega) | omega)]; first | assumption | (simp [go_sem, *]; done)
  have en1_1 : w1.cell? ⟨eb, eo + t * 4 + 1, none⟩ = some (.int .i64 st) := by rw [hb1.cell (p := ⟨eb, eo + t * 4 + 1, none⟩) (by first | (simp; done) | (simp; omega) | omega)]; first | assumption | (simp [go_sem, *]; done)
  have en2_1 : w1.cell? ⟨eb, eo + t * 4 + 2, none⟩ = some (.int .i64 fin) := by rw [hb1.cell (p := ⟨eb, eo + t * 4 + 2, none⟩) (by first | (simp; done) | (simp; omega) | omega)]; first | assumption | (simp [go_sem, *]; done)
  have en3_1 : w1.cell? ⟨eb, eo + t * 4 + 3, none⟩ = some (.int .i64 dl) := by rw [hb1.cell (p := ⟨eb, eo + t * 4 + 3, none⟩) (by first | (simp; done) | (simp; omega) | omega)]; first | assumption | (simp [go_sem, *]; done)
  have im0_1 : w1.cell? ⟨w.heap.size, 0, none⟩ = some (.slice cp nC ccap) := by rw [hb1.cell (p := ⟨w.heap.size, 0, none⟩) (by first | (simp; done) | (simp; omega) | omega)]; first | assumption | (simp [go_sem, *]; done)
  have im1_1 : w1.cell? ⟨w.heap.size, 1, none⟩ = some (.slice (some ⟨eb, eo, none⟩) nE ecap) := by rw [hb1.cell (p := ⟨w.heap.size, 1, none⟩) (by first | (simp; done) | (simp; omega) | omega)]; first | assumption | (simp [go_sem, *]; done)
  have im3_1 : w1.cell? ⟨w.heap.size, 3, none⟩ = some (.int .i64 lk) := by rw [hb1.cell (p := ⟨w.heap.size, 3, none⟩) (by first | (simp; done) | (simp; omega) | omega)]; first | assumption | (simp [go_sem, *]; done)
  have r0_1 : w1.cell? ⟨w.heap.size + 1, 0, none⟩ = some (.int .u8 0) := by rw [hb1.cell (p := ⟨w.heap.size + 1, 0, none⟩) (by first | (simp; done) | (simp; omega) | omega)]; first | assumption | (simp [go_sem, *]; done)
  have r0f_1 : w1.frozen? ⟨w.heap.size + 1, 0, none⟩ = false := by rw [hb1.frozen (p := ⟨w.heap.size + 1, 0, none⟩) (by first | (simp; done) | (simp; omega) | omega)]; first | assumption | (simp [go_sem, *]; done)
  have r1_1 : w1.cell? ⟨w.heap.size + 1, 1, none⟩ = some (.int .i64 0) := by rw [hb1.cell (p := ⟨w.heap.size + 1, 1, none⟩) (by first | (simp; done) | (simp; omega) | omega)]; first | assumption | (simp [go_sem, *]; done)
  have r1f_1 : w1.frozen? ⟨w.heap.size + 1, 1, none⟩ = false := by rw [hb1.frozen (p := ⟨w.heap.size + 1, 1, none⟩) (by first | (simp; done) | (simp; omega) | omega)]; first | assumption | (simp [go_sem, *]; done)
  have r2_1 : w1.cell? ⟨w.heap.size + 1, 2, none⟩ = some (.int .i64 0) := by rw [hb1.cell (p := ⟨w.heap.size + 1, 2, none⟩) (by first | (simp; done) | (simp; omega) | omega)]; first | assumption | (simp [go_sem, *]; done)
  have r2f_1 : w1.frozen? ⟨w.heap.size + 1, 2, none⟩ = false := by rw [hb1.frozen (p := ⟨w.heap.size + 1, 2, none⟩) (by first | (simp; done) | (simp; omega) | omega)]; first | assumption | (simp [go_sem, *]; done)
  have r3_1 : w1.cell? ⟨w.heap.size + 1, 3, none⟩ = some (.int .i64 0) := by rw [hb1.cell (p := ⟨w.heap.size + 1, 3, none⟩) (by first | (simp; done) | (simp; omega) | omega)]; first | assumption | (simp [go_sem, *]; done)
  have r3f_1 : w1.frozen? ⟨w.heap.size + 1, 3, none⟩ = false := by rw [hb1.frozen (p := ⟨w.heap.size + 1, 3, none⟩) (by first | (simp; done) | (simp; omega) | omega)]; first | assumption | (simp [go_sem, *]; done)
  have r4_1 : w1.cell? ⟨w.heap.size + 1, 4, none⟩ = some (.int .i64 0) := by rw [hb1.cell (p := ⟨w.heap.size + 1, 4, none⟩) (by first | (simp; done) | (simp; omega) | omega)]; first | assumption | (simp [go_sem, *]; done)
  have r4f_1 : w1.frozen? ⟨w.heap.size + 1, 4, none⟩ = false := by rw [hb1.frozen (p := ⟨w.heap.size + 1, 4, none⟩) (by first | (simp; done) | (simp; omega) | omega)]; first | assumption | (simp [go_sem, *]; done)
  have r5_1 : w1.cell? ⟨w.heap.size + 1, 5, none⟩ = some (.int .i64 0) := by rw [hb1.cell (p := ⟨w.heap.size + 1, 5, none⟩) (by first | (simp; done) | (simp; omega) | omega)]; first | assumption | (simp [go_sem, *]; done)
  have r5f_1 : w1.frozen? ⟨w.heap.size + 1, 5, none⟩ = false := by rw [hb1.frozen (p := ⟨w.heap.size + 1, 5, none⟩) (by first | (simp; done) | (simp; omega) | omega)]; first | assumption | (simp [go_sem, *]; done)
  have r6_1 : w1.cell? ⟨w.heap.size + 1, 6, none⟩ = some (.bool false) := by rw [hb1.cell (p := ⟨w.heap.size + 1, 6, none⟩) (by first | (simp; done) | (simp; omega) | omega)]; first | assumption | (simp [go_sem, *]; done)
  have r6f_1 : w1.frozen? ⟨w.heap.size + 1, 6, none⟩ = false := by rw [hb1.frozen (p := ⟨w.heap.size + 1, 6, none⟩) (by first | (simp; done) | (simp; omega) | omega)]; first | assumption | (simp [go_sem, *]; done)
  have r7_1 : w1.cell? ⟨w.heap.size + 1, 7, none⟩ = some (.int .i64 0) := by rw [hb1.cell (p := ⟨w.heap.size + 1, 7, none⟩) (by first | (simp; done) | (simp; omega) | omega)]; first | assumption | (simp [go_sem, *]; done)
  have r7f_1 : w1.frozen? ⟨w.heap.size + 1, 7, none⟩ = false := by rw [hb1.frozen (p := ⟨w.heap.size + 1, 7, none⟩) (by first | (simp; done) | (simp; omega) | omega)]; first | assumption | (simp [go_sem, *]; done)
  have r8_1 : w1.cell? ⟨w.heap.size + 1, 8, none⟩ = some (.int .i32 0) := by rw [hb1.cell (p := ⟨w.heap.size + 1, 8, none⟩) (by first | (simp; done) | (simp; omega) | omega)]; first | assumption | (simp [go_sem, *]; done)
  have r8f_1 : w1.frozen? ⟨w.heap.size + 1, 8, none⟩ = false := by rw [hb1.frozen (p := ⟨w.heap.size + 1, 8, none⟩) (by first | (simp; done) | (simp; omega) | omega)]; first | assumption | (simp [go_sem, *]; done)
  have szS_1 : S < w1.heap.size := by have h := hb1.size; first | (simp at h; omega) | omega
  have szE_1 : eb < w1.heap.size := by have h := hb1.size; first | (simp at h; omega) | omega
  have szB_1 : w.heap.size < w1.heap.size := by have h := hb1.size; first | (simp at h; omega) | omega
  have szR_1 : w.heap.size + 1 < w1.heap.size := by have h := hb1.size; first | (simp at h; omega) | omega
  have HB1 : Below w.heap.size w w1 := by
    repeat (first | (with_reducible apply bBoth) | (with_reducible exact Below.refl _ _) | (with_reducible apply bDrewN) | (with_reducible apply Below.drew) | ((with_reducible apply bThen hb1); (focus first | (simp; done) | (simp; omega) | omega)) | ((with_reducible apply bSet); (focus first | (simp; done) | (simp; omega) | omega)) | ((with_reducible apply bAlloc); (focus first | (simp; done) | (simp; omega) | omega)))
  clear hb1
  have d1 : decide (pc < st) = true := by simpa using h1
  go_wp2_with fail
  go_quiet (fail)
  go_wp2_with fail
  refine bodyPost_ret (v := .tuple #[.agg #[.int .u8 0, .int .i64 0, .int .i64 0, .int .i64 0, .int .i64 0, .int .i64 0, .bool false, .int .i64 0, .int .i32 0], .int .i64 10]) (run_result9 Tryd.results23 (fun _ => by kernel_rfl) (fun _ => by kernel_rfl) _ _ _ _ _ _ _ _ _ _ rfl rfl (by simp [go_sem, r0_1, szR_1]) (by simp [go_sem, r1_1, szR_1]) (by simp [go_sem, r2_1, szR_1]) (by simp [go_sem, r3_1, szR_1]) (by simp [go_sem, r4_1, szR_1]) (by simp [go_sem, r5_1, szR_1]) (by simp [go_sem, r6_1, szR_1]) (by simp [go_sem, r7_1, szR_1]) (by simp [go_sem, r8_1, szR_1])) rfl ⟨rfl, ?_⟩
  repeat (first | (with_reducible apply bBoth) | (with_reducible exact Below.refl _ _) | (with_reducible apply bDrewN) | (with_reducible apply Below.drew) | (with_reducible exact HB1) | ((with_reducible apply bSet); (focus first | (simp; done) | (simp; omega) | omega)) | ((with_reducible apply bAlloc); (focus first | (simp; done) | (simp; omega) | omega)))

set_option maxRecDepth 100000 in
set_option maxHeartbeats 1600000 in
theorem step_pc_high (cb co nC ccap eb eo nE ecap t S dl dcap : Nat) (pc : Int) (sh lk st fin held : Int) (nm : ByteArray) (dp : Option Addr) (cp : Option Addr) (mv pv : Value) (w : World) (hS : S < w.heap.size) (hPC : w.cell? ⟨S, 0, none⟩ = some (.int .i64 pc)) (hPf : w.frozen? ⟨S, 0, none⟩ = false) (hR : w.cell? ⟨S, 1, none⟩ = some (.int .i32 0)) (hD : w.cell? ⟨S, 17, none⟩ = some (.slice dp dl dcap)) (hL : w.cell? ⟨S, 18, none⟩ = some (.bool false)) (hH : w.cell? ⟨S, 19, none⟩ = some (.int .i64 held)) (heb : eb < w.heap.size) (ht : t < nE) (he0 : w.cell? ⟨eb, eo + t * 4, none⟩ = some (.string nm)) (he1 : w.cell? ⟨eb, eo + t * 4 + 1, none⟩ = some (.int .i64 st)) (he2 : w.cell? ⟨eb, eo + t * 4 + 2, none⟩ = some (.int .i64 fin)) (he3 : w.cell? ⟨eb, eo + t * 4 + 3, none⟩ = some (.int .i64 dl)) (hfit : held = -1 ∨ (0 ≤ held ∧ held < lk)) (h1 : st ≤ pc) (h2 : fin ≤ pc) :
    Calls Tryd.prog 23 #[.agg #[.slice cp nC ccap, .slice (some ⟨eb, eo, none⟩) nE ecap, .int .i64 sh, .int .i64 lk], .int .i64 (t : Nat), .pointer (some ⟨S, 0, none⟩), mv, pv] w (fun e w' => e = .returned (.tuple #[.agg #[.int .u8 0, .int .i64 0, .int .i64 0, .int .i64 0, .int .i64 0, .int .i64 0, .bool false, .int .i64 0, .int .i32 0], .int .i64 10]) ∧ Below w.heap.size w w') := by
  go_enter Tryd.func23, Tryd.ntmps23
  go_wp2_with fail
  refine (fits_yes _ dp S nE ecap dl dcap eb eo t sh lk held _ (by simp; omega) (by simp [go_sem, *]) (by simp; omega) (by simp [go_sem, *]) (by simp [go_sem, *]) (by simp [go_sem, *]) ht hfit).mono ?_
  rintro e w1 ⟨rfl, hb1⟩
  have pc_1 : w1.cell? ⟨S, 0, none⟩ = some (.int .i64 pc) := by rw [hb1.cell (p := ⟨S, 0, none⟩) (by first | (simp; done) | (simp; omega) | omega)]; first | assumption | (simp [go_sem, *]; done)
  have pcf_1 : w1.frozen? ⟨S, 0, none⟩ = false := by rw [hb1.frozen (p := ⟨S, 0, none⟩) (by first | (simp; done) | (simp; omega) | omega)]; first | assumption | (simp [go_sem, *]; done)
  have hl_1 : w1.cell? ⟨S, 18, none⟩ = some (.bool false) := by rw [hb1.cell (p := ⟨S, 18, none⟩) (by first | (simp; done) | (simp; omega) | omega)]; first | assumption | (simp [go_sem, *]; done)
  have en0_1 : w1.cell? ⟨eb, eo + t * 4, none⟩ = some (.string nm) := by rw [hb1.cell (p := ⟨eb, eo + t * 4, none⟩) (by first | (simp; done) | (simp; omega) | omega)]; first | assumption | (simp [go_sem, *]; done)
  have en1_1 : w1.cell? ⟨eb, eo + t * 4 + 1, none⟩ = some (.int .i64 st) := by rw [hb1.cell (p := ⟨eb, eo + t * 4 + 1, none⟩) (by first | (simp; done) | (simp; omega) | omega)]; first | assumption | (simp [go_sem, *]; done)
  have en2_1 : w1.cell? ⟨eb, eo + t * 4 + 2, none⟩ = some (.int .i64 fin) := by rw [hb1.cell (p := ⟨eb, eo + t * 4 + 2, none⟩) (by first | (simp; done) | (simp; omega) | omega)]; first | assumption | (simp [go_sem, *]; done)
  have en3_1 : w1.cell? ⟨eb, eo + t * 4 + 3, none⟩ = some (.int .i64 dl) := by rw [hb1.cell (p := ⟨eb, eo + t * 4 + 3, none⟩) (by first | (simp; done) | (simp; omega) | omega)]; first | assumption | (simp [go_sem, *]; done)
  have im0_1 : w1.cell? ⟨w.heap.size, 0, none⟩ = some (.slice cp nC ccap) := by rw [hb1.cell (p := ⟨w.heap.size, 0, none⟩) (by first | (simp; done) | (simp; omega) | omega)]; first | assumption | (simp [go_sem, *]; done)
  have im1_1 : w1.cell? ⟨w.heap.size, 1, none⟩ = some (.slice (some ⟨eb, eo, none⟩) nE ecap) := by rw [hb1.cell (p := ⟨w.heap.size, 1, none⟩) (by first | (simp; done) | (simp; omega) | omega)]; first | assumption | (simp [go_sem, *]; done)
  have im3_1 : w1.cell? ⟨w.heap.size, 3, none⟩ = some (.int .i64 lk) := by rw [hb1.cell (p := ⟨w.heap.size, 3, none⟩) (by first | (simp; done) | (simp; omega) | omega)]; first | assumption | (simp [go_sem, *]; done)
  have r0_1 : w1.cell? ⟨w.heap.size + 1, 0, none⟩ = some (.int .u8 0) := by rw [hb1.cell (p := ⟨w.heap.size + 1, 0, none⟩) (by first | (simp; done) | (simp; omega) | omega)]; first | assumption | (simp [go_sem, *]; done)
  have r0f_1 : w1.frozen? ⟨w.heap.size + 1, 0, none⟩ = false := by rw [hb1.frozen (p := ⟨w.heap.size + 1, 0, none⟩) (by first | (simp; done) | (simp; omega) | omega)]; first | assumption | (simp [go_sem, *]; done)
  have r1_1 : w1.cell? ⟨w.heap.size + 1, 1, none⟩ = some (.int .i64 0) := by rw [hb1.cell (p := ⟨w.heap.size + 1, 1, none⟩) (by first | (simp; done) | (simp; omega) | omega)]; first | assumption | (simp [go_sem, *]; done)
  have r1f_1 : w1.frozen? ⟨w.heap.size + 1, 1, none⟩ = false := by rw [hb1.frozen (p := ⟨w.heap.size + 1, 1, none⟩) (by first | (simp; done) | (simp; omega) | omega)]; first | assumption | (simp [go_sem, *]; done)
  have r2_1 : w1.cell? ⟨w.heap.size + 1, 2, none⟩ = some (.int .i64 0) := by rw [hb1.cell (p := ⟨w.heap.size + 1, 2, none⟩) (by first | (simp; done) | (simp; omega) | omega)]; first | assumption | (simp [go_sem, *]; done)
  have r2f_1 : w1.frozen? ⟨w.heap.size + 1, 2, none⟩ = false := by rw [hb1.frozen (p := ⟨w.heap.size + 1, 2, none⟩) (by first | (simp; done) | (simp; omega) | omega)]; first | assumption | (simp [go_sem, *]; done)
  have r3_1 : w1.cell? ⟨w.heap.size + 1, 3, none⟩ = some (.int .i64 0) := by rw [hb1.cell (p := ⟨w.heap.size + 1, 3, none⟩) (by first | (simp; done) | (simp; omega) | omega)]; first | assumption | (simp [go_sem, *]; done)
  have r3f_1 : w1.frozen? ⟨w.heap.size + 1, 3, none⟩ = false := by rw [hb1.frozen (p := ⟨w.heap.size + 1, 3, none⟩) (by first | (simp; done) | (simp; omega) | omega)]; first | assumption | (simp [go_sem, *]; done)
  have r4_1 : w1.cell? ⟨w.heap.size + 1, 4, none⟩ = some (.int .i64 0) := by rw [hb1.cell (p := ⟨w.heap.size + 1, 4, none⟩) (by first | (simp; done) | (simp; omega) | omega)]; first | assumption | (simp [go_sem, *]; done)
  have r4f_1 : w1.frozen? ⟨w.heap.size + 1, 4, none⟩ = false := by rw [hb1.frozen (p := ⟨w.heap.size + 1, 4, none⟩) (by first | (simp; done) | (simp; omega) | omega)]; first | assumption | (simp [go_sem, *]; done)
  have r5_1 : w1.cell? ⟨w.heap.size + 1, 5, none⟩ = some (.int .i64 0) := by rw [hb1.cell (p := ⟨w.heap.size + 1, 5, none⟩) (by first | (simp; done) | (simp; omega) | omega)]; first | assumption | (simp [go_sem, *]; done)
  have r5f_1 : w1.frozen? ⟨w.heap.size + 1, 5, none⟩ = false := by rw [hb1.frozen (p := ⟨w.heap.size + 1, 5, none⟩) (by first | (simp; done) | (simp; omega) | omega)]; first | assumption | (simp [go_sem, *]; done)
  have r6_1 : w1.cell? ⟨w.heap.size + 1, 6, none⟩ = some (.bool false) := by rw [hb1.cell (p := ⟨w.heap.size + 1, 6, none⟩) (by first | (simp; done) | (simp; omega) | omega)]; first | assumption | (simp [go_sem, *]; done)
  have r6f_1 : w1.frozen? ⟨w.heap.size + 1, 6, none⟩ = false := by rw [hb1.frozen (p := ⟨w.heap.size + 1, 6, none⟩) (by first | (simp; done) | (simp; omega) | omega)]; first | assumption | (simp [go_sem, *]; done)
  have r7_1 : w1.cell? ⟨w.heap.size + 1, 7, none⟩ = some (.int .i64 0) := by rw [hb1.cell (p := ⟨w.heap.size + 1, 7, none⟩) (by first | (simp; done) | (simp; omega) | omega)]; first | assumption | (simp [go_sem, *]; done)
  have r7f_1 : w1.frozen? ⟨w.heap.size + 1, 7, none⟩ = false := by rw [hb1.frozen (p := ⟨w.heap.size + 1, 7, none⟩) (by first | (simp; done) | (simp; omega) | omega)]; first | assumption | (simp [go_sem, *]; done)
  have r8_1 : w1.cell? ⟨w.heap.size + 1, 8, none⟩ = some (.int .i32 0) := by rw [hb1.cell (p := ⟨w.heap.size + 1, 8, none⟩) (by first | (simp; done) | (simp; omega) | omega)]; first | assumption | (simp [go_sem, *]; done)
  have r8f_1 : w1.frozen? ⟨w.heap.size + 1, 8, none⟩ = false := by rw [hb1.frozen (p := ⟨w.heap.size + 1, 8, none⟩) (by first | (simp; done) | (simp; omega) | omega)]; first | assumption | (simp [go_sem, *]; done)
  have szS_1 : S < w1.heap.size := by have h := hb1.size; first | (simp at h; omega) | omega
  have szE_1 : eb < w1.heap.size := by have h := hb1.size; first | (simp at h; omega) | omega
  have szB_1 : w.heap.size < w1.heap.size := by have h := hb1.size; first | (simp at h; omega) | omega
  have szR_1 : w.heap.size + 1 < w1.heap.size := by have h := hb1.size; first | (simp at h; omega) | omega
  have HB1 : Below w.heap.size w w1 := by
    repeat (first | (with_reducible apply bBoth) | (with_reducible exact Below.refl _ _) | (with_reducible apply bDrewN) | (with_reducible apply Below.drew) | ((with_reducible apply bThen hb1); (focus first | (simp; done) | (simp; omega) | omega)) | ((with_reducible apply bSet); (focus first | (simp; done) | (simp; omega) | omega)) | ((with_reducible apply bAlloc); (focus first | (simp; done) | (simp; omega) | omega)))
  clear hb1
  have d1 : decide (pc < st) = false := by simpa using h1
  have d2 : decide (fin ≤ pc) = true := by simpa using h2
  go_wp2_with fail
  go_quiet (fail)
  go_wp2_with fail
  refine bodyPost_ret (v := .tuple #[.agg #[.int .u8 0, .int .i64 0, .int .i64 0, .int .i64 0, .int .i64 0, .int .i64 0, .bool false, .int .i64 0, .int .i32 0], .int .i64 10]) (run_result9 Tryd.results23 (fun _ => by kernel_rfl) (fun _ => by kernel_rfl) _ _ _ _ _ _ _ _ _ _ rfl rfl (by simp [go_sem, r0_1, szR_1]) (by simp [go_sem, r1_1, szR_1]) (by simp [go_sem, r2_1, szR_1]) (by simp [go_sem, r3_1, szR_1]) (by simp [go_sem, r4_1, szR_1]) (by simp [go_sem, r5_1, szR_1]) (by simp [go_sem, r6_1, szR_1]) (by simp [go_sem, r7_1, szR_1]) (by simp [go_sem, r8_1, szR_1])) rfl ⟨rfl, ?_⟩
  repeat (first | (with_reducible apply bBoth) | (with_reducible exact Below.refl _ _) | (with_reducible apply bDrewN) | (with_reducible apply Below.drew) | (with_reducible exact HB1) | ((with_reducible apply bSet); (focus first | (simp; done) | (simp; omega) | omega)) | ((with_reducible apply bAlloc); (focus first | (simp; done) | (simp; omega) | omega)))

set_option maxRecDepth 100000 in
set_option maxHeartbeats 1600000 in
theorem step_pc_neg (cb co nC ccap eb eo nE ecap t S dl dcap : Nat) (pc : Int) (sh lk st fin held : Int) (nm : ByteArray) (dp : Option Addr) (cp : Option Addr) (mv pv : Value) (w : World) (hS : S < w.heap.size) (hPC : w.cell? ⟨S, 0, none⟩ = some (.int .i64 pc)) (hPf : w.frozen? ⟨S, 0, none⟩ = false) (hR : w.cell? ⟨S, 1, none⟩ = some (.int .i32 0)) (hD : w.cell? ⟨S, 17, none⟩ = some (.slice dp dl dcap)) (hL : w.cell? ⟨S, 18, none⟩ = some (.bool false)) (hH : w.cell? ⟨S, 19, none⟩ = some (.int .i64 held)) (heb : eb < w.heap.size) (ht : t < nE) (he0 : w.cell? ⟨eb, eo + t * 4, none⟩ = some (.string nm)) (he1 : w.cell? ⟨eb, eo + t * 4 + 1, none⟩ = some (.int .i64 st)) (he2 : w.cell? ⟨eb, eo + t * 4 + 2, none⟩ = some (.int .i64 fin)) (he3 : w.cell? ⟨eb, eo + t * 4 + 3, none⟩ = some (.int .i64 dl)) (hfit : held = -1 ∨ (0 ≤ held ∧ held < lk)) (h1 : st ≤ pc) (h2 : pc < fin) (h3 : pc < 0) :
    Calls Tryd.prog 23 #[.agg #[.slice cp nC ccap, .slice (some ⟨eb, eo, none⟩) nE ecap, .int .i64 sh, .int .i64 lk], .int .i64 (t : Nat), .pointer (some ⟨S, 0, none⟩), mv, pv] w (fun e w' => e = .returned (.tuple #[.agg #[.int .u8 0, .int .i64 0, .int .i64 0, .int .i64 0, .int .i64 0, .int .i64 0, .bool false, .int .i64 0, .int .i32 0], .int .i64 10]) ∧ Below w.heap.size w w') := by
  go_enter Tryd.func23, Tryd.ntmps23
  go_wp2_with fail
  refine (fits_yes _ dp S nE ecap dl dcap eb eo t sh lk held _ (by simp; omega) (by simp [go_sem, *]) (by simp; omega) (by simp [go_sem, *]) (by simp [go_sem, *]) (by simp [go_sem, *]) ht hfit).mono ?_
  rintro e w1 ⟨rfl, hb1⟩
  have pc_1 : w1.cell? ⟨S, 0, none⟩ = some (.int .i64 pc) := by rw [hb1.cell (p := ⟨S, 0, none⟩) (by first | (simp; done) | (simp; omega) | omega)]; first | assumption | (simp [go_sem, *]; done)
  have pcf_1 : w1.frozen? ⟨S, 0, none⟩ = false := by rw [hb1.frozen (p := ⟨S, 0, none⟩) (by first | (simp; done) | (simp; omega) | omega)]; first | assumption | (simp [go_sem, *]; done)
  have hl_1 : w1.cell? ⟨S, 18, none⟩ = some (.bool false) := by rw [hb1.cell (p := ⟨S, 18, none⟩) (by first | (simp; done) | (simp; omega) | omega)]; first | assumption | (simp [go_sem, *]; done)
  have en0_1 : w1.cell? ⟨eb, eo + t * 4, none⟩ = some (.string nm) := by rw [hb1.cell (p := ⟨eb, eo + t * 4, none⟩) (by first | (simp; done) | (simp; omega) | omega)]; first | assumption | (simp [go_sem, *]; done)
  have en1_1 : w1.cell? ⟨eb, eo + t * 4 + 1, none⟩ = some (.int .i64 st) := by rw [hb1.cell (p := ⟨eb, eo + t * 4 + 1, none⟩) (by first | (simp; done) | (simp; omega) | omega)]; first | assumption | (simp [go_sem, *]; done)
  have en2_1 : w1.cell? ⟨eb, eo + t * 4 + 2, none⟩ = some (.int .i64 fin) := by rw [hb1.cell (p := ⟨eb, eo + t * 4 + 2, none⟩) (by first | (simp; done) | (simp; omega) | omega)]; first | assumption | (simp [go_sem, *]; done)
  have en3_1 : w1.cell? ⟨eb, eo + t * 4 + 3, none⟩ = some (.int .i64 dl) := by rw [hb1.cell (p := ⟨eb, eo + t * 4 + 3, none⟩) (by first | (simp; done) | (simp; omega) | omega)]; first | assumption | (simp [go_sem, *]; done)
  have im0_1 : w1.cell? ⟨w.heap.size, 0, none⟩ = some (.slice cp nC ccap) := by rw [hb1.cell (p := ⟨w.heap.size, 0, none⟩) (by first | (simp; done) | (simp; omega) | omega)]; first | assumption | (simp [go_sem, *]; done)
  have im1_1 : w1.cell? ⟨w.heap.size, 1, none⟩ = some (.slice (some ⟨eb, eo, none⟩) nE ecap) := by rw [hb1.cell (p := ⟨w.heap.size, 1, none⟩) (by first | (simp; done) | (simp; omega) | omega)]; first | assumption | (simp [go_sem, *]; done)
  have im3_1 : w1.cell? ⟨w.heap.size, 3, none⟩ = some (.int .i64 lk) := by rw [hb1.cell (p := ⟨w.heap.size, 3, none⟩) (by first | (simp; done) | (simp; omega) | omega)]; first | assumption | (simp [go_sem, *]; done)
  have r0_1 : w1.cell? ⟨w.heap.size + 1, 0, none⟩ = some (.int .u8 0) := by rw [hb1.cell (p := ⟨w.heap.size + 1, 0, none⟩) (by first | (simp; done) | (simp; omega) | omega)]; first | assumption | (simp [go_sem, *]; done)
  have r0f_1 : w1.frozen? ⟨w.heap.size + 1, 0, none⟩ = false := by rw [hb1.frozen (p := ⟨w.heap.size + 1, 0, none⟩) (by first | (simp; done) | (simp; omega) | omega)]; first | assumption | (simp [go_sem, *]; done)
  have r1_1 : w1.cell? ⟨w.heap.size + 1, 1, none⟩ = some (.int .i64 0) := by rw [hb1.cell (p := ⟨w.heap.size + 1, 1, none⟩) (by first | (simp; done) | (simp; omega) | omega)]; first | assumption | (simp [go_sem, *]; done)
  have r1f_1 : w1.frozen? ⟨w.heap.size + 1, 1, none⟩ = false := by rw [hb1.frozen (p := ⟨w.heap.size + 1, 1, none⟩) (by first | (simp; done) | (simp; omega) | omega)]; first | assumption | (simp [go_sem, *]; done)
  have r2_1 : w1.cell? ⟨w.heap.size + 1, 2, none⟩ = some (.int .i64 0) := by rw [hb1.cell (p := ⟨w.heap.size + 1, 2, none⟩) (by first | (simp; done) | (simp; omega) | omega)]; first | assumption | (simp [go_sem, *]; done)
  have r2f_1 : w1.frozen? ⟨w.heap.size + 1, 2, none⟩ = false := by rw [hb1.frozen (p := ⟨w.heap.size + 1, 2, none⟩) (by first | (simp; done) | (simp; omega) | omega)]; first | assumption | (simp [go_sem, *]; done)
  have r3_1 : w1.cell? ⟨w.heap.size + 1, 3, none⟩ = some (.int .i64 0) := by rw [hb1.cell (p := ⟨w.heap.size + 1, 3, none⟩) (by first | (simp; done) | (simp; omega) | omega)]; first | assumption | (simp [go_sem, *]; done)
  have r3f_1 : w1.frozen? ⟨w.heap.size + 1, 3, none⟩ = false := by rw [hb1.frozen (p := ⟨w.heap.size + 1, 3, none⟩) (by first | (simp; done) | (simp; omega) | omega)]; first | assumption | (simp [go_sem, *]; done)
  have r4_1 : w1.cell? ⟨w.heap.size + 1, 4, none⟩ = some (.int .i64 0) := by rw [hb1.cell (p := ⟨w.heap.size + 1, 4, none⟩) (by first | (simp; done) | (simp; omega) | omega)]; first | assumption | (simp [go_sem, *]; done)
  have r4f_1 : w1.frozen? ⟨w.heap.size + 1, 4, none⟩ = false := by rw [hb1.frozen (p := ⟨w.heap.size + 1, 4, none⟩) (by first | (simp; done) | (simp; omega) | omega)]; first | assumption | (simp [go_sem, *]; done)
  have r5_1 : w1.cell? ⟨w.heap.size + 1, 5, none⟩ = some (.int .i64 0) := by rw [hb1.cell (p := ⟨w.heap.size + 1, 5, none⟩) (by first | (simp; done) | (simp; omega) | omega)]; first | assumption | (simp [go_sem, *]; done)
  have r5f_1 : w1.frozen? ⟨w.heap.size + 1, 5, none⟩ = false := by rw [hb1.frozen (p := ⟨w.heap.size + 1, 5, none⟩) (by first | (simp; done) | (simp; omega) | omega)]; first | assumption | (simp [go_sem, *]; done)
  have r6_1 : w1.cell? ⟨w.heap.size + 1, 6, none⟩ = some (.bool false) := by rw [hb1.cell (p := ⟨w.heap.size + 1, 6, none⟩) (by first | (simp; done) | (simp; omega) | omega)]; first | assumption | (simp [go_sem, *]; done)
  have r6f_1 : w1.frozen? ⟨w.heap.size + 1, 6, none⟩ = false := by rw [hb1.frozen (p := ⟨w.heap.size + 1, 6, none⟩) (by first | (simp; done) | (simp; omega) | omega)]; first | assumption | (simp [go_sem, *]; done)
  have r7_1 : w1.cell? ⟨w.heap.size + 1, 7, none⟩ = some (.int .i64 0) := by rw [hb1.cell (p := ⟨w.heap.size + 1, 7, none⟩) (by first | (simp; done) | (simp; omega) | omega)]; first | assumption | (simp [go_sem, *]; done)
  have r7f_1 : w1.frozen? ⟨w.heap.size + 1, 7, none⟩ = false := by rw [hb1.frozen (p := ⟨w.heap.size + 1, 7, none⟩) (by first | (simp; done) | (simp; omega) | omega)]; first | assumption | (simp [go_sem, *]; done)
  have r8_1 : w1.cell? ⟨w.heap.size + 1, 8, none⟩ = some (.int .i32 0) := by rw [hb1.cell (p := ⟨w.heap.size + 1, 8, none⟩) (by first | (simp; done) | (simp; omega) | omega)]; first | assumption | (simp [go_sem, *]; done)
  have r8f_1 : w1.frozen? ⟨w.heap.size + 1, 8, none⟩ = false := by rw [hb1.frozen (p := ⟨w.heap.size + 1, 8, none⟩) (by first | (simp; done) | (simp; omega) | omega)]; first | assumption | (simp [go_sem, *]; done)
  have szS_1 : S < w1.heap.size := by have h := hb1.size; first | (simp at h; omega) | omega
  have szE_1 : eb < w1.heap.size := by have h := hb1.size; first | (simp at h; omega) | omega
  have szB_1 : w.heap.size < w1.heap.size := by have h := hb1.size; first | (simp at h; omega) | omega
  have szR_1 : w.heap.size + 1 < w1.heap.size := by have h := hb1.size; first | (simp at h; omega) | omega
  have HB1 : Below w.heap.size w w1 := by
    repeat (first | (with_reducible apply bBoth) | (with_reducible exact Below.refl _ _) | (with_reducible apply bDrewN) | (with_reducible apply Below.drew) | ((with_reducible apply bThen hb1); (focus first | (simp; done) | (simp; omega) | omega)) | ((with_reducible apply bSet); (focus first | (simp; done) | (simp; omega) | omega)) | ((with_reducible apply bAlloc); (focus first | (simp; done) | (simp; omega) | omega)))
  clear hb1
  have d1 : decide (pc < st) = false := by simpa using h1
  have d2 : decide (fin ≤ pc) = false := by simpa using h2
  have d3 : decide (pc < 0) = true := by simpa using h3
  go_wp2_with fail
  go_quiet (fail)
  go_wp2_with fail
  refine bodyPost_ret (v := .tuple #[.agg #[.int .u8 0, .int .i64 0, .int .i64 0, .int .i64 0, .int .i64 0, .int .i64 0, .bool false, .int .i64 0, .int .i32 0], .int .i64 10]) (run_result9 Tryd.results23 (fun _ => by kernel_rfl) (fun _ => by kernel_rfl) _ _ _ _ _ _ _ _ _ _ rfl rfl (by simp [go_sem, r0_1, szR_1]) (by simp [go_sem, r1_1, szR_1]) (by simp [go_sem, r2_1, szR_1]) (by simp [go_sem, r3_1, szR_1]) (by simp [go_sem, r4_1, szR_1]) (by simp [go_sem, r5_1, szR_1]) (by simp [go_sem, r6_1, szR_1]) (by simp [go_sem, r7_1, szR_1]) (by simp [go_sem, r8_1, szR_1])) rfl ⟨rfl, ?_⟩
  repeat (first | (with_reducible apply bBoth) | (with_reducible exact Below.refl _ _) | (with_reducible apply bDrewN) | (with_reducible apply Below.drew) | (with_reducible exact HB1) | ((with_reducible apply bSet); (focus first | (simp; done) | (simp; omega) | omega)) | ((with_reducible apply bAlloc); (focus first | (simp; done) | (simp; omega) | omega)))

set_option maxRecDepth 100000 in
set_option maxHeartbeats 1600000 in
theorem step_pc_over (cb co nC ccap eb eo nE ecap t S dl dcap : Nat) (pc : Int) (sh lk st fin held : Int) (nm : ByteArray) (dp : Option Addr) (cp : Option Addr) (mv pv : Value) (w : World) (hS : S < w.heap.size) (hPC : w.cell? ⟨S, 0, none⟩ = some (.int .i64 pc)) (hPf : w.frozen? ⟨S, 0, none⟩ = false) (hR : w.cell? ⟨S, 1, none⟩ = some (.int .i32 0)) (hD : w.cell? ⟨S, 17, none⟩ = some (.slice dp dl dcap)) (hL : w.cell? ⟨S, 18, none⟩ = some (.bool false)) (hH : w.cell? ⟨S, 19, none⟩ = some (.int .i64 held)) (heb : eb < w.heap.size) (ht : t < nE) (he0 : w.cell? ⟨eb, eo + t * 4, none⟩ = some (.string nm)) (he1 : w.cell? ⟨eb, eo + t * 4 + 1, none⟩ = some (.int .i64 st)) (he2 : w.cell? ⟨eb, eo + t * 4 + 2, none⟩ = some (.int .i64 fin)) (he3 : w.cell? ⟨eb, eo + t * 4 + 3, none⟩ = some (.int .i64 dl)) (hfit : held = -1 ∨ (0 ≤ held ∧ held < lk)) (h1 : st ≤ pc) (h2 : pc < fin) (h3 : 0 ≤ pc) (h4 : (nC : Int) ≤ pc) :
    Calls Tryd.prog 23 #[.agg #[.slice cp nC ccap, .slice (some ⟨eb, eo, none⟩) nE ecap, .int .i64 sh, .int .i64 lk], .int .i64 (t : Nat), .pointer (some ⟨S, 0, none⟩), mv, pv] w (fun e w' => e = .returned (.tuple #[.agg #[.int .u8 0, .int .i64 0, .int .i64 0, .int .i64 0, .int .i64 0, .int .i64 0, .bool false, .int .i64 0, .int .i32 0], .int .i64 10]) ∧ Below w.heap.size w w') := by
  go_enter Tryd.func23, Tryd.ntmps23
  go_wp2_with fail
  refine (fits_yes _ dp S nE ecap dl dcap eb eo t sh lk held _ (by simp; omega) (by simp [go_sem, *]) (by simp; omega) (by simp [go_sem, *]) (by simp [go_sem, *]) (by simp [go_sem, *]) ht hfit).mono ?_
  rintro e w1 ⟨rfl, hb1⟩
  have pc_1 : w1.cell? ⟨S, 0, none⟩ = some (.int .i64 pc) := by rw [hb1.cell (p := ⟨S, 0, none⟩) (by first | (simp; done) | (simp; omega) | omega)]; first | assumption | (simp [go_sem, *]; done)
  have pcf_1 : w1.frozen? ⟨S, 0, none⟩ = false := by rw [hb1.frozen (p := ⟨S, 0, none⟩) (by first | (simp; done) | (simp; omega) | omega)]; first | assumption | (simp [go_sem, *]; done)
  have hl_1 : w1.cell? ⟨S, 18, none⟩ = some (.bool false) := by rw [hb1.cell (p := ⟨S, 18, none⟩) (by first | (simp; done) | (simp; omega) | omega)]; first | assumption | (simp [go_sem, *]; done)
  have en0_1 : w1.cell? ⟨eb, eo + t * 4, none⟩ = some (.string nm) := by rw [hb1.cell (p := ⟨eb, eo + t * 4, none⟩) (by first | (simp; done) | (simp; omega) | omega)]; first | assumption | (simp [go_sem, *]; done)
  have en1_1 : w1.cell? ⟨eb, eo + t * 4 + 1, none⟩ = some (.int .i64 st) := by rw [hb1.cell (p := ⟨eb, eo + t * 4 + 1, none⟩) (by first | (simp; done) | (simp; omega) | omega)]; first | assumption | (simp [go_sem, *]; done)
  have en2_1 : w1.cell? ⟨eb, eo + t * 4 + 2, none⟩ = some (.int .i64 fin) := by rw [hb1.cell (p := ⟨eb, eo + t * 4 + 2, none⟩) (by first | (simp; done) | (simp; omega) | omega)]; first | assumption | (simp [go_sem, *]; done)
  have en3_1 : w1.cell? ⟨eb, eo + t * 4 + 3, none⟩ = some (.int .i64 dl) := by rw [hb1.cell (p := ⟨eb, eo + t * 4 + 3, none⟩) (by first | (simp; done) | (simp; omega) | omega)]; first | assumption | (simp [go_sem, *]; done)
  have im0_1 : w1.cell? ⟨w.heap.size, 0, none⟩ = some (.slice cp nC ccap) := by rw [hb1.cell (p := ⟨w.heap.size, 0, none⟩) (by first | (simp; done) | (simp; omega) | omega)]; first | assumption | (simp [go_sem, *]; done)
  have im1_1 : w1.cell? ⟨w.heap.size, 1, none⟩ = some (.slice (some ⟨eb, eo, none⟩) nE ecap) := by rw [hb1.cell (p := ⟨w.heap.size, 1, none⟩) (by first | (simp; done) | (simp; omega) | omega)]; first | assumption | (simp [go_sem, *]; done)
  have im3_1 : w1.cell? ⟨w.heap.size, 3, none⟩ = some (.int .i64 lk) := by rw [hb1.cell (p := ⟨w.heap.size, 3, none⟩) (by first | (simp; done) | (simp; omega) | omega)]; first | assumption | (simp [go_sem, *]; done)
  have r0_1 : w1.cell? ⟨w.heap.size + 1, 0, none⟩ = some (.int .u8 0) := by rw [hb1.cell (p := ⟨w.heap.size + 1, 0, none⟩) (by first | (simp; done) | (simp; omega) | omega)]; first | assumption | (simp [go_sem, *]; done)
  have r0f_1 : w1.frozen? ⟨w.heap.size + 1, 0, none⟩ = false := by rw [hb1.frozen (p := ⟨w.heap.size + 1, 0, none⟩) (by first | (simp; done) | (simp; omega) | omega)]; first | assumption | (simp [go_sem, *]; done)
  have r1_1 : w1.cell? ⟨w.heap.size + 1, 1, none⟩ = some (.int .i64 0) := by rw [hb1.cell (p := ⟨w.heap.size + 1, 1, none⟩) (by first | (simp; done) | (simp; omega) | omega)]; first | assumption | (simp [go_sem, *]; done)
  have r1f_1 : w1.frozen? ⟨w.heap.size + 1, 1, none⟩ = false := by rw [hb1.frozen (p := ⟨w.heap.size + 1, 1, none⟩) (by first | (simp; done) | (simp; omega) | omega)]; first | assumption | (simp [go_sem, *]; done)
  have r2_1 : w1.cell? ⟨w.heap.size + 1, 2, none⟩ = some (.int .i64 0) := by rw [hb1.cell (p := ⟨w.heap.size + 1, 2, none⟩) (by first | (simp; done) | (simp; omega) | omega)]; first | assumption | (simp [go_sem, *]; done)
  have r2f_1 : w1.frozen? ⟨w.heap.size + 1, 2, none⟩ = false := by rw [hb1.frozen (p := ⟨w.heap.size + 1, 2, none⟩) (by first | (simp; done) | (simp; omega) | omega)]; first | assumption | (simp [go_sem, *]; done)
  have r3_1 : w1.cell? ⟨w.heap.size + 1, 3, none⟩ = some (.int .i64 0) := by rw [hb1.cell (p := ⟨w.heap.size + 1, 3, none⟩) (by first | (simp; done) | (simp; omega) | omega)]; first | assumption | (simp [go_sem, *]; done)
  have r3f_1 : w1.frozen? ⟨w.heap.size + 1, 3, none⟩ = false := by rw [hb1.frozen (p := ⟨w.heap.size + 1, 3, none⟩) (by first | (simp; done) | (simp; omega) | omega)]; first | assumption | (simp [go_sem, *]; done)
  have r4_1 : w1.cell? ⟨w.heap.size + 1, 4, none⟩ = some (.int .i64 0) := by rw [hb1.cell (p := ⟨w.heap.size + 1, 4, none⟩) (by first | (simp; done) | (simp; omega) | omega)]; first | assumption | (simp [go_sem, *]; done)
  have r4f_1 : w1.frozen? ⟨w.heap.size + 1, 4, none⟩ = false := by rw [hb1.frozen (p := ⟨w.heap.size + 1, 4, none⟩) (by first | (simp; done) | (simp; omega) | omega)]; first | assumption | (simp [go_sem, *]; done)
  have r5_1 : w1.cell? ⟨w.heap.size + 1, 5, none⟩ = some (.int .i64 0) := by rw [hb1.cell (p := ⟨w.heap.size + 1, 5, none⟩) (by first | (simp; done) | (simp; omega) | omega)]; first | assumption | (simp [go_sem, *]; done)
  have r5f_1 : w1.frozen? ⟨w.heap.size + 1, 5, none⟩ = false := by rw [hb1.frozen (p := ⟨w.heap.size + 1, 5, none⟩) (by first | (simp; done) | (simp; omega) | omega)]; first | assumption | (simp [go_sem, *]; done)
  have r6_1 : w1.cell? ⟨w.heap.size + 1, 6, none⟩ = some (.bool false) := by rw [hb1.cell (p := ⟨w.heap.size + 1, 6, none⟩) (by first | (simp; done) | (simp; omega) | omega)]; first | assumption | (simp [go_sem, *]; done)
  have r6f_1 : w1.frozen? ⟨w.heap.size + 1, 6, none⟩ = false := by rw [hb1.frozen (p := ⟨w.heap.size + 1, 6, none⟩) (by first | (simp; done) | (simp; omega) | omega)]; first | assumption | (simp [go_sem, *]; done)
  have r7_1 : w1.cell? ⟨w.heap.size + 1, 7, none⟩ = some (.int .i64 0) := by rw [hb1.cell (p := ⟨w.heap.size + 1, 7, none⟩) (by first | (simp; done) | (simp; omega) | omega)]; first | assumption | (simp [go_sem, *]; done)
  have r7f_1 : w1.frozen? ⟨w.heap.size + 1, 7, none⟩ = false := by rw [hb1.frozen (p := ⟨w.heap.size + 1, 7, none⟩) (by first | (simp; done) | (simp; omega) | omega)]; first | assumption | (simp [go_sem, *]; done)
  have r8_1 : w1.cell? ⟨w.heap.size + 1, 8, none⟩ = some (.int .i32 0) := by rw [hb1.cell (p := ⟨w.heap.size + 1, 8, none⟩) (by first | (simp; done) | (simp; omega) | omega)]; first | assumption | (simp [go_sem, *]; done)
  have r8f_1 : w1.frozen? ⟨w.heap.size + 1, 8, none⟩ = false := by rw [hb1.frozen (p := ⟨w.heap.size + 1, 8, none⟩) (by first | (simp; done) | (simp; omega) | omega)]; first | assumption | (simp [go_sem, *]; done)
  have szS_1 : S < w1.heap.size := by have h := hb1.size; first | (simp at h; omega) | omega
  have szE_1 : eb < w1.heap.size := by have h := hb1.size; first | (simp at h; omega) | omega
  have szB_1 : w.heap.size < w1.heap.size := by have h := hb1.size; first | (simp at h; omega) | omega
  have szR_1 : w.heap.size + 1 < w1.heap.size := by have h := hb1.size; first | (simp at h; omega) | omega
  have HB1 : Below w.heap.size w w1 := by
    repeat (first | (with_reducible apply bBoth) | (with_reducible exact Below.refl _ _) | (with_reducible apply bDrewN) | (with_reducible apply Below.drew) | ((with_reducible apply bThen hb1); (focus first | (simp; done) | (simp; omega) | omega)) | ((with_reducible apply bSet); (focus first | (simp; done) | (simp; omega) | omega)) | ((with_reducible apply bAlloc); (focus first | (simp; done) | (simp; omega) | omega)))
  clear hb1
  have d1 : decide (pc < st) = false := by simpa using h1
  have d2 : decide (fin ≤ pc) = false := by simpa using h2
  have d3 : decide (pc < 0) = false := by simpa using h3
  have d4 : decide ((nC : Int) ≤ pc) = true := by simpa using h4
  go_wp2_with fail
  go_quiet (fail)
  go_wp2_with fail
  refine bodyPost_ret (v := .tuple #[.agg #[.int .u8 0, .int .i64 0, .int .i64 0, .int .i64 0, .int .i64 0, .int .i64 0, .bool false, .int .i64 0, .int .i32 0], .int .i64 10]) (run_result9 Tryd.results23 (fun _ => by kernel_rfl) (fun _ => by kernel_rfl) _ _ _ _ _ _ _ _ _ _ rfl rfl (by simp [go_sem, r0_1, szR_1]) (by simp [go_sem, r1_1, szR_1]) (by simp [go_sem, r2_1, szR_1]) (by simp [go_sem, r3_1, szR_1]) (by simp [go_sem, r4_1, szR_1]) (by simp [go_sem, r5_1, szR_1]) (by simp [go_sem, r6_1, szR_1]) (by simp [go_sem, r7_1, szR_1]) (by simp [go_sem, r8_1, szR_1])) rfl ⟨rfl, ?_⟩
  repeat (first | (with_reducible apply bBoth) | (with_reducible exact Below.refl _ _) | (with_reducible apply bDrewN) | (with_reducible apply Below.drew) | (with_reducible exact HB1) | ((with_reducible apply bSet); (focus first | (simp; done) | (simp; omega) | omega)) | ((with_reducible apply bAlloc); (focus first | (simp; done) | (simp; omega) | omega)))

end Go.Proofs.YtpachmkklppmjaaDoor
