/- core.Step where nothing is executed: nil, a state that does not fit, a halted one, traps. -/
import Derived.Test.YtpachmkklppmjaaDoorCorJ
set_option linter.unusedVariables false
set_option linter.unusedSimpArgs false
namespace Go.Proofs.YtpachmkklppmjaaDoor
open Go.RowKit

set_option maxRecDepth 100000 in
set_option maxHeartbeats 3200000 in
theorem step_trap (cb co nC ccap eb eo nE ecap t S pc dl dcap n a b c : Nat) (sh lk st fin held x i : Int) (nm : ByteArray) (dp : Option Addr) (mv pv : Value) (w : World) (er : Int) (her : (er != 0) = true) (hT : Tab w)
    (hS : S < w.heap.size) (hPC : w.cell? ⟨S, 0, none⟩ = some (.int .i64 (pc : Nat))) (hPf : w.frozen? ⟨S, 0, none⟩ = false) (hR : w.cell? ⟨S, 1, none⟩ = some (.int .i32 0)) (hD : w.cell? ⟨S, 17, none⟩ = some (.slice dp dl dcap)) (hL : w.cell? ⟨S, 18, none⟩ = some (.bool false)) (hH : w.cell? ⟨S, 19, none⟩ = some (.int .i64 held))
    (heb : eb < w.heap.size) (ht : t < nE) (he0 : w.cell? ⟨eb, eo + t * 4, none⟩ = some (.string nm)) (he1 : w.cell? ⟨eb, eo + t * 4 + 1, none⟩ = some (.int .i64 st)) (he2 : w.cell? ⟨eb, eo + t * 4 + 2, none⟩ = some (.int .i64 fin)) (he3 : w.cell? ⟨eb, eo + t * 4 + 3, none⟩ = some (.int .i64 dl)) (hfit : held = -1 ∨ (0 ≤ held ∧ held < lk))
    (hcb : cb < w.heap.size) (hpc : pc < nC) (hpc1 : st ≤ pc) (hpc2 : (pc : Int) < fin) (hpcb : pc ≤ 140737488351232) (hcode : w.cell? ⟨cb, co + pc, none⟩ = some (.int .u32 x)) (hx0 : 0 ≤ x) (hx1 : x < 4294967296)
    (hdec : decV x = .tuple #[.agg #[.int .u8 n, .int .i64 a, .int .i64 b, .int .i64 c, .int .i64 i], .int .i64 0])
    (hprep : ∀ (W : World) (E : Nat), w.heap.size ≤ E → E < W.heap.size → Below w.heap.size w W → ExAt W E n a b c i pc S →
      Calls Tryd.prog 28 #[.pointer (some ⟨E, 0, none⟩), .int .i64 lk, mv, pv] W (fun e w' => ∃ fv, e = .returned (.tuple #[fv, .int .i64 er]) ∧ Below W.heap.size W w')) :
    Calls Tryd.prog 23 #[.agg #[.slice (some ⟨cb, co, none⟩) nC ccap, .slice (some ⟨eb, eo, none⟩) nE ecap, .int .i64 sh, .int .i64 lk], .int .i64 (t : Nat), .pointer (some ⟨S, 0, none⟩), mv, pv] w (fun e w' => e = .returned (.tuple #[.agg #[.int .u8 0, .int .i64 0, .int .i64 0, .int .i64 0, .int .i64 0, .int .i64 0, .bool false, .int .i64 0, .int .i32 0], .int .i64 er]) ∧ Below w.heap.size w w') := by
  have HX := Lib.hid hdec
  clear hdec
  go_enter Tryd.func23, Tryd.ntmps23
  go_wp2_with fail
  refine (fits_yes _ dp S nE ecap dl dcap eb eo t sh lk held _ (by simp; omega) (by simp [go_sem, *]) (by simp; omega) (by simp [go_sem, *]) (by simp [go_sem, *]) (by simp [go_sem, *]) ht hfit).mono ?_
  rintro e w1 ⟨rfl, hb1⟩
  have pc_1 : w1.cell? ⟨S, 0, none⟩ = some (.int .i64 (pc : Nat)) := by rw [hb1.cell (p := ⟨S, 0, none⟩) (by first | (simp; done) | (simp; omega) | omega)]; first | assumption | (simp [go_sem, *]; done)
  have pcf_1 : w1.frozen? ⟨S, 0, none⟩ = false := by rw [hb1.frozen (p := ⟨S, 0, none⟩) (by first | (simp; done) | (simp; omega) | omega)]; first | assumption | (simp [go_sem, *]; done)
  have hl_1 : w1.cell? ⟨S, 18, none⟩ = some (.bool false) := by rw [hb1.cell (p := ⟨S, 18, none⟩) (by first | (simp; done) | (simp; omega) | omega)]; first | assumption | (simp [go_sem, *]; done)
  have en0_1 : w1.cell? ⟨eb, eo + t * 4, none⟩ = some (.string nm) := by rw [hb1.cell (p := ⟨eb, eo + t * 4, none⟩) (by first | (simp; done) | (simp; omega) | omega)]; first | assumption | (simp [go_sem, *]; done)
  have en1_1 : w1.cell? ⟨eb, eo + t * 4 + 1, none⟩ = some (.int .i64 st) := by rw [hb1.cell (p := ⟨eb, eo + t * 4 + 1, none⟩) (by first | (simp; done) | (simp; omega) | omega)]; first | assumption | (simp [go_sem, *]; done)
  have en2_1 : w1.cell? ⟨eb, eo + t * 4 + 2, none⟩ = some (.int .i64 fin) := by rw [hb1.cell (p := ⟨eb, eo + t * 4 + 2, none⟩) (by first | (simp; done) | (simp; omega) | omega)]; first | assumption | (simp [go_sem, *]; done)
  have en3_1 : w1.cell? ⟨eb, eo + t * 4 + 3, none⟩ = some (.int .i64 dl) := by rw [hb1.cell (p := ⟨eb, eo + t * 4 + 3, none⟩) (by first | (simp; done) | (simp; omega) | omega)]; first | assumption | (simp [go_sem, *]; done)
  have im0_1 : w1.cell? ⟨w.heap.size, 0, none⟩ = some (.slice (some ⟨cb, co, none⟩) nC ccap) := by rw [hb1.cell (p := ⟨w.heap.size, 0, none⟩) (by first | (simp; done) | (simp; omega) | omega)]; first | assumption | (simp [go_sem, *]; done)
  have im1_1 : w1.cell? ⟨w.heap.size, 1, none⟩ = some (.slice (some ⟨eb, eo, none⟩) nE ecap) := by rw [hb1.cell (p := ⟨w.heap.size, 1, none⟩) (by first | (simp; done) | (simp; omega) | omega)]; first | assumption | (simp [go_sem, *]; done)
  have im3_1 : w1.cell? ⟨w.heap.size, 3, none⟩ = some (.int .i64 lk) := by rw [hb1.cell (p := ⟨w.heap.size, 3, none⟩) (by first | (simp; done) | (simp; omega) | omega)]; first | assumption | (simp [go_sem, *]; done)
  have r0_1 : w1.cell? ⟨w.heap.size + 1, 0, none⟩ = some (.int .u8 0) := by rw [hb1.cell (p := ⟨w.heap.size + 1, 0, none⟩) (by first | (simp; done) | (simp; omega) | omega)]; first | assumption | (simp [go_sem, *]; done)
  have r0f_1 : w1.frozen? ⟨w.heap.size + 1, 0, none⟩ = false := by rw [hb1.frozen (p := ⟨w.heap.size + 1, 0, none⟩) (by first | (simp; done) | (simp; omega) | omega)]; first | assumption | (simp [go_sem, *]; done)
  have r1_1 : w1.cell? ⟨w.heap.size + 1, 1, none⟩ = some (.int .i64 0) := by rw [hb1.cell (p := ⟨w.heap.size + 1, 1, none⟩) (by first | (simp; done) | (simp; omega) | omega)]; first | assumption | (simp [go_sem, *]; done)
  have r1f_1 : w1.frozen? ⟨w.heap.size + 1, 1, none⟩ = false := by rw [hb1.frozen (p := ⟨w.heap.size + 1, 1, none⟩) (by first | (simp; done) | (simp; omega) | omega)]; first | assumption | (simp [go_sem, *]; done)
  have r2_1 : w1.cell? ⟨w.heap.size + 1, 2, none⟩ = some (.int .i64 0) := by rw [hb1.cell (p := ⟨w.heap.size + 1, 2, none⟩) (by first | (simp; done) | (simp; omega) | omega)]; first | assumption | (simp [go_sem, *]; done)
  have r2f_1 : w1.frozen? ⟨w.heap.size + 1, 2, none⟩ = false := by rw [hb1.frozen (p := ⟨w.heap.size + 1, 2, none⟩) (by first | (simp; done) | (simp; omega) | omega)]; first | assumption | (simp [go_sem, *]; done)
  have r3_1 : w1.cell? ⟨w.heap.size + 1, 3, none⟩ = some (.int .i64 0) := by rw [hb1.cell (p := ⟨w.heap.size + 1, 3, none⟩) (by first | (simp; done) | (simp; omega) | omega)]; first | assumption | (simp [go_sem, *]; done)
  have r3f_1 : w1.frozen? ⟨w.heap.size + 1, 3, none⟩ = false := by rw [hb1.frozen (p := ⟨w.heap.size + 1, 3, none⟩) (by first | (simp; done) | (simp; omega) | omega)]; first | assumption | (simp [go_sem, *]; done)
  have r4_1 : w1.cell? ⟨w.heap.size + 1, 4, none⟩ = some (.int .i64 0) := by rw [hb1.cell (p := ⟨w.heap.size + 1, 4, none⟩) (by first | (simp; done) | (simp; omega) | omega)]; first | assumption | (simp [go_sem, *]; done)
  have r4f_1 : w1.frozen? ⟨w.heap.size + 1, 4, none⟩ = false := by rw [hb1.frozen (p := ⟨w.heap.size + 1, 4, none⟩) (by first | (simp; done) | (simp; omega) | omega)]; first | assumption | (simp [go_sem, *]; done)
  have r5_1 : w1.cell? ⟨w.heap.size + 1, 5, none⟩ = some (.int .i64 0) := by rw [hb1.cell (p := ⟨w.heap.size + 1, 5, none⟩) (by first | (simp; done) | (simp; omega) | omega)]; first | assumption | (simp [go_sem, *]; done)
  have r5f_1 : w1.frozen? ⟨w.heap.size + 1, 5, none⟩ = false := by rw [hb1.frozen (p := ⟨w.heap.size + 1, 5, none⟩) (by first | (simp; done) | (simp; omega) | omega)]; first | assumption | (simp [go_sem, *]; done)
  have r6_1 : w1.cell? ⟨w.heap.size + 1, 6, none⟩ = some (.bool false) := by rw [hb1.cell (p := ⟨w.heap.size + 1, 6, none⟩) (by first | (simp; done) | (simp; omega) | omega)]; first | assumption | (simp [go_sem, *]; done)
  have r6f_1 : w1.frozen? ⟨w.heap.size + 1, 6, none⟩ = false := by rw [hb1.frozen (p := ⟨w.heap.size + 1, 6, none⟩) (by first | (simp; done) | (simp; omega) | omega)]; first | assumption | (simp [go_sem, *]; done)
  have r7_1 : w1.cell? ⟨w.heap.size + 1, 7, none⟩ = some (.int .i64 0) := by rw [hb1.cell (p := ⟨w.heap.size + 1, 7, none⟩) (by first | (simp; done) | (simp; omega) | omega)]; first | assumption | (simp [go_sem, *]; done)
  have r7f_1 : w1.frozen? ⟨w.heap.size + 1, 7, none⟩ = false := by rw [hb1.frozen (p := ⟨w.heap.size + 1, 7, none⟩) (by first | (simp; done) | (simp; omega) | omega)]; first | assumption | (simp [go_sem, *]; done)
  have r8_1 : w1.cell? ⟨w.heap.size + 1, 8, none⟩ = some (.int .i32 0) := by rw [hb1.cell (p := ⟨w.heap.size + 1, 8, none⟩) (by first | (simp; done) | (simp; omega) | omega)]; first | assumption | (simp [go_sem, *]; done)
  have r8f_1 : w1.frozen? ⟨w.heap.size + 1, 8, none⟩ = false := by rw [hb1.frozen (p := ⟨w.heap.size + 1, 8, none⟩) (by first | (simp; done) | (simp; omega) | omega)]; first | assumption | (simp [go_sem, *]; done)
  have cd_1 : w1.cell? ⟨cb, co + pc, none⟩ = some (.int .u32 x) := by rw [hb1.cell (p := ⟨cb, co + pc, none⟩) (by first | (simp; done) | (simp; omega) | omega)]; first | assumption | (simp [go_sem, *]; done)
  have szS_1 : S < w1.heap.size := by have h := hb1.size; first | (simp at h; omega) | omega
  have szE_1 : eb < w1.heap.size := by have h := hb1.size; first | (simp at h; omega) | omega
  have szC_1 : cb < w1.heap.size := by have h := hb1.size; first | (simp at h; omega) | omega
  have szB_1 : w.heap.size < w1.heap.size := by have h := hb1.size; first | (simp at h; omega) | omega
  have szR_1 : w.heap.size + 1 < w1.heap.size := by have h := hb1.size; first | (simp at h; omega) | omega
  have HB1 : Below w.heap.size w w1 := by
    repeat (first | (with_reducible apply bBoth) | (with_reducible exact Below.refl _ _) | (with_reducible apply bDrewN) | (with_reducible apply Below.drew) | ((with_reducible apply bThen hb1); (focus first | (simp; done) | (simp; omega) | omega)) | ((with_reducible apply bSet); (focus first | (simp; done) | (simp; omega) | omega)) | ((with_reducible apply bAlloc); (focus first | (simp; done) | (simp; omega) | omega)))
  have hT1 : Tab w1 := hT.of_below HB1
  clear hb1
  have d1 : decide ((pc : Int) < st) = false := by simp; omega
  have d2 : decide (fin ≤ (pc : Int)) = false := by simp; omega
  have d3 : decide (nC ≤ pc) = false := by simp; omega
  have d4 : ¬ (pc : Int) < st := by omega
  have d5 : ¬ fin ≤ (pc : Int) := by omega
  have d6 : ¬ nC ≤ pc := by omega
  go_wp2_with fail
  go_quiet (fail)
  go_wp2_with fail
  have hdc : ∀ W, Tab W → Calls Tryd.prog 10 #[.int .u32 x] W (fun e w' => e = .returned (.tuple #[.agg #[.int .u8 n, .int .i64 a, .int .i64 b, .int .i64 c, .int .i64 i], .int .i64 0]) ∧ Below W.heap.size W w') := fun W h => by have h2 := decode_any x W hx0 hx1 h; rw [HX.out] at h2; exact h2
  obtain ⟨w2, hw2⟩ : ∃ w2, (w1.alloc (.cells #[.string nm, .int .i64 st, .int .i64 fin, .int .i64 dl] 48)).drewN nq = w2 := ⟨_, rfl⟩
  have hb2 : Below w1.heap.size w1 w2 := by rw [← hw2]; exact bDrewN (bAlloc (Nat.le_refl _) (Below.refl _ _))
  have hsz2 : w2.heap.size = w1.heap.size + 1 := by rw [← hw2]; simp [World.drewN]
  rw [hw2]
  have pc_2 : w2.cell? ⟨S, 0, none⟩ = some (.int .i64 (pc : Nat)) := by rw [hb2.cell (p := ⟨S, 0, none⟩) (by first | (simp; done) | (simp; omega) | omega)]; first | assumption | (simp [go_sem, *]; done)
  have pcf_2 : w2.frozen? ⟨S, 0, none⟩ = false := by rw [hb2.frozen (p := ⟨S, 0, none⟩) (by first | (simp; done) | (simp; omega) | omega)]; first | assumption | (simp [go_sem, *]; done)
  have im0_2 : w2.cell? ⟨w.heap.size, 0, none⟩ = some (.slice (some ⟨cb, co, none⟩) nC ccap) := by rw [hb2.cell (p := ⟨w.heap.size, 0, none⟩) (by first | (simp; done) | (simp; omega) | omega)]; first | assumption | (simp [go_sem, *]; done)
  have im1_2 : w2.cell? ⟨w.heap.size, 1, none⟩ = some (.slice (some ⟨eb, eo, none⟩) nE ecap) := by rw [hb2.cell (p := ⟨w.heap.size, 1, none⟩) (by first | (simp; done) | (simp; omega) | omega)]; first | assumption | (simp [go_sem, *]; done)
  have im3_2 : w2.cell? ⟨w.heap.size, 3, none⟩ = some (.int .i64 lk) := by rw [hb2.cell (p := ⟨w.heap.size, 3, none⟩) (by first | (simp; done) | (simp; omega) | omega)]; first | assumption | (simp [go_sem, *]; done)
  have r0_2 : w2.cell? ⟨w.heap.size + 1, 0, none⟩ = some (.int .u8 0) := by rw [hb2.cell (p := ⟨w.heap.size + 1, 0, none⟩) (by first | (simp; done) | (simp; omega) | omega)]; first | assumption | (simp [go_sem, *]; done)
  have r0f_2 : w2.frozen? ⟨w.heap.size + 1, 0, none⟩ = false := by rw [hb2.frozen (p := ⟨w.heap.size + 1, 0, none⟩) (by first | (simp; done) | (simp; omega) | omega)]; first | assumption | (simp [go_sem, *]; done)
  have r1_2 : w2.cell? ⟨w.heap.size + 1, 1, none⟩ = some (.int .i64 0) := by rw [hb2.cell (p := ⟨w.heap.size + 1, 1, none⟩) (by first | (simp; done) | (simp; omega) | omega)]; first | assumption | (simp [go_sem, *]; done)
  have r1f_2 : w2.frozen? ⟨w.heap.size + 1, 1, none⟩ = false := by rw [hb2.frozen (p := ⟨w.heap.size + 1, 1, none⟩) (by first | (simp; done) | (simp; omega) | omega)]; first | assumption | (simp [go_sem, *]; done)
  have r2_2 : w2.cell? ⟨w.heap.size + 1, 2, none⟩ = some (.int .i64 0) := by rw [hb2.cell (p := ⟨w.heap.size + 1, 2, none⟩) (by first | (simp; done) | (simp; omega) | omega)]; first | assumption | (simp [go_sem, *]; done)
  have r2f_2 : w2.frozen? ⟨w.heap.size + 1, 2, none⟩ = false := by rw [hb2.frozen (p := ⟨w.heap.size + 1, 2, none⟩) (by first | (simp; done) | (simp; omega) | omega)]; first | assumption | (simp [go_sem, *]; done)
  have r3_2 : w2.cell? ⟨w.heap.size + 1, 3, none⟩ = some (.int .i64 0) := by rw [hb2.cell (p := ⟨w.heap.size + 1, 3, none⟩) (by first | (simp; done) | (simp; omega) | omega)]; first | assumption | (simp [go_sem, *]; done)
  have r3f_2 : w2.frozen? ⟨w.heap.size + 1, 3, none⟩ = false := by rw [hb2.frozen (p := ⟨w.heap.size + 1, 3, none⟩) (by first | (simp; done) | (simp; omega) | omega)]; first | assumption | (simp [go_sem, *]; done)
  have r4_2 : w2.cell? ⟨w.heap.size + 1, 4, none⟩ = some (.int .i64 0) := by rw [hb2.cell (p := ⟨w.heap.size + 1, 4, none⟩) (by first | (simp; done) | (simp; omega) | omega)]; first | assumption | (simp [go_sem, *]; done)
  have r4f_2 : w2.frozen? ⟨w.heap.size + 1, 4, none⟩ = false := by rw [hb2.frozen (p := ⟨w.heap.size + 1, 4, none⟩) (by first | (simp; done) | (simp; omega) | omega)]; first | assumption | (simp [go_sem, *]; done)
  have r5_2 : w2.cell? ⟨w.heap.size + 1, 5, none⟩ = some (.int .i64 0) := by rw [hb2.cell (p := ⟨w.heap.size + 1, 5, none⟩) (by first | (simp; done) | (simp; omega) | omega)]; first | assumption | (simp [go_sem, *]; done)
  have r5f_2 : w2.frozen? ⟨w.heap.size + 1, 5, none⟩ = false := by rw [hb2.frozen (p := ⟨w.heap.size + 1, 5, none⟩) (by first | (simp; done) | (simp; omega) | omega)]; first | assumption | (simp [go_sem, *]; done)
  have r6_2 : w2.cell? ⟨w.heap.size + 1, 6, none⟩ = some (.bool false) := by rw [hb2.cell (p := ⟨w.heap.size + 1, 6, none⟩) (by first | (simp; done) | (simp; omega) | omega)]; first | assumption | (simp [go_sem, *]; done)
  have r6f_2 : w2.frozen? ⟨w.heap.size + 1, 6, none⟩ = false := by rw [hb2.frozen (p := ⟨w.heap.size + 1, 6, none⟩) (by first | (simp; done) | (simp; omega) | omega)]; first | assumption | (simp [go_sem, *]; done)
  have r7_2 : w2.cell? ⟨w.heap.size + 1, 7, none⟩ = some (.int .i64 0) := by rw [hb2.cell (p := ⟨w.heap.size + 1, 7, none⟩) (by first | (simp; done) | (simp; omega) | omega)]; first | assumption | (simp [go_sem, *]; done)
  have r7f_2 : w2.frozen? ⟨w.heap.size + 1, 7, none⟩ = false := by rw [hb2.frozen (p := ⟨w.heap.size + 1, 7, none⟩) (by first | (simp; done) | (simp; omega) | omega)]; first | assumption | (simp [go_sem, *]; done)
  have r8_2 : w2.cell? ⟨w.heap.size + 1, 8, none⟩ = some (.int .i32 0) := by rw [hb2.cell (p := ⟨w.heap.size + 1, 8, none⟩) (by first | (simp; done) | (simp; omega) | omega)]; first | assumption | (simp [go_sem, *]; done)
  have r8f_2 : w2.frozen? ⟨w.heap.size + 1, 8, none⟩ = false := by rw [hb2.frozen (p := ⟨w.heap.size + 1, 8, none⟩) (by first | (simp; done) | (simp; omega) | omega)]; first | assumption | (simp [go_sem, *]; done)
  have cd_2 : w2.cell? ⟨cb, co + pc, none⟩ = some (.int .u32 x) := by rw [hb2.cell (p := ⟨cb, co + pc, none⟩) (by first | (simp; done) | (simp; omega) | omega)]; first | assumption | (simp [go_sem, *]; done)
  have szS_2 : S < w2.heap.size := by have h := hb2.size; first | (simp at h; omega) | omega
  have szC_2 : cb < w2.heap.size := by have h := hb2.size; first | (simp at h; omega) | omega
  have szB_2 : w.heap.size < w2.heap.size := by have h := hb2.size; first | (simp at h; omega) | omega
  have szR_2 : w.heap.size + 1 < w2.heap.size := by have h := hb2.size; first | (simp at h; omega) | omega
  have HB2 : Below w.heap.size w w2 := below_then HB1 hb2 (by omega)
  have hT2 : Tab w2 := hT.of_below HB2
  clear hsz2 hb2 hw2 HX pc_1 en0_1 en1_1 en2_1 en3_1 im0_1 im1_1 im3_1 r0_1 r1_1 r2_1 r3_1 r4_1 r5_1 r6_1 r7_1 r8_1 cd_1 pcf_1 r0f_1 r1f_1 r2f_1 r3f_1 r4f_1 r5f_1 r6f_1 r7f_1 r8f_1 szS_1 szE_1 szC_1 szB_1 szR_1 hl_1 hT1
  have hpcI : (pc : Int) < nC := by omega
  have hd1 : Calls Tryd.prog 10 #[.int .u32 x] w2.drew (fun e w' => e = .returned (.tuple #[.agg #[.int .u8 n, .int .i64 a, .int .i64 b, .int .i64 c, .int .i64 i], .int .i64 0]) ∧ Below w2.heap.size w2 w') := (hdc _ (Tab.of_below hT2 ((Below.refl _ _).drew))).mono fun e w' ⟨h1, h2⟩ => ⟨h1, (Below.refl _ _).drew.trans h2⟩
  have hd2 : Calls Tryd.prog 10 #[.int .u32 x] (w2.alloc (.cells #[.int .u8 0, .int .i64 0, .int .i64 0, .int .i64 0, .int .i64 0] 51)).drew (fun e w' => e = .returned (.tuple #[.agg #[.int .u8 n, .int .i64 a, .int .i64 b, .int .i64 c, .int .i64 i], .int .i64 0]) ∧ Below w2.heap.size w2 w' ∧ w2.heap.size < w'.heap.size ∧ w'.cell? ⟨w2.heap.size, 0, none⟩ = some (.int .u8 0) ∧ w'.cell? ⟨w2.heap.size, 1, none⟩ = some (.int .i64 0) ∧ w'.cell? ⟨w2.heap.size, 2, none⟩ = some (.int .i64 0) ∧ w'.cell? ⟨w2.heap.size, 3, none⟩ = some (.int .i64 0) ∧ w'.cell? ⟨w2.heap.size, 4, none⟩ = some (.int .i64 0) ∧ w'.frozen? ⟨w2.heap.size, 0, none⟩ = false ∧ w'.frozen? ⟨w2.heap.size, 1, none⟩ = false ∧ w'.frozen? ⟨w2.heap.size, 2, none⟩ = false ∧ w'.frozen? ⟨w2.heap.size, 3, none⟩ = false ∧ w'.frozen? ⟨w2.heap.size, 4, none⟩ = false) :=
    (hdc _ (Tab.of_below hT2 (bAlloc (Nat.le_refl _) (Below.refl _ _)).drew)).mono fun e w' ⟨h1, h2⟩ => ⟨h1, ((bAlloc (Nat.le_refl _) (Below.refl _ _)).drew).trans (h2.mono (by simp)), by have := h2.size; simp at this; omega, by rw [h2.cell (p := ⟨w2.heap.size, 0, none⟩) (by simp)]; simp [go_sem], by rw [h2.cell (p := ⟨w2.heap.size, 1, none⟩) (by simp)]; simp [go_sem], by rw [h2.cell (p := ⟨w2.heap.size, 2, none⟩) (by simp)]; simp [go_sem], by rw [h2.cell (p := ⟨w2.heap.size, 3, none⟩) (by simp)]; simp [go_sem], by rw [h2.cell (p := ⟨w2.heap.size, 4, none⟩) (by simp)]; simp [go_sem], by rw [h2.frozen (p := ⟨w2.heap.size, 0, none⟩) (by simp)]; simp [go_sem], by rw [h2.frozen (p := ⟨w2.heap.size, 1, none⟩) (by simp)]; simp [go_sem], by rw [h2.frozen (p := ⟨w2.heap.size, 2, none⟩) (by simp)]; simp [go_sem], by rw [h2.frozen (p := ⟨w2.heap.size, 3, none⟩) (by simp)]; simp [go_sem], by rw [h2.frozen (p := ⟨w2.heap.size, 4, none⟩) (by simp)]; simp [go_sem]⟩
  clear hdc
  go_cut [13, 14] (fun s13 s14 wx => ∃ A : Nat, s13 = .pointer (some ⟨A, 0, none⟩) ∧ s14 = .int .i64 0 ∧ DecAt w2 wx A n a b c i)
  case first =>
    go_region_with (go_at_call 10; first | ((with_reducible refine hd1.mono ?_); rintro e w3 ⟨rfl, hb3⟩) | ((with_reducible refine hd2.mono ?_); rintro e w3 ⟨rfl, hb3, sz3, q0, q1, q2, q3, q4, qf0, qf1, qf2, qf3, qf4⟩))
    all_goals (go_wp2_with fail; go_meet)
    all_goals first | (have hs := sz3; refine ⟨_, rfl, rfl, ?_⟩; with_reducible exact decAt_old hb3 hs q0 q1 q2 q3 q4) | (refine ⟨_, rfl, rfl, ?_⟩; with_reducible exact decAt_new hb3)
  case rest =>
    obtain ⟨A, rfl, rfl, hA⟩ := hcut
    obtain ⟨w4, hw4⟩ : ∃ w4 : World, w4 = wc := ⟨_, rfl⟩
    subst hw4
    obtain ⟨hb4, hAge, hAlt, a0, a1, a2, a3, a4⟩ := hA
    have pc_4 : w4.cell? ⟨S, 0, none⟩ = some (.int .i64 (pc : Nat)) := by rw [hb4.cell (p := ⟨S, 0, none⟩) (by first | (simp; done) | (simp; omega) | omega)]; first | assumption | (simp [go_sem, *]; done)
    have pcf_4 : w4.frozen? ⟨S, 0, none⟩ = false := by rw [hb4.frozen (p := ⟨S, 0, none⟩) (by first | (simp; done) | (simp; omega) | omega)]; first | assumption | (simp [go_sem, *]; done)
    have im3_4 : w4.cell? ⟨w.heap.size, 3, none⟩ = some (.int .i64 lk) := by rw [hb4.cell (p := ⟨w.heap.size, 3, none⟩) (by first | (simp; done) | (simp; omega) | omega)]; first | assumption | (simp [go_sem, *]; done)
    have r0_4 : w4.cell? ⟨w.heap.size + 1, 0, none⟩ = some (.int .u8 0) := by rw [hb4.cell (p := ⟨w.heap.size + 1, 0, none⟩) (by first | (simp; done) | (simp; omega) | omega)]; first | assumption | (simp [go_sem, *]; done)
    have r0f_4 : w4.frozen? ⟨w.heap.size + 1, 0, none⟩ = false := by rw [hb4.frozen (p := ⟨w.heap.size + 1, 0, none⟩) (by first | (simp; done) | (simp; omega) | omega)]; first | assumption | (simp [go_sem, *]; done)
    have r1_4 : w4.cell? ⟨w.heap.size + 1, 1, none⟩ = some (.int .i64 0) := by rw [hb4.cell (p := ⟨w.heap.size + 1, 1, none⟩) (by first | (simp; done) | (simp; omega) | omega)]; first | assumption | (simp [go_sem, *]; done)
    have r1f_4 : w4.frozen? ⟨w.heap.size + 1, 1, none⟩ = false := by rw [hb4.frozen (p := ⟨w.heap.size + 1, 1, none⟩) (by first | (simp; done) | (simp; omega) | omega)]; first | assumption | (simp [go_sem, *]; done)
    have r2_4 : w4.cell? ⟨w.heap.size + 1, 2, none⟩ = some (.int .i64 0) := by rw [hb4.cell (p := ⟨w.heap.size + 1, 2, none⟩) (by first | (simp; done) | (simp; omega) | omega)]; first | assumption | (simp [go_sem, *]; done)
    have r2f_4 : w4.frozen? ⟨w.heap.size + 1, 2, none⟩ = false := by rw [hb4.frozen (p := ⟨w.heap.size + 1, 2, none⟩) (by first | (simp; done) | (simp; omega) | omega)]; first | assumption | (simp [go_sem, *]; done)
    have r3_4 : w4.cell? ⟨w.heap.size + 1, 3, none⟩ = some (.int .i64 0) := by rw [hb4.cell (p := ⟨w.heap.size + 1, 3, none⟩) (by first | (simp; done) | (simp; omega) | omega)]; first | assumption | (simp [go_sem, *]; done)
    have r3f_4 : w4.frozen? ⟨w.heap.size + 1, 3, none⟩ = false := by rw [hb4.frozen (p := ⟨w.heap.size + 1, 3, none⟩) (by first | (simp; done) | (simp; omega) | omega)]; first | assumption | (simp [go_sem, *]; done)
    have r4_4 : w4.cell? ⟨w.heap.size + 1, 4, none⟩ = some (.int .i64 0) := by rw [hb4.cell (p := ⟨w.heap.size + 1, 4, none⟩) (by first | (simp; done) | (simp; omega) | omega)]; first | assumption | (simp [go_sem, *]; done)
    have r4f_4 : w4.frozen? ⟨w.heap.size + 1, 4, none⟩ = false := by rw [hb4.frozen (p := ⟨w.heap.size + 1, 4, none⟩) (by first | (simp; done) | (simp; omega) | omega)]; first | assumption | (simp [go_sem, *]; done)
    have r5_4 : w4.cell? ⟨w.heap.size + 1, 5, none⟩ = some (.int .i64 0) := by rw [hb4.cell (p := ⟨w.heap.size + 1, 5, none⟩) (by first | (simp; done) | (simp; omega) | omega)]; first | assumption | (simp [go_sem, *]; done)
    have r5f_4 : w4.frozen? ⟨w.heap.size + 1, 5, none⟩ = false := by rw [hb4.frozen (p := ⟨w.heap.size + 1, 5, none⟩) (by first | (simp; done) | (simp; omega) | omega)]; first | assumption | (simp [go_sem, *]; done)
    have r6_4 : w4.cell? ⟨w.heap.size + 1, 6, none⟩ = some (.bool false) := by rw [hb4.cell (p := ⟨w.heap.size + 1, 6, none⟩) (by first | (simp; done) | (simp; omega) | omega)]; first | assumption | (simp [go_sem, *]; done)
    have r6f_4 : w4.frozen? ⟨w.heap.size + 1, 6, none⟩ = false := by rw [hb4.frozen (p := ⟨w.heap.size + 1, 6, none⟩) (by first | (simp; done) | (simp; omega) | omega)]; first | assumption | (simp [go_sem, *]; done)
    have r7_4 : w4.cell? ⟨w.heap.size + 1, 7, none⟩ = some (.int .i64 0) := by rw [hb4.cell (p := ⟨w.heap.size + 1, 7, none⟩) (by first | (simp; done) | (simp; omega) | omega)]; first | assumption | (simp [go_sem, *]; done)
    have r7f_4 : w4.frozen? ⟨w.heap.size + 1, 7, none⟩ = false := by rw [hb4.frozen (p := ⟨w.heap.size + 1, 7, none⟩) (by first | (simp; done) | (simp; omega) | omega)]; first | assumption | (simp [go_sem, *]; done)
    have r8_4 : w4.cell? ⟨w.heap.size + 1, 8, none⟩ = some (.int .i32 0) := by rw [hb4.cell (p := ⟨w.heap.size + 1, 8, none⟩) (by first | (simp; done) | (simp; omega) | omega)]; first | assumption | (simp [go_sem, *]; done)
    have r8f_4 : w4.frozen? ⟨w.heap.size + 1, 8, none⟩ = false := by rw [hb4.frozen (p := ⟨w.heap.size + 1, 8, none⟩) (by first | (simp; done) | (simp; omega) | omega)]; first | assumption | (simp [go_sem, *]; done)
    have szS_4 : S < w4.heap.size := by have h := hb4.size; first | (simp at h; omega) | omega
    have szB_4 : w.heap.size < w4.heap.size := by have h := hb4.size; first | (simp at h; omega) | omega
    have szR_4 : w.heap.size + 1 < w4.heap.size := by have h := hb4.size; first | (simp at h; omega) | omega
    have HB4 : Below w.heap.size w w4 := below_then HB2 hb4 (by omega)
    clear hb4 pc_2 im0_2 im1_2 im3_2 r0_2 r1_2 r2_2 r3_2 r4_2 r5_2 r6_2 r7_2 r8_2 cd_2 pcf_2 r0f_2 r1f_2 r2f_2 r3f_2 r4f_2 r5f_2 r6f_2 r7f_2 r8f_2 szS_2 szC_2 szB_2 szR_2 hd1 hd2 hT2
    go_wp2_with fail
    go_region
    all_goals go_wp2_with fail
    obtain ⟨W, hW⟩ : ∃ W : World, (w4.alloc (.cells #[.int .u8 n, .int .i64 a, .int .i64 b, .int .i64 c, .int .i64 i, .int .i64 (pc : Nat), .bool false, .int .i64 (-1), .int .i32 0, .pointer (some ⟨S, 0, none⟩), .int .i64 ((pc : Int) + 1)] 102)).drew = W := ⟨_, rfl⟩
    have hX : ExAt W w4.heap.size n a b c i pc S := by
      subst hW
      constructor <;> simp [go_sem]
    have hbW : Below w4.heap.size w4 W := by rw [← hW]; exact (bAlloc (Nat.le_refl _) (Below.refl _ _)).drew
    have hszW : w4.heap.size < W.heap.size := by rw [← hW]; simp
    rw [hW]
    clear hW
    refine (hprep W w4.heap.size (by omega) hszW (below_then HB4 hbW (by omega)) hX).mono ?_
    rintro e w5 ⟨fv, rfl, hb5⟩
    have z0 : w5.cell? ⟨w.heap.size + 1, 0, none⟩ = some (.int .u8 0) := by rw [hb5.cell (p := ⟨w.heap.size + 1, 0, none⟩) (by show w.heap.size + 1 < _; omega), hbW.cell (p := ⟨w.heap.size + 1, 0, none⟩) szR_4]; exact r0_4
    have zf0 : w5.frozen? ⟨w.heap.size + 1, 0, none⟩ = false := by rw [hb5.frozen (p := ⟨w.heap.size + 1, 0, none⟩) (by show w.heap.size + 1 < _; omega), hbW.frozen (p := ⟨w.heap.size + 1, 0, none⟩) szR_4]; exact r0f_4
    have z1 : w5.cell? ⟨w.heap.size + 1, 1, none⟩ = some (.int .i64 0) := by rw [hb5.cell (p := ⟨w.heap.size + 1, 1, none⟩) (by show w.heap.size + 1 < _; omega), hbW.cell (p := ⟨w.heap.size + 1, 1, none⟩) szR_4]; exact r1_4
    have zf1 : w5.frozen? ⟨w.heap.size + 1, 1, none⟩ = false := by rw [hb5.frozen (p := ⟨w.heap.size + 1, 1, none⟩) (by show w.heap.size + 1 < _; omega), hbW.frozen (p := ⟨w.heap.size + 1, 1, none⟩) szR_4]; exact r1f_4
    have z2 : w5.cell? ⟨w.heap.size + 1, 2, none⟩ = some (.int .i64 0) := by rw [hb5.cell (p := ⟨w.heap.size + 1, 2, none⟩) (by show w.heap.size + 1 < _; omega), hbW.cell (p := ⟨w.heap.size + 1, 2, none⟩) szR_4]; exact r2_4
    have zf2 : w5.frozen? ⟨w.heap.size + 1, 2, none⟩ = false := by rw [hb5.frozen (p := ⟨w.heap.size + 1, 2, none⟩) (by show w.heap.size + 1 < _; omega), hbW.frozen (p := ⟨w.heap.size + 1, 2, none⟩) szR_4]; exact r2f_4
    have z3 : w5.cell? ⟨w.heap.size + 1, 3, none⟩ = some (.int .i64 0) := by rw [hb5.cell (p := ⟨w.heap.size + 1, 3, none⟩) (by show w.heap.size + 1 < _; omega), hbW.cell (p := ⟨w.heap.size + 1, 3, none⟩) szR_4]; exact r3_4
    have zf3 : w5.frozen? ⟨w.heap.size + 1, 3, none⟩ = false := by rw [hb5.frozen (p := ⟨w.heap.size + 1, 3, none⟩) (by show w.heap.size + 1 < _; omega), hbW.frozen (p := ⟨w.heap.size + 1, 3, none⟩) szR_4]; exact r3f_4
    have z4 : w5.cell? ⟨w.heap.size + 1, 4, none⟩ = some (.int .i64 0) := by rw [hb5.cell (p := ⟨w.heap.size + 1, 4, none⟩) (by show w.heap.size + 1 < _; omega), hbW.cell (p := ⟨w.heap.size + 1, 4, none⟩) szR_4]; exact r4_4
    have zf4 : w5.frozen? ⟨w.heap.size + 1, 4, none⟩ = false := by rw [hb5.frozen (p := ⟨w.heap.size + 1, 4, none⟩) (by show w.heap.size + 1 < _; omega), hbW.frozen (p := ⟨w.heap.size + 1, 4, none⟩) szR_4]; exact r4f_4
    have z5 : w5.cell? ⟨w.heap.size + 1, 5, none⟩ = some (.int .i64 0) := by rw [hb5.cell (p := ⟨w.heap.size + 1, 5, none⟩) (by show w.heap.size + 1 < _; omega), hbW.cell (p := ⟨w.heap.size + 1, 5, none⟩) szR_4]; exact r5_4
    have zf5 : w5.frozen? ⟨w.heap.size + 1, 5, none⟩ = false := by rw [hb5.frozen (p := ⟨w.heap.size + 1, 5, none⟩) (by show w.heap.size + 1 < _; omega), hbW.frozen (p := ⟨w.heap.size + 1, 5, none⟩) szR_4]; exact r5f_4
    have z6 : w5.cell? ⟨w.heap.size + 1, 6, none⟩ = some (.bool false) := by rw [hb5.cell (p := ⟨w.heap.size + 1, 6, none⟩) (by show w.heap.size + 1 < _; omega), hbW.cell (p := ⟨w.heap.size + 1, 6, none⟩) szR_4]; exact r6_4
    have zf6 : w5.frozen? ⟨w.heap.size + 1, 6, none⟩ = false := by rw [hb5.frozen (p := ⟨w.heap.size + 1, 6, none⟩) (by show w.heap.size + 1 < _; omega), hbW.frozen (p := ⟨w.heap.size + 1, 6, none⟩) szR_4]; exact r6f_4
    have z7 : w5.cell? ⟨w.heap.size + 1, 7, none⟩ = some (.int .i64 0) := by rw [hb5.cell (p := ⟨w.heap.size + 1, 7, none⟩) (by show w.heap.size + 1 < _; omega), hbW.cell (p := ⟨w.heap.size + 1, 7, none⟩) szR_4]; exact r7_4
    have zf7 : w5.frozen? ⟨w.heap.size + 1, 7, none⟩ = false := by rw [hb5.frozen (p := ⟨w.heap.size + 1, 7, none⟩) (by show w.heap.size + 1 < _; omega), hbW.frozen (p := ⟨w.heap.size + 1, 7, none⟩) szR_4]; exact r7f_4
    have z8 : w5.cell? ⟨w.heap.size + 1, 8, none⟩ = some (.int .i32 0) := by rw [hb5.cell (p := ⟨w.heap.size + 1, 8, none⟩) (by show w.heap.size + 1 < _; omega), hbW.cell (p := ⟨w.heap.size + 1, 8, none⟩) szR_4]; exact r8_4
    have zf8 : w5.frozen? ⟨w.heap.size + 1, 8, none⟩ = false := by rw [hb5.frozen (p := ⟨w.heap.size + 1, 8, none⟩) (by show w.heap.size + 1 < _; omega), hbW.frozen (p := ⟨w.heap.size + 1, 8, none⟩) szR_4]; exact r8f_4
    have HB5 : Below w.heap.size w w5 := below_then (below_then HB4 hbW (by omega)) hb5 (by omega)
    clear hprep hX r0_4 r0f_4 r1_4 r1f_4 r2_4 r2f_4 r3_4 r3f_4 r4_4 r4f_4 r5_4 r5f_4 r6_4 r6f_4 r7_4 r7f_4 r8_4 r8f_4 hb5 hbW pc_4 pcf_4 im3_4 HB4 HB2 HB1
    go_wp2_with fail
    refine bodyPost_ret (v := .tuple #[.agg #[.int .u8 0, .int .i64 0, .int .i64 0, .int .i64 0, .int .i64 0, .int .i64 0, .bool false, .int .i64 0, .int .i32 0], .int .i64 er]) (run_result9 Tryd.results23 (fun _ => by kernel_rfl) (fun _ => by kernel_rfl) _ _ _ _ _ _ _ _ _ _ rfl rfl (by simp [go_sem, z0]) (by simp [go_sem, z1]) (by simp [go_sem, z2]) (by simp [go_sem, z3]) (by simp [go_sem, z4]) (by simp [go_sem, z5]) (by simp [go_sem, z6]) (by simp [go_sem, z7]) (by simp [go_sem, z8])) rfl ⟨rfl, ?_⟩
    repeat (first | (with_reducible apply bBoth) | (with_reducible exact Below.refl _ _) | (with_reducible apply bDrewN) | (with_reducible apply Below.drew) | (with_reducible exact HB5) | ((with_reducible apply bSet); (focus first | (simp; done) | (simp; omega) | omega)) | ((with_reducible apply bAlloc); (focus first | (simp; done) | (simp; omega) | omega)))

set_option maxRecDepth 100000 in
set_option maxHeartbeats 3200000 in
theorem step_dec (cb co nC ccap eb eo nE ecap t S pc dl dcap n a b c : Nat) (sh lk st fin held x i : Int) (nm : ByteArray) (dp : Option Addr) (mv pv : Value) (w : World) (hT : Tab w)
    (hS : S < w.heap.size) (hPC : w.cell? ⟨S, 0, none⟩ = some (.int .i64 (pc : Nat))) (hPf : w.frozen? ⟨S, 0, none⟩ = false) (hR : w.cell? ⟨S, 1, none⟩ = some (.int .i32 0)) (hD : w.cell? ⟨S, 17, none⟩ = some (.slice dp dl dcap)) (hL : w.cell? ⟨S, 18, none⟩ = some (.bool false)) (hH : w.cell? ⟨S, 19, none⟩ = some (.int .i64 held))
    (heb : eb < w.heap.size) (ht : t < nE) (he0 : w.cell? ⟨eb, eo + t * 4, none⟩ = some (.string nm)) (he1 : w.cell? ⟨eb, eo + t * 4 + 1, none⟩ = some (.int .i64 st)) (he2 : w.cell? ⟨eb, eo + t * 4 + 2, none⟩ = some (.int .i64 fin)) (he3 : w.cell? ⟨eb, eo + t * 4 + 3, none⟩ = some (.int .i64 dl)) (hfit : held = -1 ∨ (0 ≤ held ∧ held < lk))
    (hcb : cb < w.heap.size) (hpc : pc < nC) (hpc1 : st ≤ pc) (hpc2 : (pc : Int) < fin) (hpcb : pc ≤ 140737488351232) (hcode : w.cell? ⟨cb, co + pc, none⟩ = some (.int .u32 x)) (hx0 : 0 ≤ x) (hx1 : x < 4294967296)
    (hdec : decV x = .tuple #[.agg #[.int .u8 n, .int .i64 a, .int .i64 b, .int .i64 c, .int .i64 i], .int .i64 3])
    :
    Calls Tryd.prog 23 #[.agg #[.slice (some ⟨cb, co, none⟩) nC ccap, .slice (some ⟨eb, eo, none⟩) nE ecap, .int .i64 sh, .int .i64 lk], .int .i64 (t : Nat), .pointer (some ⟨S, 0, none⟩), mv, pv] w (fun e w' => e = .returned (.tuple #[.agg #[.int .u8 0, .int .i64 0, .int .i64 0, .int .i64 0, .int .i64 0, .int .i64 0, .bool false, .int .i64 0, .int .i32 0], .int .i64 3]) ∧ Below w.heap.size w w') := by
  have HX := Lib.hid hdec
  clear hdec
  go_enter Tryd.func23, Tryd.ntmps23
  go_wp2_with fail
  refine (fits_yes _ dp S nE ecap dl dcap eb eo t sh lk held _ (by simp; omega) (by simp [go_sem, *]) (by simp; omega) (by simp [go_sem, *]) (by simp [go_sem, *]) (by simp [go_sem, *]) ht hfit).mono ?_
  rintro e w1 ⟨rfl, hb1⟩
  have pc_1 : w1.cell? ⟨S, 0, none⟩ = some (.int .i64 (pc : Nat)) := by rw [hb1.cell (p := ⟨S, 0, none⟩) (by first | (simp; done) | (simp; omega) | omega)]; first | assumption | (simp [go_sem, *]; done)
  have pcf_1 : w1.frozen? ⟨S, 0, none⟩ = false := by rw [hb1.frozen (p := ⟨S, 0, none⟩) (by first | (simp; done) | (simp; omega) | omega)]; first | assumption | (simp [go_sem, *]; done)
  have hl_1 : w1.cell? ⟨S, 18, none⟩ = some (.bool false) := by rw [hb1.cell (p := ⟨S, 18, none⟩) (by first | (simp; done) | (simp; omega) | omega)]; first | assumption | (simp [go_sem, *]; done)
  have en0_1 : w1.cell? ⟨eb, eo + t * 4, none⟩ = some (.string nm) := by rw [hb1.cell (p := ⟨eb, eo + t * 4, none⟩) (by first | (simp; done) | (simp; omega) | omega)]; first | assumption | (simp [go_sem, *]; done)
  have en1_1 : w1.cell? ⟨eb, eo + t * 4 + 1, none⟩ = some (.int .i64 st) := by rw [hb1.cell (p := ⟨eb, eo + t * 4 + 1, none⟩) (by first | (simp; done) | (simp; omega) | omega)]; first | assumption | (simp [go_sem, *]; done)
  have en2_1 : w1.cell? ⟨eb, eo + t * 4 + 2, none⟩ = some (.int .i64 fin) := by rw [hb1.cell (p := ⟨eb, eo + t * 4 + 2, none⟩) (by first | (simp; done) | (simp; omega) | omega)]; first | assumption | (simp [go_sem, *]; done)
  have en3_1 : w1.cell? ⟨eb, eo + t * 4 + 3, none⟩ = some (.int .i64 dl) := by rw [hb1.cell (p := ⟨eb, eo + t * 4 + 3, none⟩) (by first | (simp; done) | (simp; omega) | omega)]; first | assumption | (simp [go_sem, *]; done)
  have im0_1 : w1.cell? ⟨w.heap.size, 0, none⟩ = some (.slice (some ⟨cb, co, none⟩) nC ccap) := by rw [hb1.cell (p := ⟨w.heap.size, 0, none⟩) (by first | (simp; done) | (simp; omega) | omega)]; first | assumption | (simp [go_sem, *]; done)
  have im1_1 : w1.cell? ⟨w.heap.size, 1, none⟩ = some (.slice (some ⟨eb, eo, none⟩) nE ecap) := by rw [hb1.cell (p := ⟨w.heap.size, 1, none⟩) (by first | (simp; done) | (simp; omega) | omega)]; first | assumption | (simp [go_sem, *]; done)
  have im3_1 : w1.cell? ⟨w.heap.size, 3, none⟩ = some (.int .i64 lk) := by rw [hb1.cell (p := ⟨w.heap.size, 3, none⟩) (by first | (simp; done) | (simp; omega) | omega)]; first | assumption | (simp [go_sem, *]; done)
  have r0_1 : w1.cell? ⟨w.heap.size + 1, 0, none⟩ = some (.int .u8 0) := by rw [hb1.cell (p := ⟨w.heap.size + 1, 0, none⟩) (by first | (simp; done) | (simp; omega) | omega)]; first | assumption | (simp [go_sem, *]; done)
  have r0f_1 : w1.frozen? ⟨w.heap.size + 1, 0, none⟩ = false := by rw [hb1.frozen (p := ⟨w.heap.size + 1, 0, none⟩) (by first | (simp; done) | (simp; omega) | omega)]; first | assumption | (simp [go_sem, *]; done)
  have r1_1 : w1.cell? ⟨w.heap.size + 1, 1, none⟩ = some (.int .i64 0) := by rw [hb1.cell (p := ⟨w.heap.size + 1, 1, none⟩) (by first | (simp; done) | (simp; omega) | omega)]; first | assumption | (simp [go_sem, *]; done)
  have r1f_1 : w1.frozen? ⟨w.heap.size + 1, 1, none⟩ = false := by rw [hb1.frozen (p := ⟨w.heap.size + 1, 1, none⟩) (by first | (simp; done) | (simp; omega) | omega)]; first | assumption | (simp [go_sem, *]; done)
  have r2_1 : w1.cell? ⟨w.heap.size + 1, 2, none⟩ = some (.int .i64 0) := by rw [hb1.cell (p := ⟨w.heap.size + 1, 2, none⟩) (by first | (simp; done) | (simp; omega) | omega)]; first | assumption | (simp [go_sem, *]; done)
  have r2f_1 : w1.frozen? ⟨w.heap.size + 1, 2, none⟩ = false := by rw [hb1.frozen (p := ⟨w.heap.size + 1, 2, none⟩) (by first | (simp; done) | (simp; omega) | omega)]; first | assumption | (simp [go_sem, *]; done)
  have r3_1 : w1.cell? ⟨w.heap.size + 1, 3, none⟩ = some (.int .i64 0) := by rw [hb1.cell (p := ⟨w.heap.size + 1, 3, none⟩) (by first | (simp; done) | (simp; omega) | omega)]; first | assumption | (simp [go_sem, *]; done)
  have r3f_1 : w1.frozen? ⟨w.heap.size + 1, 3, none⟩ = false := by rw [hb1.frozen (p := ⟨w.heap.size + 1, 3, none⟩) (by first | (simp; done) | (simp; omega) | omega)]; first | assumption | (simp [go_sem, *]; done)
  have r4_1 : w1.cell? ⟨w.heap.size + 1, 4, none⟩ = some (.int .i64 0) := by rw [hb1.cell (p := ⟨w.heap.size + 1, 4, none⟩) (by first | (simp; done) | (simp; omega) | omega)]; first | assumption | (simp [go_sem, *]; done)
  have r4f_1 : w1.frozen? ⟨w.heap.size + 1, 4, none⟩ = false := by rw [hb1.frozen (p := ⟨w.heap.size + 1, 4, none⟩) (by first | (simp; done) | (simp; omega) | omega)]; first | assumption | (simp [go_sem, *]; done)
  have r5_1 : w1.cell? ⟨w.heap.size + 1, 5, none⟩ = some (.int .i64 0) := by rw [hb1.cell (p := ⟨w.heap.size + 1, 5, none⟩) (by first | (simp; done) | (simp; omega) | omega)]; first | assumption | (simp [go_sem, *]; done)
  have r5f_1 : w1.frozen? ⟨w.heap.size + 1, 5, none⟩ = false := by rw [hb1.frozen (p := ⟨w.heap.size + 1, 5, none⟩) (by first | (simp; done) | (simp; omega) | omega)]; first | assumption | (simp [go_sem, *]; done)
  have r6_1 : w1.cell? ⟨w.heap.size + 1, 6, none⟩ = some (.bool false) := by rw [hb1.cell (p := ⟨w.heap.size + 1, 6, none⟩) (by first | (simp; done) | (simp; omega) | omega)]; first | assumption | (simp [go_sem, *]; done)
  have r6f_1 : w1.frozen? ⟨w.heap.size + 1, 6, none⟩ = false := by rw [hb1.frozen (p := ⟨w.heap.size + 1, 6, none⟩) (by first | (simp; done) | (simp; omega) | omega)]; first | assumption | (simp [go_sem, *]; done)
  have r7_1 : w1.cell? ⟨w.heap.size + 1, 7, none⟩ = some (.int .i64 0) := by rw [hb1.cell (p := ⟨w.heap.size + 1, 7, none⟩) (by first | (simp; done) | (simp; omega) | omega)]; first | assumption | (simp [go_sem, *]; done)
  have r7f_1 : w1.frozen? ⟨w.heap.size + 1, 7, none⟩ = false := by rw [hb1.frozen (p := ⟨w.heap.size + 1, 7, none⟩) (by first | (simp; done) | (simp; omega) | omega)]; first | assumption | (simp [go_sem, *]; done)
  have r8_1 : w1.cell? ⟨w.heap.size + 1, 8, none⟩ = some (.int .i32 0) := by rw [hb1.cell (p := ⟨w.heap.size + 1, 8, none⟩) (by first | (simp; done) | (simp; omega) | omega)]; first | assumption | (simp [go_sem, *]; done)
  have r8f_1 : w1.frozen? ⟨w.heap.size + 1, 8, none⟩ = false := by rw [hb1.frozen (p := ⟨w.heap.size + 1, 8, none⟩) (by first | (simp; done) | (simp; omega) | omega)]; first | assumption | (simp [go_sem, *]; done)
  have cd_1 : w1.cell? ⟨cb, co + pc, none⟩ = some (.int .u32 x) := by rw [hb1.cell (p := ⟨cb, co + pc, none⟩) (by first | (simp; done) | (simp; omega) | omega)]; first | assumption | (simp [go_sem, *]; done)
  have szS_1 : S < w1.heap.size := by have h := hb1.size; first | (simp at h; omega) | omega
  have szE_1 : eb < w1.heap.size := by have h := hb1.size; first | (simp at h; omega) | omega
  have szC_1 : cb < w1.heap.size := by have h := hb1.size; first | (simp at h; omega) | omega
  have szB_1 : w.heap.size < w1.heap.size := by have h := hb1.size; first | (simp at h; omega) | omega
  have szR_1 : w.heap.size + 1 < w1.heap.size := by have h := hb1.size; first | (simp at h; omega) | omega
  have HB1 : Below w.heap.size w w1 := by
    repeat (first | (with_reducible apply bBoth) | (with_reducible exact Below.refl _ _) | (with_reducible apply bDrewN) | (with_reducible apply Below.drew) | ((with_reducible apply bThen hb1); (focus first | (simp; done) | (simp; omega) | omega)) | ((with_reducible apply bSet); (focus first | (simp; done) | (simp; omega) | omega)) | ((with_reducible apply bAlloc); (focus first | (simp; done) | (simp; omega) | omega)))
  have hT1 : Tab w1 := hT.of_below HB1
  clear hb1
  have d1 : decide ((pc : Int) < st) = false := by simp; omega
  have d2 : decide (fin ≤ (pc : Int)) = false := by simp; omega
  have d3 : decide (nC ≤ pc) = false := by simp; omega
  have d4 : ¬ (pc : Int) < st := by omega
  have d5 : ¬ fin ≤ (pc : Int) := by omega
  have d6 : ¬ nC ≤ pc := by omega
  go_wp2_with fail
  go_quiet (fail)
  go_wp2_with fail
  have hdc : ∀ W, Tab W → Calls Tryd.prog 10 #[.int .u32 x] W (fun e w' => e = .returned (.tuple #[.agg #[.int .u8 n, .int .i64 a, .int .i64 b, .int .i64 c, .int .i64 i], .int .i64 3]) ∧ Below W.heap.size W w') := fun W h => by have h2 := decode_any x W hx0 hx1 h; rw [HX.out] at h2; exact h2
  obtain ⟨w2, hw2⟩ : ∃ w2, (w1.alloc (.cells #[.string nm, .int .i64 st, .int .i64 fin, .int .i64 dl] 48)).drewN nq = w2 := ⟨_, rfl⟩
  have hb2 : Below w1.heap.size w1 w2 := by rw [← hw2]; exact bDrewN (bAlloc (Nat.le_refl _) (Below.refl _ _))
  have hsz2 : w2.heap.size = w1.heap.size + 1 := by rw [← hw2]; simp [World.drewN]
  rw [hw2]
  have pc_2 : w2.cell? ⟨S, 0, none⟩ = some (.int .i64 (pc : Nat)) := by rw [hb2.cell (p := ⟨S, 0, none⟩) (by first | (simp; done) | (simp; omega) | omega)]; first | assumption | (simp [go_sem, *]; done)
  have pcf_2 : w2.frozen? ⟨S, 0, none⟩ = false := by rw [hb2.frozen (p := ⟨S, 0, none⟩) (by first | (simp; done) | (simp; omega) | omega)]; first | assumption | (simp [go_sem, *]; done)
  have im0_2 : w2.cell? ⟨w.heap.size, 0, none⟩ = some (.slice (some ⟨cb, co, none⟩) nC ccap) := by rw [hb2.cell (p := ⟨w.heap.size, 0, none⟩) (by first | (simp; done) | (simp; omega) | omega)]; first | assumption | (simp [go_sem, *]; done)
  have im1_2 : w2.cell? ⟨w.heap.size, 1, none⟩ = some (.slice (some ⟨eb, eo, none⟩) nE ecap) := by rw [hb2.cell (p := ⟨w.heap.size, 1, none⟩) (by first | (simp; done) | (simp; omega) | omega)]; first | assumption | (simp [go_sem, *]; done)
  have im3_2 : w2.cell? ⟨w.heap.size, 3, none⟩ = some (.int .i64 lk) := by rw [hb2.cell (p := ⟨w.heap.size, 3, none⟩) (by first | (simp; done) | (simp; omega) | omega)]; first | assumption | (simp [go_sem, *]; done)
  have r0_2 : w2.cell? ⟨w.heap.size + 1, 0, none⟩ = some (.int .u8 0) := by rw [hb2.cell (p := ⟨w.heap.size + 1, 0, none⟩) (by first | (simp; done) | (simp; omega) | omega)]; first | assumption | (simp [go_sem, *]; done)
  have r0f_2 : w2.frozen? ⟨w.heap.size + 1, 0, none⟩ = false := by rw [hb2.frozen (p := ⟨w.heap.size + 1, 0, none⟩) (by first | (simp; done) | (simp; omega) | omega)]; first | assumption | (simp [go_sem, *]; done)
  have r1_2 : w2.cell? ⟨w.heap.size + 1, 1, none⟩ = some (.int .i64 0) := by rw [hb2.cell (p := ⟨w.heap.size + 1, 1, none⟩) (by first | (simp; done) | (simp; omega) | omega)]; first | assumption | (simp [go_sem, *]; done)
  have r1f_2 : w2.frozen? ⟨w.heap.size + 1, 1, none⟩ = false := by rw [hb2.frozen (p := ⟨w.heap.size + 1, 1, none⟩) (by first | (simp; done) | (simp; omega) | omega)]; first | assumption | (simp [go_sem, *]; done)
  have r2_2 : w2.cell? ⟨w.heap.size + 1, 2, none⟩ = some (.int .i64 0) := by rw [hb2.cell (p := ⟨w.heap.size + 1, 2, none⟩) (by first | (simp; done) | (simp; omega) | omega)]; first | assumption | (simp [go_sem, *]; done)
  have r2f_2 : w2.frozen? ⟨w.heap.size + 1, 2, none⟩ = false := by rw [hb2.frozen (p := ⟨w.heap.size + 1, 2, none⟩) (by first | (simp; done) | (simp; omega) | omega)]; first | assumption | (simp [go_sem, *]; done)
  have r3_2 : w2.cell? ⟨w.heap.size + 1, 3, none⟩ = some (.int .i64 0) := by rw [hb2.cell (p := ⟨w.heap.size + 1, 3, none⟩) (by first | (simp; done) | (simp; omega) | omega)]; first | assumption | (simp [go_sem, *]; done)
  have r3f_2 : w2.frozen? ⟨w.heap.size + 1, 3, none⟩ = false := by rw [hb2.frozen (p := ⟨w.heap.size + 1, 3, none⟩) (by first | (simp; done) | (simp; omega) | omega)]; first | assumption | (simp [go_sem, *]; done)
  have r4_2 : w2.cell? ⟨w.heap.size + 1, 4, none⟩ = some (.int .i64 0) := by rw [hb2.cell (p := ⟨w.heap.size + 1, 4, none⟩) (by first | (simp; done) | (simp; omega) | omega)]; first | assumption | (simp [go_sem, *]; done)
  have r4f_2 : w2.frozen? ⟨w.heap.size + 1, 4, none⟩ = false := by rw [hb2.frozen (p := ⟨w.heap.size + 1, 4, none⟩) (by first | (simp; done) | (simp; omega) | omega)]; first | assumption | (simp [go_sem, *]; done)
  have r5_2 : w2.cell? ⟨w.heap.size + 1, 5, none⟩ = some (.int .i64 0) := by rw [hb2.cell (p := ⟨w.heap.size + 1, 5, none⟩) (by first | (simp; done) | (simp; omega) | omega)]; first | assumption | (simp [go_sem, *]; done)
  have r5f_2 : w2.frozen? ⟨w.heap.size + 1, 5, none⟩ = false := by rw [hb2.frozen (p := ⟨w.heap.size + 1, 5, none⟩) (by first | (simp; done) | (simp; omega) | omega)]; first | assumption | (simp [go_sem, *]; done)
  have r6_2 : w2.cell? ⟨w.heap.size + 1, 6, none⟩ = some (.bool false) := by rw [hb2.cell (p := ⟨w.heap.size + 1, 6, none⟩) (by first | (simp; done) | (simp; omega) | omega)]; first | assumption | (simp [go_sem, *]; done)
  have r6f_2 : w2.frozen? ⟨w.heap.size + 1, 6, none⟩ = false := by rw [hb2.frozen (p := ⟨w.heap.size + 1, 6, none⟩) (by first | (simp; done) | (simp; omega) | omega)]; first | assumption | (simp [go_sem, *]; done)
  have r7_2 : w2.cell? ⟨w.heap.size + 1, 7, none⟩ = some (.int .i64 0) := by rw [hb2.cell (p := ⟨w.heap.size + 1, 7, none⟩) (by first | (simp; done) | (simp; omega) | omega)]; first | assumption | (simp [go_sem, *]; done)
  have r7f_2 : w2.frozen? ⟨w.heap.size + 1, 7, none⟩ = false := by rw [hb2.frozen (p := ⟨w.heap.size + 1, 7, none⟩) (by first | (simp; done) | (simp; omega) | omega)]; first | assumption | (simp [go_sem, *]; done)
  have r8_2 : w2.cell? ⟨w.heap.size + 1, 8, none⟩ = some (.int .i32 0) := by rw [hb2.cell (p := ⟨w.heap.size + 1, 8, none⟩) (by first | (simp; done) | (simp; omega) | omega)]; first | assumption | (simp [go_sem, *]; done)
  have r8f_2 : w2.frozen? ⟨w.heap.size + 1, 8, none⟩ = false := by rw [hb2.frozen (p := ⟨w.heap.size + 1, 8, none⟩) (by first | (simp; done) | (simp; omega) | omega)]; first | assumption | (simp [go_sem, *]; done)
  have cd_2 : w2.cell? ⟨cb, co + pc, none⟩ = some (.int .u32 x) := by rw [hb2.cell (p := ⟨cb, co + pc, none⟩) (by first | (simp; done) | (simp; omega) | omega)]; first | assumption | (simp [go_sem, *]; done)
  have szS_2 : S < w2.heap.size := by have h := hb2.size; first | (simp at h; omega) | omega
  have szC_2 : cb < w2.heap.size := by have h := hb2.size; first | (simp at h; omega) | omega
  have szB_2 : w.heap.size < w2.heap.size := by have h := hb2.size; first | (simp at h; omega) | omega
  have szR_2 : w.heap.size + 1 < w2.heap.size := by have h := hb2.size; first | (simp at h; omega) | omega
  have HB2 : Below w.heap.size w w2 := below_then HB1 hb2 (by omega)
  have hT2 : Tab w2 := hT.of_below HB2
  clear hsz2 hb2 hw2 HX pc_1 en0_1 en1_1 en2_1 en3_1 im0_1 im1_1 im3_1 r0_1 r1_1 r2_1 r3_1 r4_1 r5_1 r6_1 r7_1 r8_1 cd_1 pcf_1 r0f_1 r1f_1 r2f_1 r3f_1 r4f_1 r5f_1 r6f_1 r7f_1 r8f_1 szS_1 szE_1 szC_1 szB_1 szR_1 hl_1 hT1
  have hpcI : (pc : Int) < nC := by omega
  have hd1 : Calls Tryd.prog 10 #[.int .u32 x] w2.drew (fun e w' => e = .returned (.tuple #[.agg #[.int .u8 n, .int .i64 a, .int .i64 b, .int .i64 c, .int .i64 i], .int .i64 3]) ∧ Below w2.heap.size w2 w') := (hdc _ (Tab.of_below hT2 ((Below.refl _ _).drew))).mono fun e w' ⟨h1, h2⟩ => ⟨h1, (Below.refl _ _).drew.trans h2⟩
  have hd2 : Calls Tryd.prog 10 #[.int .u32 x] (w2.alloc (.cells #[.int .u8 0, .int .i64 0, .int .i64 0, .int .i64 0, .int .i64 0] 51)).drew (fun e w' => e = .returned (.tuple #[.agg #[.int .u8 n, .int .i64 a, .int .i64 b, .int .i64 c, .int .i64 i], .int .i64 3]) ∧ Below w2.heap.size w2 w' ∧ w2.heap.size < w'.heap.size ∧ w'.cell? ⟨w2.heap.size, 0, none⟩ = some (.int .u8 0) ∧ w'.cell? ⟨w2.heap.size, 1, none⟩ = some (.int .i64 0) ∧ w'.cell? ⟨w2.heap.size, 2, none⟩ = some (.int .i64 0) ∧ w'.cell? ⟨w2.heap.size, 3, none⟩ = some (.int .i64 0) ∧ w'.cell? ⟨w2.heap.size, 4, none⟩ = some (.int .i64 0) ∧ w'.frozen? ⟨w2.heap.size, 0, none⟩ = false ∧ w'.frozen? ⟨w2.heap.size, 1, none⟩ = false ∧ w'.frozen? ⟨w2.heap.size, 2, none⟩ = false ∧ w'.frozen? ⟨w2.heap.size, 3, none⟩ = false ∧ w'.frozen? ⟨w2.heap.size, 4, none⟩ = false) :=
    (hdc _ (Tab.of_below hT2 (bAlloc (Nat.le_refl _) (Below.refl _ _)).drew)).mono fun e w' ⟨h1, h2⟩ => ⟨h1, ((bAlloc (Nat.le_refl _) (Below.refl _ _)).drew).trans (h2.mono (by simp)), by have := h2.size; simp at this; omega, by rw [h2.cell (p := ⟨w2.heap.size, 0, none⟩) (by simp)]; simp [go_sem], by rw [h2.cell (p := ⟨w2.heap.size, 1, none⟩) (by simp)]; simp [go_sem], by rw [h2.cell (p := ⟨w2.heap.size, 2, none⟩) (by simp)]; simp [go_sem], by rw [h2.cell (p := ⟨w2.heap.size, 3, none⟩) (by simp)]; simp [go_sem], by rw [h2.cell (p := ⟨w2.heap.size, 4, none⟩) (by simp)]; simp [go_sem], by rw [h2.frozen (p := ⟨w2.heap.size, 0, none⟩) (by simp)]; simp [go_sem], by rw [h2.frozen (p := ⟨w2.heap.size, 1, none⟩) (by simp)]; simp [go_sem], by rw [h2.frozen (p := ⟨w2.heap.size, 2, none⟩) (by simp)]; simp [go_sem], by rw [h2.frozen (p := ⟨w2.heap.size, 3, none⟩) (by simp)]; simp [go_sem], by rw [h2.frozen (p := ⟨w2.heap.size, 4, none⟩) (by simp)]; simp [go_sem]⟩
  clear hdc
  go_cut [13, 14] (fun s13 s14 wx => ∃ A : Nat, s13 = .pointer (some ⟨A, 0, none⟩) ∧ s14 = .int .i64 3 ∧ DecAt w2 wx A n a b c i)
  case first =>
    go_region_with (go_at_call 10; first | ((with_reducible refine hd1.mono ?_); rintro e w3 ⟨rfl, hb3⟩) | ((with_reducible refine hd2.mono ?_); rintro e w3 ⟨rfl, hb3, sz3, q0, q1, q2, q3, q4, qf0, qf1, qf2, qf3, qf4⟩))
    all_goals (go_wp2_with fail; go_meet)
    all_goals first | (have hs := sz3; refine ⟨_, rfl, rfl, ?_⟩; with_reducible exact decAt_old hb3 hs q0 q1 q2 q3 q4) | (refine ⟨_, rfl, rfl, ?_⟩; with_reducible exact decAt_new hb3)
  case rest =>
    obtain ⟨A, rfl, rfl, hA⟩ := hcut
    obtain ⟨w4, hw4⟩ : ∃ w4 : World, w4 = wc := ⟨_, rfl⟩
    subst hw4
    obtain ⟨hb4, hAge, hAlt, a0, a1, a2, a3, a4⟩ := hA
    have pc_4 : w4.cell? ⟨S, 0, none⟩ = some (.int .i64 (pc : Nat)) := by rw [hb4.cell (p := ⟨S, 0, none⟩) (by first | (simp; done) | (simp; omega) | omega)]; first | assumption | (simp [go_sem, *]; done)
    have pcf_4 : w4.frozen? ⟨S, 0, none⟩ = false := by rw [hb4.frozen (p := ⟨S, 0, none⟩) (by first | (simp; done) | (simp; omega) | omega)]; first | assumption | (simp [go_sem, *]; done)
    have im3_4 : w4.cell? ⟨w.heap.size, 3, none⟩ = some (.int .i64 lk) := by rw [hb4.cell (p := ⟨w.heap.size, 3, none⟩) (by first | (simp; done) | (simp; omega) | omega)]; first | assumption | (simp [go_sem, *]; done)
    have r0_4 : w4.cell? ⟨w.heap.size + 1, 0, none⟩ = some (.int .u8 0) := by rw [hb4.cell (p := ⟨w.heap.size + 1, 0, none⟩) (by first | (simp; done) | (simp; omega) | omega)]; first | assumption | (simp [go_sem, *]; done)
    have r0f_4 : w4.frozen? ⟨w.heap.size + 1, 0, none⟩ = false := by rw [hb4.frozen (p := ⟨w.heap.size + 1, 0, none⟩) (by first | (simp; done) | (simp; omega) | omega)]; first | assumption | (simp [go_sem, *]; done)
    have r1_4 : w4.cell? ⟨w.heap.size + 1, 1, none⟩ = some (.int .i64 0) := by rw [hb4.cell (p := ⟨w.heap.size + 1, 1, none⟩) (by first | (simp; done) | (simp; omega) | omega)]; first | assumption | (simp [go_sem, *]; done)
    have r1f_4 : w4.frozen? ⟨w.heap.size + 1, 1, none⟩ = false := by rw [hb4.frozen (p := ⟨w.heap.size + 1, 1, none⟩) (by first | (simp; done) | (simp; omega) | omega)]; first | assumption | (simp [go_sem, *]; done)
    have r2_4 : w4.cell? ⟨w.heap.size + 1, 2, none⟩ = some (.int .i64 0) := by rw [hb4.cell (p := ⟨w.heap.size + 1, 2, none⟩) (by first | (simp; done) | (simp; omega) | omega)]; first | assumption | (simp [go_sem, *]; done)
    have r2f_4 : w4.frozen? ⟨w.heap.size + 1, 2, none⟩ = false := by rw [hb4.frozen (p := ⟨w.heap.size + 1, 2, none⟩) (by first | (simp; done) | (simp; omega) | omega)]; first | assumption | (simp [go_sem, *]; done)
    have r3_4 : w4.cell? ⟨w.heap.size + 1, 3, none⟩ = some (.int .i64 0) := by rw [hb4.cell (p := ⟨w.heap.size + 1, 3, none⟩) (by first | (simp; done) | (simp; omega) | omega)]; first | assumption | (simp [go_sem, *]; done)
    have r3f_4 : w4.frozen? ⟨w.heap.size + 1, 3, none⟩ = false := by rw [hb4.frozen (p := ⟨w.heap.size + 1, 3, none⟩) (by first | (simp; done) | (simp; omega) | omega)]; first | assumption | (simp [go_sem, *]; done)
    have r4_4 : w4.cell? ⟨w.heap.size + 1, 4, none⟩ = some (.int .i64 0) := by rw [hb4.cell (p := ⟨w.heap.size + 1, 4, none⟩) (by first | (simp; done) | (simp; omega) | omega)]; first | assumption | (simp [go_sem, *]; done)
    have r4f_4 : w4.frozen? ⟨w.heap.size + 1, 4, none⟩ = false := by rw [hb4.frozen (p := ⟨w.heap.size + 1, 4, none⟩) (by first | (simp; done) | (simp; omega) | omega)]; first | assumption | (simp [go_sem, *]; done)
    have r5_4 : w4.cell? ⟨w.heap.size + 1, 5, none⟩ = some (.int .i64 0) := by rw [hb4.cell (p := ⟨w.heap.size + 1, 5, none⟩) (by first | (simp; done) | (simp; omega) | omega)]; first | assumption | (simp [go_sem, *]; done)
    have r5f_4 : w4.frozen? ⟨w.heap.size + 1, 5, none⟩ = false := by rw [hb4.frozen (p := ⟨w.heap.size + 1, 5, none⟩) (by first | (simp; done) | (simp; omega) | omega)]; first | assumption | (simp [go_sem, *]; done)
    have r6_4 : w4.cell? ⟨w.heap.size + 1, 6, none⟩ = some (.bool false) := by rw [hb4.cell (p := ⟨w.heap.size + 1, 6, none⟩) (by first | (simp; done) | (simp; omega) | omega)]; first | assumption | (simp [go_sem, *]; done)
    have r6f_4 : w4.frozen? ⟨w.heap.size + 1, 6, none⟩ = false := by rw [hb4.frozen (p := ⟨w.heap.size + 1, 6, none⟩) (by first | (simp; done) | (simp; omega) | omega)]; first | assumption | (simp [go_sem, *]; done)
    have r7_4 : w4.cell? ⟨w.heap.size + 1, 7, none⟩ = some (.int .i64 0) := by rw [hb4.cell (p := ⟨w.heap.size + 1, 7, none⟩) (by first | (simp; done) | (simp; omega) | omega)]; first | assumption | (simp [go_sem, *]; done)
    have r7f_4 : w4.frozen? ⟨w.heap.size + 1, 7, none⟩ = false := by rw [hb4.frozen (p := ⟨w.heap.size + 1, 7, none⟩) (by first | (simp; done) | (simp; omega) | omega)]; first | assumption | (simp [go_sem, *]; done)
    have r8_4 : w4.cell? ⟨w.heap.size + 1, 8, none⟩ = some (.int .i32 0) := by rw [hb4.cell (p := ⟨w.heap.size + 1, 8, none⟩) (by first | (simp; done) | (simp; omega) | omega)]; first | assumption | (simp [go_sem, *]; done)
    have r8f_4 : w4.frozen? ⟨w.heap.size + 1, 8, none⟩ = false := by rw [hb4.frozen (p := ⟨w.heap.size + 1, 8, none⟩) (by first | (simp; done) | (simp; omega) | omega)]; first | assumption | (simp [go_sem, *]; done)
    have szS_4 : S < w4.heap.size := by have h := hb4.size; first | (simp at h; omega) | omega
    have szB_4 : w.heap.size < w4.heap.size := by have h := hb4.size; first | (simp at h; omega) | omega
    have szR_4 : w.heap.size + 1 < w4.heap.size := by have h := hb4.size; first | (simp at h; omega) | omega
    have HB4 : Below w.heap.size w w4 := below_then HB2 hb4 (by omega)
    clear hb4 pc_2 im0_2 im1_2 im3_2 r0_2 r1_2 r2_2 r3_2 r4_2 r5_2 r6_2 r7_2 r8_2 cd_2 pcf_2 r0f_2 r1f_2 r2f_2 r3f_2 r4f_2 r5f_2 r6f_2 r7f_2 r8f_2 szS_2 szC_2 szB_2 szR_2 hd1 hd2 hT2
    go_wp2_with fail
    refine bodyPost_ret (v := .tuple #[.agg #[.int .u8 0, .int .i64 0, .int .i64 0, .int .i64 0, .int .i64 0, .int .i64 0, .bool false, .int .i64 0, .int .i32 0], .int .i64 3]) (run_result9 Tryd.results23 (fun _ => by kernel_rfl) (fun _ => by kernel_rfl) _ _ _ _ _ _ _ _ _ _ rfl rfl (by simp [go_sem, r0_4]) (by simp [go_sem, r1_4]) (by simp [go_sem, r2_4]) (by simp [go_sem, r3_4]) (by simp [go_sem, r4_4]) (by simp [go_sem, r5_4]) (by simp [go_sem, r6_4]) (by simp [go_sem, r7_4]) (by simp [go_sem, r8_4])) rfl ⟨rfl, ?_⟩
    repeat (first | (with_reducible apply bBoth) | (with_reducible exact Below.refl _ _) | (with_reducible apply bDrewN) | (with_reducible apply Below.drew) | (with_reducible exact HB4) | ((with_reducible apply bSet); (focus first | (simp; done) | (simp; omega) | omega)) | ((with_reducible apply bAlloc); (focus first | (simp; done) | (simp; omega) | omega)))

end Go.Proofs.YtpachmkklppmjaaDoor
