/- Step and Run of a state that has halted. -/
import Derived.Test.YtlmipchjmgnlfaaDoorCorAe
import Derived.Deep.RegionHeld3
set_option linter.unusedVariables false
set_option linter.unusedSimpArgs false
namespace Go.Proofs.YtlmipchjmgnlfaaDoor
open Go.RowKit

theorem step_haltS (imv : Value) (im : Im) (t : Int) (S : Nat) (s : St) (dv mv pv : Value) (w : World) (hi : ImAt w imv im) (hst : StAt w S s dv) (hd : ∃ p cap, dv = .slice p s.d.length cap) (hf : fitP im t s = true) (hal : s.halted = true) :
    Calls Tryd.prog 13 #[imv, .int .i64 t, .pointer (some ⟨S, 0, none⟩), mv, pv] w fun e w' => e = .returned (.tuple #[.agg #[.int .u8 0, .int .i64 0, .int .i64 0, .int .i64 0, .int .i64 0, .int .i64 0, .bool false, .int .i64 0, .int .i32 0], .int .i64 14]) ∧ Below w.heap.size w w' := by
  have hf' := hf
  simp only [fitP, decide_eq_true_eq] at hf'
  obtain ⟨h0, h1, h2, h3, h4⟩ := hf'
  obtain ⟨⟨cp, ccap, ep, ecap, rfl, hc, he⟩, hw, hsh⟩ := hi
  obtain ⟨dp, dcap, hdv⟩ := hd
  rcases he with he | ⟨eb, eo, rfl, heb, he⟩
  · rw [he] at h1; simp at h1; omega
  obtain ⟨k, rfl⟩ := Int.eq_ofNat_of_zero_le h0
  have hk : k < im.ents.length := by omega
  obtain ⟨he0, he1, he2, he3⟩ := he k hk
  rw [Int.toNat_natCast] at h2
  rw [← h2] at he3
  have hS := hst.lt
  have hR : w.cell? ⟨S, 1, none⟩ = some (.int .i32 0) := by have h := hst.reg 0 (by omega); rw [h3] at h; exact h
  have hD := hst.d
  rw [hdv] at hD
  have hH := hst.held
  have hPC := hst.pc
  have hL := hst.halted
  rw [hal] at hL
  exact (step_halted 0 0 0 0 eb eo im.ents.length ecap k S s.d.length dcap s.pc im.sh im.lk _ _ s.held _ dp mv pv _ w hS hPC (hst.frozen 0) hR hD hL hH heb hk he0 he1 he2 he3 h4).mono fun e w' h => h

set_option maxHeartbeats 800000 in
theorem run_haltS (imv : Value) (im : Im) (t : Int) (S : Nat) (s : St) (dv mv pv : Value) (fuel : Int) (w : World) (hi : ImAt w imv im) (hst : StAt w S s dv) (hd : ∃ p cap, dv = .slice p s.d.length cap) (hf : fitP im t s = true) (hal : s.halted = true) :
    Calls Tryd.prog 19 #[imv, .int .i64 t, .pointer (some ⟨S, 0, none⟩), mv, pv, .int .i64 fuel] w fun e w' => e = .returned (.tuple #[.slice none 0 0, .int .i64 0, .int .i64 0]) ∧ Below w.heap.size w w' := by
  have hi' := hi
  obtain ⟨⟨cp, ccap, ep, ecap, rfl, _, _⟩, _, _⟩ := hi'
  go_enter Tryd.func19, Tryd.ntmps19
  go_wp2_with fail
  have hb0 : Below w.heap.size w (w.alloc (.cells #[.slice cp im.code.length ccap, .slice ep im.ents.length ecap, .int .i64 im.sh, .int .i64 im.lk] 25)) := bAlloc (Nat.le_refl _) (Below.refl _ _)
  have hfc := fits_all _ im t S s dv _ (hi.below hb0 (Nat.le_refl _)) (hst.below hb0 hst.lt) hd
  rw [hf] at hfc
  refine hfc.mono ?_
  rintro e w1 ⟨rfl, hb1⟩
  have hb : Below w.heap.size w w1 := below_then hb0 hb1 (by simp)
  have hL := (hst.below hb hst.lt).halted
  rw [hal] at hL
  have hlt := (hst.below hb hst.lt).lt
  clear hfc hb0 hb1 hi hst
  go_wp2_with fail
  refine wp_loop_rounds 1 ?_
  rw [rounds_succ]
  go_wp2_with fail
  go_ret3
  exact ⟨rfl, hb⟩

end Go.Proofs.YtlmipchjmgnlfaaDoor
