/- ref.Fits over an image; core.Run of nil and of a state that does not fit. -/
import Derived.Test.YtlmipchjmgnlfaaDoorCorAa
import Derived.Test.YtlmipchjmgnlfaaDoorCorT
set_option linter.unusedVariables false
set_option linter.unusedSimpArgs false
namespace Go.Proofs.YtlmipchjmgnlfaaDoor
open Go.RowKit

theorem rfits_all (pc r0 r1 r2 r3 r4 r5 r6 r7 r8 r9 r10 r11 r12 r13 r14 r15 he : Int) (hl : Bool) (d : List Int) (dv imv : Value) (im : Im) (t : Int) (w : World) (hi : ImAt w imv im) (hd : ∃ p cap, dv = .slice p d.length cap) :
    Calls Tryd.prog 15 #[imv, .int .i64 t, .agg #[.int .i64 pc, .int .i32 r0, .int .i32 r1, .int .i32 r2, .int .i32 r3, .int .i32 r4, .int .i32 r5, .int .i32 r6, .int .i32 r7, .int .i32 r8, .int .i32 r9, .int .i32 r10, .int .i32 r11, .int .i32 r12, .int .i32 r13, .int .i32 r14, .int .i32 r15, dv, .bool hl, .int .i64 he]] w fun e w' => e = .returned (.bool (fitP im t ⟨pc, [r0, r1, r2, r3, r4, r5, r6, r7, r8, r9, r10, r11, r12, r13, r14, r15], d, hl, he⟩)) ∧ Below w.heap.size w w' := by
  obtain ⟨⟨cp, ccap, ep, ecap, rfl, _, hx⟩, _, _⟩ := hi
  obtain ⟨dp, dcap, rfl⟩ := hd
  by_cases h0 : 0 ≤ t
  · by_cases h1 : t < im.ents.length
    · rcases hx with hx | ⟨eb, eo, rfl, heb, hx⟩
      · rw [hx] at h1; simp at h1; omega
      · obtain ⟨k, rfl⟩ := Int.eq_ofNat_of_zero_le h0
        have hk : k < im.ents.length := by omega
        have hkd : decide (im.ents.length ≤ k) = false := by simpa using hk
        obtain ⟨_, _, _, het⟩ := hx k hk
        by_cases h2 : (d.length : Int) = (im.ents.getD k default).dat
        · rw [← h2] at het
          by_cases h3 : r0 = 0
          · subst h3
            by_cases h4 : he = -1
            · subst h4
              have hf : fitP im k ⟨pc, [0, r1, r2, r3, r4, r5, r6, r7, r8, r9, r10, r11, r12, r13, r14, r15], d, hl, -1⟩ = true := by simp only [fitP, decide_eq_true_eq, Int.toNat_natCast]; refine ⟨h0, h1, h2, rfl, ?_⟩; simp
              rw [hf]
              exact rfits_ok1 pc 0 r1 r2 r3 r4 r5 r6 r7 r8 r9 r10 r11 r12 r13 r14 r15 0 hl _ none dp _ ecap _ dcap eb eo k im.sh im.lk 0 w heb het hk h1 hkd (by omega)
            · have hb4 : (he == -1) = false := by simpa using h4
              by_cases h5 : 0 ≤ he
              · by_cases h6 : he < im.lk
                · have hf : fitP im k ⟨pc, [0, r1, r2, r3, r4, r5, r6, r7, r8, r9, r10, r11, r12, r13, r14, r15], d, hl, he⟩ = true := by simp only [fitP, decide_eq_true_eq, Int.toNat_natCast]; exact ⟨h0, h1, h2, rfl, .inr ⟨h5, h6⟩⟩
                  rw [hf]
                  exact rfits_ok2 pc 0 r1 r2 r3 r4 r5 r6 r7 r8 r9 r10 r11 r12 r13 r14 r15 he hl _ none dp _ ecap _ dcap eb eo k im.sh im.lk 0 w heb het hk h1 hkd (by omega) hb4 h5 (by simpa using h5) h6 (by simpa using h6)
                · have hf : fitP im k ⟨pc, [0, r1, r2, r3, r4, r5, r6, r7, r8, r9, r10, r11, r12, r13, r14, r15], d, hl, he⟩ = false := by simp only [fitP, decide_eq_false_iff_not]; rintro ⟨_, _, _, _, h⟩; rcases h with h | h <;> omega
                  rw [hf]
                  exact rfits_locks pc 0 r1 r2 r3 r4 r5 r6 r7 r8 r9 r10 r11 r12 r13 r14 r15 he hl _ none dp _ ecap _ dcap eb eo k im.sh im.lk 0 w heb het hk h1 hkd (by omega) hb4 h5 (by simpa using h5) (by omega) (by simp; omega)
              · have hf : fitP im k ⟨pc, [0, r1, r2, r3, r4, r5, r6, r7, r8, r9, r10, r11, r12, r13, r14, r15], d, hl, he⟩ = false := by simp only [fitP, decide_eq_false_iff_not]; rintro ⟨_, _, _, _, h⟩; rcases h with h | h <;> omega
                rw [hf]
                exact rfits_held pc 0 r1 r2 r3 r4 r5 r6 r7 r8 r9 r10 r11 r12 r13 r14 r15 he hl _ none dp _ ecap _ dcap eb eo k im.sh im.lk 0 w heb het hk h1 hkd (by omega) hb4 (by omega) (by simp; omega)
          · have hf : fitP im k ⟨pc, [r0, r1, r2, r3, r4, r5, r6, r7, r8, r9, r10, r11, r12, r13, r14, r15], d, hl, he⟩ = false := by simp only [fitP, decide_eq_false_iff_not]; rintro ⟨_, _, _, h, _⟩; exact h3 h
            rw [hf]
            exact rfits_r0 pc r0 r1 r2 r3 r4 r5 r6 r7 r8 r9 r10 r11 r12 r13 r14 r15 he hl _ none dp _ ecap _ dcap eb eo k im.sh im.lk 0 w heb het hk h1 hkd (by omega) (by simpa using h3)
        · have hf : fitP im k ⟨pc, [r0, r1, r2, r3, r4, r5, r6, r7, r8, r9, r10, r11, r12, r13, r14, r15], d, hl, he⟩ = false := by simp only [fitP, decide_eq_false_iff_not, Int.toNat_natCast]; rintro ⟨_, _, h, _, _⟩; exact h2 h
          rw [hf]
          exact rfits_len pc r0 r1 r2 r3 r4 r5 r6 r7 r8 r9 r10 r11 r12 r13 r14 r15 he hl _ none dp _ ecap _ dcap eb eo k im.sh im.lk _ w heb het hk h1 hkd (by omega) (beq_false_of_ne h2)
    · have hf : fitP im t ⟨pc, [r0, r1, r2, r3, r4, r5, r6, r7, r8, r9, r10, r11, r12, r13, r14, r15], d, hl, he⟩ = false := by simp only [fitP, decide_eq_false_iff_not]; rintro ⟨_, h, _⟩; exact h1 h
      rw [hf]
      exact rfits_over pc r0 r1 r2 r3 r4 r5 r6 r7 r8 r9 r10 r11 r12 r13 r14 r15 he hl _ ep dp _ ecap _ dcap im.sh im.lk 0 t w h0 (by simpa using h0) (by omega) (by simp; omega)
  · have hf : fitP im t ⟨pc, [r0, r1, r2, r3, r4, r5, r6, r7, r8, r9, r10, r11, r12, r13, r14, r15], d, hl, he⟩ = false := by simp only [fitP, decide_eq_false_iff_not]; rintro ⟨h, _⟩; exact h0 h
    rw [hf]
    exact rfits_neg pc r0 r1 r2 r3 r4 r5 r6 r7 r8 r9 r10 r11 r12 r13 r14 r15 he hl _ ep dp _ ecap _ dcap im.sh im.lk 0 t w (by omega) (by simpa using h0)

theorem run_nil (cv ev mv pv : Value) (sh lk t fuel : Int) (w : World) :
    Calls Tryd.prog 19 #[.agg #[cv, ev, .int .i64 sh, .int .i64 lk], .int .i64 t, .pointer none, mv, pv, .int .i64 fuel] w fun e w' => e = .returned (.tuple #[.slice none 0 0, .int .i64 0, .int .i64 1]) ∧ Below w.heap.size w w' := by
  go_enter Tryd.func19, Tryd.ntmps19
  go_wp2_with fail
  go_ret3
  exact ⟨rfl, bAlloc (Nat.le_refl _) (Below.refl _ _)⟩

theorem run_unfit (imv : Value) (im : Im) (t : Int) (S : Nat) (s : St) (dv mv pv : Value) (fuel : Int) (w : World) (hi : ImAt w imv im) (hst : StAt w S s dv) (hd : ∃ p cap, dv = .slice p s.d.length cap) (hf : fitP im t s = false) :
    Calls Tryd.prog 19 #[imv, .int .i64 t, .pointer (some ⟨S, 0, none⟩), mv, pv, .int .i64 fuel] w fun e w' => e = .returned (.tuple #[.slice none 0 0, .int .i64 0, .int .i64 14]) ∧ Below w.heap.size w w' := by
  have hi' := hi
  obtain ⟨⟨cp, ccap, ep, ecap, rfl, _, _⟩, _, _⟩ := hi'
  go_enter Tryd.func19, Tryd.ntmps19
  go_wp2_with fail
  have hb0 : Below w.heap.size w (w.alloc (.cells #[.slice cp im.code.length ccap, .slice ep im.ents.length ecap, .int .i64 im.sh, .int .i64 im.lk] 25)) := bAlloc (Nat.le_refl _) (Below.refl _ _)
  have hfc := fits_all _ im t S s dv _ (hi.below hb0 (Nat.le_refl _)) (hst.below hb0 hst.lt) hd
  rw [hf] at hfc
  refine hfc.mono ?_
  rintro e w1 ⟨rfl, hb1⟩
  have hb : Below w.heap.size w w1 := below_then hb0 hb1 (by simp)
  clear hfc hb0 hb1 hi hst
  go_wp2_with fail
  go_ret3
  exact ⟨rfl, hb⟩

end Go.Proofs.YtlmipchjmgnlfaaDoor
