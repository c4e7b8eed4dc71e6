import Derived.Test.YtdfofelchjpioaaDoorCorAa
import Derived.Test.YtdfofelchjpioaaDoorMs25
import Derived.Test.YtdfofelchjpioaaDoorMs28
import Derived.Deep.MidRow
set_option linter.unusedVariables false
set_option linter.unusedSimpArgs false
namespace Go.Proofs.YtdfofelchjpioaaDoor
open Go.RowKit

theorem rfits_all (pc r0 r1 r2 r3 r4 r5 r6 r7 r8 r9 r10 r11 r12 r13 r14 r15 he : Int) (hl : Bool) (d : List Int) (dv imv : Value) (im : Im) (t : Int) (w : World) (hi : ImAt w imv im) (hd : ∃ p cap, dv = .slice p d.length cap) :
    Calls Tryd.prog 9 #[imv, .int .i64 t, .agg #[.int .i64 pc, .int .i32 r0, .int .i32 r1, .int .i32 r2, .int .i32 r3, .int .i32 r4, .int .i32 r5, .int .i32 r6, .int .i32 r7, .int .i32 r8, .int .i32 r9, .int .i32 r10, .int .i32 r11, .int .i32 r12, .int .i32 r13, .int .i32 r14, .int .i32 r15, dv, .bool hl, .int .i64 he]] w fun e w' => e = .returned (.bool (fitP im t ⟨pc, [r0, r1, r2, r3, r4, r5, r6, r7, r8, r9, r10, r11, r12, r13, r14, r15], d, hl, he⟩)) ∧ Below w.heap.size w w' := by
  obtain ⟨⟨cp, ccap, ep, ecap, rfl, _, hx⟩, _, _⟩ := hi
  obtain ⟨dp, dcap, rfl⟩ := hd
  by_cases h0 : 0 ≤ t
  · by_cases h1 : t < im.ents.length
    · rcases hx with hx | ⟨eb, eo, rfl, heb, hx⟩
      · rw [hx] at h1; simp at h1; omega
      · obtain ⟨k, rfl⟩ := Int.eq_ofNat_of_zero_le h0
        have hk : k < im.ents.length := by omega
        have hkd : decide (im.ents.length ≤ k) = false := by simpa using hk
        obtain ⟨_, _, _, het⟩ := hx k hk
        by_cases h2 : (d.length : Int) = (im.ents.getD k default).dat
        · rw [← h2] at het
          by_cases h3 : r0 = 0
          · subst h3
            by_cases h4 : he = -1
            · subst h4
              have hf : fitP im k ⟨pc, [0, r1, r2, r3, r4, r5, r6, r7, r8, r9, r10, r11, r12, r13, r14, r15], d, hl, -1⟩ = true := by simp only [fitP, decide_eq_true_eq, Int.toNat_natCast]; refine ⟨h0, h1, h2, rfl, ?_⟩; simp
              rw [hf]
              exact rfits_ok1 pc 0 r1 r2 r3 r4 r5 r6 r7 r8 r9 r10 r11 r12 r13 r14 r15 0 hl _ none dp _ ecap _ dcap eb eo k im.sh im.lk 0 w heb het hk h1 hkd (by omega)
            · have hb4 : (he == -1) = false := by simpa using h4
              by_cases h5 : 0 ≤ he
              · by_cases h6 : he < im.lk
                · have hf : fitP im k ⟨pc, [0, r1, r2, r3, r4, r5, r6, r7, r8, r9, r10, r11, r12, r13, r14, r15], d, hl, he⟩ = true := by simp only [fitP, decide_eq_true_eq, Int.toNat_natCast]; exact ⟨h0, h1, h2, rfl, .inr ⟨h5, h6⟩⟩
                  rw [hf]
                  exact rfits_ok2 pc 0 r1 r2 r3 r4 r5 r6 r7 r8 r9 r10 r11 r12 r13 r14 r15 he hl _ none dp _ ecap _ dcap eb eo k im.sh im.lk 0 w heb het hk h1 hkd (by omega) hb4 h5 (by simpa using h5) h6 (by simpa using h6)
                · have hf : fitP im k ⟨pc, [0, r1, r2, r3, r4, r5, r6, r7, r8, r9, r10, r11, r12, r13, r14, r15], d, hl, he⟩ = false := by simp only [fitP, decide_eq_false_iff_not]; rintro ⟨_, _, _, _, h⟩; rcases h with h | h <;> omega
                  rw [hf]
                  exact rfits_locks pc 0 r1 r2 r3 r4 r5 r6 r7 r8 r9 r10 r11 r12 r13 r14 r15 he hl _ none dp _ ecap _ dcap eb eo k im.sh im.lk 0 w heb het hk h1 hkd (by omega) hb4 h5 (by simpa using h5) (by omega) (by simp; omega)
              · have hf : fitP im k ⟨pc, [0, r1, r2, r3, r4, r5, r6, r7, r8, r9, r10, r11, r12, r13, r14, r15], d, hl, he⟩ = false := by simp only [fitP, decide_eq_false_iff_not]; rintro ⟨_, _, _, _, h⟩; rcases h with h | h <;> omega
                rw [hf]
                exact rfits_held pc 0 r1 r2 r3 r4 r5 r6 r7 r8 r9 r10 r11 r12 r13 r14 r15 he hl _ none dp _ ecap _ dcap eb eo k im.sh im.lk 0 w heb het hk h1 hkd (by omega) hb4 (by omega) (by simp; omega)
          · have hf : fitP im k ⟨pc, [r0, r1, r2, r3, r4, r5, r6, r7, r8, r9, r10, r11, r12, r13, r14, r15], d, hl, he⟩ = false := by simp only [fitP, decide_eq_false_iff_not]; rintro ⟨_, _, _, h, _⟩; exact h3 h
            rw [hf]
            exact rfits_r0 pc r0 r1 r2 r3 r4 r5 r6 r7 r8 r9 r10 r11 r12 r13 r14 r15 he hl _ none dp _ ecap _ dcap eb eo k im.sh im.lk 0 w heb het hk h1 hkd (by omega) (by simpa using h3)
        · have hf : fitP im k ⟨pc, [r0, r1, r2, r3, r4, r5, r6, r7, r8, r9, r10, r11, r12, r13, r14, r15], d, hl, he⟩ = false := by simp only [fitP, decide_eq_false_iff_not, Int.toNat_natCast]; rintro ⟨_, _, h, _, _⟩; exact h2 h
          rw [hf]
          exact rfits_len pc r0 r1 r2 r3 r4 r5 r6 r7 r8 r9 r10 r11 r12 r13 r14 r15 he hl _ none dp _ ecap _ dcap eb eo k im.sh im.lk _ w heb het hk h1 hkd (by omega) (beq_false_of_ne h2)
    · have hf : fitP im t ⟨pc, [r0, r1, r2, r3, r4, r5, r6, r7, r8, r9, r10, r11, r12, r13, r14, r15], d, hl, he⟩ = false := by simp only [fitP, decide_eq_false_iff_not]; rintro ⟨_, h, _⟩; exact h1 h
      rw [hf]
      exact rfits_over pc r0 r1 r2 r3 r4 r5 r6 r7 r8 r9 r10 r11 r12 r13 r14 r15 he hl _ ep dp _ ecap _ dcap im.sh im.lk 0 t w h0 (by simpa using h0) (by omega) (by simp; omega)
  · have hf : fitP im t ⟨pc, [r0, r1, r2, r3, r4, r5, r6, r7, r8, r9, r10, r11, r12, r13, r14, r15], d, hl, he⟩ = false := by simp only [fitP, decide_eq_false_iff_not]; rintro ⟨h, _⟩; exact h0 h
    rw [hf]
    exact rfits_neg pc r0 r1 r2 r3 r4 r5 r6 r7 r8 r9 r10 r11 r12 r13 r14 r15 he hl _ ep dp _ ecap _ dcap im.sh im.lk 0 t w (by omega) (by simpa using h0)

end Go.Proofs.YtdfofelchjpioaaDoor

set_option linter.unusedVariables false
set_option linter.unusedSimpArgs false
namespace Go.Proofs.YtdfofelchjpioaaDoor
open Go.RowKit

abbrev stV (s : St) (dv : Value) : Value := .agg (stCells s dv).toArray

theorem list16 {l : List Int} (h : l.length = 16) : ∃ r0 r1 r2 r3 r4 r5 r6 r7 r8 r9 r10 r11 r12 r13 r14 r15 : Int, l = [r0, r1, r2, r3, r4, r5, r6, r7, r8, r9, r10, r11, r12, r13, r14, r15] := by
  match l, h with
  | [r0, r1, r2, r3, r4, r5, r6, r7, r8, r9, r10, r11, r12, r13, r14, r15], _ => exact ⟨r0, r1, r2, r3, r4, r5, r6, r7, r8, r9, r10, r11, r12, r13, r14, r15, rfl⟩
theorem stCells_len {s : St} (hr : s.r.length = 16) (dv : Value) : (stCells s dv).length = 20 := by simp [stCells, hr]

theorem copyS (s : St) (p0 : Option Addr) (n0 c0 : Nat) (w : World) (hr : s.r.length = 16) (hn : n0 = s.d.length) (hd : RdAt w (.slice p0 n0 c0) s.d) (hn0 : ∀ c, Value.slice p0 n0 c0 = .slice none 0 c → c = 0) (hlen : n0 ≤ 35184372087808) :
    Calls Tryd.prog 6 #[stV s (.slice p0 n0 c0)] w fun e w' => ∃ pv cv, e = .returned (stV s (.slice pv n0 cv)) ∧ Below w.heap.size w w' ∧ w'.ownsRow (w.heap.size + 2) 21 1 (.slice pv n0 cv) n0 (s.d.map (.int .i32)) := by
  obtain ⟨pc, r, d, hl, he⟩ := s
  obtain ⟨r0, r1, r2, r3, r4, r5, r6, r7, r8, r9, r10, r11, r12, r13, r14, r15, rfl⟩ := list16 hr
  exact copy_any pc r0 r1 r2 r3 r4 r5 r6 r7 r8 r9 r10 r11 r12 r13 r14 r15 he hl d p0 n0 c0 w hn hd hn0 hlen

def smallB (nC nE dl ml : Nat) : Bool := decide (nC ≤ 200 ∧ nE ≤ 8 ∧ dl ≤ 100 ∧ ml ≤ 100)
theorem smallS (s : St) (cp ep dp mp : Option Addr) (nC ccap nE ecap dl dcap ml mcap : Nat) (sh lk : Int) (w : World) (hr : s.r.length = 16) :
    Calls Tryd.prog 5 #[.agg #[.slice cp nC ccap, .slice ep nE ecap, .int .i64 sh, .int .i64 lk], stV s (.slice dp dl dcap), .slice mp ml mcap] w fun e w' => e = .returned (.int .i64 (if smallB nC nE dl ml then 1 else 0)) ∧ Below w.heap.size w w' := by
  obtain ⟨pc, r, d, hl, he⟩ := s
  obtain ⟨r0, r1, r2, r3, r4, r5, r6, r7, r8, r9, r10, r11, r12, r13, r14, r15, rfl⟩ := list16 hr
  by_cases h1 : nC ≤ 200
  · by_cases h2 : nE ≤ 8
    · by_cases h3 : dl ≤ 100
      · by_cases h4 : ml ≤ 100
        · rw [if_pos (by simp [smallB, h1, h2, h3, h4])]
          exact small_yes pc r0 r1 r2 r3 r4 r5 r6 r7 r8 r9 r10 r11 r12 r13 r14 r15 he hl cp ep dp mp nC ccap nE ecap dl dcap ml mcap sh lk w h1 h2 h3 h4
        · rw [if_neg (by simp [smallB, h4])]
          exact small_mem pc r0 r1 r2 r3 r4 r5 r6 r7 r8 r9 r10 r11 r12 r13 r14 r15 he hl cp ep dp mp nC ccap nE ecap dl dcap ml mcap sh lk w h1 h2 h3 (by omega)
      · rw [if_neg (by simp [smallB, h3])]
        exact small_data pc r0 r1 r2 r3 r4 r5 r6 r7 r8 r9 r10 r11 r12 r13 r14 r15 he hl cp ep dp mp nC ccap nE ecap dl dcap ml mcap sh lk w h1 h2 (by omega)
    · rw [if_neg (by simp [smallB, h2])]
      exact small_ents pc r0 r1 r2 r3 r4 r5 r6 r7 r8 r9 r10 r11 r12 r13 r14 r15 he hl cp ep dp mp nC ccap nE ecap dl dcap ml mcap sh lk w h1 (by omega)
  · rw [if_neg (by simp [smallB, h1])]
    exact small_code pc r0 r1 r2 r3 r4 r5 r6 r7 r8 r9 r10 r11 r12 r13 r14 r15 he hl cp ep dp mp nC ccap nE ecap dl dcap ml mcap sh lk w (by omega)

theorem rfitsS (s : St) (dv imv : Value) (im : Im) (t : Int) (w : World) (hr : s.r.length = 16) (hi : ImAt w imv im) (hd : ∃ p cap, dv = .slice p s.d.length cap) :
    Calls Tryd.prog 9 #[imv, .int .i64 t, stV s dv] w fun e w' => e = .returned (.bool (fitP im t s)) ∧ Below w.heap.size w w' := by
  obtain ⟨pc, r, d, hl, he⟩ := s
  obtain ⟨r0, r1, r2, r3, r4, r5, r6, r7, r8, r9, r10, r11, r12, r13, r14, r15, rfl⟩ := list16 hr
  exact rfits_all pc r0 r1 r2 r3 r4 r5 r6 r7 r8 r9 r10 r11 r12 r13 r14 r15 he hl d dv imv im t w hi hd

theorem RowAt.range {w : World} {b : Nat} {l : List Value} (h : RowAt w b l) : w.rangeAt b 0 l := fun j v hj => by
  rw [Nat.zero_add, h.cell, hj]
theorem stCells_one (s : St) (p : Option Addr) (n c : Nat) : (stCells s (.slice p n c)).toArray.all (·.oneCell') = true := by
  simp [stCells, Value.oneCell']
theorem boxed_new (w : World) (Z l : List Value) (t : TypeId) : ∃ W, (w.alloc (.cells Z.toArray t)).setRow w.heap.size l.toArray = W ∧ RowAt W w.heap.size l ∧ Below w.heap.size w W ∧ W.heap.size = w.heap.size + 1 :=
  ⟨_, rfl, ⟨_, setRow_heap _ _ _ _ _ _ (heap_alloc_new w _)⟩, bRow (Nat.le_refl _) (bAlloc (Nat.le_refl _) (Below.refl _ _)), by simp [World.setRow]⟩
theorem infoState : (Tryd.prog.info? 29).map (·.size) = some 20 := by kernel_rfl
end Go.Proofs.YtdfofelchjpioaaDoor

