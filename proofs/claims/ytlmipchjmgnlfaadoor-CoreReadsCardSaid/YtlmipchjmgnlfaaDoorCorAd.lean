/- States as whole values: what the laws of layer 9 hand about. -/
import Derived.Test.YtlmipchjmgnlfaaDoorCorZ
import Derived.Test.YtlmipchjmgnlfaaDoorCorW
import Derived.Test.YtlmipchjmgnlfaaDoorCorAb
import Derived.Deep.MidRow
set_option linter.unusedVariables false
set_option linter.unusedSimpArgs false
namespace Go.Proofs.YtlmipchjmgnlfaaDoor
open Go.RowKit

/-- A state as a value. -/
abbrev stV (s : St) (dv : Value) : Value := .agg (stCells s dv).toArray

theorem list16 {l : List Int} (h : l.length = 16) : ∃ r0 r1 r2 r3 r4 r5 r6 r7 r8 r9 r10 r11 r12 r13 r14 r15 : Int, l = [r0, r1, r2, r3, r4, r5, r6, r7, r8, r9, r10, r11, r12, r13, r14, r15] := by
  match l, h with
  | [r0, r1, r2, r3, r4, r5, r6, r7, r8, r9, r10, r11, r12, r13, r14, r15], _ => exact ⟨r0, r1, r2, r3, r4, r5, r6, r7, r8, r9, r10, r11, r12, r13, r14, r15, rfl⟩
theorem stCells_len {s : St} (hr : s.r.length = 16) (dv : Value) : (stCells s dv).length = 20 := by simp [stCells, hr]

theorem copyS (s : St) (p0 : Option Addr) (n0 c0 : Nat) (w : World) (hr : s.r.length = 16) (hn : n0 = s.d.length) (hd : RdAt w (.slice p0 n0 c0) s.d) (hn0 : ∀ c, Value.slice p0 n0 c0 = .slice none 0 c → c = 0) (hlen : n0 ≤ 35184372087808) :
    Calls Tryd.prog 12 #[stV s (.slice p0 n0 c0)] w fun e w' => ∃ pv cv, e = .returned (stV s (.slice pv n0 cv)) ∧ Below w.heap.size w w' ∧ w'.ownsRow (w.heap.size + 2) 21 1 (.slice pv n0 cv) n0 (s.d.map (.int .i32)) := by
  obtain ⟨pc, r, d, hl, he⟩ := s
  obtain ⟨r0, r1, r2, r3, r4, r5, r6, r7, r8, r9, r10, r11, r12, r13, r14, r15, rfl⟩ := list16 hr
  exact copy_any pc r0 r1 r2 r3 r4 r5 r6 r7 r8 r9 r10 r11 r12 r13 r14 r15 he hl d p0 n0 c0 w hn hd hn0 hlen

/-- Whether the sizes are within the laws' bounds. -/
def smallB (nC nE dl ml : Nat) : Bool := decide (nC ≤ 200 ∧ nE ≤ 8 ∧ dl ≤ 100 ∧ ml ≤ 100)
theorem smallS (s : St) (cp ep dp mp : Option Addr) (nC ccap nE ecap dl dcap ml mcap : Nat) (sh lk : Int) (w : World) (hr : s.r.length = 16) :
    Calls Tryd.prog 11 #[.agg #[.slice cp nC ccap, .slice ep nE ecap, .int .i64 sh, .int .i64 lk], stV s (.slice dp dl dcap), .slice mp ml mcap] w fun e w' => e = .returned (.int .i64 (if smallB nC nE dl ml then 1 else 0)) ∧ Below w.heap.size w w' := by
  obtain ⟨pc, r, d, hl, he⟩ := s
  obtain ⟨r0, r1, r2, r3, r4, r5, r6, r7, r8, r9, r10, r11, r12, r13, r14, r15, rfl⟩ := list16 hr
  by_cases h1 : nC ≤ 200
  · by_cases h2 : nE ≤ 8
    · by_cases h3 : dl ≤ 100
      · by_cases h4 : ml ≤ 100
        · rw [if_pos (by simp [smallB, h1, h2, h3, h4])]
          exact small_yes pc r0 r1 r2 r3 r4 r5 r6 r7 r8 r9 r10 r11 r12 r13 r14 r15 he hl cp ep dp mp nC ccap nE ecap dl dcap ml mcap sh lk w h1 h2 h3 h4
        · rw [if_neg (by simp [smallB, h4])]
          exact small_mem pc r0 r1 r2 r3 r4 r5 r6 r7 r8 r9 r10 r11 r12 r13 r14 r15 he hl cp ep dp mp nC ccap nE ecap dl dcap ml mcap sh lk w h1 h2 h3 (by omega)
      · rw [if_neg (by simp [smallB, h3])]
        exact small_data pc r0 r1 r2 r3 r4 r5 r6 r7 r8 r9 r10 r11 r12 r13 r14 r15 he hl cp ep dp mp nC ccap nE ecap dl dcap ml mcap sh lk w h1 h2 (by omega)
    · rw [if_neg (by simp [smallB, h2])]
      exact small_ents pc r0 r1 r2 r3 r4 r5 r6 r7 r8 r9 r10 r11 r12 r13 r14 r15 he hl cp ep dp mp nC ccap nE ecap dl dcap ml mcap sh lk w h1 (by omega)
  · rw [if_neg (by simp [smallB, h1])]
    exact small_code pc r0 r1 r2 r3 r4 r5 r6 r7 r8 r9 r10 r11 r12 r13 r14 r15 he hl cp ep dp mp nC ccap nE ecap dl dcap ml mcap sh lk w (by omega)

theorem rfitsS (s : St) (dv imv : Value) (im : Im) (t : Int) (w : World) (hr : s.r.length = 16) (hi : ImAt w imv im) (hd : ∃ p cap, dv = .slice p s.d.length cap) :
    Calls Tryd.prog 15 #[imv, .int .i64 t, stV s dv] w fun e w' => e = .returned (.bool (fitP im t s)) ∧ Below w.heap.size w w' := by
  obtain ⟨pc, r, d, hl, he⟩ := s
  obtain ⟨r0, r1, r2, r3, r4, r5, r6, r7, r8, r9, r10, r11, r12, r13, r14, r15, rfl⟩ := list16 hr
  exact rfits_all pc r0 r1 r2 r3 r4 r5 r6 r7 r8 r9 r10 r11 r12 r13 r14 r15 he hl d dv imv im t w hi hd

theorem RowAt.range {w : World} {b : Nat} {l : List Value} (h : RowAt w b l) : w.rangeAt b 0 l := fun j v hj => by
  rw [Nat.zero_add, h.cell, hj]
theorem RowAt.alloc_new (w : World) (l : List Value) (t : TypeId) : RowAt (w.alloc (.cells l.toArray t)) w.heap.size l := ⟨t, heap_alloc_new _ _⟩
theorem stCells_one (s : St) (p : Option Addr) (n c : Nat) : (stCells s (.slice p n c)).toArray.all (·.oneCell') = true := by
  simp [stCells, Value.oneCell']
/-- A new variable, and a row of cells stored into it. -/
theorem boxed_new (w : World) (Z l : List Value) (t : TypeId) : ∃ W, (w.alloc (.cells Z.toArray t)).setRow w.heap.size l.toArray = W ∧ RowAt W w.heap.size l ∧ Below w.heap.size w W ∧ W.heap.size = w.heap.size + 1 :=
  ⟨_, rfl, ⟨_, setRow_heap _ _ _ _ _ _ (heap_alloc_new w _)⟩, bRow (Nat.le_refl _) (bAlloc (Nat.le_refl _) (Below.refl _ _)), by simp [World.setRow]⟩
theorem infoState : (Tryd.prog.info? 29).map (·.size) = some 20 := by kernel_rfl
theorem infoImage : (Tryd.prog.info? 25).map (·.size) = some 4 := by kernel_rfl

end Go.Proofs.YtlmipchjmgnlfaaDoor
