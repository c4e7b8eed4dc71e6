import Derived.Test.YtdfofelchjpioaaDoorCorY
import Derived.Test.YtdfofelchjpioaaDoorMs25
import Derived.Test.YtdfofelchjpioaaDoorBase
set_option linter.unusedVariables false
set_option linter.unusedSimpArgs false
namespace Go.Proofs.YtdfofelchjpioaaDoor
open Go.RowKit

def awIns : List Ins := [⟨14, 1, 0, 0, 5⟩, ⟨25, 1, 0, 0, 6⟩, ⟨18, 2, 1, 0, -5⟩, ⟨25, 1, 0, 0, 5⟩, ⟨1, 0, 0, 0, 0⟩]
def awIm : Im := ⟨awIns.map Ins.word, [⟨tName, 0, 5, 1⟩], 0, 0⟩
def awC : Cf Unit := ⟨⟨0, [0, 0, 0, 0, 0, 0, 0, 0, 0, 0, 0, 0, 0, 0, 0, 0], [9], false, -1⟩, [], (), []⟩
def awEnd : Cf Unit := ⟨⟨3, [0, 5, 9, 0, 0, 0, 0, 0, 0, 0, 0, 0, 0, 0, 0, 0], [9], false, -1⟩, [], (), []⟩
theorem aw_run : runP awIm 0 (fun _ _ => 0) (fun _ _ => ()) 9 awC = (awEnd, 3, 11) := by kernel_rfl
theorem aw_fit : fitP awIm 0 awC.s = true := by kernel_rfl
theorem aw_ok : ∀ k, k < awIns.length → (awIns.getD k default).ok = true := by
  intro k hk
  match k, hk with
  | 0, _ => rfl
  | 1, _ => rfl
  | 2, _ => rfl
  | 3, _ => rfl
  | 4, _ => rfl

theorem port_nil (S : Nat) (dv mv : Value) : PortRun (σ := Unit) S dv mv .nilFunc (fun _ _ => 0) (fun _ _ => ()) (fun _ _ => True) (fun _ => False) (fun _ _ => id) :=
  ⟨fun _ _ _ _ => .none rfl rfl rfl, fun _ _ _ _ _ => trivial, fun _ _ _ _ => trivial, fun _ _ _ => Kept.refl _ _, fun _ _ _ => rfl, fun _ h => h.elim, fun _ _ => W32.zero⟩

theorem imAt_one {w' : World} {base eb : Nat} {p : Option Addr} {c : Nat} {codes : List Int} {dat sh lk : Int} (hown : w'.ownsRow base 63 1 (.slice p codes.length c) codes.length (codeCells codes codes.length)) (hen : RowAt w' eb [.string tName, .int .i64 0, .int .i64 codes.length, .int .i64 dat])
    (hw : ∀ k, k < codes.length → 0 ≤ codes.getD k 0 ∧ codes.getD k 0 < 4294967296) (hl : codes.length ≤ 1000) : ImAt w' (.agg #[.slice p codes.length c, .slice (some ⟨eb, 0, none⟩) 1 1, .int .i64 sh, .int .i64 lk]) ⟨codes, [⟨tName, 0, codes.length, dat⟩], sh, lk⟩ := by
  refine ⟨⟨p, c, some ⟨eb, 0, none⟩, 1, rfl, ?_, .inr ⟨eb, 0, rfl, hen.lt, fun k hk => ?_⟩⟩, hw, by show codes.length ≤ _; omega⟩
  · rcases hown.2 with ⟨_, h0⟩ | ⟨g, cap, cur, h1, _, hg, _, _, _, ht⟩
    · exact .inl (List.eq_nil_of_length_eq_zero h0)
    · injection h1 with h1
      refine .inr ⟨g, 0, h1, lt_of_block hg, fun k hk => ?_⟩
      have hk' : k < codes.length := hk
      rw [cell_of_row _ _ _ _ _ _ hg, Nat.zero_add]
      have h2 : cur.toList[k]? = (codeCells codes codes.length)[k]? := by
        rw [← ht, List.getElem?_take_of_lt (by omega)]
      rw [← Array.getElem?_toList, h2]
      show ((codes.take codes.length).map (Value.int .u32))[k]? = some (.int .u32 (codes.getD k 0))
      simp [hk']
  · have hk0 : k = 0 := by simp at hk; omega
    subst hk0
    exact ⟨hen.cell 0, hen.cell 1, hen.cell 2, hen.cell 3⟩

theorem w32_all {l : List Int} (h : l.all (fun x => decide (-2147483648 ≤ x ∧ x ≤ 2147483647)) = true) : ∀ j, W32 (l.getD j 0) := by
  intro j
  rw [List.getD_eq_getElem?_getD]
  by_cases hj : j < l.length
  · rw [List.getElem?_eq_getElem hj]
    have h2 := List.all_eq_true.1 h _ (List.getElem_mem hj)
    have h3 : -2147483648 ≤ l[j] ∧ l[j] ≤ 2147483647 := of_decide_eq_true h2
    exact h3
  · rw [List.getElem?_eq_none (by omega)]
    exact W32.zero

set_option maxHeartbeats 3200000 in
set_option maxRecDepth 100000 in
theorem awake_any (w : World) (hT : Tab w) (hO : OTab w) : Calls Tryd.prog 4 #[] w fun e w' => e = .returned (.bool true) ∧ Below w.heap.size w w' := by
  have hT0 := hT.size
  have hO0 := hO.1
  go_enter Tryd.func4, Tryd.ntmps4
  go_wp2_with fail
  have hb0 : Below w.heap.size w (w.alloc (.cells #[.int .u8 14, .int .i64 1, .int .i64 0, .int .i64 0, .int .i64 5, .int .u8 25, .int .i64 1, .int .i64 0, .int .i64 0, .int .i64 6, .int .u8 18, .int .i64 2, .int .i64 1, .int .i64 0, .int .i64 (-5), .int .u8 25, .int .i64 1, .int .i64 0, .int .i64 0, .int .i64 5, .int .u8 1, .int .i64 0, .int .i64 0, .int .i64 0, .int .i64 0] 34)) := bAlloc (Nat.le_refl _) (Below.refl _ _)
  have hone := one_ok w.heap.size 0 5 awIns 1 0 0 (w.alloc (.cells #[.int .u8 14, .int .i64 1, .int .i64 0, .int .i64 0, .int .i64 5, .int .u8 25, .int .i64 1, .int .i64 0, .int .i64 0, .int .i64 6, .int .u8 18, .int .i64 2, .int .i64 1, .int .i64 0, .int .i64 (-5), .int .u8 25, .int .i64 1, .int .i64 0, .int .i64 0, .int .i64 5, .int .u8 1, .int .i64 0, .int .i64 0, .int .i64 0, .int .i64 0] 34)) (hT.of_below hb0) (by decide) (by simp) aw_ok (by
    intro k hk
    have hz : ∀ j, (w.alloc (.cells #[.int .u8 14, .int .i64 1, .int .i64 0, .int .i64 0, .int .i64 5, .int .u8 25, .int .i64 1, .int .i64 0, .int .i64 0, .int .i64 6, .int .u8 18, .int .i64 2, .int .i64 1, .int .i64 0, .int .i64 (-5), .int .u8 25, .int .i64 1, .int .i64 0, .int .i64 0, .int .i64 5, .int .u8 1, .int .i64 0, .int .i64 0, .int .i64 0, .int .i64 0] 34)).cell? ⟨w.heap.size, j, none⟩ = (#[.int .u8 14, .int .i64 1, .int .i64 0, .int .i64 0, .int .i64 5, .int .u8 25, .int .i64 1, .int .i64 0, .int .i64 0, .int .i64 6, .int .u8 18, .int .i64 2, .int .i64 1, .int .i64 0, .int .i64 (-5), .int .u8 25, .int .i64 1, .int .i64 0, .int .i64 0, .int .i64 5, .int .u8 1, .int .i64 0, .int .i64 0, .int .i64 0, .int .i64 0] : Array Value)[j]? := fun j => cell_of_row _ _ _ _ _ _ (heap_alloc_new _ _)
    match k, hk with
    | 0, _ => exact ⟨hz _, hz _, hz _, hz _, hz _⟩
    | 1, _ => exact ⟨hz _, hz _, hz _, hz _, hz _⟩
    | 2, _ => exact ⟨hz _, hz _, hz _, hz _, hz _⟩
    | 3, _ => exact ⟨hz _, hz _, hz _, hz _, hz _⟩
    | 4, _ => exact ⟨hz _, hz _, hz _, hz _, hz _⟩)
  rw [show (w.alloc (.cells #[.int .u8 14, .int .i64 1, .int .i64 0, .int .i64 0, .int .i64 5, .int .u8 25, .int .i64 1, .int .i64 0, .int .i64 0, .int .i64 6, .int .u8 18, .int .i64 2, .int .i64 1, .int .i64 0, .int .i64 (-5), .int .u8 25, .int .i64 1, .int .i64 0, .int .i64 0, .int .i64 5, .int .u8 1, .int .i64 0, .int .i64 0, .int .i64 0, .int .i64 0] 34)).heap.size = w.heap.size + 1 by simp] at hone
  rw [show awIns.length = 5 from rfl] at hone
  refine hone.mono ?_
  rintro e w1 ⟨p, c, rfl, hown, hen, hb1⟩
  clear hone
  have HB1 : Below w.heap.size w w1 := hb0.trans (hb1.mono (by omega))
  have him : ImAt w1 (.agg #[.slice p 5 c, .slice (some ⟨w.heap.size + 1 + 1, 0, none⟩) 1 1, .int .i64 0, .int .i64 0]) awIm := imAt_one (codes := awIns.map Ins.word) hown hen (by decide +kernel) (by decide)
  clear hb0 hb1 hown
  have q0 := hen.cell 0
  have q1 := hen.cell 1
  have q2 := hen.cell 2
  have q3 := hen.cell 3
  simp only [List.getElem?_cons_zero, List.getElem?_cons_succ] at q0 q1 q2 q3
  go_wp2_with fail
  have hel := hen.lt
  refine (new_one (.slice p 5 c) (w.heap.size + 1 + 1) 0 1 0 0 tName 0 5 _ (by simp; omega) (by simp [go_sem, q0, hel]) (by simp [go_sem, q1, hel]) (by simp [go_sem, q2, hel]; rfl) (by simp [go_sem, q3, hel])).mono ?_
  rintro e w2 ⟨g, rfl, hb2, hg, hrow⟩
  simp at hg
  have HB2 : Below w1.heap.size w1 w2 := (bAlloc (Nat.le_refl _) (Below.refl _ _)).trans (hb2.mono (by simp))
  have him2 : RowAt w2 w1.heap.size [.slice p 5 c, .slice (some ⟨w.heap.size + 1 + 1, 0, none⟩) 1 1, .int .i64 0, .int .i64 0] := RowAt.below (B := w1.heap.size + 1) ⟨_, heap_alloc_new _ _⟩ (hb2.mono (by simp)) (by omega)
  clear hb2 q0 q1 q2 q3
  have hgl := hrow.lt
  have HR : Hid ((w2.alloc (.cells #[.int .i64 0, .int .i32 0, .int .i32 0, .int .i32 0, .int .i32 0, .int .i32 0, .int .i32 0, .int .i32 0, .int .i32 0, .int .i32 0, .int .i32 0, .int .i32 0, .int .i32 0, .int .i32 0, .int .i32 0, .int .i32 0, .int .i32 0, .slice none 0 0, .bool false, .int .i64 0] 29)).heap[w2.heap.size]? = some (.cells #[.int .i64 0, .int .i32 0, .int .i32 0, .int .i32 0, .int .i32 0, .int .i32 0, .int .i32 0, .int .i32 0, .int .i32 0, .int .i32 0, .int .i32 0, .int .i32 0, .int .i32 0, .int .i32 0, .int .i32 0, .int .i32 0, .int .i32 0, .slice none 0 0, .bool false, .int .i64 0] 29 (0, 0))) := heap_alloc_new _ _
  have HI : Hid ((Tryd.prog.info? 29).map (·.size) = some 20) := (show _ = _ by kernel_rfl)
  have HA : Hid ((#[.int .i64 0, .int .i32 0, .int .i32 0, .int .i32 0, .int .i32 0, .int .i32 0, .int .i32 0, .int .i32 0, .int .i32 0, .int .i32 0, .int .i32 0, .int .i32 0, .int .i32 0, .int .i32 0, .int .i32 0, .int .i32 0, .int .i32 0, .slice (some ⟨g, 0, none⟩) 1 1, .bool false, .int .i64 (-1)] : Array Value).all (·.oneCell') = true) := (show _ = true by simp [Value.oneCell'])
  have HZ : Hid ((#[.int .i64 0, .int .i32 0, .int .i32 0, .int .i32 0, .int .i32 0, .int .i32 0, .int .i32 0, .int .i32 0, .int .i32 0, .int .i32 0, .int .i32 0, .int .i32 0, .int .i32 0, .int .i32 0, .int .i32 0, .int .i32 0, .int .i32 0, .slice none 0 0, .bool false, .int .i64 0] : Array Value).size = (#[.int .i64 0, .int .i32 0, .int .i32 0, .int .i32 0, .int .i32 0, .int .i32 0, .int .i32 0, .int .i32 0, .int .i32 0, .int .i32 0, .int .i32 0, .int .i32 0, .int .i32 0, .int .i32 0, .int .i32 0, .int .i32 0, .int .i32 0, .slice (some ⟨g, 0, none⟩) 1 1, .bool false, .int .i64 (-1)] : Array Value).size) := (show _ = _ by simp)
  have HX : Hid (∃ w3, ((w2.alloc (.cells #[.int .i64 0, .int .i32 0, .int .i32 0, .int .i32 0, .int .i32 0, .int .i32 0, .int .i32 0, .int .i32 0, .int .i32 0, .int .i32 0, .int .i32 0, .int .i32 0, .int .i32 0, .int .i32 0, .int .i32 0, .int .i32 0, .int .i32 0, .slice none 0 0, .bool false, .int .i64 0] 29)).setRow w2.heap.size #[.int .i64 0, .int .i32 0, .int .i32 0, .int .i32 0, .int .i32 0, .int .i32 0, .int .i32 0, .int .i32 0, .int .i32 0, .int .i32 0, .int .i32 0, .int .i32 0, .int .i32 0, .int .i32 0, .int .i32 0, .int .i32 0, .int .i32 0, .slice (some ⟨g, 0, none⟩) 1 1, .bool false, .int .i64 (-1)]) = w3 ∧ RowAt w3 w2.heap.size [.int .i64 0, .int .i32 0, .int .i32 0, .int .i32 0, .int .i32 0, .int .i32 0, .int .i32 0, .int .i32 0, .int .i32 0, .int .i32 0, .int .i32 0, .int .i32 0, .int .i32 0, .int .i32 0, .int .i32 0, .int .i32 0, .int .i32 0, .slice (some ⟨g, 0, none⟩) 1 1, .bool false, .int .i64 (-1)] ∧ RowAt w3 g [.int .i32 0] ∧ RowAt w3 w1.heap.size [.slice p 5 c, .slice (some ⟨w.heap.size + 1 + 1, 0, none⟩) 1 1, .int .i64 0, .int .i64 0] ∧ Below w1.heap.size w1 w3) := by
    refine ⟨_, rfl, ⟨_, setRow_heap _ _ _ _ _ _ HR.out⟩, hrow.block ?_, him2.block ?_, bRow (by have := HB2.size; omega) (bAlloc HB2.size HB2)⟩
    · simp only [World.setRow, Array.getElem?_modify]
      rw [if_neg (by omega)]
      exact Below.heap_alloc _ _ _ hgl
    · have := him2.lt
      simp only [World.setRow, Array.getElem?_modify]
      rw [if_neg (by omega)]
      exact Below.heap_alloc _ _ _ him2.lt
  have hil := him2.lt
  clear hrow him2
  go_wp2_with (first | (refine wpList_store_row rfl 29 (.tmp 3) (.tmp 21) rfl w2.heap.size _ rfl rfl 29 _ HR.out HI.out HZ.out HA.out ?_; obtain ⟨w3, hw3, hst, hrow, him3, HB3⟩ := HX.out; rw [hw3]; clear hw3 HX HR; have d17 := hst.cell 17; have dz := hrow.cell 0; have df := hrow.frozen 0; have i0 := him3.cell 0; have i1 := him3.cell 1; have i2 := him3.cell 2; have i3 := him3.cell 3; simp only [List.getElem?_cons_zero, List.getElem?_cons_succ] at d17 dz i0 i1 i2 i3))
  have hs3 := hst.lt
  have hBW : Below w1.heap.size w1 (w3.setCell ⟨g, 0, none⟩ (.int .i32 9)) := bSet (by show w1.heap.size ≤ g; omega) HB3
  have hBw : Below w.heap.size w (w3.setCell ⟨g, 0, none⟩ (.int .i32 9)) := HB1.trans (hBW.mono HB1.size)
  have h1le := HB1.size
  have h2le := HB2.size
  have hpre : RunPre (w3.setCell ⟨g, 0, none⟩ (.int .i32 9)) w1.heap.size (.agg #[.slice p 5 c, .slice (some ⟨w.heap.size + 1 + 1, 0, none⟩) 1 1, .int .i64 0, .int .i64 0]) awIm w2.heap.size (.slice (some ⟨g, 0, none⟩) 1 1) (.slice none 0 0) (fun _ => False) := by
    refine ⟨hT.of_below hBw, hO.of_below hBw, fun w' hb' => him.below (hBW.trans hb') (Nat.le_refl _), ?_, ⟨by omega, by omega⟩, hBW.size, ?_, ?_, ?_⟩
    · rintro k ((rfl | hk | hk) | hk)
      · exact ⟨h2le, by simpa [World.setCell] using hs3⟩
      · have : g = k := by simpa [Value.ownBlock] using hk
        subst this
        exact ⟨by omega, by simp [World.setCell]; omega⟩
      · simp [Value.ownBlock] at hk
      · exact hk.elim
    · simp [Value.ownBlock]; omega
    · simp [Value.ownBlock]
    · intro k _; simp [Value.ownBlock]
  have hrun := run_all _ awIm 0 w2.heap.size (.slice (some ⟨g, 0, none⟩) 1 1) (.slice none 0 0) .nilFunc (fun _ _ => 0) (fun _ _ => ()) (fun _ _ => True) (fun _ => False) (fun _ _ => id) 9 awC _ _ (by omega) hpre (port_nil _ _ _)
    ⟨rfl, hst.other (p := ⟨g, 0, none⟩) (by show g ≠ w2.heap.size; omega) _⟩ ⟨some ⟨g, 0, none⟩, 1, rfl, .inr ⟨g, [], [], rfl, hrow.set 0 _⟩⟩ ⟨none, 0, rfl, .inl rfl⟩ trivial rfl
    (w32_all (by decide)) (w32_all (by decide)) (w32_all (by decide)) aw_fit
  rw [show ((9 : Int).toNat) = 9 from rfl, aw_run] at hrun
  refine hrun.mono ?_
  rintro e w4 ⟨ov, rfl, hown, hk4, hst4, -⟩
  have HB4 : Below w.heap.size w w4 := hBw.trans ((hpre.below hk4).mono (by omega))
  have r0 : w4.cell? ⟨w2.heap.size, 0, none⟩ = some (.int .i64 3) := hst4.pc
  have r1 : w4.cell? ⟨w2.heap.size, 2, none⟩ = some (.int .i32 5) := hst4.reg 1 (by omega)
  have r2 : w4.cell? ⟨w2.heap.size, 3, none⟩ = some (.int .i32 9) := hst4.reg 2 (by omega)
  clear hrun hpre hown hk4 hst4 hst hrow him3 HB3 hBW hBw him hen
  go_wp2_with fail
  go_ret
  exact ⟨rfl, HB4⟩

end Go.Proofs.YtdfofelchjpioaaDoor

set_option linter.unusedVariables false
set_option linter.unusedSimpArgs false
namespace Go.Proofs.YtdfofelchjpioaaDoor
open Go.RowKit

set_option maxRecDepth 100000 in
theorem small_yes (pc r0 r1 r2 r3 r4 r5 r6 r7 r8 r9 r10 r11 r12 r13 r14 r15 he : Int) (hl : Bool) (cp ep dp mp : Option Addr) (nC ccap nE ecap dl dcap ml mcap : Nat) (sh lk : Int) (w : World) (h1 : nC ≤ 200) (h2 : nE ≤ 8) (h3 : dl ≤ 100) (h4 : ml ≤ 100) :
    Calls Tryd.prog 5 #[.agg #[.slice cp nC ccap, .slice ep nE ecap, .int .i64 sh, .int .i64 lk], .agg #[.int .i64 pc, .int .i32 r0, .int .i32 r1, .int .i32 r2, .int .i32 r3, .int .i32 r4, .int .i32 r5, .int .i32 r6, .int .i32 r7, .int .i32 r8, .int .i32 r9, .int .i32 r10, .int .i32 r11, .int .i32 r12, .int .i32 r13, .int .i32 r14, .int .i32 r15, .slice dp dl dcap, .bool hl, .int .i64 he], .slice mp ml mcap] w fun e w' => e = .returned (.int .i64 1) ∧ Below w.heap.size w w' := by
  have g0 : decide (((nC : Nat) : Int) > 200) = false := by simp; omega
  have q0 : ¬ (200 : Int) < nC := by omega
  have g1 : decide (((nE : Nat) : Int) > 8) = false := by simp; omega
  have q1 : ¬ (8 : Int) < nE := by omega
  have g2 : decide (((dl : Nat) : Int) > 100) = false := by simp; omega
  have q2 : ¬ (100 : Int) < dl := by omega
  have g3 : decide (((ml : Nat) : Int) > 100) = false := by simp; omega
  have q3 : ¬ (100 : Int) < ml := by omega
  go_enter Tryd.func5, Tryd.ntmps5
  go_wp2_with fail
  go_ret
  refine ⟨rfl, ?_⟩
  repeat (first | (with_reducible apply bBoth) | (with_reducible exact Below.refl _ _) | (with_reducible apply bDrewN) | (with_reducible apply Below.drew) | ((with_reducible apply bSet); (focus first | (simp; done) | (simp; omega) | omega)) | ((with_reducible apply bAlloc); (focus first | (simp; done) | (simp; omega) | omega)))

set_option maxRecDepth 100000 in
theorem small_code (pc r0 r1 r2 r3 r4 r5 r6 r7 r8 r9 r10 r11 r12 r13 r14 r15 he : Int) (hl : Bool) (cp ep dp mp : Option Addr) (nC ccap nE ecap dl dcap ml mcap : Nat) (sh lk : Int) (w : World) (h1 : 200 < nC) :
    Calls Tryd.prog 5 #[.agg #[.slice cp nC ccap, .slice ep nE ecap, .int .i64 sh, .int .i64 lk], .agg #[.int .i64 pc, .int .i32 r0, .int .i32 r1, .int .i32 r2, .int .i32 r3, .int .i32 r4, .int .i32 r5, .int .i32 r6, .int .i32 r7, .int .i32 r8, .int .i32 r9, .int .i32 r10, .int .i32 r11, .int .i32 r12, .int .i32 r13, .int .i32 r14, .int .i32 r15, .slice dp dl dcap, .bool hl, .int .i64 he], .slice mp ml mcap] w fun e w' => e = .returned (.int .i64 0) ∧ Below w.heap.size w w' := by
  have g0 : decide (((nC : Nat) : Int) > 200) = true := by simp; omega
  have q0 : (200 : Int) < nC := by omega
  go_enter Tryd.func5, Tryd.ntmps5
  go_wp2_with fail
  go_ret
  refine ⟨rfl, ?_⟩
  repeat (first | (with_reducible apply bBoth) | (with_reducible exact Below.refl _ _) | (with_reducible apply bDrewN) | (with_reducible apply Below.drew) | ((with_reducible apply bSet); (focus first | (simp; done) | (simp; omega) | omega)) | ((with_reducible apply bAlloc); (focus first | (simp; done) | (simp; omega) | omega)))

set_option maxRecDepth 100000 in
theorem small_ents (pc r0 r1 r2 r3 r4 r5 r6 r7 r8 r9 r10 r11 r12 r13 r14 r15 he : Int) (hl : Bool) (cp ep dp mp : Option Addr) (nC ccap nE ecap dl dcap ml mcap : Nat) (sh lk : Int) (w : World) (h1 : nC ≤ 200) (h2 : 8 < nE) :
    Calls Tryd.prog 5 #[.agg #[.slice cp nC ccap, .slice ep nE ecap, .int .i64 sh, .int .i64 lk], .agg #[.int .i64 pc, .int .i32 r0, .int .i32 r1, .int .i32 r2, .int .i32 r3, .int .i32 r4, .int .i32 r5, .int .i32 r6, .int .i32 r7, .int .i32 r8, .int .i32 r9, .int .i32 r10, .int .i32 r11, .int .i32 r12, .int .i32 r13, .int .i32 r14, .int .i32 r15, .slice dp dl dcap, .bool hl, .int .i64 he], .slice mp ml mcap] w fun e w' => e = .returned (.int .i64 0) ∧ Below w.heap.size w w' := by
  have g0 : decide (((nC : Nat) : Int) > 200) = false := by simp; omega
  have q0 : ¬ (200 : Int) < nC := by omega
  have g1 : decide (((nE : Nat) : Int) > 8) = true := by simp; omega
  have q1 : (8 : Int) < nE := by omega
  go_enter Tryd.func5, Tryd.ntmps5
  go_wp2_with fail
  go_ret
  refine ⟨rfl, ?_⟩
  repeat (first | (with_reducible apply bBoth) | (with_reducible exact Below.refl _ _) | (with_reducible apply bDrewN) | (with_reducible apply Below.drew) | ((with_reducible apply bSet); (focus first | (simp; done) | (simp; omega) | omega)) | ((with_reducible apply bAlloc); (focus first | (simp; done) | (simp; omega) | omega)))

set_option maxRecDepth 100000 in
theorem small_data (pc r0 r1 r2 r3 r4 r5 r6 r7 r8 r9 r10 r11 r12 r13 r14 r15 he : Int) (hl : Bool) (cp ep dp mp : Option Addr) (nC ccap nE ecap dl dcap ml mcap : Nat) (sh lk : Int) (w : World) (h1 : nC ≤ 200) (h2 : nE ≤ 8) (h3 : 100 < dl) :
    Calls Tryd.prog 5 #[.agg #[.slice cp nC ccap, .slice ep nE ecap, .int .i64 sh, .int .i64 lk], .agg #[.int .i64 pc, .int .i32 r0, .int .i32 r1, .int .i32 r2, .int .i32 r3, .int .i32 r4, .int .i32 r5, .int .i32 r6, .int .i32 r7, .int .i32 r8, .int .i32 r9, .int .i32 r10, .int .i32 r11, .int .i32 r12, .int .i32 r13, .int .i32 r14, .int .i32 r15, .slice dp dl dcap, .bool hl, .int .i64 he], .slice mp ml mcap] w fun e w' => e = .returned (.int .i64 0) ∧ Below w.heap.size w w' := by
  have g0 : decide (((nC : Nat) : Int) > 200) = false := by simp; omega
  have q0 : ¬ (200 : Int) < nC := by omega
  have g1 : decide (((nE : Nat) : Int) > 8) = false := by simp; omega
  have q1 : ¬ (8 : Int) < nE := by omega
  have g2 : decide (((dl : Nat) : Int) > 100) = true := by simp; omega
  have q2 : (100 : Int) < dl := by omega
  go_enter Tryd.func5, Tryd.ntmps5
  go_wp2_with fail
  go_ret
  refine ⟨rfl, ?_⟩
  repeat (first | (with_reducible apply bBoth) | (with_reducible exact Below.refl _ _) | (with_reducible apply bDrewN) | (with_reducible apply Below.drew) | ((with_reducible apply bSet); (focus first | (simp; done) | (simp; omega) | omega)) | ((with_reducible apply bAlloc); (focus first | (simp; done) | (simp; omega) | omega)))

set_option maxRecDepth 100000 in
theorem small_mem (pc r0 r1 r2 r3 r4 r5 r6 r7 r8 r9 r10 r11 r12 r13 r14 r15 he : Int) (hl : Bool) (cp ep dp mp : Option Addr) (nC ccap nE ecap dl dcap ml mcap : Nat) (sh lk : Int) (w : World) (h1 : nC ≤ 200) (h2 : nE ≤ 8) (h3 : dl ≤ 100) (h4 : 100 < ml) :
    Calls Tryd.prog 5 #[.agg #[.slice cp nC ccap, .slice ep nE ecap, .int .i64 sh, .int .i64 lk], .agg #[.int .i64 pc, .int .i32 r0, .int .i32 r1, .int .i32 r2, .int .i32 r3, .int .i32 r4, .int .i32 r5, .int .i32 r6, .int .i32 r7, .int .i32 r8, .int .i32 r9, .int .i32 r10, .int .i32 r11, .int .i32 r12, .int .i32 r13, .int .i32 r14, .int .i32 r15, .slice dp dl dcap, .bool hl, .int .i64 he], .slice mp ml mcap] w fun e w' => e = .returned (.int .i64 0) ∧ Below w.heap.size w w' := by
  have g0 : decide (((nC : Nat) : Int) > 200) = false := by simp; omega
  have q0 : ¬ (200 : Int) < nC := by omega
  have g1 : decide (((nE : Nat) : Int) > 8) = false := by simp; omega
  have q1 : ¬ (8 : Int) < nE := by omega
  have g2 : decide (((dl : Nat) : Int) > 100) = false := by simp; omega
  have q2 : ¬ (100 : Int) < dl := by omega
  have g3 : decide (((ml : Nat) : Int) > 100) = true := by simp; omega
  have q3 : (100 : Int) < ml := by omega
  go_enter Tryd.func5, Tryd.ntmps5
  go_wp2_with fail
  go_ret
  refine ⟨rfl, ?_⟩
  repeat (first | (with_reducible apply bBoth) | (with_reducible exact Below.refl _ _) | (with_reducible apply bDrewN) | (with_reducible apply Below.drew) | ((with_reducible apply bSet); (focus first | (simp; done) | (simp; omega) | omega)) | ((with_reducible apply bAlloc); (focus first | (simp; done) | (simp; omega) | omega)))

end Go.Proofs.YtdfofelchjpioaaDoor

