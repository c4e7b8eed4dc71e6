/- The law CoreNone. -/
import Derived.Test.YtlmipchjmgnlfaaDoorCorBb
import Derived.Deep.RegionHeld3
set_option linter.unusedVariables false
set_option linter.unusedSimpArgs false
namespace Go.Proofs.YtlmipchjmgnlfaaDoor
open Go.RowKit

set_option maxHeartbeats 3200000 in
set_option maxRecDepth 100000 in
theorem noneLaw_any (s : St) (dp cp ep : Option Addr) (dcap ccap ecap : Nat) (im : Im) (t : Int) (w : World) (hT : Tab w) (hO : OTab w) (hr : s.r.length = 16) (him : im.code.length ≤ 200 → ImAt w (.agg #[.slice cp im.code.length ccap, .slice ep im.ents.length ecap, .int .i64 im.sh, .int .i64 im.lk]) im) (hrd : RdAt w (.slice dp s.d.length dcap) s.d) (hn0 : ∀ c, Value.slice dp s.d.length dcap = .slice none 0 c → c = 0) :
    Calls Tryd.prog 7 #[.agg #[.slice cp im.code.length ccap, .slice ep im.ents.length ecap, .int .i64 im.sh, .int .i64 im.lk], .int .i64 t, stV s (.slice dp s.d.length dcap)] w fun e w' => e = .returned (.bool true) ∧ Below w.heap.size w w' := by
  have HI : Hid ((Tryd.prog.info? 29).map (·.size) = some (stCells s (.slice dp s.d.length dcap)).toArray.size) := (show _ = _ by rw [List.size_toArray, stCells_len hr]; exact infoState)
  have SM := Lib.hid (fun (w : World) => smallS s cp ep dp none im.code.length ccap im.ents.length ecap s.d.length dcap 0 0 im.sh im.lk w hr)
  go_enter Tryd.func7, Tryd.ntmps7
  go_wp2_with fail
  refine (awake_any _ (hT.of_below (bAlloc (by simp) (bAlloc (Nat.le_refl _) (Below.refl _ _)))) (hO.of_below (bAlloc (by simp) (bAlloc (Nat.le_refl _) (Below.refl _ _))))).mono ?_
  rintro e w1 ⟨rfl, hb1⟩
  have hB1 : Below w.heap.size w w1 := below_then (bAlloc (by simp) (bAlloc (Nat.le_refl _) (Below.refl _ _))) hb1 (by simp; omega)
  have hI1 : RowAt w1 w.heap.size [.slice cp im.code.length ccap, .slice ep im.ents.length ecap, .int .i64 im.sh, .int .i64 im.lk] := RowAt.below (B := w.heap.size + 1 + 1) ⟨_, (Below.heap_alloc _ _ _ (by simp)).trans (heap_alloc_new _ _)⟩ (hb1.mono (by simp)) (by omega)
  have hS1 : RowAt w1 (w.heap.size + 1) (stCells s (.slice dp s.d.length dcap)) := RowAt.below (B := w.heap.size + 1 + 1) ⟨_, heap_at1 _ _ _⟩ (hb1.mono (by simp)) (by omega)
  clear hb1
  have i0 := hI1.cell 0
  have i1 := hI1.cell 1
  have i2 := hI1.cell 2
  have i3 := hI1.cell 3
  simp only [List.getElem?_cons_zero, List.getElem?_cons_succ] at i0 i1 i2 i3
  obtain ⟨tS, hS1'⟩ := hS1
  have HS := Lib.hid hS1'
  clear hS1'
  cases hsm : smallB im.code.length im.ents.length s.d.length 0
  · rw [hsm, if_neg (by simp)] at SM
    go_wp2_with (first | (refine wpList_load_row rfl 29 (.tmp 5) rfl (w.heap.size + 1) rfl tS _ (0, 0) _ HS.out Tryd.underlying29 rfl HI.out ?_))
    refine (SM.out _).mono ?_
    rintro e w2 ⟨rfl, hb2⟩
    go_wp2_with fail
    go_ret
    exact ⟨rfl, below_then hB1 hb2 hB1.size⟩
  · rw [hsm, if_pos (by simp)] at SM
    have hsz : im.code.length ≤ 200 ∧ im.ents.length ≤ 8 ∧ s.d.length ≤ 100 ∧ 0 ≤ 100 := by simpa [smallB] using hsm
    clear hsm
    go_wp2_with (first | (refine wpList_load_row rfl 29 (.tmp 5) rfl (w.heap.size + 1) rfl tS _ (0, 0) _ HS.out Tryd.underlying29 rfl HI.out ?_))
    refine (SM.out _).mono ?_
    rintro e w2 ⟨rfl, hb2⟩
    have hB2 : Below w.heap.size w w2 := below_then hB1 hb2 hB1.size
    have hI2 := hI1.below hb2 hI1.lt
    have hS2 : RowAt w2 (w.heap.size + 1) (stCells s (.slice dp s.d.length dcap)) := RowAt.below ⟨tS, HS.out⟩ hb2 (lt_of_block HS.out)
    have him2 := (him hsz.1).below hB2 (Nat.le_refl _)
    clear hb2 i0 i1 i2 i3 hI1 HS SM
    have hlS := hS2.lt
    have hlI := hI2.lt
    have HI20 : (Tryd.prog.info? 29).map (·.size) = some (stCells s (.slice dp s.d.length dcap)).length := by rw [stCells_len hr]; exact infoState
    have hSt2 : StAt w2 (w.heap.size + 1) s (.slice dp s.d.length dcap) := ⟨hr, hS2⟩
    clear hS2
    have hrd2 := hrd.below hB2 (Nat.le_refl _)
    have i0 := hI2.cell 0
    have i1 := hI2.cell 1
    have i2 := hI2.cell 2
    have i3 := hI2.cell 3
    simp only [List.getElem?_cons_zero, List.getElem?_cons_succ] at i0 i1 i2 i3
    go_wp2_with fail
    refine (step_nil _ _ _ _ _ _ t _).mono ?_
    rintro e w3 ⟨rfl, hb3⟩
    have hC3 : Below w2.heap.size w2 w3 := by repeat (first | ((with_reducible apply bRow); (focus first | (simp; done) | (simp; omega) | omega)) | (with_reducible exact Below.refl _ _) | (with_reducible apply bDrewN) | (with_reducible apply Below.drew) | ((with_reducible apply bThen hb3); (focus first | (simp; done) | (simp; omega) | omega)) | ((with_reducible apply bSet); (focus first | (simp; done) | (simp; omega) | omega)) | ((with_reducible apply bAlloc); (focus first | (simp; done) | (simp; omega) | omega)))
    have hB3 : Below w.heap.size w w3 := hB2.trans (hC3.mono hB2.size)
    have hI3 := hI2.below hC3 hI2.lt
    have hSt3 := hSt2.below hC3 hSt2.lt
    have him3 := him2.below hC3 (Nat.le_refl _)
    have hrd3 := hrd2.below hC3 (Nat.le_refl _)
    have hsz3 := hC3.size
    have hlS3 := hSt3.lt
    have hlI3 := hI3.lt
    clear i0 i1 i2 i3
    have i0 := hI3.cell 0
    have i1 := hI3.cell 1
    have i2 := hI3.cell 2
    have i3 := hI3.cell 3
    simp only [List.getElem?_cons_zero, List.getElem?_cons_succ] at i0 i1 i2 i3
    go_wp2_with fail
    refine (run_nil _ _ _ _ _ _ t 9 _).mono ?_
    rintro e w4 ⟨rfl, hb4⟩
    have hC4 : Below w3.heap.size w3 w4 := by repeat (first | ((with_reducible apply bRow); (focus first | (simp; done) | (simp; omega) | omega)) | (with_reducible exact Below.refl _ _) | (with_reducible apply bDrewN) | (with_reducible apply Below.drew) | ((with_reducible apply bThen hb4); (focus first | (simp; done) | (simp; omega) | omega)) | ((with_reducible apply bSet); (focus first | (simp; done) | (simp; omega) | omega)) | ((with_reducible apply bAlloc); (focus first | (simp; done) | (simp; omega) | omega)))
    have hB4 : Below w.heap.size w w4 := hB3.trans (hC4.mono hB3.size)
    have hI4 := hI3.below hC4 hI3.lt
    have hSt4 := hSt3.below hC4 hSt3.lt
    have him4 := him3.below hC4 (Nat.le_refl _)
    have hrd4 := hrd3.below hC4 (Nat.le_refl _)
    have hsz4 := hC4.size
    have hlS4 := hSt4.lt
    have hlI4 := hI4.lt
    clear i0 i1 i2 i3
    have i0 := hI4.cell 0
    have i1 := hI4.cell 1
    have i2 := hI4.cell 2
    have i3 := hI4.cell 3
    simp only [List.getElem?_cons_zero, List.getElem?_cons_succ] at i0 i1 i2 i3
    have FI := Lib.hid (fits_all _ im t (w.heap.size + 1) s (.slice dp s.d.length dcap) w4 him4 hSt4 ⟨_, _, rfl⟩)
    cases hfit : fitP im t s
    · rw [hfit] at FI
      go_wp2_with fail
      refine FI.out.mono ?_
      rintro e w5 ⟨rfl, hb5⟩
      go_wp2_with fail
      go_ret
      exact ⟨rfl, bThen hb5 hB4.size hB4⟩
    rw [hfit] at FI
    go_wp2_with fail
    refine (FI.out).mono ?_
    rintro e w5 ⟨rfl, hb5⟩
    have hC5 : Below w4.heap.size w4 w5 := by repeat (first | ((with_reducible apply bRow); (focus first | (simp; done) | (simp; omega) | omega)) | (with_reducible exact Below.refl _ _) | (with_reducible apply bDrewN) | (with_reducible apply Below.drew) | ((with_reducible apply bThen hb5); (focus first | (simp; done) | (simp; omega) | omega)) | ((with_reducible apply bSet); (focus first | (simp; done) | (simp; omega) | omega)) | ((with_reducible apply bAlloc); (focus first | (simp; done) | (simp; omega) | omega)))
    have hB5 : Below w.heap.size w w5 := hB4.trans (hC5.mono hB4.size)
    have hI5 := hI4.below hC5 hI4.lt
    have hSt5 := hSt4.below hC5 hSt4.lt
    have him5 := him4.below hC5 (Nat.le_refl _)
    have hrd5 := hrd4.below hC5 (Nat.le_refl _)
    have hsz5 := hC5.size
    have hlS5 := hSt5.lt
    have hlI5 := hI5.lt
    clear i0 i1 i2 i3
    have hV : StAt (w5.setCell ⟨w.heap.size + 1, 18, none⟩ (.bool true)) (w.heap.size + 1) { s with halted := true } (.slice dp s.d.length dcap) := hSt5.setHalted true
    have c18 := hSt5.halted
    have f18 := hSt5.frozen 18
    have hBV : Below w.heap.size w (w5.setCell ⟨w.heap.size + 1, 18, none⟩ (.bool true)) := bSet (by show w.heap.size ≤ w.heap.size + 1; omega) hB5
    have hIV : RowAt (w5.setCell ⟨w.heap.size + 1, 18, none⟩ (.bool true)) w.heap.size [.slice cp im.code.length ccap, .slice ep im.ents.length ecap, .int .i64 im.sh, .int .i64 im.lk] := hI5.other (by show w.heap.size + 1 ≠ w.heap.size; omega) _
    have hrdV := hrd.below hBV (Nat.le_refl _)
    have hszV : w5.heap.size ≤ (w5.setCell ⟨w.heap.size + 1, 18, none⟩ (.bool true)).heap.size := by simp [World.setCell]
    have HIs : (Tryd.prog.info? 29).map (·.size) = some (stCells { s with halted := true } (.slice dp s.d.length dcap)).length := by rw [stCells_len (s := { s with halted := true }) hr]; exact infoState
    have HR := Lib.hid hV.2.range
    have HC := Lib.hid (copyS { s with halted := true } dp s.d.length dcap (w5.setCell ⟨w.heap.size + 1, 18, none⟩ (.bool true)) hr rfl hrdV hn0 (by omega))
    clear hSt5 hSt2 hSt3 hSt4 hrdV FI
    go_wp2_with (first | (refine wpList_load_mid rfl 29 (.tmp 5) rfl (w.heap.size + 1) 0 rfl (stCells { s with halted := true } (.slice dp s.d.length dcap)) _ HR.out Tryd.underlying29 rfl HIs ?_))
    refine HC.out.mono ?_
    rintro e w6 ⟨px, cx, rfl, hb6, hown⟩
    have hB6 : Below w.heap.size w w6 := bThen hb6 hBV.size hBV
    have hI6 := hIV.below hb6 hIV.lt
    have hSt6 := hV.below hb6 hV.lt
    have hmx6 := MemAt.of_owns hown
    have hsz6 := hB6.size
    have hlS6 := hSt6.lt
    clear hown hb6 hIV hV HC HR c18 f18 hszV
    have HX := Lib.hid (boxed_new w6 [.int .i64 0, .int .i32 0, .int .i32 0, .int .i32 0, .int .i32 0, .int .i32 0, .int .i32 0, .int .i32 0, .int .i32 0, .int .i32 0, .int .i32 0, .int .i32 0, .int .i32 0, .int .i32 0, .int .i32 0, .int .i32 0, .int .i32 0, .slice none 0 0, .bool false, .int .i64 0] (stCells { s with halted := true } (.slice px s.d.length cx)) 29)
    have HZr : Hid ((w6.alloc (.cells #[.int .i64 0, .int .i32 0, .int .i32 0, .int .i32 0, .int .i32 0, .int .i32 0, .int .i32 0, .int .i32 0, .int .i32 0, .int .i32 0, .int .i32 0, .int .i32 0, .int .i32 0, .int .i32 0, .int .i32 0, .int .i32 0, .int .i32 0, .slice none 0 0, .bool false, .int .i64 0] 29)).heap[w6.heap.size]? = some (.cells #[.int .i64 0, .int .i32 0, .int .i32 0, .int .i32 0, .int .i32 0, .int .i32 0, .int .i32 0, .int .i32 0, .int .i32 0, .int .i32 0, .int .i32 0, .int .i32 0, .int .i32 0, .int .i32 0, .int .i32 0, .int .i32 0, .int .i32 0, .slice none 0 0, .bool false, .int .i64 0] 29 (0, 0))) := (show _ = _ from heap_alloc_new _ _)
    have HIx : Hid ((Tryd.prog.info? 29).map (·.size) = some (stCells { s with halted := true } (.slice px s.d.length cx)).toArray.size) := (show _ = _ by rw [List.size_toArray, stCells_len (s := { s with halted := true }) hr]; exact infoState)
    have HZs : Hid ((#[.int .i64 0, .int .i32 0, .int .i32 0, .int .i32 0, .int .i32 0, .int .i32 0, .int .i32 0, .int .i32 0, .int .i32 0, .int .i32 0, .int .i32 0, .int .i32 0, .int .i32 0, .int .i32 0, .int .i32 0, .int .i32 0, .int .i32 0, .slice none 0 0, .bool false, .int .i64 0] : Array Value).size = (stCells { s with halted := true } (.slice px s.d.length cx)).toArray.size) := (show (20 : Nat) = _ by rw [List.size_toArray, stCells_len (s := { s with halted := true }) hr])
    have HA : Hid ((stCells { s with halted := true } (.slice px s.d.length cx)).toArray.all (·.oneCell') = true) := (show _ = _ from stCells_one _ _ _ _)
    go_wp2_with (first | (refine wpList_store_row rfl 29 (.tmp 12) (.tmp 53) rfl w6.heap.size _ rfl rfl 29 _ HZr.out HIx.out HZs.out HA.out ?_; obtain ⟨w7, hw7, hx7, hC7, hs7⟩ := HX.out; rw [hw7]; clear hw7 HX HZr; have hs7' : w6.heap.size < w7.heap.size := (by omega); clear hs7; have hI7 := hI6.below hC7 hI6.lt; have hSt7 := hSt6.below hC7 hSt6.lt; have hmx7 := hmx6.below hC7 (Nat.le_refl _); have hB7 : Below w.heap.size w w7 := hB6.trans (hC7.mono hB6.size); clear hC7 hI6 hSt6 hmx6; have i0 := hI7.cell 0; have i1 := hI7.cell 1; have i2 := hI7.cell 2; have i3 := hI7.cell 3; simp only [List.getElem?_cons_zero, List.getElem?_cons_succ] at i0 i1 i2 i3))
    have him7 := (him hsz.1).below hB7 (Nat.le_refl _)
    refine (step_haltS _ im t (w.heap.size + 1) { s with halted := true } (.slice dp s.d.length dcap) _ _ w7 him7 hSt7 ⟨_, _, rfl⟩ hfit rfl).mono ?_
    rintro e w8 ⟨rfl, hC8⟩
    have hB8 : Below w.heap.size w w8 := bThen hC8 hB7.size hB7
    have hI8 := hI7.below hC8 hI7.lt
    have hSt8 := hSt7.below hC8 hSt7.lt
    have hx8 := hx7.below hC8 hx7.lt
    have hmx8 := hmx7.below hC8 (Nat.le_refl _)
    have hsz8 := hC8.size
    have hlS8 := hSt8.lt
    have hlI8 := hI8.lt
    clear hC8 hI7 hSt7 hmx7 hx7 i0 i1 i2 i3 him7
    have i0 := hI8.cell 0
    have i1 := hI8.cell 1
    have i2 := hI8.cell 2
    have i3 := hI8.cell 3
    simp only [List.getElem?_cons_zero, List.getElem?_cons_succ] at i0 i1 i2 i3
    go_wp2_with fail
    refine (run_haltS _ im t (w.heap.size + 1) { s with halted := true } (.slice dp s.d.length dcap) _ _ 9 _ ((him hsz.1).below (show Below w.heap.size w _ from by repeat (first | ((with_reducible apply bRow); (focus first | (simp; done) | (simp; omega) | omega)) | (with_reducible exact Below.refl _ _) | (with_reducible apply bDrewN) | (with_reducible apply Below.drew) | (with_reducible exact hB8) | ((with_reducible apply bSet); (focus first | (simp; done) | (simp; omega) | omega)) | ((with_reducible apply bAlloc); (focus first | (simp; done) | (simp; omega) | omega)))) (Nat.le_refl _)) (hSt8.below (B := w8.heap.size) (by repeat (first | ((with_reducible apply bRow); (focus first | (simp; done) | (simp; omega) | omega)) | (with_reducible exact Below.refl _ _) | (with_reducible apply bDrewN) | (with_reducible apply Below.drew) | ((with_reducible apply bSet); (focus first | (simp; done) | (simp; omega) | omega)) | ((with_reducible apply bAlloc); (focus first | (simp; done) | (simp; omega) | omega)))) hSt8.lt) ⟨_, _, rfl⟩ hfit rfl).mono ?_
    rintro e w9 ⟨rfl, hb9⟩
    have hC9 : Below w8.heap.size w8 w9 := by repeat (first | ((with_reducible apply bRow); (focus first | (simp; done) | (simp; omega) | omega)) | (with_reducible exact Below.refl _ _) | (with_reducible apply bDrewN) | (with_reducible apply Below.drew) | ((with_reducible apply bThen hb9); (focus first | (simp; done) | (simp; omega) | omega)) | ((with_reducible apply bSet); (focus first | (simp; done) | (simp; omega) | omega)) | ((with_reducible apply bAlloc); (focus first | (simp; done) | (simp; omega) | omega)))
    have hB9 : Below w.heap.size w w9 := bThen hC9 hB8.size hB8
    have hSt9 := hSt8.below hC9 hSt8.lt
    have hx9 := hx8.below hC9 hx8.lt
    have hmx9 := hmx8.below hC9 (Nat.le_refl _)
    clear hb9 hC9 hI8 hSt8 hmx8 hx8 i0 i1 i2 i3
    have HA9 := Lib.hid hSt9.2.range
    have HX9 := Lib.hid hx9.range
    have HIx9 : (Tryd.prog.info? 29).map (·.size) = some (stCells { s with halted := true } (.slice px s.d.length cx)).length := by rw [stCells_len (s := { s with halted := true }) hr]; exact infoState
    have HE := Lib.hid (equalS { s with halted := true } (.slice dp s.d.length dcap) (.slice px s.d.length cx) w9 hr (hrd.below hB9 (Nat.le_refl _)) hmx9.rd (by show s.d.length ≤ _; omega))
    clear hSt9 hx9 hmx9
    go_wp2_with (first
      | (refine BigFrame.wpList_want rfl (fun K hK => wp_load_mid 29 (.tmp 5) rfl (w.heap.size + 1) 0 rfl (stCells { s with halted := true } (.slice dp s.d.length dcap)) _ HA9.out Tryd.underlying29 rfl HIs (hK _ _ ?_)))
      | (refine BigFrame.wpList_want rfl (fun K hK => wp_load_mid 29 (.tmp 12) rfl w6.heap.size 0 rfl (stCells { s with halted := true } (.slice px s.d.length cx)) _ HX9.out Tryd.underlying29 rfl HIx9 (hK _ _ ?_))))
    refine HE.out.mono ?_
    rintro e w10 ⟨rfl, hb10⟩
    go_wp2_with fail
    go_ret
    exact ⟨rfl, bThen hb10 hB9.size hB9⟩

end Go.Proofs.YtlmipchjmgnlfaaDoor
