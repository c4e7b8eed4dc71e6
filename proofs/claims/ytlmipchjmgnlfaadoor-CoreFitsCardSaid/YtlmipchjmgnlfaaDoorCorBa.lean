/- The law CoreFits. -/
import Derived.Test.YtlmipchjmgnlfaaDoorCorAe
import Derived.Deep.RegionHeld3
set_option linter.unusedVariables false
set_option linter.unusedSimpArgs false
namespace Go.Proofs.YtlmipchjmgnlfaaDoor
open Go.RowKit

set_option maxHeartbeats 1600000 in
set_option maxRecDepth 100000 in
theorem fitsLaw_any (s : St) (dp cp ep : Option Addr) (dcap ccap ecap : Nat) (im : Im) (t : Int) (w : World) (hT : Tab w) (hO : OTab w) (hr : s.r.length = 16) (him : im.code.length ≤ 200 → ImAt w (.agg #[.slice cp im.code.length ccap, .slice ep im.ents.length ecap, .int .i64 im.sh, .int .i64 im.lk]) im) :
    Calls Tryd.prog 5 #[.agg #[.slice cp im.code.length ccap, .slice ep im.ents.length ecap, .int .i64 im.sh, .int .i64 im.lk], .int .i64 t, stV s (.slice dp s.d.length dcap)] w fun e w' => e = .returned (.bool true) ∧ Below w.heap.size w w' := by
  have HI : Hid ((Tryd.prog.info? 29).map (·.size) = some (stCells s (.slice dp s.d.length dcap)).toArray.size) := (show _ = _ by rw [List.size_toArray, stCells_len hr]; exact infoState)
  have SM := Lib.hid (fun (w : World) => smallS s cp ep dp none im.code.length ccap im.ents.length ecap s.d.length dcap 0 0 im.sh im.lk w hr)
  go_enter Tryd.func5, Tryd.ntmps5
  go_wp2_with fail
  refine (awake_any _ (hT.of_below (bAlloc (by simp) (bAlloc (Nat.le_refl _) (Below.refl _ _)))) (hO.of_below (bAlloc (by simp) (bAlloc (Nat.le_refl _) (Below.refl _ _))))).mono ?_
  rintro e w1 ⟨rfl, hb1⟩
  have hB1 : Below w.heap.size w w1 := below_then (bAlloc (by simp) (bAlloc (Nat.le_refl _) (Below.refl _ _))) hb1 (by simp; omega)
  have hI1 : RowAt w1 w.heap.size [.slice cp im.code.length ccap, .slice ep im.ents.length ecap, .int .i64 im.sh, .int .i64 im.lk] := RowAt.below (B := w.heap.size + 1 + 1) ⟨_, (Below.heap_alloc _ _ _ (by simp)).trans (heap_alloc_new _ _)⟩ (hb1.mono (by simp)) (by omega)
  have hS1 : RowAt w1 (w.heap.size + 1) (stCells s (.slice dp s.d.length dcap)) := RowAt.below (B := w.heap.size + 1 + 1) ⟨_, heap_at1 _ _ _⟩ (hb1.mono (by simp)) (by omega)
  clear hb1
  have i0 := hI1.cell 0
  have i1 := hI1.cell 1
  have i2 := hI1.cell 2
  have i3 := hI1.cell 3
  simp only [List.getElem?_cons_zero, List.getElem?_cons_succ] at i0 i1 i2 i3
  obtain ⟨tS, hS1'⟩ := hS1
  have HS := Lib.hid hS1'
  clear hS1'
  cases hsm : smallB im.code.length im.ents.length s.d.length 0
  · rw [hsm, if_neg (by simp)] at SM
    go_wp2_with (first | (refine wpList_load_row rfl 29 (.tmp 5) rfl (w.heap.size + 1) rfl tS _ (0, 0) _ HS.out Tryd.underlying29 rfl HI.out ?_))
    refine (SM.out _).mono ?_
    rintro e w2 ⟨rfl, hb2⟩
    go_wp2_with fail
    go_ret
    exact ⟨rfl, below_then hB1 hb2 hB1.size⟩
  · rw [hsm, if_pos (by simp)] at SM
    have hsz : im.code.length ≤ 200 ∧ im.ents.length ≤ 8 ∧ s.d.length ≤ 100 ∧ 0 ≤ 100 := by simpa [smallB] using hsm
    clear hsm
    go_wp2_with (first | (refine wpList_load_row rfl 29 (.tmp 5) rfl (w.heap.size + 1) rfl tS _ (0, 0) _ HS.out Tryd.underlying29 rfl HI.out ?_))
    refine (SM.out _).mono ?_
    rintro e w2 ⟨rfl, hb2⟩
    have hB2 : Below w.heap.size w w2 := below_then hB1 hb2 hB1.size
    have hI2 := hI1.below hb2 hI1.lt
    have hS2 : RowAt w2 (w.heap.size + 1) (stCells s (.slice dp s.d.length dcap)) := RowAt.below ⟨tS, HS.out⟩ hb2 (lt_of_block HS.out)
    have him2 := (him hsz.1).below hB2 (Nat.le_refl _)
    clear hb2 i0 i1 i2 i3 hI1 HS SM
    have hlS := hS2.lt
    have hlI := hI2.lt
    have HI20 : (Tryd.prog.info? 29).map (·.size) = some (stCells s (.slice dp s.d.length dcap)).length := by rw [stCells_len hr]; exact infoState
    have F1 := Lib.hid (show ∀ W : World, Below w2.heap.size w2 W → Calls Tryd.prog 21 #[.agg #[.slice cp im.code.length ccap, .slice ep im.ents.length ecap, .int .i64 im.sh, .int .i64 im.lk], .int .i64 t, .pointer (some ⟨w.heap.size + 1, 0, none⟩)] W fun e w' => e = .returned (.bool (fitP im t s)) ∧ Below w2.heap.size w2 w' from fun W hb =>
      (fits_all _ im t (w.heap.size + 1) s (.slice dp s.d.length dcap) W (him2.below hb (Nat.le_refl _)) ⟨hr, hS2.below hb hlS⟩ ⟨_, _, rfl⟩).mono fun e w' ⟨h1, h2⟩ => ⟨h1, hb.trans (h2.mono hb.size)⟩)
    have F2 := Lib.hid (show ∀ W : World, Below w2.heap.size w2 W → Calls Tryd.prog 15 #[.agg #[.slice cp im.code.length ccap, .slice ep im.ents.length ecap, .int .i64 im.sh, .int .i64 im.lk], .int .i64 t, stV s (.slice dp s.d.length dcap)] W fun e w' => e = .returned (.bool (fitP im t s)) ∧ Below w2.heap.size w2 w' from fun W hb =>
      (rfitsS s (.slice dp s.d.length dcap) _ im t W hr (him2.below hb (Nat.le_refl _)) ⟨_, _, rfl⟩).mono fun e w' ⟨h1, h2⟩ => ⟨h1, hb.trans (h2.mono hb.size)⟩)
    have F3 := Lib.hid (show ∀ W : World, Below w2.heap.size w2 W → Calls Tryd.prog 21 #[.agg #[.slice cp im.code.length ccap, .slice ep im.ents.length ecap, .int .i64 im.sh, .int .i64 im.lk], .int .i64 t, .pointer none] W fun e w' => e = .returned (.bool false) ∧ Below w2.heap.size w2 w' from fun W hb =>
      (fits_nil _ _ _ _ t W).mono fun e w' ⟨h1, h2⟩ => ⟨h1, hb.trans (h2.mono hb.size)⟩)
    generalize fitP im t s = fb at F1 F2
    go_wp2_with fail
    refine wp_region_held_drew (S := fun w' => Below w2.heap.size w2 w') (by kernel_rfl) (Below.refl _ _).drew (fun hHeld => ?_)
    refine wpAnyH_take (i := 0) (oi := { dst := some 13, op := Go.Op.load 25 (Go.Operand.tmp 3), type := 25, pos := "law.go:161", after := #[], guard := none }) rfl (by kernel_rfl) (by kernel_rfl) (by kernel_rfl) (fun _ _ _ h => h) (yieldsIf_load_mid rfl 25 (.tmp 3) rfl (w.heap.size) 0 rfl [.slice cp im.code.length ccap, .slice ep im.ents.length ecap, .int .i64 im.sh, .int .i64 im.lk] _ (fun w hb => (hI2.below hb hlI).range) Tryd.underlying25 rfl infoImage) hHeld ?_
    try simp only [Act.put, List.setIfInBounds_toArray, List.set_cons_zero, List.set_cons_succ]
    refine wpAnyH_take (i := 1) (oi := { dst := some 14, op := Go.Op.move (Go.Operand.tmp 1), type := 3, pos := "law.go:161", after := #[], guard := none }) (v := ?_) rfl (by kernel_rfl) (by kernel_rfl) (by kernel_rfl) (fun _ _ _ h => h) (Or.inl ⟨by rfl, ?_⟩) hHeld ?_
    rotate_left
    · intro w hSw; (try dsimp only at hSw); go_simp; try (with_reducible rfl)
    try simp only [Act.put, List.setIfInBounds_toArray, List.set_cons_zero, List.set_cons_succ]
    refine wpAnyH_take (i := 3) (oi := { dst := some 16, op := Go.Op.load 25 (Go.Operand.tmp 3), type := 25, pos := "law.go:161", after := #[], guard := none }) rfl (by kernel_rfl) (by kernel_rfl) (by kernel_rfl) (fun _ _ _ h => h) (yieldsIf_load_mid rfl 25 (.tmp 3) rfl (w.heap.size) 0 rfl [.slice cp im.code.length ccap, .slice ep im.ents.length ecap, .int .i64 im.sh, .int .i64 im.lk] _ (fun w hb => (hI2.below hb hlI).range) Tryd.underlying25 rfl infoImage) hHeld ?_
    try simp only [Act.put, List.setIfInBounds_toArray, List.set_cons_zero, List.set_cons_succ]
    refine wpAnyH_take (i := 4) (oi := { dst := some 17, op := Go.Op.move (Go.Operand.tmp 1), type := 3, pos := "law.go:161", after := #[], guard := none }) (v := ?_) rfl (by kernel_rfl) (by kernel_rfl) (by kernel_rfl) (fun _ _ _ h => h) (Or.inl ⟨by rfl, ?_⟩) hHeld ?_
    rotate_left
    · intro w hSw; (try dsimp only at hSw); go_simp; try (with_reducible rfl)
    try simp only [Act.put, List.setIfInBounds_toArray, List.set_cons_zero, List.set_cons_succ]
    refine wpAnyH_take (i := 5) (oi := { dst := some 18, op := Go.Op.load 29 (Go.Operand.tmp 5), type := 29, pos := "law.go:161", after := #[], guard := none }) rfl (by kernel_rfl) (by kernel_rfl) (by kernel_rfl) (fun _ _ _ h => h) (yieldsIf_load_mid rfl 29 (.tmp 5) rfl (w.heap.size + 1) 0 rfl (stCells s (.slice dp s.d.length dcap)) _ (fun w hb => (hS2.below hb hlS).range) Tryd.underlying29 rfl HI20) hHeld ?_
    try simp only [Act.put, List.setIfInBounds_toArray, List.set_cons_zero, List.set_cons_succ]
    refine wpAnyH_ready (rs := [2]) (by kernel_rfl) (by simp) ?_
    refine AllReadyH.cons (o := { dst := some 15, op := Go.Op.call { callee := Go.Callee.value (Go.Operand.func 21), args := #[Go.Operand.tmp 13, Go.Operand.tmp 14, Go.Operand.tmp 5], argTypes := #[25, 3, 40] }, type := 4, pos := "law.go:161", after := #[{ on := 0, ground := Go.Ground.data }, { on := 1, ground := Go.Ground.data }], guard := none }) rfl (fun K hK => ?_) AllReadyH.nil
    go_simp
    first | ((with_reducible refine (F3.out _ hHeld).mono ?_); rintro e w' ⟨rfl, hS⟩) | ((with_reducible refine (F1.out _ hHeld).mono ?_); rintro e w' ⟨rfl, hS⟩)
    first | (refine hK.out _ _ ?_ (fun hHeld => ?_)) | (go_wp2_with fail; refine hK.out _ _ ?_ (fun hHeld => ?_))
    · (try dsimp only); (exact hS)
    clear hK K
    try simp only [Act.put, List.setIfInBounds_toArray, List.set_cons_zero, List.set_cons_succ]
    refine wpAnyH_ready (rs := [6]) (by kernel_rfl) (by simp) ?_
    refine AllReadyH.cons (o := { dst := some 19, op := Go.Op.call { callee := Go.Callee.value (Go.Operand.func 15), args := #[Go.Operand.tmp 16, Go.Operand.tmp 17, Go.Operand.tmp 18], argTypes := #[25, 3, 29] }, type := 4, pos := "law.go:161", after := #[{ on := 3, ground := Go.Ground.data }, { on := 4, ground := Go.Ground.data }, { on := 5, ground := Go.Ground.data }, { on := 2, ground := Go.Ground.chain }], guard := none }) rfl (fun K hK => ?_) AllReadyH.nil
    go_simp
    (with_reducible refine (F2.out _ hHeld).mono ?_); rintro e w' ⟨rfl, hS⟩
    first | (refine hK.out _ _ ?_ (fun hHeld => ?_)) | (go_wp2_with fail; refine hK.out _ _ ?_ (fun hHeld => ?_))
    · (try dsimp only); (exact hS)
    clear hK K
    try simp only [Act.put, List.setIfInBounds_toArray, List.set_cons_zero, List.set_cons_succ]
    refine wpAnyH_take (i := 7) (oi := { dst := some 20, op := Go.Op.binOp Go.BinOp.eql 4 (Go.Operand.tmp 15) (Go.Operand.tmp 19) 4, type := 4, pos := "law.go:161", after := #[{ on := 2, ground := Go.Ground.data }, { on := 6, ground := Go.Ground.data }], guard := none }) (v := ?_) rfl (by kernel_rfl) (by kernel_rfl) (by kernel_rfl) (fun _ _ _ h => h) (Or.inl ⟨by rfl, ?_⟩) hHeld ?_
    rotate_left
    · intro w hSw; (try dsimp only at hSw); go_simp; try (with_reducible rfl)
    try simp only [Act.put, List.setIfInBounds_toArray, List.set_cons_zero, List.set_cons_succ]
    refine wpAnyH_take (i := 8) (oi := { dst := some 21, op := Go.Op.move (Go.Operand.tmp 20), type := 4, pos := "law.go:161", after := #[{ on := 7, ground := Go.Ground.data }, { on := 6, ground := Go.Ground.chain }], guard := none }) (v := ?_) rfl (by kernel_rfl) (by kernel_rfl) (by kernel_rfl) (fun _ _ _ h => h) (Or.inl ⟨by rfl, ?_⟩) hHeld ?_
    rotate_left
    · intro w hSw; (try dsimp only at hSw); go_simp; try (with_reducible rfl)
    try simp only [Act.put, List.setIfInBounds_toArray, List.set_cons_zero, List.set_cons_succ]
    refine wpAnyH_take (i := 9) (oi := { dst := some 22, op := Go.Op.load 25 (Go.Operand.tmp 3), type := 25, pos := "law.go:161", after := #[{ on := 8, ground := Go.Ground.guard }], guard := some (8, true) }) rfl (by kernel_rfl) (by kernel_rfl) (by kernel_rfl) (fun _ _ _ h => h) (yieldsIf_load_mid rfl 25 (.tmp 3) rfl (w.heap.size) 0 rfl [.slice cp im.code.length ccap, .slice ep im.ents.length ecap, .int .i64 im.sh, .int .i64 im.lk] _ (fun w hb => (hI2.below hb hlI).range) Tryd.underlying25 rfl infoImage) hHeld ?_
    try simp only [Act.put, List.setIfInBounds_toArray, List.set_cons_zero, List.set_cons_succ]
    refine wpAnyH_take (i := 10) (oi := { dst := some 23, op := Go.Op.move (Go.Operand.tmp 1), type := 3, pos := "law.go:161", after := #[{ on := 8, ground := Go.Ground.guard }], guard := some (8, true) }) (v := ?_) rfl (by kernel_rfl) (by kernel_rfl) (by kernel_rfl) (fun _ _ _ h => h) (Or.inl ⟨by rfl, ?_⟩) hHeld ?_
    rotate_left
    · intro w hSw; (try dsimp only at hSw); go_simp; try (with_reducible rfl)
    try simp only [Act.put, List.setIfInBounds_toArray, List.set_cons_zero, List.set_cons_succ]
    refine wpAnyH_ready (rs := [11]) (by kernel_rfl) (by simp) ?_
    refine AllReadyH.cons (o := { dst := some 24, op := Go.Op.call { callee := Go.Callee.value (Go.Operand.func 21), args := #[Go.Operand.tmp 22, Go.Operand.tmp 23, Go.Operand.const (Go.Value.pointer none)], argTypes := #[25, 3, 40] }, type := 4, pos := "law.go:161", after := #[{ on := 9, ground := Go.Ground.data }, { on := 10, ground := Go.Ground.data }, { on := 8, ground := Go.Ground.chain }, { on := 8, ground := Go.Ground.guard }], guard := some (8, true) }) rfl (fun K hK => ?_) AllReadyH.nil
    go_simp
    first | ((with_reducible refine (F3.out _ hHeld).mono ?_); rintro e w' ⟨rfl, hS⟩) | ((with_reducible refine (F1.out _ hHeld).mono ?_); rintro e w' ⟨rfl, hS⟩)
    first | (refine hK.out _ _ ?_ (fun hHeld => ?_)) | (go_wp2_with fail; refine hK.out _ _ ?_ (fun hHeld => ?_))
    · (try dsimp only); (exact hS)
    clear hK K
    try simp only [Act.put, List.setIfInBounds_toArray, List.set_cons_zero, List.set_cons_succ]
    refine wpAnyH_take (i := 12) (oi := { dst := some 25, op := Go.Op.unOp Go.UnOp.not 4 (Go.Operand.tmp 24), type := 4, pos := "law.go:161", after := #[{ on := 11, ground := Go.Ground.data }, { on := 8, ground := Go.Ground.guard }], guard := some (8, true) }) (v := ?_) rfl (by kernel_rfl) (by kernel_rfl) (by kernel_rfl) (fun _ _ _ h => h) (Or.inl ⟨by rfl, ?_⟩) hHeld ?_
    rotate_left
    · intro w hSw; (try dsimp only at hSw); go_simp; try (with_reducible rfl)
    try simp only [Act.put, List.setIfInBounds_toArray, List.set_cons_zero, List.set_cons_succ]
    refine wpAnyH_take (i := 13) (oi := { dst := some 26, op := Go.Op.pick (Go.Operand.tmp 21) (Go.Operand.tmp 25) (Go.Operand.const (Go.Value.bool false)), type := 4, pos := "law.go:161", after := #[{ on := 8, ground := Go.Ground.data }, { on := 12, ground := Go.Ground.data }], guard := none }) (v := ?_) rfl (by kernel_rfl) (by kernel_rfl) (by kernel_rfl) (fun _ _ _ h => h) (Or.inl ⟨by rfl, ?_⟩) hHeld ?_
    rotate_left
    · intro w hSw; (try dsimp only at hSw); go_simp; try (with_reducible rfl)
    try simp only [Act.put, List.setIfInBounds_toArray, List.set_cons_zero, List.set_cons_succ]
    refine wpAnyH_take (i := 14) (oi := { dst := some 6, op := Go.Op.assign (Go.Operand.tmp 26), type := 4, pos := "law.go:161", after := #[{ on := 13, ground := Go.Ground.data }, { on := 11, ground := Go.Ground.chain }, { on := 0, ground := Go.Ground.phase }, { on := 1, ground := Go.Ground.phase }, { on := 2, ground := Go.Ground.phase }, { on := 3, ground := Go.Ground.phase }, { on := 4, ground := Go.Ground.phase }, { on := 5, ground := Go.Ground.phase }, { on := 6, ground := Go.Ground.phase }, { on := 7, ground := Go.Ground.phase }, { on := 8, ground := Go.Ground.phase }, { on := 9, ground := Go.Ground.phase }, { on := 10, ground := Go.Ground.phase }, { on := 11, ground := Go.Ground.phase }, { on := 12, ground := Go.Ground.phase }, { on := 13, ground := Go.Ground.phase }], guard := none }) (v := ?_) rfl (by kernel_rfl) (by kernel_rfl) (by kernel_rfl) (fun _ _ _ h => h) (Or.inl ⟨by rfl, ?_⟩) hHeld ?_
    rotate_left
    · intro w hSw; (try dsimp only at hSw); go_simp; try (with_reducible rfl)
    try simp only [Act.put, List.setIfInBounds_toArray, List.set_cons_zero, List.set_cons_succ]
    refine wpAnyH_done (by kernel_rfl) ?_ _
    go_wp2_with fail
    go_ret
    exact ⟨by simp, bThen hHeld (by exact hB2.size) hB2⟩

end Go.Proofs.YtlmipchjmgnlfaaDoor
