/- Law LinkerRound, walked. -/
import Derived.Test.YtepldfnplfhncaaDoorLinU
import Derived.Test.YtepldfnplfhncaaDoorLinV
import Derived.Test.YtepldfnplfhncaaDoorLinW
import Derived.Test.YtepldfnplfhncaaDoorLinN
set_option linter.unusedVariables false
set_option linter.unusedSimpArgs false
namespace Go.Proofs.YtepldfnplfhncaaDoor
open Go.RowKit

set_option maxHeartbeats 3200000 in
set_option maxRecDepth 20000 in
theorem round_any (cv ev : Value) (im : LIm) (w : World) (hT : Tab w) (h : LImAt w cv ev im) :
    Calls Tryd.prog 4 #[.agg #[cv, ev, .int .i64 im.sh, .int .i64 im.lk]] w fun e w' => e = .returned (.bool true) ∧ Below w.heap.size w w' := by
  have hb0 : Below w.heap.size w (w.alloc (.cells #[cv, ev, .int .i64 im.sh, .int .i64 im.lk] 25)) := bAlloc (Nat.le_refl _) (Below.refl _ _)
  have hx0 : Box4 (w.alloc (.cells #[cv, ev, .int .i64 im.sh, .int .i64 im.lk] 25)) w.heap.size cv ev im.sh im.lk := ⟨by simp [go_sem], by simp [go_sem], by simp [go_sem], by simp [go_sem]⟩
  have HI0 := Lib.hid (h.below hb0 (Nat.le_refl _))
  have HT0 := Lib.hid (hT.of_below hb0)
  obtain ⟨cp, ccap, rfl, -⟩ := h.code
  obtain ⟨ep, ecap, rfl, -⟩ := h.ents
  have HW := Lib.hid h.words
  have HB0 := Lib.hid hb0
  have HX0 := Lib.hid hx0
  clear hb0 h hT hx0
  go_enter Tryd.func4, Tryd.ntmps4
  go_wp2_with fail
  refine (awake22 _ HT0.out).mono ?_
  rintro e w1 ⟨rfl, hb1⟩
  have HI1 := Lib.hid (HI0.out.below hb1 (Nat.le_refl _))
  have HT1 := Lib.hid (HT0.out.of_below hb1)
  have hx1 := HX0.out.below hb1 (by simp)
  have HB1 := Lib.hid (HB0.out.trans (hb1.mono (by simp)))
  have hz : w.heap.size < w1.heap.size := by have := hb1.size; simp at this; omega
  have b0 := hx1.c
  have b1 := hx1.e
  have b2 := hx1.s
  have b3 := hx1.l
  clear HI0 HT0 HB0 HX0 hb1 hx1
  by_cases s1 : im.code.length ≤ 5000
  · have s1I : (im.code.length : Int) ≤ 5000 := by omega
    by_cases s2 : im.ents.length ≤ 20
    · have s2I : (im.ents.length : Int) ≤ 20 := by omega
      have HE := Lib.hid (enc_any _ _ im w1 HT1.out HI1.out)
      go_wp2_with fail
      refine HE.out.mono ?_
      rintro e w2 ⟨h1, h2, hb2⟩
      have HB2 := Lib.hid (HB1.out.trans (hb2.mono HB1.out.size))
      have HT2 := Lib.hid (HT1.out.of_below hb2)
      have HI2 := Lib.hid (HI1.out.below hb2 (Nat.le_refl _))
      have hz2 : w.heap.size < w2.heap.size := Nat.lt_of_lt_of_le hz hb2.size
      rw [← hb2.cell (p := ⟨w.heap.size, 0, none⟩) hz] at b0
      rw [← hb2.cell (p := ⟨w.heap.size, 1, none⟩) hz] at b1
      rw [← hb2.cell (p := ⟨w.heap.size, 2, none⟩) hz] at b2
      rw [← hb2.cell (p := ⟨w.heap.size, 3, none⟩) hz] at b3
      have HCK := Lib.hid (check_any _ _ im w2 HT2.out HI2.out)
      clear HE HI1 HT1 HB1 hb2 hz
      by_cases hc : chk im = 0
      · obtain ⟨v, rfl, hrow⟩ := h1 hc
        have hwi : WordsIn im := fun x hx => by
          obtain ⟨k, hk, rfl⟩ := List.mem_iff_getElem.1 hx
          have := HW.out k hk
          rwa [List.getD_eq_getElem?_getD, List.getElem?_eq_getElem hk] at this
        have hlt := toImg_lt im
        have hlen : (imgB (toImg im)).length ≤ 100000 := by rw [← partC_all]; exact partC_len (chk_good hc) _
        have hdr := dec_round hc hwi
        have HG := Lib.hid (chk_good hc)
        rw [hc] at HCK
        have HL := Lib.hid (show imgB (toImg im) = imgB (toImg im) from rfl)
        generalize hl : imgB (toImg im) = l at hrow hlt hlen hdr
        have HLE := Lib.hid hl
        clear h1 h2 hc hwi HL hl
        have HLT := Lib.hid hlt
        have HDR := Lib.hid hdr
        have HR := Lib.hid (BtAt.of_own hrow)
        have HV := Lib.hid (fun k (hk : v.ownBlock = some k) => own0_lt hrow hk)
        obtain ⟨pv, cap, hvs⟩ := HR.out.shape
        subst hvs
        clear hrow hlt hdr
        go_wp2_with fail
        refine HCK.out.mono ?_
        rintro e w3 ⟨rfl, hb3⟩
        have HB3 := Lib.hid (HB2.out.trans (hb3.mono HB2.out.size))
        have HT3 := Lib.hid (HT2.out.of_below hb3)
        have HI3 := Lib.hid (HI2.out.below hb3 (Nat.le_refl _))
        have HR3 := Lib.hid (HR.out.below hb3 (Nat.le_refl _))
        have hz3 : w.heap.size < w3.heap.size := Nat.lt_of_lt_of_le hz2 hb3.size
        have c0 := (hb3.cell (p := ⟨w.heap.size, 0, none⟩) hz2).trans b0
        have c1 := (hb3.cell (p := ⟨w.heap.size, 1, none⟩) hz2).trans b1
        have c2 := (hb3.cell (p := ⟨w.heap.size, 2, none⟩) hz2).trans b2
        have c3 := (hb3.cell (p := ⟨w.heap.size, 3, none⟩) hz2).trans b3
        have HD := Lib.hid (dec_any22 (.slice pv l.length cap) l w3 HT3.out HR3.out (fun k hk => Nat.lt_of_lt_of_le (HV.out k hk) hb3.size) HLT.out (by omega))
        clear HCK b0 b1 b2 b3 hz2 hb3 HB2 HT2 HI2 HR HV
        go_wp2_with fail
        refine HD.out.mono ?_
        rintro e w4 ⟨cv4, ev4, rfl, him, hb4⟩
        rw [HDR.out] at him ⊢
        have HB4 := Lib.hid (HB3.out.trans (hb4.mono HB3.out.size))
        have HI4 := Lib.hid (HI3.out.below hb4 (Nat.le_refl _))
        have HR4 := Lib.hid (HR3.out.below hb4 (Nat.le_refl _))
        have HX4 := Lib.hid him
        have hz4 : w.heap.size < w4.heap.size := Nat.lt_of_lt_of_le hz3 hb4.size
        have d0 := (hb4.cell (p := ⟨w.heap.size, 0, none⟩) hz3).trans c0
        have d1 := (hb4.cell (p := ⟨w.heap.size, 1, none⟩) hz3).trans c1
        have d2 := (hb4.cell (p := ⟨w.heap.size, 2, none⟩) hz3).trans c2
        have d3 := (hb4.cell (p := ⟨w.heap.size, 3, none⟩) hz3).trans c3
        obtain ⟨pc, cc, rfl, -⟩ := him.code
        obtain ⟨pe, ce, rfl, -⟩ := him.ents
        have HDR2 := HDR
        clear him hb4 HD c0 c1 c2 c3 hz3 HB3 HT3 HI3 HR3 HDR2
        go_upto_region 10 with fail
        have hb5 : Below w4.heap.size w4 (w4.alloc (.cells #[.slice pc im.code.length cc, .slice pe im.ents.length ce, .int .i64 im.sh, .int .i64 im.lk] 25)) := bAlloc (Nat.le_refl _) (Below.refl _ _)
        have HB5 := Lib.hid (HB4.out.trans (hb5.mono HB4.out.size))
        have HI5 := Lib.hid (HI4.out.below hb5 (Nat.le_refl _))
        have HR5 := Lib.hid (HR4.out.below hb5 (Nat.le_refl _))
        have HX5 := Lib.hid (HX4.out.below hb5 (Nat.le_refl _))
        have rX := RowC.made w4 [.slice pc im.code.length cc, .slice pe im.ents.length ce, .int .i64 im.sh, .int .i64 im.lk] 25
        have HRX : Hid (RowC (w4.alloc (.cells #[.slice pc im.code.length cc, .slice pe im.ents.length ce, .int .i64 im.sh, .int .i64 im.lk] 25)) w4.heap.size [.slice pc im.code.length cc, .slice pe im.ents.length ce, .int .i64 im.sh, .int .i64 im.lk]) := rX
        have HZ5 : Hid (w.heap.size < (w4.alloc (.cells #[.slice pc im.code.length cc, .slice pe im.ents.length ce, .int .i64 im.sh, .int .i64 im.lk] 25)).heap.size) := (show _ < _ from Nat.lt_of_lt_of_le hz4 hb5.size)
        rw [← hb5.cell (p := ⟨w.heap.size, 0, none⟩) hz4] at d0
        rw [← hb5.cell (p := ⟨w.heap.size, 1, none⟩) hz4] at d1
        rw [← hb5.cell (p := ⟨w.heap.size, 2, none⟩) hz4] at d2
        rw [← hb5.cell (p := ⟨w.heap.size, 3, none⟩) hz4] at d3
        clear rX hb5 HI4 HR4 HX4 HB4
        generalize w4.alloc (.cells #[.slice pc im.code.length cc, .slice pe im.ents.length ce, .int .i64 im.sh, .int .i64 im.lk] 25) = w5 at HB5 HI5 HR5 HX5 HRX HZ5 d0 d1 d2 d3 ⊢
        have hz5 := HZ5.out
        have mk : ∀ W : World, Below w5.heap.size w5 W → Below w5.heap.size w5 W ∧ W.cell? ⟨w.heap.size, 0, none⟩ = some (.slice cp im.code.length ccap) ∧ W.cell? ⟨w.heap.size, 1, none⟩ = some (.slice ep im.ents.length ecap) ∧ W.cell? ⟨w.heap.size, 2, none⟩ = some (.int .i64 im.sh) ∧ W.cell? ⟨w.heap.size, 3, none⟩ = some (.int .i64 im.lk) ∧ W.cell? ⟨w4.heap.size, 0, none⟩ = some (.slice pc im.code.length cc) ∧ W.cell? ⟨w4.heap.size, 1, none⟩ = some (.slice pe im.ents.length ce) ∧ W.cell? ⟨w4.heap.size, 2, none⟩ = some (.int .i64 im.sh) ∧ W.cell? ⟨w4.heap.size, 3, none⟩ = some (.int .i64 im.lk) ∧ (convert 31 9 (.slice pv l.length cap)).run Tryd.prog W = .ok (.string (strN l)) W := fun W hb => ⟨hb, (hb.cell (p := ⟨w.heap.size, 0, none⟩) hz5).trans d0, (hb.cell (p := ⟨w.heap.size, 1, none⟩) hz5).trans d1, (hb.cell (p := ⟨w.heap.size, 2, none⟩) hz5).trans d2, (hb.cell (p := ⟨w.heap.size, 3, none⟩) hz5).trans d3, (HRX.out.below hb HRX.out.lt).at 0 rfl, (HRX.out.below hb HRX.out.lt).at 1 rfl, (HRX.out.below hb HRX.out.lt).at 2 rfl, (HRX.out.below hb HRX.out.lt).at 3 rfl, (HR5.out.below hb (Nat.le_refl _)).text⟩
        have R0 := Lib.hid (show ∀ W : World, Below w5.heap.size w5 W → Calls Tryd.prog 13 #[.agg #[.slice pc im.code.length cc, .slice pe im.ents.length ce, .int .i64 im.sh, .int .i64 im.lk], .agg #[.slice cp im.code.length ccap, .slice ep im.ents.length ecap, .int .i64 im.sh, .int .i64 im.lk]] W fun e w' => e = .returned (.bool true) ∧ Below w5.heap.size w5 w' ∧ w'.cell? ⟨w.heap.size, 0, none⟩ = some (.slice cp im.code.length ccap) ∧ w'.cell? ⟨w.heap.size, 1, none⟩ = some (.slice ep im.ents.length ecap) ∧ w'.cell? ⟨w.heap.size, 2, none⟩ = some (.int .i64 im.sh) ∧ w'.cell? ⟨w.heap.size, 3, none⟩ = some (.int .i64 im.lk) ∧ w'.cell? ⟨w4.heap.size, 0, none⟩ = some (.slice pc im.code.length cc) ∧ w'.cell? ⟨w4.heap.size, 1, none⟩ = some (.slice pe im.ents.length ce) ∧ w'.cell? ⟨w4.heap.size, 2, none⟩ = some (.int .i64 im.sh) ∧ w'.cell? ⟨w4.heap.size, 3, none⟩ = some (.int .i64 im.lk) ∧ (convert 31 9 (.slice pv l.length cap)).run Tryd.prog w' = .ok (.string (strN l)) w' from fun W hb => (same_eq _ _ _ _ im W (HX5.out.below hb (Nat.le_refl _)) (HI5.out.below hb (Nat.le_refl _)) (by omega) (by omega)).mono fun e w' ⟨h1, h2⟩ => ⟨h1, mk w' (hb.trans (h2.mono hb.size))⟩)
        have R1 := Lib.hid (show ∀ W : World, Below w5.heap.size w5 W → Calls Tryd.prog 14 #[.agg #[.slice cp im.code.length ccap, .slice ep im.ents.length ecap, .int .i64 im.sh, .int .i64 im.lk]] W fun e w' => (∃ p6 c6, e = .returned (.slice p6 l.length c6) ∧ (convert 31 9 (.slice p6 l.length c6)).run Tryd.prog w' = .ok (.string (strN l)) w') ∧ Below w5.heap.size w5 w' ∧ w'.cell? ⟨w.heap.size, 0, none⟩ = some (.slice cp im.code.length ccap) ∧ w'.cell? ⟨w.heap.size, 1, none⟩ = some (.slice ep im.ents.length ecap) ∧ w'.cell? ⟨w.heap.size, 2, none⟩ = some (.int .i64 im.sh) ∧ w'.cell? ⟨w.heap.size, 3, none⟩ = some (.int .i64 im.lk) ∧ w'.cell? ⟨w4.heap.size, 0, none⟩ = some (.slice pc im.code.length cc) ∧ w'.cell? ⟨w4.heap.size, 1, none⟩ = some (.slice pe im.ents.length ce) ∧ w'.cell? ⟨w4.heap.size, 2, none⟩ = some (.int .i64 im.sh) ∧ w'.cell? ⟨w4.heap.size, 3, none⟩ = some (.int .i64 im.lk) ∧ (convert 31 9 (.slice pv l.length cap)).run Tryd.prog w' = .ok (.string (strN l)) w' from fun W hb => (renc_any _ _ im W (HI5.out.below hb (Nat.le_refl _)) HG.out).mono fun e w' ⟨p6, c6, h1, h2, h3⟩ => by
          rw [HLE.out] at h1 h2
          exact ⟨⟨p6, c6, h1, (BtAt.of_own h2).text⟩, mk w' (hb.trans (h3.mono hb.size))⟩)
        have hs0 := mk w5.drew (Below.refl _ _).drew
        have HMK := Lib.hid mk
        clear mk d0 d1 d2 d3 hz4
        refine wp_region_held_drew (S := fun w' => Below w5.heap.size w5 w' ∧ w'.cell? ⟨w.heap.size, 0, none⟩ = some (.slice cp im.code.length ccap) ∧ w'.cell? ⟨w.heap.size, 1, none⟩ = some (.slice ep im.ents.length ecap) ∧ w'.cell? ⟨w.heap.size, 2, none⟩ = some (.int .i64 im.sh) ∧ w'.cell? ⟨w.heap.size, 3, none⟩ = some (.int .i64 im.lk) ∧ w'.cell? ⟨w4.heap.size, 0, none⟩ = some (.slice pc im.code.length cc) ∧ w'.cell? ⟨w4.heap.size, 1, none⟩ = some (.slice pe im.ents.length ce) ∧ w'.cell? ⟨w4.heap.size, 2, none⟩ = some (.int .i64 im.sh) ∧ w'.cell? ⟨w4.heap.size, 3, none⟩ = some (.int .i64 im.lk) ∧ (convert 31 9 (.slice pv l.length cap)).run Tryd.prog w' = .ok (.string (strN l)) w') (by kernel_rfl) hs0 (fun hHeld => ?_)
        refine wpAnyH_take (i := 0) (oi := { dst := some 42, op := Go.Op.move (Go.Operand.tmp 4), type := 27, pos := "law.go:162", after := #[], guard := none }) (v := ?_) rfl (by kernel_rfl) (by kernel_rfl) (by kernel_rfl) (fun _ _ _ h => h) (Or.inl ⟨by rfl, ?_⟩) hHeld ?_
        rotate_left
        · intro w hSw; (try dsimp only at hSw); go_simp; try (with_reducible rfl)
        try simp only [Act.put, List.setIfInBounds_toArray, List.set_cons_zero, List.set_cons_succ]
        refine wpAnyH_take (i := 1) (oi := { dst := some 43, op := Go.Op.binOp Go.BinOp.eql 27 (Go.Operand.tmp 42) (Go.Operand.const (Go.Value.int Go.IntKind.i64 0)) 27, type := 4, pos := "law.go:162", after := #[{ on := 0, ground := Go.Ground.data }], guard := none }) (v := ?_) rfl (by kernel_rfl) (by kernel_rfl) (by kernel_rfl) (fun _ _ _ h => h) (Or.inl ⟨by rfl, ?_⟩) hHeld ?_
        rotate_left
        · intro w hSw; (try dsimp only at hSw); go_simp; try (with_reducible rfl)
        try simp only [Act.put, List.setIfInBounds_toArray, List.set_cons_zero, List.set_cons_succ]
        refine wpAnyH_take (i := 2) (oi := { dst := some 44, op := Go.Op.move (Go.Operand.tmp 43), type := 4, pos := "law.go:162", after := #[{ on := 1, ground := Go.Ground.data }], guard := none }) (v := ?_) rfl (by kernel_rfl) (by kernel_rfl) (by kernel_rfl) (fun _ _ _ h => h) (Or.inl ⟨by rfl, ?_⟩) hHeld ?_
        rotate_left
        · intro w hSw; (try dsimp only at hSw); go_simp; try (with_reducible rfl)
        try simp only [Act.put, List.setIfInBounds_toArray, List.set_cons_zero, List.set_cons_succ]
        refine wpAnyH_take (i := 3) (oi := { dst := some 45, op := Go.Op.move (Go.Operand.tmp 7), type := 27, pos := "law.go:162", after := #[{ on := 2, ground := Go.Ground.guard }], guard := some (2, true) }) (v := ?_) rfl (by kernel_rfl) (by kernel_rfl) (by kernel_rfl) (fun _ _ _ h => h) (Or.inl ⟨by rfl, ?_⟩) hHeld ?_
        rotate_left
        · intro w hSw; (try dsimp only at hSw); go_simp; try (with_reducible rfl)
        try simp only [Act.put, List.setIfInBounds_toArray, List.set_cons_zero, List.set_cons_succ]
        refine wpAnyH_take (i := 4) (oi := { dst := some 46, op := Go.Op.binOp Go.BinOp.eql 27 (Go.Operand.tmp 45) (Go.Operand.const (Go.Value.int Go.IntKind.i64 0)) 27, type := 4, pos := "law.go:162", after := #[{ on := 3, ground := Go.Ground.data }, { on := 2, ground := Go.Ground.guard }], guard := some (2, true) }) (v := ?_) rfl (by kernel_rfl) (by kernel_rfl) (by kernel_rfl) (fun _ _ _ h => h) (Or.inl ⟨by rfl, ?_⟩) hHeld ?_
        rotate_left
        · intro w hSw; (try dsimp only at hSw); go_simp; try (with_reducible rfl)
        try simp only [Act.put, List.setIfInBounds_toArray, List.set_cons_zero, List.set_cons_succ]
        refine wpAnyH_take (i := 5) (oi := { dst := some 47, op := Go.Op.pick (Go.Operand.tmp 44) (Go.Operand.tmp 46) (Go.Operand.const (Go.Value.bool false)), type := 4, pos := "law.go:162", after := #[{ on := 2, ground := Go.Ground.data }, { on := 4, ground := Go.Ground.data }], guard := none }) (v := ?_) rfl (by kernel_rfl) (by kernel_rfl) (by kernel_rfl) (fun _ _ _ h => h) (Or.inl ⟨by rfl, ?_⟩) hHeld ?_
        rotate_left
        · intro w hSw; (try dsimp only at hSw); go_simp; try (with_reducible rfl)
        try simp only [Act.put, List.setIfInBounds_toArray, List.set_cons_zero, List.set_cons_succ]
        refine wpAnyH_take (i := 6) (oi := { dst := some 48, op := Go.Op.move (Go.Operand.tmp 47), type := 4, pos := "law.go:162", after := #[{ on := 5, ground := Go.Ground.data }, { on := 2, ground := Go.Ground.chain }], guard := none }) (v := ?_) rfl (by kernel_rfl) (by kernel_rfl) (by kernel_rfl) (fun _ _ _ h => h) (Or.inl ⟨by rfl, ?_⟩) hHeld ?_
        rotate_left
        · intro w hSw; (try dsimp only at hSw); go_simp; try (with_reducible rfl)
        try simp only [Act.put, List.setIfInBounds_toArray, List.set_cons_zero, List.set_cons_succ]
        refine wpAnyH_take (i := 7) (oi := { dst := some 49, op := Go.Op.load 25 (Go.Operand.tmp 6), type := 25, pos := "law.go:162", after := #[{ on := 6, ground := Go.Ground.guard }], guard := some (6, true) }) (v := ?_) rfl (by kernel_rfl) (by kernel_rfl) (by kernel_rfl) (fun _ _ _ h => h) (Or.inl ⟨by rfl, ?_⟩) hHeld ?_
        rotate_left
        · intro w hSw; (try dsimp only at hSw); go_simp; try (with_reducible rfl)
        try simp only [Act.put, List.setIfInBounds_toArray, List.set_cons_zero, List.set_cons_succ]
        refine wpAnyH_take (i := 8) (oi := { dst := some 50, op := Go.Op.load 25 (Go.Operand.tmp 1), type := 25, pos := "law.go:162", after := #[{ on := 6, ground := Go.Ground.guard }], guard := some (6, true) }) (v := ?_) rfl (by kernel_rfl) (by kernel_rfl) (by kernel_rfl) (fun _ _ _ h => h) (Or.inl ⟨by rfl, ?_⟩) hHeld ?_
        rotate_left
        · intro w hSw; (try dsimp only at hSw); go_simp; try (with_reducible rfl)
        try simp only [Act.put, List.setIfInBounds_toArray, List.set_cons_zero, List.set_cons_succ]
        refine wpAnyH_ready (rs := [9]) (by kernel_rfl) (by simp) ?_
        refine AllReadyH.cons (o := { dst := some 51, op := Go.Op.call { callee := Go.Callee.value (Go.Operand.func 13), args := #[Go.Operand.tmp 49, Go.Operand.tmp 50], argTypes := #[25, 25] }, type := 4, pos := "law.go:162", after := #[{ on := 7, ground := Go.Ground.data }, { on := 8, ground := Go.Ground.data }, { on := 6, ground := Go.Ground.chain }, { on := 6, ground := Go.Ground.guard }], guard := some (6, true) }) rfl (fun K hK => ?_) AllReadyH.nil
        go_simp
        ((with_reducible refine (R0.out _ ?_).mono ?_); (simp [*]); rintro e w' ⟨rfl, hS⟩)
        first | (refine hK.out _ _ ?_ (fun hHeld => ?_)) | (go_wp2_with fail; refine hK.out _ _ ?_ (fun hHeld => ?_))
        · (try dsimp only); (first | assumption | (simp [*]; done))
        clear hK K
        try simp only [Act.put, List.setIfInBounds_toArray, List.set_cons_zero, List.set_cons_succ]
        refine wpAnyH_take (i := 10) (oi := { dst := some 52, op := Go.Op.pick (Go.Operand.tmp 48) (Go.Operand.tmp 51) (Go.Operand.const (Go.Value.bool false)), type := 4, pos := "law.go:162", after := #[{ on := 6, ground := Go.Ground.data }, { on := 9, ground := Go.Ground.data }], guard := none }) (v := ?_) rfl (by kernel_rfl) (by kernel_rfl) (by kernel_rfl) (fun _ _ _ h => h) (Or.inl ⟨by rfl, ?_⟩) hHeld ?_
        rotate_left
        · intro w hSw; (try dsimp only at hSw); go_simp; try (with_reducible rfl)
        try simp only [Act.put, List.setIfInBounds_toArray, List.set_cons_zero, List.set_cons_succ]
        refine wpAnyH_take (i := 11) (oi := { dst := some 53, op := Go.Op.move (Go.Operand.tmp 52), type := 4, pos := "law.go:162", after := #[{ on := 10, ground := Go.Ground.data }, { on := 9, ground := Go.Ground.chain }], guard := none }) (v := ?_) rfl (by kernel_rfl) (by kernel_rfl) (by kernel_rfl) (fun _ _ _ h => h) (Or.inl ⟨by rfl, ?_⟩) hHeld ?_
        rotate_left
        · intro w hSw; (try dsimp only at hSw); go_simp; try (with_reducible rfl)
        try simp only [Act.put, List.setIfInBounds_toArray, List.set_cons_zero, List.set_cons_succ]
        refine wpAnyH_take (i := 12) (oi := { dst := some 54, op := Go.Op.move (Go.Operand.tmp 3), type := 31, pos := "law.go:162", after := #[{ on := 11, ground := Go.Ground.guard }], guard := some (11, true) }) (v := ?_) rfl (by kernel_rfl) (by kernel_rfl) (by kernel_rfl) (fun _ _ _ h => h) (Or.inl ⟨by rfl, ?_⟩) hHeld ?_
        rotate_left
        · intro w hSw; (try dsimp only at hSw); go_simp; try (with_reducible rfl)
        try simp only [Act.put, List.setIfInBounds_toArray, List.set_cons_zero, List.set_cons_succ]
        refine wpAnyH_take (i := 13) (oi := { dst := some 55, op := Go.Op.convert 31 9 (Go.Operand.tmp 54), type := 9, pos := "law.go:162", after := #[{ on := 12, ground := Go.Ground.data }, { on := 11, ground := Go.Ground.guard }], guard := some (11, true) }) (v := ?_) rfl (by kernel_rfl) (by kernel_rfl) (by kernel_rfl) (fun _ _ _ h => h) (Or.inl ⟨by rfl, ?_⟩) hHeld ?_
        rotate_left
        · intro w hSw; (try dsimp only at hSw); go_simp; try (with_reducible rfl)
        try simp only [Act.put, List.setIfInBounds_toArray, List.set_cons_zero, List.set_cons_succ]
        refine wpAnyH_take (i := 14) (oi := { dst := some 56, op := Go.Op.load 25 (Go.Operand.tmp 1), type := 25, pos := "law.go:162", after := #[{ on := 11, ground := Go.Ground.guard }], guard := some (11, true) }) (v := ?_) rfl (by kernel_rfl) (by kernel_rfl) (by kernel_rfl) (fun _ _ _ h => h) (Or.inl ⟨by rfl, ?_⟩) hHeld ?_
        rotate_left
        · intro w hSw; (try dsimp only at hSw); go_simp; try (with_reducible rfl)
        try simp only [Act.put, List.setIfInBounds_toArray, List.set_cons_zero, List.set_cons_succ]
        refine wpAnyH_ready (rs := [15]) (by kernel_rfl) (by simp) ?_
        refine AllReadyH.cons (o := { dst := some 57, op := Go.Op.call { callee := Go.Callee.value (Go.Operand.func 14), args := #[Go.Operand.tmp 56], argTypes := #[25] }, type := 31, pos := "law.go:162", after := #[{ on := 14, ground := Go.Ground.data }, { on := 11, ground := Go.Ground.chain }, { on := 11, ground := Go.Ground.guard }], guard := some (11, true) }) rfl (fun K hK => ?_) AllReadyH.nil
        go_simp
        ((with_reducible refine (R1.out _ ?_).mono ?_); (simp [*]); rintro e w' ⟨⟨p6, c6, rfl, hconv⟩, hS⟩)
        first | (refine hK.out _ _ ?_ (fun hHeld => ?_)) | (go_wp2_with fail; refine hK.out _ _ ?_ (fun hHeld => ?_))
        · (try dsimp only); (first | assumption | (simp [*]; done))
        clear hK K
        try simp only [Act.put, List.setIfInBounds_toArray, List.set_cons_zero, List.set_cons_succ]
        refine wpAnyH_ready (rs := [16]) (by kernel_rfl) (by simp) ?_
        refine AllReadyH.cons (o := { dst := some 58, op := Go.Op.convert 31 9 (Go.Operand.tmp 57), type := 9, pos := "law.go:162", after := #[{ on := 15, ground := Go.Ground.data }, { on := 11, ground := Go.Ground.guard }], guard := some (11, true) }) rfl (fun K hK => ?_) AllReadyH.nil
        go_simp
        first | (refine hK.out _ _ ?_ (fun hHeld => ?_)) | (go_wp2_with fail; refine hK.out _ _ ?_ (fun hHeld => ?_))
        · (try dsimp only); (first | assumption | (simp [*]; done))
        clear hK K
        try simp only [Act.put, List.setIfInBounds_toArray, List.set_cons_zero, List.set_cons_succ]
        refine wpAnyH_take (i := 17) (oi := { dst := some 59, op := Go.Op.binOp Go.BinOp.eql 9 (Go.Operand.tmp 55) (Go.Operand.tmp 58) 9, type := 4, pos := "law.go:162", after := #[{ on := 13, ground := Go.Ground.data }, { on := 16, ground := Go.Ground.data }, { on := 11, ground := Go.Ground.guard }], guard := some (11, true) }) (v := ?_) rfl (by kernel_rfl) (by kernel_rfl) (by kernel_rfl) (fun _ _ _ h => h) (Or.inl ⟨by rfl, ?_⟩) hHeld ?_
        rotate_left
        · intro w hSw; (try dsimp only at hSw); go_simp; try (with_reducible rfl)
        try simp only [Act.put, List.setIfInBounds_toArray, List.set_cons_zero, List.set_cons_succ]
        refine wpAnyH_take (i := 18) (oi := { dst := some 60, op := Go.Op.pick (Go.Operand.tmp 53) (Go.Operand.tmp 59) (Go.Operand.const (Go.Value.bool false)), type := 4, pos := "law.go:162", after := #[{ on := 11, ground := Go.Ground.data }, { on := 17, ground := Go.Ground.data }], guard := none }) (v := ?_) rfl (by kernel_rfl) (by kernel_rfl) (by kernel_rfl) (fun _ _ _ h => h) (Or.inl ⟨by rfl, ?_⟩) hHeld ?_
        rotate_left
        · intro w hSw; (try dsimp only at hSw); go_simp; try (with_reducible rfl)
        try simp only [Act.put, List.setIfInBounds_toArray, List.set_cons_zero, List.set_cons_succ]
        refine wpAnyH_take (i := 19) (oi := { dst := some 2, op := Go.Op.assign (Go.Operand.tmp 60), type := 4, pos := "law.go:162", after := #[{ on := 18, ground := Go.Ground.data }, { on := 15, ground := Go.Ground.chain }, { on := 0, ground := Go.Ground.phase }, { on := 1, ground := Go.Ground.phase }, { on := 2, ground := Go.Ground.phase }, { on := 3, ground := Go.Ground.phase }, { on := 4, ground := Go.Ground.phase }, { on := 5, ground := Go.Ground.phase }, { on := 6, ground := Go.Ground.phase }, { on := 7, ground := Go.Ground.phase }, { on := 8, ground := Go.Ground.phase }, { on := 9, ground := Go.Ground.phase }, { on := 10, ground := Go.Ground.phase }, { on := 11, ground := Go.Ground.phase }, { on := 12, ground := Go.Ground.phase }, { on := 13, ground := Go.Ground.phase }, { on := 14, ground := Go.Ground.phase }, { on := 15, ground := Go.Ground.phase }, { on := 16, ground := Go.Ground.phase }, { on := 17, ground := Go.Ground.phase }, { on := 18, ground := Go.Ground.phase }], guard := none }) (v := ?_) rfl (by kernel_rfl) (by kernel_rfl) (by kernel_rfl) (fun _ _ _ h => h) (Or.inl ⟨by rfl, ?_⟩) hHeld ?_
        rotate_left
        · intro w hSw; (try dsimp only at hSw); go_simp; try (with_reducible rfl)
        try simp only [Act.put, List.setIfInBounds_toArray, List.set_cons_zero, List.set_cons_succ]
        refine wpAnyH_done (by kernel_rfl) ?_ _
        go_wp2_with fail
        go_ret
        refine ⟨by simp, ?_⟩
        first | exact bThen (W := w5) (by assumption) (by omega) HB5.out | (go_split_ands; exact bThen (W := w5) (by assumption) (by omega) HB5.out)
      · have hr := h2 hc
        subst hr
        have hne : (chk im != 0) = true := by simpa using hc
        have hz0 : ¬ chk im = 0 := hc
        generalize chk im = z at HCK hne hz0
        clear h1 h2 hc
        go_wp2_with fail
        refine HCK.out.mono ?_
        rintro e w3 ⟨rfl, hb3⟩
        have HB3 := Lib.hid (HB2.out.trans (hb3.mono HB2.out.size))
        clear hb3 b0 b1 b2 b3
        go_wp2_with fail
        go_ret
        exact ⟨by simp, HB3.out⟩
    · have s2I : (im.ents.length : Int) > 20 := by omega
      go_wp2_with fail
      all_goals first | (exfalso; omega) | skip
      go_ret
      exact ⟨rfl, HB1.out⟩
  · have s1I : (im.code.length : Int) > 5000 := by omega
    go_wp2_with fail
    all_goals first | (exfalso; omega) | skip
    go_ret
    exact ⟨rfl, HB1.out⟩
end Go.Proofs.YtepldfnplfhncaaDoor
