/- The reference's Check, by its contract. -/
import Derived.Test.YtepldfnplfhncaaDoorLinD
set_option linter.unusedVariables false
set_option linter.unusedSimpArgs false
namespace Go.Proofs.YtepldfnplfhncaaDoor
open Go.RowKit
theorem at_wrap (a : Nat) (i : Int) (ha : a < 4096) (h1 : -131072 ≤ i) (h2 : i ≤ 262143) : wrap64 ((a : Int) + 1) = (a : Int) + 1 ∧ wrap64 ((a : Int) + 1 + i) = (a : Int) + 1 + i := by unfold wrap64; omega
theorem fin_wrap (f : Nat) (hf : f ≤ 4096) : wrap64 ((f : Int) - 1) = (f : Int) - 1 := by unfold wrap64; omega
theorem out_yes (a i s f : Int) (h : a + 1 + i < s ∨ f ≤ a + 1 + i) : decide (a + 1 + i < s ∨ f - 1 < a + 1 + i) = true := by simp; omega
theorem out_no (a i s f : Int) (h : ¬ (a + 1 + i < s ∨ f ≤ a + 1 + i)) : decide (a + 1 + i < s ∨ f - 1 < a + 1 + i) = false := by simp; omega
theorem br_no (n : Nat) (h : n = 22 ∨ n = 23 ∨ n = 24) (k : n = 28 ∨ n = 29) : False := by omega
theorem int_succ (a : Nat) (h : a < 4096) : Value.int .i64 ((a : Int) + 1) = .int .i64 ((a + 1 : Nat) : Int) := rfl
theorem msr_succ (f a : Nat) (h : a < f) (h4 : a < 4096) : f - (intOf (.int .i64 ((a : Int) + 1))).toNat < f - (intOf (.int .i64 (a : Int))).toNat := by simp [intOf]; omega
theorem op_no (n k : Nat) (h : n ≠ k) : ((n : Int) == (k : Int)) = false := by simp; omega
theorem wrap64_in (x : Int) (h : -9223372036854775808 ≤ x ∧ x ≤ 9223372036854775807) : wrap64 x = x := by unfold wrap64; omega

set_option maxHeartbeats 6400000 in
set_option maxRecDepth 20000 in
theorem rcheck_any (cv ev : Value) (im : LIm) (w : World) (hT : Tab w) (h : LImAt w cv ev im) :
    Calls Tryd.prog 10 #[.agg #[cv, ev, .int .i64 im.sh, .int .i64 im.lk]] w fun e w' => e = .returned (.int .i64 (chk im)) ∧ Below w.heap.size w w' := by
  have hb0 : Below w.heap.size w (w.alloc (.cells #[cv, ev, .int .i64 im.sh, .int .i64 im.lk] 25)) := bAlloc (Nat.le_refl _) (Below.refl _ _)
  have hx0 : Box4 (w.alloc (.cells #[cv, ev, .int .i64 im.sh, .int .i64 im.lk] 25)) w.heap.size cv ev im.sh im.lk := ⟨by simp [go_sem], by simp [go_sem], by simp [go_sem], by simp [go_sem]⟩
  have HI0 := Lib.hid (h.below hb0 (Nat.le_refl _))
  have HT0 := Lib.hid (hT.of_below hb0)
  have hz0 : (w.alloc (.cells #[cv, ev, .int .i64 im.sh, .int .i64 im.lk] 25)).heap.size = w.heap.size + 1 := by simp
  obtain ⟨cp, ccap, rfl, -⟩ := h.code
  obtain ⟨ep, ecap, rfl, -⟩ := h.ents
  have HB0 := Lib.hid hb0
  have HX0 := Lib.hid hx0
  have HZ0 := Lib.hid hz0
  clear hb0 hz0 h hT hx0
  by_cases hs : sized im
  · have HS := Lib.hid hs
    obtain ⟨s1, s2, s3, s4⟩ := hs
    have s1I : (im.code.length : Int) ≤ 4096 := by omega
    have s2I : (im.ents.length : Int) ≤ 8 := by omega
    go_enter Tryd.func10, Tryd.ntmps10
    go_wp2_with fail
    refine (outside_any _ _ _ _).mono ?_
    rintro e w' ⟨rfl, rfl⟩
    rw [decide_eq_false (show ¬ (im.sh < 0 ∨ 64 < im.sh) by omega)]
    go_wp2_with fail
    refine (outside_any _ _ _ _).mono ?_
    rintro e w' ⟨rfl, rfl⟩
    rw [decide_eq_false (show ¬ (im.lk < 0 ∨ 4 < im.lk) by omega)]
    go_wp2_with fail
    generalize w.alloc (.cells #[.slice cp im.code.length ccap, .slice ep im.ents.length ecap, .int .i64 im.sh, .int .i64 im.lk] 25) = w0 at HI0 HT0 HB0 HX0 HZ0 ⊢
    go_loopw [3] (fun s42 wr => ∃ k : Nat, s42 = .int .i64 k ∧ k ≤ im.ents.length ∧ Hid (firstE (datE im) (im.ents.length - k) k = firstE (datE im) im.ents.length 0) ∧ Hid (Below (w.heap.size + 1) w0 wr) ∧ w.heap.size < wr.heap.size) (fun s42 _ => im.ents.length - (intOf s42).toNat)
    case atStart => exact ⟨0, rfl, Nat.zero_le _, rfl, Below.refl _ _, by have := HZ0.out; omega⟩
    case round =>
      obtain ⟨k, rfl, hk, HE, HB, hz⟩ := hrel
      obtain ⟨w1, rfl⟩ : ∃ W : World, W = wr := ⟨_, rfl⟩
      have hbx := HX0.out.below HB.out (by omega)
      have be1 := hbx.e
      have bc1 := hbx.c
      by_cases hlt : k < im.ents.length
      · have hltI : (k : Int) < im.ents.length := by omega
        obtain ⟨_, _, e1, hen⟩ := HI0.out.ents.below HB.out (by have := HZ0.out; omega)
        injection e1 with e1 e2 e3
        subst e1
        obtain ⟨m, off, rfl, hm, n0, n1, n2, n3⟩ := hen k hlt
        clear hen e2 e3
        have HNx := Lib.hid (firstE_next (datE im) im.ents.length k hlt)
        have HHt := Lib.hid (firstE_hit (datE im) im.ents.length k hlt)
        have HD := Lib.hid (show datE im k = if 0 ≤ (im.ents.getD k default).dat ∧ (im.ents.getD k default).dat ≤ 512 then 0 else 2 from rfl)
        generalize im.ents.getD k default = en at n0 n1 n2 n3 HD
        obtain ⟨nm, st, fin, dat⟩ := en
        simp only at n0 n1 n2 n3
        by_cases hd : 0 ≤ dat ∧ dat ≤ 512
        · go_wp2_with fail
          refine (outside_any _ _ _ _).mono ?_
          rintro e w' ⟨rfl, rfl⟩
          rw [decide_eq_false (show ¬ (dat < 0 ∨ 512 < dat) by omega)]
          go_wp2_with fail
          go_roundw
          case rel => exact ⟨k + 1, by go_num, by omega, (HNx.out (by rw [HD.out, if_pos hd])).symm.trans HE.out, HB, hz⟩
          case measure => simp [intOf]; omega
        · go_wp2_with fail
          refine (outside_any _ _ _ _).mono ?_
          rintro e w' ⟨rfl, rfl⟩
          rw [decide_eq_true (show (dat < 0 ∨ 512 < dat) by omega)]
          go_wp2_with fail
          go_ret
          have h2 : datE im k = 2 := by rw [HD.out, if_neg hd]
          refine ⟨?_, HB0.out.trans (HB.out.mono (by omega))⟩
          rw [chk_d HS.out (HE.out.symm.trans ((HHt.out (by rw [h2]; decide)).trans h2)) (by decide)]; rfl
      · have hkn : k = im.ents.length := by omega
        subst hkn
        clear hk hlt
        have HDz := Lib.hid (HE.out.symm.trans (firstE_end _ _))
        clear HE
        go_wp2_with fail
        go_loopw [4] (fun s55 wr => ∃ k : Nat, s55 = .int .i64 k ∧ k ≤ im.ents.length ∧ Hid (firstE (nmE im) (im.ents.length - k) k = firstE (nmE im) im.ents.length 0) ∧ Hid (Below (w.heap.size + 1) w0 wr) ∧ w.heap.size < wr.heap.size) (fun s55 _ => im.ents.length - (intOf s55).toNat)
        case atStart => exact ⟨0, rfl, Nat.zero_le _, rfl, HB, hz⟩
        case round =>
          clear hbx be1 bc1 HB hz
          obtain ⟨k, rfl, hk, HE, HB, hz⟩ := hrel
          obtain ⟨w1, rfl⟩ : ∃ W : World, W = wr := ⟨_, rfl⟩
          have hbx := HX0.out.below HB.out (by omega)
          have be1 := hbx.e
          have bc1 := hbx.c
          by_cases hlt : k < im.ents.length
          · skip
            have hltI : (k : Int) < im.ents.length := by omega
            obtain ⟨_, _, e1, hen⟩ := HI0.out.ents.below HB.out (by have := HZ0.out; omega)
            injection e1 with e1 e2 e3
            subst e1
            obtain ⟨m, off, rfl, hm, n0, n1, n2, n3⟩ := hen k hlt
            clear hen e2 e3
            have HNx := Lib.hid (firstE_next (nmE im) im.ents.length k hlt)
            have HHt := Lib.hid (firstE_hit (nmE im) im.ents.length k hlt)
            have HD := Lib.hid (show nmE im k = if 1 ≤ (im.ents.getD k default).nm.size ∧ (im.ents.getD k default).nm.size ≤ 12 then 0 else 6 from rfl)
            generalize im.ents.getD k default = en at n0 n1 n2 n3 HD
            obtain ⟨nm, st, fin, dat⟩ := en
            simp only at n0 n1 n2 n3
            by_cases hd : 1 ≤ nm.size ∧ nm.size ≤ 12
            · have HR := Lib.hid (HD.out.trans (if_pos hd))
              have hdd := decide_eq_false (show ¬ ((nm.size : Int) < 1 ∨ 12 < (nm.size : Int)) by omega)
              go_wp2_with fail
              refine (outside_any _ _ _ _).mono ?_
              rintro e w' ⟨rfl, rfl⟩
              rw [hdd]
              clear hd hdd
              go_wp2_with fail
              go_roundw
              case rel => exact ⟨k + 1, by go_num, by omega, (HNx.out HR.out).symm.trans HE.out, HB, hz⟩
              case measure => simp [intOf]; omega
            · have HR := Lib.hid (HD.out.trans (if_neg hd))
              have hdd := decide_eq_true (show ((nm.size : Int) < 1 ∨ 12 < (nm.size : Int)) by omega)
              go_wp2_with fail
              refine (outside_any _ _ _ _).mono ?_
              rintro e w' ⟨rfl, rfl⟩
              rw [hdd]
              clear hd hdd
              go_wp2_with fail
              go_ret
              refine ⟨?_, HB0.out.trans (HB.out.mono (by omega))⟩
              rw [chk_n HS.out HDz.out (HE.out.symm.trans ((HHt.out (by rw [HR.out]; decide)).trans HR.out)) (by decide)]; rfl
          · have hkn : k = im.ents.length := by omega
            subst hkn
            clear hk hlt
            have HNz := Lib.hid (HE.out.symm.trans (firstE_end _ _))
            clear HE
            go_wp2_with fail
            go_loopw [5, 6] (fun s8 s67 wr => ∃ k : Nat, s67 = .int .i64 k ∧ s8 = .int .i64 (endOf im k) ∧ k ≤ im.ents.length ∧ Hid (∀ j, j < k → stE im j = 0) ∧ Hid (firstE (stE im) (im.ents.length - k) k = firstE (stE im) im.ents.length 0) ∧ Hid (Below (w.heap.size + 1) w0 wr) ∧ w.heap.size < wr.heap.size) (fun _ s67 _ => im.ents.length - (intOf s67).toNat)
            case atStart => exact ⟨0, rfl, rfl, Nat.zero_le _, fun j hj => by omega, rfl, HB, hz⟩
            case round =>
              clear hbx be1 bc1 HB hz
              obtain ⟨k, rfl, rfl, hk, HAll, HE, HB, hz⟩ := hrel
              obtain ⟨w1, rfl⟩ : ∃ W : World, W = wr := ⟨_, rfl⟩
              have hbx := HX0.out.below HB.out (by omega)
              have be1 := hbx.e
              have bc1 := hbx.c
              by_cases hlt : k < im.ents.length
              · skip
                have hltI : (k : Int) < im.ents.length := by omega
                obtain ⟨_, _, e1, hen⟩ := HI0.out.ents.below HB.out (by have := HZ0.out; omega)
                injection e1 with e1 e2 e3
                subst e1
                obtain ⟨m, off, rfl, hm, n0, n1, n2, n3⟩ := hen k hlt
                clear hen e2 e3
                have HNx := Lib.hid (firstE_next (stE im) im.ents.length k hlt)
                have HHt := Lib.hid (firstE_hit (stE im) im.ents.length k hlt)
                have HD := Lib.hid (show stE im k = if (im.ents.getD k default).st = endOf im k ∧ (im.ents.getD k default).st < (im.ents.getD k default).fin then 0 else 14 from rfl)
                have HES := Lib.hid (endOf_succ im k)
                generalize im.ents.getD k default = en at n0 n1 n2 n3 HD HES
                generalize endOf im k = z at HD ⊢
                obtain ⟨nm, st, fin, dat⟩ := en
                simp only at n0 n1 n2 n3
                by_cases hz1 : st = z
                · subst hz1
                  by_cases hz2 : st < fin
                  · have HR := Lib.hid (HD.out.trans (if_pos ⟨rfl, hz2⟩))
                    go_wp2_with fail
                    go_roundw
                    case rel =>
                      refine ⟨k + 1, by go_num, by rw [HES.out], by omega, fun j hj => ?_, (HNx.out HR.out).symm.trans HE.out, HB, hz⟩
                      rcases Nat.lt_succ_iff_lt_or_eq.1 hj with h | rfl
                      · exact HAll.out j h
                      · exact HR.out
                    case measure => simp [intOf]; omega
                  · have HR := Lib.hid (HD.out.trans (if_neg (fun h => hz2 h.2)))
                    have hz3 : fin ≤ st := by omega
                    go_wp2_with fail
                    go_ret
                    refine ⟨?_, HB0.out.trans (HB.out.mono (by omega))⟩
                    rw [chk_s HS.out HDz.out HNz.out (HE.out.symm.trans ((HHt.out (by rw [HR.out]; decide)).trans HR.out)) (by decide)]; rfl
                · have HR := Lib.hid (HD.out.trans (if_neg (fun h => hz1 h.1)))
                  have hz4 : (st != z) = true := by simpa using hz1
                  go_wp2_with fail
                  go_ret
                  refine ⟨?_, HB0.out.trans (HB.out.mono (by omega))⟩
                  rw [chk_s HS.out HDz.out HNz.out (HE.out.symm.trans ((HHt.out (by rw [HR.out]; decide)).trans HR.out)) (by decide)]; rfl
              · have hkn : k = im.ents.length := by omega
                subst hkn
                clear hk hlt
                have HSz := Lib.hid (HE.out.symm.trans (firstE_end _ _))
                clear HE
                by_cases hend : endOf im im.ents.length = (im.code.length : Int)
                · have HCh := Lib.hid (chain_in HAll.out hend)
                  have HEq := Lib.hid (chk_c HS.out HDz.out HNz.out HSz.out hend)
                  rw [hend]
                  go_wp2_with fail
                  go_loopw [7] (fun s93 wr => ∃ k : Nat, s93 = .int .i64 k ∧ k ≤ im.ents.length ∧ Hid (firstE (codeE im) (im.ents.length - k) k = firstE (codeE im) im.ents.length 0) ∧ Hid (Below (w.heap.size + 1) w0 wr) ∧ w.heap.size < wr.heap.size) (fun s93 _ => im.ents.length - (intOf s93).toNat)
                  case atStart => exact ⟨0, rfl, Nat.zero_le _, rfl, HB, hz⟩
                  case round =>
                    clear hbx be1 bc1 HB hz HAll
                    obtain ⟨k, rfl, hk, HE, HB, hz⟩ := hrel
                    obtain ⟨w1, rfl⟩ : ∃ W : World, W = wr := ⟨_, rfl⟩
                    have hbx := HX0.out.below HB.out (by omega)
                    have be1 := hbx.e
                    by_cases hlt : k < im.ents.length
                    · have hltI : (k : Int) < im.ents.length := by omega
                      obtain ⟨_, _, e1, hen⟩ := HI0.out.ents.below HB.out (by have := HZ0.out; omega)
                      injection e1 with e1 e2 e3
                      subst e1
                      obtain ⟨m, off, rfl, hm, n0, n1, n2, n3⟩ := hen k hlt
                      clear hen e2 e3
                      have HNx := Lib.hid (firstE_next (codeE im) im.ents.length k hlt)
                      have HHt := Lib.hid (firstE_hit (codeE im) im.ents.length k hlt)
                      have HC := Lib.hid (show codeE im k = firstE (fun a => wordE im.lk (im.ents.getD k default).st (im.ents.getD k default).fin a (im.code.getD a 0)) ((im.ents.getD k default).fin.toNat - (im.ents.getD k default).st.toNat) (im.ents.getD k default).st.toNat from rfl)
                      obtain ⟨i1, i2, i3⟩ := HCh.out k hlt
                      generalize im.ents.getD k default = en at n0 n1 n2 n3 HC i1 i2 i3
                      obtain ⟨nm, st, fin, dat⟩ := en
                      simp only at n0 n1 n2 n3 i1 i2 i3 HC
                      obtain ⟨sN, rfl⟩ := Int.eq_ofNat_of_zero_le i1
                      obtain ⟨fN, rfl⟩ := Int.eq_ofNat_of_zero_le (show 0 ≤ fin by omega)
                      rw [Int.toNat_natCast, Int.toNat_natCast] at HC
                      have hB2 : Below (w.heap.size + 1) w0 (w1.alloc (.cells #[.string nm, .int .i64 sN, .int .i64 fN, .int .i64 dat] 61)) := bAlloc (by omega) HB.out
                      have hE2 : (w1.alloc (.cells #[.string nm, .int .i64 sN, .int .i64 fN, .int .i64 dat] 61)).cell? ⟨w1.heap.size, 0, none⟩ = some (.string nm) ∧ (w1.alloc (.cells #[.string nm, .int .i64 sN, .int .i64 fN, .int .i64 dat] 61)).cell? ⟨w1.heap.size, 1, none⟩ = some (.int .i64 sN) ∧ (w1.alloc (.cells #[.string nm, .int .i64 sN, .int .i64 fN, .int .i64 dat] 61)).cell? ⟨w1.heap.size, 2, none⟩ = some (.int .i64 fN) ∧ (w1.alloc (.cells #[.string nm, .int .i64 sN, .int .i64 fN, .int .i64 dat] 61)).cell? ⟨w1.heap.size, 3, none⟩ = some (.int .i64 dat) := ⟨by simp [go_sem], by simp [go_sem], by simp [go_sem], by simp [go_sem]⟩
                      have hz2 : (w1.alloc (.cells #[.string nm, .int .i64 sN, .int .i64 fN, .int .i64 dat] 61)).heap.size = w1.heap.size + 1 := by simp
                      go_wp2_with fail
                      have HB2 := Lib.hid hB2
                      have HE2 := Lib.hid hE2
                      have HZ2 := Lib.hid hz2
                      clear hB2 hE2 hz2 n0 n1 n2 n3 be1
                      generalize w1.alloc (.cells #[.string nm, .int .i64 sN, .int .i64 fN, .int .i64 dat] 61) = w2 at HB2 HE2 HZ2 ⊢
                      go_loopw [9] (fun s13 wx => ∃ a : Nat, s13 = .int .i64 a ∧ sN ≤ a ∧ a ≤ fN ∧ Hid (firstE (fun a => wordE im.lk sN fN a (im.code.getD a 0)) (fN - a) a = codeE im k) ∧ Hid (Below (w1.heap.size + 1) w2 wx) ∧ w1.heap.size < wx.heap.size) (fun s13 _ => fN - (intOf s13).toNat)
                      case atStart => exact ⟨sN, rfl, Nat.le_refl _, by omega, HC.out.symm, Below.refl _ _, by have := HZ2.out; omega⟩
                      case round =>
                        obtain ⟨a, rfl, ha1, ha2, HF, HBx, hzx⟩ := hrel
                        obtain ⟨w3, rfl⟩ : ∃ W : World, W = wr := ⟨_, rfl⟩
                        have hb03 := HB2.out.trans (HBx.out.mono (by omega))
                        have hbx3 := HX0.out.below hb03 (by omega)
                        have b0 := hbx3.c
                        have b1 := hbx3.e
                        have b2 := hbx3.s
                        have b3 := hbx3.l
                        obtain ⟨g0, g1, g2, g3⟩ := HE2.out
                        rw [← HBx.out.cell (p := ⟨w1.heap.size, 0, none⟩) (by simp)] at g0
                        rw [← HBx.out.cell (p := ⟨w1.heap.size, 1, none⟩) (by simp)] at g1
                        rw [← HBx.out.cell (p := ⟨w1.heap.size, 2, none⟩) (by simp)] at g2
                        rw [← HBx.out.cell (p := ⟨w1.heap.size, 3, none⟩) (by simp)] at g3
                        have hw3 : w.heap.size < w3.heap.size := by omega
                        have HB3 := Lib.hid hb03
                        have HLI := Lib.hid (HI0.out.below hb03 (by have := HZ0.out; omega))
                        clear hb03 hbx3
                        by_cases hlt3 : a < fN
                        · have hltA : (a : Int) < (fN : Int) := by omega
                          obtain ⟨_, _, e1, hcd⟩ := HLI.out.code
                          injection e1 with e1 e2 e3
                          subst e1
                          obtain ⟨mc, oc, rfl, hmc, hxc⟩ := hcd a (by omega)
                          clear hcd e2 e3
                          obtain ⟨x0, x1⟩ := HLI.out.words a (by omega)
                          have haC : (a : Int) < im.code.length := by omega
                          have ha4 : a < 4096 := by omega
                          have hf4 : fN ≤ 4096 := by omega
                          have hn2 := firstE_next (fun a => wordE im.lk sN fN a (im.code.getD a 0)) fN a hlt3
                          have ht2 := firstE_hit (fun a => wordE im.lk sN fN a (im.code.getD a 0)) fN a hlt3
                          have HN2 := Lib.hid (show wordE im.lk sN fN a (im.code.getD a 0) = 0 → _ from hn2)
                          have HT2 := Lib.hid (show wordE im.lk sN fN a (im.code.getD a 0) ≠ 0 → _ = wordE im.lk sN fN a (im.code.getD a 0) from ht2)
                          clear hn2 ht2
                          have HS1 := Lib.hid (show sN ≤ a + 1 by omega)
                          have HS2 := Lib.hid (show a + 1 ≤ fN by omega)
                          have HS3 := Lib.hid (msr_succ fN a hlt3 ha4)
                          generalize im.code.getD a 0 = x at hxc x0 x1 HN2 HT2
                          go_wp2_with fail
                          refine (rdecode_any x w3 x0 x1).mono ?_
                          rintro r w4 ⟨rfl, hb4⟩
                          have HB4 := Lib.hid (bThen hb4 (by omega) HBx.out)
                          have hz4 : w1.heap.size < w4.heap.size := by have := hb4.size; omega
                          have hz4' : w.heap.size < w4.heap.size := by omega
                          rw [← hb4.cell (p := ⟨w1.heap.size, 1, none⟩) (by simp; omega)] at g1
                          rw [← hb4.cell (p := ⟨w1.heap.size, 2, none⟩) (by simp; omega)] at g2
                          rw [← hb4.cell (p := ⟨w.heap.size, 3, none⟩) (by simp; omega)] at b3
                          have HZW := Lib.hid (show w.heap.size ≤ w1.heap.size + 1 by omega)
                          clear hb4 g0 g3 b0 b1 b2 hxc s1 s2 s3 s4 s1I s2I hend hk hlt hltI hm i1 i2 i3 ha1 ha2 hzx hw3 hz hlt3 hltA haC hmc
                          by_cases hd : dOk x
                          · rw [rdecV_ok x0 x1 hd]
                            have hW : wordE im.lk sN fN a x = if isBr (dN x) = true ∧ ((a : Int) + 1 + dI x < sN ∨ (fN : Int) ≤ (a : Int) + 1 + dI x) then 10 else if (dN x = 28 ∨ dN x = 29) ∧ im.lk ≤ dI x then 12 else 0 := by unfold wordE; rw [if_pos hd]
                            have HWE := Lib.hid hW
                            obtain ⟨hi1, hi2⟩ := dI_range x
                            clear hW hd
                            generalize dN x = n at HWE ⊢
                            generalize dI x = i at HWE hi1 hi2 ⊢
                            generalize dA x = aa
                            generalize dB x = bb
                            generalize dC x = cc
                            have HB5 := Lib.hid (show Below (w1.heap.size + 1) w2 (w4.alloc (.cells #[.int .u8 n, .int .i64 aa, .int .i64 bb, .int .i64 cc, .int .i64 i] 64)) from bAlloc (by omega) HB4.out)
                            have HZ5 : Hid (w1.heap.size < (w4.alloc (.cells #[.int .u8 n, .int .i64 aa, .int .i64 bb, .int .i64 cc, .int .i64 i] 64)).heap.size) := (show _ < _ by rw [size_alloc1]; exact Nat.lt_succ_of_lt hz4)
                            obtain ⟨t1, t2⟩ := at_wrap a i ha4 hi1 hi2
                            have t3 := fin_wrap fN hf4
                            cases hb : isBr n
                            · have hn3 : ¬ (n = 22 ∨ n = 23 ∨ n = 24) := fun h => by rw [(isBr_iff n).2 h] at hb; cases hb
                              have h22 : ((n : Int) == 22) = false := op_no n 22 (by omega)
                              have h23 : ((n : Int) == 23) = false := op_no n 23 (by omega)
                              have h24 : ((n : Int) == 24) = false := op_no n 24 (by omega)
                              have hW : wordE im.lk sN fN a x = if (n = 28 ∨ n = 29) ∧ im.lk ≤ i then 12 else 0 := HWE.out.trans (if_neg (fun h => by rw [hb] at h; cases h.1))
                              have HW := Lib.hid hW
                              clear hW HWE hn3
                              by_cases hn : n = 28 ∨ n = 29
                              · by_cases hl : im.lk ≤ i
                                · have HV := Lib.hid (HW.out.trans (if_pos ⟨hn, hl⟩))
                                  rcases hn with rfl | rfl
                                  all_goals (
                                    go_wp2_with fail
                                    go_ret
                                    have h1 := HF.out.symm.trans (HT2.out (by rw [HV.out]; decide))
                                    refine ⟨?_, HB0.out.trans ((HB2.out.mono (Nat.le_succ _)).trans (HB5.out.mono HZW.out))⟩
                                    rw [HEq.out, ← HE.out, HHt.out (by rw [h1, HV.out]; decide), h1, HV.out]; rfl)
                                · have HV := Lib.hid (HW.out.trans (if_neg (fun h => hl h.2)))
                                  rcases hn with rfl | rfl
                                  all_goals (
                                    go_wp2_with fail
                                    go_roundw
                                    case rel => exact ⟨a + 1, int_succ a ha4, HS1.out, HS2.out, (HN2.out HV.out).symm.trans HF.out, HB5.out, HZ5.out⟩
                                    case measure => exact HS3.out)
                              · have HV := Lib.hid (HW.out.trans (if_neg (fun h => hn h.1)))
                                have h28 : ((n : Int) == 28) = false := op_no n 28 (by omega)
                                have h29 : ((n : Int) == 29) = false := op_no n 29 (by omega)
                                go_wp2_with fail
                                go_roundw
                                case rel => exact ⟨a + 1, int_succ a ha4, HS1.out, HS2.out, (HN2.out HV.out).symm.trans HF.out, HB5.out, HZ5.out⟩
                                case measure => exact HS3.out
                            · have hn3 := (isBr_iff n).1 hb
                              have h28 : ((n : Int) == 28) = false := op_no n 28 (by omega)
                              have h29 : ((n : Int) == 29) = false := op_no n 29 (by omega)
                              have hout : ∀ W, Calls Tryd.prog 24 #[.int .i64 ((a : Int) + 1 + i), .int .i64 sN, .int .i64 ((fN : Int) - 1)] W fun e w' => e = .returned (.bool (decide ((a : Int) + 1 + i < sN ∨ (fN : Int) - 1 < (a : Int) + 1 + i))) ∧ W = w' := fun W => outside_any _ _ _ W
                              have HOut := Lib.hid hout
                              clear hout
                              by_cases hc : (a : Int) + 1 + i < sN ∨ (fN : Int) ≤ (a : Int) + 1 + i
                              · have HV := Lib.hid (HWE.out.trans (if_pos ⟨hb, hc⟩))
                                have HDC := Lib.hid (out_yes (a : Int) i sN fN hc)
                                clear hc HWE hb
                                rcases hn3 with rfl | rfl | rfl
                                all_goals (
                                  go_wp2_with fail
                                  refine (HOut.out _).mono ?_
                                  rintro r w6 ⟨rfl, rfl⟩
                                  rw [HDC.out]
                                  go_wp2_with fail
                                  go_ret
                                  have h1 := HF.out.symm.trans (HT2.out (by rw [HV.out]; decide))
                                  refine ⟨?_, HB0.out.trans ((HB2.out.mono (Nat.le_succ _)).trans (HB5.out.mono HZW.out))⟩
                                  rw [HEq.out, ← HE.out, HHt.out (by rw [h1, HV.out]; decide), h1, HV.out]; rfl)
                              · have HV := Lib.hid (HWE.out.trans ((if_neg (fun h => hc h.2)).trans (if_neg (fun h => br_no n hn3 h.1))))
                                have HDC := Lib.hid (out_no (a : Int) i sN fN hc)
                                clear hc HWE hb
                                rcases hn3 with rfl | rfl | rfl
                                all_goals (
                                  go_wp2_with fail
                                  refine (HOut.out _).mono ?_
                                  rintro r w6 ⟨rfl, rfl⟩
                                  rw [HDC.out]
                                  go_wp2_with fail
                                  go_roundw
                                  case rel => exact ⟨a + 1, int_succ a ha4, HS1.out, HS2.out, (HN2.out HV.out).symm.trans HF.out, HB5.out, HZ5.out⟩
                                  case measure => exact HS3.out)
                          · rw [rdecV_no x0 x1 hd]
                            have HV := Lib.hid (show wordE im.lk sN fN a x = 3 by unfold wordE; rw [if_neg hd])
                            have HB5 := Lib.hid (show Below (w1.heap.size + 1) w2 (w4.alloc (.cells #[.int .u8 0, .int .i64 0, .int .i64 0, .int .i64 0, .int .i64 0] 64)) from bAlloc (by omega) HB4.out)
                            go_wp2_with fail
                            go_ret
                            have h1 := HF.out.symm.trans (HT2.out (by rw [HV.out]; decide))
                            refine ⟨?_, HB0.out.trans ((HB2.out.mono (Nat.le_succ _)).trans (HB5.out.mono HZW.out))⟩
                            rw [HEq.out, ← HE.out, HHt.out (by rw [h1, HV.out]; decide), h1, HV.out]; rfl
                        · have han : a = fN := by omega
                          subst han
                          have h0 := HF.out.symm.trans (firstE_end _ _)
                          go_wp2_with fail
                          go_roundw
                          case rel => exact ⟨k + 1, by go_num, by omega, (HNx.out h0).symm.trans HE.out, HB3, hw3⟩
                          case measure => simp [intOf]; omega
                    · have hkn : k = im.ents.length := by omega
                      subst hkn
                      have h0 := HE.out.symm.trans (firstE_end _ _)
                      go_wp2_with fail
                      go_ret
                      refine ⟨?_, HB0.out.trans (HB.out.mono (by omega))⟩
                      rw [HEq.out, h0]; rfl
                · have hne : (endOf im im.ents.length != (im.code.length : Int)) = true := by simpa using hend
                  have HEq := Lib.hid (chk_l HS.out HDz.out HNz.out HSz.out hend)
                  generalize endOf im im.ents.length = z at hne ⊢
                  go_wp2_with fail
                  go_ret
                  exact ⟨by rw [HEq.out]; rfl, HB0.out.trans (HB.out.mono (by omega))⟩
  · have hc := chk_un hs
    rw [hc]
    go_enter Tryd.func10, Tryd.ntmps10
    by_cases s1 : im.code.length ≤ 4096
    · have s1I : (im.code.length : Int) ≤ 4096 := by omega
      by_cases s2 : im.ents.length ≤ 8
      · have s2I : (im.ents.length : Int) ≤ 8 := by omega
        by_cases s3 : 0 ≤ im.sh ∧ im.sh ≤ 64
        · have s4 : ¬ (0 ≤ im.lk ∧ im.lk ≤ 4) := fun h => hs ⟨s1, s2, s3, h⟩
          have S3 := Lib.hid s3
          have S4 := Lib.hid s4
          clear s3 s4 hs hc
          go_wp2_with fail
          all_goals first | (exfalso; omega) | skip
          refine (outside_any _ _ _ _).mono ?_
          rintro e w' ⟨rfl, rfl⟩
          rw [decide_eq_false (show ¬ (im.sh < 0 ∨ 64 < im.sh) by have := S3.out; omega)]
          go_wp2_with fail
          all_goals first | (exfalso; omega) | skip
          refine (outside_any _ _ _ _).mono ?_
          rintro e w' ⟨rfl, rfl⟩
          rw [decide_eq_true (show (im.lk < 0 ∨ 4 < im.lk) by have := S4.out; omega)]
          go_wp2_with fail
          go_ret
          exact ⟨rfl, HB0.out⟩
        · have S3 := Lib.hid s3
          clear s3 hs hc
          go_wp2_with fail
          all_goals first | (exfalso; omega) | skip
          refine (outside_any _ _ _ _).mono ?_
          rintro e w' ⟨rfl, rfl⟩
          rw [decide_eq_true (show (im.sh < 0 ∨ 64 < im.sh) by have := S3.out; omega)]
          go_wp2_with fail
          go_ret
          exact ⟨rfl, HB0.out⟩
      · have s2I : (im.ents.length : Int) > 8 := by omega
        clear hs hc
        go_wp2_with fail
        all_goals first | (exfalso; omega) | skip
        go_ret
        exact ⟨rfl, HB0.out⟩
    · have s1I : (im.code.length : Int) > 4096 := by omega
      clear hs hc
      go_wp2_with fail
      all_goals first | (exfalso; omega) | skip
      go_ret
      exact ⟨rfl, HB0.out⟩
end Go.Proofs.YtepldfnplfhncaaDoor
