/- linker.Check, by its contract. -/
import Derived.Test.YtepldfnplfhncaaDoorLinC
set_option linter.unusedVariables false
set_option linter.unusedSimpArgs false
namespace Go.Proofs.YtepldfnplfhncaaDoor
open Go.RowKit

/-- What Check's box holds. -/
structure Box4 (w : World) (b : Nat) (cv ev : Value) (sh lk : Int) : Prop where
  c : w.cell? ⟨b, 0, none⟩ = some cv
  e : w.cell? ⟨b, 1, none⟩ = some ev
  s : w.cell? ⟨b, 2, none⟩ = some (.int .i64 sh)
  l : w.cell? ⟨b, 3, none⟩ = some (.int .i64 lk)
theorem Box4.below {B : Nat} {w w' : World} {b : Nat} {cv ev : Value} {sh lk : Int} (h : Box4 w b cv ev sh lk) (hb : Below B w w') (hB : b < B) : Box4 w' b cv ev sh lk :=
  ⟨(hb.cell (p := ⟨b, 0, none⟩) hB).trans h.c, (hb.cell (p := ⟨b, 1, none⟩) hB).trans h.e, (hb.cell (p := ⟨b, 2, none⟩) hB).trans h.s, (hb.cell (p := ⟨b, 3, none⟩) hB).trans h.l⟩

set_option maxHeartbeats 6400000 in
set_option maxRecDepth 20000 in
theorem check_any (cv ev : Value) (im : LIm) (w : World) (hT : Tab w) (h : LImAt w cv ev im) :
    Calls Tryd.prog 9 #[.agg #[cv, ev, .int .i64 im.sh, .int .i64 im.lk]] w fun e w' => e = .returned (.int .i64 (chk im)) ∧ Below w.heap.size w w' := by
  have hb0 : Below w.heap.size w (w.alloc (.cells #[cv, ev, .int .i64 im.sh, .int .i64 im.lk] 25)) := bAlloc (Nat.le_refl _) (Below.refl _ _)
  have hx0 : Box4 (w.alloc (.cells #[cv, ev, .int .i64 im.sh, .int .i64 im.lk] 25)) w.heap.size cv ev im.sh im.lk := ⟨by simp [go_sem], by simp [go_sem], by simp [go_sem], by simp [go_sem]⟩
  have HI0 := Lib.hid (h.below hb0 (Nat.le_refl _))
  have HT0 := Lib.hid (hT.of_below hb0)
  have hz0 : (w.alloc (.cells #[cv, ev, .int .i64 im.sh, .int .i64 im.lk] 25)).heap.size = w.heap.size + 1 := by simp
  obtain ⟨cp, ccap, rfl, -⟩ := h.code
  obtain ⟨ep, ecap, rfl, -⟩ := h.ents
  have HB0 := Lib.hid hb0
  have HX0 := Lib.hid hx0
  have HZ0 := Lib.hid hz0
  clear hb0 hz0 h hT hx0
  by_cases hs : sized im
  · have HS := Lib.hid hs
    obtain ⟨s1, s2, s3, s4⟩ := hs
    have s1I : (im.code.length : Int) ≤ 4096 := by omega
    have s2I : (im.ents.length : Int) ≤ 8 := by omega
    go_enter Tryd.func9, Tryd.ntmps9
    go_wp2_with fail
    refine (between_any _ _ _).mono ?_
    rintro e w' ⟨rfl, rfl⟩
    rw [decide_eq_true s3]
    go_wp2_with fail
    refine (between_any _ _ _).mono ?_
    rintro e w' ⟨rfl, rfl⟩
    rw [decide_eq_true s4]
    go_wp2_with fail
    generalize w.alloc (.cells #[.slice cp im.code.length ccap, .slice ep im.ents.length ecap, .int .i64 im.sh, .int .i64 im.lk] 25) = w0 at HI0 HT0 HB0 HX0 HZ0 ⊢
    go_loopw [42] (fun s42 wr => ∃ k : Nat, s42 = .int .i64 k ∧ k ≤ im.ents.length ∧ Hid (firstE (datE im) (im.ents.length - k) k = firstE (datE im) im.ents.length 0) ∧ Hid (Below (w.heap.size + 1) w0 wr) ∧ w.heap.size < wr.heap.size) (fun s42 _ => im.ents.length - (intOf s42).toNat)
    case atStart => exact ⟨0, rfl, Nat.zero_le _, rfl, Below.refl _ _, by have := HZ0.out; omega⟩
    case round =>
      obtain ⟨k, rfl, hk, HE, HB, hz⟩ := hrel
      obtain ⟨w1, rfl⟩ : ∃ W : World, W = wr := ⟨_, rfl⟩
      have hbx := HX0.out.below HB.out (by omega)
      have be1 := hbx.e
      have bc1 := hbx.c
      by_cases hlt : k < im.ents.length
      · have hltI : (k : Int) < im.ents.length := by omega
        obtain ⟨_, _, e1, hen⟩ := HI0.out.ents.below HB.out (by have := HZ0.out; omega)
        injection e1 with e1 e2 e3
        subst e1
        obtain ⟨m, off, rfl, hm, n0, n1, n2, n3⟩ := hen k hlt
        clear hen e2 e3
        have HNx := Lib.hid (firstE_next (datE im) im.ents.length k hlt)
        have HHt := Lib.hid (firstE_hit (datE im) im.ents.length k hlt)
        have HD := Lib.hid (show datE im k = if 0 ≤ (im.ents.getD k default).dat ∧ (im.ents.getD k default).dat ≤ 512 then 0 else 2 from rfl)
        generalize im.ents.getD k default = en at n0 n1 n2 n3 HD
        obtain ⟨nm, st, fin, dat⟩ := en
        simp only at n0 n1 n2 n3
        by_cases hd : 0 ≤ dat ∧ dat ≤ 512
        · go_wp2_with fail
          refine (between_any _ _ _).mono ?_
          rintro e w' ⟨rfl, rfl⟩
          rw [decide_eq_true hd]
          go_wp2_with fail
          go_roundw
          case rel => exact ⟨k + 1, by go_num, by omega, (HNx.out (by rw [HD.out, if_pos hd])).symm.trans HE.out, bAlloc (by omega) HB.out, by simp; omega⟩
          case measure => simp [intOf]; omega
        · go_wp2_with fail
          refine (between_any _ _ _).mono ?_
          rintro e w' ⟨rfl, rfl⟩
          rw [decide_eq_false hd]
          go_wp2_with fail
          go_ret
          have h2 : datE im k = 2 := by rw [HD.out, if_neg hd]
          refine ⟨?_, bAlloc (by omega) (HB0.out.trans (HB.out.mono (by omega)))⟩
          rw [chk_d HS.out (HE.out.symm.trans ((HHt.out (by rw [h2]; decide)).trans h2)) (by decide)]; rfl
      · have hkn : k = im.ents.length := by omega
        subst hkn
        have HDz := Lib.hid (HE.out.symm.trans (firstE_end _ _))
        clear HE
        go_wp2_with fail
        go_loopw [55] (fun s55 wr => ∃ k : Nat, s55 = .int .i64 k ∧ k ≤ im.ents.length ∧ Hid (firstE (nmE im) (im.ents.length - k) k = firstE (nmE im) im.ents.length 0) ∧ Hid (Below (w.heap.size + 1) w0 wr) ∧ w.heap.size < wr.heap.size) (fun s55 _ => im.ents.length - (intOf s55).toNat)
        case atStart => exact ⟨0, rfl, Nat.zero_le _, rfl, HB, hz⟩
        case round =>
          clear hbx be1 bc1 HB hz
          obtain ⟨k, rfl, hk, HE, HB, hz⟩ := hrel
          obtain ⟨w1, rfl⟩ : ∃ W : World, W = wr := ⟨_, rfl⟩
          have hbx := HX0.out.below HB.out (by omega)
          have be1 := hbx.e
          have bc1 := hbx.c
          by_cases hlt : k < im.ents.length
          · skip
            have hltI : (k : Int) < im.ents.length := by omega
            obtain ⟨_, _, e1, hen⟩ := HI0.out.ents.below HB.out (by have := HZ0.out; omega)
            injection e1 with e1 e2 e3
            subst e1
            obtain ⟨m, off, rfl, hm, n0, n1, n2, n3⟩ := hen k hlt
            clear hen e2 e3
            have HNx := Lib.hid (firstE_next (nmE im) im.ents.length k hlt)
            have HHt := Lib.hid (firstE_hit (nmE im) im.ents.length k hlt)
            have HD := Lib.hid (show nmE im k = if 1 ≤ (im.ents.getD k default).nm.size ∧ (im.ents.getD k default).nm.size ≤ 12 then 0 else 6 from rfl)
            generalize im.ents.getD k default = en at n0 n1 n2 n3 HD
            obtain ⟨nm, st, fin, dat⟩ := en
            simp only at n0 n1 n2 n3
            by_cases hd : 1 ≤ nm.size ∧ nm.size ≤ 12
            · have HR := Lib.hid (HD.out.trans (if_pos hd))
              have hdd := decide_eq_true hd
              go_wp2_with fail
              refine (good_any _ _).mono ?_
              rintro e w' ⟨rfl, rfl⟩
              rw [hdd]
              clear hd hdd
              go_wp2_with fail
              go_roundw
              case rel => exact ⟨k + 1, by go_num, by omega, (HNx.out HR.out).symm.trans HE.out, bAlloc (by omega) HB.out, by simp; omega⟩
              case measure => simp [intOf]; omega
            · have HR := Lib.hid (HD.out.trans (if_neg hd))
              have hdd := decide_eq_false hd
              go_wp2_with fail
              refine (good_any _ _).mono ?_
              rintro e w' ⟨rfl, rfl⟩
              rw [hdd]
              clear hd hdd
              go_wp2_with fail
              go_ret
              refine ⟨?_, bAlloc (by omega) (HB0.out.trans (HB.out.mono (by omega)))⟩
              rw [chk_n HS.out HDz.out (HE.out.symm.trans ((HHt.out (by rw [HR.out]; decide)).trans HR.out)) (by decide)]; rfl
          · have hkn : k = im.ents.length := by omega
            subst hkn
            have HNz := Lib.hid (HE.out.symm.trans (firstE_end _ _))
            clear HE
            go_wp2_with fail
            go_loopw [8, 67] (fun s8 s67 wr => ∃ k : Nat, s67 = .int .i64 k ∧ s8 = .int .i64 (endOf im k) ∧ k ≤ im.ents.length ∧ Hid (∀ j, j < k → stE im j = 0) ∧ Hid (firstE (stE im) (im.ents.length - k) k = firstE (stE im) im.ents.length 0) ∧ Hid (Below (w.heap.size + 1) w0 wr) ∧ w.heap.size < wr.heap.size) (fun _ s67 _ => im.ents.length - (intOf s67).toNat)
            case atStart => exact ⟨0, rfl, rfl, Nat.zero_le _, fun j hj => by omega, rfl, HB, hz⟩
            case round =>
              clear hbx be1 bc1 HB hz
              obtain ⟨k, rfl, rfl, hk, HAll, HE, HB, hz⟩ := hrel
              obtain ⟨w1, rfl⟩ : ∃ W : World, W = wr := ⟨_, rfl⟩
              have hbx := HX0.out.below HB.out (by omega)
              have be1 := hbx.e
              have bc1 := hbx.c
              by_cases hlt : k < im.ents.length
              · skip
                have hltI : (k : Int) < im.ents.length := by omega
                obtain ⟨_, _, e1, hen⟩ := HI0.out.ents.below HB.out (by have := HZ0.out; omega)
                injection e1 with e1 e2 e3
                subst e1
                obtain ⟨m, off, rfl, hm, n0, n1, n2, n3⟩ := hen k hlt
                clear hen e2 e3
                have HNx := Lib.hid (firstE_next (stE im) im.ents.length k hlt)
                have HHt := Lib.hid (firstE_hit (stE im) im.ents.length k hlt)
                have HD := Lib.hid (show stE im k = if (im.ents.getD k default).st = endOf im k ∧ (im.ents.getD k default).st < (im.ents.getD k default).fin then 0 else 14 from rfl)
                have HES := Lib.hid (endOf_succ im k)
                generalize im.ents.getD k default = en at n0 n1 n2 n3 HD HES
                generalize endOf im k = z at HD ⊢
                obtain ⟨nm, st, fin, dat⟩ := en
                simp only at n0 n1 n2 n3
                by_cases hz1 : st = z
                · subst hz1
                  by_cases hz2 : st < fin
                  · have HR := Lib.hid (HD.out.trans (if_pos ⟨rfl, hz2⟩))
                    go_wp2_with fail
                    go_roundw
                    case rel =>
                      refine ⟨k + 1, by go_num, by rw [HES.out], by omega, fun j hj => ?_, (HNx.out HR.out).symm.trans HE.out, bAlloc (by omega) HB.out, by simp; omega⟩
                      rcases Nat.lt_succ_iff_lt_or_eq.1 hj with h | rfl
                      · exact HAll.out j h
                      · exact HR.out
                    case measure => simp [intOf]; omega
                  · have HR := Lib.hid (HD.out.trans (if_neg (fun h => hz2 h.2)))
                    have hz3 : fin ≤ st := by omega
                    go_wp2_with fail
                    go_ret
                    refine ⟨?_, bAlloc (by omega) (HB0.out.trans (HB.out.mono (by omega)))⟩
                    rw [chk_s HS.out HDz.out HNz.out (HE.out.symm.trans ((HHt.out (by rw [HR.out]; decide)).trans HR.out)) (by decide)]; rfl
                · have HR := Lib.hid (HD.out.trans (if_neg (fun h => hz1 h.1)))
                  have hz4 : (st != z) = true := by simpa using hz1
                  go_wp2_with fail
                  go_ret
                  refine ⟨?_, bAlloc (by omega) (HB0.out.trans (HB.out.mono (by omega)))⟩
                  rw [chk_s HS.out HDz.out HNz.out (HE.out.symm.trans ((HHt.out (by rw [HR.out]; decide)).trans HR.out)) (by decide)]; rfl
              · have hkn : k = im.ents.length := by omega
                subst hkn
                have HSz := Lib.hid (HE.out.symm.trans (firstE_end _ _))
                clear HE
                by_cases hend : endOf im im.ents.length = (im.code.length : Int)
                · have HCh := Lib.hid (chain_in HAll.out hend)
                  have HEq := Lib.hid (chk_c HS.out HDz.out HNz.out HSz.out hend)
                  rw [hend]
                  go_wp2_with fail
                  go_loopw [93] (fun s93 wr => ∃ k : Nat, s93 = .int .i64 k ∧ k ≤ im.ents.length ∧ Hid (firstE (codeE im) (im.ents.length - k) k = firstE (codeE im) im.ents.length 0) ∧ Hid (Below (w.heap.size + 1) w0 wr) ∧ w.heap.size < wr.heap.size) (fun s93 _ => im.ents.length - (intOf s93).toNat)
                  case atStart => exact ⟨0, rfl, Nat.zero_le _, rfl, HB, hz⟩
                  case round =>
                    clear hbx be1 bc1 HB hz HAll
                    obtain ⟨k, rfl, hk, HE, HB, hz⟩ := hrel
                    obtain ⟨w1, rfl⟩ : ∃ W : World, W = wr := ⟨_, rfl⟩
                    have hbx := HX0.out.below HB.out (by omega)
                    have be1 := hbx.e
                    by_cases hlt : k < im.ents.length
                    · have hltI : (k : Int) < im.ents.length := by omega
                      obtain ⟨_, _, e1, hen⟩ := HI0.out.ents.below HB.out (by have := HZ0.out; omega)
                      injection e1 with e1 e2 e3
                      subst e1
                      obtain ⟨m, off, rfl, hm, n0, n1, n2, n3⟩ := hen k hlt
                      clear hen e2 e3
                      have HNx := Lib.hid (firstE_next (codeE im) im.ents.length k hlt)
                      have HHt := Lib.hid (firstE_hit (codeE im) im.ents.length k hlt)
                      have HC := Lib.hid (show codeE im k = firstE (fun a => wordE im.lk (im.ents.getD k default).st (im.ents.getD k default).fin a (im.code.getD a 0)) ((im.ents.getD k default).fin.toNat - (im.ents.getD k default).st.toNat) (im.ents.getD k default).st.toNat from rfl)
                      obtain ⟨i1, i2, i3⟩ := HCh.out k hlt
                      generalize im.ents.getD k default = en at n0 n1 n2 n3 HC i1 i2 i3
                      obtain ⟨nm, st, fin, dat⟩ := en
                      simp only at n0 n1 n2 n3 i1 i2 i3 HC
                      obtain ⟨sN, rfl⟩ := Int.eq_ofNat_of_zero_le i1
                      obtain ⟨fN, rfl⟩ := Int.eq_ofNat_of_zero_le (show 0 ≤ fin by omega)
                      rw [Int.toNat_natCast, Int.toNat_natCast] at HC
                      have hB2 : Below (w.heap.size + 1) w0 (w1.alloc (.cells #[.string nm, .int .i64 sN, .int .i64 fN, .int .i64 dat] 61)) := bAlloc (by omega) HB.out
                      have hE2 : (w1.alloc (.cells #[.string nm, .int .i64 sN, .int .i64 fN, .int .i64 dat] 61)).cell? ⟨w1.heap.size, 0, none⟩ = some (.string nm) ∧ (w1.alloc (.cells #[.string nm, .int .i64 sN, .int .i64 fN, .int .i64 dat] 61)).cell? ⟨w1.heap.size, 1, none⟩ = some (.int .i64 sN) ∧ (w1.alloc (.cells #[.string nm, .int .i64 sN, .int .i64 fN, .int .i64 dat] 61)).cell? ⟨w1.heap.size, 2, none⟩ = some (.int .i64 fN) ∧ (w1.alloc (.cells #[.string nm, .int .i64 sN, .int .i64 fN, .int .i64 dat] 61)).cell? ⟨w1.heap.size, 3, none⟩ = some (.int .i64 dat) := ⟨by simp [go_sem], by simp [go_sem], by simp [go_sem], by simp [go_sem]⟩
                      have hz2 : (w1.alloc (.cells #[.string nm, .int .i64 sN, .int .i64 fN, .int .i64 dat] 61)).heap.size = w1.heap.size + 1 := by simp
                      go_wp2_with fail
                      have HB2 := Lib.hid hB2
                      have HE2 := Lib.hid hE2
                      have HZ2 := Lib.hid hz2
                      clear hB2 hE2 hz2 n0 n1 n2 n3 be1
                      generalize w1.alloc (.cells #[.string nm, .int .i64 sN, .int .i64 fN, .int .i64 dat] 61) = w2 at HB2 HE2 HZ2 ⊢
                      go_loopw [13] (fun s13 wx => ∃ a : Nat, s13 = .int .i64 a ∧ sN ≤ a ∧ a ≤ fN ∧ Hid (firstE (fun a => wordE im.lk sN fN a (im.code.getD a 0)) (fN - a) a = codeE im k) ∧ Hid (Below (w1.heap.size + 1) w2 wx) ∧ w1.heap.size < wx.heap.size) (fun s13 _ => fN - (intOf s13).toNat)
                      case atStart => exact ⟨sN, rfl, Nat.le_refl _, by omega, HC.out.symm, Below.refl _ _, by have := HZ2.out; omega⟩
                      case round =>
                        obtain ⟨a, rfl, ha1, ha2, HF, HBx, hzx⟩ := hrel
                        obtain ⟨w3, rfl⟩ : ∃ W : World, W = wr := ⟨_, rfl⟩
                        have hb03 := HB2.out.trans (HBx.out.mono (by omega))
                        have hbx3 := HX0.out.below hb03 (by omega)
                        have b0 := hbx3.c
                        have b1 := hbx3.e
                        have b2 := hbx3.s
                        have b3 := hbx3.l
                        obtain ⟨g0, g1, g2, g3⟩ := HE2.out
                        rw [← HBx.out.cell (p := ⟨w1.heap.size, 0, none⟩) (by simp)] at g0
                        rw [← HBx.out.cell (p := ⟨w1.heap.size, 1, none⟩) (by simp)] at g1
                        rw [← HBx.out.cell (p := ⟨w1.heap.size, 2, none⟩) (by simp)] at g2
                        rw [← HBx.out.cell (p := ⟨w1.heap.size, 3, none⟩) (by simp)] at g3
                        have hw3 : w.heap.size < w3.heap.size := by omega
                        have HB3 := Lib.hid hb03
                        have HLI := Lib.hid (HI0.out.below hb03 (by have := HZ0.out; omega))
                        clear hb03 hbx3
                        by_cases hlt3 : a < fN
                        · have hltA : (a : Int) < (fN : Int) := by omega
                          have HCI := Lib.hid (checkInstr_any _ (.slice (some ⟨m, off, none⟩) im.ents.length ecap) im nm sN fN dat a w3 (HT0.out.of_below (by rw [HZ0.out]; exact HB3.out)) HLI.out.code HLI.out.words (by omega) s1)
                          have hn2 := firstE_next (fun a => wordE im.lk sN fN a (im.code.getD a 0)) fN a hlt3
                          have ht2 := firstE_hit (fun a => wordE im.lk sN fN a (im.code.getD a 0)) fN a hlt3
                          have hwv : ∃ wv, wv = wordE im.lk sN fN a (im.code.getD a 0) := ⟨_, rfl⟩
                          obtain ⟨wv, hwv⟩ := hwv
                          have HNx2 := Lib.hid (fun (h : wv = 0) => hn2 (by rw [hwv] at h; exact h))
                          have HHt2 := Lib.hid (fun (h : wv ≠ 0) => (ht2 (by rw [hwv] at h; exact h)).trans hwv.symm)
                          rw [← hwv] at HCI
                          clear hn2 ht2 hwv
                          go_wp2_with fail
                          refine HCI.out.mono ?_
                          rintro r w4 ⟨rfl, hb4⟩
                          have HB4 := Lib.hid (bThen hb4 (by omega) HBx.out)
                          have hz4 : w1.heap.size < w4.heap.size := by have := hb4.size; omega
                          clear HCI hb4 g0 g1 g2 b0 b1 b2 b3
                          by_cases hv : wv = 0
                          · subst hv
                            have g2' := HE2.out.2.2.1
                            rw [← HB4.out.cell (p := ⟨w1.heap.size, 2, none⟩) (by simp)] at g2'
                            go_wp2_with fail
                            go_roundw
                            case rel => exact ⟨a + 1, by go_num, by omega, by omega, (HNx2.out (by first | trivial | rfl)).symm.trans HF.out, HB4, hz4⟩
                            case measure => simp [intOf]; omega
                          · have hv2 : (wv != 0) = true := by simpa using hv
                            have HV := Lib.hid hv
                            clear hv
                            go_wp2_with fail
                            go_ret
                            refine ⟨?_, HB0.out.trans ((HB2.out.mono (by omega)).trans (HB4.out.mono (by omega)))⟩
                            have h1 := HF.out.symm.trans (HHt2.out HV.out)
                            rw [HEq.out, ← HE.out, HHt.out (by rw [h1]; exact HV.out), h1]; rfl
                        · have han : a = fN := by omega
                          subst han
                          have h0 := HF.out.symm.trans (firstE_end _ _)
                          go_wp2_with fail
                          go_roundw
                          case rel => exact ⟨k + 1, by go_num, by omega, (HNx.out h0).symm.trans HE.out, HB3, hw3⟩
                          case measure => simp [intOf]; omega
                    · have hkn : k = im.ents.length := by omega
                      subst hkn
                      have h0 := HE.out.symm.trans (firstE_end _ _)
                      go_wp2_with fail
                      go_ret
                      refine ⟨?_, HB0.out.trans (HB.out.mono (by omega))⟩
                      rw [HEq.out, h0]; rfl
                · have hne : (endOf im im.ents.length != (im.code.length : Int)) = true := by simpa using hend
                  have HEq := Lib.hid (chk_l HS.out HDz.out HNz.out HSz.out hend)
                  generalize endOf im im.ents.length = z at hne ⊢
                  go_wp2_with fail
                  go_ret
                  exact ⟨by rw [HEq.out]; rfl, HB0.out.trans (HB.out.mono (by omega))⟩
  · have hc := chk_un hs
    rw [hc]
    go_enter Tryd.func9, Tryd.ntmps9
    by_cases s1 : im.code.length ≤ 4096
    · have s1I : (im.code.length : Int) ≤ 4096 := by omega
      by_cases s2 : im.ents.length ≤ 8
      · have s2I : (im.ents.length : Int) ≤ 8 := by omega
        by_cases s3 : 0 ≤ im.sh ∧ im.sh ≤ 64
        · have s4 : ¬ (0 ≤ im.lk ∧ im.lk ≤ 4) := fun h => hs ⟨s1, s2, s3, h⟩
          have S3 := Lib.hid s3
          have S4 := Lib.hid s4
          clear s3 s4 hs hc
          go_wp2_with fail
          all_goals first | (exfalso; omega) | skip
          refine (between_any _ _ _).mono ?_
          rintro e w' ⟨rfl, rfl⟩
          rw [decide_eq_true S3.out]
          go_wp2_with fail
          all_goals first | (exfalso; omega) | skip
          refine (between_any _ _ _).mono ?_
          rintro e w' ⟨rfl, rfl⟩
          rw [decide_eq_false S4.out]
          go_wp2_with fail
          go_ret
          exact ⟨rfl, HB0.out⟩
        · have S3 := Lib.hid s3
          clear s3 hs hc
          go_wp2_with fail
          all_goals first | (exfalso; omega) | skip
          refine (between_any _ _ _).mono ?_
          rintro e w' ⟨rfl, rfl⟩
          rw [decide_eq_false S3.out]
          go_wp2_with fail
          go_ret
          exact ⟨rfl, HB0.out⟩
      · have s2I : (im.ents.length : Int) > 8 := by omega
        clear hs hc
        go_wp2_with fail
        all_goals first | (exfalso; omega) | skip
        go_ret
        exact ⟨rfl, HB0.out⟩
    · have s1I : (im.code.length : Int) > 4096 := by omega
      clear hs hc
      go_wp2_with fail
      all_goals first | (exfalso; omega) | skip
      go_ret
      exact ⟨rfl, HB0.out⟩
end Go.Proofs.YtepldfnplfhncaaDoor
