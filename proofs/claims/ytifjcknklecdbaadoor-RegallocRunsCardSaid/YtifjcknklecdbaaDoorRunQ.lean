/- The law RegallocRuns: the two runs of a function and of its renamed form give the same. -/
import Derived.Test.YtifjcknklecdbaaDoorRunS
import Derived.Test.YtifjcknklecdbaaDoorRunO
import Derived.Test.YtifjcknklecdbaaDoorRunP
import Derived.Test.YtifjcknklecdbaaDoorMs16
import Derived.Test.YtifjcknklecdbaaDoorLivQ
set_option linter.unusedVariables false
set_option linter.unusedSimpArgs false
namespace Go.Proofs.YtifjcknklecdbaaDoor
open Go.RowKit

set_option maxHeartbeats 12800000 in
set_option maxRecDepth 40000 in
theorem runs_law (nm : ByteArray) (R0 : Int) (av bv sv lv ov iv : Value) (A S : List Arr) (bs : List IBlk) (ls os : List (List Int)) (inp : List Int) (w : World) (hA : ArsAt w av A) (hS : ArsAt w sv S) (hB : BksAt w bv bs) (hok : FnOk A S bs) (hL : RdR32 w lv ls) (hO : RdR32 w ov os) (hI : RdI32 w iv inp)
    (hAl : A.length ≤ 9223372036854775807) (hSl : S.length ≤ 9223372036854775807) (hbl : bs.length ≤ 9223372036854775807) (hcl : ∀ k, k < bs.length → (bs.getD k default).code.length ≤ 9223372036854775807) (hll : ls.length ≤ 9223372036854775807) (hol : os.length ≤ 9223372036854775807) (hl32 : ∀ k, (ls.getD k []).length ≤ 35184372087808) (ho32 : ∀ k, (os.getD k []).length ≤ 35184372087808) (hT : TabZ w) :
    Calls Tryd.prog 3 #[.agg #[.string nm, .int .i64 R0, av, bv], sv, lv, ov, iv] w fun e w' => e = .returned (.bool true) ∧ Below w.heap.size w w' := by
  obtain ⟨ap, ac, rfl⟩ := hA.shape
  obtain ⟨bp, bc, rfl⟩ := hB.shape
  obtain ⟨sp, sc, rfl⟩ := hS.shape
  obtain ⟨lp, lc, rfl⟩ := hL.shape
  obtain ⟨op, oc, rfl⟩ := hO.shape
  obtain ⟨ip, ic, rfl⟩ := hI.shape
  have hb0 : Below w.heap.size w (w.alloc (.cells #[.string nm, .int .i64 R0, .slice ap A.length ac, .slice bp bs.length bc] 25)) := bAlloc (Nat.le_refl _) (Below.refl _ _)
  have HX0 := Lib.hid (RowC2.made w [.string nm, .int .i64 R0, .slice ap A.length ac, .slice bp bs.length bc] 25)
  have HB0 := Lib.hid hb0
  have HA := Lib.hid hA
  have HS := Lib.hid hS
  have HB := Lib.hid hB
  have HOK := Lib.hid hok
  have HL := Lib.hid hL
  have HO := Lib.hid hO
  have HI := Lib.hid hI
  have HCL := Lib.hid hcl
  have HL32 := Lib.hid hl32
  have HO32 := Lib.hid ho32
  have HT := Lib.hid hT
  clear hb0 hA hS hB hok hL hO hI hcl hl32 ho32 hT
  go_enter Tryd.func3, Tryd.ntmps3
  go_wp2_with fail
  refine (awake_any _).mono ?_
  rintro e w1 ⟨rfl, hb1⟩
  have HB1 := Lib.hid (HB0.out.trans (hb1.mono HB0.out.size))
  have HX1 := Lib.hid (HX0.out.below hb1 HX0.out.lt)
  clear hb1 HX0 HB0
  have d0 := HX1.out.at 0 rfl
  have d1 := HX1.out.at 1 rfl
  have d2 := HX1.out.at 2 rfl
  have d3 := HX1.out.at 3 rfl
  have dl := HX1.out.lt
  have HG := Lib.hid (great2_any nm R0 ap A.length ac _ bs w1 (HB.out.below HB1.out (Nat.le_refl _)) hbl hAl HCL.out)
  go_wp2_with fail
  refine HG.out.mono ?_
  rintro e w2 ⟨G, rfl, hb2, hg⟩
  have HB2 := Lib.hid (HB1.out.trans (hb2.mono HB1.out.size))
  have HX2 := Lib.hid (HX1.out.below hb2 HX1.out.lt)
  clear HG hb2 HX1 HB1 d0 d1 d2 d3 dl
  cases G with
  | true =>
    clear hg
    go_wp2_with fail
    go_ret
    exact ⟨rfl, HB2.out⟩
  | false =>
    obtain ⟨r0, r1, r2, r3, r4⟩ := hg rfl
    obtain ⟨R, rfl⟩ := Int.eq_ofNat_of_zero_le r1
    have HC1 : Hid (∀ k, k < bs.length → (bs.getD k default).code.length ≤ 1000) := (show ∀ k, _ → _ from fun k hk => Nat.le_trans (r4 k hk) (by omega))
    have hR : R ≤ 30 := by omega
    clear hg r1 r2 r4
    by_cases hs : (S.length : Int) > 10
    · clear r0 r3 hR
      go_wp2_with fail
      go_ret
      exact ⟨rfl, HB2.out⟩
    by_cases hl : (ls.length : Int) > 10
    · clear r0 r3 hR
      go_wp2_with fail
      go_ret
      exact ⟨rfl, HB2.out⟩
    by_cases ho : (os.length : Int) > 10
    · clear r0 r3 hR
      go_wp2_with fail
      go_ret
      exact ⟨rfl, HB2.out⟩
    have hsN : S.length ≤ 10 := by omega
    have HRI : Hid (∀ W, Below w.heap.size w W → RunIn W (.slice ap A.length ac) (.slice bp bs.length bc) (.slice sp S.length sc) (.slice lp ls.length lc) (.slice op os.length oc) (.slice ip inp.length ic) A S bs ls os inp) := (show ∀ W, _ → _ from fun W hb => RunIn.below ⟨HA.out, HS.out, HB.out, HOK.out, by omega, by omega, by omega, fun k hk => Nat.le_trans (HC1.out k hk) (by omega), HL.out, HO.out, by omega, by omega, HI.out⟩ hb (Nat.le_refl _))
    have d0 := HX2.out.at 0 rfl
    have d1 := HX2.out.at 1 rfl
    have d2 := HX2.out.at 2 rfl
    have d3 := HX2.out.at 3 rfl
    have dl := HX2.out.lt
    have HV := Lib.hid (irValid_any nm R (.slice ap A.length ac) (.slice bp bs.length bc) (.slice sp S.length sc) A S bs w2 (HRI.out w2 HB2.out).a (HRI.out w2 HB2.out).s (HRI.out w2 HB2.out).b HOK.out (by omega) (by omega) (by omega) (fun k hk => Nat.le_trans (HC1.out k hk) (by omega)))
    go_wp2_with fail
    refine HV.out.mono ?_
    rintro e w3 ⟨rfl, hb3⟩
    have HB3 := Lib.hid (HB2.out.trans (hb3.mono HB2.out.size))
    have HX3 := Lib.hid (HX2.out.below hb3 HX2.out.lt)
    clear HV hb3 HX2 HB2 d0 d1 d2 d3 dl
    cases hv : vFun R A S bs with
    | false =>
      clear r0 r3 hR
      go_wp2_with fail
      go_ret
      exact ⟨rfl, HB3.out⟩
    | true =>
      have hwf := wf_of_v hv
      have HWF := Lib.hid hwf
      have HVF := Lib.hid hv
      have HAL := Lib.hid (alloc_any nm R ap A.length ac _ bs w3 (by omega) (HRI.out w3 HB3.out).b (by omega) HC1.out hwf (HT.out.below HB3.out HT.out.1))
      clear hwf hv
      have d0 := HX3.out.at 0 rfl
      have d1 := HX3.out.at 1 rfl
      have d2 := HX3.out.at 2 rfl
      have d3 := HX3.out.at 3 rfl
      have dl := HX3.out.lt
      go_wp2_with fail
      refine HAL.out.mono ?_
      rintro e w4 ⟨C, SS, AA, g, hC, hSS, hAq, rfl, hPl, hb4⟩
      have HB4 := Lib.hid (HB3.out.trans (hb4.mono HB3.out.size))
      have HX4 := Lib.hid (HX3.out.below hb4 HX3.out.lt)
      have hvg : VaG (edgesL R bs) R (placesG C SS AA R) (slN AA SS.length) := vaG (by omega) (fun r hr => edgesL_in HWF.out (by omega) hr) hC hSS hAq
      have HPL := Lib.hid (hPl.rd R)
      generalize placesG C SS AA R = P at hvg HPL
      generalize slN AA SS.length = n at hvg ⊢
      have HVG := Lib.hid hvg
      obtain ⟨As, Os, l, rd, st, er, hAs, hOs, hy1, hy2⟩ := run_both (ls := ls) (os := os) (inp := inp) HVF.out (by omega) hvg hsN HO32.out HL32.out
      have HY1 := Lib.hid hy1
      have HY2 := Lib.hid hy2
      clear HAL hb4 HX3 HB3 d0 d1 d2 d3 dl hC hSS hAq hPl hvg hy1 hy2
      have d0 := HX4.out.at 0 rfl
      have d1 := HX4.out.at 1 rfl
      have d2 := HX4.out.at 2 rfl
      have d3 := HX4.out.at 3 rfl
      have dl := HX4.out.lt
      go_upto_region 6 with fail
      have hb5 : Below w4.heap.size w4 (w4.alloc (.cells #[.slice (some ⟨g, 0, none⟩) R R, .int .i64 n] 33)) := bAlloc (Nat.le_refl _) (Below.refl _ _)
      have HX5 := Lib.hid (HX4.out.below hb5 HX4.out.lt)
      have HP5 := Lib.hid (HPL.out.below hb5 (Nat.le_refl _))
      have HQ5 := Lib.hid (RowC2.made w4 [.slice (some ⟨g, 0, none⟩) R R, .int .i64 n] 33)
      change Hid (RowC2 (w4.alloc (.cells #[.slice (some ⟨g, 0, none⟩) R R, .int .i64 n] 33)) _ _) at HQ5
      have HB5 := Lib.hid (HB4.out.trans (hb5.mono HB4.out.size))
      generalize w4.alloc (.cells #[.slice (some ⟨g, 0, none⟩) R R, .int .i64 n] 33) = w5 at hb5 HX5 HP5 HQ5 HB5 ⊢
      generalize w4.heap.size = b4 at hb5 HQ5 ⊢
      clear hb5 HX4 HB4 HPL d0 d1 d2 d3 dl
      have d0 := HX5.out.at 0 rfl
      have d1 := HX5.out.at 1 rfl
      have d2 := HX5.out.at 2 rfl
      have d3 := HX5.out.at 3 rfl
      have dl := HX5.out.lt
      have q0 := HQ5.out.at 0 rfl
      have q1 := HQ5.out.at 1 rfl
      have ql := HQ5.out.lt
      go_wp2_with fail
      refine (HY1.out w5 _ _ _ _ _ _ _ (HRI.out w5 HB5.out)).mono ?_
      rintro e w6 ⟨va, vo, xo, rfl, ra, ro, rx, hb6, ba, bo, bl⟩
      obtain ⟨vap, vac, rfl⟩ := ra.shape
      obtain ⟨vop, voc, rfl⟩ := ro.shape
      obtain ⟨xp, xc, rfl, hrx⟩ := rx
      have HRA := Lib.hid ra
      have HRO := Lib.hid ro
      have HRX : Hid (RdOut w6 (.slice xp l.length xc) l) := (show RdOut _ _ _ from ⟨xp, xc, rfl, hrx⟩)
      have HBA := Lib.hid ba
      have HBO := Lib.hid bo
      have HB6 := Lib.hid (HB5.out.trans (hb6.mono HB5.out.size))
      have HX6 := Lib.hid (HX5.out.below hb6 HX5.out.lt)
      have HQ6 := Lib.hid (HQ5.out.below hb6 HQ5.out.lt)
      have HP6 := Lib.hid (HP5.out.below hb6 (Nat.le_refl _))
      clear HY1 hb6 HX5 HQ5 HP5 HB5 d0 d1 d2 d3 dl q0 q1 ql ra ro hrx ba bo
      have d0 := HX6.out.at 0 rfl
      have d1 := HX6.out.at 1 rfl
      have d2 := HX6.out.at 2 rfl
      have d3 := HX6.out.at 3 rfl
      have dl := HX6.out.lt
      have q0 := HQ6.out.at 0 rfl
      have q1 := HQ6.out.at 1 rfl
      have ql := HQ6.out.lt
      go_upto_region 9 with fail
      have hb7 : Below w6.heap.size w6 (w6.alloc (.cells #[.slice vap As.length vac, .slice vop Os.length voc, .slice xp l.length xc, .int .i64 rd, .int .i64 st, .int .i64 er] 39)) := bAlloc (Nat.le_refl _) (Below.refl _ _)
      have HZ7 := Lib.hid (RowC2.made w6 [.slice vap As.length vac, .slice vop Os.length voc, .slice xp l.length xc, .int .i64 rd, .int .i64 st, .int .i64 er] 39)
      have HX7 := Lib.hid (HX6.out.below hb7 HX6.out.lt)
      have HQ7 := Lib.hid (HQ6.out.below hb7 HQ6.out.lt)
      have HP7 := Lib.hid (HP6.out.below hb7 (Nat.le_refl _))
      have HA7 := Lib.hid (HRA.out.below hb7 (Nat.le_refl _))
      have HO7 := Lib.hid (HRO.out.below hb7 (Nat.le_refl _))
      have HR7 := Lib.hid (HRX.out.below hb7 (Nat.le_refl _))
      have HB7 := Lib.hid (HB6.out.trans (hb7.mono HB6.out.size))
      change Hid (RowC2 (w6.alloc (.cells #[.slice vap As.length vac, .slice vop Os.length voc, .slice xp l.length xc, .int .i64 rd, .int .i64 st, .int .i64 er] 39)) _ _) at HZ7
      generalize w6.alloc (.cells #[.slice vap As.length vac, .slice vop Os.length voc, .slice xp l.length xc, .int .i64 rd, .int .i64 st, .int .i64 er] 39) = w7 at hb7 HZ7 HX7 HQ7 HP7 HA7 HO7 HR7 HB7 ⊢
      generalize w6.heap.size = b6 at hb7 HZ7 ⊢
      clear hb7 HX6 HQ6 HP6 HRA HRO HRX HB6 d0 d1 d2 d3 dl q0 q1 ql
      have d0 := HX7.out.at 0 rfl
      have d1 := HX7.out.at 1 rfl
      have d2 := HX7.out.at 2 rfl
      have d3 := HX7.out.at 3 rfl
      have dl := HX7.out.lt
      have q0 := HQ7.out.at 0 rfl
      have q1 := HQ7.out.at 1 rfl
      have ql := HQ7.out.lt
      have HRN := Lib.hid (renamed_any nm (by omega) HVG.out HP7.out (HRI.out w7 HB7.out).b (by omega) HC1.out ⟨ap, A.length, ac, rfl⟩)
      go_wp2_with fail
      refine HRN.out.mono ?_
      rintro e w8 ⟨vb, rfl, hvb, hb8⟩
      have HB8 := Lib.hid (HB7.out.trans (hb8.mono HB7.out.size))
      have HZ8 := Lib.hid (HZ7.out.below hb8 HZ7.out.lt)
      have HA8 := Lib.hid (HA7.out.below hb8 (Nat.le_refl _))
      have HO8 := Lib.hid (HO7.out.below hb8 (Nat.le_refl _))
      have HR8 := Lib.hid (HR7.out.below hb8 (Nat.le_refl _))
      have hv2 : vFun (8 + n) A S (bs.map (renK (numP R P))) = true := by
        obtain ⟨R', hR'⟩ : ∃ R' : Nat, 8 + n = (R' : Int) := ⟨(8 + n).toNat, by have := HVG.out.pos; omega⟩
        rw [hR']
        exact (runs_alike apW (idxN A S) inp HVF.out (by omega) HVG.out hR' 500 (memL ls os A.length)).2
      have HI8 : Hid (RunIn w8 (.slice ap A.length ac) vb (.slice sp S.length sc) (.slice lp ls.length lc) (.slice op os.length oc) (.slice ip inp.length ic) A S (bs.map (renK (numP R P))) ls os inp) := (show RunIn _ _ _ _ _ _ _ _ _ _ _ _ _ by
        have h := HRI.out w8 HB8.out
        refine ⟨h.a, h.s, hvb, fnOk_ren h.ok (by have := HVG.out.big; omega) hv2, h.al, h.sl, by rw [List.length_map]; exact h.bl, fun k hk => ?_, h.l, h.o, h.ll, h.ol, h.i⟩
        have hk' : k < bs.length := by simpa using hk
        rw [map_at _ _ hk']
        have := h.cl k hk'
        simpa [renK] using this)
      clear HRN hb8 hvb hv2 HX7 HQ7 HP7 HZ7 HA7 HO7 HR7 HB7 d0 d1 d2 d3 dl q0 q1 ql
      have HY := Lib.hid (HY2.out w8 _ _ _ _ _ _ nm HI8.out)
      clear HI8 HY2
      go_wp2_with fail
      refine HY.out.mono ?_
      rintro e w9 ⟨va2, vo2, xo2, rfl, ra2, ro2, rx2, hb9, -, -, -⟩
      obtain ⟨vap2, vac2, rfl⟩ := ra2.shape
      obtain ⟨vop2, voc2, rfl⟩ := ro2.shape
      obtain ⟨xp2, xc2, rfl, hrx2⟩ := rx2
      have HRA2 := Lib.hid ra2
      have HRO2 := Lib.hid ro2
      have HRX2 : Hid (RdOut w9 (.slice xp2 l.length xc2) l) := (show RdOut _ _ _ from ⟨xp2, xc2, rfl, hrx2⟩)
      have HB9 := Lib.hid (HB8.out.trans (hb9.mono HB8.out.size))
      have HZ9 := Lib.hid (HZ8.out.below hb9 HZ8.out.lt)
      have HA9 := Lib.hid (HA8.out.below hb9 (Nat.le_refl _))
      have HO9 := Lib.hid (HO8.out.below hb9 (Nat.le_refl _))
      have HR9 := Lib.hid (HR8.out.below hb9 (Nat.le_refl _))
      clear HY hb9 ra2 ro2 hrx2 HZ8 HA8 HO8 HR8 HB8
      go_upto_region 10 with fail
      have hb10 : Below w9.heap.size w9 (w9.alloc (.cells #[.slice vap2 As.length vac2, .slice vop2 Os.length voc2, .slice xp2 l.length xc2, .int .i64 rd, .int .i64 st, .int .i64 er] 39)) := bAlloc (Nat.le_refl _) (Below.refl _ _)
      have HW10 := Lib.hid (RowC2.made w9 [.slice vap2 As.length vac2, .slice vop2 Os.length voc2, .slice xp2 l.length xc2, .int .i64 rd, .int .i64 st, .int .i64 er] 39)
      have HZ10 := Lib.hid (HZ9.out.below hb10 HZ9.out.lt)
      have HA10 := Lib.hid (HA9.out.below hb10 (Nat.le_refl _))
      have HO10 := Lib.hid (HO9.out.below hb10 (Nat.le_refl _))
      have HR10 := Lib.hid (HR9.out.below hb10 (Nat.le_refl _))
      have HA20 := Lib.hid (HRA2.out.below hb10 (Nat.le_refl _))
      have HO20 := Lib.hid (HRO2.out.below hb10 (Nat.le_refl _))
      have HR20 := Lib.hid (HRX2.out.below hb10 (Nat.le_refl _))
      have HB10 := Lib.hid (HB9.out.trans (hb10.mono HB9.out.size))
      change Hid (RowC2 (w9.alloc (.cells #[.slice vap2 As.length vac2, .slice vop2 Os.length voc2, .slice xp2 l.length xc2, .int .i64 rd, .int .i64 st, .int .i64 er] 39)) _ _) at HW10
      generalize w9.alloc (.cells #[.slice vap2 As.length vac2, .slice vop2 Os.length voc2, .slice xp2 l.length xc2, .int .i64 rd, .int .i64 st, .int .i64 er] 39) = w10 at hb10 HW10 HZ10 HA10 HO10 HR10 HA20 HO20 HR20 HB10 ⊢
      generalize w9.heap.size = b9 at hb10 HW10 ⊢
      clear hb10 HZ9 HA9 HO9 HR9 HRA2 HRO2 HRX2 HB9
      have z0 := HZ10.out.at 0 rfl
      have z1 := HZ10.out.at 1 rfl
      have z2 := HZ10.out.at 2 rfl
      have z3 := HZ10.out.at 3 rfl
      have z4 := HZ10.out.at 4 rfl
      have z5 := HZ10.out.at 5 rfl
      have zl := HZ10.out.lt
      have x0 := HW10.out.at 0 rfl
      have x1 := HW10.out.at 1 rfl
      have x2 := HW10.out.at 2 rfl
      have x3 := HW10.out.at 3 rfl
      have x4 := HW10.out.at 4 rfl
      have x5 := HW10.out.at 5 rfl
      have xl := HW10.out.lt
      go_wp2_with fail
      go_loopw [101] (fun s101 wx => ∃ k : Nat, s101 = .int .i64 k ∧ k ≤ l.length ∧ Hid (Below w10.heap.size w10 wx)) (fun s101 _ => l.length - (intOf s101).toNat)
      case atStart => exact ⟨0, rfl, Nat.zero_le _, Below.refl _ _⟩
      case round =>
        clear z0 z1 z2 z3 z4 z5 zl x0 x1 x2 x3 x4 x5 xl
        obtain ⟨k, rfl, hk, hbk⟩ := hrel
        obtain ⟨w11, rfl⟩ : ∃ W : World, W = wr := ⟨_, rfl⟩
        have HZ11 := Lib.hid (HZ10.out.below hbk.out HZ10.out.lt)
        have HW11 := Lib.hid (HW10.out.below hbk.out HW10.out.lt)
        have z0 := HZ11.out.at 0 rfl
        have z1 := HZ11.out.at 1 rfl
        have z2 := HZ11.out.at 2 rfl
        have z3 := HZ11.out.at 3 rfl
        have z4 := HZ11.out.at 4 rfl
        have z5 := HZ11.out.at 5 rfl
        have zl := HZ11.out.lt
        have x0 := HW11.out.at 0 rfl
        have x1 := HW11.out.at 1 rfl
        have x2 := HW11.out.at 2 rfl
        have x3 := HW11.out.at 3 rfl
        have x4 := HW11.out.at 4 rfl
        have x5 := HW11.out.at 5 rfl
        have xl := HW11.out.lt
        by_cases hlt : k < l.length
        · skip
          have hkI : (k : Int) < l.length := by omega
          obtain ⟨xp', xc', e, hx1⟩ := HR10.out.below hbk.out (Nat.le_refl _)
          cases e
          obtain ⟨m1, rfl, l1, y1, y1'⟩ := hx1 k hlt
          obtain ⟨xp2', xc2', e, hx2⟩ := HR20.out.below hbk.out (Nat.le_refl _)
          cases e
          obtain ⟨m2, rfl, l2, y2, y2'⟩ := hx2 k hlt
          rw [Nat.mul_comm 2 k] at y1 y1' y2 y2'
          generalize (l.getD k (0, 0)).1 = px at y1 y2
          generalize (l.getD k (0, 0)).2 = py at y1' y2'
          clear hx1 hx2
          go_wp2_with fail
          go_quiet (fail)
          have HB12 : Hid (Below w10.heap.size w10 (w11.drewN nq)) := (show Below _ _ _ from bDrewN hbk.out)
          generalize w11.drewN nq = w12 at HB12 ⊢
          go_wp2_with fail
          go_roundw
          case rel => exact ⟨k + 1, by go_num, by omega, HB12⟩
          case measure => simp [intOf]; omega
        · skip
          obtain rfl : k = l.length := by omega
          clear hk hlt
          have HM1 := Lib.hid (words_same _ _ As w11 (HA10.out.below hbk.out (Nat.le_refl _)) (HA20.out.below hbk.out (Nat.le_refl _)) (by omega) HBA.out)
          go_wp2_with fail
          refine HM1.out.mono ?_
          rintro e w12 ⟨rfl, hb12⟩
          have HB12 := Lib.hid (hbk.out.trans (hb12.mono hbk.out.size))
          have HZ12 := Lib.hid (HZ10.out.below HB12.out HZ10.out.lt)
          have HW12 := Lib.hid (HW10.out.below HB12.out HW10.out.lt)
          clear HM1 hb12 HZ11 HW11 z0 z1 z2 z3 z4 z5 zl x0 x1 x2 x3 x4 x5 xl
          have z0 := HZ12.out.at 0 rfl
          have z1 := HZ12.out.at 1 rfl
          have z2 := HZ12.out.at 2 rfl
          have z3 := HZ12.out.at 3 rfl
          have z4 := HZ12.out.at 4 rfl
          have z5 := HZ12.out.at 5 rfl
          have zl := HZ12.out.lt
          have x0 := HW12.out.at 0 rfl
          have x1 := HW12.out.at 1 rfl
          have x2 := HW12.out.at 2 rfl
          have x3 := HW12.out.at 3 rfl
          have x4 := HW12.out.at 4 rfl
          have x5 := HW12.out.at 5 rfl
          have xl := HW12.out.lt
          have HM2 := Lib.hid (words_same _ _ Os w12 (HO10.out.below HB12.out (Nat.le_refl _)) (HO20.out.below HB12.out (Nat.le_refl _)) (by omega) HBO.out)
          go_wp2_with fail
          refine HM2.out.mono ?_
          rintro e w13 ⟨rfl, hb13⟩
          go_wp2_with fail
          go_ret
          exact ⟨rfl, HB10.out.trans ((HB12.out.trans (hb13.mono HB12.out.size)).mono HB10.out.size)⟩
end Go.Proofs.YtifjcknklecdbaaDoor
