/- The law CodegenCounters. -/
import Derived.Test.YtlajdcikhbocdaaDoorMgP
import Derived.Test.YtlajdcikhbocdaaDoorMgN
set_option linter.unusedVariables false
set_option linter.unusedSimpArgs false
namespace Go.Proofs.YtlajdcikhbocdaaDoor
open Go.RowKit Go.Maps

theorem okI_mk {o : Nat} {a b c i : Int} (h0 : o < 256) (h1 : wK a) (h2 : wK b) (h3 : wK c) (h4 : wK i) : okI ⟨o, a, b, c, i⟩ := ⟨h0, h1, h2, h3, h4⟩
theorem vG_okI {i : GI} (h : vG i = true) : okI i := by
  have h0 := vG_op h
  obtain ⟨o, a, b, c, im⟩ := i
  obtain ⟨hn, a0, a1, b0, b1, c0, c1, i0, i1⟩ := vld_bd (show vld o a b c im = true from h)
  exact ⟨by show o < 256; omega, by unfold wK; show -9223372036854775808 ≤ a ∧ a ≤ _; omega, by unfold wK; show -9223372036854775808 ≤ b ∧ b ≤ _; omega, by unfold wK; show -9223372036854775808 ≤ c ∧ c ≤ _; omega, by unfold wK; show -9223372036854775808 ≤ im ∧ im ≤ _; omega⟩
theorem fwr_ne {op : Nat} (h : fwr op = true) : ((op : Int) == 25) = false := beq_eq_false_iff_ne.2 fun e => by
  have h2 : op = 25 := by omega
  rw [h2] at h
  exact absurd h (by decide)
/-- What is known of an instruction that counts: its operands are small. -/
theorem vB_counters {R : Int} {A S : List Arr} {bs : List IBlk} (h : vFun R A S bs = true) {k : Nat} (hk : k < bs.length) (j : Nat) (hj : j < (bs.getD k default).code.length) (o : Nat) (ho : ((bs.getD k default).code.getD j default).op = o) :
    o = 13 ∨ o = 14 ∨ o = 16 → (-1000000 ≤ ((bs.getD k default).code.getD j default).imm ∧ ((bs.getD k default).code.getD j default).imm ≤ 1000000) ∧ (-1000000 ≤ ((bs.getD k default).code.getD j default).x ∧ ((bs.getD k default).code.getD j default).x ≤ 1000000) := by
  have hI : ∃ K, vIns R K ((bs.getD k default).code.getD j default) = true := by
    exact ⟨_, ((vBlk_iff _ _ _ _).1 (((vFun_iff R A S bs).1 h).2.2.2.2.2 k hk)).1 j hj⟩
  obtain ⟨K, hI⟩ := hI
  generalize (bs.getD k default).code.getD j default = i at hI ho ⊢
  unfold vIns at hI
  rintro (rfl | rfl | rfl)
  all_goals (
    simp [ho, bw, isz] at hI
    omega)

set_option maxHeartbeats 6400000 in
set_option maxRecDepth 20000 in
theorem countersLaw (nm : ByteArray) (R : Int) (av bv sv : Value) (A S : List Arr) (bs : List IBlk) (w : World) (hT : Tab w) (hZ : TabZ w) (hF : FnIn w av bv A bs) (hS : ArsAt w sv S) (hSx : ∀ k, k < S.length → (S.getD k default).1.size ≤ maxLen) (hSl : S.length ≤ 9223372036854775807) :
    Calls Tryd.prog 8 #[.agg #[.string nm, .int .i64 R, av, bv], sv] w fun e w' => e = .returned (.bool true) ∧ Below w.heap.size w w' := by
  obtain ⟨ap, ac, rfl⟩ := hF.a.shape
  obtain ⟨bp, bc, rfl⟩ := hF.b.shape
  obtain ⟨spp, sc, rfl⟩ := hS.shape
  obtain ⟨W1, hW1⟩ : ∃ W : World, W = w.alloc (.cells #[.string nm, .int .i64 R, .slice ap A.length ac, .slice bp bs.length bc] 25) := ⟨_, rfl⟩
  have hb0 : Below w.heap.size w W1 := by rw [hW1]; exact bAlloc (Nat.le_refl _) (Below.refl _ _)
  have HL1 := Lib.hid (show LawAt w W1 nm R (.slice ap A.length ac) (.slice bp bs.length bc) A bs W1 from ⟨Below.refl _ _, hF.below hb0, hT.of_below hb0, hZ.of_below hb0, by rw [hW1]; exact RowC2.made w _ 25⟩)
  have HS1 := Lib.hid (hS.below hb0 (Nat.le_refl _))
  have HB0 := Lib.hid hb0
  have HSX := Lib.hid hSx
  clear hb0 hF hT hZ hS hSx
  go_enter Tryd.func8, Tryd.ntmps8
  go_upto_region 1 with fail
  rw [← hW1]
  clear hW1
  go_wp2_with fail
  refine (awake21 W1 HL1.out.tab HL1.out.tz).mono ?_
  rintro e w2 ⟨rfl, hb2⟩
  have HL2 := Lib.hid (HL1.out.keep hb2)
  have HS2 := Lib.hid (HS1.out.below hb2 (Nat.le_refl _))
  clear hb2 HL1 HS1
  have r0 := HL2.out.row
  have rl := r0.lt
  have q0 := r0.at 0 rfl
  have q1 := r0.at 1 rfl
  have q2 := r0.at 2 rfl
  have q3 := r0.at 3 rfl
  clear r0
  go_wp2_with fail
  by_cases hsm : Small R A bs
  · refine (small_any nm R _ _ A bs w2 HL2.out.fn.a HL2.out.fn.b 1 (fun _ => rfl) (fun h => absurd hsm h)).mono ?_
    rintro e w3 ⟨rfl, hb3⟩
    have HL3 := Lib.hid (HL2.out.keep hb3)
    have HS3 := Lib.hid (HS2.out.below hb3 (Nat.le_refl _))
    have HSM := Lib.hid hsm
    clear hb3 HL2 HS2 hsm rl q0 q1 q2 q3
    by_cases h4 : 4 < S.length
    · have h4I : (S.length : Int) > 4 := by omega
      clear h4
      go_wp2_with fail
      go_ret
      exact ⟨rfl, HB0.out.trans (HL3.out.bel.mono HB0.out.size)⟩
    have h4I : ¬ (S.length : Int) > 4 := by omega
    have HS4 := Lib.hid (show S.length ≤ 10000 by omega)
    have hs4 : S.length ≤ 4 := by omega
    clear h4 hSl
    go_wp2_with fail
    clear h4I
    refine (short_any _ S w3 HS3.out hs4).mono ?_
    rintro e w4 ⟨sb, rfl, hb4⟩
    have HL4 := Lib.hid (HL3.out.keep hb4)
    have HS4' := Lib.hid (HS3.out.below hb4 (Nat.le_refl _))
    clear hb4 HL3 HS3 hs4
    cases sb with
    | false =>
      go_wp2_with fail
      go_ret
      exact ⟨rfl, HB0.out.trans (HL4.out.bel.mono HB0.out.size)⟩
    | true =>
      have r0 := HL4.out.row
      have rl := r0.lt
      have q0 := r0.at 0 rfl
      have q1 := r0.at 1 rfl
      have q2 := r0.at 2 rfl
      have q3 := r0.at 3 rfl
      clear r0
      go_wp2_with fail
      refine (HL4.out.fn.valid HSM.out nm HS4'.out HSX.out HS4.out).mono ?_
      rintro e w5 ⟨rfl, hb5⟩
      have HL5 := Lib.hid (HL4.out.keep hb5)
      clear hb5 HL4 HS4' rl q0 q1 q2 q3
      by_cases hv : vFun R A S bs = true
      · rw [hv]
        obtain ⟨h0, h1, -⟩ := (vFun_iff _ _ _ _).1 hv
        obtain ⟨Rn, rfl⟩ := Int.eq_ofNat_of_zero_le h1.1
        have ha := arr_small hv
        have hA4 := ha.1
        have had := addrG_small (fun k hk => (ha.2 k hk).2) A.length (Nat.le_refl _)
        have HVF := Lib.hid hv
        clear h0 h1 ha
        have hbl := HSM.out.1
        have r0 := HL5.out.row
        have rl := r0.lt
        have q0 := r0.at 0 rfl
        have q1 := r0.at 1 rfl
        have q2 := r0.at 2 rfl
        have q3 := r0.at 3 rfl
        clear r0
        go_wp2_with fail
        refine (task_yes nm Rn _ _ A bs w5 (HL5.out.fn.tk HSM.out HL5.out.tz) (vFun_ment hv) (by have := HSM.out.2.1; omega)).mono ?_
        rintro e w6 ⟨c, n, cv, rv, rfl, ⟨hp, hn⟩, hc, hr, hb6⟩
        have HAO := Lib.hid (all_ok hn hp hv HSM.out.1 HSM.out.tot (data := addrG A A.length + n) (by omega))
        have HL6 := Lib.hid (HL5.out.keep hb6)
        have HG := Lib.hid (GsRd.of_own hc)
        have hrf := RfRd.of_own hr
        generalize resG (allG c n bs) = code at HG HAO
        have hlen : code.length ≤ 4096 := by rw [HAO.out.2.1.2]; exact HAO.out.2.1.1
        have HVG := Lib.hid (val_all HAO.out.1)
        have HAO := Lib.hid HAO.out.2.2
        generalize (allG c n bs).refs = refs at hrf
        obtain ⟨cvp, cvc, rfl⟩ := HG.out.shape
        obtain ⟨rvp, rvc, rfl, -, -⟩ := id hrf
        generalize addrG A A.length + (n : Int) = data
        clear hp hn hc hr hb6 hrf hv had hA4 HL5 rl q0 q1 q2 q3
        have HRO := Lib.hid (RowC2.made w6 [.string nm, .slice cvp code.length cvc, .int .i64 data, .slice rvp refs.length rvc] 31)
        have HBX := Lib.hid (show ∀ o : Obj, Below w6.heap.size w6 (w6.alloc o) from fun o => bAlloc (Nat.le_refl _) (Below.refl _ _))
        go_upto_region 6 with fail
        obtain ⟨w7, hw7⟩ : ∃ W : World, W = w6.alloc (.cells #[.string nm, .slice cvp code.length cvc, .int .i64 data, .slice rvp refs.length rvc] 31) := ⟨_, rfl⟩
        have hb7 : Below w6.heap.size w6 w7 := by rw [hw7]; exact HBX.out _
        have HRO : Hid (RowC2 w7 w6.heap.size [.string nm, .slice cvp code.length cvc, .int .i64 data, .slice rvp refs.length rvc]) := by rw [hw7]; exact HRO
        rw [← hw7]
        clear hw7 HBX
        have HL7 := Lib.hid (HL6.out.keep hb7)
        have HG7 := Lib.hid (HG.out.below hb7 (Nat.le_refl _))
        have HW7 := Lib.hid (HL7.out.bel)
        clear hb7 HL6 HG
        have hmm := @run_makeMap Tryd.prog
        have HR0 := Lib.hid (CtRel.made KyI w7)
        go_wp2_with fail
        clear hmm
        go_loopw [8] (fun s8 wx => ∃ k : Nat, s8 = .int .i64 k ∧ k ≤ bs.length ∧ Hid (CtRel KyI w7 (cB bs k) [] wx)) (fun s8 _ => bs.length - (intOf s8).toNat)
        case atStart => exact ⟨0, rfl, Nat.zero_le _, HR0⟩
        case round =>
          clear HR0
          obtain ⟨k, rfl, hk, HV⟩ := hrel
          obtain ⟨w8, rfl⟩ : ∃ W : World, W = wr := ⟨_, rfl⟩
          have HRW := Lib.hid (HL7.out.row.below HV.out.bel HL7.out.row.lt)
          have f3 := HRW.out.at 3 rfl
          have fl := HRW.out.lt
          by_cases hlt : k < bs.length
          · have hltI : (k : Int) < bs.length := by omega
            have hL1n : (cB bs k).length ≤ 321 := by have h1 := cB_len bs k; have h2 := sum_le bs hk; have h3 := HSM.out.tot; omega
            have hcl := (HSM.out.2.2.2 k hlt).1
            have HVN := Lib.hid (vB_counters HVF.out hlt)
            have HMB2 := Lib.hid (cB_next bs k)
            obtain ⟨_, _, e1, hen⟩ := HL7.out.fn.b
            injection e1 with e1 e2 e3
            subst e1 e3
            obtain ⟨m, off, cp, cc, rfl, hm, hins, n0, -⟩ := hen k hlt
            clear hen e2
            have HN0 := Lib.hid n0
            have HM := Lib.hid hm
            clear n0 hm
            generalize bs.getD k default = en at hins hcl HVN HMB2 HN0
            obtain ⟨code2, kind, x, tg, els⟩ := en
            simp only at hins hcl HVN HMB2 HN0
            generalize cB bs k = L1 at HV HMB2 hL1n
            have HI1 := Lib.hid hins
            clear hins
            go_wp2_with fail
            clear f3 fl HRW
            go_loopw [9] (fun s9 wx => ∃ j : Nat, s9 = .int .i64 j ∧ j ≤ code2.length ∧ Hid (CtRel KyI w7 (L1 ++ cI code2 j) [] wx)) (fun s9 _ => code2.length - (intOf s9).toNat)
            case atStart => exact ⟨0, rfl, Nat.zero_le _, (show CtRel KyI w7 (L1 ++ cI code2 0) [] _ by rw [show cI code2 0 = [] from rfl, List.append_nil]; exact HV.out)⟩
            case round =>
              clear HV
              obtain ⟨j, rfl, hj, HV2⟩ := hrel
              obtain ⟨w10, rfl⟩ : ∃ W : World, W = wr := ⟨_, rfl⟩
              have HRW := Lib.hid (HL7.out.row.below HV2.out.bel HL7.out.row.lt)
              have f3 := HRW.out.at 3 rfl
              have fl := HRW.out.lt
              have n0 := (HV2.out.bel.cell (p := ⟨m, off + k * 5, none⟩) HM.out).trans HN0.out
              have hm2 : m < w10.heap.size := Nat.lt_of_lt_of_le HM.out HV2.out.bel.size
              by_cases hltj : j < code2.length
              · have hltJ : (j : Int) < code2.length := by omega
                have HVI := Lib.hid (HVN.out j hltj)
                have hil : (L1 ++ cI code2 j).length ≤ 400 := by rw [List.length_append]; have := cI_len code2 j; omega
                have HMI := Lib.hid (show L1 ++ cI code2 (j + 1) = (L1 ++ cI code2 j) ++ cT (code2.getD j default) by rw [List.append_assoc]; rfl)
                obtain ⟨_, _, e1, hen⟩ := HI1.out
                injection e1 with e1 e2 e3
                subst e1 e3
                obtain ⟨m2, off2, rfl, hm3, i0, i1, i2, i3, i4, i5⟩ := hen j hltj
                clear hen e2
                rw [← HV2.out.bel.cell (p := ⟨m2, off2 + j * 6, none⟩) hm3] at i0
                rw [← HV2.out.bel.cell (p := ⟨m2, off2 + j * 6 + 1, none⟩) hm3] at i1
                rw [← HV2.out.bel.cell (p := ⟨m2, off2 + j * 6 + 2, none⟩) hm3] at i2
                rw [← HV2.out.bel.cell (p := ⟨m2, off2 + j * 6 + 3, none⟩) hm3] at i3
                rw [← HV2.out.bel.cell (p := ⟨m2, off2 + j * 6 + 4, none⟩) hm3] at i4
                rw [← HV2.out.bel.cell (p := ⟨m2, off2 + j * 6 + 5, none⟩) hm3] at i5
                have hm4 : m2 < w10.heap.size := Nat.lt_of_lt_of_le hm3 HV2.out.bel.size
                generalize code2.getD j default = ii at i0 i1 i2 i3 i4 i5 HVI HMI
                obtain ⟨op, dst, xx, yy, imm, sym⟩ := ii
                simp only at i0 i1 i2 i3 i4 i5 HVI HMI
                generalize L1 ++ cI code2 j = L2 at HV2 HMI hil
                have HV3 := Lib.hid (HV2.out.keep (w' := w10.alloc (.cells #[.int .u8 op, .int .i64 dst, .int .i64 xx, .int .i64 yy, .int .i64 imm, .string sym] 51)) (bAlloc (Nat.le_refl _) (Below.refl _ _)))
                have HR := Lib.hid (RowC2.made w10 [.int .u8 op, .int .i64 dst, .int .i64 xx, .int .i64 yy, .int .i64 imm, .string sym] 51)
                clear HV2
                go_upto_region 16 with fail
                obtain ⟨w11, hw11⟩ : ∃ W : World, W = w10.alloc (.cells #[.int .u8 op, .int .i64 dst, .int .i64 xx, .int .i64 yy, .int .i64 imm, .string sym] 51) := ⟨_, rfl⟩
                rw [← hw11] at HV3 HR ⊢
                clear hw11 i0 i1 i2 i3 i4 i5 hm4 hm2 n0 f3 fl HRW hm3
                have q0 := HR.out.at 0 rfl
                have q2 := HR.out.at 2 rfl
                have q4 := HR.out.at 4 rfl
                have ql := HR.out.lt
                rcases (show op = 13 ∨ op = 14 ∨ op = 16 ∨ (op ≠ 13 ∧ op ≠ 14 ∧ op ≠ 16) by omega) with g | g | g | ⟨g13, g14, g16⟩
                · have HOT := Lib.hid (show L1 ++ cI code2 (j + 1) = L2 ++ [(⟨14, (10 + imm), 0, 0, 0⟩ : GI)] from HMI.out.trans (by rw [g]; rfl))
                  have hvb := HVI.out 13 g (by decide)
                  have HOKK := Lib.hid (show okI (⟨14, (10 + imm), 0, 0, 0⟩ : GI) from okI_mk (by omega) (by unfold wK; omega) (by unfold wK; omega) (by unfold wK; omega) (by unfold wK; omega))
                  have hw10 : IntKind.i64.wrap (10 + imm) = 10 + imm := IntWalk.i64_in _ ⟨by omega, by omega⟩
                  have f13 : ((op : Int) == 13) = true := beq_iff_eq.2 (by omega)
                  obtain ⟨cq, hcq⟩ : ∃ q, bal L2 ([] : List GI) (⟨14, (10 + imm), 0, 0, 0⟩ : GI) = q := ⟨_, rfl⟩
                  have hbd := bal_bd L2 ([] : List GI) (⟨14, (10 + imm), 0, 0, 0⟩ : GI) (by have := @List.length_nil GI; omega)
                  rw [hcq] at hbd
                  have HD := Lib.hid (HV3.out.keep (show Below w11.heap.size w11 w11.drew from (Below.drew (Below.refl _ _))))
                  have hl1 : (Instr.lookup 56 (.map (some w7.heap.size)) (.agg #[.int .u8 14, .int .i64 (10 + imm), .int .i64 0, .int .i64 0, .int .i64 0]) false).run Tryd.prog w11.drew = .ok (.int .i64 (bal L2 ([] : List GI) (⟨14, (10 + imm), 0, 0, 0⟩ : GI))) w11.drew := HD.out.ct.look (e := 3) Tryd.underlying56 (zeroI _) (⟨14, (10 + imm), 0, 0, 0⟩ : GI) HOKK.out
                  obtain ⟨v0, st, w12, hme, hl2, hss⟩ := HD.out.ct.entry lawGI (t := 56) (e := 3) Tryd.underlying56 zeroI (⟨14, (10 + imm), 0, 0, 0⟩ : GI) HOKK.out (by have := @List.length_nil GI; omega)
                  rw [hcq] at hl1 hl2 hss
                  obtain ⟨⟨w13, hst, hct, hgr⟩, -⟩ := hss
                  have hme : (Instr.mapEntry 56 (.map (some w7.heap.size)) (.agg #[.int .u8 14, .int .i64 (10 + imm), .int .i64 0, .int .i64 0, .int .i64 0])).run Tryd.prog w11.drew = .ok (.tuple #[v0, .int .i64 st]) w12 := hme
                  have hl2 : (Instr.lookup 56 (.map (some w7.heap.size)) (.agg #[.int .u8 14, .int .i64 (10 + imm), .int .i64 0, .int .i64 0, .int .i64 0]) false).run Tryd.prog w12 = .ok (.int .i64 cq) w12 := hl2
                  have HN := Lib.hid (show CtRel KyI w7 (L2 ++ [(⟨14, (10 + imm), 0, 0, 0⟩ : GI)]) ([] : List GI) w13 from HD.out.turn hgr hct)
                  have hwr : IntKind.i64.wrap (cq + 1) = cq + 1 := IntWalk.i64_in _ ⟨by omega, by omega⟩
                  clear hcq hbd hct hgr HD
                  clear g hil hvb
                  go_upto_region 18 with fail
                  go_region
                  all_goals (
                    clear hme hl1 hl2 hst hwr hw10 f13
                    go_wp2_with fail
                    go_roundw
                    case rel => exact ⟨j + 1, by go_num, by omega, (show CtRel KyI w7 _ [] _ by rw [HOT.out]; exact HN.out)⟩
                    case measure => simp [intOf]; omega)
                · have HOT := Lib.hid (show L1 ++ cI code2 (j + 1) = L2 ++ [(⟨15, (10 + imm), (10 + imm), 0, 1⟩ : GI)] from HMI.out.trans (by rw [g]; rfl))
                  have hvb := HVI.out 14 g (by decide)
                  have HOKK := Lib.hid (show okI (⟨15, (10 + imm), (10 + imm), 0, 1⟩ : GI) from okI_mk (by omega) (by unfold wK; omega) (by unfold wK; omega) (by unfold wK; omega) (by unfold wK; omega))
                  have hw10 : IntKind.i64.wrap (10 + imm) = 10 + imm := IntWalk.i64_in _ ⟨by omega, by omega⟩
                  have f13 : ((op : Int) == 13) = false := beq_eq_false_iff_ne.2 (by omega)
                  have f14 : ((op : Int) == 14) = true := beq_iff_eq.2 (by omega)
                  obtain ⟨cq, hcq⟩ : ∃ q, bal L2 ([] : List GI) (⟨15, (10 + imm), (10 + imm), 0, 1⟩ : GI) = q := ⟨_, rfl⟩
                  have hbd := bal_bd L2 ([] : List GI) (⟨15, (10 + imm), (10 + imm), 0, 1⟩ : GI) (by have := @List.length_nil GI; omega)
                  rw [hcq] at hbd
                  have HD := Lib.hid (HV3.out.keep (show Below w11.heap.size w11 w11.drew from (Below.drew (Below.refl _ _))))
                  have hl1 : (Instr.lookup 56 (.map (some w7.heap.size)) (.agg #[.int .u8 15, .int .i64 (10 + imm), .int .i64 (10 + imm), .int .i64 0, .int .i64 1]) false).run Tryd.prog w11.drew = .ok (.int .i64 (bal L2 ([] : List GI) (⟨15, (10 + imm), (10 + imm), 0, 1⟩ : GI))) w11.drew := HD.out.ct.look (e := 3) Tryd.underlying56 (zeroI _) (⟨15, (10 + imm), (10 + imm), 0, 1⟩ : GI) HOKK.out
                  obtain ⟨v0, st, w12, hme, hl2, hss⟩ := HD.out.ct.entry lawGI (t := 56) (e := 3) Tryd.underlying56 zeroI (⟨15, (10 + imm), (10 + imm), 0, 1⟩ : GI) HOKK.out (by have := @List.length_nil GI; omega)
                  rw [hcq] at hl1 hl2 hss
                  obtain ⟨⟨w13, hst, hct, hgr⟩, -⟩ := hss
                  have hme : (Instr.mapEntry 56 (.map (some w7.heap.size)) (.agg #[.int .u8 15, .int .i64 (10 + imm), .int .i64 (10 + imm), .int .i64 0, .int .i64 1])).run Tryd.prog w11.drew = .ok (.tuple #[v0, .int .i64 st]) w12 := hme
                  have hl2 : (Instr.lookup 56 (.map (some w7.heap.size)) (.agg #[.int .u8 15, .int .i64 (10 + imm), .int .i64 (10 + imm), .int .i64 0, .int .i64 1]) false).run Tryd.prog w12 = .ok (.int .i64 cq) w12 := hl2
                  have HN := Lib.hid (show CtRel KyI w7 (L2 ++ [(⟨15, (10 + imm), (10 + imm), 0, 1⟩ : GI)]) ([] : List GI) w13 from HD.out.turn hgr hct)
                  have hwr : IntKind.i64.wrap (cq + 1) = cq + 1 := IntWalk.i64_in _ ⟨by omega, by omega⟩
                  clear hcq hbd hct hgr HD
                  clear g hil hvb
                  go_upto_region 20 with fail
                  go_region
                  all_goals (
                    clear hme hl1 hl2 hst hwr hw10 f13 f14
                    go_wp2_with fail
                    go_roundw
                    case rel => exact ⟨j + 1, by go_num, by omega, (show CtRel KyI w7 _ [] _ by rw [HOT.out]; exact HN.out)⟩
                    case measure => simp [intOf]; omega)
                · have HOT := Lib.hid (show L1 ++ cI code2 (j + 1) = L2 ++ [(⟨25, (10 + xx), 0, 0, imm⟩ : GI)] from HMI.out.trans (by rw [g]; rfl))
                  have hvb := HVI.out 16 g (by decide)
                  have HOKK := Lib.hid (show okI (⟨25, (10 + xx), 0, 0, imm⟩ : GI) from okI_mk (by omega) (by unfold wK; omega) (by unfold wK; omega) (by unfold wK; omega) (by unfold wK; omega))
                  have hw10 : IntKind.i64.wrap (10 + xx) = 10 + xx := IntWalk.i64_in _ ⟨by omega, by omega⟩
                  have f13 : ((op : Int) == 13) = false := beq_eq_false_iff_ne.2 (by omega)
                  have f14 : ((op : Int) == 14) = false := beq_eq_false_iff_ne.2 (by omega)
                  have f16 : ((op : Int) == 16) = true := beq_iff_eq.2 (by omega)
                  obtain ⟨cq, hcq⟩ : ∃ q, bal L2 ([] : List GI) (⟨25, (10 + xx), 0, 0, imm⟩ : GI) = q := ⟨_, rfl⟩
                  have hbd := bal_bd L2 ([] : List GI) (⟨25, (10 + xx), 0, 0, imm⟩ : GI) (by have := @List.length_nil GI; omega)
                  rw [hcq] at hbd
                  have HD := Lib.hid (HV3.out.keep (show Below w11.heap.size w11 w11.drew from (Below.drew (Below.refl _ _))))
                  have hl1 : (Instr.lookup 56 (.map (some w7.heap.size)) (.agg #[.int .u8 25, .int .i64 (10 + xx), .int .i64 0, .int .i64 0, .int .i64 imm]) false).run Tryd.prog w11.drew = .ok (.int .i64 (bal L2 ([] : List GI) (⟨25, (10 + xx), 0, 0, imm⟩ : GI))) w11.drew := HD.out.ct.look (e := 3) Tryd.underlying56 (zeroI _) (⟨25, (10 + xx), 0, 0, imm⟩ : GI) HOKK.out
                  obtain ⟨v0, st, w12, hme, hl2, hss⟩ := HD.out.ct.entry lawGI (t := 56) (e := 3) Tryd.underlying56 zeroI (⟨25, (10 + xx), 0, 0, imm⟩ : GI) HOKK.out (by have := @List.length_nil GI; omega)
                  rw [hcq] at hl1 hl2 hss
                  obtain ⟨⟨w13, hst, hct, hgr⟩, -⟩ := hss
                  have hme : (Instr.mapEntry 56 (.map (some w7.heap.size)) (.agg #[.int .u8 25, .int .i64 (10 + xx), .int .i64 0, .int .i64 0, .int .i64 imm])).run Tryd.prog w11.drew = .ok (.tuple #[v0, .int .i64 st]) w12 := hme
                  have hl2 : (Instr.lookup 56 (.map (some w7.heap.size)) (.agg #[.int .u8 25, .int .i64 (10 + xx), .int .i64 0, .int .i64 0, .int .i64 imm]) false).run Tryd.prog w12 = .ok (.int .i64 cq) w12 := hl2
                  have HN := Lib.hid (show CtRel KyI w7 (L2 ++ [(⟨25, (10 + xx), 0, 0, imm⟩ : GI)]) ([] : List GI) w13 from HD.out.turn hgr hct)
                  have hwr : IntKind.i64.wrap (cq + 1) = cq + 1 := IntWalk.i64_in _ ⟨by omega, by omega⟩
                  clear hcq hbd hct hgr HD
                  clear g hil hvb
                  go_upto_region 22 with fail
                  go_region
                  all_goals (
                    clear hme hl1 hl2 hst hwr hw10 f13 f14 f16
                    go_wp2_with fail
                    go_roundw
                    case rel => exact ⟨j + 1, by go_num, by omega, (show CtRel KyI w7 _ [] _ by rw [HOT.out]; exact HN.out)⟩
                    case measure => simp [intOf]; omega)
                · have HOT := Lib.hid (show L1 ++ cI code2 (j + 1) = L2 from HMI.out.trans (by unfold cT; rw [if_neg g13, if_neg g14, if_neg g16, List.append_nil]))
                  have f13 : ((op : Int) == 13) = false := beq_eq_false_iff_ne.2 (by omega)
                  have f14 : ((op : Int) == 14) = false := beq_eq_false_iff_ne.2 (by omega)
                  have f16 : ((op : Int) == 16) = false := beq_eq_false_iff_ne.2 (by omega)
                  clear g13 g14 g16 hil
                  go_wp2_with fail
                  go_roundw
                  case rel => exact ⟨j + 1, by go_num, by omega, (show CtRel KyI w7 _ [] _ by rw [HOT.out]; exact HV3.out)⟩
                  case measure => simp [intOf]; omega
              · have hjn : j = code2.length := by omega
                subst hjn
                go_wp2_with fail
                go_roundw
                case rel => exact ⟨k + 1, by go_num, by omega, (show CtRel KyI w7 _ [] _ by rw [HMB2.out]; exact HV2.out)⟩
                case measure => simp [intOf]; omega
          · have hkn : k = bs.length := by omega
            subst hkn
            have hL := cB_len bs bs.length
            have hL2 : (cB bs bs.length).length ≤ 320 := by have h3 := HSM.out.tot; omega
            have HCC := Lib.hid HAO.out.2
            clear hL
            generalize cB bs bs.length = LL at HV HCC hL2
            go_wp2_with fail
            clear f3 fl HRW
            go_loopw [11] (fun s11 wx => ∃ i : Nat, s11 = .int .i64 i ∧ i ≤ code.length ∧ Hid (CtRel KyI w7 LL (ctrM code i) wx)) (fun s11 _ => code.length - (intOf s11).toNat)
            case atStart => exact ⟨0, rfl, Nat.zero_le _, HV⟩
            case round =>
              clear HV
              obtain ⟨i, rfl, hi, HV⟩ := hrel
              obtain ⟨w8, rfl⟩ : ∃ W : World, W = wr := ⟨_, rfl⟩
              have o0 := HRO.out.below HV.out.bel HRO.out.lt
              have ol := o0.lt
              have p1 := o0.at 1 rfl
              clear o0
              by_cases hlt : i < code.length
              · have hltI : (i : Int) < code.length := by omega
                obtain ⟨m, off, cap, e0, hm, x0, x1, x2, x3, x4⟩ := (HG7.out.below HV.out.bel (Nat.le_refl _)).get hlt
                injection e0 with e0a _ e0c
                subst e0a e0c
                have HVI := Lib.hid (HVG.out i hlt)
                have HNX := Lib.hid (ctrM_next code hlt)
                have hml := ctrM_len code i
                generalize code.getD i default = gi at x0 x1 x2 x3 x4 HVI HNX
                obtain ⟨op, ga, gb, gc, gim⟩ := gi
                simp only at x0 x1 x2 x3 x4 HVI HNX
                generalize hMM : ctrM code i = MM at HV HNX hml
                clear hMM
                have HOKK := Lib.hid (vG_okI HVI.out)
                have HPC := Lib.hid (show pC ⟨op, ga, gb, gc, gim⟩ = ((fwr op || decide (op = 25)) && decide (10 ≤ ga ∧ ga ≤ 13)) from rfl)
                have HWR := Lib.hid (show wrR op ga gb gc gim = if fwr op = true then ga else 0 by unfold wrR; rw [show vld op ga gb gc gim = true from HVI.out, Bool.true_and])
                have HTW := Lib.hid (HL7.out.tab.of_below (HV.out.bel.mono (Nat.le_refl _)))
                go_wp2_with fail
                refine (writes_any op ga gb gc gim w8 (HTW.out.of_below (Below.refl _ _))).mono ?_
                rintro e w9 ⟨rfl, hb9⟩
                rw [HWR.out]
                have HV9 := Lib.hid (HV.out.keep hb9)
                rw [← hb9.cell (p := ⟨m, off + i * 5, none⟩) hm] at x0
                rw [← hb9.cell (p := ⟨m, off + i * 5 + 1, none⟩) hm] at x1
                rw [← hb9.cell (p := ⟨m, off + i * 5 + 2, none⟩) hm] at x2
                rw [← hb9.cell (p := ⟨m, off + i * 5 + 3, none⟩) hm] at x3
                rw [← hb9.cell (p := ⟨m, off + i * 5 + 4, none⟩) hm] at x4
                have hm9 : m < w9.heap.size := Nat.lt_of_lt_of_le hm hb9.size
                have o0 := HRO.out.below HV9.out.bel HRO.out.lt
                clear p1 ol hm hb9 HV HWR HVI HTW
                have ol := o0.lt
                have p1 := o0.at 1 rfl
                clear o0
                cases hfw : fwr op with
                | true =>
                  by_cases h10 : 10 ≤ ga
                  · by_cases h13 : ga ≤ 13
                    · have HPY := Lib.hid (show pC ⟨op, ga, gb, gc, gim⟩ = true by rw [HPC.out, hfw]; simp [h10, h13])
                      have hnz : (ga != 0) = true := bne_iff_ne.2 (by omega)
                      have h10I : ga ≥ 10 := h10
                      simp only [if_true]
                      obtain ⟨cq, hcq⟩ : ∃ q, bal LL MM (⟨op, ga, gb, gc, gim⟩ : GI) = q := ⟨_, rfl⟩
                      have hbd := bal_bd LL MM (⟨op, ga, gb, gc, gim⟩ : GI) (by have := @List.length_nil GI; omega)
                      rw [hcq] at hbd
                      have HD := Lib.hid (HV9.out.keep (show Below w9.heap.size w9 w9.drew from (Below.drew (Below.refl _ _))))
                      have hl1 : (Instr.lookup 56 (.map (some w7.heap.size)) (.agg #[.int .u8 op, .int .i64 ga, .int .i64 gb, .int .i64 gc, .int .i64 gim]) false).run Tryd.prog w9.drew = .ok (.int .i64 (bal LL MM (⟨op, ga, gb, gc, gim⟩ : GI))) w9.drew := HD.out.ct.look (e := 3) Tryd.underlying56 (zeroI _) (⟨op, ga, gb, gc, gim⟩ : GI) HOKK.out
                      obtain ⟨v0, st, w12, hme, hl2, hss⟩ := HD.out.ct.entry lawGI (t := 56) (e := 3) Tryd.underlying56 zeroI (⟨op, ga, gb, gc, gim⟩ : GI) HOKK.out (by have := @List.length_nil GI; omega)
                      rw [hcq] at hl1 hl2 hss
                      obtain ⟨-, ⟨w13, hst, hct, hgr⟩⟩ := hss
                      have hme : (Instr.mapEntry 56 (.map (some w7.heap.size)) (.agg #[.int .u8 op, .int .i64 ga, .int .i64 gb, .int .i64 gc, .int .i64 gim])).run Tryd.prog w9.drew = .ok (.tuple #[v0, .int .i64 st]) w12 := hme
                      have hl2 : (Instr.lookup 56 (.map (some w7.heap.size)) (.agg #[.int .u8 op, .int .i64 ga, .int .i64 gb, .int .i64 gc, .int .i64 gim]) false).run Tryd.prog w12 = .ok (.int .i64 cq) w12 := hl2
                      have HN := Lib.hid (show CtRel KyI w7 LL (MM ++ [(⟨op, ga, gb, gc, gim⟩ : GI)]) w13 from HD.out.turn hgr hct)
                      have hwr : IntKind.i64.wrap (cq - 1) = cq - 1 := IntWalk.i64_in _ ⟨by omega, by omega⟩
                      clear hcq hbd hct hgr HD
                      go_upto_region 28 with fail
                      go_region
                      all_goals (
                        clear hme hl1 hl2 hst hwr
                        go_wp2_with fail
                        go_roundw
                        case rel => exact ⟨i + 1, by go_num, by omega, (show CtRel KyI w7 LL (ctrM code (i + 1)) _ by rw [HNX.out, if_pos HPY.out]; exact HN.out)⟩
                        case measure => simp [intOf]; omega)
                    · have HPN := Lib.hid (show pC ⟨op, ga, gb, gc, gim⟩ = false by rw [HPC.out]; simp [h13])
                      have hnz : (ga != 0) = true := bne_iff_ne.2 (by omega)
                      have h10I : ga ≥ 10 := h10
                      have hne : ((op : Int) == 25) = false := fwr_ne hfw
                      simp only [if_true]
                      go_wp2_with fail
                      go_roundw
                      case rel => exact ⟨i + 1, by go_num, by omega, (show CtRel KyI w7 LL (ctrM code (i + 1)) _ by rw [HNX.out, if_neg (by rw [HPN.out]; decide)]; exact HV9.out)⟩
                      case measure => simp [intOf]; omega
                  · have HPN := Lib.hid (show pC ⟨op, ga, gb, gc, gim⟩ = false by rw [HPC.out]; simp [h10])
                    have h10I : ¬ ga ≥ 10 := h10
                    have hne : ((op : Int) == 25) = false := fwr_ne hfw
                    simp only [if_true]
                    cases hnz : (ga != 0) with
                    | true =>
                      go_wp2_with fail
                      go_roundw
                      case rel => exact ⟨i + 1, by go_num, by omega, (show CtRel KyI w7 LL (ctrM code (i + 1)) _ by rw [HNX.out, if_neg (by rw [HPN.out]; decide)]; exact HV9.out)⟩
                      case measure => simp [intOf]; omega
                    | false =>
                      go_wp2_with fail
                      go_roundw
                      case rel => exact ⟨i + 1, by go_num, by omega, (show CtRel KyI w7 LL (ctrM code (i + 1)) _ by rw [HNX.out, if_neg (by rw [HPN.out]; decide)]; exact HV9.out)⟩
                      case measure => simp [intOf]; omega
                | false =>
                  have hz0 : ((0 : Int) != 0) = false := by decide
                  simp only [Bool.false_eq_true, if_false, hz0]
                  by_cases h25 : op = 25
                  · subst h25
                    by_cases h10 : 10 ≤ ga
                    · by_cases h13 : ga ≤ 13
                      · have HPY := Lib.hid (show pC ⟨25, ga, gb, gc, gim⟩ = true by rw [HPC.out]; simp [h10, h13])
                        have h10I : ga ≥ 10 := h10
                        obtain ⟨cq, hcq⟩ : ∃ q, bal LL MM (⟨25, ga, gb, gc, gim⟩ : GI) = q := ⟨_, rfl⟩
                        have hbd := bal_bd LL MM (⟨25, ga, gb, gc, gim⟩ : GI) (by have := @List.length_nil GI; omega)
                        rw [hcq] at hbd
                        have HD := Lib.hid (HV9.out.keep (show Below w9.heap.size w9 w9.drew from (Below.drew (Below.refl _ _))))
                        have hl1 : (Instr.lookup 56 (.map (some w7.heap.size)) (.agg #[.int .u8 25, .int .i64 ga, .int .i64 gb, .int .i64 gc, .int .i64 gim]) false).run Tryd.prog w9.drew = .ok (.int .i64 (bal LL MM (⟨25, ga, gb, gc, gim⟩ : GI))) w9.drew := HD.out.ct.look (e := 3) Tryd.underlying56 (zeroI _) (⟨25, ga, gb, gc, gim⟩ : GI) HOKK.out
                        obtain ⟨v0, st, w12, hme, hl2, hss⟩ := HD.out.ct.entry lawGI (t := 56) (e := 3) Tryd.underlying56 zeroI (⟨25, ga, gb, gc, gim⟩ : GI) HOKK.out (by have := @List.length_nil GI; omega)
                        rw [hcq] at hl1 hl2 hss
                        obtain ⟨-, ⟨w13, hst, hct, hgr⟩⟩ := hss
                        have hme : (Instr.mapEntry 56 (.map (some w7.heap.size)) (.agg #[.int .u8 25, .int .i64 ga, .int .i64 gb, .int .i64 gc, .int .i64 gim])).run Tryd.prog w9.drew = .ok (.tuple #[v0, .int .i64 st]) w12 := hme
                        have hl2 : (Instr.lookup 56 (.map (some w7.heap.size)) (.agg #[.int .u8 25, .int .i64 ga, .int .i64 gb, .int .i64 gc, .int .i64 gim]) false).run Tryd.prog w12 = .ok (.int .i64 cq) w12 := hl2
                        have HN := Lib.hid (show CtRel KyI w7 LL (MM ++ [(⟨25, ga, gb, gc, gim⟩ : GI)]) w13 from HD.out.turn hgr hct)
                        have hwr : IntKind.i64.wrap (cq - 1) = cq - 1 := IntWalk.i64_in _ ⟨by omega, by omega⟩
                        clear hcq hbd hct hgr HD
                        go_upto_region 28 with fail
                        go_region
                        all_goals (
                          clear hme hl1 hl2 hst hwr
                          go_wp2_with fail
                          go_roundw
                          case rel => exact ⟨i + 1, by go_num, by omega, (show CtRel KyI w7 LL (ctrM code (i + 1)) _ by rw [HNX.out, if_pos HPY.out]; exact HN.out)⟩
                          case measure => simp [intOf]; omega)
                      · have HPN := Lib.hid (show pC ⟨25, ga, gb, gc, gim⟩ = false by rw [HPC.out]; simp [h13])
                        have h10I : ga ≥ 10 := h10
                        go_wp2_with fail
                        go_roundw
                        case rel => exact ⟨i + 1, by go_num, by omega, (show CtRel KyI w7 LL (ctrM code (i + 1)) _ by rw [HNX.out, if_neg (by rw [HPN.out]; decide)]; exact HV9.out)⟩
                        case measure => simp [intOf]; omega
                    · have HPN := Lib.hid (show pC ⟨25, ga, gb, gc, gim⟩ = false by rw [HPC.out]; simp [h10])
                      have h10I : ¬ ga ≥ 10 := h10
                      go_wp2_with fail
                      go_roundw
                      case rel => exact ⟨i + 1, by go_num, by omega, (show CtRel KyI w7 LL (ctrM code (i + 1)) _ by rw [HNX.out, if_neg (by rw [HPN.out]; decide)]; exact HV9.out)⟩
                      case measure => simp [intOf]; omega
                  · have HPN := Lib.hid (show pC ⟨op, ga, gb, gc, gim⟩ = false by rw [HPC.out, hfw, decide_eq_false h25]; rfl)
                    have hne : ((op : Int) == 25) = false := beq_eq_false_iff_ne.2 (by omega)
                    go_wp2_with fail
                    go_roundw
                    case rel => exact ⟨i + 1, by go_num, by omega, (show CtRel KyI w7 LL (ctrM code (i + 1)) _ by rw [HNX.out, if_neg (by rw [HPN.out]; decide)]; exact HV9.out)⟩
                    case measure => simp [intOf]; omega
              · have hin : i = code.length := by omega
                subst hin
                have HV2 := Lib.hid (show CtRel KyI w7 LL LL w8 by have h := HV.out; rw [(ctrM_all code).trans HCC.out] at h; exact h)
                clear HV
                go_wp2_with (first | (at_range; refine wpList_range_ct rfl _ 56 3 rfl Tryd.underlying56 w7.heap.size LL LL HV2.out.ct rfl ?_))
                intro w9 hrg hgr hsz
                have HB9 := Lib.hid (show Below w7.heap.size w7 w9 from Below.grown HV2.out.bel hgr HV2.out.bel.size (fun q hq => by cases hq))
                have HRG := Lib.hid hrg
                have hr8 : w7.heap.size ≤ w8.heap.size := HV2.out.bel.size
                clear hrg hgr hsz HV2
                go_wp2_with fail
                try go_frame
                go_loopw [15] (fun s15 wx => Hid (RgAt KyI wx w7.heap.size w8.heap.size LL LL ∧ Below w7.heap.size w7 wx)) (fun _ wx => wx.rangeLeft w7.heap.size w8.heap.size)
                case atStart => exact ⟨HRG.out, HB9.out⟩
                case round =>
                  clear HRG HB9
                  have HV := Lib.hid hrel.out
                  obtain ⟨w10, rfl⟩ : ∃ W : World, W = wr := ⟨_, rfl⟩
                  go_wp2_with (first | (at_next; refine wpList_next_ct rfl _ rfl w7.heap.size w8.heap.size LL LL rfl HV.out.1 (fun x => bal_same LL x) ?_ ?_))
                  · go_wp2_with fail
                    go_ret
                    exact ⟨rfl, HB0.out.trans ((HW7.out.trans (HV.out.2.mono HW7.out.size)).mono HB0.out.size)⟩
                  · intro x w11 hrg hlt hgr hsz hen
                    have HB := Lib.hid (show Below w7.heap.size w7 w11 from Below.grown HV.out.2 hgr HV.out.2.size (fun q hq => by cases hq; exact hr8))
                    have HRG := Lib.hid hrg
                    clear hrg hgr hsz
                    go_wp2_with fail
                    go_roundw
                    case rel => exact ⟨HRG.out, HB.out⟩
                    case measure => exact hlt
      · have hv : vFun R A S bs = false := by simpa using hv
        rw [hv]
        go_wp2_with fail
        go_ret
        exact ⟨rfl, HB0.out.trans (HL5.out.bel.mono HB0.out.size)⟩
  · refine (small_any nm R _ _ A bs w2 HL2.out.fn.a HL2.out.fn.b 0 (fun h => absurd h hsm) (fun _ => rfl)).mono ?_
    rintro e w3 ⟨rfl, hb3⟩
    have HL3 := Lib.hid (HL2.out.keep hb3)
    clear hb3 HL2 HS2 rl q0 q1 q2 q3
    go_wp2_with fail
    go_ret
    exact ⟨rfl, HB0.out.trans (HL3.out.bel.mono HB0.out.size)⟩
end Go.Proofs.YtlajdcikhbocdaaDoor
