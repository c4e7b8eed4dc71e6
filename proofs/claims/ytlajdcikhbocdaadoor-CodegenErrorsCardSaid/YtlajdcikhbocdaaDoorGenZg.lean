/- The law CodegenErrors. -/
import Derived.Test.YtlajdcikhbocdaaDoorMgM
set_option linter.unusedVariables false
set_option linter.unusedSimpArgs false
namespace Go.Proofs.YtlajdcikhbocdaaDoor
open Go.RowKit Go.Maps

theorem bytes_ne {t s : ByteArray} (h : ¬ t = s) : (t.toList == s.toList) = false := by
  rw [beq_eq_false_iff_ne]
  intro e
  rw [ByteArray.toList_eq, ByteArray.toList_eq] at e
  exact h (ByteArray.ext (Array.toList_inj.mp e))
set_option maxHeartbeats 1600000 in
set_option maxRecDepth 20000 in
theorem index17 (sv : Value) (S : List Arr) (s : ByteArray) (w : World) (hS : ArsAt w sv S) (hl : S.length ≤ 100000) :
    Calls Tryd.prog 19 #[sv, .string s] w fun e w' => ∃ i : Int, e = .returned (.int .i64 i) ∧ (i < 0 ↔ s ∉ nms S) ∧ Below w.heap.size w w' := by
  obtain ⟨sp, sc, rfl⟩ := hS.shape
  have HS := Lib.hid hS
  clear hS
  go_enter Tryd.func19, Tryd.ntmps19
  go_wp2_with fail
  go_loopw [5] (fun s5 wx => ∃ k : Nat, s5 = .int .i64 k ∧ k ≤ S.length ∧ Hid (∀ i, i < k → (S.getD i default).1 ≠ s) ∧ Hid (Below w.heap.size w wx)) (fun s5 _ => S.length - (intOf s5).toNat)
  case atStart => exact ⟨0, rfl, Nat.zero_le _, fun i hi => by omega, Below.refl _ _⟩
  case round =>
    obtain ⟨k, rfl, hk, HN, HB⟩ := hrel
    obtain ⟨w1, rfl⟩ : ∃ W : World, W = wr := ⟨_, rfl⟩
    by_cases hlt : k < S.length
    · have hltI : (k : Int) < S.length := by omega
      obtain ⟨_, _, e1, hen⟩ := HS.out.below HB.out (Nat.le_refl _)
      injection e1 with e1 e2 e3
      subst e1 e3
      obtain ⟨m, off, rfl, hm, n0, n1⟩ := hen k hlt
      clear hen e2 n1
      have HIN := Lib.hid (show (S.getD k default).1 ∈ nms S from List.mem_map.2 ⟨S.getD k default, by rw [List.getD_eq_getElem?_getD, List.getElem?_eq_getElem hlt]; exact List.getElem_mem hlt, rfl⟩)
      have HNX := Lib.hid (fun (h : (S.getD k default).1 ≠ s) => (show ∀ i, i < k + 1 → (S.getD i default).1 ≠ s from fun i hi => by
        by_cases e : i = k
        · subst e; exact h
        · exact HN.out i (by omega)))
      generalize (S.getD k default).1 = t at n0 HIN HNX
      by_cases ht : t = s
      · subst ht
        go_wp2_with fail
        go_ret
        exact ⟨_, rfl, ⟨fun h => by omega, fun h => absurd HIN.out h⟩, HB.out⟩
      · have HN2 := Lib.hid (HNX.out ht)
        have hts := bytes_ne ht
        clear HIN HNX
        go_wp2_with fail
        go_roundw
        case rel => exact ⟨k + 1, by go_num, by omega, HN2, HB⟩
        case measure => simp [intOf]; omega
    · have hkn : k = S.length := by omega
      subst hkn
      go_wp2_with fail
      go_ret
      refine ⟨_, rfl, ⟨fun _ h => ?_, fun _ => by decide⟩, HB.out⟩
      obtain ⟨a, ha, rfl⟩ := List.mem_map.1 h
      obtain ⟨q, hq, rfl⟩ := List.mem_iff_getElem.1 ha
      exact HN.out q hq (by rw [List.getD_eq_getElem?_getD, List.getElem?_eq_getElem hq]; rfl)

/-- The list that CodegenErrors makes (color 2). -/
structure ErAt (B : Nat) (W0 : World) (l : List Arr) (col : Nat → Nat) (w : World) (v : Value) : Prop where
  row : OwnC 44 2 col 2 w v l.length (arrV l)
  low : ∀ k, k < B → col k = 0
  bel : Below B W0 w
  big : B ≤ w.heap.size
def ErRel (B : Nat) (W0 : World) (l : List Arr) (v : Value) (w : World) : Prop := ∃ col, ErAt B W0 l col w v
section
variable {B : Nat} {W0 w w' : World} {l : List Arr} {v : Value}
theorem ErRel.keep (h : ErRel B W0 l v w) (hb : Below w.heap.size w w') : ErRel B W0 l v w' := by
  obtain ⟨col, h⟩ := h
  exact ⟨paint col w.heap.size 0, h.row.other (c' := 0) (Touch.of_below hb) (by decide), low_paint h.low h.big, h.bel.trans (hb.mono h.big), Nat.le_trans h.big hb.size⟩
theorem ErRel.bel (h : ErRel B W0 l v w) : Below B W0 w := by
  obtain ⟨col, h⟩ := h
  exact h.bel
theorem ErRel.ars (h : ErRel B W0 l v w) : ArsAt w v l := by
  obtain ⟨col, h⟩ := h
  exact ArsAt.of_own h.row.1
theorem ErRel.own (h : ErRel B W0 l v w) (hb : Below w.heap.size w w') : w'.ownsRow 0 44 2 v l.length (arrV l) := by
  obtain ⟨col, h⟩ := h
  exact own0_block h.row.1 fun b hk => hb.block b (own0_lt h.row.1 hk)
theorem ErRel.push (h : ErRel B W0 l v w) {w2 w3 : World} {v' : Value} {s : ByteArray} (hb : Below w.heap.size w w2) (hg2 : w2.grownBy w3 v.ownBlock)
    (hv : w3.ownsRow 0 44 2 v' (l.length + 1) (arrV l ++ [.string s, .int .i64 1])) (hk : v'.ownBlock = v.ownBlock ∨ ∀ k, v'.ownBlock = some k → w2.heap.size ≤ k) : ErRel B W0 (l ++ [(s, 1)]) v' w3 := by
  obtain ⟨col, h⟩ := h
  obtain ⟨hr3, ht3⟩ := h.row.push hb hg2 hv hk
  exact ⟨_, by rw [List.length_append, arrV_push]; exact hr3, low_paint h.low h.big, h.bel.trans (ht3.below h.big fun k hk e => by rw [h.low k hk] at e; cases e), Nat.le_trans h.big ht3.size⟩
end
theorem onL_no {l : List Arr} {s : ByteArray} (h : s ∉ nms l) : (onL l s).isSome = false := by
  cases e : (onL l s).isSome with
  | false => rfl
  | true => exact absurd ((onL_iff l s).1 e) h

set_option maxHeartbeats 6400000 in
set_option maxRecDepth 20000 in
theorem errorsLaw (nm : ByteArray) (R : Int) (av bv : Value) (A : List Arr) (bs : List IBlk) (w : World) (hT : Tab w) (hZ : TabZ w) (hF : FnIn w av bv A bs) :
    Calls Tryd.prog 7 #[.agg #[.string nm, .int .i64 R, av, bv]] w fun e w' => e = .returned (.bool true) ∧ Below w.heap.size w w' := by
  obtain ⟨ap, ac, rfl⟩ := hF.a.shape
  obtain ⟨bp, bc, rfl⟩ := hF.b.shape
  obtain ⟨W1, hW1⟩ : ∃ W : World, W = w.alloc (.cells #[.string nm, .int .i64 R, .slice ap A.length ac, .slice bp bs.length bc] 25) := ⟨_, rfl⟩
  have hb0 : Below w.heap.size w W1 := by rw [hW1]; exact bAlloc (Nat.le_refl _) (Below.refl _ _)
  have HL1 := Lib.hid (show LawAt w W1 nm R (.slice ap A.length ac) (.slice bp bs.length bc) A bs W1 from ⟨Below.refl _ _, hF.below hb0, hT.of_below hb0, hZ.of_below hb0, by rw [hW1]; exact RowC2.made w _ 25⟩)
  have HB0 := Lib.hid hb0
  clear hb0 hF hT hZ
  go_enter Tryd.func7, Tryd.ntmps7
  go_upto_region 1 with fail
  rw [← hW1]
  clear hW1
  go_wp2_with fail
  refine (awake21 W1 HL1.out.tab HL1.out.tz).mono ?_
  rintro e w2 ⟨rfl, hb2⟩
  have HL2 := Lib.hid (HL1.out.keep hb2)
  clear hb2 HL1
  have r0 := HL2.out.row
  have rl := r0.lt
  have q0 := r0.at 0 rfl
  have q1 := r0.at 1 rfl
  have q2 := r0.at 2 rfl
  have q3 := r0.at 3 rfl
  clear r0
  go_wp2_with fail
  by_cases hsm : Small R A bs
  · refine (small_any nm R _ _ A bs w2 HL2.out.fn.a HL2.out.fn.b 1 (fun _ => rfl) (fun h => absurd hsm h)).mono ?_
    rintro e w3 ⟨rfl, hb3⟩
    have HL3 := Lib.hid (HL2.out.keep hb3)
    have HSM := Lib.hid hsm
    clear hb3 HL2 hsm rl q0 q1 q2 q3
    have hbl := HSM.out.1
    have HV0 := Lib.hid (show ErRel w3.heap.size w3 [] (.slice none 0 0) w3 from ⟨fun _ => 0, OwnC.nil _ _ _ _ _, fun _ _ => rfl, Below.refl _ _, Nat.le_refl _⟩)
    go_wp2_with fail
    go_loopw [3, 4] (fun s3 s4 wx => ∃ k : Nat, s4 = .int .i64 k ∧ k ≤ bs.length ∧ Hid (ErRel w3.heap.size w3 (mentB bs k) s3 wx)) (fun _ s4 _ => bs.length - (intOf s4).toNat)
    case atStart => exact ⟨0, rfl, Nat.zero_le _, HV0⟩
    case round =>
      clear HV0
      obtain ⟨k, rfl, hk, HV⟩ := hrel
      obtain ⟨w4, rfl⟩ : ∃ W : World, W = wr := ⟨_, rfl⟩
      have HRW := Lib.hid (HL3.out.row.below HV.out.bel HL3.out.row.lt)
      have f3 := HRW.out.at 3 rfl
      have fl := HRW.out.lt
      by_cases hlt : k < bs.length
      · have hltI : (k : Int) < bs.length := by omega
        have hmb := mentB_len bs k
        have hmt := sum_le bs hk
        have hmx := HSM.out.tot
        have HMB := Lib.hid (show mentB bs (k + 1) = mentC (mentB bs k) (bs.getD k default).code (bs.getD k default).code.length from rfl)
        have hcl := (HSM.out.2.2.2 k hlt).1
        have HIS := Lib.hid (fun j (hj : j < (bs.getD k default).code.length) => ((HL3.out.fn.bx k hlt).1.2 j hj).2)
        obtain ⟨_, _, e1, hen⟩ := HL3.out.fn.b
        injection e1 with e1 e2 e3
        subst e1 e3
        obtain ⟨m, off, cp, cc, rfl, hm, hins, n0, -⟩ := hen k hlt
        clear hen e2
        have HN0 := Lib.hid n0
        have HM := Lib.hid hm
        clear n0 hm
        have hl0 : (mentB bs k).length ≤ 300 := by omega
        clear hmb hmt hmx
        generalize bs.getD k default = en at hins hcl HIS HMB HN0
        obtain ⟨code, kind, x, tg, els⟩ := en
        simp only at hins hcl HIS HMB HN0
        generalize mentB bs k = l0 at HV HMB hl0
        have HI1 := Lib.hid hins
        clear hins
        go_wp2_with fail
        clear f3 fl HRW
        go_loopw [3, 5] (fun s3 s5 wx => ∃ j : Nat, s5 = .int .i64 j ∧ j ≤ code.length ∧ Hid (ErRel w3.heap.size w3 (mentC l0 code j) s3 wx)) (fun _ s5 _ => code.length - (intOf s5).toNat)
        case atStart => exact ⟨0, rfl, Nat.zero_le _, HV⟩
        case round =>
          clear HV
          obtain ⟨j, rfl, hj, HV⟩ := hrel
          obtain ⟨w5, rfl⟩ : ∃ W : World, W = wr := ⟨_, rfl⟩
          have HRW := Lib.hid (HL3.out.row.below HV.out.bel HL3.out.row.lt)
          have f3 := HRW.out.at 3 rfl
          have fl := HRW.out.lt
          have n0 := (HV.out.bel.cell (p := ⟨m, off + k * 5, none⟩) HM.out).trans HN0.out
          have hm1 : m < w5.heap.size := Nat.lt_of_lt_of_le HM.out HV.out.bel.size
          by_cases hltj : j < code.length
          · have hltJ : (j : Int) < code.length := by omega
            have hop := HIS.out j hltj
            have hml := mentC_len l0 code j
            have HMI := Lib.hid (show mentC l0 code (j + 1) = mentI (mentC l0 code j) (code.getD j default) from rfl)
            obtain ⟨_, _, e1, hen⟩ := HI1.out
            injection e1 with e1 e2 e3
            subst e1 e3
            obtain ⟨m2, off2, rfl, hm2, i0, i1, i2, i3, i4, i5⟩ := hen j hltj
            clear hen e2
            rw [← HV.out.bel.cell (p := ⟨m2, off2 + j * 6, none⟩) hm2] at i0
            rw [← HV.out.bel.cell (p := ⟨m2, off2 + j * 6 + 1, none⟩) hm2] at i1
            rw [← HV.out.bel.cell (p := ⟨m2, off2 + j * 6 + 2, none⟩) hm2] at i2
            rw [← HV.out.bel.cell (p := ⟨m2, off2 + j * 6 + 3, none⟩) hm2] at i3
            rw [← HV.out.bel.cell (p := ⟨m2, off2 + j * 6 + 4, none⟩) hm2] at i4
            rw [← HV.out.bel.cell (p := ⟨m2, off2 + j * 6 + 5, none⟩) hm2] at i5
            have hm3 : m2 < w5.heap.size := Nat.lt_of_lt_of_le hm2 HV.out.bel.size
            generalize code.getD j default = ii at i0 i1 i2 i3 i4 i5 hop HMI
            obtain ⟨op, dst, xx, yy, imm, sym⟩ := ii
            simp only at i0 i1 i2 i3 i4 i5 hop
            have hl1 : (mentC l0 code j).length ≤ 1000 := by omega
            generalize mentC l0 code j = l1 at HV HMI hl1
            clear hml hm2
            have HV2 := Lib.hid (HV.out.keep (w' := w5.alloc (.cells #[.int .u8 op, .int .i64 dst, .int .i64 xx, .int .i64 yy, .int .i64 imm, .string sym] 51)) (bAlloc (Nat.le_refl _) (Below.refl _ _)))
            have HR := Lib.hid (RowC2.made w5 [.int .u8 op, .int .i64 dst, .int .i64 xx, .int .i64 yy, .int .i64 imm, .string sym] 51)
            clear HV
            go_upto_region 13 with fail
            obtain ⟨w6, hw6⟩ : ∃ W : World, W = w5.alloc (.cells #[.int .u8 op, .int .i64 dst, .int .i64 xx, .int .i64 yy, .int .i64 imm, .string sym] 51) := ⟨_, rfl⟩
            rw [← hw6] at HV2 HR ⊢
            clear hw6 i0 i1 i2 i3 i4 i5 hm3 hm1 n0 f3 fl
            have q0 := HR.out.at 0 rfl
            have q5 := HR.out.at 5 rfl
            have ql := HR.out.lt
            obtain ⟨lp, lc, rfl⟩ := HV2.out.ars.shape
            rcases (show (op = 6 ∨ op = 7 ∨ op = 11 ∨ op = 12) ∨ (op ≠ 6 ∧ op ≠ 7 ∧ op ≠ 11 ∧ op ≠ 12) by omega) with g | ⟨g6, g7, g11, g12⟩
            · have HSO : Hid (isS op = true) := (show isS op = true from decide_eq_true g)
              have hcs : (((op : Int) == 6) = true) ∨ (((op : Int) == 6) = false ∧ ((op : Int) == 7) = true) ∨ (((op : Int) == 6) = false ∧ ((op : Int) == 7) = false ∧ ((op : Int) == 11) = true) ∨ (((op : Int) == 6) = false ∧ ((op : Int) == 7) = false ∧ ((op : Int) == 11) = false ∧ ((op : Int) == 12) = true) := by
                rcases g with rfl | rfl | rfl | rfl
                · exact .inl (by decide)
                · exact .inr (.inl ⟨by decide, by decide⟩)
                · exact .inr (.inr (.inl ⟨by decide, by decide, by decide⟩))
                · exact .inr (.inr (.inr ⟨by decide, by decide, by decide, by decide⟩))
              clear g hop
              rcases hcs with f6 | ⟨f6, f7⟩ | ⟨f6, f7, f11⟩ | ⟨f6, f7, f11, f12⟩
              all_goals (
                go_wp2_with fail
                refine (index17 _ l1 sym w6 HV2.out.ars (by omega)).mono ?_
                rintro e w7 ⟨i, rfl, hi, hb7⟩
                have HI := Lib.hid hi
                have HV7 := Lib.hid (HV2.out.keep hb7)
                have HR7 := Lib.hid (HR.out.below hb7 HR.out.lt)
                clear hi hb7 q0 q5 ql
                have q5 := HR7.out.at 5 rfl
                have ql := HR7.out.lt
                by_cases hneg : i < 0
                · have HME := Lib.hid (show mentC l0 code (j + 1) = l1 ++ [(sym, 1)] from HMI.out.trans (if_pos ⟨HSO.out, onL_no (HI.out.1 hneg)⟩))
                  have HBB := Lib.hid (show ∀ o : Obj, Below w7.heap.size w7 (w7.alloc o) from fun o => bAlloc (Nat.le_refl _) (Below.refl _ _))
                  have HO := Lib.hid (fun o : Obj => HV7.out.own (HBB.out o))
                  go_wp2_with (first | (at_builtin; refine wpList_append_els rfl _ _ 22 44 (.agg #[.string .empty, .int .i64 0]) 2 24 rfl Tryd.underlying22 infoAr rfl (by decide) (by decide) _ l1.length _ rfl (HO.out _) w7.heap.size 1 [.string sym, .int .i64 1] rfl rfl (RowC2.made w7 [.string sym, .int .i64 1] 44).2 (by simp [Value.oneCell']) (by omega) ?_))
                  intro pp qq w8 hO hgr hd
                  have HK := Lib.hid (HV7.out.push (HBB.out _) hgr hO (hd.imp id fun h b e => by have := h b e; simp at this ⊢; omega))
                  clear hO hgr hd HO HBB
                  go_wp2_with fail
                  go_roundw
                  case rel => exact ⟨j + 1, by go_num, by omega, (show ErRel _ _ _ _ _ from by rw [HME.out]; exact HK.out)⟩
                  case measure => simp [intOf]; omega
                · have HME := Lib.hid (show mentC l0 code (j + 1) = l1 from HMI.out.trans (if_neg fun h2 => hneg (HI.out.2 fun h3 => by have h4 := (onL_iff l1 sym).2 h3; rw [h2.2] at h4; cases h4)))
                  go_wp2_with fail
                  go_roundw
                  case rel => exact ⟨j + 1, by go_num, by omega, (show ErRel _ _ _ _ _ from by rw [HME.out]; exact HV7.out)⟩
                  case measure => simp [intOf]; omega)
            · have HME := Lib.hid (show mentC l0 code (j + 1) = l1 from HMI.out.trans (if_neg fun h2 => by have h3 : op = 6 ∨ op = 7 ∨ op = 11 ∨ op = 12 := of_decide_eq_true h2.1; omega))
              have f6 : ((op : Int) == 6) = false := beq_eq_false_iff_ne.2 (by omega)
              have f7 : ((op : Int) == 7) = false := beq_eq_false_iff_ne.2 (by omega)
              have f11 : ((op : Int) == 11) = false := beq_eq_false_iff_ne.2 (by omega)
              have f12 : ((op : Int) == 12) = false := beq_eq_false_iff_ne.2 (by omega)
              clear g6 g7 g11 g12 hop
              go_wp2_with fail
              go_roundw
              case rel => exact ⟨j + 1, by go_num, by omega, (show ErRel _ _ _ _ _ from by rw [HME.out]; exact HV2.out)⟩
              case measure => simp [intOf]; omega
          · have hjn : j = code.length := by omega
            subst hjn
            go_wp2_with fail
            go_roundw
            case rel => exact ⟨k + 1, by go_num, by omega, (show ErRel _ _ _ _ _ from by rw [HMB.out]; exact HV.out)⟩
            case measure => simp [intOf]; omega
      · have hkn : k = bs.length := by omega
        subst hkn
        have HL4 := Lib.hid (HL3.out.keep HV.out.bel)
        clear f3 fl HRW HL3
        have r0 := HL4.out.row
        have rl := r0.lt
        have q0 := r0.at 0 rfl
        have q1 := r0.at 1 rfl
        have q2 := r0.at 2 rfl
        have q3 := r0.at 3 rfl
        clear r0
        have HNM := Lib.hid (fun k (hk : k < (mentB bs bs.length).length) => (HL4.out.fn.tk HSM.out HL4.out.tz).fn.s k hk)
        have hml : (mentB bs bs.length).length ≤ 10000 := by have h1 := mentB_len bs bs.length; have h2 := HSM.out.tot; omega
        obtain ⟨lp, lc, rfl⟩ := HV.out.ars.shape
        go_wp2_with fail
        by_cases hv : vFun R A (mentB bs bs.length) bs = true
        · obtain ⟨h0, h1, -⟩ := (vFun_iff _ _ _ _).1 hv
          obtain ⟨Rn, rfl⟩ := Int.eq_ofNat_of_zero_le h1.1
          have HVV := Lib.hid hv
          refine ((HL4.out.fn.tk HSM.out HL4.out.tz).obj (nm := nm) hv (by have := HSM.out.2.1; omega)).mono ?_
          rintro e w5 ⟨cv, rv, data, code, refs, rfl, hc, hr, -, -, hb5⟩
          have HL5 := Lib.hid (HL4.out.keep hb5)
          have HV5 := Lib.hid (HV.out.ars.below hb5 (Nat.le_refl _))
          obtain ⟨cvp, cvc, rfl⟩ := hc.shape
          obtain ⟨rvp, rvc, rfl, -, -⟩ := id hr
          clear hb5 HL4 hc hr hv h0 h1 rl q0 q1 q2 q3
          have r0 := HL5.out.row
          have rl := r0.lt
          have q0 := r0.at 0 rfl
          have q1 := r0.at 1 rfl
          have q2 := r0.at 2 rfl
          have q3 := r0.at 3 rfl
          clear r0
          have hbx : ∀ o : Obj, Below w5.heap.size w5 (w5.alloc o) := fun o => bAlloc (Nat.le_refl _) (Below.refl _ _)
          have HBX := Lib.hid hbx
          clear hbx
          go_upto_region 16 with fail
          obtain ⟨w6, hw6⟩ : ∃ W : World, W = w5.alloc (.cells #[.string nm, .slice cvp code.length cvc, .int .i64 data, .slice rvp refs.length rvc] 31) := ⟨_, rfl⟩
          have hb6 : Below w5.heap.size w5 w6 := by rw [hw6]; exact HBX.out _
          rw [← hw6]
          clear hw6 HBX
          have HL6 := Lib.hid (HL5.out.keep hb6)
          have HV6 := Lib.hid (HV5.out.below hb6 (Nat.le_refl _))
          clear hb6 HL5 HV5 rl q0 q1 q2 q3
          have r0 := HL6.out.row
          have rl := r0.lt
          have q0 := r0.at 0 rfl
          have q1 := r0.at 1 rfl
          have q2 := r0.at 2 rfl
          have q3 := r0.at 3 rfl
          clear r0
          go_wp2_with fail
          refine (HL6.out.fn.valid HSM.out nm HV6.out HNM.out hml).mono ?_
          rintro e w7 ⟨rfl, hb7⟩
          rw [HVV.out]
          have HL7 := Lib.hid (HL6.out.keep hb7)
          clear hb7 HL6 rl q0 q1 q2 q3
          go_wp2_with fail
          go_ret
          exact ⟨rfl, HB0.out.trans (HL7.out.bel.mono HB0.out.size)⟩
        · have hv : vFun R A (mentB bs bs.length) bs = false := by simpa using hv
          have HVV := Lib.hid hv
          refine (task_no nm R _ _ A bs w4 (HL4.out.fn.tk HSM.out HL4.out.tz) hv).mono ?_
          rintro e w5 ⟨rfl, hb5⟩
          have HL5 := Lib.hid (HL4.out.keep hb5)
          have HV5 := Lib.hid (HV.out.ars.below hb5 (Nat.le_refl _))
          clear hb5 HL4 hv rl q0 q1 q2 q3
          have hbx : ∀ o : Obj, Below w5.heap.size w5 (w5.alloc o) := fun o => bAlloc (Nat.le_refl _) (Below.refl _ _)
          have HBX := Lib.hid hbx
          have HRO := Lib.hid (RowC2.made w5 [.string ⟨#[]⟩, .slice none 0 0, .int .i64 0, .slice none 0 0] 31)
          clear hbx
          unfold zeroObj
          go_upto_region 16 with fail
          obtain ⟨w6, hw6⟩ : ∃ W : World, W = w5.alloc (.cells #[.string ⟨#[]⟩, .slice none 0 0, .int .i64 0, .slice none 0 0] 31) := ⟨_, rfl⟩
          have hb6 : Below w5.heap.size w5 w6 := by rw [hw6]; exact HBX.out _
          have HRO : Hid (RowC2 w6 w5.heap.size [.string ⟨#[]⟩, .slice none 0 0, .int .i64 0, .slice none 0 0]) := by rw [hw6]; exact HRO
          rw [← hw6]
          clear hw6 HBX
          have HL6 := Lib.hid (HL5.out.keep hb6)
          have HV6 := Lib.hid (HV5.out.below hb6 (Nat.le_refl _))
          clear hb6 HL5 HV5
          have r0 := HL6.out.row
          have rl := r0.lt
          have q0 := r0.at 0 rfl
          have q1 := r0.at 1 rfl
          have q2 := r0.at 2 rfl
          have q3 := r0.at 3 rfl
          clear r0
          go_wp2_with fail
          refine (HL6.out.fn.valid HSM.out nm HV6.out HNM.out hml).mono ?_
          rintro e w7 ⟨rfl, hb7⟩
          rw [HVV.out]
          have HL7 := Lib.hid (HL6.out.keep hb7)
          have HRO7 := Lib.hid (HRO.out.below hb7 HRO.out.lt)
          clear hb7 HL6 HRO rl q0 q1 q2 q3
          have o0 := HRO7.out
          have ol := o0.lt
          have p1 := o0.at 1 rfl
          have p3 := o0.at 3 rfl
          clear o0
          go_wp2_with fail
          go_ret
          exact ⟨rfl, HB0.out.trans (HL7.out.bel.mono HB0.out.size)⟩
  · refine (small_any nm R _ _ A bs w2 HL2.out.fn.a HL2.out.fn.b 0 (fun h => absurd h hsm) (fun _ => rfl)).mono ?_
    rintro e w3 ⟨rfl, hb3⟩
    have HL3 := Lib.hid (HL2.out.keep hb3)
    clear hb3 HL2 rl q0 q1 q2 q3
    go_wp2_with fail
    go_ret
    exact ⟨rfl, HB0.out.trans (HL3.out.bel.mono HB0.out.size)⟩
end Go.Proofs.YtlajdcikhbocdaaDoor
