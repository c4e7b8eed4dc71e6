/- Law LinkerCuts, walked. -/
import Derived.Test.YtepldfnplfhncaaDoorLinU
import Derived.Test.YtepldfnplfhncaaDoorLinW
import Derived.Test.YtepldfnplfhncaaDoorLinN
set_option linter.unusedVariables false
set_option linter.unusedSimpArgs false
namespace Go.Proofs.YtepldfnplfhncaaDoor
open Go.RowKit

/-- Append of all the bytes of a slice. -/
theorem wpList_append_all {w : World} {ops : Array Oper} {rest : List Oper} {o : Oper} {a : Act} {Q : Exit → Act → World → Prop} (hgd : o.guard = none) (s x : Operand)
    (ho : o.op = .call { callee := .builtin .append, args := #[s, x], argTypes := #[31, 31] })
    (base : Nat) (v : Value) (l : List Nat) (hs : a.eval s = v) (hown : w.ownsRow base 5 1 v l.length (u8s l))
    (g off c : Nat) (l2 : List Nat) (hx : a.eval x = .slice (some ⟨g, off, none⟩) l2.length c) (hy : ∀ k, k < l2.length → w.cell? ⟨g, off + k, none⟩ = some (.int .u8 (l2.getD k 0 : Nat)))
    (h63 : l.length + l2.length ≤ 1000000) (hbase : base ≤ w.heap.size)
    (h : ∀ p c' w', w'.ownsRow base 5 1 (.slice p (l.length + l2.length) c') (l.length + l2.length) (u8s l ++ u8s l2) → w.grownBy w' v.ownBlock → wpList Tryd.prog ops Q rest (a.put o.dst (.slice p (l.length + l2.length) c')) w') : wpList Tryd.prog ops Q (o :: rest) a w := by
  refine wpList_plain hgd fun K hK => ?_
  obtain ⟨i, hi, hie⟩ := Option.map_eq_some_iff.1 infoU8
  simp only [Prod.mk.injEq] at hie
  obtain ⟨v', w', hrun, h2, h3, _, h5⟩ := run_append_own_at (P := Tryd.prog) w base 31 o.type 5 i (.int .u8 0) 1 1 Tryd.underlying31 hi hie.1 hie.2.1 hie.2.2 rfl (by decide) v l.length _ hown ⟨g, off, none⟩ l2.length c (u8s l2) (by rw [u8s_len, Nat.mul_one]) (fun j u hj => by
    have hjl : j < l2.length := by
      obtain ⟨h, _⟩ := List.getElem?_eq_some_iff.1 hj
      simpa [u8s] using h
    have e2 : (⟨g, off, none⟩ : Addr).add j = ⟨g, off + j, none⟩ := by unfold Addr.add; split <;> simp_all
    rw [e2, hy j hjl]
    simp [u8s, List.getElem?_eq_getElem hjl] at hj
    rw [← hj]
    simp [List.getD_eq_getElem?_getD, List.getElem?_eq_getElem hjl]) (fun u hu => by obtain ⟨b, _, rfl⟩ := List.mem_map.1 hu; rfl) (by unfold maxLen; omega) (by omega) hbase
  have hsl : ∃ p c', v' = .slice p (l.length + l2.length) c' := by
    rcases h2.2 with ⟨rfl, hh⟩ | ⟨g, cap, cur, rfl, _⟩
    · exact ⟨none, 0, by rw [hh]⟩
    · exact ⟨_, _, rfl⟩
  obtain ⟨p, c', rfl⟩ := hsl
  unfold Oper.wp execOp
  simp only [ho, resolve, invoke, builtin, Sem.run_bind, Sem.run_pure, Result.andThen_ok, List.map_toArray, List.map_cons, List.map_nil, hs, hx, hrun]
  exact hK _ _ (h p c' w' h2 h3)

/-- A slice of no bytes, as it is built. -/
theorem own_empty (w : World) : (w.alloc (.cells #[] 5)).ownsRow w.heap.size 5 1 (.slice (some ⟨w.heap.size, 0, none⟩) 0 0) ([] : List Nat).length (u8s []) :=
  ⟨rfl, .inr ⟨w.heap.size, 0, #[], rfl, Nat.le_refl _, heap_alloc_new w _, Nat.le_refl _, Nat.zero_le _, rfl, rfl⟩⟩

set_option maxHeartbeats 3200000 in
set_option maxRecDepth 20000 in
theorem cuts_any (cv ev : Value) (im : LIm) (ct mo : Nat) (w : World) (hT : Tab w) (h : LImAt w cv ev im) (hct : ct < 65536) (hmo : mo < 256) :
    Calls Tryd.prog 6 #[.agg #[cv, ev, .int .i64 im.sh, .int .i64 im.lk], .int .u16 ct, .int .u8 mo] w fun e w' => e = .returned (.bool true) ∧ Below w.heap.size w w' := by
  have hb0 : Below w.heap.size w (w.alloc (.cells #[cv, ev, .int .i64 im.sh, .int .i64 im.lk] 25)) := bAlloc (Nat.le_refl _) (Below.refl _ _)
  have hx0 : Box4 (w.alloc (.cells #[cv, ev, .int .i64 im.sh, .int .i64 im.lk] 25)) w.heap.size cv ev im.sh im.lk := ⟨by simp [go_sem], by simp [go_sem], by simp [go_sem], by simp [go_sem]⟩
  have HI0 := Lib.hid (h.below hb0 (Nat.le_refl _))
  have HT0 := Lib.hid (hT.of_below hb0)
  obtain ⟨cp, ccap, rfl, -⟩ := h.code
  obtain ⟨ep, ecap, rfl, -⟩ := h.ents
  have HW := Lib.hid h.words
  have HB0 := Lib.hid hb0
  have HX0 := Lib.hid hx0
  clear hb0 h hT hx0
  go_enter Tryd.func6, Tryd.ntmps6
  go_wp2_with fail
  refine (awake22 _ HT0.out).mono ?_
  rintro e w1 ⟨rfl, hb1⟩
  have HI1 := Lib.hid (HI0.out.below hb1 (Nat.le_refl _))
  have HT1 := Lib.hid (HT0.out.of_below hb1)
  have hx1 := HX0.out.below hb1 (by simp)
  have HB1 := Lib.hid (HB0.out.trans (hb1.mono (by simp)))
  have hz : w.heap.size < w1.heap.size := by have := hb1.size; simp at this; omega
  have b0 := hx1.c
  have b1 := hx1.e
  have b2 := hx1.s
  have b3 := hx1.l
  clear HI0 HT0 HB0 HX0 hb1 hx1
  by_cases s1 : im.code.length ≤ 5000
  · have s1I : (im.code.length : Int) ≤ 5000 := by omega
    by_cases s2 : im.ents.length ≤ 20
    · have s2I : (im.ents.length : Int) ≤ 20 := by omega
      have HE := Lib.hid (enc_any _ _ im w1 HT1.out HI1.out)
      go_wp2_with fail
      refine HE.out.mono ?_
      rintro e w2 ⟨h1, h2, hb2⟩
      have HB2 := Lib.hid (HB1.out.trans (hb2.mono HB1.out.size))
      have HT2 := Lib.hid (HT1.out.of_below hb2)
      clear HE HI1 HT1 HB1 hz b0 b1 b2 b3 hb2
      by_cases hc : chk im = 0
      · obtain ⟨v, rfl, hrow⟩ := h1 hc
        have hpos := imgB_pos (toImg im)
        have hwi : WordsIn im := fun x hx => by
          obtain ⟨k, hk, rfl⟩ := List.mem_iff_getElem.1 hx
          have := HW.out k hk
          rwa [List.getD_eq_getElem?_getD, List.getElem?_eq_getElem hk] at this
        have hlt := toImg_lt im
        have hlen : (imgB (toImg im)).length ≤ 100000 := by rw [← partC_all]; exact partC_len (chk_good hc) _
        have HCut := Lib.hid (fun n (hn : n < (imgB (toImg im)).length) => dec_cut hc hwi hn)
        have HMore := Lib.hid (dec_more hc hwi mo)
        generalize imgB (toImg im) = l at hrow hpos hlt hlen HCut HMore
        clear h1 h2 hc hwi
        have HLT := Lib.hid hlt
        have HR := Lib.hid (BtAt.of_own hrow)
        have HV := Lib.hid (fun k (hk : v.ownBlock = some k) => own0_lt hrow hk)
        obtain ⟨pv, cap, hvs⟩ := HR.out.shape
        subst hvs
        clear hrow hlt
        have hposI : ¬ (l.length : Int) = 0 := by omega
        have hcap : l.length ≤ cap := by
          obtain ⟨p', c', e, hc', -⟩ := HR.out
          injection e with _ _ e3
          omega
        have hnl : ct % l.length < l.length := Nat.mod_lt _ hpos
        have hmod : 0 ≤ (ct : Int) % (l.length : Int) ∧ (ct : Int) % (l.length : Int) ≤ (cap : Int) := by
          have e : (ct : Int) % (l.length : Int) = ((ct % l.length : Nat) : Int) := by simp
          rw [e]; omega
        have hP := HR.out.part (a := 0) (b := ct % l.length) (n := ct % l.length) (c := cap) (Nat.zero_le _) (by omega) rfl rfl
        have e0 : (if cap = 0 then pv else pv.map (·.add (0 * 1))) = pv := by
          split
          · rfl
          · cases pv
            · rfl
            · simp [Addr.add]
        rw [e0, List.drop_zero] at hP
        have HD := Lib.hid (dec_any22 (.slice pv (ct % l.length) cap) (l.take (ct % l.length)) w2 HT2.out hP (fun k hk => HV.out k (by rw [← hk]; cases pv <;> rfl)) (fun c hc => HLT.out c (List.mem_of_mem_take hc)) (by rw [List.length_take]; omega))
        have HC4 := Lib.hid (HCut.out _ hnl)
        clear hP e0 HCut
        go_wp2_with fail
        refine HD.out.mono ?_
        rintro e w3 ⟨cv3, ev3, rfl, him, hb3⟩
        rw [HC4.out]
        have HB3 := Lib.hid (HB2.out.trans (hb3.mono HB2.out.size))
        have HT3 := Lib.hid (HT2.out.of_below hb3)
        have HR3 := Lib.hid (HR.out.below hb3 (Nat.le_refl _))
        obtain ⟨pc, cc, rfl, -⟩ := him.code
        obtain ⟨pe, ce, rfl, -⟩ := him.ents
        generalize (decP (l.take (ct % l.length))).2 = im3 at *
        clear him hb3 HD HC4 HB2 HT2 HR HV hmod hnl
        obtain ⟨m, off, hpv, hm, hcells⟩ : ∃ m off, pv = some ⟨m, off, none⟩ ∧ m < w3.heap.size ∧ ∀ k, k < l.length → w3.cell? ⟨m, off + k, none⟩ = some (.int .u8 (l.getD k 0 : Nat)) := by
          obtain ⟨p', c', e, hc', h | h⟩ := HR3.out
          · rw [h] at hpos; cases hpos
          · injection e with e1 _ _
            rw [e1]; exact h
        subst hpv
        go_upto_region 11 with fail
        have hb4 : Below w3.heap.size w3 (w3.alloc (.cells #[.slice pc im3.code.length cc, .slice pe im3.ents.length ce, .int .i64 im3.sh, .int .i64 im3.lk] 25)) := bAlloc (Nat.le_refl _) (Below.refl _ _)
        have HB4 := Lib.hid (HB3.out.trans (hb4.mono HB3.out.size))
        have HT4 := Lib.hid (HT3.out.of_below hb4)
        have HC4 := Lib.hid (fun k (hk : k < l.length) => (hb4.cell (p := ⟨m, off + k, none⟩) hm).trans (hcells k hk))
        have hm4 : m < (w3.alloc (.cells #[.slice pc im3.code.length cc, .slice pe im3.ents.length ce, .int .i64 im3.sh, .int .i64 im3.lk] 25)).heap.size := Nat.lt_of_lt_of_le hm hb4.size
        generalize w3.alloc (.cells #[.slice pc im3.code.length cc, .slice pe im3.ents.length ce, .int .i64 im3.sh, .int .i64 im3.lk] 25) = w4 at HB4 HT4 HC4 hm4 ⊢
        clear hb4 HB3 HT3 HR3 hcells hm
        have HO4 := Lib.hid (own_empty w4)
        have HZ4 := Lib.hid hm4
        have hcl4 : ∀ k, k < l.length → (w4.alloc (.cells #[] 5)).cell? ⟨m, off + k, none⟩ = some (.int .u8 (l.getD k 0 : Nat)) := fun k hk => ((show Below w4.heap.size w4 (w4.alloc (.cells #[] 5)) from bAlloc (Nat.le_refl _) (Below.refl _ _)).cell (p := ⟨m, off + k, none⟩) hm4).trans (HC4.out k hk)
        have HCL4 := Lib.hid hcl4
        clear hcl4
        go_wp2_with (first | (at_builtin; refine wpList_append_all rfl _ _ rfl w4.heap.size (.slice (some ⟨w4.heap.size, 0, none⟩) 0 0) [] rfl HO4.out m off cap l rfl HCL4.out (by simp; omega) (by simp) ?_))
        intro p c' w5 hO hgr
        have hO5 : w5.ownsRow w4.heap.size 5 1 (.slice p l.length c') l.length (u8s l) := by simpa [u8s] using hO
        have hB5 : Below w4.heap.size w4 w5 := (show Below w4.heap.size w4 (w4.alloc (.cells #[] 5)) from bAlloc (Nat.le_refl _) (Below.refl _ _)).trans ⟨hgr.os, hgr.tape, hgr.output, hgr.size, fun k hk => hgr.block k (by simp; omega) (fun e => by simp [Value.ownBlock] at e; omega)⟩
        have hs5 : w4.heap.size ≤ w5.heap.size := hB5.size
        have HO5 := Lib.hid (show ∀ o : Obj, (w5.alloc o).ownsRow w4.heap.size 5 1 (.slice p l.length c') l.length (u8s l) from fun o => own0_block hO5 fun b hb => (show Below w5.heap.size w5 (w5.alloc o) from bAlloc (Nat.le_refl _) (Below.refl _ _)).block b (own0_lt hO5 hb))
        have HG5 := Lib.hid (fun b (hb : (Value.slice p l.length c').ownBlock = some b) => own_ge hO5 hb)
        have HB5 := Lib.hid hB5
        clear hO hgr hO5 hB5 hm4 HCL4 HO4 HC4
        go_wp2_with (first | (at_builtin; refine wpList_append_u8 rfl _ _ rfl w4.heap.size (.slice p l.length c') l rfl (HO5.out _) w5.heap.size 1 mo rfl (by simp [go_sem]) (by omega) (by simp; omega) ?_))
        intro p6 c6 w6 hO hgr hd
        have hO6 : w6.ownsRow w4.heap.size 5 1 (.slice p6 (l.length + 1) c6) (l ++ [mo]).length (u8s (l ++ [mo])) := by rw [List.length_append]; simpa [u8s] using hO
        have hB6 : Below w4.heap.size w4 w6 := HB5.out.trans ((show Below w5.heap.size w5 (w5.alloc (.cells #[.int .u8 mo] 5)) from bAlloc (Nat.le_refl _) (Below.refl _ _)).mono hs5 |>.trans ⟨hgr.os, hgr.tape, hgr.output, hgr.size, fun k hk => hgr.block k (by simp; omega) (fun e => by have := HG5.out k e.symm; omega)⟩)
        have HB6 := Lib.hid (HB4.out.trans (hB6.mono HB4.out.size))
        have HD6 := Lib.hid (dec_any22 (.slice p6 (l.length + 1) c6) (l ++ [mo]) w6 (HT4.out.of_below hB6) (BtAt.of_own hO6) (fun k hk => own0_lt hO6 hk) (fun c hc => by rcases List.mem_append.1 hc with hc | hc; exact HLT.out c hc; rw [List.mem_singleton] at hc; omega) (by rw [List.length_append]; simp; omega))
        clear hO hgr hd hO6 hB6 HO5 HG5 HB5 hs5
        go_wp2_with fail
        refine HD6.out.mono ?_
        rintro e w7 ⟨cv7, ev7, rfl, him, hb7⟩
        rw [HMore.out]
        have HB7 := Lib.hid (HB6.out.trans (hb7.mono HB6.out.size))
        obtain ⟨pc7, cc7, rfl, -⟩ := him.code
        obtain ⟨pe7, ce7, rfl, -⟩ := him.ents
        generalize (decP (l ++ [mo])).2 = im7 at *
        clear him hb7 HD6
        go_wp2_with fail
        go_ret
        exact ⟨rfl, bAlloc HB7.out.size HB7.out⟩
      · have hr := h2 hc
        subst hr
        have hne : (chk im != 0) = true := by simpa using hc
        generalize chk im = z at hne
        clear h1 h2 hc
        go_wp2_with fail
        go_ret
        exact ⟨rfl, HB2.out⟩
    · have s2I : (im.ents.length : Int) > 20 := by omega
      go_wp2_with fail
      all_goals first | (exfalso; omega) | skip
      go_ret
      exact ⟨rfl, HB1.out⟩
  · have s1I : (im.code.length : Int) > 5000 := by omega
    go_wp2_with fail
    all_goals first | (exfalso; omega) | skip
    go_ret
    exact ⟨rfl, HB1.out⟩
end Go.Proofs.YtepldfnplfhncaaDoor
