/- linker.linkable, by contract. -/
import Derived.Test.YtpachmkklppmjaaDoorLkU
import Derived.Deep.CutBlock
set_option linter.unusedVariables false
set_option linter.unusedSimpArgs false
namespace Go.Proofs.YtpachmkklppmjaaDoor
open Go.RowKit Go.Maps

theorem seenN_rev (l : List ByteArray) (s : ByteArray) : seenN l.reverse s = seenN l s := by
  unfold seenN
  rw [Bool.eq_iff_iff, List.any_eq_true, List.any_eq_true]
  simp only [List.mem_reverse]
theorem twN_push (l : List ByteArray) (t : ByteArray) : twN (l ++ [t]).reverse = (twN l.reverse || seenN l t) := by
  rw [List.reverse_append, List.reverse_cons, List.reverse_nil, List.nil_append, List.singleton_append]
  show (twN l.reverse || seenN l.reverse t) = _
  rw [seenN_rev]
theorem wdS_push (l : List LSh) (s : LSh) : wdS (l ++ [s]) = wdS l + if 1 ≤ s.2 ∧ s.2 ≤ 32 then s.2 else 0 := by simp [wdS]
theorem sizedS_push (l : List LSh) (s : LSh) : sizedS (l ++ [s]) = (sizedS l && decide (1 ≤ s.2 ∧ s.2 ≤ 32)) := by simp [sizedS]
theorem nmB_push (l : List LOb) (o : LOb) : nmB (l ++ [o]) = (nmB l && goodB o.nm) := by simp [nmB]
/-- What linkable holds: the names of shared objects (block nb), the names of tasks (block nb + 1). -/
structure LlRel (w0 : World) (nb n1 : Nat) (K : List ByteArray) (n2 : Nat) (T : List ByteArray) (w : World) : Prop where
  kn : MpAt w nb n1 (knF K)
  tn : MpAt w (nb + 1) n2 (knF T)
  bel : Below w0.heap.size w0 w
  ge : w0.heap.size ≤ nb
section
variable {w0 w w' : World} {nb n1 n2 : Nat} {K T : List ByteArray}
theorem LlRel.keep (h : LlRel w0 nb n1 K n2 T w) (hb : Below w.heap.size w w') : LlRel w0 nb n1 K n2 T w' :=
  ⟨h.kn.of_block (hb.block _ h.kn.lt), h.tn.of_block (hb.block _ h.tn.lt), h.bel.trans (hb.mono h.bel.size), h.ge⟩
theorem LlRel.name (h : LlRel w0 nb n1 K n2 T w) {t : ByteArray} {n' : Nat} (hm : MpAt w' nb n' (updF (knF K) t (.bool true))) (hg : w.grownBy w' (some nb)) : LlRel w0 nb n' (K ++ [t]) n2 T w' :=
  ⟨by rw [knF_push]; exact hm, h.tn.of_block (hg.block _ h.tn.lt (fun e => by injection e with e; omega)), h.bel.trans ⟨hg.os, hg.tape, hg.output, hg.size, fun k hk => hg.block k (Nat.lt_of_lt_of_le hk h.bel.size) (fun e => by cases e; have := h.ge; omega)⟩, h.ge⟩
theorem LlRel.task (h : LlRel w0 nb n1 K n2 T w) {t : ByteArray} {n' : Nat} (hm : MpAt w' (nb + 1) n' (updF (knF T) t (.bool true))) (hg : w.grownBy w' (some (nb + 1))) : LlRel w0 nb n1 K n' (T ++ [t]) w' :=
  ⟨h.kn.of_block (hg.block _ h.kn.lt (fun e => by injection e with e; omega)), by rw [knF_push]; exact hm, h.bel.trans ⟨hg.os, hg.tape, hg.output, hg.size, fun k hk => hg.block k (Nat.lt_of_lt_of_le hk h.bel.size) (fun e => by cases e; have := h.ge; omega)⟩, h.ge⟩
end
def LlPost (S : List LSh) (l : List LOb) (w : World) (e : Ending) (w' : World) : Prop := ∃ er : Int, e = .returned (.int .i64 er) ∧ (er = 0 ↔ okL S l = true) ∧ Below w.heap.size w w'
theorem ll_no {S : List LSh} {l : List LOb} {er : Int} (h : er ≠ 0) (ho : okL S l = false) : er = 0 ↔ okL S l = true := by
  rw [ho]
  exact ⟨fun e => absurd e h, fun e => by cases e⟩
theorem okL_no {S : List LSh} {l : List LOb} (h : ¬ (l.all valB = true ∧ sizedS S = true ∧ twN (S.map (·.1)).reverse = false ∧ twN (l.map (·.nm)).reverse = false ∧ nmB l = true ∧ undB S l = false ∧ fullB S l = false)) : okL S l = false := by
  cases ho : okL S l with
  | false => rfl
  | true => exact absurd ((okL_iff S l).1 ho) h

set_option maxHeartbeats 12800000 in
set_option maxRecDepth 40000 in
theorem linkable_any (sv lv : Value) (S : List LSh) (l : List LOb) (w : World) (hT : Tab w) (hS : ShAt w sv S) (hL : ObsAt w lv l) (hF : LFit S l) (hSl : S.length ≤ 10) (hll : l.length ≤ 10) (hrl : ∀ k, k < l.length → (l.getD k default).refs.length ≤ 100) (hcl : ∀ k, k < l.length → (l.getD k default).code.length ≤ 5000) :
    Calls Tryd.prog 11 #[sv, lv] w (LlPost S l w) := by
  have HU := Lib.hid (fun W (hb : Below w.heap.size w W) => undef_any sv lv S l W (hS.below hb (Nat.le_refl _)) (hL.below hb (Nat.le_refl _)) hF hSl hll hrl)
  obtain ⟨sp, sc, rfl⟩ := hS.shape
  obtain ⟨lp, lc, rfl⟩ := hL.shape
  have hmm := @run_makeMap Tryd.prog
  have hz0 : (w.alloc (.map #[] 0)).heap.size = w.heap.size + 1 := by simp
  have h0 : LlRel w w.heap.size 0 [] 0 [] ((w.alloc (.map #[] 0)).alloc (.map #[] 0)) := by
    refine ⟨(MpAt.made w).of_block ?_, ?_, bAlloc (by simp) (bAlloc (Nat.le_refl _) (Below.refl _ _)), Nat.le_refl _⟩
    · exact (bAlloc (B := w.heap.size + 1) (by simp) (Below.refl _ _)).block w.heap.size (by omega)
    · have := MpAt.made (w.alloc (.map #[] 0))
      rwa [hz0] at this
  have HS := Lib.hid hS
  have HL := Lib.hid hL
  have HF := Lib.hid hF
  have HTB := Lib.hid hT
  have HCL := Lib.hid hcl
  have H0 := Lib.hid h0
  clear hS hL hF h0 hz0 hT hcl hrl
  go_enter Tryd.func11, Tryd.ntmps11
  go_wp2_with fail
  go_loopw [7, 9, 10, 21] (fun s7 s9 s10 s21 wx => ∃ (k : Nat) (wd : Int) (sz tw : Bool), s7 = .int .i64 wd ∧ s9 = .bool sz ∧ s10 = .bool tw ∧ s21 = .int .i64 k ∧ k ≤ S.length ∧ (0 ≤ wd ∧ wd ≤ 32 * k) ∧ Hid ((wd = wdS (S.take k) ∧ sz = sizedS (S.take k) ∧ tw = twN ((S.map (·.1)).take k).reverse) ∧ LlRel w w.heap.size k ((S.map (·.1)).take k) 0 [] wx)) (fun _ _ _ s21 _ => S.length - (intOf s21).toNat)
  case atStart => exact ⟨0, 0, true, false, rfl, rfl, rfl, rfl, Nat.zero_le _, ⟨by omega, by omega⟩, ⟨rfl, rfl, rfl⟩, H0.out⟩
  case round =>
    clear H0
    obtain ⟨k, wd, sz, tw, rfl, rfl, rfl, rfl, hk, hwd, HE⟩ := hrel
    obtain ⟨w5, rfl⟩ : ∃ W : World, W = wr := ⟨_, rfl⟩
    have HQ := Lib.hid HE.out.1
    have HR := Lib.hid HE.out.2
    clear HE
    by_cases hlt : k < S.length
    · skip
      have hltI : (k : Int) < S.length := by omega
      obtain ⟨sp', sc', e, hs⟩ := HS.out
      cases e
      obtain ⟨m, off, rfl, hm, z0, z1⟩ := hs k hlt
      have hb := HR.out.bel
      have g0 := (hb.cell (p := ⟨m, off + k * 2, none⟩) hm).trans z0
      have g1 := (hb.cell (p := ⟨m, off + k * 2 + 1, none⟩) hm).trans z1
      have hm5 := Nat.lt_of_lt_of_le hm hb.size
      have HT : Hid ((S.map (·.1)).take (k + 1) = (S.map (·.1)).take k ++ [(S.getD k default).1]) := (show _ = _ by rw [← List.map_take, take_next S hlt, List.map_append, List.map_take]; rfl)
      have HT2 : Hid (S.take (k + 1) = S.take k ++ [((S.getD k default).1, (S.getD k default).2)]) := (show _ = _ from take_next S hlt)
      have hsz := HF.out.s k hlt
      generalize (S.getD k default).1 = nm at g0 z0 HT HT2 hsz
      generalize (S.getD k default).2 = ln at g1 z1 HT2
      clear hs hb z0 z1 hm
      go_upto_region 7 with fail
      have HR6 := Lib.hid (HR.out.keep (bAlloc (o := .cells #[.string nm, .int .i64 ln] 55) (Nat.le_refl _) (Below.refl _ _)))
      have hrow := RowC.made w5 [.string nm, .int .i64 ln] 55
      change RowC (w5.alloc (.cells #[.string nm, .int .i64 ln] 55)) _ _ at hrow
      generalize w5.alloc (.cells #[.string nm, .int .i64 ln] 55) = w6 at HR6 hrow ⊢
      have hnb : w5.heap.size ≠ w.heap.size := by
        have h1 := HR.out.kn.lt
        omega
      generalize w5.heap.size = ba at hrow hnb ⊢
      have HNB := Lib.hid hnb
      have y0 := hrow.at 0 rfl
      have y1 := hrow.at 1 rfl
      have yl := hrow.lt
      have HROW := Lib.hid hrow
      have hmp := HR6.out.kn
      have hlk := hmp.look (t := 82) (e := 4) Tryd.underlying82 (zeroB _) nm hsz
      rw [knF_get] at hlk
      have HSN : Hid (twN ((S.map (·.1)).take (k + 1)).reverse = (tw || seenN ((S.map (·.1)).take k) nm)) := (show _ = _ by rw [HT.out, twN_push, ← HQ.out.2.2])
      generalize seenN ((S.map (·.1)).take k) nm = sn at hlk HSN
      have HWD : Hid (wdS (S.take (k + 1)) = wd + if 1 ≤ ln ∧ ln ≤ 32 then ln else 0) := (show _ = _ by rw [HT2.out, wdS_push, ← HQ.out.1])
      have HSZ : Hid (sizedS (S.take (k + 1)) = (sz && decide (1 ≤ ln ∧ ln ≤ 32))) := (show _ = _ by rw [HT2.out, sizedS_push, ← HQ.out.2.1])
      clear HQ HR hrow g0 g1 hm5 hnb
      cases tw
      all_goals (
        go_upto_region 8 with fail
        go_upto_region 9 with (first | (at_mapUpdate; refine wpList_put_mp rfl _ _ _ 82 4 rfl Tryd.underlying82 w.heap.size k (knF ((S.map (·.1)).take k)) hmp rfl nm rfl hsz (by omega) (.bool true) rfl ?_))
        intro w7 hm7 hg7
        have HR7 := Lib.hid (HR6.out.name hm7 hg7)
        rw [← HT.out] at HR7
        have hrow7 := rowC_block HROW.out (hg7.block _ HROW.out.lt (fun e => HNB.out (by injection e))) hg7.size
        clear hm7 hg7 HR6 hmp hlk y0 y1 yl HROW HNB HT HT2 w6
        have y0 := hrow7.at 0 rfl
        have y1 := hrow7.at 1 rfl
        have yl := hrow7.lt
        clear hrow7
        by_cases c1 : ln < 1
        · go_wp2_with fail
          go_roundw
          case rel => exact ⟨k + 1, _, _, _, rfl, rfl, rfl, by go_num, by omega, ⟨by omega, by omega⟩, ⟨by rw [HWD.out, if_neg (by omega)]; omega, by rw [HSZ.out, decide_eq_false (by omega), Bool.and_false], by rw [HSN.out]; rfl⟩, HR7.out⟩
          case measure => simp [intOf]; omega
        by_cases c2 : ln > 32
        · go_wp2_with fail
          go_roundw
          case rel => exact ⟨k + 1, _, _, _, rfl, rfl, rfl, by go_num, by omega, ⟨by omega, by omega⟩, ⟨by rw [HWD.out, if_neg (by omega)]; omega, by rw [HSZ.out, decide_eq_false (by omega), Bool.and_false], by rw [HSN.out]; rfl⟩, HR7.out⟩
          case measure => simp [intOf]; omega
        have hww : IntKind.i64.wrap (wd + ln) = wd + ln := IntWalk.i64_in _ ⟨by omega, by omega⟩
        go_wp2_with fail
        go_roundw
        case rel => exact ⟨k + 1, _, _, _, rfl, rfl, rfl, by go_num, by omega, ⟨by omega, by omega⟩, ⟨by rw [HWD.out, if_pos (by omega)], by rw [HSZ.out, decide_eq_true (by omega), Bool.and_true], by rw [HSN.out]; rfl⟩, HR7.out⟩
        case measure => simp [intOf]; omega)
    · skip
      obtain rfl : k = S.length := by omega
      have hte : (S.map (·.1)).take S.length = S.map (·.1) := List.take_of_length_le (by simp)
      rw [List.take_length, hte] at HQ
      rw [hte] at HR
      clear hte hk hlt
      go_wp2_with fail
      go_loopw [8, 10, 11, 50] (fun s8 s10 s11 s50 wx => ∃ (k : Nat) (ins : Nat) (tw2 nd : Bool), s8 = .int .i64 ins ∧ s10 = .bool tw2 ∧ s11 = .bool nd ∧ s50 = .int .i64 k ∧ k ≤ l.length ∧ ins ≤ 5000 * k ∧ Hid ((ins = insN (l.take k) ∧ tw2 = (tw || twN ((l.map (·.nm)).take k).reverse) ∧ nd = nmB (l.take k) ∧ (l.take k).all valB = true) ∧ LlRel w w.heap.size S.length (S.map (·.1)) k ((l.map (·.nm)).take k) wx)) (fun _ _ _ s50 _ => l.length - (intOf s50).toNat)
      case atStart => exact ⟨0, 0, tw, true, rfl, rfl, rfl, rfl, Nat.zero_le _, by omega, ⟨rfl, by simp [twN], rfl, rfl⟩, HR.out⟩
      case round =>
        clear HR w5
        obtain ⟨k, ins, tw2, nd, rfl, rfl, rfl, rfl, hk, hins, HE⟩ := hrel
        obtain ⟨w5, rfl⟩ : ∃ W : World, W = wr := ⟨_, rfl⟩
        have HQ2 := Lib.hid HE.out.1
        have HR := Lib.hid HE.out.2
        clear HE
        by_cases hlt : k < l.length
        · skip
          have hltI : (k : Int) < l.length := by omega
          obtain ⟨lp', lc', e, hs⟩ := HL.out
          cases e
          obtain ⟨m, off, cv, rv, rfl, hm, ⟨z0, z1, z2, z3⟩, hgs, hrf⟩ := hs k hlt
          clear hs
          have hb := HR.out.bel
          have g0 := (hb.cell (p := ⟨m, off + k * 4, none⟩) hm).trans z0
          have g1 := (hb.cell (p := ⟨m, off + k * 4 + 1, none⟩) hm).trans z1
          have g2 := (hb.cell (p := ⟨m, off + k * 4 + 2, none⟩) hm).trans z2
          have g3 := (hb.cell (p := ⟨m, off + k * 4 + 3, none⟩) hm).trans z3
          have hm5 := Nat.lt_of_lt_of_le hm hb.size
          have HN : Hid ((l.map (·.nm)).take (k + 1) = (l.map (·.nm)).take k ++ [(l.getD k default).nm]) := (show _ = _ by rw [← List.map_take, take_next l hlt, List.map_append, List.map_take]; rfl)
          have HT2 : Hid (l.take (k + 1) = l.take k ++ [l.getD k default]) := (show _ = _ from take_next l hlt)
          have hsz := HF.out.o k hlt
          have hcl := HCL.out k hlt
          have HRF := Lib.hid (fun W (hb : Below w.heap.size w W) => And.intro (hgs.below hb (Nat.le_refl _)) (hrf.below hb (Nat.le_refl _)))
          obtain ⟨rp, rc, rfl⟩ := hrf.shape
          obtain ⟨cp, cc, rfl⟩ := hgs.shape
          generalize l.getD k default = ob at g0 g1 g2 g3 HN HT2 hsz hcl HRF z0 z1 z2 z3 hgs hrf
          obtain ⟨nm, code, refs, dat⟩ := ob
          clear hgs hrf hb z0 z1 z2 z3 hm
          go_upto_region 16 with fail
          have hbA : Below w5.heap.size w5 (w5.alloc (.cells #[.string nm, .slice cp code.length cc, .int .i64 dat, .slice rp refs.length rc] 38)) := bAlloc (Nat.le_refl _) (Below.refl _ _)
          have HR6 := Lib.hid (HR.out.keep hbA)
          have hrow := RowC.made w5 [.string nm, .slice cp code.length cc, .int .i64 dat, .slice rp refs.length rc] 38
          change RowC (w5.alloc (.cells #[.string nm, .slice cp code.length cc, .int .i64 dat, .slice rp refs.length rc] 38)) _ _ at hrow
          have hnb : w5.heap.size ≠ w.heap.size + 1 := by
            have h1 := HR.out.tn.lt
            omega
          generalize w5.alloc (.cells #[.string nm, .slice cp code.length cc, .int .i64 dat, .slice rp refs.length rc] 38) = w6 at hbA HR6 hrow ⊢
          generalize w5.heap.size = bo at hrow hnb ⊢
          have HNB := Lib.hid hnb
          have HROW := Lib.hid hrow
          have y0 := hrow.at 0 rfl
          have y1 := hrow.at 1 rfl
          have y2 := hrow.at 2 rfl
          have y3 := hrow.at 3 rfl
          have yl := hrow.lt
          have HV := Lib.hid (objValid_any nm _ _ dat code refs w6 (HTB.out.of_below HR6.out.bel) (HRF.out w6 HR6.out.bel).1 (HRF.out w6 HR6.out.bel).2)
          clear hbA hrow hnb HR g0 g1 g2 g3 hm5 w5
          go_wp2_with fail
          refine HV.out.mono ?_
          rintro e w7 ⟨rfl, hb7⟩
          have HR7 := Lib.hid (HR6.out.keep hb7)
          have HROW7 := Lib.hid (HROW.out.below hb7 HROW.out.lt)
          clear HV hb7 HR6 HROW y0 y1 y2 y3 yl w6
          cases hv : valO code dat (refs.map fun r => (r.at', r.lk)) with
          | false =>
            have HNO : Hid (okL S l = false) := (show _ = _ from okL_no fun h => by
              have h1 := List.all_eq_true.1 h.1 ⟨nm, code, refs, dat⟩ (by
                have h2 : (⟨nm, code, refs, dat⟩ : LOb) ∈ l.take (k + 1) := by rw [HT2.out]; simp
                exact List.mem_of_mem_take h2)
              exact absurd h1 (by show ¬ valO code dat _ = true; rw [hv]; decide))
            have HB7 := Lib.hid HR7.out.bel
            clear HR7 HROW7 hv
            go_wp2_with fail
            go_ret
            exact ⟨3, rfl, ll_no (by decide) HNO.out, HB7.out⟩
          | true =>
            have y0 := HROW7.out.at 0 rfl
            have y1 := HROW7.out.at 1 rfl
            have yl := HROW7.out.lt
            have hmp := HR7.out.tn
            have hlk := hmp.look (t := 82) (e := 4) Tryd.underlying82 (zeroB _) nm hsz
            rw [knF_get] at hlk
            have HTW : Hid ((tw || twN ((l.map (·.nm)).take (k + 1)).reverse) = (tw2 || seenN ((l.map (·.nm)).take k) nm)) := (show _ = _ by rw [HN.out, twN_push, HQ2.out.2.1, Bool.or_assoc])
            have HND : Hid (nmB (l.take (k + 1)) = (nd && goodB nm)) := (show _ = _ by rw [HT2.out, nmB_push, ← HQ2.out.2.2.1])
            have HIN : Hid (insN (l.take (k + 1)) = ins + code.length) := (show _ = _ by rw [HT2.out, insN_push, ← HQ2.out.1])
            have HVA : Hid ((l.take (k + 1)).all valB = true) := (show _ = _ by
              rw [HT2.out, List.all_append, HQ2.out.2.2.2]
              show (true && (valO code dat (refs.map fun r => (r.at', r.lk)) && true)) = true
              rw [hv]
              rfl)
            generalize seenN ((l.map (·.nm)).take k) nm = sn at hlk HTW
            have HG := Lib.hid (fun W => goodName_any nm W hsz)
            generalize goodB nm = gd at HND HG
            have hww : IntKind.i64.wrap ((ins : Int) + (code.length : Int)) = (ins : Int) + (code.length : Int) := IntWalk.i64_in _ ⟨by omega, by omega⟩
            clear hv HQ2 HT2
            cases tw2
            all_goals (
              go_upto_region 19 with fail
              go_upto_region 20 with (first | (at_mapUpdate; refine wpList_put_mp rfl _ _ _ 82 4 rfl Tryd.underlying82 (w.heap.size + 1) k (knF ((l.map (·.nm)).take k)) hmp rfl nm rfl hsz (by omega) (.bool true) rfl ?_))
              intro w8 hm8 hg8
              have HR8 := Lib.hid (HR7.out.task hm8 hg8)
              rw [← HN.out] at HR8
              have hrow8 := rowC_block HROW7.out (hg8.block _ HROW7.out.lt (fun e => HNB.out (by injection e))) hg8.size
              clear hm8 hg8 HR7 hmp hlk y0 y1 yl HROW7 HNB HN w7
              have y0 := hrow8.at 0 rfl
              have y1 := hrow8.at 1 rfl
              have yl := hrow8.lt
              clear hrow8
              cases nd with
              | false =>
                go_wp2_with fail
                go_roundw
                case rel => exact ⟨k + 1, ins + code.length, _, _, by go_num, rfl, rfl, by go_num, by omega, by omega, ⟨by rw [HIN.out], by rw [HTW.out]; rfl, by rw [HND.out]; rfl, HVA.out⟩, HR8.out⟩
                case measure => simp [intOf]; omega
              | true =>
                go_wp2_with fail
                refine (HG.out w8).mono ?_
                rintro e w9 ⟨rfl, rfl⟩
                go_wp2_with fail
                go_roundw
                case rel => exact ⟨k + 1, ins + code.length, _, _, by go_num, rfl, rfl, by go_num, by omega, by omega, ⟨by rw [HIN.out], by rw [HTW.out]; rfl, by rw [HND.out]; rfl, HVA.out⟩, HR8.out⟩
                case measure => simp [intOf]; omega)
        · skip
          obtain rfl : k = l.length := by omega
          have hte : (l.map (·.nm)).take l.length = l.map (·.nm) := List.take_of_length_le (by simp)
          rw [List.take_length, hte] at HQ2
          rw [hte] at HR
          have HB5 := Lib.hid HR.out.bel
          clear hte hk hlt HR
          obtain ⟨fl, hfl⟩ : ∃ b, b = fullB S l := ⟨_, rfl⟩
          have HFL := Lib.hid hfl
          have hfl2 : fl = (decide (4 < S.length) || decide (8 < l.length) || decide (64 < wd) || decide (4096 < ins)) := by
            rw [hfl]
            unfold fullB
            rw [← HQ.out.1, ← HQ2.out.1]
          have HF2 := Lib.hid hfl2
          clear hfl hfl2
          go_upto_region 23 with fail
          go_cut [16] from 79 to 94 (fun s16 wx => s16 = .bool fl ∧ wx = w5)
          case first =>
            by_cases c1 : (S.length : Int) > 4
            · go_wp2_with fail
              go_meet
              exact ⟨by rw [HF2.out]; simp; omega, rfl⟩
            by_cases c2 : (l.length : Int) > 8
            · go_wp2_with fail
              go_meet
              exact ⟨by rw [HF2.out]; simp; omega, rfl⟩
            by_cases c3 : wd > 64
            · go_wp2_with fail
              go_meet
              exact ⟨by rw [HF2.out]; simp; omega, rfl⟩
            by_cases c4 : (ins : Int) > 4096
            · go_wp2_with fail
              go_meet
              exact ⟨by rw [HF2.out]; simp; omega, rfl⟩
            go_wp2_with fail
            go_meet
            exact ⟨by rw [HF2.out]; simp; omega, rfl⟩
          case rest =>
            obtain ⟨rfl, rfl⟩ := hcut
            cases sz with
            | false =>
              have HNO : Hid (okL S l = false) := (show _ = _ from okL_no fun h => by have := HQ.out.2.1; rw [h.2.1] at this; cases this)
              go_wp2_with fail
              go_ret
              exact ⟨2, rfl, ll_no (by decide) HNO.out, HB5.out⟩
            | true =>
              cases tw2 with
              | true =>
                have HNO : Hid (okL S l = false) := (show _ = _ from okL_no fun h => by have h1 := HQ2.out.2.1; have h2 := HQ.out.2.2; rw [h.2.2.1] at h2; rw [h.2.2.2.1, h2] at h1; cases h1)
                go_wp2_with fail
                go_ret
                exact ⟨8, rfl, ll_no (by decide) HNO.out, HB5.out⟩
              | false =>
                cases nd with
                | false =>
                  have HNO : Hid (okL S l = false) := (show _ = _ from okL_no fun h => by have h1 := HQ2.out.2.2.1; rw [h.2.2.2.2.1] at h1; cases h1)
                  go_wp2_with fail
                  go_ret
                  exact ⟨6, rfl, ll_no (by decide) HNO.out, HB5.out⟩
                | true =>
                  go_wp2_with fail
                  refine (HU.out wc HB5.out).mono ?_
                  rintro e w6 ⟨p, m, c, rfl, hm, hb6⟩
                  have HB6 := Lib.hid (HB5.out.trans (hb6.mono HB5.out.size))
                  have HM := Lib.hid hm
                  clear hm hb6
                  by_cases hm0 : (m : Int) > 0
                  · have HNO : Hid (okL S l = false) := (show _ = _ from okL_no fun h => by have h1 := HM.out; rw [h.2.2.2.2.2.1, decide_eq_true (by omega)] at h1; cases h1)
                    go_wp2_with fail
                    go_ret
                    exact ⟨6, rfl, ll_no (by decide) HNO.out, HB6.out⟩
                  · cases fl with
                    | true =>
                      have HNO : Hid (okL S l = false) := (show _ = _ from okL_no fun h => by have h1 := HFL.out; rw [h.2.2.2.2.2.2] at h1; cases h1)
                      go_wp2_with fail
                      go_ret
                      exact ⟨5, rfl, ll_no (by decide) HNO.out, HB6.out⟩
                    | false =>
                      have HYES : Hid (okL S l = true) := (show _ = _ from (okL_iff S l).2 (by
                        have h1 := HQ2.out.2.1
                        have h2 := HQ.out.2.2
                        have h3 : tw = false := by cases tw; rfl; cases h1
                        rw [h3] at h1 h2
                        refine ⟨HQ2.out.2.2.2, HQ.out.2.1.symm, h2.symm, ?_, HQ2.out.2.2.1.symm, ?_, HFL.out.symm⟩
                        · rw [Bool.false_or] at h1; exact h1.symm
                        · rw [← HM.out]; exact decide_eq_false (by omega)))
                      go_wp2_with fail
                      go_ret
                      exact ⟨0, rfl, ⟨fun _ => HYES.out, fun _ => rfl⟩, HB6.out⟩
end Go.Proofs.YtpachmkklppmjaaDoor
