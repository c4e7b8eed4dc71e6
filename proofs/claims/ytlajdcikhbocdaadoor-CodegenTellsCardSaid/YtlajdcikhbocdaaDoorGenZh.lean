/- The law CodegenTells: the reference's Valid of an object, plain, objects that came in. -/
import Derived.Test.YtlajdcikhbocdaaDoorGenY
import Derived.Test.YtlajdcikhbocdaaDoorMgN
import Derived.Test.YtlajdcikhbocdaaDoorMgL
import Derived.Test.YtlajdcikhbocdaaDoorMgK
import Derived.Deep.RegionLaw
set_option linter.unusedVariables false
set_option linter.unusedSimpArgs false
namespace Go.Proofs.YtlajdcikhbocdaaDoor
open Go.RowKit Go.Maps

theorem refV_at : ∀ (l : List GR) (k : Nat), k < l.length → ∀ (q : Nat), q < 3 → (refV l)[k * 3 + q]? = (refC (l.getD k default))[q]?
  | [], k, h, _, _ => by simp at h
  | x :: l, 0, _, q, hq => by
    show (refC x ++ refV l)[0 * 3 + q]? = _
    rw [Nat.zero_mul, Nat.zero_add, List.getElem?_append_left (by show q < 3; exact hq)]; rfl
  | x :: l, k + 1, h, q, hq => by
    have h2 := refV_at l k (by simpa using h) q hq
    rw [List.getD_cons_succ, ← h2]
    show (refC x ++ refV l)[(k + 1) * 3 + q]? = _
    rw [show (k + 1) * 3 + q = k * 3 + q + 3 by omega]
    rfl
theorem RfRd.get {w : World} {v : Value} {l : List GR} (h : RfRd w v l) {k : Nat} (hk : k < l.length) : ∃ m off cap, v = .slice (some ⟨m, off, none⟩) l.length cap ∧ m < w.heap.size ∧ w.cell? ⟨m, off + k * 3, none⟩ = some (.int .i64 (l.getD k default).at') ∧ w.cell? ⟨m, off + k * 3 + 1, none⟩ = some (.string (l.getD k default).nm) ∧ w.cell? ⟨m, off + k * 3 + 2, none⟩ = some (.bool (l.getD k default).lk) := by
  obtain ⟨p, cap, rfl, _, h⟩ := h
  rcases h with rfl | ⟨m, off, rfl, hm, hc⟩
  · simp at hk
  · have e := refV_at l k hk
    refine ⟨m, off, cap, rfl, hm, ?_, ?_, ?_⟩
    · have := hc (k * 3 + 0) _ (e 0 (by decide)); rwa [Nat.add_zero] at this
    · rw [Nat.add_assoc]; exact hc (k * 3 + 1) _ (e 1 (by decide))
    · rw [Nat.add_assoc]; exact hc (k * 3 + 2) _ (e 2 (by decide))
theorem drop_consR {l : List GR} {k : Nat} (hk : k < l.length) : l.drop k = l.getD k default :: l.drop (k + 1) := by
  rw [List.drop_eq_getElem_cons hk, List.getD_eq_getElem?_getD, List.getElem?_eq_getElem hk]; rfl
/-- What its loop holds: m references are used. -/
def RvRel (W1 : World) (code : List GI) (refs : List GR) (V : Bool) (k m : Nat) (w : World) : Prop := scanV code.length k (code.drop k) ((refs.drop m).map fun r => (r.at', r.lk)) = V ∧ Below W1.heap.size W1 w ∧ m ≤ refs.length

def mR (code : List GI) : Nat → Nat
  | 0 => 0
  | k + 1 => mR code k + if refO (code.getD k default).op = true then 1 else 0
theorem mR_le (code : List GI) : ∀ k, mR code k ≤ k
  | 0 => Nat.le_refl _
  | k + 1 => by
    have := mR_le code k
    show mR code k + _ ≤ k + 1
    split <;> omega

set_option maxHeartbeats 6400000 in
set_option maxRecDepth 40000 in
theorem refObj_any (cv rv : Value) (data : Int) (code : List GI) (refs : List GR) (w : World) (hc : GsRd w cv code) (hr : RfRd w rv refs) :
    Calls Tryd.prog 15 #[cv, .int .i64 data, rv] w fun e w' => e = .returned (.bool (valO code data (refs.map fun r => (r.at', r.lk)))) ∧ Below w.heap.size w w' := by
  obtain ⟨cp, cc, rfl⟩ := hc.shape
  obtain ⟨rp, rc, rfl, -, -⟩ := id hr
  by_cases h1 : code.length < 1
  · have HE := Lib.hid (show valO code data (refs.map fun r => (r.at', r.lk)) = false by unfold valO; rw [decide_eq_false (by omega)]; rfl)
    rw [HE.out]
    have h1I : (code.length : Int) < 1 := by omega
    clear hr hc
    go_enter Tryd.func15, Tryd.ntmps15
    go_wp2_with fail
    go_ret
    exact ⟨rfl, Below.refl _ _⟩
  have h1I : ¬ (code.length : Int) < 1 := by omega
  by_cases h2 : 4096 < code.length
  · have HE := Lib.hid (show valO code data (refs.map fun r => (r.at', r.lk)) = false by unfold valO; rw [decide_eq_false (by omega)]; rfl)
    rw [HE.out]
    have h2I : (code.length : Int) > 4096 := by omega
    clear hr hc h1 h2
    go_enter Tryd.func15, Tryd.ntmps15
    go_wp2_with fail
    go_ret
    exact ⟨rfl, Below.refl _ _⟩
  have h2I : ¬ (code.length : Int) > 4096 := by omega
  by_cases h3 : data < 0
  · have HE := Lib.hid (show valO code data (refs.map fun r => (r.at', r.lk)) = false by unfold valO; rw [decide_eq_false (by omega)]; rfl)
    rw [HE.out]
    clear hr hc h1 h2
    go_enter Tryd.func15, Tryd.ntmps15
    go_wp2_with fail
    go_ret
    exact ⟨rfl, Below.refl _ _⟩
  by_cases h4 : data > 512
  · have HE := Lib.hid (show valO code data (refs.map fun r => (r.at', r.lk)) = false by unfold valO; rw [decide_eq_false (by omega)]; rfl)
    rw [HE.out]
    clear hr hc h1 h2
    go_enter Tryd.func15, Tryd.ntmps15
    go_wp2_with fail
    go_ret
    exact ⟨rfl, Below.refl _ _⟩
  obtain ⟨V, hV⟩ : ∃ V : Bool, V = scanV code.length 0 code (refs.map fun r => (r.at', r.lk)) := ⟨_, rfl⟩
  have HE := Lib.hid (show valO code data (refs.map fun r => (r.at', r.lk)) = V by unfold valO; rw [decide_eq_true (by omega), hV]; rfl)
  rw [HE.out]
  have HST := Lib.hid (show RvRel w code refs V 0 (mR code 0) w from ⟨by rw [hV]; rfl, Below.refl _ _, Nat.zero_le _⟩)
  have HC := Lib.hid hc
  have HR := Lib.hid hr
  have hcl : code.length ≤ 4096 := by omega
  clear hV hc hr HE h1 h2
  go_enter Tryd.func15, Tryd.ntmps15
  go_wp2_with fail
  clear h1I h2I h3 h4
  go_loopw [7, 8] (fun s7 s8 wx => ∃ k : Nat, s8 = .int .i64 k ∧ s7 = .int .i64 (mR code k) ∧ k ≤ code.length ∧ Hid (RvRel w code refs V k (mR code k) wx)) (fun _ s8 _ => code.length - (intOf s8).toNat)
  case atStart => exact ⟨0, rfl, rfl, Nat.zero_le _, HST⟩
  case round =>
    clear HST
    obtain ⟨k, rfl, rfl, hk, HV⟩ := hrel
    obtain ⟨w1, rfl⟩ : ∃ W : World, W = wr := ⟨_, rfl⟩
    have HBL := Lib.hid HV.out.2.1
    have HSC := Lib.hid HV.out.1
    have hmr := HV.out.2.2
    have hmk := mR_le code k
    clear HV
    by_cases hlt : k < code.length
    · have hltI : (k : Int) < code.length := by omega
      rw [drop_cons hlt] at HSC
      have HMN := Lib.hid (show mR code (k + 1) = mR code k + if refO (code.getD k default).op = true then 1 else 0 from rfl)
      generalize hm1 : mR code (k + 1) = m1 at HMN
      have HM1 := Lib.hid hm1
      clear hm1
      generalize mR code k = m at HSC hmr hmk HMN ⊢
      obtain ⟨bm, off, cap, e0, hm, n0, n1, n2, n3, n4⟩ := (HC.out.below HBL.out (Nat.le_refl _)).get hlt
      injection e0 with e0 _ e02
      subst e0 e02
      generalize code.getD k default = ii at n0 n1 n2 n3 n4 HSC HMN
      obtain ⟨op, a, b, c, im⟩ := ii
      simp only at n0 n1 n2 n3 n4 HMN
      obtain ⟨rest, hrest0⟩ : ∃ x, x = code.drop (k + 1) := ⟨_, rfl⟩
      rw [← hrest0] at HSC
      have HDR := Lib.hid hrest0
      clear hrest0
      have hbA : Below w1.heap.size w1 (w1.alloc (.cells #[.int .u8 op, .int .i64 a, .int .i64 b, .int .i64 c, .int .i64 im] 53)) := bAlloc (Nat.le_refl _) (Below.refl _ _)
      have HR2 := Lib.hid (RowC2.made w1 [.int .u8 op, .int .i64 a, .int .i64 b, .int .i64 c, .int .i64 im] 53)
      have HBA := Lib.hid (HBL.out.trans (hbA.mono HBL.out.size))
      clear hbA HBL
      go_upto_region 8 with fail
      obtain ⟨w2, hw2⟩ : ∃ W : World, W = w1.alloc (.cells #[.int .u8 op, .int .i64 a, .int .i64 b, .int .i64 c, .int .i64 im] 53) := ⟨_, rfl⟩
      rw [← hw2] at HR2 HBA ⊢
      clear hw2 n0 n1 n2 n3 n4 hm
      have rl := HR2.out.lt
      have q0 := HR2.out.at 0 rfl
      have q1 := HR2.out.at 1 rfl
      have q2 := HR2.out.at 2 rfl
      have q3 := HR2.out.at 3 rfl
      have q4 := HR2.out.at 4 rfl
      go_wp2_with fail
      refine (refValid_any op a b c im w2).mono ?_
      rintro e w3 ⟨rfl, hb3⟩
      have HR3 := Lib.hid (HR2.out.below hb3 HR2.out.lt)
      have HB3 := Lib.hid (HBA.out.trans (hb3.mono HBA.out.size))
      clear rl q0 q1 q2 q3 q4 HR2 HBA hb3
      by_cases hv : vG ⟨op, a, b, c, im⟩ = true
      · have HVG := Lib.hid hv
        rw [show vld op a b c im = true from hv]
        have rl := HR3.out.lt
        have q0 := HR3.out.at 0 rfl
        have q4 := HR3.out.at 4 rfl
        clear hv
        have hmw : IntKind.i64.wrap ((m : Int) + 1) = (m : Int) + 1 := IntWalk.i64_in _ (by omega)
        by_cases hbr : brO op = true
        · have hIM := vG_brImm HVG.out hbr
          have hIM : -131072 ≤ im ∧ im ≤ 131071 := hIM
          have hw1 : IntKind.i64.wrap ((k : Int) + 1) = (k : Int) + 1 := IntWalk.i64_in _ (by omega)
          have hw2 : IntKind.i64.wrap ((k : Int) + 1 + im) = (k : Int) + 1 + im := IntWalk.i64_in _ (by omega)
          have HBR := Lib.hid hbr
          have hop : op = 22 ∨ op = 23 ∨ op = 24 := of_decide_eq_true hbr
          have hb3 : ((op : Int) == 22) = true ∨ (((op : Int) == 22) = false ∧ ((op : Int) == 23) = true) ∨ (((op : Int) == 22) = false ∧ ((op : Int) == 23) = false ∧ ((op : Int) == 24) = true) := by
            rcases hop with rfl | rfl | rfl
            · exact .inl (by decide)
            · exact .inr (.inl ⟨by decide, by decide⟩)
            · exact .inr (.inr ⟨by decide, by decide, by decide⟩)
          have f28 : ((op : Int) == 28) = false := beq_eq_false_iff_ne.2 (by omega)
          have f29 : ((op : Int) == 29) = false := beq_eq_false_iff_ne.2 (by omega)
          have f20 : ((op : Int) == 20) = false := beq_eq_false_iff_ne.2 (by omega)
          have f21 : ((op : Int) == 21) = false := beq_eq_false_iff_ne.2 (by omega)
          have HNR := Lib.hid (show refO op = false from decide_eq_false (by show ¬ (op = 20 ∨ op = 21 ∨ op = 28 ∨ op = 29); omega))
          have HMM := Lib.hid (show m1 = m by rw [HMN.out, HNR.out]; rfl)
          clear hbr hop hIM
          by_cases ht : (k : Int) + 1 + im < 0
          · have HVF := Lib.hid (HSC.out.symm.trans (scan_bad2 HBR.out (decide_eq_false (by show ¬ (0 ≤ (k : Int) + 1 + im ∧ _); omega))))
            rcases hb3 with f22 | ⟨f22, f23⟩ | ⟨f22, f23, f24⟩
            all_goals (
              go_wp2_with fail
              go_ret
              exact ⟨congrArg (fun b => Ending.returned (Value.bool b)) HVF.out.symm, HB3.out⟩)
          by_cases ht2 : (k : Int) + 1 + im ≥ code.length
          · have HVF := Lib.hid (HSC.out.symm.trans (scan_bad2 HBR.out (decide_eq_false (by show ¬ (0 ≤ (k : Int) + 1 + im ∧ (k : Int) + 1 + im < code.length); omega))))
            rcases hb3 with f22 | ⟨f22, f23⟩ | ⟨f22, f23, f24⟩
            all_goals (
              go_wp2_with fail
              go_ret
              exact ⟨congrArg (fun b => Ending.returned (Value.bool b)) HVF.out.symm, HB3.out⟩)
          have ht3 : (k : Int) + 1 + im < code.length := by omega
          have ht4 : ¬ (code.length : Int) ≤ (k : Int) + 1 + im := by omega
          have HNX := Lib.hid ((scan_next (l := rest) (rs := (refs.drop m).map fun r => (r.at', r.lk)) HVG.out (fun _ => decide_eq_true (by show 0 ≤ (k : Int) + 1 + im ∧ (k : Int) + 1 + im < code.length; omega)) HNR.out).symm.trans HSC.out)
          rcases hb3 with f22 | ⟨f22, f23⟩ | ⟨f22, f23, f24⟩
          all_goals (
            go_wp2_with fail
            all_goals (try (exfalso; omega))
            go_roundw
            case rel => exact ⟨k + 1, by go_num, by rw [HM1.out, HMM.out], by omega, (show RvRel _ _ _ _ _ _ _ from by rw [HM1.out, HMM.out]; exact ⟨by rw [← HDR.out]; exact HNX.out, HB3.out, hmr⟩)⟩
            case measure => simp [intOf]; omega)
        · have hbr : brO op = false := by simpa using hbr
          have hnb : ¬ (op = 22 ∨ op = 23 ∨ op = 24) := of_decide_eq_false hbr
          have f22 : ((op : Int) == 22) = false := beq_eq_false_iff_ne.2 (by omega)
          have f23 : ((op : Int) == 23) = false := beq_eq_false_iff_ne.2 (by omega)
          have f24 : ((op : Int) == 24) = false := beq_eq_false_iff_ne.2 (by omega)
          have HBR := Lib.hid hbr
          clear hbr hnb
          by_cases hrf : refO op = true
          · have HRF := Lib.hid hrf
            have HMM := Lib.hid (show m1 = m + 1 by rw [HMN.out, if_pos HRF.out])
            have hop : op = 20 ∨ op = 21 ∨ op = 28 ∨ op = 29 := of_decide_eq_true hrf
            have hcs : (((op : Int) == 28) = true ∧ lockO op = true) ∨ (((op : Int) == 28) = false ∧ ((op : Int) == 29) = true ∧ lockO op = true) ∨ (((op : Int) == 28) = false ∧ ((op : Int) == 29) = false ∧ ((op : Int) == 20) = true ∧ lockO op = false) ∨ (((op : Int) == 28) = false ∧ ((op : Int) == 29) = false ∧ ((op : Int) == 20) = false ∧ ((op : Int) == 21) = true ∧ lockO op = false) := by
              rcases hop with rfl | rfl | rfl | rfl
              · exact .inr (.inr (.inl ⟨by decide, by decide, by decide, by decide⟩))
              · exact .inr (.inr (.inr ⟨by decide, by decide, by decide, by decide, by decide⟩))
              · exact .inl ⟨by decide, by decide⟩
              · exact .inr (.inl ⟨by decide, by decide, by decide⟩)
            clear hop hrf
            by_cases hme : m < refs.length
            · have hmeI : ¬ (m : Int) ≥ refs.length := by omega
              have hmeN : ¬ refs.length ≤ m := by omega
              have hmeJ : (m : Int) < refs.length := by omega
              rw [drop_consR hme] at HSC
              obtain ⟨rm, ro, rcap, e1, hrm, x0, -, x2⟩ := (HR.out.below HB3.out (Nat.le_refl _)).get hme
              injection e1 with e1 _ e12
              subst e1 e12
              generalize refs.getD m default = r at x0 x2 HSC
              have HSR := Lib.hid ((scan_ref (r := (r.at', r.lk)) (rs := (refs.drop (m + 1)).map fun r => (r.at', r.lk)) HVG.out HBR.out HRF.out).symm.trans HSC.out)
              clear HSC
              generalize lockO op = lk at hcs HSR
              obtain ⟨rat, rnm, rlk⟩ := r
              simp only at x0 x2
              by_cases hat : rat = (k : Int)
              · by_cases hlkk : rlk = lk
                · have HNX := Lib.hid (show scanV code.length (k + 1) rest ((refs.drop (m + 1)).map fun r => (r.at', r.lk)) = V by have h := HSR.out; rw [decide_eq_true (⟨hat, hlkk⟩ : rat = (k : Int) ∧ rlk = lk)] at h; simpa using h)
                  subst hat hlkk
                  rcases hcs with ⟨f28, rfl⟩ | ⟨f28, f29, rfl⟩ | ⟨f28, f29, f20, rfl⟩ | ⟨f28, f29, f20, f21, rfl⟩
                  all_goals (
                    go_wp2_with fail
                    go_roundw
                    case rel => exact ⟨k + 1, by go_num, by rw [HM1.out, HMM.out]; go_num, by omega, (show RvRel _ _ _ _ _ _ _ from by rw [HM1.out, HMM.out]; exact ⟨by rw [← HDR.out]; exact HNX.out, HB3.out, hme⟩)⟩
                    case measure => simp [intOf]; omega)
                · have HVF := Lib.hid (show V = false by have h := HSR.out; rw [decide_eq_false (fun h2 : rat = (k : Int) ∧ rlk = lk => hlkk h2.2)] at h; simpa using h.symm)
                  subst hat
                  have hbb : (rlk != lk) = true := by simpa using hlkk
                  rcases hcs with ⟨f28, rfl⟩ | ⟨f28, f29, rfl⟩ | ⟨f28, f29, f20, rfl⟩ | ⟨f28, f29, f20, f21, rfl⟩
                  all_goals (
                    go_wp2_with fail
                    go_ret
                    exact ⟨congrArg (fun b => Ending.returned (Value.bool b)) HVF.out.symm, HB3.out⟩)
              · have HVF := Lib.hid (show V = false by have h := HSR.out; rw [decide_eq_false (fun h2 : rat = (k : Int) ∧ rlk = lk => hat h2.1)] at h; simpa using h.symm)
                rcases hcs with ⟨f28, rfl⟩ | ⟨f28, f29, rfl⟩ | ⟨f28, f29, f20, rfl⟩ | ⟨f28, f29, f20, f21, rfl⟩
                all_goals (
                  go_wp2_with fail
                  go_ret
                  exact ⟨congrArg (fun b => Ending.returned (Value.bool b)) HVF.out.symm, HB3.out⟩)
            · have hmeI : (m : Int) ≥ refs.length := by omega
              have hmeN : refs.length ≤ m := by omega
              have hd0 : refs.drop m = [] := List.drop_of_length_le (by omega)
              rw [hd0] at HSC
              have HVF := Lib.hid (HSC.out.symm.trans (scan_nil HRF.out))
              clear hd0
              rcases hcs with ⟨f28, hlk⟩ | ⟨f28, f29, hlk⟩ | ⟨f28, f29, f20, hlk⟩ | ⟨f28, f29, f20, f21, hlk⟩
              all_goals (
                clear hlk
                go_wp2_with fail
                go_ret
                exact ⟨congrArg (fun b => Ending.returned (Value.bool b)) HVF.out.symm, HB3.out⟩)
          · have hrf : refO op = false := by simpa using hrf
            have HMM := Lib.hid (show m1 = m by rw [HMN.out, hrf]; rfl)
            have HNX := Lib.hid ((scan_next (l := rest) (rs := (refs.drop m).map fun r => (r.at', r.lk)) HVG.out (fun h => by rw [HBR.out] at h; cases h) hrf).symm.trans HSC.out)
            have hop : ¬ (op = 20 ∨ op = 21 ∨ op = 28 ∨ op = 29) := of_decide_eq_false hrf
            have f28 : ((op : Int) == 28) = false := beq_eq_false_iff_ne.2 (by omega)
            have f29 : ((op : Int) == 29) = false := beq_eq_false_iff_ne.2 (by omega)
            have f20 : ((op : Int) == 20) = false := beq_eq_false_iff_ne.2 (by omega)
            have f21 : ((op : Int) == 21) = false := beq_eq_false_iff_ne.2 (by omega)
            clear hop hrf
            go_wp2_with fail
            go_roundw
            case rel => exact ⟨k + 1, by go_num, by rw [HM1.out, HMM.out], by omega, (show RvRel _ _ _ _ _ _ _ from by rw [HM1.out, HMM.out]; exact ⟨by rw [← HDR.out]; exact HNX.out, HB3.out, hmr⟩)⟩
            case measure => simp [intOf]; omega
      · have hv : vG ⟨op, a, b, c, im⟩ = false := by simpa using hv
        rw [show vld op a b c im = false from hv]
        have HVF := Lib.hid (HSC.out.symm.trans (scan_bad1 hv))
        clear hv
        go_wp2_with fail
        go_ret
        exact ⟨congrArg (fun b => Ending.returned (Value.bool b)) HVF.out.symm, HB3.out⟩
    · have hkn : k = code.length := by omega
      subst hkn
      rw [List.drop_length] at HSC
      generalize mR code code.length = m at HSC hmr hmk ⊢
      by_cases hme : m = refs.length
      · have HVE := Lib.hid (show V = true by
          rw [← HSC.out, hme, List.drop_length]; rfl)
        have hmeI : (m : Int) = refs.length := by omega
        go_wp2_with fail
        go_ret
        exact ⟨congrArg (fun b => Ending.returned (Value.bool b)) HVE.out.symm, HBL.out⟩
      · have HVE := Lib.hid (show V = false by
          rw [← HSC.out, drop_consR (show m < refs.length by omega)]; rfl)
        have hmeI : ((m : Int) == refs.length) = false := beq_eq_false_iff_ne.2 (by omega)
        go_wp2_with fail
        go_ret
        exact ⟨congrArg (fun b => Ending.returned (Value.bool b)) HVE.out.symm, HBL.out⟩

theorem infoRef21 : (Tryd.prog.info? 83).map (fun i => (i.zero, i.size, i.bytes)) = some (some (.agg #[.int .i64 0, .string .empty, .bool false]), 3, 32) := by kernel_rfl
/-- The references that plain makes (color 2). -/
structure PnAt (B : Nat) (W0 : World) (l : List GR) (col : Nat → Nat) (w : World) (v : Value) : Prop where
  row : OwnC 83 3 col 2 w v l.length (refV l)
  low : ∀ k, k < B → col k = 0
  bel : Below B W0 w
  big : B ≤ w.heap.size
def PnRel (B : Nat) (W0 : World) (l : List GR) (v : Value) (w : World) : Prop := ∃ col, PnAt B W0 l col w v
section
variable {B : Nat} {W0 w w' : World} {l : List GR} {v : Value}
theorem PnRel.bel (h : PnRel B W0 l v w) : Below B W0 w := by
  obtain ⟨col, h⟩ := h
  exact h.bel
theorem PnRel.own (h : PnRel B W0 l v w) (hb : Below w.heap.size w w') : w'.ownsRow 0 83 3 v l.length (refV l) := by
  obtain ⟨col, h⟩ := h
  exact own0_block h.row.1 fun b hk => hb.block b (own0_lt h.row.1 hk)
theorem PnRel.push (h : PnRel B W0 l v w) {w2 w3 : World} {v' : Value} {r : GR} (hb : Below w.heap.size w w2) (hg2 : w2.grownBy w3 v.ownBlock)
    (hv : w3.ownsRow 0 83 3 v' (l.length + 1) (refV l ++ [.int .i64 r.at', .string r.nm, .bool r.lk])) (hk : v'.ownBlock = v.ownBlock ∨ ∀ k, v'.ownBlock = some k → w2.heap.size ≤ k) : PnRel B W0 (l ++ [r]) v' w3 := by
  obtain ⟨col, h⟩ := h
  obtain ⟨hr3, ht3⟩ := h.row.push hb hg2 hv hk
  exact ⟨_, by rw [List.length_append, refV_push]; exact hr3, low_paint h.low h.big, h.bel.trans (ht3.below h.big fun k hk e => by rw [h.low k hk] at e; cases e), Nat.le_trans h.big ht3.size⟩
end
theorem RfRd.of_own2 {w : World} {v : Value} {l : List GR} {t : TypeId} (h : w.ownsRow 0 t 3 v l.length (refV l)) : RfRd w v l := by
  rcases h.2 with ⟨rfl, h0⟩ | ⟨g, cap, cur, rfl, _, hh, hnc, _⟩
  · exact ⟨none, 0, by rw [h0], by omega, .inl (List.length_eq_zero_iff.1 h0)⟩
  · refine ⟨_, _, rfl, hnc, .inr ⟨g, 0, rfl, ltB hh, fun j u hj => ?_⟩⟩
    have := h.cells (g := g) rfl j u hj
    have e2 : (⟨g, 0, none⟩ : Addr).add j = ⟨g, 0 + j, none⟩ := by
      unfold Addr.add
      split
      · rename_i e; subst e; rfl
      · rfl
    rwa [e2] at this

set_option maxHeartbeats 3200000 in
set_option maxRecDepth 20000 in
theorem plain_any (rv : Value) (refs : List GR) (w : World) (hr : RfRd w rv refs) (hl : refs.length ≤ 1000) :
    Calls Tryd.prog 16 #[rv] w fun e w' => ∃ v, e = .returned v ∧ RfRd w' v refs ∧ Below w.heap.size w w' := by
  obtain ⟨rp, rc, rfl, -, -⟩ := id hr
  have HR := Lib.hid hr
  clear hr
  have HV0 := Lib.hid (show PnRel w.heap.size w (refs.take 0) (.slice none 0 0) w from ⟨fun _ => 0, OwnC.nil _ _ _ _ _, fun _ _ => rfl, Below.refl _ _, Nat.le_refl _⟩)
  go_enter Tryd.func16, Tryd.ntmps16
  go_wp2_with fail
  go_loopw [3, 4] (fun s3 s4 wx => ∃ k : Nat, s4 = .int .i64 k ∧ k ≤ refs.length ∧ Hid (PnRel w.heap.size w (refs.take k) s3 wx)) (fun _ s4 _ => refs.length - (intOf s4).toNat)
  case atStart => exact ⟨0, rfl, Nat.zero_le _, HV0⟩
  case round =>
    clear HV0
    obtain ⟨k, rfl, hk, HV⟩ := hrel
    obtain ⟨w1, rfl⟩ : ∃ W : World, W = wr := ⟨_, rfl⟩
    by_cases hlt : k < refs.length
    · have hltI : (k : Int) < refs.length := by omega
      obtain ⟨m, off, cap, e0, hm, x0, x1, x2⟩ := (HR.out.below HV.out.bel (Nat.le_refl _)).get hlt
      injection e0 with e0 _ e02
      subst e0 e02
      have HNX := Lib.hid (show refs.take (k + 1) = refs.take k ++ [refs.getD k default] by rw [List.take_succ_eq_append_getElem hlt, List.getD_eq_getElem?_getD, List.getElem?_eq_getElem hlt]; rfl)
      have hkl : (refs.take k).length ≤ 1000000 := by rw [List.length_take]; omega
      generalize refs.getD k default = r at x0 x1 x2 HNX
      obtain ⟨rat, rnm, rlk⟩ := r
      simp only at x0 x1 x2
      generalize refs.take k = L at HV HNX hkl
      have HBB := Lib.hid (fun o : Obj => (show Below w1.heap.size w1 (w1.drew.alloc o) from bAlloc (Nat.le_refl _) (Below.drew (Below.refl _ _))))
      have HO := Lib.hid (fun o : Obj => HV.out.own (HBB.out o))
      go_wp2_with fail
      go_region_law (refine step_append_els rfl _ _ 41 83 _ 3 32 rfl Tryd.underlying41 infoRef21 rfl (by decide) (by decide) _ L.length (refV L) rfl (HO.out _) w1.heap.size 1 [.int .i64 rat, .string rnm, .bool rlk] rfl rfl (RowC2.made w1.drew [.int .i64 rat, .string rnm, .bool rlk] 83).2 (by simp [Value.oneCell']) hkl ?_; intro p c' w3 hO hgr hd; have HK := Lib.hid (HV.out.push (r := ⟨rat, rnm, rlk⟩) (HBB.out _) hgr hO hd))
      all_goals (
        clear HO HBB
        go_wp2_with fail
        go_roundw
        case rel => exact ⟨k + 1, by go_num, by omega, (show PnRel _ _ _ _ _ from by rw [HNX.out]; exact HK.out)⟩
        case measure => simp [intOf]; omega)
    · have hkn : k = refs.length := by omega
      subst hkn
      rw [List.take_length] at HV
      go_wp2_with fail
      go_ret
      exact ⟨_, rfl, RfRd.of_own2 (HV.out.own (Below.refl _ _)), HV.out.bel⟩

set_option maxHeartbeats 3200000 in
set_option maxRecDepth 20000 in
theorem tellsLaw (nm : ByteArray) (cv rv : Value) (data : Int) (code : List GI) (refs : List GR) (w : World) (hT : Tab w) (hZ : TabZ w) (hc : GsRd w cv code) (hr : RfRd w rv refs) :
    Calls Tryd.prog 4 #[.agg #[.string nm, cv, .int .i64 data, rv]] w fun e w' => e = .returned (.bool true) ∧ Below w.heap.size w w' := by
  obtain ⟨cp, cc, rfl⟩ := hc.shape
  obtain ⟨rp, rc, rfl, -, -⟩ := id hr
  obtain ⟨W1, hW1⟩ : ∃ W : World, W = w.alloc (.cells #[.string nm, .slice cp code.length cc, .int .i64 data, .slice rp refs.length rc] 31) := ⟨_, rfl⟩
  have hb0 : Below w.heap.size w W1 := by rw [hW1]; exact bAlloc (Nat.le_refl _) (Below.refl _ _)
  have HF1 := Lib.hid (show RowC2 W1 w.heap.size [.string nm, .slice cp code.length cc, .int .i64 data, .slice rp refs.length rc] by rw [hW1]; exact RowC2.made w _ 31)
  have HT1 := Lib.hid (hT.of_below hb0)
  have HZ1 := Lib.hid (hZ.of_below hb0)
  have HC1 := Lib.hid (hc.below hb0 (Nat.le_refl _))
  have HR1 := Lib.hid (hr.below hb0 (Nat.le_refl _))
  have HB0 := Lib.hid hb0
  clear hb0 hT hZ hc hr
  go_enter Tryd.func4, Tryd.ntmps4
  go_upto_region 1 with fail
  rw [← hW1]
  clear hW1
  go_wp2_with fail
  refine (awake21 W1 HT1.out HZ1.out).mono ?_
  rintro e w2 ⟨rfl, hb2⟩
  have HB2 := Lib.hid (HB0.out.trans (hb2.mono HB0.out.size))
  have HF2 := Lib.hid (HF1.out.below hb2 HF1.out.lt)
  have HT2 := Lib.hid (HT1.out.of_below hb2)
  have HC2 := Lib.hid (HC1.out.below hb2 (Nat.le_refl _))
  have HR2 := Lib.hid (HR1.out.below hb2 (Nat.le_refl _))
  clear hb2 HF1 HT1 HZ1 HC1 HR1
  have rl := HF2.out.lt
  have q1 := HF2.out.at 1 rfl
  have q3 := HF2.out.at 3 rfl
  by_cases h1 : 60 < code.length
  · have h1I : (code.length : Int) > 60 := by omega
    clear h1
    go_wp2_with fail
    go_ret
    exact ⟨rfl, HB2.out⟩
  have h1I : ¬ (code.length : Int) > 60 := by omega
  by_cases h2 : 60 < refs.length
  · have h2I : (refs.length : Int) > 60 := by omega
    clear h1 h2
    go_wp2_with fail
    go_ret
    exact ⟨rfl, HB2.out⟩
  have h2I : ¬ (refs.length : Int) > 60 := by omega
  have HL2 := Lib.hid (show refs.length ≤ 1000 by omega)
  have HMK := Lib.hid (fun (w' : World) (hb : Below w2.heap.size w2 w') => (show Below w2.heap.size w2 w' ∧ (w'.cell? ⟨w.heap.size, 0, none⟩ = some (.string nm) ∧ w'.cell? ⟨w.heap.size, 1, none⟩ = some (.slice cp code.length cc)) ∧ w'.cell? ⟨w.heap.size, 2, none⟩ = some (.int .i64 data) ∧ w'.cell? ⟨w.heap.size, 3, none⟩ = some (.slice rp refs.length rc) from
    ⟨hb, ⟨(HF2.out.below hb HF2.out.lt).at 0 rfl, (HF2.out.below hb HF2.out.lt).at 1 rfl⟩, (HF2.out.below hb HF2.out.lt).at 2 rfl, (HF2.out.below hb HF2.out.lt).at 3 rfl⟩))
  have hs0 := HMK.out w2.drew (Below.drew (Below.refl _ _))
  have R1 := Lib.hid (fun (W : World) (hb : Below w2.heap.size w2 W) => (objValid_any nm (.slice cp code.length cc) (.slice rp refs.length rc) data code refs W (HT2.out.of_below hb) (HC2.out.below hb (Nat.le_refl _)) (HR2.out.below hb (Nat.le_refl _))).mono fun e w' (h : _ ∧ _) => (show e = _ ∧ Below w2.heap.size w2 w' ∧ ∀ v, RfRd W v refs → RfRd w' v refs from ⟨h.1, hb.trans (h.2.mono hb.size), fun v hv => hv.below h.2 (Nat.le_refl _)⟩))
  have R2 := Lib.hid (fun (W : World) (hb : Below w2.heap.size w2 W) => (plain_any (.slice rp refs.length rc) refs W (HR2.out.below hb (Nat.le_refl _)) HL2.out).mono fun e w' h => (show ∃ v, e = .returned v ∧ RfRd w' v refs ∧ Below w2.heap.size w2 w' from by obtain ⟨v, h1, h2, h3⟩ := h; exact ⟨v, h1, h2, hb.trans (h3.mono hb.size)⟩))
  have R3 := Lib.hid (fun (W : World) (v : Value) (hb : Below w2.heap.size w2 W) (hv : RfRd W v refs) => (refObj_any (.slice cp code.length cc) v data code refs W (HC2.out.below hb (Nat.le_refl _)) hv).mono fun e w' (h : _ ∧ _) => (show e = _ ∧ Below w2.heap.size w2 w' from ⟨h.1, hb.trans (h.2.mono hb.size)⟩))
  clear h1 h2
  go_upto_region 5 with fail
  generalize valO code data (refs.map fun r => (r.at', r.lk)) = V at R1 R3
  go_region_held3 (fun W => Below w2.heap.size w2 W ∧ (W.cell? ⟨w.heap.size, 0, none⟩ = some (.string nm) ∧ W.cell? ⟨w.heap.size, 1, none⟩ = some (.slice cp code.length cc)) ∧ W.cell? ⟨w.heap.size, 2, none⟩ = some (.int .i64 data) ∧ W.cell? ⟨w.heap.size, 3, none⟩ = some (.slice rp refs.length rc)) (first | exact hs0 | exact hs1 | exact hs2 | exact hs3 | assumption) (first | (go_at_call 15; refine (R3.out _ _ (by first | exact hs1.1 | exact hs2.1) (by first | exact HRF.out | exact HK1.out _ HRF.out)).mono ?_; rintro e w5 ⟨rfl, hb5⟩; have hs3 := HMK.out _ hb5) | (go_at_call 13; refine (R1.out _ (by first | exact hs0.1 | exact hs2.1)).mono ?_; rintro e w3 ⟨rfl, hb3, hk3⟩; have HK1 := Lib.hid hk3; have hs1 := HMK.out _ hb3) | (go_at_call 16; refine (R2.out _ (by first | exact hs0.1 | exact hs1.1)).mono ?_; rintro e w4 ⟨v4, rfl, hrf, hb4⟩; have HRF := Lib.hid hrf; have hs2 := HMK.out _ hb4))
  all_goals (
    go_wp2_with fail
    go_ret
    exact ⟨by cases V <;> rfl, HB2.out.trans (hs3.1.mono HB2.out.size)⟩)

section
variable {H : Type} {enc : TypeId × Value → H} {w : World} {base : Nat} {held : Bool} {spare : Nat → Bool}
open Go.Joins Go.ChangeShapes Go.WideShapes Go.ChangeAt Go.RowKit Go.Deep

/-- A slice of machine instructions that came in. -/
theorem open_gs {fuel : Nat} {cs : List Value} {x : DataW H × List MemPlace} (h : DataW.trod enc Tryd.prog w base spare held fuel 28 cs = some x) :
    ∃ (v : Value) (d : List GI), cs = [v] ∧ GsRd w v d := by
  rcases DataW.trod_slice Tryd.underlying28 h with ⟨rfl, rfl⟩ | ⟨a, len, cap, elems, rest, n, rfl, rfl, rfl, hb, hl, hm, hel, hc, _, _⟩
  · exact ⟨_, [], rfl, GsRd.nil _⟩
  · have e64 : Tryd.prog.cellsOf 3 = 1 := by kernel_rfl
    have e8 : Tryd.prog.cellsOf 5 = 1 := by kernel_rfl
    have hcell : ∀ i, i < len → ∃ x : GI, w.cell? (a.add (i * 5)) = some (.int .u8 x.op) ∧ w.cell? (a.add (i * 5 + 1)) = some (.int .i64 x.a) ∧ w.cell? (a.add (i * 5 + 2)) = some (.int .i64 x.b) ∧ w.cell? (a.add (i * 5 + 3)) = some (.int .i64 x.c) ∧ w.cell? (a.add (i * 5 + 4)) = some (.int .i64 x.imm) := by
      intro i hi
      have h1 := hc i hi
      rw [show Tryd.prog.cellsOf 53 = 5 by kernel_rfl] at h1
      rw [List.getElem?_eq_getElem (by omega)] at h1
      obtain ⟨cs', h2, h3⟩ := Option.bind_eq_some_iff.1 h1
      obtain ⟨_, hlc, hat⟩ := World.cells?_some h2
      match cs', hlc with
      | [c0, c1, c2, c3, c4], _ =>
        obtain ⟨ys, m, _, _, _, hyl, hg⟩ := DataW.trod_struct Tryd.underlying53 h3
        have g0 : DataW.trod enc Tryd.prog w base spare held m 5 (([c0, c1, c2, c3, c4].drop 0).take (Tryd.prog.cellsOf 5)) = ys[0]? := hg 0 _ rfl
        have g1 : DataW.trod enc Tryd.prog w base spare held m 3 (([c0, c1, c2, c3, c4].drop 1).take (Tryd.prog.cellsOf 3)) = ys[1]? := hg 1 _ rfl
        have g2 : DataW.trod enc Tryd.prog w base spare held m 3 (([c0, c1, c2, c3, c4].drop 2).take (Tryd.prog.cellsOf 3)) = ys[2]? := hg 2 _ rfl
        have g3 : DataW.trod enc Tryd.prog w base spare held m 3 (([c0, c1, c2, c3, c4].drop 3).take (Tryd.prog.cellsOf 3)) = ys[3]? := hg 3 _ rfl
        have g4 : DataW.trod enc Tryd.prog w base spare held m 3 (([c0, c1, c2, c3, c4].drop 4).take (Tryd.prog.cellsOf 3)) = ys[4]? := hg 4 _ rfl
        have hx : ys.length = 5 := hyl
        rw [List.getElem?_eq_getElem (by omega)] at g0 g1 g2 g3 g4
        rw [e8] at g0
        rw [e64] at g1 g2 g3 g4
        obtain ⟨s0, e0, -, w0⟩ := DataW.trod_int Tryd.underlying5 g0
        obtain ⟨s1, e1, -, -⟩ := DataW.trod_int Tryd.underlying3 g1
        obtain ⟨s2, e2, -, -⟩ := DataW.trod_int Tryd.underlying3 g2
        obtain ⟨s3, e3, -, -⟩ := DataW.trod_int Tryd.underlying3 g3
        obtain ⟨s4, e4, -, -⟩ := DataW.trod_int Tryd.underlying3 g4
        obtain rfl := (List.cons.inj e0).1
        obtain rfl := (List.cons.inj e1).1
        obtain rfl := (List.cons.inj e2).1
        obtain rfl := (List.cons.inj e3).1
        obtain rfl := (List.cons.inj e4).1
        have b0 := bounds_u8 w0
        have ex : ((s0.toNat : Nat) : Int) = s0 := by omega
        refine ⟨⟨s0.toNat, s1, s2, s3, s4⟩, ?_, ?_, ?_, ?_, ?_⟩
        · have := hat 0 (by omega); rw [add_add] at this; rw [ex]; simpa using this
        · have := hat 1 (by omega); rw [add_add] at this; simpa using this
        · have := hat 2 (by omega); rw [add_add] at this; simpa using this
        · have := hat 3 (by omega); rw [add_add] at this; simpa using this
        · have := hat 4 (by omega); rw [add_add] at this; simpa using this
    have hch : ∃ f : Nat → GI, ∀ i, i < len → w.cell? (a.add (i * 5)) = some (.int .u8 (f i).op) ∧ w.cell? (a.add (i * 5 + 1)) = some (.int .i64 (f i).a) ∧ w.cell? (a.add (i * 5 + 2)) = some (.int .i64 (f i).b) ∧ w.cell? (a.add (i * 5 + 3)) = some (.int .i64 (f i).c) ∧ w.cell? (a.add (i * 5 + 4)) = some (.int .i64 (f i).imm) := by
      refine ⟨fun i => if hi : i < len then (hcell i hi).choose else default, fun i hi => ?_⟩
      simp only [hi, dite_true]
      exact (hcell i hi).choose_spec
    obtain ⟨f, hf⟩ := hch
    have hd : ((List.range len).map f).length = len := by simp
    have hg : ∀ i, i < len → ((List.range len).map f).getD i default = f i := by
      intro i hi
      simp [List.getD_eq_getElem?_getD, hi]
    by_cases hl0 : len = 0
    · subst hl0
      exact ⟨_, [], rfl, ⟨some a, cap, rfl, .inl rfl⟩⟩
    obtain ⟨ha, hlt⟩ := cell_plain (by simpa using (hf 0 (by omega)).1)
    refine ⟨_, (List.range len).map f, rfl, ⟨some a, cap, by rw [hd], .inr ⟨a.block, a.off, by rw [← ha], hlt, fun j u hj => ?_⟩⟩⟩
    have hjl : j < len * 5 := by
      obtain ⟨h, _⟩ := List.getElem?_eq_some_iff.1 hj
      rw [codeV_len, hd] at h; exact h
    have hk : j / 5 < len := by omega
    have hj5 := codeV_at ((List.range len).map f) (j / 5) (by rw [hd]; exact hk) (j % 5) (Nat.mod_lt _ (by decide))
    rw [show j / 5 * 5 + j % 5 = j by omega, hg _ hk] at hj5
    rw [hj5] at hj
    obtain ⟨q0, q1, q2, q3, q4⟩ := hf (j / 5) hk
    rw [ha] at q0 q1 q2 q3 q4
    simp only [add_none] at q0 q1 q2 q3 q4
    have hm5 : j % 5 = 0 ∨ j % 5 = 1 ∨ j % 5 = 2 ∨ j % 5 = 3 ∨ j % 5 = 4 := by omega
    rcases hm5 with e | e | e | e | e
    · rw [e] at hj
      have hj : some (Value.int .u8 (f (j / 5)).op) = some u := hj
      rw [show j / 5 * 5 = j by omega] at q0
      rw [← hj]; exact q0
    · rw [e] at hj
      have hj : some (Value.int .i64 (f (j / 5)).a) = some u := hj
      rw [show j / 5 * 5 + 1 = j by omega] at q1
      rw [← hj]; exact q1
    · rw [e] at hj
      have hj : some (Value.int .i64 (f (j / 5)).b) = some u := hj
      rw [show j / 5 * 5 + 2 = j by omega] at q2
      rw [← hj]; exact q2
    · rw [e] at hj
      have hj : some (Value.int .i64 (f (j / 5)).c) = some u := hj
      rw [show j / 5 * 5 + 3 = j by omega] at q3
      rw [← hj]; exact q3
    · rw [e] at hj
      have hj : some (Value.int .i64 (f (j / 5)).imm) = some u := hj
      rw [show j / 5 * 5 + 4 = j by omega] at q4
      rw [← hj]; exact q4
/-- A slice of references that came in. -/
theorem open_refs {fuel : Nat} {cs : List Value} {x : DataW H × List MemPlace} (h : DataW.trod enc Tryd.prog w base spare held fuel 29 cs = some x) :
    ∃ (v : Value) (d : List GR), cs = [v] ∧ RfRd w v d := by
  rcases DataW.trod_slice Tryd.underlying29 h with ⟨rfl, rfl⟩ | ⟨a, len, cap, elems, rest, n, rfl, rfl, rfl, hb, hl, hm, hel, hc, _, _⟩
  · exact ⟨_, [], rfl, RfRd.nil none 0 rfl⟩
  · have e64 : Tryd.prog.cellsOf 3 = 1 := by kernel_rfl
    have eS : Tryd.prog.cellsOf 9 = 1 := by kernel_rfl
    have eb : Tryd.prog.cellsOf 4 = 1 := by kernel_rfl
    have hcell : ∀ i, i < len → ∃ x : GR, w.cell? (a.add (i * 3)) = some (.int .i64 x.at') ∧ w.cell? (a.add (i * 3 + 1)) = some (.string x.nm) ∧ w.cell? (a.add (i * 3 + 2)) = some (.bool x.lk) := by
      intro i hi
      have h1 := hc i hi
      rw [show Tryd.prog.cellsOf 82 = 3 by kernel_rfl] at h1
      rw [List.getElem?_eq_getElem (by omega)] at h1
      obtain ⟨cs', h2, h3⟩ := Option.bind_eq_some_iff.1 h1
      obtain ⟨_, hlc, hat⟩ := World.cells?_some h2
      match cs', hlc with
      | [c0, c1, c2], _ =>
        obtain ⟨ys, m, _, _, _, hyl, hg⟩ := DataW.trod_struct Tryd.underlying82 h3
        have g0 : DataW.trod enc Tryd.prog w base spare held m 3 (([c0, c1, c2].drop 0).take (Tryd.prog.cellsOf 3)) = ys[0]? := hg 0 _ rfl
        have g1 : DataW.trod enc Tryd.prog w base spare held m 9 (([c0, c1, c2].drop 1).take (Tryd.prog.cellsOf 9)) = ys[1]? := hg 1 _ rfl
        have g2 : DataW.trod enc Tryd.prog w base spare held m 4 (([c0, c1, c2].drop 2).take (Tryd.prog.cellsOf 4)) = ys[2]? := hg 2 _ rfl
        have hx : ys.length = 3 := hyl
        rw [List.getElem?_eq_getElem (by omega)] at g0 g1 g2
        rw [e64] at g0
        rw [eS] at g1
        rw [eb] at g2
        obtain ⟨s0, e0, -, -⟩ := DataW.trod_int Tryd.underlying3 g0
        obtain ⟨s1, e1, -, -⟩ := DataW.trod_string Tryd.underlying9 g1
        obtain ⟨s2, e2, -⟩ := DataW.trod_bool Tryd.underlying4 g2
        obtain rfl := (List.cons.inj e0).1
        obtain rfl := (List.cons.inj e1).1
        obtain rfl := (List.cons.inj e2).1
        refine ⟨⟨s0, s1, s2⟩, ?_, ?_, ?_⟩
        · have := hat 0 (by omega); rw [add_add] at this; simpa using this
        · have := hat 1 (by omega); rw [add_add] at this; simpa using this
        · have := hat 2 (by omega); rw [add_add] at this; simpa using this
    have hch : ∃ f : Nat → GR, ∀ i, i < len → w.cell? (a.add (i * 3)) = some (.int .i64 (f i).at') ∧ w.cell? (a.add (i * 3 + 1)) = some (.string (f i).nm) ∧ w.cell? (a.add (i * 3 + 2)) = some (.bool (f i).lk) := by
      refine ⟨fun i => if hi : i < len then (hcell i hi).choose else default, fun i hi => ?_⟩
      simp only [hi, dite_true]
      exact (hcell i hi).choose_spec
    obtain ⟨f, hf⟩ := hch
    have hd : ((List.range len).map f).length = len := by simp
    have hg : ∀ i, i < len → ((List.range len).map f).getD i default = f i := by
      intro i hi
      simp [List.getD_eq_getElem?_getD, hi]
    by_cases hl0 : len = 0
    · subst hl0
      exact ⟨_, [], rfl, ⟨some a, cap, rfl, Nat.zero_le _, .inl rfl⟩⟩
    obtain ⟨ha, hlt⟩ := cell_plain (by simpa using (hf 0 (by omega)).1)
    refine ⟨_, (List.range len).map f, rfl, ⟨some a, cap, by rw [hd], by rw [hd]; omega, .inr ⟨a.block, a.off, by rw [← ha], hlt, fun j u hj => ?_⟩⟩⟩
    have hrl : ∀ l : List GR, (refV l).length = l.length * 3 := fun l => by
      induction l with
      | nil => rfl
      | cons a l ih =>
        show (refC a ++ refV l).length = _
        rw [List.length_append, List.length_cons, ih]
        show 3 + l.length * 3 = _
        omega
    have hjl : j < len * 3 := by
      obtain ⟨h, _⟩ := List.getElem?_eq_some_iff.1 hj
      rw [hrl, hd] at h; exact h
    have hk : j / 3 < len := by omega
    have hj3 := refV_at ((List.range len).map f) (j / 3) (by rw [hd]; exact hk) (j % 3) (Nat.mod_lt _ (by decide))
    rw [show j / 3 * 3 + j % 3 = j by omega, hg _ hk] at hj3
    rw [hj3] at hj
    obtain ⟨q0, q1, q2⟩ := hf (j / 3) hk
    rw [ha] at q0 q1 q2
    simp only [add_none] at q0 q1 q2
    have hm3 : j % 3 = 0 ∨ j % 3 = 1 ∨ j % 3 = 2 := by omega
    rcases hm3 with e | e | e
    · rw [e] at hj
      have hj : some (Value.int .i64 (f (j / 3)).at') = some u := hj
      rw [show j / 3 * 3 = j by omega] at q0
      rw [← hj]; exact q0
    · rw [e] at hj
      have hj : some (Value.string (f (j / 3)).nm) = some u := hj
      rw [show j / 3 * 3 + 1 = j by omega] at q1
      rw [← hj]; exact q1
    · rw [e] at hj
      have hj : some (Value.bool (f (j / 3)).lk) = some u := hj
      rw [show j / 3 * 3 + 2 = j by omega] at q2
      rw [← hj]; exact q2
set_option maxRecDepth 20000 in
/-- An object that came in. -/
theorem open_obj {r : Reach} {b0 : Nat} {v : Value} {d : DataW H} {pl : List MemPlace} (hv : Value.okWide Tryd.prog w r b0 31 v) (h : DataW.Trod enc Tryd.prog w base spare held 31 v d pl) :
    ∃ (nm : ByteArray) (cv rv : Value) (data : Int) (code : List GI) (refs : List GR), v = .agg #[.string nm, cv, .int .i64 data, rv] ∧ GsRd w cv code ∧ RfRd w rv refs := by
  obtain ⟨cs, rfl, hsz⟩ := okWide_struct Tryd.underlying31 hv
  obtain ⟨l⟩ := cs
  have e64 : Tryd.prog.cellsOf 3 = 1 := by kernel_rfl
  have eS : Tryd.prog.cellsOf 9 = 1 := by kernel_rfl
  have eA : Tryd.prog.cellsOf 28 = 1 := by kernel_rfl
  have eB : Tryd.prog.cellsOf 29 = 1 := by kernel_rfl
  match l, hsz.trans (show Tryd.prog.cellsOf 31 = 4 by kernel_rfl) with
  | [c0, c1, c2, c3], _ =>
    obtain ⟨fuel, hf⟩ := h
    obtain ⟨xs, n, _, _, _, hlen, hg⟩ := DataW.trod_struct Tryd.underlying31 hf
    have h0 := hg 0 _ rfl
    have h1 := hg 1 _ rfl
    have h2 := hg 2 _ rfl
    have h3 := hg 3 _ rfl
    have hx : xs.length = 4 := hlen
    rw [List.getElem?_eq_getElem (by omega)] at h0 h1 h2 h3
    simp only [Value.cells, e64, eS, eA, eB, List.drop_succ_cons, List.drop_zero, List.take_succ_cons, List.take_zero] at h0 h1 h2 h3
    obtain ⟨nm, e0, -, -⟩ := DataW.trod_string Tryd.underlying9 h0
    obtain ⟨cv, code, e1, hC⟩ := open_gs h1
    obtain ⟨D, e2, -, -⟩ := DataW.trod_int Tryd.underlying3 h2
    obtain ⟨rv, rf, e3, hR⟩ := open_refs h3
    obtain rfl := (List.cons.inj e0).1
    obtain rfl := (List.cons.inj e1).1
    obtain rfl := (List.cons.inj e2).1
    obtain rfl := (List.cons.inj e3).1
    exact ⟨nm, _, _, D, code, rf, rfl, hC, hR⟩
end
end Go.Proofs.YtlajdcikhbocdaaDoor
