/- The law RegallocFew. -/
import Derived.Test.YtdfeebkekkmcjaaRegK
set_option linter.unusedVariables false
set_option linter.unusedSimpArgs false
namespace Go.Proofs.Ytdfeebkekkmcjaa
open Go.RowKit

theorem nbs_degU (n : Nat) (A : Nat → Nat → Bool) (a : Nat) : (nbs n A a).length = degU A [] a n := (degG_zero n A a).symm
theorem count_next (A : Nat → Nat → Bool) (a i : Nat) : degU A [] a (i+1) = degU A [] a i + (if A a i then 1 else 0) := by
  rw [degU_next]
  have : (!([] : List Nat).contains i) = true := rfl
  rw [this, Bool.true_and]

set_option maxHeartbeats 3200000 in
set_option maxRecDepth 20000 in
theorem few_any (v : Value) (e : List (List Int)) (w : World) (h : RdR w v e) (hn : e.length ≤ 9223372036854775807) :
    Calls Try.prog 5 #[v] w fun r w' => r = .returned (.bool true) ∧ Below w.heap.size w w' := by
  obtain ⟨p, cap, rfl⟩ := h.shape
  have HR := Lib.hid h
  clear h
  go_enter Try.func5, Try.ntmps5
  go_wp2_with fail
  refine (awake_any w).mono ?_
  rintro r w1 ⟨rfl, hB1⟩
  have HB1 := Lib.hid hB1
  clear hB1
  go_wp2_with fail
  refine (wide_any _ e w1 (HR.out.below HB1.out (Nat.le_refl _)) hn).mono ?_
  rintro r w' ⟨⟨b, rfl, hw⟩, rfl⟩
  cases b
  · obtain ⟨h24, hm⟩ := hw rfl
    have HM := Lib.hid hm
    have HR1 := Lib.hid (HR.out.below HB1.out (Nat.le_refl _))
    clear hw hm
    go_wp2_with fail
    go_loopw [3, 15] (fun s3 s15 wr => ∃ k m : Nat, s15 = .int .i64 k ∧ s3 = .int .i64 m ∧ k ≤ e.length ∧ m ≤ e.length ∧ Hid (∀ a, a < k → (nbs e.length (adjG e) a).length ≤ m) ∧ w1 = wr) (fun _ s15 _ => e.length - (intOf s15).toNat)
    case atStart => exact ⟨0, 0, rfl, rfl, Nat.zero_le _, Nat.zero_le _, fun a ha => by omega, rfl⟩
    case round =>
      obtain ⟨k, m, rfl, rfl, hk, hm, HQ, rfl⟩ := hrel
      by_cases hlt : k < e.length
      · have hltI : (k : Int) < e.length := by omega
        go_wp2_with fail
        go_loopw [5, 20] (fun s5 s20 wr => ∃ j d : Nat, s20 = .int .i64 j ∧ s5 = .int .i64 d ∧ j ≤ e.length ∧ d ≤ j ∧ Hid (d = degU (adjG e) [] k j) ∧ w1 = wr) (fun _ s20 _ => e.length - (intOf s20).toNat)
        case atStart => exact ⟨0, 0, rfl, rfl, Nat.zero_le _, Nat.le_refl _, rfl, rfl⟩
        case round =>
          obtain ⟨j, d, rfl, rfl, hj, hd, HD, rfl⟩ := hrel
          by_cases hlt2 : j < e.length
          · have hltJ : (j : Int) < e.length := by omega
            have H1 := Lib.hid (adj_any _ e k j w1 HR1.out (HM.out.mono (by omega)) hlt hlt2)
            have HN := Lib.hid (count_next (adjG e) k j)
            go_wp2_with fail
            refine H1.out.mono ?_
            rintro r w' ⟨rfl, rfl⟩
            clear H1
            generalize adjG e k j = t at HN ⊢
            cases t
            · go_wp2_with fail
              go_roundw
              case rel => exact ⟨j + 1, d, by go_num, rfl, by omega, by omega, by rw [HD.out]; exact HN.out.symm, by first | trivial | rfl⟩
              case measure => simp [intOf]; omega
            · go_wp2_with fail
              go_roundw
              case rel => exact ⟨j + 1, d + 1, by go_num, by go_num, by omega, by omega, by rw [HD.out]; exact HN.out.symm, by first | trivial | rfl⟩
              case measure => simp [intOf]; omega
          · have hjn : j = e.length := by omega
            have HDn := Lib.hid (show d = (nbs e.length (adjG e) k).length by rw [nbs_degU, HD.out, hjn])
            go_wp2_with fail
            go_roundw
            case rel =>
              refine ⟨k + 1, max m d, by go_num, by first | rfl | go_num | (congr 1; omega), by omega, by omega, fun a ha => ?_, by first | trivial | rfl⟩
              rcases Nat.lt_succ_iff_lt_or_eq.1 ha with h | rfl
              · have := HQ.out a h; omega
              · rw [← HDn.out]; omega
            case measure => simp [intOf]; omega
      · have hkn : k = e.length := by omega
        subst hkn
        have hfew : ∀ a, a < e.length → 0 ≤ (colorG e.length (adjG e) ((m + 1 : Nat) : Int)).getD a (-1) ∧ (colorG e.length (adjG e) ((m + 1 : Nat) : Int)).getD a (-1) < ((m + 1 : Nat) : Int) := fun a ha =>
          colorG_few (adj_sym e) (adj_irr e) (k := m + 1) (fun b hb => by have := HQ.out b hb; omega) ha
        have hcl := colorG_len e.length (adjG e) ((m + 1 : Nat) : Int)
        have hc := color_any _ e ((m : Int) + 1) w1 HR1.out (HM.out.mono (by omega)) (by omega) (by omega) (by omega)
        rw [show max ((m : Int) + 1) 0 = ((m + 1 : Nat) : Int) by omega] at hc
        generalize colorG e.length (adjG e) ((m + 1 : Nat) : Int) = cl at hfew hcl hc
        have HC := Lib.hid hc
        have HF := Lib.hid hfew
        clear hc hfew
        go_wp2_with fail
        refine HC.out.mono ?_
        rintro r w2 ⟨V, rfl, hO, hB2⟩
        have hrd := own_rdI hO
        obtain ⟨q, c, rfl⟩ := hrd.shape
        have HRD := Lib.hid hrd
        have HB2 := Lib.hid hB2
        clear hO hB2 hrd
        go_wp2_with fail
        go_loopw [39] (fun s39 wr => ∃ k : Nat, s39 = .int .i64 k ∧ k ≤ e.length ∧ w2 = wr) (fun s39 _ => e.length - (intOf s39).toNat)
        case atStart => exact ⟨0, rfl, Nat.zero_le _, rfl⟩
        case round =>
          obtain ⟨k, rfl, hk, rfl⟩ := hrel
          by_cases hlt : k < e.length
          · have hltI : (k : Int) < e.length := by omega
            obtain ⟨m2, o2, cc, e1, hm2, hy0⟩ := rdI_at HRD.out k (by omega)
            injection e1 with e1 e2 e3
            subst e1 e3
            have hf := HF.out k hlt
            have hg : cl.getD k 0 = cl.getD k (-1) := by simp only [List.getD_eq_getElem?_getD, List.getElem?_eq_getElem (show k < cl.length by omega)]; rfl
            rw [hg] at hy0
            generalize cl.getD k (-1) = y at hf hy0
            obtain ⟨f1, f2⟩ := hf
            have f3 : y ≤ (m : Int) := by omega
            have f4 : ¬ y < 0 := by omega
            clear f2 hg
            go_wp2_with fail
            go_roundw
            case rel => exact ⟨k + 1, by go_num, by omega, by first | trivial | rfl⟩
            case measure => simp [intOf]; omega
          · have HC2 := Lib.hid (color_any _ e ((m : Int) + 1) w2 (HR1.out.below HB2.out (Nat.le_refl _)) (HM.out.mono (by omega)) (by omega) (by omega) (by omega))
            go_wp2_with fail
            refine HC2.out.mono ?_
            rintro r w3 ⟨V3, rfl, hO3, hB3⟩
            have hrd3 := own_rdI hO3
            obtain ⟨q3, c3, rfl⟩ := hrd3.shape
            have hl3 := colorG_len e.length (adjG e) (max ((m : Int) + 1) 0)
            clear hO3 hrd3
            go_wp2_with fail
            go_ret
            exact ⟨by simp, bThen hB3 (by have := HB1.out.size; have := HB2.out.size; omega) (bThen HB2.out HB1.out.size HB1.out)⟩
  · go_wp2_with fail
    go_ret
    exact ⟨rfl, HB1.out⟩
end Go.Proofs.Ytdfeebkekkmcjaa
