/- The law RegallocSound. -/
import Derived.Test.YtikfjehollnjeaaDoorLivU
import Derived.Test.YtikfjehollnjeaaDoorSouB
import Derived.Test.YtikfjehollnjeaaDoorRegJ
set_option linter.unusedVariables false
set_option linter.unusedSimpArgs false
namespace Go.Proofs.YtikfjehollnjeaaDoor
open Go.RowKit

set_option maxHeartbeats 1600000 in
set_option maxRecDepth 40000 in
theorem valid_no (nm : ByteArray) (R : Nat) (ap : Option Addr) (an ac : Nat) (bv : Value) (bs : List IBlk) (w : World) (hB : BksAt w bv bs) (hl : bs.length ≤ 1000) (hcl : ∀ k, k < bs.length → (bs.getD k default).code.length ≤ 1000) (hw : wfF R bs = false) :
    Calls Tryd.prog 12 #[.agg #[.string nm, .int .i64 R, .slice ap an ac, bv], .agg #[.slice none 0 0, .int .i64 0]] w fun e w' => e = .returned (.bool false) ∧ Below w.heap.size w w' := by
  obtain ⟨bp, bcap, rfl⟩ := hB.shape
  have hb0 : Below w.heap.size w ((w.alloc (.cells #[.string nm, .int .i64 R, .slice ap an ac, .slice bp bs.length bcap] 25)).alloc (.cells #[.slice none 0 0, .int .i64 0] 30)) := bAlloc (by simp) (bAlloc (Nat.le_refl _) (Below.refl _ _))
  have HIN := Lib.hid (interf_no nm R ap an ac _ bs _ (hB.below hb0 (Nat.le_refl _)) hl hcl hw)
  have HB0 := Lib.hid hb0
  clear hB hw hb0 hl hcl
  go_enter Tryd.func12, Tryd.ntmps12
  go_wp2_with fail
  refine HIN.out.mono ?_
  rintro e w1 ⟨rfl, hb1⟩
  have HB1 := Lib.hid (bThen hb1 HB0.out.size HB0.out)
  clear hb1 HIN HB0
  go_wp2_with fail
  go_ret
  exact ⟨rfl, HB1.out⟩

/-- The neighbors among the first j nodes. -/
def cntU (A : Nat → Nat → Bool) (a j : Nat) : Nat := ((List.range j).filter (A a)).length
theorem cntU_zero (A : Nat → Nat → Bool) (a : Nat) : cntU A a 0 = 0 := rfl
theorem cntU_le (A : Nat → Nat → Bool) (a j : Nat) : cntU A a j ≤ j := by
  unfold cntU
  have := List.length_filter_le (A a) (List.range j)
  rw [List.length_range] at this; exact this
theorem cntU_next (A : Nat → Nat → Bool) (a j : Nat) : cntU A a (j + 1) = cntU A a j + (if A a j = true then 1 else 0) := by
  unfold cntU
  rw [List.range_succ, List.filter_append, List.length_append]
  cases h : A a j
  · rw [List.filter_cons_of_neg (by simp [h])]; simp
  · rw [List.filter_cons_of_pos h]; simp

set_option maxHeartbeats 6400000 in
set_option maxRecDepth 100000 in
theorem sound_any (nm : ByteArray) (R0 : Int) (ap : Option Addr) (an ac : Nat) (bv : Value) (bs : List IBlk) (w : World) (hB : BksAt w bv bs) (hl : bs.length ≤ 9223372036854775807) (ha : an ≤ 9223372036854775807) (hcl : ∀ k, k < bs.length → (bs.getD k default).code.length ≤ 9223372036854775807) (hT : TabZ w) :
    Calls Tryd.prog 4 #[.agg #[.string nm, .int .i64 R0, .slice ap an ac, bv]] w fun e w' => e = .returned (.bool true) ∧ Below w.heap.size w w' := by
  obtain ⟨bp, bcap, rfl⟩ := hB.shape
  have hb0 : Below w.heap.size w (w.alloc (.cells #[.string nm, .int .i64 R0, .slice ap an ac, .slice bp bs.length bcap] 25)) := bAlloc (Nat.le_refl _) (Below.refl _ _)
  have HBX := Lib.hid (BoxAt.made (fun _ => 0) w [.string nm, .int .i64 R0, .slice ap an ac, .slice bp bs.length bcap] 25)
  have HB0 := Lib.hid hb0
  have HB := Lib.hid hB
  have HT := Lib.hid hT
  have HCL := Lib.hid hcl
  clear hb0 hB hT hcl
  go_enter Tryd.func4, Tryd.ntmps4
  go_wp2_with fail
  refine (awake_any _).mono ?_
  rintro e w1 ⟨rfl, hb1⟩
  have hx1 := HBX.out.below hb1
  have d0 := hx1.at 0 rfl
  have d1 := hx1.at 1 rfl
  have d2 := hx1.at 2 rfl
  have d3 := hx1.at 3 rfl
  have l1 := hx1.lt
  have HB1 := Lib.hid (HB0.out.trans (hb1.mono HB0.out.size))
  have HX1 := Lib.hid hx1
  have HG := Lib.hid (great_any nm R0 ap an ac _ bs w1 (HB.out.below HB1.out (Nat.le_refl _)) hl ha HCL.out)
  clear hb1 hx1 HBX HB0
  go_wp2_with fail
  refine HG.out.mono ?_
  rintro e w2 ⟨G, rfl, hb2, hg⟩
  have HB2 := Lib.hid (HB1.out.trans (hb2.mono HB1.out.size))
  have hx2 := HX1.out.below hb2
  have HX2 := Lib.hid hx2
  clear HG
  cases G with
  | true =>
    clear d0 d1 d2 d3 l1 hb2 hx2 hg
    go_wp2_with fail
    go_ret
    exact ⟨rfl, HB2.out⟩
  | false =>
    obtain ⟨r1, r2, r3, r4⟩ := hg rfl
    obtain ⟨R, rfl⟩ := Int.eq_ofNat_of_zero_le r1
    clear d0 d1 d2 d3 l1 hb2 HX1 hg
    have d0 := hx2.at 0 rfl
    have d1 := hx2.at 1 rfl
    have d2 := hx2.at 2 rfl
    have d3 := hx2.at 3 rfl
    have l1 := hx2.lt
    have HC1 : Hid (∀ k, k < bs.length → (bs.getD k default).code.length ≤ 1000) := (show ∀ k, _ → _ from fun k hk => Nat.le_trans (r4 k hk) (by omega))
    have hR : R ≤ 30 := by omega
    clear hx2 r4
    by_cases hwf : wfF R bs = true
    · have HWF := Lib.hid hwf
      have HA := Lib.hid (alloc_any nm R ap an ac _ bs w2 (by omega) (HB.out.below HB2.out (Nat.le_refl _)) (by omega) HC1.out hwf (HT.out.below HB2.out HT.out.1))
      have hEL := edgesL_len R bs
      have hEM := edgesL_max hwf (by omega)
      clear hwf
      go_wp2_with fail
      refine HA.out.mono ?_
      rintro e w3 ⟨C, S, A, g, hC, hS, hAq, rfl, hPl, hb3⟩
      have HB3 := Lib.hid (HB2.out.trans (hb3.mono HB2.out.size))
      have hx3 := HX2.out.below hb3
      have HX3 := Lib.hid hx3
      clear d0 d1 d2 d3 l1 HA hb3
      have d0 := hx3.at 0 rfl
      have d1 := hx3.at 1 rfl
      have d2 := hx3.at 2 rfl
      have d3 := hx3.at 3 rfl
      have l1 := hx3.lt
      clear hx3
      generalize hn : slN A S.length = n
      have HN := Lib.hid hn
      clear hn
      have hb4 : Below w3.heap.size w3 (w3.alloc (.cells #[.slice (some ⟨g, 0, none⟩) R R, .int .i64 n] 30)) := bAlloc (Nat.le_refl _) (Below.refl _ _)
      have HX4 := Lib.hid (HX3.out.below hb4)
      have HAB := Lib.hid (AlBox.made w3 (.slice (some ⟨g, 0, none⟩) R R) n)
      have HB4 := Lib.hid (HB3.out.trans (hb4.mono HB3.out.size))
      have HI := Lib.hid (interf_any nm R _ ap an ac _ bs _ (by omega) rfl (HB.out.below HB4.out (Nat.le_refl _)) (by omega) HC1.out HWF.out (HT.out.below HB4.out HT.out.1))
      have HP4 := Lib.hid ((hPl.rd R).below hb4 (Nat.le_refl _))
      have HC := Lib.hid hC
      have HS := Lib.hid hS
      have HAQ := Lib.hid hAq
      have HEL := Lib.hid hEL
      have HEM := Lib.hid hEM
      clear hb4 hPl hC hS hAq hEL hEM
      go_wp2_with fail
      refine HI.out.mono ?_
      rintro e w5 ⟨ev, rfl, hE, hb5⟩
      have HB5 := Lib.hid (HB4.out.trans (hb5.mono HB4.out.size))
      have hab := HAB.out.of_block (hb5.block _ HAB.out.1)
      have hx5 := HX4.out.below hb5
      have hvg : VaG (edgesL R bs) R (placesG C S A R) n := by rw [← HN.out]; exact vaG (by omega) (fun r hr => edgesL_in HWF.out (by omega) hr) HC.out HS.out HAQ.out
      have HVL := Lib.hid (valid_any nm R ap an ac _ (.slice (some ⟨g, 0, none⟩) R R) bs (placesG C S A R) n w5 (by omega) (HB.out.below HB5.out (Nat.le_refl _)) (by omega) HC1.out HWF.out (HT.out.below HB5.out HT.out.1) (HP4.out.below hb5 (Nat.le_refl _)) hvg)
      have HSN : Hid ((∀ a, a < R → (nbs R (adjG (edgesL R bs)) a).length < 8) → n = 0) := (show _ → _ from fun h => by rw [← HN.out]; exact slots_none HC.out HS.out h)
      have HAB5 := Lib.hid hab
      have HX5 := Lib.hid hx5
      have HE5 := Lib.hid hE
      obtain ⟨ep, ecap, rfl⟩ := hE.shape
      generalize edgesL R bs = E at HE5 HSN HEL HEM ⊢
      rw [HEL.out] at HE5 ⊢
      clear d0 d1 d2 d3 l1 hb5 hab hx5 hvg hE HI HX3 HX4 HAB HP4 HC HS HAQ HN HWF
      have d0 := HX5.out.at 0 rfl
      have d1 := HX5.out.at 1 rfl
      have d2 := HX5.out.at 2 rfl
      have d3 := HX5.out.at 3 rfl
      have l1 := HX5.out.lt
      have a0 := HAB5.out.2.2.1
      have a1 := HAB5.out.2.2.2
      have al := HAB5.out.1
      go_wp2_with fail
      refine HVL.out.mono ?_
      rintro e w6 ⟨rfl, hb6⟩
      have HB6 := Lib.hid (HB5.out.trans (hb6.mono HB5.out.size))
      have hab := HAB5.out.of_block (hb6.block _ HAB5.out.1)
      have HE6 := Lib.hid (HE5.out.below hb6 (Nat.le_refl _))
      clear d0 d1 d2 d3 l1 a0 a1 al HVL HX5 HAB5 HE5 hb6
      have a0 := hab.2.2.1
      have a1 := hab.2.2.2
      have al := hab.1
      have hEL := HEL.out
      clear hab
      go_wp2_with fail
      go_loopw [40] (fun s40 wx => ∃ k : Nat, s40 = .int .i64 k ∧ k ≤ R ∧ Hid (∀ i, i < k → (nbs R (adjG E) i).length < 8) ∧ wx = w6) (fun s40 _ => R - (intOf s40).toNat)
      case atStart => exact ⟨0, rfl, Nat.zero_le _, fun i hi => absurd hi (Nat.not_lt_zero i), rfl⟩
      case round =>
        obtain ⟨k, rfl, hk, HQ, rfl⟩ := hrel
        by_cases hlt : k < R
        · have hkI : (k : Int) < R := by omega
          go_wp2_with fail
          go_loopw [8, 45] (fun s8 s45 wx => ∃ j c : Nat, s45 = .int .i64 j ∧ s8 = .int .i64 c ∧ j ≤ R ∧ c ≤ j ∧ Hid (c = cntU (adjG E) k j) ∧ wx = wr) (fun _ s45 _ => R - (intOf s45).toNat)
          case atStart => exact ⟨0, 0, rfl, rfl, Nat.zero_le _, Nat.le_refl _, rfl, rfl⟩
          case round =>
            obtain ⟨j, c, rfl, rfl, hj, hc, HCU, rfl⟩ := hrel
            by_cases hlj : j < R
            · have hjI : (j : Int) < R := by omega
              have HA := Lib.hid (adj_any _ E k j wr HE6.out (HEM.out.mono (by omega)) (by omega) (by omega))
              have HN := Lib.hid (cntU_next (adjG E) k j)
              generalize adjG E k j = t at HA HN
              go_wp2_with fail
              refine HA.out.mono ?_
              rintro e w' ⟨rfl, rfl⟩
              clear HA
              cases t
              · go_wp2_with fail
                go_roundw
                case rel => exact ⟨j + 1, c, by go_num, rfl, by omega, by omega, by rw [HCU.out]; exact HN.out.symm, by first | trivial | rfl⟩
                case measure => simp [intOf]; omega
              · go_wp2_with fail
                go_roundw
                case rel => exact ⟨j + 1, c + 1, by go_num, by go_num, by omega, by omega, by rw [HCU.out]; exact HN.out.symm, by first | trivial | rfl⟩
                case measure => simp [intOf]; omega
            · have hjR : j = R := by omega
              subst hjR
              have HCN : Hid (c = (nbs j (adjG E) k).length) := HCU
              by_cases h8 : (c : Int) ≥ 8
              · go_wp2_with fail
                go_ret
                exact ⟨rfl, HB6.out⟩
              · go_wp2_with fail
                go_roundw
                case rel =>
                  refine ⟨k + 1, by go_num, by omega, fun i hi => ?_, by first | trivial | rfl⟩
                  by_cases e : i = k
                  · subst e; rw [← HCN.out]; omega
                  · exact HQ.out i (by omega)
                case measure => simp [intOf]; omega
        · have hkR : k = R := by omega
          subst hkR
          obtain rfl := HSN.out HQ.out
          go_wp2_with fail
          go_ret
          exact ⟨rfl, HB6.out⟩
    · have hwf : wfF R bs = false := by simpa using hwf
      have HWF := Lib.hid hwf
      have HA := Lib.hid (alloc_no nm R ap an ac _ bs w2 (HB.out.below HB2.out (Nat.le_refl _)) (by omega) HC1.out hwf)
      clear hwf
      go_wp2_with fail
      refine HA.out.mono ?_
      rintro e w3 ⟨rfl, hb3⟩
      have HB3 := Lib.hid (HB2.out.trans (hb3.mono HB2.out.size))
      have hx3 := HX2.out.below hb3
      have HX3 := Lib.hid hx3
      clear d0 d1 d2 d3 l1 HA hb3
      have d0 := hx3.at 0 rfl
      have d1 := hx3.at 1 rfl
      have d2 := hx3.at 2 rfl
      have d3 := hx3.at 3 rfl
      have l1 := hx3.lt
      clear hx3
      have hb4 : Below w3.heap.size w3 (w3.alloc (.cells #[.slice none 0 0, .int .i64 0] 30)) := bAlloc (Nat.le_refl _) (Below.refl _ _)
      have HB4 := Lib.hid (HB3.out.trans (hb4.mono HB3.out.size))
      have HVN := Lib.hid (valid_no nm R ap an ac _ bs _ (HB.out.below HB4.out (Nat.le_refl _)) (by omega) HC1.out HWF.out)
      clear hb4
      go_wp2_with fail
      refine HVN.out.mono ?_
      rintro e w5 ⟨rfl, hb5⟩
      have HB5 := Lib.hid (HB4.out.trans (hb5.mono HB4.out.size))
      go_wp2_with fail
      go_ret
      exact ⟨rfl, HB5.out⟩
end Go.Proofs.YtikfjehollnjeaaDoor
