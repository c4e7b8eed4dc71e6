/- The law RegallocColors. -/
import Derived.Test.YtdfeebkekkmcjaaRegJ
set_option linter.unusedVariables false
set_option linter.unusedSimpArgs false
namespace Go.Proofs.Ytdfeebkekkmcjaa
open Go.RowKit

/-- ref.Color, whatever the number of colors. -/
theorem refcolor_any (v : Value) (e : List (List Int)) (c : Int) (w : World) (h : RdR w v e) (hm : RowsMax e 100000) (hn : e.length ≤ 1000) (hcb : c ≤ 1000) :
    Calls Try.prog 11 #[v, .int .i64 c] w fun r w' => ∃ V, r = .returned V ∧ w'.ownsRow w.heap.size 3 1 V e.length ((colorG e.length (adjG e) (max c 0)).map (Value.int .i64)) ∧ Below w.heap.size w w' := by
  by_cases hc : c < 0
  · have := refcolor_neg v e c w h hm hn hc hcb
    rw [show max c 0 = 0 by omega]; exact this
  · have := refcolor_pos v e c w h hm hn (by omega) hcb
    rw [show max c 0 = c by omega]; exact this
theorem own_rdI {w : World} {base : Nat} {v : Value} {n : Nat} {xs : List Int} (h : w.ownsRow base 3 1 v n (xs.map (Value.int .i64))) : RdI w v xs := by
  have hn : n = xs.length := by have := h.1; simp at this; omega
  subst hn
  exact RdI.of_own h

set_option maxHeartbeats 1600000 in
theorem colors_any (v : Value) (e : List (List Int)) (c : Int) (w : World) (h : RdR w v e) (hn : e.length ≤ 9223372036854775807) (hc1 : -9223372036854775808 ≤ c) (hc2 : c ≤ 9223372036854775807) :
    Calls Try.prog 3 #[v, .int .i64 c] w fun r w' => r = .returned (.bool true) ∧ Below w.heap.size w w' := by
  have HR := Lib.hid h
  clear h
  go_enter Try.func3, Try.ntmps3
  go_wp2_with fail
  refine (awake_any w).mono ?_
  rintro r w1 ⟨rfl, hB1⟩
  have HB1 := Lib.hid hB1
  clear hB1
  go_wp2_with fail
  refine (wide_any v e w1 (HR.out.below HB1.out (Nat.le_refl _)) hn).mono ?_
  rintro r w' ⟨⟨b, rfl, hw⟩, rfl⟩
  cases b
  · obtain ⟨h24, hm⟩ := hw rfl
    have HM := Lib.hid hm
    clear hw hm
    by_cases hc : c > 30
    · go_wp2_with fail
      go_ret
      exact ⟨rfl, HB1.out⟩
    · go_wp2_with fail
      refine (color_any v e c w1 (HR.out.below HB1.out (Nat.le_refl _)) (HM.out.mono (by omega)) (by omega) hc1 hc2).mono ?_
      rintro r w2 ⟨V, rfl, hO, hB⟩
      have HO := Lib.hid hO
      have HB2 := Lib.hid (bThen hB HB1.out.size HB1.out)
      clear hO hB
      go_wp2_with fail
      refine (refcolor_any v e c w2 (HR.out.below HB2.out (Nat.le_refl _)) (HM.out.mono (by omega)) (by omega) (by omega)).mono ?_
      rintro r w3 ⟨V3, rfl, hO3, hB3⟩
      have HO3 := Lib.hid hO3
      have HO2 := Lib.hid (own0_block HO.out fun k hk => hB3.block k (own0_lt HO.out hk))
      have HB3 := Lib.hid (bThen hB3 HB2.out.size HB2.out)
      clear hO3 hB3 HO
      go_wp2_with fail
      refine (ints_any _ _ _ _ w3 (own_rdI HO2.out) (own_rdI HO3.out) (by rw [colorG_len]; omega)).mono ?_
      rintro r w4 ⟨rfl, hB4⟩
      go_wp2_with fail
      go_ret
      exact ⟨by simp, bThen hB4 HB3.out.size HB3.out⟩
  · go_wp2_with fail
    go_ret
    exact ⟨rfl, HB1.out⟩
end Go.Proofs.Ytdfeebkekkmcjaa
