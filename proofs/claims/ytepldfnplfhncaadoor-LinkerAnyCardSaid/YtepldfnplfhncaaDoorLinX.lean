/- Law LinkerAny, walked. -/
import Derived.Test.YtepldfnplfhncaaDoorLinU
import Derived.Test.YtepldfnplfhncaaDoorLinV
import Derived.Test.YtepldfnplfhncaaDoorLinS
import Derived.Test.YtepldfnplfhncaaDoorLinN
set_option linter.unusedVariables false
set_option linter.unusedSimpArgs false
namespace Go.Proofs.YtepldfnplfhncaaDoor
open Go.RowKit

set_option maxHeartbeats 3200000 in
set_option maxRecDepth 20000 in
theorem any_any (bv : Value) (l : List Nat) (w : World) (hT : Tab w) (h : BtAt w bv l) (hv : ∀ k, bv.ownBlock = some k → k < w.heap.size) (hb : ∀ c ∈ l, c < 256) :
    Calls Tryd.prog 5 #[bv] w fun e w' => e = .returned (.bool true) ∧ Below w.heap.size w w' := by
  obtain ⟨pb, cb, hpb⟩ := h.shape
  have HI := Lib.hid h
  have HT := Lib.hid hT
  have HV := Lib.hid hv
  have HBy := Lib.hid hb
  clear h hT hv hb
  subst hpb
  go_enter Tryd.func5, Tryd.ntmps5
  go_wp2_with fail
  refine (awake22 _ HT.out).mono ?_
  rintro e w1 ⟨rfl, hb1⟩
  have HI1 := Lib.hid (HI.out.below hb1 (Nat.le_refl _))
  have HT1 := Lib.hid (HT.out.of_below hb1)
  have HV1 := Lib.hid (show ∀ k, (Value.slice pb l.length cb).ownBlock = some k → k < w1.heap.size from fun k hk => Nat.lt_of_lt_of_le (HV.out k hk) hb1.size)
  have HB1 := Lib.hid hb1
  clear hb1 HI HT HV
  by_cases hl : l.length ≤ 3000
  · have hlI : ¬ (l.length : Int) > 3000 := by omega
    go_wp2_with fail
    refine (dec_any22 _ l w1 HT1.out HI1.out HV1.out HBy.out (by omega)).mono ?_
    rintro e w2 ⟨cv, ev, rfl, him, hb2⟩
    have HIM := Lib.hid him
    have HI2 := Lib.hid (HI1.out.below hb2 (Nat.le_refl _))
    have HT2 := Lib.hid (HT1.out.of_below hb2)
    have HB2 := Lib.hid (HB1.out.trans (hb2.mono HB1.out.size))
    clear him hb2
    by_cases h0 : (decP l).1 = 0
    · obtain ⟨im, hd, hck, hw, himg⟩ := dec_any HBy.out h0
      have HCK := Lib.hid hck
      have HIG := Lib.hid himg
      rw [hd] at HIM ⊢
      clear hd hck hw himg h0
      obtain ⟨pc, cc, rfl, -⟩ := HIM.out.code
      obtain ⟨pe, ce, rfl, -⟩ := HIM.out.ents
      have hb3 : Below w2.heap.size w2 (w2.alloc (.cells #[.slice pc im.code.length cc, .slice pe im.ents.length ce, .int .i64 im.sh, .int .i64 im.lk] 25)) := bAlloc (Nat.le_refl _) (Below.refl _ _)
      have HE := Lib.hid (enc_any _ _ im _ (HT2.out.of_below hb3) (HIM.out.below hb3 (Nat.le_refl _)))
      have HI3 := Lib.hid (HI2.out.below hb3 (Nat.le_refl _))
      have HB3 := Lib.hid (HB2.out.trans (hb3.mono HB2.out.size))
      clear hb3
      go_wp2_with fail
      refine HE.out.mono ?_
      rintro e w4 ⟨h1, -, hb4⟩
      obtain ⟨v, rfl, hrow⟩ := h1 HCK.out
      have HI4 := Lib.hid (HI3.out.below hb4 (Nat.le_refl _))
      have HB4 := Lib.hid (HB3.out.trans (hb4.mono HB3.out.size))
      have HR := Lib.hid (BtAt.of_own hrow)
      rw [HIG.out] at HR
      have hc1 := HI4.out.text
      have hc2 := HR.out.text
      obtain ⟨pv, cv2, rfl⟩ := HR.out.shape
      clear h1 hb4 hrow HE
      go_wp2_with fail

      go_ret
      exact ⟨rfl, HB4.out⟩
    · have hz := dec_fail h0
      have hne : ((decP l).1 != 0) = true := by simpa using h0
      rw [hz] at HIM ⊢
      generalize (decP l).1 = z at hne h0 ⊢
      clear hz
      obtain ⟨pc, cc, rfl, -⟩ := HIM.out.code
      obtain ⟨pe, ce, rfl, -⟩ := HIM.out.ents
      have hb3 : Below w2.heap.size w2 (w2.alloc (.cells #[.slice pc zeroIm.code.length cc, .slice pe zeroIm.ents.length ce, .int .i64 zeroIm.sh, .int .i64 zeroIm.lk] 25)) := bAlloc (Nat.le_refl _) (Below.refl _ _)
      have HS := Lib.hid (same_eq _ _ _ _ zeroIm _ (HIM.out.below hb3 (Nat.le_refl _)) (zero_at _) (by decide) (by decide))
      have HB3 := Lib.hid (HB2.out.trans (hb3.mono HB2.out.size))
      clear hb3
      go_wp2_with fail
      refine HS.out.mono ?_
      rintro e w4 ⟨rfl, hb4⟩
      have HB4 := Lib.hid (HB3.out.trans (hb4.mono HB3.out.size))
      clear hb4
      go_wp2_with fail
      go_ret
      exact ⟨rfl, HB4.out⟩
  · have hlI : (l.length : Int) > 3000 := by omega
    go_wp2_with fail
    go_ret
    exact ⟨rfl, HB1.out⟩
end Go.Proofs.YtepldfnplfhncaaDoor
