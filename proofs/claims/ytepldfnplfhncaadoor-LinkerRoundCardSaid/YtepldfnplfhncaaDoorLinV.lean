/- The reference's Same at equal images. -/
import Derived.Test.YtepldfnplfhncaaDoorLinD
import Derived.BigQuiet
set_option linter.unusedVariables false
set_option linter.unusedSimpArgs false
namespace Go.Proofs.YtepldfnplfhncaaDoor
open Go.RowKit

set_option maxHeartbeats 3200000 in
set_option maxRecDepth 20000 in
theorem same_eq (ca ea cb eb : Value) (im : LIm) (w : World) (ha : LImAt w ca ea im) (hb : LImAt w cb eb im) (hcl : im.code.length ≤ 100000) (hel : im.ents.length ≤ 100000) :
    Calls Tryd.prog 13 #[.agg #[ca, ea, .int .i64 im.sh, .int .i64 im.lk], .agg #[cb, eb, .int .i64 im.sh, .int .i64 im.lk]] w fun e w' => e = .returned (.bool true) ∧ Below w.heap.size w w' := by
  have hb0 : Below w.heap.size w ((w.alloc (.cells #[ca, ea, .int .i64 im.sh, .int .i64 im.lk] 25)).alloc (.cells #[cb, eb, .int .i64 im.sh, .int .i64 im.lk] 25)) := bAlloc (by simp) (bAlloc (Nat.le_refl _) (Below.refl _ _))
  have hxa : Box4 ((w.alloc (.cells #[ca, ea, .int .i64 im.sh, .int .i64 im.lk] 25)).alloc (.cells #[cb, eb, .int .i64 im.sh, .int .i64 im.lk] 25)) w.heap.size ca ea im.sh im.lk := ⟨by simp [go_sem], by simp [go_sem], by simp [go_sem], by simp [go_sem]⟩
  have hxb : Box4 ((w.alloc (.cells #[ca, ea, .int .i64 im.sh, .int .i64 im.lk] 25)).alloc (.cells #[cb, eb, .int .i64 im.sh, .int .i64 im.lk] 25)) (w.heap.size + 1) cb eb im.sh im.lk := ⟨by simp [go_sem], by simp [go_sem], by simp [go_sem], by simp [go_sem]⟩
  have hz : ((w.alloc (.cells #[ca, ea, .int .i64 im.sh, .int .i64 im.lk] 25)).alloc (.cells #[cb, eb, .int .i64 im.sh, .int .i64 im.lk] 25)).heap.size = w.heap.size + 1 + 1 := by simp
  have HA := Lib.hid (ha.below hb0 (Nat.le_refl _))
  have HB := Lib.hid (hb.below hb0 (Nat.le_refl _))
  obtain ⟨cpa, cca, rfl, -⟩ := ha.code
  obtain ⟨epa, eca, rfl, -⟩ := ha.ents
  obtain ⟨cpb, ccb, rfl, -⟩ := hb.code
  obtain ⟨epb, ecb, rfl, -⟩ := hb.ents
  have HB0 := Lib.hid hb0
  have HXA := Lib.hid hxa
  have HXB := Lib.hid hxb
  have HZ := Lib.hid hz
  clear ha hb hb0 hxa hxb hz
  go_enter Tryd.func13, Tryd.ntmps13
  go_wp2_with fail
  generalize (w.alloc (.cells #[.slice cpa im.code.length cca, .slice epa im.ents.length eca, .int .i64 im.sh, .int .i64 im.lk] 25)).alloc (.cells #[.slice cpb im.code.length ccb, .slice epb im.ents.length ecb, .int .i64 im.sh, .int .i64 im.lk] 25) = w0 at HA HB HB0 HXA HXB HZ ⊢
  go_loopw [5] (fun s5 wx => ∃ k : Nat, s5 = .int .i64 k ∧ k ≤ im.code.length ∧ Hid (Below w0.heap.size w0 wx)) (fun s5 _ => im.code.length - (intOf s5).toNat)
  case atStart => exact ⟨0, rfl, Nat.zero_le _, Below.refl _ _⟩
  case round =>
    obtain ⟨k, rfl, hk, HE⟩ := hrel
    obtain ⟨w1, rfl⟩ : ∃ W : World, W = wr := ⟨_, rfl⟩
    have hlz := HZ.out
    have hxa := HXA.out.below HE.out (by omega)
    have hxb := HXB.out.below HE.out (by omega)
    have a0 := hxa.c
    have a1 := hxa.e
    have b0 := hxb.c
    have b1 := hxb.e
    have hsz := HE.out.size
    have la : w.heap.size < w1.heap.size := by omega
    have lb : w.heap.size + 1 < w1.heap.size := by omega
    clear hxa hxb hsz hlz
    by_cases hlt : k < im.code.length
    · have hltI : (k : Int) < im.code.length := by omega
      obtain ⟨_, _, e1, hca⟩ := HA.out.code.below HE.out (Nat.le_refl _)
      injection e1 with e1 e2 e3
      subst e1
      obtain ⟨ma, oa, rfl, hma, xa⟩ := hca k hlt
      clear hca e2 e3
      obtain ⟨_, _, e1, hcb⟩ := HB.out.code.below HE.out (Nat.le_refl _)
      injection e1 with e1 e2 e3
      subst e1
      obtain ⟨mb, ob, rfl, hmb, xb⟩ := hcb k hlt
      clear hcb e2 e3
      generalize im.code.getD k 0 = x at xa xb
      go_wp2_with fail
      go_quiet (fail)
      go_wp2_with fail
      go_roundw
      case rel => exact ⟨k + 1, by go_num, by omega, bDrewN HE.out⟩
      case measure => simp [intOf]; omega
    · have hkn : k = im.code.length := by omega
      subst hkn
      go_wp2_with fail
      go_loopw [6] (fun s6 wx => ∃ k : Nat, s6 = .int .i64 k ∧ k ≤ im.ents.length ∧ Hid (Below w0.heap.size w0 wx)) (fun s6 _ => im.ents.length - (intOf s6).toNat)
      case atStart => exact ⟨0, rfl, Nat.zero_le _, HE⟩
      case round =>
        clear HE a0 a1 b0 b1 la lb hk hlt
        obtain ⟨k, rfl, hk, HE⟩ := hrel
        obtain ⟨w2, rfl⟩ : ∃ W : World, W = wr := ⟨_, rfl⟩
        have hlz := HZ.out
        have hxa := HXA.out.below HE.out (by omega)
        have hxb := HXB.out.below HE.out (by omega)
        have a0 := hxa.c
        have a1 := hxa.e
        have b0 := hxb.c
        have b1 := hxb.e
        have hsz := HE.out.size
        have la : w.heap.size < w2.heap.size := by omega
        have lb : w.heap.size + 1 < w2.heap.size := by omega
        clear hxa hxb hsz hlz
        by_cases hlt : k < im.ents.length
        · have hltI : (k : Int) < im.ents.length := by omega
          obtain ⟨_, _, e1, hca⟩ := HA.out.ents.below HE.out (Nat.le_refl _)
          injection e1 with e1 e2 e3
          subst e1
          obtain ⟨ma, oa, rfl, hma, xa0, xa1, xa2, xa3⟩ := hca k hlt
          clear hca e2 e3
          obtain ⟨_, _, e1, hcb⟩ := HB.out.ents.below HE.out (Nat.le_refl _)
          injection e1 with e1 e2 e3
          subst e1
          obtain ⟨mb, ob, rfl, hmb, xb0, xb1, xb2, xb3⟩ := hcb k hlt
          clear hcb e2 e3
          generalize im.ents.getD k default = en at xa0 xa1 xa2 xa3 xb0 xb1 xb2 xb3
          obtain ⟨nm, st, fin, dat⟩ := en
          simp only at xa0 xa1 xa2 xa3 xb0 xb1 xb2 xb3
          go_wp2_with fail
          go_quiet (fail)
          go_wp2_with fail
          go_roundw
          case rel => exact ⟨k + 1, by go_num, by omega, bDrewN HE.out⟩
          case measure => simp [intOf]; omega
        · have hkn : k = im.ents.length := by omega
          subst hkn
          go_wp2_with fail
          go_ret
          exact ⟨rfl, HB0.out.trans (HE.out.mono (by have := HZ.out; omega))⟩
end Go.Proofs.YtepldfnplfhncaaDoor
