/- The law's words: two equal lists of lists of words are equal. -/
import Derived.Test.YtifjcknklecdbaaDoorRunI
import Derived.LoopTactic
set_option linter.unusedVariables false
set_option linter.unusedSimpArgs false
namespace Go.Proofs.YtifjcknklecdbaaDoor
open Go.RowKit

set_option maxHeartbeats 1600000 in
theorem words_same (av bv : Value) (ls : List (List Int)) (w : World) (ha : RdR32 w av ls) (hb : RdR32 w bv ls) (hl : ls.length ≤ 1000) (hl2 : ∀ k, (ls.getD k []).length ≤ 9223372036854775807) :
    Calls Tryd.prog 10 #[av, bv] w fun e w' => e = .returned (.bool true) ∧ Below w.heap.size w w' := by
  obtain ⟨ap, ac, rfl⟩ := ha.shape
  obtain ⟨bp, bc, rfl⟩ := hb.shape
  have HA := Lib.hid ha
  have HB := Lib.hid hb
  have HL := Lib.hid hl2
  clear ha hb hl2
  go_enter Tryd.func10, Tryd.ntmps10
  go_wp2_with fail
  go_loopw [14] (fun s14 wx => ∃ k : Nat, s14 = .int .i64 k ∧ k ≤ ls.length ∧ Hid (Below w.heap.size w wx)) (fun s14 _ => ls.length - (intOf s14).toNat)
  case atStart => exact ⟨0, rfl, Nat.zero_le _, Below.refl _ _⟩
  case round =>
    obtain ⟨k, rfl, hk, hb1⟩ := hrel
    obtain ⟨w5, rfl⟩ : ∃ W : World, W = wr := ⟨_, rfl⟩
    by_cases hlt : k < ls.length
    · skip
      have hltI : (k : Int) < ls.length := by omega
      obtain ⟨ap', ac', e, ha⟩ := HA.out.below hb1.out (Nat.le_refl _)
      cases e
      obtain ⟨m1, o1, q1, c1, rfl, l1, x1, hr1⟩ := ha k hlt
      obtain ⟨bp', bc', e, hb⟩ := HB.out.below hb1.out (Nat.le_refl _)
      cases e
      obtain ⟨m2, o2, q2, c2, rfl, l2, x2, hr2⟩ := hb k hlt
      clear ha hb
      have hn := HL.out k
      generalize ls.getD k [] = row at x1 hr1 x2 hr2 hn
      have HR1 := Lib.hid hr1
      have HR2 := Lib.hid hr2
      clear hr1 hr2
      go_upto_region 6 with fail
      go_quiet (fail)
      generalize hw : w5.drewN nq = w6
      rw [← drewN_cell w5 nq ⟨m1, o1 + k, none⟩, hw] at x1
      rw [← drewN_cell w5 nq ⟨m2, o2 + k, none⟩, hw] at x2
      rw [← drewN_size w5 nq, hw] at l1 l2
      have hb2 : Below w5.heap.size w5 w6 := by rw [← hw]; exact bDrewN (Below.refl _ _)
      have HB6 := Lib.hid (hb1.out.trans (hb2.mono hb1.out.size))
      have HS1 := Lib.hid (HR1.out.below hb2 (Nat.le_refl _))
      have HS2 := Lib.hid (HR2.out.below hb2 (Nat.le_refl _))
      clear hb2 hw HR1 HR2 hb1
      go_wp2_with fail
      go_loopw [33] (fun s33 wx => ∃ j : Nat, s33 = .int .i64 j ∧ j ≤ row.length ∧ Hid (Below w6.heap.size w6 wx)) (fun s33 _ => row.length - (intOf s33).toNat)
      case atStart => exact ⟨0, rfl, Nat.zero_le _, Below.refl _ _⟩
      case round =>
        obtain ⟨j, rfl, hj, hb7⟩ := hrel
        obtain ⟨w7, rfl⟩ : ∃ W : World, W = wr := ⟨_, rfl⟩
        by_cases hjl : j < row.length
        · skip
          have hjI : (j : Int) < row.length := by omega
          have x3 := (hb7.out.cell (p := ⟨m1, o1 + k, none⟩) l1).trans x1
          have x4 := (hb7.out.cell (p := ⟨m2, o2 + k, none⟩) l2).trans x2
          have l3 := Nat.lt_of_lt_of_le l1 hb7.out.size
          have l4 := Nat.lt_of_lt_of_le l2 hb7.out.size
          obtain ⟨q1', c1', e, hr1⟩ := HS1.out.below hb7.out (Nat.le_refl _)
          cases e
          obtain ⟨m5, o5, rfl, l5, y1⟩ := hr1 j hjl
          obtain ⟨q2', c2', e, hr2⟩ := HS2.out.below hb7.out (Nat.le_refl _)
          cases e
          obtain ⟨m6, o6, rfl, l6, y2⟩ := hr2 j hjl
          clear hr1 hr2 x1 x2 l1 l2
          go_upto_region 11 with fail
          go_quiet (fail)
          have HB8 : Hid (Below w6.heap.size w6 (w7.drewN nq)) := (show Below _ _ _ from bDrewN hb7.out)
          generalize w7.drewN nq = w8 at HB8 ⊢
          go_wp2_with fail
          go_roundw
          case rel => exact ⟨j + 1, by go_num, by omega, HB8⟩
          case measure => simp [intOf]; omega
        · skip
          obtain rfl : j = row.length := by omega
          have HB8 := Lib.hid (HB6.out.trans (hb7.out.mono HB6.out.size))
          clear x1 x2 l1 l2 hj hjl
          go_wp2_with fail
          go_roundw
          case rel => exact ⟨k + 1, by go_num, by omega, HB8⟩
          case measure => simp [intOf]; omega
    · skip
      obtain rfl : k = ls.length := by omega
      go_wp2_with fail
      go_ret
      exact ⟨rfl, hb1.out⟩
end Go.Proofs.YtifjcknklecdbaaDoor
