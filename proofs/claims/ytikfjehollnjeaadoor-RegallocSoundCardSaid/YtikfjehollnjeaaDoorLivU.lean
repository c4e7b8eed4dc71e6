/- The law's great. -/
import Derived.Test.YtikfjehollnjeaaDoorLivT
set_option linter.unusedVariables false
set_option linter.unusedSimpArgs false
namespace Go.Proofs.YtikfjehollnjeaaDoor
open Go.RowKit

def GreatPost (R : Int) (bs : List IBlk) (w : World) (e : Ending) (w' : World) : Prop := ∃ G : Bool, e = .returned (.bool G) ∧ Below w.heap.size w w' ∧ (G = false → 0 ≤ R ∧ R ≤ 30 ∧ bs.length ≤ 12 ∧ ∀ k, k < bs.length → (bs.getD k default).code.length ≤ 40)

set_option maxHeartbeats 3200000 in
set_option maxRecDepth 40000 in
theorem great_any (nm : ByteArray) (R : Int) (ap : Option Addr) (an ac : Nat) (bv : Value) (bs : List IBlk) (w : World) (hB : BksAt w bv bs) (hl : bs.length ≤ 9223372036854775807) (ha : an ≤ 9223372036854775807) (hcl : ∀ k, k < bs.length → (bs.getD k default).code.length ≤ 9223372036854775807) :
    Calls Tryd.prog 7 #[.agg #[.string nm, .int .i64 R, .slice ap an ac, bv]] w (GreatPost R bs w) := by
  obtain ⟨bp, bcap, rfl⟩ := hB.shape
  have hb0 : Below w.heap.size w (w.alloc (.cells #[.string nm, .int .i64 R, .slice ap an ac, .slice bp bs.length bcap] 25)) := bAlloc (Nat.le_refl _) (Below.refl _ _)
  have HB := Lib.hid hB
  have HB0 := Lib.hid hb0
  have HCL := Lib.hid hcl
  clear hB hb0 hcl
  by_cases h1 : R > 30
  · go_enter Tryd.func7, Tryd.ntmps7
    go_wp2_with fail
    go_ret
    exact Exists.intro true ⟨rfl, HB0.out, fun h => by cases h⟩
  by_cases h2 : R < 0
  · go_enter Tryd.func7, Tryd.ntmps7
    go_wp2_with fail
    go_ret
    exact Exists.intro true ⟨rfl, HB0.out, fun h => by cases h⟩
  by_cases h3 : (bs.length : Int) > 12
  · go_enter Tryd.func7, Tryd.ntmps7
    go_wp2_with fail
    go_ret
    exact Exists.intro true ⟨rfl, HB0.out, fun h => by cases h⟩
  by_cases h4 : (an : Int) > 10
  · go_enter Tryd.func7, Tryd.ntmps7
    go_wp2_with fail
    go_ret
    exact Exists.intro true ⟨rfl, HB0.out, fun h => by cases h⟩
  go_enter Tryd.func7, Tryd.ntmps7
  go_wp2_with fail
  go_loopw [28] (fun s28 wx => ∃ k : Nat, s28 = .int .i64 k ∧ k ≤ bs.length ∧ Hid (∀ i, i < k → (bs.getD i default).code.length ≤ 40) ∧ Hid (Below w.heap.size w wx)) (fun s28 _ => bs.length - (intOf s28).toNat)
  case atStart => exact ⟨0, rfl, Nat.zero_le _, fun i hi => absurd hi (Nat.not_lt_zero i), HB0⟩
  case round =>
    obtain ⟨k, rfl, hk, HQ, HX⟩ := hrel
    obtain ⟨w1, rfl⟩ : ∃ W : World, W = wr := ⟨_, rfl⟩
    by_cases hlt : k < bs.length
    · have hkI : (k : Int) < bs.length := by omega
      obtain ⟨m, off, cap', cp, cc, e1, hm, -, c0, c1, c2, c3, c4⟩ := (HB.out.below HX.out (Nat.le_refl _)).at k hlt
      injection e1 with e1 e2 e3
      subst e1 e3
      have hcl := HCL.out k hlt
      generalize hn : (bs.getD k default).code.length = n at c0 hcl
      have HN := Lib.hid hn
      generalize (bs.getD k default).kind = kd at c1
      generalize (bs.getD k default).x = kx at c2
      generalize (bs.getD k default).to = kt at c3
      generalize (bs.getD k default).els = ke at c4
      clear hn e2
      by_cases hx : (n : Int) > 40
      · go_wp2_with fail
        go_ret
        exact Exists.intro true ⟨rfl, HX.out.trans ((bAlloc (Nat.le_refl _) (Below.refl _ _)).mono HX.out.size), fun h => by cases h⟩
      · have hx2 : n ≤ 40 := by omega
        go_wp2_with fail
        go_roundw
        case rel =>
          refine ⟨k + 1, by go_num, by omega, fun i hi => ?_, HX.out.trans ((bAlloc (Nat.le_refl _) (Below.refl _ _)).mono HX.out.size)⟩
          by_cases e : i = k
          · subst e; rw [HN.out]; exact hx2
          · exact HQ.out i (by omega)
        case measure => simp [intOf]; omega
    · have hkn : k = bs.length := by omega
      subst hkn
      go_wp2_with fail
      go_ret
      exact Exists.intro false ⟨rfl, HX.out, fun _ => ⟨by omega, by omega, by omega, HQ.out⟩⟩
end Go.Proofs.YtikfjehollnjeaaDoor
