/- The law's outputs and great, by contract. -/
import Derived.Test.YtpachmkklppmjaaDoorLkR
set_option linter.unusedVariables false
set_option linter.unusedSimpArgs false
namespace Go.Proofs.YtpachmkklppmjaaDoor
open Go.RowKit Go.Maps Go.WideMaps

/-- Outputs that can be read. -/
def OuRd (w : World) (v : Value) (l : List (Int × Int)) : Prop := ∃ p cap, v = .slice p l.length cap ∧ l.length ≤ maxLen ∧ ∀ k, k < l.length → ∃ m, p = some ⟨m, 0, none⟩ ∧ m < w.heap.size ∧ w.cell? ⟨m, k * 2, none⟩ = some (.int .i64 (l.getD k (0, 0)).1) ∧ w.cell? ⟨m, k * 2 + 1, none⟩ = some (.int .i32 (l.getD k (0, 0)).2)
theorem OuRd.below {B : Nat} {w w' : World} {v : Value} {l : List (Int × Int)} (h : OuRd w v l) (hb : Below B w w') (hB : w.heap.size ≤ B) : OuRd w' v l := by
  obtain ⟨p, cap, hv, hl, hc⟩ := h
  refine ⟨p, cap, hv, hl, fun k hk => ?_⟩
  obtain ⟨m, hp, hm, h0, h1⟩ := hc k hk
  have hlt := Nat.lt_of_lt_of_le hm hB
  exact ⟨m, hp, Nat.lt_of_lt_of_le hm hb.size, (hb.cell (p := ⟨m, k * 2, none⟩) hlt).trans h0, (hb.cell (p := ⟨m, k * 2 + 1, none⟩) hlt).trans h1⟩
theorem outCells_at : ∀ (l : List (Int × Int)) (k : Nat), k < l.length → (outCells l)[k * 2]? = some (.int .i64 (l.getD k (0, 0)).1) ∧ (outCells l)[k * 2 + 1]? = some (.int .i32 (l.getD k (0, 0)).2)
  | [], k, h => by simp at h
  | x :: l, 0, _ => ⟨rfl, rfl⟩
  | x :: l, k + 1, h => by
    have h2 := outCells_at l k (by simpa using h)
    have e : outCells (x :: l) = .int .i64 x.1 :: .int .i32 x.2 :: outCells l := rfl
    rw [e, show (k + 1) * 2 = k * 2 + 1 + 1 by omega, List.getElem?_cons_succ, List.getElem?_cons_succ, show k * 2 + 1 + 1 + 1 = (k * 2 + 1) + 1 + 1 by omega, List.getElem?_cons_succ, List.getElem?_cons_succ]
    exact h2
theorem OuRd.of_own {base : Nat} {w : World} {v : Value} {l : List (Int × Int)} (h : w.ownsRow base 72 2 v l.length (outCells l)) : OuRd w v l := by
  rcases h.2 with ⟨h1, h2⟩ | ⟨g, cap, cur, h1, _, hh, hn1, hn2, hcs, htk⟩
  · subst h1
    have : l = [] := by
      cases l with
      | nil => rfl
      | cons a l => cases h2
    subst this
    exact ⟨_, _, rfl, Nat.zero_le _, fun k hk => absurd hk (Nat.not_lt_zero _)⟩
  · subst h1
    refine ⟨_, _, rfl, Nat.le_trans hn1 hn2, fun k hk => ⟨g, rfl, (Array.getElem?_eq_some_iff.1 hh).1, ?_⟩⟩
    have hc : ∀ j, j < l.length * 2 → w.cell? ⟨g, j, none⟩ = (outCells l)[j]? := fun j hj => by
      rw [← htk, List.getElem?_take, if_pos hj]
      simp only [World.cell?, hh, Option.isSome_none, Bool.false_eq_true, if_false]
      rw [Array.getElem?_toList]
    obtain ⟨a, b⟩ := outCells_at l k hk
    exact ⟨(hc _ (by omega)).trans a, (hc _ (by omega)).trans b⟩

set_option maxHeartbeats 1600000 in
set_option maxRecDepth 20000 in
theorem outs_any (ov pv : Value) (l : List (Int × Int)) (w : World) (h1 : OuRd w ov l) (h2 : OuRd w pv l) :
    Calls Tryd.prog 8 #[ov, pv] w fun e w' => e = .returned (.bool true) ∧ Below w.heap.size w w' := by
  have HR1 := Lib.hid h1
  have HR2 := Lib.hid h2
  obtain ⟨op, oc, rfl, hl, -⟩ := h1
  have HML : Hid (l.length ≤ 9223372036854775807) := (show l.length ≤ _ from hl)
  clear hl
  obtain ⟨pp, pc, rfl, -, -⟩ := h2
  go_enter Tryd.func8, Tryd.ntmps8
  go_wp2_with fail
  go_loopw [13] (fun s13 wx => ∃ k : Nat, s13 = .int .i64 k ∧ k ≤ l.length ∧ Hid (Below w.heap.size w wx)) (fun s13 _ => l.length - (intOf s13).toNat)
  case atStart => exact ⟨0, rfl, Nat.zero_le _, Below.refl _ _⟩
  case round =>
    obtain ⟨k, rfl, hk, HB⟩ := hrel
    obtain ⟨w1, rfl⟩ : ∃ W : World, W = wr := ⟨_, rfl⟩
    by_cases hlt : k < l.length
    · skip
      have hkI : (k : Int) < l.length := by omega
      have hww : IntKind.i64.wrap ((k : Int) + 1) = (k : Int) + 1 := IntWalk.i64_in _ ⟨by omega, by have := HML.out; omega⟩
      obtain ⟨xp', xc', e, -, hx1⟩ := HR1.out.below HB.out (Nat.le_refl _)
      cases e
      obtain ⟨m1, rfl, l1, y1, y1'⟩ := hx1 k hlt
      obtain ⟨xp2', xc2', e, -, hx2⟩ := HR2.out.below HB.out (Nat.le_refl _)
      cases e
      obtain ⟨m2, rfl, l2, y2, y2'⟩ := hx2 k hlt
      generalize (l.getD k (0, 0)).1 = px at y1 y2
      generalize (l.getD k (0, 0)).2 = py at y1' y2'
      clear hx1 hx2
      go_wp2_with fail
      go_quiet (fail)
      have HB2 : Hid (Below w.heap.size w (w1.drewN nq)) := (show Below _ _ _ from bDrewN HB.out)
      generalize w1.drewN nq = w2 at HB2 ⊢
      go_wp2_with fail
      go_roundw
      case rel => exact ⟨k + 1, by go_num, by omega, HB2.out⟩
      case measure => simp [intOf]; omega
    · skip
      obtain rfl : k = l.length := by omega
      go_wp2_with fail
      go_ret
      exact ⟨rfl, HB.out⟩
/-- Within the limits. -/
def grB (S : List LSh) (l : List LOb) : Bool := l.any (fun o => decide (5000 < o.code.length) || decide (100 < o.refs.length) || decide (40 < o.nm.size)) || (decide (10 < S.length) || decide (10 < l.length))
set_option maxHeartbeats 1600000 in
set_option maxRecDepth 20000 in
theorem great_any (sv lv : Value) (S : List LSh) (l : List LOb) (w : World) (hS : ShAt w sv S) (hL : ObsAt w lv l) (hll : l.length ≤ 9223372036854775807) :
    Calls Tryd.prog 5 #[sv, lv] w fun e w' => e = .returned (.bool (grB S l)) ∧ Below w.heap.size w w' := by
  obtain ⟨sp, sc, rfl⟩ := hS.shape
  have HL := Lib.hid hL
  have HML := Lib.hid hll
  obtain ⟨lp, lc, rfl⟩ := hL.shape
  clear hS hL hll
  go_enter Tryd.func5, Tryd.ntmps5
  go_wp2_with fail
  go_loopw [9] (fun s9 wx => ∃ k : Nat, s9 = .int .i64 k ∧ k ≤ l.length ∧ Hid ((l.take k).any (fun o => decide (5000 < o.code.length) || decide (100 < o.refs.length) || decide (40 < o.nm.size)) = false ∧ Below w.heap.size w wx)) (fun s9 _ => l.length - (intOf s9).toNat)
  case atStart => exact ⟨0, rfl, Nat.zero_le _, rfl, Below.refl _ _⟩
  case round =>
    obtain ⟨k, rfl, hk, HB⟩ := hrel
    obtain ⟨w1, rfl⟩ : ∃ W : World, W = wr := ⟨_, rfl⟩
    by_cases hlt : k < l.length
    · skip
      have hkI : (k : Int) < l.length := by omega
      have hww : IntKind.i64.wrap ((k : Int) + 1) = (k : Int) + 1 := IntWalk.i64_in _ ⟨by omega, by have := HML.out; omega⟩
      obtain ⟨lp', lc', e, hs⟩ := HL.out.below HB.out.2 (Nat.le_refl _)
      cases e
      obtain ⟨m, off, cv, rv, rfl, hm, ⟨z0, z1, z2, z3⟩, hgs, hrf⟩ := hs k hlt
      have HAN : Hid ((l.take (k + 1)).any (fun o => decide (5000 < o.code.length) || decide (100 < o.refs.length) || decide (40 < o.nm.size)) = (decide (5000 < (l.getD k default).code.length) || decide (100 < (l.getD k default).refs.length) || decide (40 < (l.getD k default).nm.size))) := (show _ = _ by rw [take_next l hlt, List.any_append, HB.out.1]; simp)
      have HGR : Hid ((decide (5000 < (l.getD k default).code.length) || decide (100 < (l.getD k default).refs.length) || decide (40 < (l.getD k default).nm.size)) = true → grB S l = true) := (show _ → _ from fun h => by
        unfold grB
        rw [Bool.or_eq_true]
        exact .inl (List.any_eq_true.2 ⟨_, mem_at2 l hlt, h⟩))
      obtain ⟨rp, rc, rfl⟩ := hrf.shape
      obtain ⟨cp, cc, rfl⟩ := hgs.shape
      generalize l.getD k default = ob at z0 z1 z2 z3 HAN HGR hgs hrf
      obtain ⟨nm, code, refs, dat⟩ := ob
      have HBA : Hid (Below w.heap.size w (w1.alloc (.cells #[.string nm, .slice cp code.length cc, .int .i64 dat, .slice rp refs.length rc] 38))) := (show Below _ _ _ from bAlloc HB.out.2.size HB.out.2)
      clear hs hgs hrf
      have z0 : w1.cell? ⟨m, off + k * 4, none⟩ = some (.string nm) := z0
      have z1 : w1.cell? ⟨m, off + k * 4 + 1, none⟩ = some (.slice cp code.length cc) := z1
      have z2 : w1.cell? ⟨m, off + k * 4 + 2, none⟩ = some (.int .i64 dat) := z2
      have z3 : w1.cell? ⟨m, off + k * 4 + 3, none⟩ = some (.slice rp refs.length rc) := z3
      have HAN : Hid ((l.take (k + 1)).any (fun o => decide (5000 < o.code.length) || decide (100 < o.refs.length) || decide (40 < o.nm.size)) = (decide (5000 < code.length) || decide (100 < refs.length) || decide (40 < nm.size))) := HAN
      have HGR : Hid ((decide (5000 < code.length) || decide (100 < refs.length) || decide (40 < nm.size)) = true → grB S l = true) := HGR
      by_cases h1 : (code.length : Int) > 5000
      · have HG := Lib.hid (HGR.out (by simp; omega))
        go_wp2_with fail
        go_ret
        exact ⟨by rw [HG.out]; rfl, HBA.out⟩
      · by_cases h2 : (refs.length : Int) > 100
        · have HG := Lib.hid (HGR.out (by simp; omega))
          go_wp2_with fail
          go_ret
          exact ⟨by rw [HG.out]; rfl, HBA.out⟩
        · by_cases h3 : (nm.size : Int) > 40
          · have HG := Lib.hid (HGR.out (by simp; omega))
            go_wp2_with fail
            go_ret
            exact ⟨by rw [HG.out]; rfl, HBA.out⟩
          · have HN : Hid ((l.take (k + 1)).any (fun o => decide (5000 < o.code.length) || decide (100 < o.refs.length) || decide (40 < o.nm.size)) = false) := (show _ = _ by rw [HAN.out]; simp; omega)
            go_wp2_with fail
            go_roundw
            case rel => exact ⟨k + 1, by go_num, by omega, HN.out, HBA.out⟩
            case measure => simp [intOf]; omega
    · skip
      obtain rfl : k = l.length := by omega
      have HG : Hid (grB S l = (decide (10 < S.length) || decide (10 < l.length))) := (show _ = _ by
        have h := HB.out.1
        rw [List.take_length] at h
        unfold grB
        rw [h, Bool.false_or])
      by_cases h1 : (S.length : Int) > 10
      · have HG2 : Hid (grB S l = true) := (show _ = _ by rw [HG.out]; simp; omega)
        go_wp2_with fail
        go_ret
        exact ⟨by rw [HG2.out]; rfl, HB.out.2⟩
      · by_cases h2 : (l.length : Int) > 10
        · have HG2 : Hid (grB S l = true) := (show _ = _ by rw [HG.out]; simp; omega)
          go_wp2_with fail
          go_ret
          exact ⟨by rw [HG2.out]; rfl, HB.out.2⟩
        · have HG2 : Hid (grB S l = false) := (show _ = _ by rw [HG.out]; simp; omega)
          go_wp2_with fail
          go_ret
          exact ⟨by rw [HG2.out]; rfl, HB.out.2⟩
end Go.Proofs.YtpachmkklppmjaaDoor
