/- The law's outputs, great and awake, by contract. -/
import Derived.Test.YtpachmkklppmjaaDoorLkR
import Derived.Test.YtpachmkklppmjaaDoorIsaC
set_option linter.unusedVariables false
set_option linter.unusedSimpArgs false
namespace Go.Proofs.YtpachmkklppmjaaDoor
open Go.RowKit Go.Maps Go.WideMaps

/-- Outputs that can be read. -/
def OuRd (w : World) (v : Value) (l : List (Int × Int)) : Prop := ∃ p cap, v = .slice p l.length cap ∧ l.length ≤ maxLen ∧ ∀ k, k < l.length → ∃ m, p = some ⟨m, 0, none⟩ ∧ m < w.heap.size ∧ w.cell? ⟨m, k * 2, none⟩ = some (.int .i64 (l.getD k (0, 0)).1) ∧ w.cell? ⟨m, k * 2 + 1, none⟩ = some (.int .i32 (l.getD k (0, 0)).2)
theorem OuRd.below {B : Nat} {w w' : World} {v : Value} {l : List (Int × Int)} (h : OuRd w v l) (hb : Below B w w') (hB : w.heap.size ≤ B) : OuRd w' v l := by
  obtain ⟨p, cap, hv, hl, hc⟩ := h
  refine ⟨p, cap, hv, hl, fun k hk => ?_⟩
  obtain ⟨m, hp, hm, h0, h1⟩ := hc k hk
  have hlt := Nat.lt_of_lt_of_le hm hB
  exact ⟨m, hp, Nat.lt_of_lt_of_le hm hb.size, (hb.cell (p := ⟨m, k * 2, none⟩) hlt).trans h0, (hb.cell (p := ⟨m, k * 2 + 1, none⟩) hlt).trans h1⟩
theorem outCells_at : ∀ (l : List (Int × Int)) (k : Nat), k < l.length → (outCells l)[k * 2]? = some (.int .i64 (l.getD k (0, 0)).1) ∧ (outCells l)[k * 2 + 1]? = some (.int .i32 (l.getD k (0, 0)).2)
  | [], k, h => by simp at h
  | x :: l, 0, _ => ⟨rfl, rfl⟩
  | x :: l, k + 1, h => by
    have h2 := outCells_at l k (by simpa using h)
    have e : outCells (x :: l) = .int .i64 x.1 :: .int .i32 x.2 :: outCells l := rfl
    rw [e, show (k + 1) * 2 = k * 2 + 1 + 1 by omega, List.getElem?_cons_succ, List.getElem?_cons_succ, show k * 2 + 1 + 1 + 1 = (k * 2 + 1) + 1 + 1 by omega, List.getElem?_cons_succ, List.getElem?_cons_succ]
    exact h2
theorem OuRd.of_own {base : Nat} {w : World} {v : Value} {l : List (Int × Int)} (h : w.ownsRow base 72 2 v l.length (outCells l)) : OuRd w v l := by
  rcases h.2 with ⟨h1, h2⟩ | ⟨g, cap, cur, h1, _, hh, hn1, hn2, hcs, htk⟩
  · subst h1
    have : l = [] := by
      cases l with
      | nil => rfl
      | cons a l => cases h2
    subst this
    exact ⟨_, _, rfl, Nat.zero_le _, fun k hk => absurd hk (Nat.not_lt_zero _)⟩
  · subst h1
    refine ⟨_, _, rfl, Nat.le_trans hn1 hn2, fun k hk => ⟨g, rfl, (Array.getElem?_eq_some_iff.1 hh).1, ?_⟩⟩
    have hc : ∀ j, j < l.length * 2 → w.cell? ⟨g, j, none⟩ = (outCells l)[j]? := fun j hj => by
      rw [← htk, List.getElem?_take, if_pos hj]
      simp only [World.cell?, hh, Option.isSome_none, Bool.false_eq_true, if_false]
      rw [Array.getElem?_toList]
    obtain ⟨a, b⟩ := outCells_at l k hk
    exact ⟨(hc _ (by omega)).trans a, (hc _ (by omega)).trans b⟩

set_option maxHeartbeats 1600000 in
set_option maxRecDepth 20000 in
theorem outs_any (ov pv : Value) (l : List (Int × Int)) (w : World) (h1 : OuRd w ov l) (h2 : OuRd w pv l) :
    Calls Tryd.prog 8 #[ov, pv] w fun e w' => e = .returned (.bool true) ∧ Below w.heap.size w w' := by
  have HR1 := Lib.hid h1
  have HR2 := Lib.hid h2
  obtain ⟨op, oc, rfl, hl, -⟩ := h1
  have HML : Hid (l.length ≤ 9223372036854775807) := (show l.length ≤ _ from hl)
  clear hl
  obtain ⟨pp, pc, rfl, -, -⟩ := h2
  go_enter Tryd.func8, Tryd.ntmps8
  go_wp2_with fail
  go_loopw [13] (fun s13 wx => ∃ k : Nat, s13 = .int .i64 k ∧ k ≤ l.length ∧ Hid (Below w.heap.size w wx)) (fun s13 _ => l.length - (intOf s13).toNat)
  case atStart => exact ⟨0, rfl, Nat.zero_le _, Below.refl _ _⟩
  case round =>
    obtain ⟨k, rfl, hk, HB⟩ := hrel
    obtain ⟨w1, rfl⟩ : ∃ W : World, W = wr := ⟨_, rfl⟩
    by_cases hlt : k < l.length
    · skip
      have hkI : (k : Int) < l.length := by omega
      have hww : IntKind.i64.wrap ((k : Int) + 1) = (k : Int) + 1 := IntWalk.i64_in _ ⟨by omega, by have := HML.out; omega⟩
      obtain ⟨xp', xc', e, -, hx1⟩ := HR1.out.below HB.out (Nat.le_refl _)
      cases e
      obtain ⟨m1, rfl, l1, y1, y1'⟩ := hx1 k hlt
      obtain ⟨xp2', xc2', e, -, hx2⟩ := HR2.out.below HB.out (Nat.le_refl _)
      cases e
      obtain ⟨m2, rfl, l2, y2, y2'⟩ := hx2 k hlt
      generalize (l.getD k (0, 0)).1 = px at y1 y2
      generalize (l.getD k (0, 0)).2 = py at y1' y2'
      clear hx1 hx2
      go_wp2_with fail
      go_quiet (fail)
      have HB2 : Hid (Below w.heap.size w (w1.drewN nq)) := (show Below _ _ _ from bDrewN HB.out)
      generalize w1.drewN nq = w2 at HB2 ⊢
      go_wp2_with fail
      go_roundw
      case rel => exact ⟨k + 1, by go_num, by omega, HB2.out⟩
      case measure => simp [intOf]; omega
    · skip
      obtain rfl : k = l.length := by omega
      go_wp2_with fail
      go_ret
      exact ⟨rfl, HB.out⟩
/-- Within the limits. -/
def grB (S : List LSh) (l : List LOb) : Bool := l.any (fun o => decide (5000 < o.code.length) || decide (100 < o.refs.length) || decide (40 < o.nm.size)) || (decide (10 < S.length) || decide (10 < l.length))
set_option maxHeartbeats 1600000 in
set_option maxRecDepth 20000 in
theorem great_any (sv lv : Value) (S : List LSh) (l : List LOb) (w : World) (hS : ShAt w sv S) (hL : ObsAt w lv l) (hll : l.length ≤ 9223372036854775807) :
    Calls Tryd.prog 5 #[sv, lv] w fun e w' => e = .returned (.bool (grB S l)) ∧ Below w.heap.size w w' := by
  obtain ⟨sp, sc, rfl⟩ := hS.shape
  have HL := Lib.hid hL
  have HML := Lib.hid hll
  obtain ⟨lp, lc, rfl⟩ := hL.shape
  clear hS hL hll
  go_enter Tryd.func5, Tryd.ntmps5
  go_wp2_with fail
  go_loopw [9] (fun s9 wx => ∃ k : Nat, s9 = .int .i64 k ∧ k ≤ l.length ∧ Hid ((l.take k).any (fun o => decide (5000 < o.code.length) || decide (100 < o.refs.length) || decide (40 < o.nm.size)) = false ∧ Below w.heap.size w wx)) (fun s9 _ => l.length - (intOf s9).toNat)
  case atStart => exact ⟨0, rfl, Nat.zero_le _, rfl, Below.refl _ _⟩
  case round =>
    obtain ⟨k, rfl, hk, HB⟩ := hrel
    obtain ⟨w1, rfl⟩ : ∃ W : World, W = wr := ⟨_, rfl⟩
    by_cases hlt : k < l.length
    · skip
      have hkI : (k : Int) < l.length := by omega
      have hww : IntKind.i64.wrap ((k : Int) + 1) = (k : Int) + 1 := IntWalk.i64_in _ ⟨by omega, by have := HML.out; omega⟩
      obtain ⟨lp', lc', e, hs⟩ := HL.out.below HB.out.2 (Nat.le_refl _)
      cases e
      obtain ⟨m, off, cv, rv, rfl, hm, ⟨z0, z1, z2, z3⟩, hgs, hrf⟩ := hs k hlt
      have HAN : Hid ((l.take (k + 1)).any (fun o => decide (5000 < o.code.length) || decide (100 < o.refs.length) || decide (40 < o.nm.size)) = (decide (5000 < (l.getD k default).code.length) || decide (100 < (l.getD k default).refs.length) || decide (40 < (l.getD k default).nm.size))) := (show _ = _ by rw [take_next l hlt, List.any_append, HB.out.1]; simp)
      have HGR : Hid ((decide (5000 < (l.getD k default).code.length) || decide (100 < (l.getD k default).refs.length) || decide (40 < (l.getD k default).nm.size)) = true → grB S l = true) := (show _ → _ from fun h => by
        unfold grB
        rw [Bool.or_eq_true]
        exact .inl (List.any_eq_true.2 ⟨_, mem_at2 l hlt, h⟩))
      obtain ⟨rp, rc, rfl⟩ := hrf.shape
      obtain ⟨cp, cc, rfl⟩ := hgs.shape
      generalize l.getD k default = ob at z0 z1 z2 z3 HAN HGR hgs hrf
      obtain ⟨nm, code, refs, dat⟩ := ob
      have HBA : Hid (Below w.heap.size w (w1.alloc (.cells #[.string nm, .slice cp code.length cc, .int .i64 dat, .slice rp refs.length rc] 38))) := (show Below _ _ _ from bAlloc HB.out.2.size HB.out.2)
      clear hs hgs hrf
      have z0 : w1.cell? ⟨m, off + k * 4, none⟩ = some (.string nm) := z0
      have z1 : w1.cell? ⟨m, off + k * 4 + 1, none⟩ = some (.slice cp code.length cc) := z1
      have z2 : w1.cell? ⟨m, off + k * 4 + 2, none⟩ = some (.int .i64 dat) := z2
      have z3 : w1.cell? ⟨m, off + k * 4 + 3, none⟩ = some (.slice rp refs.length rc) := z3
      have HAN : Hid ((l.take (k + 1)).any (fun o => decide (5000 < o.code.length) || decide (100 < o.refs.length) || decide (40 < o.nm.size)) = (decide (5000 < code.length) || decide (100 < refs.length) || decide (40 < nm.size))) := HAN
      have HGR : Hid ((decide (5000 < code.length) || decide (100 < refs.length) || decide (40 < nm.size)) = true → grB S l = true) := HGR
      by_cases h1 : (code.length : Int) > 5000
      · have HG := Lib.hid (HGR.out (by simp; omega))
        go_wp2_with fail
        go_ret
        exact ⟨by rw [HG.out]; rfl, HBA.out⟩
      · by_cases h2 : (refs.length : Int) > 100
        · have HG := Lib.hid (HGR.out (by simp; omega))
          go_wp2_with fail
          go_ret
          exact ⟨by rw [HG.out]; rfl, HBA.out⟩
        · by_cases h3 : (nm.size : Int) > 40
          · have HG := Lib.hid (HGR.out (by simp; omega))
            go_wp2_with fail
            go_ret
            exact ⟨by rw [HG.out]; rfl, HBA.out⟩
          · have HN : Hid ((l.take (k + 1)).any (fun o => decide (5000 < o.code.length) || decide (100 < o.refs.length) || decide (40 < o.nm.size)) = false) := (show _ = _ by rw [HAN.out]; simp; omega)
            go_wp2_with fail
            go_roundw
            case rel => exact ⟨k + 1, by go_num, by omega, HN.out, HBA.out⟩
            case measure => simp [intOf]; omega
    · skip
      obtain rfl : k = l.length := by omega
      have HG : Hid (grB S l = (decide (10 < S.length) || decide (10 < l.length))) := (show _ = _ by
        have h := HB.out.1
        rw [List.take_length] at h
        unfold grB
        rw [h, Bool.false_or])
      by_cases h1 : (S.length : Int) > 10
      · have HG2 : Hid (grB S l = true) := (show _ = _ by rw [HG.out]; simp; omega)
        go_wp2_with fail
        go_ret
        exact ⟨by rw [HG2.out]; rfl, HB.out.2⟩
      · by_cases h2 : (l.length : Int) > 10
        · have HG2 : Hid (grB S l = true) := (show _ = _ by rw [HG.out]; simp; omega)
          go_wp2_with fail
          go_ret
          exact ⟨by rw [HG2.out]; rfl, HB.out.2⟩
        · have HG2 : Hid (grB S l = false) := (show _ = _ by rw [HG.out]; simp; omega)
          go_wp2_with fail
          go_ret
          exact ⟨by rw [HG2.out]; rfl, HB.out.2⟩
end Go.Proofs.YtpachmkklppmjaaDoor
namespace Go.Proofs.YtpachmkklppmjaaDoor
open Go.RowKit

theorem dec_ex : decV (encV 20 2 3 0 4) = .tuple #[.agg #[.int .u8 20, .int .i64 2, .int .i64 3, .int .i64 0, .int .i64 4], .int .i64 0] := by
  rw [show encV 20 2 3 0 4 = 1351352324 by decide]
  unfold decV decR
  rw [if_pos (by decide)]
  rfl

theorem size_alloc1 (w : World) (o : Obj) : (w.alloc o).heap.size = w.heap.size + 1 := by simp
def exS : List LSh := [(⟨#[97]⟩, 3), (⟨#[98]⟩, 4)]
def exO : LOb := ⟨⟨#[116]⟩, [⟨20, 2, 3, 0, 1⟩, ⟨1, 0, 0, 0, 0⟩], [⟨0, ⟨#[98]⟩, false⟩], 0⟩
theorem ex_link : linkR exS [exO] = some ⟨[encV 20 2 3 0 4, 67108864], [⟨⟨#[116]⟩, 0, 2, 0⟩], 7, 2⟩ := by kernel_rfl
theorem ex_sym : symS exS = [(⟨#[97]⟩, 0, 0), (⟨#[98]⟩, 3, 1)] := by kernel_rfl
theorem link_ex (p4 p3 p0 p1 : Nat) (w : World) (hT : Tab w) (hA : RowC w p4 [.string ⟨#[97]⟩, .int .i64 3, .string ⟨#[98]⟩, .int .i64 4]) (hL : RowC w p3 [.string ⟨#[116]⟩, .slice (some ⟨p0, 0, none⟩) 2 2, .int .i64 0, .slice (some ⟨p1, 0, none⟩) 1 1])
    (hC : RowC w p0 [.int .u8 20, .int .i64 2, .int .i64 3, .int .i64 0, .int .i64 1, .int .u8 1, .int .i64 0, .int .i64 0, .int .i64 0, .int .i64 0]) (hR : RowC w p1 [.int .i64 0, .string ⟨#[98]⟩, .bool false]) :
    Calls Tryd.prog 6 #[.slice (some ⟨p4, 0, none⟩) 2 2, .slice (some ⟨p3, 0, none⟩) 1 1] w fun e w' => ∃ g1 o1 c1 g2 c2 pe qe,
      e = .returned (.tuple #[.agg #[.slice (some ⟨g1, o1, none⟩) 2 c1, .slice pe 1 qe, .int .i64 7, .int .i64 2], .slice (some ⟨g2, 0, none⟩) 2 c2, .int .i64 0]) ∧ g1 < w'.heap.size ∧ g2 < w'.heap.size ∧ w'.cell? ⟨g1, o1, none⟩ = some (.int .u32 (encV 20 2 3 0 4)) ∧
      w'.cell? ⟨g2, 3, none⟩ = some (.string ⟨#[98]⟩) ∧ w'.cell? ⟨g2, 4, none⟩ = some (.int .i64 3) ∧ w'.cell? ⟨g2, 5, none⟩ = some (.int .i64 1) ∧ Below w.heap.size w w' := by
  have hS : ShAt w (.slice (some ⟨p4, 0, none⟩) 2 2) exS := ⟨_, _, rfl, fun k hk => ⟨p4, 0, rfl, hA.lt, by
    match k, hk with
    | 0, _ => exact ⟨hA.at 0 rfl, hA.at 1 rfl⟩
    | 1, _ => exact ⟨hA.at 2 rfl, hA.at 3 rfl⟩⟩⟩
  have hO : ObsAt w (.slice (some ⟨p3, 0, none⟩) 1 1) [exO] := ⟨_, _, rfl, fun k hk => by
    match k, hk with
    | 0, _ => exact ⟨p3, 0, _, _, rfl, hL.lt, ⟨hL.at 0 rfl, hL.at 1 rfl, hL.at 2 rfl, hL.at 3 rfl⟩, ⟨_, _, rfl, .inr ⟨p0, 0, rfl, hC.lt, fun j u hj => by rw [Nat.zero_add]; exact hC.2 j u hj⟩⟩, ⟨_, _, rfl, Nat.le_refl _, .inr ⟨p1, 0, rfl, hR.lt, fun j u hj => by rw [Nat.zero_add]; exact hR.2 j u hj⟩⟩⟩⟩
  have hF : LFit exS [exO] := ⟨fun k hk => by
      match k, hk with
      | 0, _ => decide
      | 1, _ => decide, fun k hk => by
      match k, hk with
      | 0, _ => decide, fun k hk j hj => by
      match k, hk, j, hj with
      | 0, _, 0, _ => decide⟩
  refine (link_any _ _ exS [exO] w hT hS hO hF (by decide) (by decide) (fun k hk => by
    match k, hk with
    | 0, _ => decide) (fun k hk => by
    match k, hk with
    | 0, _ => decide)).mono ?_
  rintro e w' ⟨hb, h⟩
  rw [ex_link, ex_sym] at h
  obtain ⟨imv, lv, rfl, ⟨⟨cp, ccap, ep, ecap, rfl, hc, _⟩, _, _⟩, ⟨p, cap, rfl, hs⟩⟩ := h
  obtain ⟨cb, co, rfl, hcb, hc⟩ := hc.resolve_left (by intro h; cases h)
  obtain ⟨m, e, hm, hx⟩ := hs 1 (by decide)
  cases e
  exact ⟨cb, co, ccap, m, cap, ep, ecap, rfl, hcb, hm, hc 0 (by decide), hx 0 _ (by decide) rfl, hx 1 _ (by decide) rfl, hx 2 _ (by decide) rfl, hb⟩

set_option maxHeartbeats 3200000 in
set_option maxRecDepth 20000 in
theorem awake22 (w : World) (hT : Tab w) : Calls Tryd.prog 4 #[] w fun e w' => e = .returned (.bool true) ∧ Below w.heap.size w w' := by
  obtain ⟨cC, hcC⟩ : ∃ o : Obj, o = .cells #[.int .u8 20, .int .i64 2, .int .i64 3, .int .i64 0, .int .i64 1, .int .u8 1, .int .i64 0, .int .i64 0, .int .i64 0, .int .i64 0] 51 := ⟨_, rfl⟩
  obtain ⟨cR, hcR⟩ : ∃ o : Obj, o = .cells #[.int .i64 0, .string ⟨#[98]⟩, .bool false] 53 := ⟨_, rfl⟩
  obtain ⟨cO, hcO⟩ : ∃ o : Obj, o = .cells #[.string ⟨#[116]⟩, .slice (some ⟨w.heap.size, 0, none⟩) 2 2, .int .i64 0, .slice (some ⟨w.heap.size + 1, 0, none⟩) 1 1] 38 := ⟨_, rfl⟩
  obtain ⟨cA, hcA⟩ : ∃ o : Obj, o = .cells #[.string ⟨#[97]⟩, .int .i64 3, .string ⟨#[98]⟩, .int .i64 4] 55 := ⟨_, rfl⟩
  have hC : RowC (((((w.alloc cC).alloc cR).alloc cO).alloc cA).alloc cO) w.heap.size _ := ((((hcC ▸ RowC.made w [.int .u8 20, .int .i64 2, .int .i64 3, .int .i64 0, .int .i64 1, .int .u8 1, .int .i64 0, .int .i64 0, .int .i64 0, .int .i64 0] 51 : RowC (w.alloc cC) w.heap.size [.int .u8 20, .int .i64 2, .int .i64 3, .int .i64 0, .int .i64 1, .int .u8 1, .int .i64 0, .int .i64 0, .int .i64 0, .int .i64 0]).alloc cR).alloc cO).alloc cA).alloc cO
  have hR : RowC (((((w.alloc cC).alloc cR).alloc cO).alloc cA).alloc cO) (w.heap.size + 1) [.int .i64 0, .string ⟨#[98]⟩, .bool false] := by
    have h := ((((hcR ▸ RowC.made (w.alloc cC) [.int .i64 0, .string ⟨#[98]⟩, .bool false] 53 : RowC ((w.alloc cC).alloc cR) (w.alloc cC).heap.size [.int .i64 0, .string ⟨#[98]⟩, .bool false]).alloc cO).alloc cA).alloc cO)
    simpa only [size_alloc1] using h
  have hA : RowC (((((w.alloc cC).alloc cR).alloc cO).alloc cA).alloc cO) (w.heap.size + 1 + 1 + 1) [.string ⟨#[97]⟩, .int .i64 3, .string ⟨#[98]⟩, .int .i64 4] := by
    have h := (hcA ▸ RowC.made (((w.alloc cC).alloc cR).alloc cO) [.string ⟨#[97]⟩, .int .i64 3, .string ⟨#[98]⟩, .int .i64 4] 55 : RowC ((((w.alloc cC).alloc cR).alloc cO).alloc cA) (((w.alloc cC).alloc cR).alloc cO).heap.size [.string ⟨#[97]⟩, .int .i64 3, .string ⟨#[98]⟩, .int .i64 4]).alloc cO
    simpa only [size_alloc1] using h
  have hL : RowC (((((w.alloc cC).alloc cR).alloc cO).alloc cA).alloc cO) (w.heap.size + 1 + 1 + 1 + 1) [.string ⟨#[116]⟩, .slice (some ⟨w.heap.size, 0, none⟩) 2 2, .int .i64 0, .slice (some ⟨w.heap.size + 1, 0, none⟩) 1 1] := by
    have h := (hcO ▸ RowC.made ((((w.alloc cC).alloc cR).alloc cO).alloc cA) [.string ⟨#[116]⟩, .slice (some ⟨w.heap.size, 0, none⟩) 2 2, .int .i64 0, .slice (some ⟨w.heap.size + 1, 0, none⟩) 1 1] 38 : RowC (((((w.alloc cC).alloc cR).alloc cO).alloc cA).alloc cO) ((((w.alloc cC).alloc cR).alloc cO).alloc cA).heap.size [.string ⟨#[116]⟩, .slice (some ⟨w.heap.size, 0, none⟩) 2 2, .int .i64 0, .slice (some ⟨w.heap.size + 1, 0, none⟩) 1 1])
    simpa only [size_alloc1] using h
  have hB : Below w.heap.size w (((((w.alloc cC).alloc cR).alloc cO).alloc cA).alloc cO) := bAlloc (by simp; omega) (bAlloc (by simp; omega) (bAlloc (by simp; omega) (bAlloc (by simp) (bAlloc (Nat.le_refl _) (Below.refl _ _)))))
  have HL := Lib.hid (link_ex _ _ _ _ _ (hT.of_below hB) hA hL hC hR)
  have HB := Lib.hid hB
  have HT := Lib.hid hT
  clear hA hL hC hR hB hT
  subst hcC hcR hcO hcA
  go_enter Tryd.func4, Tryd.ntmps4
  go_wp2_with fail
  refine HL.out.mono ?_
  rintro e w1 ⟨g1, o1, c1, g2, c2, pe, qe, rfl, hg1, hg2, x0, s0, s1, s2, hb⟩
  have HB1 := Lib.hid (HB.out.trans (hb.mono HB.out.size))
  clear HL HB hb
  obtain ⟨x, hx⟩ : ∃ x, x = encV 20 2 3 0 4 := ⟨_, rfl⟩
  have HX := Lib.hid hx
  rw [← hx] at x0
  have HD := Lib.hid (decode_any x (w1.alloc (.cells #[.slice (some ⟨g1, o1, none⟩) 2 c1, .slice pe 1 qe, .int .i64 7, .int .i64 2] 30)) (by rw [hx]; decide) (by rw [hx]; decide) (HT.out.of_below (bAlloc HB1.out.size HB1.out)))
  clear hx
  go_wp2_with fail
  refine HD.out.mono ?_
  rintro e w2 ⟨rfl, hb2⟩
  rw [HX.out, dec_ex]
  have b2 : w2.cell? ⟨w1.heap.size, 2, none⟩ = some (.int .i64 7) := (hb2.cell (p := ⟨w1.heap.size, 2, none⟩) (by simp)).trans (by simp [go_sem])
  have b3 : w2.cell? ⟨w1.heap.size, 3, none⟩ = some (.int .i64 2) := (hb2.cell (p := ⟨w1.heap.size, 3, none⟩) (by simp)).trans (by simp [go_sem])
  have hz : w1.heap.size < w2.heap.size := by have := hb2.size; simp at this; omega
  have HB2 := Lib.hid (HB1.out.trans ((show Below w.heap.size w1 (w1.alloc (.cells #[.slice (some ⟨g1, o1, none⟩) 2 c1, .slice pe 1 qe, .int .i64 7, .int .i64 2] 30)) from bAlloc HB1.out.size (Below.refl _ _)).trans (hb2.mono (by have := HB1.out.size; simp; omega))))
  clear hb2 x0 s0 s1 s2 hg1 hg2 HD
  go_wp2_with fail
  go_ret
  exact ⟨rfl, bAlloc (by have := HB2.out.size; omega) HB2.out⟩
end Go.Proofs.YtpachmkklppmjaaDoor
