import Derived.Test.YtlajdcikhbocdaaDoorMgA
import Derived.IntWalk
import Derived.Maps.OwnSet
/- The neighbors of every node: regalloc.graph, by its contract. -/
set_option linter.unusedVariables false
set_option linter.unusedSimpArgs false
namespace Go.Proofs.YtlajdcikhbocdaaDoor
open Go.RowKit

theorem Rows.inplace {D : Nat → Prop} {w w' : World} {g n : Nat} {V : Nat → Value} {X : Nat → List Int} (h : Rows D w g n V X) {a : Nat} (ha : a < n) (hb : ∀ k, k < w.heap.size → (V a).ownBlock ≠ some k → w'.heap[k]? = w.heap[k]?)
    {xs : List Int} (hv : w'.ownsRow 0 3 1 (V a) xs.length (xs.map (Value.int .i64))) : Rows D w' g n V (upd X a xs) := by
  refine ⟨h.out.of_block (hb g h.out.lt (h.ne a ha)), fun i hi => ?_, h.ne, h.ap, h.dg, h.dom⟩
  by_cases e : i = a
  · subst e; rw [upd_same]; exact hv
  · rw [upd_ne _ _ e]
    exact own0_block (h.row i hi) fun k hk => hb k (own0_lt (h.row i hi) hk) (fun e3 => h.ap i a hi ha e k hk e3)
theorem Rows.values {D : Nat → Prop} {w : World} {g n : Nat} {V U : Nat → Value} {X : Nat → List Int} (h : Rows D w g n V X) (hU : ∀ i, i < n → V i = U i) : Rows D w g n U X :=
  ⟨h.out.congr hU, fun i hi => by rw [← hU i hi]; exact h.row i hi, fun i hi => by rw [← hU i hi]; exact h.ne i hi, fun i j hi hj hij k => by rw [← hU i hi, ← hU j hj]; exact h.ap i j hi hj hij k, h.dg, fun i hi k => by rw [← hU i hi]; exact h.dom i hi k⟩

/-- The first j entries of a row that are other nodes. -/
def filt (e : List (List Int)) (a j : Nat) : List Int := ((e.getD a []).take j).filter (fun b => decide (0 ≤ b ∧ b < (e.length : Int) ∧ b ≠ (a : Int)))
theorem filt_zero (e : List (List Int)) (a : Nat) : filt e a 0 = [] := by simp [filt]
theorem filt_end (e : List (List Int)) (a : Nat) : filt e a (e.getD a []).length = own0 e a := by unfold filt own0; rw [List.take_length]
theorem filt_next (e : List (List Int)) (a j : Nat) (hj : j < (e.getD a []).length) (y : Int) (hy : (e.getD a []).getD j 0 = y) : filt e a (j+1) = if 0 ≤ y ∧ y < (e.length : Int) ∧ y ≠ (a : Int) then filt e a j ++ [y] else filt e a j := by
  unfold filt
  have hy' : (e.getD a [])[j] = y := by rw [List.getD_eq_getElem?_getD, List.getElem?_eq_getElem hj] at hy; exact hy
  rw [List.take_succ_eq_append_getElem hj, hy', List.filter_append]
  by_cases h : 0 ≤ y ∧ y < (e.length : Int) ∧ y ≠ (a : Int)
  · rw [if_pos h, List.filter_cons_of_pos (by simpa using h)]; rfl
  · rw [if_neg h, List.filter_cons_of_neg (by simpa using h)]; simp
theorem filt_len (e : List (List Int)) (a j : Nat) : (filt e a j).length ≤ (e.getD a []).length := Nat.le_trans (List.length_filter_le _ _) (by rw [List.length_take]; omega)
theorem own1_len (e : List (List Int)) (a : Nat) : (own1 e a).length ≤ e.length := by
  unfold own1 upI
  rw [List.length_map]
  exact Nat.le_trans (List.length_filter_le _ _) (by simp)
theorem mis_len (e : List (List Int)) (a j b : Nat) : (mis e a j b).length ≤ a + 1 := by
  unfold mis upI
  rw [List.length_append, List.length_map]
  have h := List.length_filter_le (fun c => P1 e c b && !P1 e b c) (List.range a)
  rw [List.length_range] at h
  split
  · simp; omega
  · simp; omega

theorem bin_none (p : Option Addr) (x : Int) (cap : Nat) (w : World) : Calls Tryd.prog 79 #[.slice p 0 cap, .int .i64 x] w fun r w' => ∃ i, r = .returned (.tuple #[.int .i64 i, .bool false]) ∧ ∃ q, w' = w.drewN q := by
  go_enter Tryd.func79, Tryd.ntmps79
  go_wp2_with fail
  refine wp_loop_rounds 1 ?_
  rw [rounds_succ]
  go_wp2_with fail
  first
    | (go_ret2; exact ⟨_, rfl, 0, rfl⟩)
    | (go_ret; exact ⟨_, rfl, 0, rfl⟩)
theorem bin_any (v : Value) (xs : List Int) (x : Int) (w : World) (h : RdI w v xs) (hl : xs.length ≤ 1000000) (hs : xs.Pairwise (· < ·)) :
    Calls Tryd.prog 79 #[v, .int .i64 x] w fun r w' => ∃ i, r = .returned (.tuple #[.int .i64 i, .bool (xs.contains x)]) ∧ ∃ q, w' = w.drewN q := by
  obtain ⟨p, cap, rfl, hc⟩ := h
  by_cases h0 : xs.length = 0
  · have hx : xs = [] := List.length_eq_zero_iff.1 h0
    subst hx
    exact bin_none p x cap w
  · obtain ⟨m, off, rfl, hm, hx⟩ := hc 0 (by omega)
    refine (Tryd.slices_BinarySearch_int m off xs.length cap xs x w (Nat.le_refl _) (by omega) (fun j hj => ?_) (by rw [List.take_length]; exact hs.imp (fun h => by omega))).mono ?_
    · obtain ⟨m', off', e, _, hx⟩ := hc j hj
      cases e
      exact hx
    · rintro r w' ⟨rfl, q, rfl⟩
      rw [List.take_length]
      exact ⟨_, rfl, q, rfl⟩

/-- An element is appended to a row (a block is laid for it), and the row stored. -/
theorem Rows.pushed {D : Nat → Prop} {w w3 : World} {g n : Nat} {V : Nat → Value} {X : Nat → List Int} (h : Rows D w g n V X) {a : Nat} (ha : a < n) {o : Obj} (hg : (w.alloc o).grownBy w3 (V a).ownBlock) {v : Value} {xs : List Int}
    (hv : w3.ownsRow 0 3 1 v xs.length (xs.map (Value.int .i64))) (hk : v.ownBlock = (V a).ownBlock ∨ ∀ k, v.ownBlock = some k → (w.alloc o).heap.size ≤ k) (hD : ∀ k, w.heap.size ≤ k → D k) :
    Rows D (w3.setCell ⟨g, a, none⟩ v) g n (upd V a v) (upd X a xs) := by
  have hs := hg.size
  have hsz : (w.alloc o).heap.size = w.heap.size + 1 := by simp
  refine h.set ha (fun k hk hne => ?_) (by omega) hv (hk.imp id fun h k hk => by have := h k hk; omega) hD
  rw [hg.block k (by omega) (fun e => hne e.symm), Below.heap_alloc _ _ _ hk]
theorem Rows.pushed_below {B : Nat} {w0 w w3 : World} {g n : Nat} {V : Nat → Value} {X : Nat → List Int} {D : Nat → Prop} (h : Rows D w g n V X) {a : Nat} (ha : a < n) {o : Obj} (hg : (w.alloc o).grownBy w3 (V a).ownBlock) (hb : Below B w0 w) (hB : B ≤ w.heap.size) (hD : ∀ k, D k → B ≤ k) (u : Value) :
    Below B w0 (w3.setCell ⟨g, a, none⟩ u) :=
  bSet (hD g h.dg) (Below.grown (bAlloc hB hb) hg (by simp; omega) fun k hk => hD k (h.dom a ha k hk))
theorem Rows.pushed_out {D : Nat → Prop} {w w3 : World} {g n : Nat} {V : Nat → Value} {X : Nat → List Int} (h : Rows D w g n V X) {a : Nat} (ha : a < n) {o : Obj} (hg : (w.alloc o).grownBy w3 (V a).ownBlock) : w3.rowIs g 37 n V ∧ w.heap.size < w3.heap.size := by
  have hs := hg.size
  have hsz : (w.alloc o).heap.size = w.heap.size + 1 := by simp
  refine ⟨h.out.of_block ?_, by omega⟩
  rw [hg.block g (by have := h.out.lt; omega) (fun e => h.ne a ha e.symm), Below.heap_alloc _ _ _ h.out.lt]

theorem add_none0 (m off j : Nat) : (⟨m, off, none⟩ : Addr).add j = ⟨m, off + j, none⟩ := by unfold Addr.add; split <;> simp_all
/-- graph's contract. -/
def GraphPost (e : List (List Int)) (w : World) (r : Ending) (w' : World) : Prop :=
  ∃ g V, r = .returned (.slice (some ⟨g, 0, none⟩) e.length e.length) ∧ Rows (fun k => w.heap.size ≤ k) w' g e.length V (nbI e) ∧ Below w.heap.size w w'

set_option maxHeartbeats 6400000 in
set_option maxRecDepth 20000 in
theorem graph_any (v : Value) (e : List (List Int)) (w : World) (h : RdR w v e) (hm : RowsMax e 5000) (hn : e.length ≤ 1000) : Calls Tryd.prog 64 #[v] w (GraphPost e w) := by
  obtain ⟨p, cap, rfl⟩ := h.shape
  have HR := Lib.hid h
  have HM := Lib.hid hm
  clear h hm
  have hmkR := run_make_row' (P := Tryd.prog) 88 37 (.slice none 0 0) 24 Tryd.underlying88 infoL rfl .i64 .i64 e.length (by omega) (by omega)
  go_enter Tryd.func64, Tryd.ntmps64
  go_wp2_with fail
  go_loopw [24] (fun s24 wr => ∃ (k : Nat) (V : Nat → Value), s24 = .int .i64 k ∧ k ≤ e.length ∧ Hid (Rows (fun b => w.heap.size ≤ b) wr w.heap.size e.length V (fun i => if i < k then own1 e i else [])) ∧ Hid (Below w.heap.size w wr)) (fun s24 _ => e.length - (intOf s24).toNat)
  case atStart => exact ⟨0, _, rfl, Nat.zero_le _, (Rows.made w e.length (Nat.le_refl _)).congr (fun i _ => by rw [if_neg (by omega)]), bAlloc (Nat.le_refl _) (Below.refl _ _)⟩
  case round =>
    obtain ⟨k, V, rfl, hk, HW, HB⟩ := hrel
    obtain ⟨w1, rfl⟩ : ∃ W : World, W = wr := ⟨_, rfl⟩
    have hsz1 := HW.out.out.lt
    by_cases hlt : k < e.length
    · have hltI : (k : Int) < e.length := by omega
      obtain ⟨m1, o1, cap', q, c, e1, hm1, hx0, hr1⟩ := HR.out.row k hlt
      injection e1 with e1 e2 e3
      subst e1 e3
      have hx1 := (HB.out.cell (p := ⟨m1, o1 + k, none⟩) hm1).trans hx0
      have hml := HM.out k
      have HNX := Lib.hid (filt_next e k)
      have HE := Lib.hid (filt_end e k)
      have HL := Lib.hid (filt_len e k)
      generalize e.getD k [] = row at hx0 hx1 hr1 hml HNX HE HL
      have HROW := Lib.hid hr1
      clear hr1 hx0
      go_wp2_with fail
      go_loopw [31] (fun s31 wx => ∃ (j : Nat) (U : Nat → Value), s31 = .int .i64 j ∧ j ≤ row.length ∧ Hid (Rows (fun b => w.heap.size ≤ b) wx w.heap.size e.length U (upd (fun i => if i < k then own1 e i else []) k (filt e k j))) ∧ Hid (Below w.heap.size w wx)) (fun s31 _ => row.length - (intOf s31).toNat)
      case atStart =>
        refine ⟨0, V, rfl, Nat.zero_le _, HW.out.congr fun i _ => ?_, HB⟩
        rw [filt_zero]
        by_cases e1 : i = k
        · subst e1; rw [upd_same, if_neg (by omega)]
        · rw [upd_ne _ _ e1]
      case round =>
        obtain ⟨j, U, rfl, hj, HU, HBx⟩ := hrel
        obtain ⟨w2, rfl⟩ : ∃ W : World, W = wr := ⟨_, rfl⟩
        have hsz2 := HU.out.out.lt
        have hfz2 : w2.frozen? ⟨w.heap.size, k, none⟩ = false := HU.out.out.frozen k
        by_cases hlt2 : j < row.length
        · have hltJ : (j : Int) < row.length := by omega
          obtain ⟨q2, c2, hV2, hcl2⟩ := HU.out.cell hlt
          rw [upd_same] at hV2 hcl2
          have ho := HU.out.row k hlt
          rw [upd_same, hV2] at ho
          have HO := Lib.hid ho
          have HV := Lib.hid hV2
          have hfl := HL.out j
          clear ho hV2
          obtain ⟨m2, o2, cc, e1, hm2, hy0⟩ := rdI_at (HROW.out.below HBx.out (Nat.le_refl _)) j hlt2
          injection e1 with e1 e2 e3
          subst e1 e3
          have hnx := HNX.out j hlt2 _ rfl
          generalize row.getD j 0 = y at hy0 hnx
          by_cases hy : 0 ≤ y ∧ y < (e.length : Int) ∧ y ≠ (k : Int)
          · rw [if_pos hy] at hnx
            have HN := Lib.hid hnx
            obtain ⟨y1, y2, y3⟩ := hy
            have y4 : (y != (k : Int)) = true := by simpa using y3
            clear hnx
            go_wp2_with (first | (at_builtin; refine wpList_append_one rfl _ _ rfl 0 _ (filt e k j) rfl (HO.out.alloc _) _ _ (y) rfl (by simp [go_sem]) (by omega) (Nat.zero_le _) ?_))
            intro p3 c3 w3 hO3 hg3 hd3
            have hg4 : (w2.alloc (.cells #[Value.int .i64 y] 3)).grownBy w3 (U k).ownBlock := by rw [HV.out]; exact hg3
            obtain ⟨hR3, hs3⟩ := HU.out.pushed_out hlt hg4
            have hfz3 : w3.frozen? ⟨w.heap.size, k, none⟩ = false := hR3.frozen k
            have hcl3 : w3.cell? ⟨w.heap.size, k, none⟩ = some (U k) := hR3.cell hlt
            have HG := Lib.hid hg4
            have HO3 := Lib.hid hO3
            have HD3 := Lib.hid hd3
            clear hg3 hg4 hO3 hd3 hR3
            go_wp2_with fail
            go_roundw
            case rel =>
              refine ⟨j + 1, upd U k (.slice p3 ((filt e k j).length + 1) c3), by go_num, by omega, (HU.out.pushed hlt HG.out (xs := filt e k j ++ [y]) (by simpa using HO3.out) (by rw [HV.out]; exact HD3.out.imp id fun h b hb => by have := h b hb; simp; omega) (fun b hb => by omega)).congr fun i _ => ?_, HU.out.pushed_below hlt HG.out HBx.out HBx.out.size (fun b hb => hb) _⟩
              by_cases e1 : i = k
              · subst e1; rw [upd_same, upd_same, HN.out]
              · rw [upd_ne _ _ e1, upd_ne _ _ e1, upd_ne _ _ e1]
            case measure => simp [intOf]; omega
          · rw [if_neg hy] at hnx
            have HN := Lib.hid hnx
            have hy2 : y < 0 ∨ (0 ≤ y ∧ ¬ y < (e.length : Int)) ∨ (0 ≤ y ∧ y < (e.length : Int) ∧ y = (k : Int)) := by omega
            clear hnx hy
            rcases hy2 with h1 | ⟨h1, h2⟩ | ⟨h1, h2, h3⟩
            all_goals (
              try subst h3
              go_wp2_with fail
              go_roundw
              case rel => exact ⟨j + 1, U, by go_num, by omega, HU.out.congr (fun i _ => by rw [HN.out]), HBx⟩
              case measure => simp [intOf]; omega)
        · have hjl : j = row.length := by omega
          subst hjl
          have hu := HU.out
          rw [HE.out] at hu
          obtain ⟨q2, c2, hV2, hcl2⟩ := hu.cell hlt
          have ho := hu.row k hlt
          rw [upd_same] at hV2 hcl2
          rw [upd_same, hV2] at ho
          have hol : (own0 e k).length ≤ 5000 := by rw [← HE.out]; exact Nat.le_trans (HL.out _) hml
          have HS := Lib.hid (sort_row w2 _ (own0 e k) ho (by omega))
          have HU2 := Lib.hid hu
          have HV := Lib.hid hV2
          rw [HE.out] at HU
          clear hu ho hV2
          go_wp2_with fail
          refine HS.out.mono ?_
          rintro r w3 ⟨rfl, hO3, hg3⟩
          have hu3 : Rows (fun b => w.heap.size ≤ b) w3 w.heap.size e.length U (upd (upd (fun i => if i < k then own1 e i else []) k (own0 e k)) k (sortI (own0 e k))) := HU2.out.inplace hlt (fun b hb hne => hg3.block b hb (fun e => hne (by rw [HV.out]; exact e.symm))) (by rw [HV.out]; exact hO3)
          have hB3 : Below w.heap.size w w3 := HBx.out.grown hg3 HBx.out.size (fun b hb => HU2.out.dom k hlt b (by rw [HV.out]; exact hb))
          have hcl3 : w3.cell? ⟨w.heap.size, k, none⟩ = some (.slice q2 (own0 e k).length c2) := by rw [hu3.out.cell hlt, HV.out]
          have hsz3 := hu3.out.lt
          have hc3 := compact_row w3 _ (sortI (own0 e k)) hO3 (by rw [sortI_len]; omega)
          simp only [own1_eq] at hc3
          have HC := Lib.hid hc3
          have HU3 := Lib.hid hu3
          have HB3 := Lib.hid hB3
          clear HS hO3 hg3 hu3 hB3 hc3 hcl2 hfz2 hsz2 HU2 HU
          go_wp2_with fail
          refine HC.out.mono ?_
          rintro r w4 ⟨q4, c4, rfl, hO4, hg4, hob⟩
          have hne4 : w4.heap[w.heap.size]? = w3.heap[w.heap.size]? := hg4.block _ hsz3 (fun e => HU3.out.ne k hlt (by rw [HV.out]; exact e.symm))
          have hR4 := HU3.out.out.of_block hne4
          have hfz4 : w4.frozen? ⟨w.heap.size, k, none⟩ = false := hR4.frozen k
          have hcl4 : w4.cell? ⟨w.heap.size, k, none⟩ = some (U k) := hR4.cell hlt
          have hsz4 := hR4.lt
          have hu4 := HU3.out.set hlt (w' := w4) (fun b hb hne => hg4.block b hb (fun e => hne (by rw [HV.out]; exact e.symm))) hg4.size hO4 (.inl (by rw [HV.out]; exact hob)) (fun b hb => by have := HB3.out.size; omega)
          have HU4 := Lib.hid hu4
          have HB4 := Lib.hid (HB3.out.grown hg4 HB3.out.size (fun b hb => HU3.out.dom k hlt b (by rw [HV.out]; exact hb)))
          clear HC hO4 hg4 hne4 hR4 hu4 hcl3 hsz3 HU3 HB3
          go_wp2_with fail
          go_roundw
          case rel =>
            refine ⟨k + 1, _, by go_num, by omega, HU4.out.congr fun i _ => ?_, bSet (Nat.le_refl _) HB4.out⟩
            by_cases e1 : i = k
            · subst e1; rw [upd_same, if_pos (by omega)]
            · rw [upd_ne _ _ e1, upd_ne _ _ e1, upd_ne _ _ e1]
              by_cases e2 : i < k
              · rw [if_pos e2, if_pos (by omega)]
              · rw [if_neg e2, if_neg (by omega)]
          case measure => simp [intOf]; omega
    · have hw1 := HW.out.congr (Y := own1 e) fun i hi => by rw [if_pos (by omega)]
      have HW1 := Lib.hid hw1
      clear hw1 HW
      go_wp2_with fail
      go_loopw [76] (fun s76 wr => ∃ (k : Nat) (M : Nat → Value), s76 = .int .i64 k ∧ k ≤ e.length ∧ Hid (Rows (fun b => w1.heap.size ≤ b) wr w1.heap.size e.length M (mis e k 0)) ∧ Hid (Below w1.heap.size w1 wr)) (fun s76 _ => e.length - (intOf s76).toNat)
      case atStart => exact ⟨0, _, rfl, Nat.zero_le _, (Rows.made w1 e.length (Nat.le_refl _)).congr (fun i _ => (mis_start e i).symm), bAlloc (Nat.le_refl _) (Below.refl _ _)⟩
      case round =>
        obtain ⟨k2, M, rfl, hk2, HM2, HB2⟩ := hrel
        obtain ⟨w2, rfl⟩ : ∃ W : World, W = wr := ⟨_, rfl⟩
        have hsz2 := HM2.out.out.lt
        by_cases hlt2 : k2 < e.length
        · have hltI : (k2 : Int) < e.length := by omega
          obtain ⟨q, c, hVk, hclk⟩ := (HW1.out.below HB2.out).cell hlt2
          have hgs2 := (HW1.out.below HB2.out).out.lt
          have HVk := Lib.hid hVk
          have hml := own1_len e k2
          clear hVk
          have HNat := Lib.hid (own1_nat e k2)
          have HNx := Lib.hid (mis_next e k2)
          have HRow := Lib.hid (fun b hb => mis_row e k2 b hb)
          have HRd := Lib.hid (fun (W : World) (hb : Below w1.heap.size w1 W) => (show RdI W (.slice q (own1 e k2).length c) (own1 e k2) from HVk.out ▸ RdI.of_own ((HW1.out.below hb).row k2 hlt2)))
          generalize own1 e k2 = row at hclk HVk hml HNat HNx HRow HRd
          go_wp2_with fail
          go_loopw [83] (fun s83 wx => ∃ (j : Nat) (U : Nat → Value), s83 = .int .i64 j ∧ j ≤ row.length ∧ Hid (Rows (fun b => w1.heap.size ≤ b) wx w1.heap.size e.length U (mis e k2 j)) ∧ Hid (Below w1.heap.size w1 wx)) (fun s83 _ => row.length - (intOf s83).toNat)
          case atStart => exact ⟨0, M, rfl, Nat.zero_le _, HM2, HB2⟩
          case round =>
            obtain ⟨j, U, rfl, hj, HU, HBx⟩ := hrel
            obtain ⟨w3, rfl⟩ : ∃ W : World, W = wr := ⟨_, rfl⟩
            have hsz3 := HU.out.out.lt
            by_cases hlt3 : j < row.length
            · have hltJ : (j : Int) < row.length := by omega
              obtain ⟨m2, o2, cc, e1, hm2, hy0⟩ := rdI_at (HRd.out w3 HBx.out) j hlt3
              injection e1 with e1 e2 e3
              subst e1 e3
              obtain ⟨b, hb, hbn, -⟩ := HNat.out j hlt3
              have HNb := Lib.hid (HNx.out j b hlt3 hb)
              rw [hb] at hy0
              clear hb
              have hbI : (b : Int) < e.length := by omega
              have hOw := HW1.out.below HBx.out
              have hgs3 := hOw.out.lt
              obtain ⟨qb, cb, hVb, hclb⟩ := hOw.cell hbn
              have hbin := bin_any _ (own1 e b) (k2 : Int) w3 (hVb ▸ RdI.of_own (hOw.row b hbn)) (by have := own1_len e b; omega) (own1_lt e b)
              rw [mem_own1 e b k2 hlt2] at hbin
              have HBin := Lib.hid hbin
              clear hbin hOw hVb
              go_wp2_with fail
              refine HBin.out.mono ?_
              rintro r w4 ⟨i0, rfl, nq, hw4⟩
              have hu4 : Rows (fun b => w1.heap.size ≤ b) w4 w1.heap.size e.length U (mis e k2 j) := by rw [hw4]; exact HU.out.keep fun _ _ _ => rfl
              have hb4 : Below w1.heap.size w1 w4 := by rw [hw4]; exact bDrewN HBx.out
              have hsz4 := hu4.out.lt
              have HU4 := Lib.hid hu4
              have HB4 := Lib.hid hb4
              clear HBin hw4 hu4 hb4 hclb hgs3
              generalize P1 e b k2 = pb at HNb ⊢
              cases pb
              · obtain ⟨q5, c5, hV5, hcl5⟩ := HU4.out.cell hbn
                have ho := HU4.out.row b hbn
                rw [hV5] at ho
                have HO := Lib.hid ho
                have HV := Lib.hid hV5
                have hfl := mis_len e k2 j b
                clear ho hV5
                go_wp2_with (first | (at_builtin; refine wpList_append_one rfl _ _ rfl 0 _ (mis e k2 j b) rfl (HO.out.alloc _) _ _ (k2 : Int) rfl (by simp [go_sem]) (by omega) (Nat.zero_le _) ?_))
                intro p5 c6 w5 hO5 hg5 hd5
                have hg6 : (w4.alloc (.cells #[Value.int .i64 k2] 3)).grownBy w5 (U b).ownBlock := by rw [HV.out]; exact hg5
                obtain ⟨hR5, hs5⟩ := HU4.out.pushed_out hbn hg6
                have hfz5 : w5.frozen? ⟨w1.heap.size, b, none⟩ = false := hR5.frozen b
                have hcl6 : w5.cell? ⟨w1.heap.size, b, none⟩ = some (U b) := hR5.cell hbn
                have HG := Lib.hid hg6
                have HO5 := Lib.hid hO5
                have HD5 := Lib.hid hd5
                clear hg5 hg6 hO5 hd5 hR5
                go_wp2_with fail
                go_roundw
                case rel =>
                  refine ⟨j + 1, upd U b (.slice p5 ((mis e k2 j b).length + 1) c6), by go_num, by omega, (HU4.out.pushed hbn HG.out (xs := mis e k2 j b ++ [(k2 : Int)]) (by simpa using HO5.out) (by rw [HV.out]; exact HD5.out.imp id fun h b hb => by have := h b hb; simp; omega) (fun b hb => by omega)).congr fun i _ => ?_, HU4.out.pushed_below hbn HG.out HB4.out HB4.out.size (fun b hb => hb) _⟩
                  rw [HNb.out]
                  by_cases e1 : i = b
                  · subst e1; rw [upd_same, if_pos ⟨rfl, by first | trivial | rfl⟩]
                  · rw [upd_ne _ _ e1, if_neg (fun h => e1 h.1)]
                case measure => simp [intOf]; omega
              · go_wp2_with fail
                go_roundw
                case rel =>
                  refine ⟨j + 1, U, by go_num, by omega, HU4.out.congr (fun i _ => ?_), HB4⟩
                  rw [HNb.out, if_neg (fun h => Bool.noConfusion h.2)]
                case measure => simp [intOf]; omega
            · have hjl : j = row.length := by omega
              subst hjl
              go_wp2_with fail
              go_roundw
              case rel => exact ⟨k2 + 1, U, by go_num, by omega, HU.out.congr fun i hi => HRow.out i hi, HBx⟩
              case measure => simp [intOf]; omega
        · have hkn : k2 = e.length := by omega
          subst hkn
          have hM3 := HM2.out.mono (E := fun b => w1.heap.size ≤ b ∧ b < w2.heap.size) (fun b hb h => ⟨h, hb⟩)
          have hW3 := (HW1.out.mono (E := fun b => (w.heap.size ≤ b ∧ b < w1.heap.size) ∨ w2.heap.size ≤ b) (fun b hb h => .inl ⟨h, hb⟩)).below HB2.out
          have hB3 : Below w.heap.size w w2 := bThen HB2.out HB.out.size HB.out
          have HM3 := Lib.hid hM3
          have HW3 := Lib.hid hW3
          have HB3 := Lib.hid hB3
          have hs12 := HB2.out.size
          clear hM3 hW3 hB3 HM2 HW1 HB2 HB
          go_wp2_with fail
          go_loopw [112] (fun s112 wr => ∃ (k : Nat) (U : Nat → Value), s112 = .int .i64 k ∧ k ≤ e.length ∧ Hid (Rows (fun b => (w.heap.size ≤ b ∧ b < w1.heap.size) ∨ w2.heap.size ≤ b) wr w.heap.size e.length U (fun i => if i < k then nbI e i else own1 e i)) ∧ Hid (Rows (fun b => w1.heap.size ≤ b ∧ b < w2.heap.size) wr w1.heap.size e.length M (mis e e.length 0)) ∧ Hid (Below w.heap.size w wr) ∧ w2.heap.size ≤ wr.heap.size) (fun s112 _ => e.length - (intOf s112).toNat)
          case atStart => exact ⟨0, V, rfl, Nat.zero_le _, HW3.out.congr (fun i _ => by rw [if_neg (by omega)]), HM3, HB3, Nat.le_refl _⟩
          case round =>
            obtain ⟨k3, U, rfl, hk3, HU, HMs, HB4, hs4⟩ := hrel
            obtain ⟨w4, rfl⟩ : ∃ W : World, W = wr := ⟨_, rfl⟩
            have hsz4 := HU.out.out.lt
            have hsz5 := HMs.out.out.lt
            by_cases hlt4 : k3 < e.length
            · have hltI : (k3 : Int) < e.length := by omega
              obtain ⟨q, c, hVm, hclm⟩ := HMs.out.cell hlt4
              have hml := mis_len e e.length 0 k3
              have hrd : RdI w4 (.slice q (mis e e.length 0 k3).length c) (mis e e.length 0 k3) := hVm ▸ RdI.of_own (HMs.out.row k3 hlt4)
              have HF := Lib.hid (own_final e k3 hlt4)
              have HF0 := Lib.hid (own_same e k3 hlt4)
              generalize mis e e.length 0 k3 = mk at hclm hml hrd HF HF0
              clear hVm
              by_cases h0 : mk.length = 0
              · have hmk : mk = [] := List.length_eq_zero_iff.1 h0
                subst hmk
                go_wp2_with fail
                go_roundw
                case rel =>
                  refine ⟨k3 + 1, U, by go_num, by omega, HU.out.congr (fun i _ => ?_), HMs, HB4, hs4⟩
                  by_cases e1 : i = k3
                  · subst e1; rw [if_neg (by omega), if_pos (by omega)]; exact HF0.out (by first | trivial | rfl)
                  · by_cases e2 : i < k3
                    · rw [if_pos e2, if_pos (by omega)]
                    · rw [if_neg e2, if_neg (by omega)]
                case measure => simp [intOf]; omega
              · obtain ⟨m5, o5, cc, e1, hm5, -⟩ := rdI_at hrd 0 (by omega)
                injection e1 with e1 e2 e3
                subst e1 e3
                have HNews := Lib.hid (show ∀ j, j < mk.length → w4.cell? ((⟨m5, o5, none⟩ : Addr).add j) = some (.int .i64 (mk.getD j 0)) from fun j hj => by
                  obtain ⟨m', o', c', e1, _, h2⟩ := rdI_at hrd j hj
                  injection e1 with e1 e2 e3
                  cases e1
                  rw [add_none0]; exact h2)
                obtain ⟨q5, c5, hV5, hcl5⟩ := HU.out.cell hlt4
                have ho := HU.out.row k3 hlt4
                have hfz4 : w4.frozen? ⟨w.heap.size, k3, none⟩ = false := HU.out.out.frozen k3
                have hol := own1_len e k3
                rw [if_neg (show ¬ k3 < k3 by omega)] at hV5 hcl5 ho
                rw [hV5] at ho
                have HO := Lib.hid ho
                have HV := Lib.hid hV5
                clear ho hV5 hrd
                have hmp : (0 : Int) < mk.length := by omega
                go_wp2_with (first | (at_builtin; refine wpList_append_int rfl _ _ rfl 0 _ (own1 e k3) rfl HO.out _ _ mk rfl HNews.out (by omega) (Nat.zero_le _) ?_))
                intro p6 c6 w6 hO6 hg6 hd6
                obtain ⟨ll, hll⟩ : ∃ l, l = own1 e k3 ++ mk := ⟨_, rfl⟩
                have hlen : (own1 e k3).length + mk.length = ll.length := by rw [hll, List.length_append]
                have hO7 : w6.ownsRow 0 3 1 (.slice p6 ll.length c6) ll.length (ll.map (Value.int .i64)) := by rw [hll]; simpa using hO6
                rw [hlen] at hd6 ⊢
                have hg7 : w4.grownBy w6 (U k3).ownBlock := by rw [HV.out]; exact hg6
                have hd7 : (Value.slice p6 ll.length c6).ownBlock = (U k3).ownBlock ∨ ∀ k, (Value.slice p6 ll.length c6).ownBlock = some k → w4.heap.size ≤ k := by rw [HV.out]; exact hd6
                have hne6 : w6.heap[w.heap.size]? = w4.heap[w.heap.size]? := hg7.block _ hsz4 (fun e => HU.out.ne k3 hlt4 e.symm)
                have hR6 := HU.out.out.of_block hne6
                have hfz6 : w6.frozen? ⟨w.heap.size, k3, none⟩ = false := hR6.frozen k3
                have hcl6 : w6.cell? ⟨w.heap.size, k3, none⟩ = some (U k3) := hR6.cell hlt4
                have hsz6 := hR6.lt
                have hu7 := HU.out.set hlt4 (w' := w6) (fun b hb hne => hg7.block b hb (fun e => hne e.symm)) hg7.size hO7 hd7 (fun b hb => .inr (by omega))
                have hs6 := hg7.size
                have hgm : w.heap.size < w1.heap.size := by
                  rcases HU.out.dg with h | h
                  · exact h.2
                  · omega
                have hB7 : Below w.heap.size w (w6.setCell ⟨w.heap.size, k3, none⟩ (.slice p6 ll.length c6)) := bSet (Nat.le_refl _) (HB4.out.grown hg7 HB4.out.size (fun b hb => by rcases HU.out.dom k3 hlt4 b hb with h | h <;> omega))
                have hm7 : ∀ b, (w1.heap.size ≤ b ∧ b < w2.heap.size) → b < w4.heap.size → (w6.setCell ⟨w.heap.size, k3, none⟩ (.slice p6 ll.length c6)).heap[b]? = w4.heap[b]? := fun b hD hb => by
                  rw [Below.heap_setCell _ _ _ _ (show b ≠ w.heap.size by omega)]
                  exact hg7.block b hb (fun e => by rcases HU.out.dom k3 hlt4 b e.symm with h | h <;> omega)
                have ho7 := hu7.row k3 hlt4
                rw [upd_same, upd_same] at ho7
                have HS := Lib.hid (sort_row _ _ ll ho7 (by rw [← hlen]; omega))
                have HU7 := Lib.hid hu7
                have HB7 := Lib.hid hB7
                have HM7 := Lib.hid hm7
                have HLL := Lib.hid hll
                clear hO6 hg6 hd6 hO7 hg7 hd7 hne6 hR6 hu7 hB7 hm7 ho7 hll hlen
                go_wp2_with fail
                refine HS.out.mono ?_
                rintro r w8 ⟨rfl, hO8, hg8⟩
                have hvk : upd U k3 (Value.slice p6 ll.length c6) k3 = .slice p6 ll.length c6 := upd_same _ _ _
                have hu8 := HU7.out.inplace hlt4 (w' := w8) (fun b hb hne => hg8.block b hb (fun e => hne (by rw [hvk]; exact e.symm))) (xs := sortI ll) (by rw [hvk]; exact hO8)
                have hs8 := hg8.size
                have hm8 := HMs.out.keep (w' := w8) (fun b hD hb => by
                  rw [hg8.block b (by simp [World.setCell]; omega) (fun e => by rcases HU7.out.dom k3 hlt4 b (by rw [hvk]; exact e.symm) with h | h <;> omega)]
                  exact HM7.out b hD hb)
                have hB8 := HB7.out.grown hg8 HB7.out.size (fun b hb => by rcases HU7.out.dom k3 hlt4 b (by rw [hvk]; exact hb) with h | h <;> omega)
                have HU8 := Lib.hid hu8
                have HM8 := Lib.hid hm8
                have HB8 := Lib.hid hB8
                clear hu8 hm8 hB8 hO8 hg8 HS HU7 HB7 HM7 hcl6 hfz6 hcl5 hfz4
                have hsS : w6.heap.size ≤ w8.heap.size := by simpa [World.setCell] using hs8
                clear hs8
                go_wp2_with fail
                go_roundw
                case rel =>
                  refine ⟨k3 + 1, _, by go_num, by omega, HU8.out.congr (fun i _ => ?_), HM8, HB8, by omega⟩
                  by_cases e1 : i = k3
                  · subst e1; rw [upd_same, if_pos (by omega), HLL.out]; exact HF.out
                  · rw [upd_ne _ _ e1, upd_ne _ _ e1]
                    by_cases e2 : i < k3
                    · rw [if_pos e2, if_pos (by omega)]
                    · rw [if_neg e2, if_neg (by omega)]
                case measure => simp [intOf]; omega
            · go_wp2_with fail
              go_ret
              refine ⟨_, U, rfl, (HU.out.congr fun i hi => by rw [if_pos (by omega)]).mono (fun b _ h => by rcases h with h | h <;> omega), HB4.out⟩
end Go.Proofs.YtlajdcikhbocdaaDoor

/- The order of removal: regalloc.removal, by its contract. -/
set_option linter.unusedVariables false
set_option linter.unusedSimpArgs false
namespace Go.Proofs.YtlajdcikhbocdaaDoor
open Go.RowKit

/-- a row of degrees -/
def DegAt (w : World) (d n : Nat) (A : Nat → Nat → Bool) (g : List Nat) : Prop := w.rowIs d 3 n (fun i => .int .i64 (degG n A g i))

set_option maxHeartbeats 1600000 in
theorem nextc_any (n : Nat) (A : Nat → Nat → Bool) (g : List Nat) (c : Int) (dB rB cB dR rR : Nat) (w : World) (hn : n ≤ 1000)
    (h0 : w.cell? ⟨dB, 0, none⟩ = some (.slice (some ⟨dR, 0, none⟩) n n)) (h1 : w.cell? ⟨rB, 0, none⟩ = some (.slice (some ⟨rR, 0, none⟩) n n)) (h2 : w.cell? ⟨cB, 0, none⟩ = some (.int .i64 c))
    (hD : DegAt w dR n A g) (hM : MarkAt w rR n g) (s0 : dB < w.heap.size) (s1 : rB < w.heap.size) (s2 : cB < w.heap.size) :
    Calls Tryd.prog 80 #[.pointer (some ⟨dB, 0, none⟩), .pointer (some ⟨rB, 0, none⟩), .pointer (some ⟨cB, 0, none⟩)] w fun r w' => r = .returned (.int .i64 (nextG n A c g)) ∧ ∃ q, w' = w.drewN q := by
  have HD := Lib.hid hD
  have HM := Lib.hid hM
  clear hD hM
  have hds := HD.out.lt
  have hms := HM.out.lt
  go_enter Tryd.func80, Tryd.ntmps80
  go_wp2_with fail
  go_loopw [4, 8] (fun s4 s8 wr => ∃ (k q : Nat) (b : Int), s8 = .int .i64 k ∧ s4 = .int .i64 b ∧ k ≤ n ∧ (b = -1 ∨ (0 ≤ b ∧ b < n)) ∧ Hid (scanG (degG n A g) g c (n - k) k b = nextG n A c g) ∧ wr = w.drewN q) (fun _ s8 _ => n - (intOf s8).toNat)
  case atStart => exact ⟨0, 0, -1, rfl, rfl, Nat.zero_le _, .inl rfl, rfl, rfl⟩
  case round =>
    obtain ⟨k, q, b, rfl, rfl, hk, hb, HS, rfl⟩ := hrel
    by_cases hlt : k < n
    · have hltI : (k : Int) < n := by omega
      have c1 : w.cell? ⟨rR, k, none⟩ = some (.bool (g.contains k)) := HM.out.cell hlt
      have c2 : w.cell? ⟨dR, k, none⟩ = some (.int .i64 (degG n A g k)) := HD.out.cell hlt
      have hdl := degG_le n A g k
      have HSg := Lib.hid (scan_gone (degG n A g) g c n k b hlt)
      have HSf := Lib.hid (scan_few (degG n A g) g c n k b hlt)
      have HSm := Lib.hid (scan_more (degG n A g) g c n k b hlt)
      generalize g.contains k = s at c1 HSg HSf HSm
      generalize degG n A g k = d at c2 hdl HSf HSm
      cases s
      · by_cases h1' : (d : Int) < c
        · go_wp2_with fail
          go_quiet (fail)
          go_wp2_with fail
          go_ret
          refine ⟨?_, ?_⟩
          · rw [← HS.out, HSf.out (by first | trivial | rfl) h1']; rfl
          · exact ⟨_, by rw [World.drewN_drewN]⟩
        · have HSm2 := Lib.hid (HSm.out (by first | trivial | rfl) h1')
          clear HSm HSf HSg
          rcases hb with rfl | ⟨hb1, hb2⟩
          · go_wp2_with fail
            go_quiet (fail)
            go_wp2_with fail
            go_quiet (fail)
            go_wp2_with fail
            go_roundw
            case rel =>
              refine ⟨k + 1, _, k, by go_num, rfl, by omega, .inr ⟨by omega, by omega⟩, ?_, by first | rfl | (simp [World.drewN_drewN]; rfl)⟩
              show _ = _
              rw [← HS.out, HSm2.out, if_pos (.inl (by omega))]
            case measure => simp [intOf]; omega
          · obtain ⟨bn, rfl⟩ := Int.eq_ofNat_of_zero_le hb1
            have hbn : bn < n := by omega
            have c3 : w.cell? ⟨dR, bn, none⟩ = some (.int .i64 (degG n A g bn)) := HD.out.cell hbn
            have hdl2 := degG_le n A g bn
            have HSm3 := Lib.hid (HSm2.out)
            rw [Int.toNat_natCast] at HSm3
            clear HSm2
            generalize degG n A g bn = d2 at c3 hdl2 HSm3
            by_cases h2' : (d : Int) > d2
            · go_wp2_with fail
              go_quiet (fail)
              go_wp2_with fail
              go_quiet (fail)
              go_wp2_with fail
              go_roundw
              case rel =>
                refine ⟨k + 1, _, k, by go_num, rfl, by omega, .inr ⟨by omega, by omega⟩, ?_, by first | rfl | (simp [World.drewN_drewN]; rfl)⟩
                show _ = _
                rw [← HS.out, HSm3.out, if_pos (.inr (by omega))]
              case measure => simp [intOf]; omega
            · go_wp2_with fail
              go_quiet (fail)
              go_wp2_with fail
              go_quiet (fail)
              go_wp2_with fail
              go_roundw
              case rel =>
                refine ⟨k + 1, _, bn, by go_num, rfl, by omega, .inr ⟨by omega, by omega⟩, ?_, by first | rfl | (simp [World.drewN_drewN]; rfl)⟩
                show _ = _
                rw [← HS.out, HSm3.out, if_neg (by omega)]
              case measure => simp [intOf]; omega
      · go_wp2_with fail
        go_roundw
        case rel => exact ⟨k + 1, q, b, by go_num, rfl, by omega, hb, (HSg.out (by first | trivial | rfl)).symm.trans HS.out, rfl⟩
        case measure => simp [intOf]; omega
    · have hkn : k = n := by omega
      subst hkn
      go_wp2_with fail
      go_ret
      refine ⟨?_, q, rfl⟩
      rw [← HS.out, scan_end]; rfl

theorem deg_start (n : Nat) (A : Nat → Nat → Bool) (i : Nat) : ((nbs n A i).length : Int) = degG n A [] i := by rw [degG_zero]
/-- the three captured variables -/
structure Boxes (b n : Nat) (c : Int) (w : World) : Prop where
  c : w.cell? ⟨b, 0, none⟩ = some (.int .i64 c)
  d : w.cell? ⟨b + 1 + 1, 0, none⟩ = some (.slice (some ⟨b + 1, 0, none⟩) n n)
  r : w.cell? ⟨b + 1 + 1 + 1 + 1, 0, none⟩ = some (.slice (some ⟨b + 1 + 1 + 1, 0, none⟩) n n)
  s : b + 1 + 1 + 1 + 1 < w.heap.size
theorem Boxes.keep {b n : Nat} {c : Int} {w w' : World} (h : Boxes b n c w) (hs : w.heap.size ≤ w'.heap.size) (h0 : w'.heap[b]? = w.heap[b]?) (h2 : w'.heap[b+1+1]? = w.heap[b+1+1]?) (h4 : w'.heap[b+1+1+1+1]? = w.heap[b+1+1+1+1]?) : Boxes b n c w' :=
  ⟨(World.cell?_of_block (a := ⟨b, 0, none⟩) h0).trans h.c, (World.cell?_of_block (a := ⟨b+1+1, 0, none⟩) h2).trans h.d, (World.cell?_of_block (a := ⟨b+1+1+1+1, 0, none⟩) h4).trans h.r, Nat.lt_of_lt_of_le h.s hs⟩
theorem Boxes.below {b n B : Nat} {c : Int} {w w' : World} (h : Boxes b n c w) (hb : Below B w w') (hB : b + 1 + 1 + 1 + 1 < B) : Boxes b n c w' := h.keep hb.size (hb.block _ (by omega)) (hb.block _ (by omega)) (hb.block _ hB)
theorem Boxes.set {b n : Nat} {c : Int} {w : World} (h : Boxes b n c w) {p : Addr} (h0 : p.block ≠ b) (h2 : p.block ≠ b + 1 + 1) (h4 : p.block ≠ b + 1 + 1 + 1 + 1) (v : Value) : Boxes b n c (w.setCell p v) :=
  h.keep (by simp [World.setCell]) (Below.heap_setCell _ _ _ _ h0.symm) (Below.heap_setCell _ _ _ _ h2.symm) (Below.heap_setCell _ _ _ _ h4.symm)
theorem run_make_cap (n : Nat) (hn : n ≤ 100000) (w : World) : (Instr.makeSlice 37 (.int .i64 0) (.int .i64 (n : Int))).run Tryd.prog w = .ok (.slice (some ⟨w.heap.size, 0, none⟩) 0 n) (w.alloc (.cells (madeCells #[.int .i64 0] n) 3)) := by
  obtain ⟨i, hi, hz, hs, hb⟩ := info_parts infoI
  have hr := run_make (P := Tryd.prog) w 37 3 i (.int .i64 0) Tryd.underlying37 hi hz .i64 .i64 0 (n : Int) (Int.le_refl _) (by omega) (by rw [hb]; omega) (by omega)
  simp only [Int.toNat_natCast, hs, Nat.mul_one, Value.cells] at hr
  exact hr
theorem own_row_of_list {w : World} {base : Nat} {v : Value} {n : Nat} {xs : List Int} (h : w.ownsRow base 3 1 v xs.length (xs.map (Value.int .i64))) (hn : xs.length = n) : w.ownsRow base 3 1 v n (xs.map (Value.int .i64)) := by rw [← hn]; exact h

set_option maxHeartbeats 6400000 in
set_option maxRecDepth 20000 in
theorem removal_any (v : Value) (nb : List (List Int)) (n : Nat) (A : Nat → Nat → Bool) (c : Int) (w : World) (h : RdR w v nb) (hl : nb.length = n) (hnb : ∀ i, i < n → nb.getD i [] = upI (nbs n A i)) (hsym : ∀ a b, A a b = A b a) (hn : n ≤ 1000) :
    Calls Tryd.prog 65 #[v, .int .i64 c] w fun r w' => ∃ V, r = .returned V ∧ w'.ownsRow w.heap.size 3 1 V n ((upI (removeG n A c n [])).map (Value.int .i64)) ∧ Below w.heap.size w w' := by
  obtain ⟨p, cap, rfl⟩ := h.shape
  subst hl
  have HR := Lib.hid h
  have HNB := Lib.hid hnb
  have HSY := Lib.hid hsym
  clear h hnb hsym
  have hmf : ∀ (fn : Fn) (first cap : Array Value) (w : World), (Instr.makeFunc fn first cap).run Tryd.prog w = .ok (.func fn first cap) w := fun _ _ _ _ => rfl
  have hmkB := run_make_row' (P := Tryd.prog) 124 4 (.bool false) 1 Tryd.underlying124 infoB rfl .i64 .i64 nb.length (by omega) (by omega)
  have hmkI := run_make_row' (P := Tryd.prog) 37 3 (.int .i64 0) 8 Tryd.underlying37 infoI rfl .i64 .i64 nb.length (by omega) (by omega)
  have hmkC := run_make_cap nb.length (by omega)
  go_enter Tryd.func65, Tryd.ntmps65
  go_wp2_with fail
  go_loopw [22] (fun s22 wr => ∃ k : Nat, s22 = .int .i64 k ∧ k ≤ nb.length ∧ Hid (wr.rowIs (w.heap.size + 1) 3 nb.length (fun i => .int .i64 (if i < k then ((nbs nb.length A i).length : Int) else 0))) ∧ Hid (MarkAt wr (w.heap.size + 1 + 1 + 1) nb.length []) ∧ Hid (Boxes w.heap.size nb.length c wr) ∧ Hid (Below w.heap.size w wr)) (fun s22 _ => nb.length - (intOf s22).toNat)
  case atStart =>
    refine ⟨0, rfl, Nat.zero_le _, ?_, ?_, ?_, ?_⟩
    · have h1 := World.rowIs_made (w.alloc (.cells #[Value.int .i64 c] 3)) (.int .i64 0) nb.length 3
      have h2 : ((w.alloc (.cells #[Value.int .i64 c] 3)).alloc (.cells (madeCells #[Value.int .i64 0] nb.length) 3)).rowIs (w.heap.size + 1) 3 nb.length (fun i => .int .i64 (if i < 0 then ((nbs nb.length A i).length : Int) else 0)) := by
        simpa using h1
      exact ((h2.alloc _).alloc _).alloc _
    · have h1 := mark_made (((w.alloc (.cells #[Value.int .i64 c] 3)).alloc (.cells (madeCells #[Value.int .i64 0] nb.length) 3)).alloc (.cells #[Value.slice (some ⟨w.heap.size + 1, 0, none⟩) nb.length nb.length] 37)) nb.length
      simp only [Go.Deep.nblk_alloc] at h1
      exact World.rowIs.alloc h1 _
    · refine ⟨by simp [go_sem], by simp [go_sem], by simp [go_sem], by simp⟩
    · repeat (first | exact Below.refl _ _ | (apply bAlloc; (simp; try omega)))
  case round =>
    obtain ⟨k, rfl, hk, HW, HMk, HBX, HB⟩ := hrel
    obtain ⟨w1, rfl⟩ : ∃ W : World, W = wr := ⟨_, rfl⟩
    have hs1 := HBX.out.s
    have bd1 := HBX.out.d
    by_cases hlt : k < nb.length
    · have hltI : (k : Int) < nb.length := by omega
      obtain ⟨m1, o1, cap', q, c', e1, hm1, hx0, hr1⟩ := HR.out.row k hlt
      injection e1 with e1 e2 e3
      subst e1 e3
      have hx1 := (HB.out.cell (p := ⟨m1, o1 + k, none⟩) hm1).trans hx0
      rw [HNB.out k hlt, upI_len] at hx1
      clear hr1 hx0
      have hfz : w1.frozen? ⟨w.heap.size + 1, k, none⟩ = false := HW.out.frozen k
      have hcl : w1.cell? ⟨w.heap.size + 1, k, none⟩ = some (.int .i64 0) := by rw [HW.out.cell hlt, if_neg (by omega)]
      go_wp2_with fail
      go_roundw
      case rel =>
        refine ⟨k + 1, by go_num, by omega, (HW.out.set k _).congr fun i hi => ?_, HMk.out.setOther (by show w.heap.size + 1 + 1 + 1 ≠ w.heap.size + 1; omega) _, HBX.out.set (by show w.heap.size + 1 ≠ _; omega) (by show w.heap.size + 1 ≠ _; omega) (by show w.heap.size + 1 ≠ _; omega) _, bSet (by show w.heap.size ≤ w.heap.size + 1; omega) HB.out⟩
        by_cases e1 : i = k
        · subst e1; rw [if_pos rfl, if_pos (by omega)]
        · rw [if_neg e1]
          by_cases e2 : i < k
          · rw [if_pos e2, if_pos (by omega)]
          · rw [if_neg e2, if_neg (by omega)]
      case measure => simp [intOf]; omega
    · have hD0 : DegAt w1 (w.heap.size + 1) nb.length A [] := HW.out.congr fun i hi => by rw [if_pos (by omega), deg_start]
      have HD0 := Lib.hid hD0
      clear hD0 HW
      go_wp2_with fail
      go_loopw [10, 39] (fun s10 s39 wr => ∃ (g : List Nat) (q : Option Addr) (cp : Nat), s39 = .int .i64 (upI g).length ∧ s10 = .slice q (upI g).length cp ∧ (upI g).length ≤ nb.length ∧ Hid (wr.ownsRow w1.heap.size 3 1 (.slice q (upI g).length cp) (upI g).length ((upI g).map (Value.int .i64))) ∧ Hid (DegAt wr (w.heap.size + 1) nb.length A g) ∧ Hid (MarkAt wr (w.heap.size + 1 + 1 + 1) nb.length g) ∧ Hid (Boxes w.heap.size nb.length c wr) ∧ Hid (Below w.heap.size w wr) ∧ w1.heap.size < wr.heap.size ∧ Hid (removeG nb.length A c (nb.length - g.length) g = removeG nb.length A c nb.length [])) (fun _ s39 _ => nb.length - (intOf s39).toNat)
      case atStart =>
        refine ⟨[], _, _, rfl, rfl, Nat.zero_le _, ?_, ?_, ?_, ?_, ?_, ?_, rfl⟩
        · exact World.ownsRow_made w1 (madeCells #[Value.int .i64 0] nb.length) nb.length (Nat.le_refl _) (by unfold maxLen; omega) (by rw [size_madeCells]; omega)
        · exact HD0.out.alloc _
        · exact HMk.out.alloc _
        · exact HBX.out.below (B := w1.heap.size) (bAlloc (Nat.le_refl _) (Below.refl _ _)) hs1
        · exact bAlloc HB.out.size HB.out
        · simp
      case round =>
        obtain ⟨g, q, cp, rfl, rfl, hk2, HO, HD, HMk2, HBX2, HB2, hz2, HS⟩ := hrel
        obtain ⟨w2, rfl⟩ : ∃ W : World, W = wr := ⟨_, rfl⟩
        by_cases hlt2 : (upI g).length < nb.length
        · have hltI : ((upI g).length : Int) < nb.length := by omega
          have hb0 := HBX2.out.s
          have bd2 := HBX2.out.d
          have br2 := HBX2.out.r
          have h1 := nextc_any nb.length A g c (w.heap.size + 1 + 1) (w.heap.size + 1 + 1 + 1 + 1) (w.heap.size) (w.heap.size + 1) (w.heap.size + 1 + 1 + 1) w2 hn bd2 br2 HBX2.out.c HD.out HMk2.out (by omega) (by omega) (by omega)
          obtain ⟨a0, a1, a2⟩ := nextG_ok (n := nb.length) (A := A) (k := c) (g := g) (by rw [← upI_len]; omega)
          obtain ⟨a, ha⟩ := Int.eq_ofNat_of_zero_le a0
          rw [ha] at h1 a1
          have H1 := Lib.hid h1
          have HA := Lib.hid ha
          have haN : a < nb.length := by omega
          have HA2 := Lib.hid (show a ∉ g by rw [ha] at a2; exact a2)
          clear h1 ha a2 a0
          go_wp2_with fail
          refine H1.out.mono ?_
          rintro r w3 ⟨rfl, nq, hw3⟩
          have hd3 : DegAt w3 (w.heap.size + 1) nb.length A g := by rw [hw3]; exact HD.out
          have hm3 : MarkAt w3 (w.heap.size + 1 + 1 + 1) nb.length g := by rw [hw3]; exact HMk2.out
          have hbx3 : Boxes w.heap.size nb.length c w3 := by rw [hw3]; exact ⟨HBX2.out.c, HBX2.out.d, HBX2.out.r, HBX2.out.s⟩
          have hb3 : Below w.heap.size w w3 := by rw [hw3]; exact bDrewN HB2.out
          have ho3 : w3.ownsRow w1.heap.size 3 1 (.slice q (upI g).length cp) (upI g).length ((upI g).map (Value.int .i64)) := by rw [hw3]; exact HO.out
          have hz3 : w1.heap.size < w3.heap.size := by rw [hw3]; exact hz2
          have HD3 := Lib.hid hd3
          have HM3 := Lib.hid hm3
          have HBX3 := Lib.hid hbx3
          have HB3 := Lib.hid hb3
          have HO3 := Lib.hid ho3
          have br3 := hbx3.r
          have bs3 := hbx3.s
          have hfz3 : w3.frozen? ⟨w.heap.size + 1 + 1 + 1, a, none⟩ = false := hm3.frozen a
          have hcl3 : w3.cell? ⟨w.heap.size + 1 + 1 + 1, a, none⟩ = some (.bool (g.contains a)) := hm3.cell haN
          clear hw3 hd3 hm3 hbx3 hb3 ho3 H1 HD HMk2 HBX2 HB2 HO bd2 br2
          go_wp2_with (first | (at_builtin; refine wpList_append_one rfl _ _ rfl w1.heap.size _ (upI g) rfl ?own _ _ (a : Int) rfl ?cell (by omega) ?bs ?_))
          case own => exact (ownsRow_setCell_below (a := ⟨w.heap.size + 1 + 1 + 1, a, none⟩) HO3.out (show w.heap.size + 1 + 1 + 1 < w1.heap.size by omega) _).alloc _
          case cell => simp [go_sem]
          case bs => simp [World.setCell]; omega
          intro p4 c4 w4 hO4 hg4 _
          have hB4 : Below w1.heap.size (w3.setCell ⟨w.heap.size + 1 + 1 + 1, a, none⟩ (.bool true)) w4 := Below.grown (bAlloc (by simp [World.setCell]; omega) (Below.refl _ _)) hg4 (by simp [World.setCell]; omega) (fun k hk => ownBase0 HO3.out hk)
          have hm4 : MarkAt w4 (w.heap.size + 1 + 1 + 1) nb.length (g ++ [a]) := World.rowIs.of_block (mark_next HM3.out a) (hB4.block _ (by omega))
          have hd4 : DegAt w4 (w.heap.size + 1) nb.length A g := World.rowIs.of_block (HD3.out.setOther (by show w.heap.size + 1 ≠ w.heap.size + 1 + 1 + 1; omega) _) (hB4.block _ (by omega))
          have hbx4 : Boxes w.heap.size nb.length c w4 := (HBX3.out.set (by show w.heap.size + 1 + 1 + 1 ≠ _; omega) (by show w.heap.size + 1 + 1 + 1 ≠ _; omega) (by show w.heap.size + 1 + 1 + 1 ≠ _; omega) _).below hB4 hs1
          have hb4 : Below w.heap.size w w4 := (bSet (p := ⟨w.heap.size + 1 + 1 + 1, a, none⟩) (by show w.heap.size ≤ w.heap.size + 1 + 1 + 1; omega) HB3.out).trans (hB4.mono HB.out.size)
          have hz4 : w1.heap.size < w4.heap.size := by have := hB4.size; simp [World.setCell] at this; omega
          obtain ⟨m1, o1, cap', q5, c5, e1, hm1, hx0, hr1⟩ := HR.out.row a haN
          injection e1 with e1 e2 e3
          subst e1 e3
          have hx1 := (hb4.cell (p := ⟨m1, o1 + a, none⟩) hm1).trans hx0
          have hrw := hr1
          have hnl := HNB.out a haN
          rw [hnl] at hx1 hrw
          have hrl := upI_len (nbs nb.length A a)
          have hnn := nbs_len nb.length A a
          have HIX := Lib.hid (fun j hj => upI_get (nbs nb.length A a) j hj)
          have hO5 : w4.ownsRow w1.heap.size 3 1 (.slice p4 ((upI g).length + 1) c4) (upI (g ++ [a])).length ((upI (g ++ [a])).map (Value.int .i64)) := by simpa [upI_snoc] using hO4
          have HO5 := Lib.hid hO5
          have HM4 := Lib.hid hm4
          have HD4 := Lib.hid hd4
          have HBX4 := Lib.hid hbx4
          have HB4 := Lib.hid hb4
          have HB14 := Lib.hid hB4
          have HRW := Lib.hid hrw
          have hw4s : m1 < w4.heap.size := by have := hb4.size; omega
          clear hO4 hg4 hB4 hm4 hd4 hbx4 hb4 hx0 hr1 hrw hnl hO5 hfz3 hcl3 HD3 HM3 HBX3 HB3 HO3 br3
          generalize upI (nbs nb.length A a) = row at hx1 hrl HIX HRW
          go_wp2_with fail
          go_loopw [55] (fun s55 wx => ∃ j : Nat, s55 = .int .i64 j ∧ j ≤ row.length ∧ Hid (wx.rowIs (w.heap.size + 1) 3 nb.length (fun i => .int .i64 (degJ nb.length A g a j i))) ∧ Hid (MarkAt wx (w.heap.size + 1 + 1 + 1) nb.length (g ++ [a])) ∧ Hid (Boxes w.heap.size nb.length c wx) ∧ Hid (Below w.heap.size w wx) ∧ w1.heap.size < wx.heap.size ∧ Hid (wx.ownsRow w1.heap.size 3 1 (.slice p4 ((upI g).length + 1) c4) (upI (g ++ [a])).length ((upI (g ++ [a])).map (Value.int .i64)))) (fun s55 _ => row.length - (intOf s55).toNat)
          case atStart => exact ⟨0, rfl, Nat.zero_le _, HD4.out.congr (fun i _ => by rw [degJ_zero]), HM4, HBX4, HB4, hz4, HO5⟩
          case round =>
            obtain ⟨j, rfl, hj, HDx, HMx, HBXx, HBx, hzx, HOx⟩ := hrel
            obtain ⟨w5, rfl⟩ : ∃ W : World, W = wr := ⟨_, rfl⟩
            by_cases hlt3 : j < row.length
            · have hltJ : (j : Int) < row.length := by omega
              have bd5 := HBXx.out.d
              have bs5 := HBXx.out.s
              have hj2 : j < (nbs nb.length A a).length := by omega
              obtain ⟨m6, o6, cc, e1, hm6, hy0⟩ := rdI_at (HRW.out.below HBx.out (Nat.le_refl _)) j hlt3
              injection e1 with e1 e2 e3
              subst e1 e3
              rw [HIX.out j hj2] at hy0
              have hbn := (nbs_at nb.length A a j hj2).1
              have HNX := Lib.hid (fun i => degJ_next nb.length A g a j ((nbs nb.length A a).getD j 0) i hj2 rfl)
              generalize (nbs nb.length A a).getD j 0 = b at hy0 hbn HNX
              have hbI : (b : Int) < nb.length := by omega
              have hfz5 : w5.frozen? ⟨w.heap.size + 1, b, none⟩ = false := HDx.out.frozen b
              have hcl5 : w5.cell? ⟨w.heap.size + 1, b, none⟩ = some (.int .i64 (degJ nb.length A g a j b)) := HDx.out.cell hbn
              have hdr := degJ_range nb.length A g a j b
              have hdr1 := hdr.1
              have hdr2 := hdr.2
              clear hdr
              generalize degJ nb.length A g a j b = d5 at hcl5 hdr1 hdr2 HNX
              have hw0 : IntKind.i64.wrap (d5 - 1) = d5 - 1 := IntWalk.i64_in _ ⟨by omega, by omega⟩
              go_wp2_with fail
              go_roundw
              case rel =>
                refine ⟨j + 1, by go_num, by omega, (HDx.out.set b _).congr fun i hi => ?_, HMx.out.setOther (by show w.heap.size + 1 + 1 + 1 ≠ w.heap.size + 1; omega) _, HBXx.out.set (by show w.heap.size + 1 ≠ _; omega) (by show w.heap.size + 1 ≠ _; omega) (by show w.heap.size + 1 ≠ _; omega) _, bSet (by show w.heap.size ≤ w.heap.size + 1; omega) HBx.out, by simpa [World.setCell] using hzx, ownsRow_setCell_below (a := ⟨w.heap.size + 1, b, none⟩) HOx.out (show w.heap.size + 1 < w1.heap.size by omega) _⟩
                rw [HNX.out i]
                by_cases e1 : i = b
                · rw [if_pos e1, if_pos e1]
                · rw [if_neg e1, if_neg e1]
              case measure => simp [intOf]; omega
            · have hjl : j = row.length := by omega
              subst hjl
              go_wp2_with fail
              go_roundw
              case rel =>
                refine ⟨g ++ [a], p4, c4, by simp [upI_snoc], by simp [upI_snoc], by simp [upI_snoc]; omega, by unfold Hid; simpa [upI_snoc] using HOx.out, ?_, HMx, HBXx, HBx, hzx, ?_⟩
                · exact HDx.out.congr fun i hi => by rw [hrl, degJ_end _ _ HSY.out _ _ _ haN hi HA2.out]
                · show _ = _
                  rw [← HS.out, removeG_more _ _ _ _ _ _ HA.out (by rw [← upI_len]; omega)]
                  simp
              case measure => simp [intOf]; omega
        · have hgn : g.length = nb.length := by rw [← upI_len]; omega
          go_wp2_with fail
          go_ret
          have hg := HS.out
          rw [hgn] at hg
          have hge := removeG_done _ _ _ _ hg
          refine ⟨_, rfl, ?_, HB2.out⟩
          rw [← hge]
          exact own0_base (own_row_of_list HO.out (by rw [upI_len]; exact hgn)) fun b hb => by have := ownBase0 HO.out hb; have := HB.out.size; omega
end Go.Proofs.YtlajdcikhbocdaaDoor

/- regalloc.Color, by its contract. -/
set_option linter.unusedVariables false
set_option linter.unusedSimpArgs false
namespace Go.Proofs.YtlajdcikhbocdaaDoor
open Go.RowKit

theorem index_any (T m c0 : Nat) (tk : Nat → Bool) (w : World) (h : w.rowIs T 4 m (fun c => .bool (tk c))) (hm : m ≤ 100000) (hc : c0 < m) (h1 : tk c0 = false) (h2 : ∀ d, d < c0 → tk d = true) :
    Calls Tryd.prog 66 #[.slice (some ⟨T, 0, none⟩) m m, .bool false] w fun r w' => r = .returned (.int .i64 c0) ∧ w = w' := by
  have HT := Lib.hid h
  have H1 := Lib.hid h1
  have H2 := Lib.hid h2
  clear h h1 h2
  have hs := HT.out.lt
  go_enter Tryd.func66, Tryd.ntmps66
  go_wp2_with fail
  go_loopw [8] (fun s8 wr => ∃ k : Nat, s8 = .int .i64 k ∧ k ≤ c0 ∧ w = wr) (fun s8 _ => m - (intOf s8).toNat)
  case atStart => exact ⟨0, rfl, Nat.zero_le _, rfl⟩
  case round =>
    obtain ⟨k, rfl, hk, rfl⟩ := hrel
    have hlt : k < m := by omega
    have hltI : (k : Int) < m := by omega
    have c1 : w.cell? ⟨T, k, none⟩ = some (.bool (tk k)) := HT.out.cell hlt
    by_cases hkc : k = c0
    · subst hkc
      rw [H1.out] at c1
      go_wp2_with fail
      go_ret
      exact ⟨rfl, rfl⟩
    · rw [H2.out k (by omega)] at c1
      go_wp2_with fail
      go_roundw
      case rel => exact ⟨k + 1, by go_num, by omega, by first | trivial | rfl⟩
      case measure => simp [intOf]; omega

/-- The lists of neighbors. -/
def nbL (e : List (List Int)) : List (List Int) := (List.range e.length).map (nbI e)
theorem nbL_len (e : List (List Int)) : (nbL e).length = e.length := by simp [nbL]
theorem nbL_at (e : List (List Int)) (i : Nat) (hi : i < e.length) : (nbL e).getD i [] = nbI e i := by simp [nbL, List.getD_eq_getElem?_getD, hi]
theorem taken_set {w : World} {T m : Nat} {f : Nat → Bool} (h : w.rowIs T 4 m (fun c => .bool (f c))) (c : Nat) : (w.setCell ⟨T, c, none⟩ (.bool true)).rowIs T 4 m (fun x => .bool (f x || (c == x))) := by
  refine (h.set c (.bool true)).congr fun i hi => ?_
  by_cases e : i = c
  · subst e; rw [if_pos rfl]; simp
  · rw [if_neg e]
    have : (c == i) = false := by simp; exact fun h => e h.symm
    rw [this, Bool.or_false]

set_option maxHeartbeats 6400000 in
set_option maxRecDepth 20000 in
theorem color_any (v : Value) (e : List (List Int)) (c : Int) (w : World) (h : RdR w v e) (hm : RowsMax e 5000) (hn : e.length ≤ 1000) (hc1 : -9223372036854775808 ≤ c) (hc2 : c ≤ 9223372036854775807) :
    Calls Tryd.prog 34 #[v, .int .i64 c] w fun r w' => ∃ V, r = .returned V ∧ w'.ownsRow w.heap.size 3 1 V e.length ((colorG e.length (adjG e) (max c 0)).map (Value.int .i64)) ∧ Below w.heap.size w w' := by
  have hg := graph_any v e w h hm hn
  obtain ⟨p, cap, rfl⟩ := h.shape
  have HGr := Lib.hid hg
  clear h hg
  have hmkI := run_make_row' (P := Tryd.prog) 37 3 (.int .i64 0) 8 Tryd.underlying37 infoI rfl .i64 .i64 e.length (by omega) (by omega)
  go_enter Tryd.func34, Tryd.ntmps34
  go_wp2_with fail
  refine HGr.out.mono ?_
  rintro r w1 ⟨g0, V0, rfl, hrows, hB1⟩
  have hrd := hrows.rd (nbL e) (nbL_len e) (fun i hi => (nbL_at e i hi).symm) e.length
  have HRM := Lib.hid (removal_any _ (nbL e) e.length (adjG e) (max c 0) w1 hrd (nbL_len e) (fun i hi => nbL_at e i hi) (adj_sym e) hn)
  have HRD := Lib.hid hrd
  have HB1 := Lib.hid hB1
  clear HGr hrows hrd hB1
  go_wp2_with fail
  refine HRM.out.mono ?_
  rintro r w2 ⟨V2, rfl, hO2, hB2⟩
  obtain ⟨hlen, hnd, hmem⟩ := removed (n := e.length) (A := adjG e) (k := max c 0)
  have hcol : colorG e.length (adjG e) (max c 0) = selK e.length (adjG e) (max c 0) (removeG e.length (adjG e) (max c 0) e.length []) e.length (List.replicate e.length (-1)) := by
    have := selK_all e.length (adjG e) (max c 0) (removeG e.length (adjG e) (max c 0) e.length []) (List.replicate e.length (-1))
    rw [hlen] at this
    rw [this]; rfl
  generalize removeG e.length (adjG e) (max c 0) e.length [] = g at hO2 hlen hnd hmem hcol
  have HCOL := Lib.hid hcol
  clear hcol
  have hcap : ∃ q cp, V2 = .slice q e.length cp ∧ e.length ≤ cp := by
    rcases hO2.2 with ⟨rfl, h0⟩ | ⟨_, cp, _, rfl, _, _, h1, _⟩
    · exact ⟨none, 0, by rw [h0], by omega⟩
    · exact ⟨_, cp, rfl, h1⟩
  obtain ⟨q2, cp2, rfl, hcp⟩ := hcap
  have HI2 := Lib.hid (RdI.of_own (xs := upI g) (show w2.ownsRow w1.heap.size 3 1 (.slice q2 e.length cp2) (upI g).length _ by rw [upI_len, hlen]; exact hO2))
  have HMem := Lib.hid hmem
  have HNd := Lib.hid hnd
  have HRD2 := Lib.hid (HRD.out.below hB2 (Nat.le_refl _))
  have HB2 := Lib.hid (bThen hB2 HB1.out.size HB1.out)
  clear HRM hmem hnd hB2 HB1 HRD hO2
  go_wp2_with fail
  go_loopw [27] (fun s27 wr => ∃ k : Nat, s27 = .int .i64 k ∧ k ≤ e.length ∧ Hid (wr.rowIs w2.heap.size 3 e.length (fun i => .int .i64 (if i < k then -1 else 0))) ∧ Hid (Below w2.heap.size w2 wr)) (fun s27 _ => e.length - (intOf s27).toNat)
  case atStart => exact ⟨0, rfl, Nat.zero_le _, (World.rowIs_made w2 _ e.length _).congr (fun i _ => by rw [if_neg (by omega)]), bAlloc (Nat.le_refl _) (Below.refl _ _)⟩
  case round =>
    obtain ⟨k, rfl, hk2, HW, HB3⟩ := hrel
    obtain ⟨w3, rfl⟩ : ∃ W : World, W = wr := ⟨_, rfl⟩
    have hsz := HW.out.lt
    by_cases hlt2 : k < e.length
    · have hltI : (k : Int) < e.length := by omega
      have hfz : w3.frozen? ⟨w2.heap.size, k, none⟩ = false := HW.out.frozen k
      have hcl : w3.cell? ⟨w2.heap.size, k, none⟩ = some (.int .i64 0) := by rw [HW.out.cell hlt2, if_neg (by omega)]
      go_wp2_with fail
      go_roundw
      case rel =>
        refine ⟨k + 1, by go_num, by omega, (HW.out.set k _).congr fun i hi => ?_, bSet (Nat.le_refl _) HB3.out⟩
        by_cases e1 : i = k
        · subst e1; rw [if_pos rfl, if_pos (by omega)]
        · rw [if_neg e1]
          by_cases e2 : i < k
          · rw [if_pos e2, if_pos (by omega)]
          · rw [if_neg e2, if_neg (by omega)]
      case measure => simp [intOf]; omega
    · have hC : ColAt w3 w2.heap.size e.length (List.replicate e.length (-1)) := HW.out.congr fun i hi => by
        rw [if_pos (by omega), List.getD_eq_getElem?_getD, List.getElem?_replicate, if_pos hi]; rfl
      have HC := Lib.hid hC
      clear hC HW
      go_wp2_with fail
      go_loopw [6] (fun s6 wr => ∃ (k : Nat) (out : List Int), s6 = .slice q2 k cp2 ∧ k ≤ e.length ∧ out.length = e.length ∧ Hid (ColAt wr w2.heap.size e.length out) ∧ Hid (Below w2.heap.size w2 wr) ∧ Hid (∀ b ∈ g.take k, out.getD b (-1) = -1) ∧ Hid (selK e.length (adjG e) (max c 0) g k out = selK e.length (adjG e) (max c 0) g e.length (List.replicate e.length (-1)))) (fun s6 _ => lenOf s6)
      case atStart => exact ⟨e.length, _, rfl, Nat.le_refl _, by simp, HC, HB3, fun b _ => by simp only [List.getD_eq_getElem?_getD, List.getElem?_replicate]; split <;> rfl, rfl⟩
      case round =>
        obtain ⟨k', out, rfl, hk3, hol, HC3, HB3', HL3, HS3⟩ := hrel
        obtain ⟨w4, rfl⟩ : ∃ W : World, W = wr := ⟨_, rfl⟩
        have hsz3 := HC3.out.lt
        by_cases hk0 : k' = 0
        · subst hk0
          go_wp2_with fail
          go_ret
          refine ⟨_, rfl, ?_, bThen HB3'.out HB2.out.size HB2.out⟩
          rw [HCOL.out, ← HS3.out, selK_zero]
          exact own_of_row HC3.out hol (by omega) _ HB2.out.size
        · obtain ⟨k, rfl⟩ : ∃ k, k' = k + 1 := ⟨k' - 1, by omega⟩
          have hkg : k < g.length := by omega
          have hI3 := HI2.out.below HB3'.out (Nat.le_refl _)
          rw [← hlen, ← upI_len g] at hI3
          obtain ⟨ms, os, cs, es, hms, hxs⟩ := rdI_at hI3 k (by rw [upI_len]; exact hkg)
          injection es with es1 es2 es3
          subst es1 es3
          rw [upI_get g k hkg] at hxs
          have hN := selK_next e.length (adjG e) (max c 0) g k out hkg
          have haL : g.getD k 0 < e.length := (HMem.out _).1 (by rw [List.getD_eq_getElem?_getD, List.getElem?_eq_getElem hkg]; exact List.getElem_mem _)
          have hlow : out.getD (g.getD k 0) (-1) = -1 := HL3.out _ (by rw [List.getD_eq_getElem?_getD, List.getElem?_eq_getElem hkg]; exact List.mem_iff_getElem.2 ⟨k, by rw [List.length_take]; omega, by rw [List.getElem_take]; rfl⟩)
          have hrest : ∀ b ∈ g.take k, b ≠ g.getD k 0 ∧ out.getD b (-1) = -1 := fun b hb => by
            obtain ⟨i, hi, ei⟩ := List.mem_iff_getElem.1 hb
            rw [List.length_take] at hi
            rw [List.getElem_take] at ei
            refine ⟨fun e1 => ?_, HL3.out b (List.mem_iff_getElem.2 ⟨i, by rw [List.length_take]; omega, by rw [List.getElem_take]; exact ei⟩)⟩
            rw [List.getD_eq_getElem?_getD, List.getElem?_eq_getElem hkg, ← ei] at e1
            exact List.pairwise_iff_getElem.1 HNd.out i k (by omega) hkg (by omega) e1
          generalize g.getD k 0 = a at hxs hN haL hlow hrest
          have HRest := Lib.hid hrest
          have HLow := Lib.hid hlow
          have HN := Lib.hid hN
          have hrdw := HRD2.out.below HB3'.out (Nat.le_refl _)
          obtain ⟨m1, o1, cap', q, c5, e1, hm1, hx1, hr1⟩ := hrdw.row a (by rw [nbL_len]; exact haL)
          injection e1 with e1 e2 e3
          injection e1 with e1
          injection e1 with e1 e4
          subst e1 e3 e4
          clear e2
          rw [nbL_at e a haL] at hx1 hr1
          rw [Nat.zero_add] at hx1
          have hrl : (nbI e a).length = (nbs e.length (adjG e) a).length := upI_len _
          have hnn := nbs_len e.length (adjG e) a
          have HIX := Lib.hid (fun j hj => upI_get (nbs e.length (adjG e) a) j hj)
          have HRW := Lib.hid hr1
          clear hrest hlow hN hrdw hr1 hI3
          have haI : (a : Int) < e.length := by omega
          change Hid (∀ j, j < (nbs e.length (adjG e) a).length → (nbI e a).getD j 0 = _) at HIX
          generalize nbI e a = row at hx1 hrl HIX HRW
          have hrn : row.length ≤ 1000 := by omega
          have HRL := Lib.hid hrl
          clear hrl hnn
          have hmkT := run_make_row' (P := Tryd.prog) 124 4 (.bool false) 1 Tryd.underlying124 infoB rfl .i64 .i64 (row.length + 1) (by omega) (by omega)
          simp only [Int.natCast_add, Int.natCast_one] at hmkT
          have hkk : ((k + 1 : Nat) : Int) - 1 = (k : Int) := by omega
          go_wp2_with fail
          go_loopw [60] (fun s60 wx => ∃ j : Nat, s60 = .int .i64 j ∧ j ≤ row.length ∧ Hid (wx.rowIs w4.heap.size 4 (row.length + 1) (fun x => .bool (takenJ e.length (adjG e) out a j x))) ∧ Hid (Below w4.heap.size w4 wx)) (fun s60 _ => row.length - (intOf s60).toNat)
          case atStart => exact ⟨0, rfl, Nat.zero_le _, (World.rowIs_made w4 _ (row.length + 1) _).congr (fun i _ => by rw [takenJ_zero]), bAlloc (Nat.le_refl _) (Below.refl _ _)⟩
          case round =>
            obtain ⟨j, rfl, hj, HT, HBx⟩ := hrel
            obtain ⟨w5, rfl⟩ : ∃ W : World, W = wr := ⟨_, rfl⟩
            have hs5 := HT.out.lt
            have hbs5 := HBx.out.size
            have hC5 : ColAt w5 w2.heap.size e.length out := HC3.out.of_block (HBx.out.block _ hsz3)
            by_cases hlt3 : j < row.length
            · have hltJ : (j : Int) < row.length := by omega
              have hj2 : j < (nbs e.length (adjG e) a).length := by have := HRL.out; omega
              obtain ⟨m6, o6, cc, e1, hm6, hy0⟩ := rdI_at (HRW.out.below HBx.out (Nat.le_refl _)) j hlt3
              injection e1 with e1 e2 e3
              subst e1 e3
              rw [HIX.out j hj2] at hy0
              have hbn := (nbs_at e.length (adjG e) a j hj2).1
              have HNX := Lib.hid (fun x => takenJ_next e.length (adjG e) out a j x hj2)
              generalize (nbs e.length (adjG e) a).getD j 0 = b at hy0 hbn HNX
              have hbI : (b : Int) < e.length := by omega
              have hcb : w5.cell? ⟨w2.heap.size, b, none⟩ = some (.int .i64 (out.getD b (-1))) := hC5.cell hbn
              generalize out.getD b (-1) = x at hcb HNX
              by_cases hx : 0 ≤ x ∧ x < (row.length : Int) + 1
              · obtain ⟨hx1', hx2'⟩ := hx
                obtain ⟨xn, rfl⟩ := Int.eq_ofNat_of_zero_le hx1'
                have hxn : xn < row.length + 1 := by omega
                have hfz5 : w5.frozen? ⟨w4.heap.size, xn, none⟩ = false := HT.out.frozen xn
                have hcl5 : w5.cell? ⟨w4.heap.size, xn, none⟩ = some (.bool (takenJ e.length (adjG e) out a j xn)) := HT.out.cell hxn
                go_wp2_with fail
                go_roundw
                case rel =>
                  refine ⟨j + 1, by go_num, by omega, (taken_set HT.out xn).congr fun i hi => ?_, bSet (Nat.le_refl _) HBx.out⟩
                  rw [HNX.out, show ((xn : Int) == (i : Int)) = (xn == i) by rw [Bool.eq_iff_iff, beq_iff_eq, beq_iff_eq]; omega]
                case measure => simp [intOf]; omega
              · have hx2 : x < 0 ∨ (0 ≤ x ∧ ¬ x < (row.length : Int) + 1) := by omega
                clear hx
                have HX := Lib.hid hx2
                rcases hx2 with h1 | ⟨h1, h2⟩
                all_goals (
                  go_wp2_with fail
                  go_roundw
                  case rel =>
                    refine ⟨j + 1, by go_num, by omega, HT.out.congr fun i hi => ?_, HBx⟩
                    rw [HNX.out]
                    have : (x == (i : Int)) = false := by
                      have := HX.out
                      simp; omega
                    rw [this, Bool.or_false]
                  case measure => simp [intOf]; omega)
            · have hjl : j = row.length := by omega
              subst hjl
              obtain ⟨c0, hc0, hf0, hl0⟩ := free_exists e.length (adjG e) out a
              rw [← HRL.out] at hc0
              have HT2 : w5.rowIs w4.heap.size 4 (row.length + 1) (fun x => .bool (!freeG e.length (adjG e) out a x)) := HT.out.congr fun i _ => by rw [HRL.out, takenJ_end]
              have HIxC := Lib.hid (index_any w4.heap.size (row.length + 1) c0 _ w5 HT2 (by omega) (by omega) (by rw [hf0]; rfl) (fun d hd => by rw [hl0 d hd]; rfl))
              have HPK := Lib.hid (pickG_least e.length (adjG e) (max c 0) out a c0 hf0 hl0)
              clear HT2 hf0 hl0
              have hfz5 : w5.frozen? ⟨w2.heap.size, a, none⟩ = false := hC5.frozen a
              have hcl5 : w5.cell? ⟨w2.heap.size, a, none⟩ = some (.int .i64 (out.getD a (-1))) := hC5.cell haL
              have hs25 := hC5.lt
              have HC5 := Lib.hid hC5
              have HB5 := Lib.hid (bThen HBx.out HB3'.out.size HB3'.out)
              clear hC5
              go_wp2_with fail
              refine HIxC.out.mono ?_
              rintro r w' ⟨rfl, rfl⟩
              by_cases hck : (c0 : Int) < max c 0
              · go_wp2_with fail
                go_roundw
                case rel =>
                  have hpk := HPK.out
                  rw [if_pos hck] at hpk
                  refine ⟨k, out.set a c0, rfl, by omega, by simpa using hol, col_set HC5.out hol a haL _, bSet (Nat.le_refl _) HB5.out, fun b hb => ?_, ?_⟩
                  · obtain ⟨r1, r2⟩ := HRest.out b hb
                    rw [getD_set _ _ _ _ (by omega), if_neg (fun e => r1 e.symm)]
                    exact r2
                  · show _ = _
                    rw [← HS3.out, HN.out, hpk]
                case measure => simp [lenOf]
              · go_wp2_with fail
                go_roundw
                case rel =>
                  have hpk := HPK.out
                  rw [if_neg (by omega)] at hpk
                  refine ⟨k, out, rfl, by omega, hol, HC5, HB5, fun b hb => (HRest.out b hb).2, ?_⟩
                  show _ = _
                  rw [← HS3.out, HN.out, hpk]
                  congr 1
                  refine List.ext_getElem (by simp) fun i h1 h2 => ?_
                  rw [List.getElem_set]
                  by_cases e4 : a = i
                  · subst e4
                    have := HLow.out
                    rw [List.getD_eq_getElem?_getD, List.getElem?_eq_getElem (by omega)] at this
                    rw [if_pos rfl]; exact this
                  · rw [if_neg e4]
                case measure => simp [lenOf]
end Go.Proofs.YtlajdcikhbocdaaDoor

/- ints, wide and awake of the laws of layer 20; the law RegallocColors. -/
set_option linter.unusedVariables false
set_option linter.unusedSimpArgs false
namespace Go.Proofs.YtlajdcikhbocdaaDoor
open Go.RowKit

/-- what wide leaves open -/
def Narrow (e : List (List Int)) : Prop := e.length ≤ 24 ∧ RowsMax e 40
def WidePost (e : List (List Int)) (r : Ending) : Prop := ∃ b, r = .returned (.bool b) ∧ (b = false → Narrow e)
def exE : List (List Int) := [[1, 2], [2], []]
theorem ex2 : colorG 3 (adjG exE) (max 2 0) = [-1, 1, 0] := by decide +kernel
theorem ex3 : colorG 3 (adjG exE) (max 3 0) = [2, 1, 0] := by decide +kernel

theorem lit_rd (w : World) (xs : List Int) (cap : Nat) : RdI (w.alloc (.cells (xs.map (Value.int .i64)).toArray 3)) (.slice (some ⟨w.heap.size, 0, none⟩) xs.length cap) xs := by
  refine ⟨_, cap, rfl, fun k hk => ⟨_, 0, rfl, by simp, ?_⟩⟩
  have h : (w.alloc (.cells (xs.map (Value.int .i64)).toArray 3)).heap[w.heap.size]? = some (.cells (xs.map (Value.int .i64)).toArray 3 (0, 0)) := heap_alloc_new w _
  simp only [World.cell?, h, Option.isSome_none, Bool.false_eq_true, if_false, Nat.zero_add]
  simp [List.getD_eq_getElem?_getD, List.getElem?_eq_getElem hk]
theorem ex_rd (w : World) : RdR ((((w.alloc (.cells #[.int .i64 1, .int .i64 2] 3)).alloc (.cells #[.int .i64 2] 3)).alloc (.cells #[] 3)).alloc (.cells #[.slice (some ⟨w.heap.size, 0, none⟩) 2 2, .slice (some ⟨w.heap.size + 1, 0, none⟩) 1 1, .slice (some ⟨w.heap.size + 1 + 1, 0, none⟩) 0 0] 37)) (.slice (some ⟨w.heap.size + 1 + 1 + 1, 0, none⟩) 3 3) exE := by
  have hb : ∀ (w : World) (o : Obj), Below w.heap.size w (w.alloc o) := fun w o => bAlloc (Nat.le_refl _) (Below.refl _ _)
  have r0 := (((lit_rd w [1, 2] 2).below (hb _ (.cells #[.int .i64 2] 3)) (Nat.le_refl _)).below (hb _ (.cells #[] 3)) (Nat.le_refl _)).below (hb _ (.cells #[.slice (some ⟨w.heap.size, 0, none⟩) 2 2, .slice (some ⟨w.heap.size + 1, 0, none⟩) 1 1, .slice (some ⟨w.heap.size + 1 + 1, 0, none⟩) 0 0] 37)) (Nat.le_refl _)
  have r1 := ((lit_rd (w.alloc (.cells #[.int .i64 1, .int .i64 2] 3)) [2] 1).below (hb _ (.cells #[] 3)) (Nat.le_refl _)).below (hb _ (.cells #[.slice (some ⟨w.heap.size, 0, none⟩) 2 2, .slice (some ⟨w.heap.size + 1, 0, none⟩) 1 1, .slice (some ⟨w.heap.size + 1 + 1, 0, none⟩) 0 0] 37)) (Nat.le_refl _)
  refine ⟨_, 3, fun a => [.slice (some ⟨w.heap.size, 0, none⟩) 2 2, .slice (some ⟨w.heap.size + 1, 0, none⟩) 1 1, .slice (some ⟨w.heap.size + 1 + 1, 0, none⟩) 0 0].getD a default, rfl, fun a ha => ?_⟩
  have ha3 : a < 3 := ha
  match a, ha3 with
  | 0, _ => exact ⟨⟨_, 0, rfl, by simp, by simp [go_sem]⟩, r0⟩
  | 1, _ => exact ⟨⟨_, 0, rfl, by simp, by simp [go_sem]⟩, by rw [Go.Deep.nblk_alloc] at r1; exact r1⟩
  | 2, _ => exact ⟨⟨_, 0, rfl, by simp, by simp [go_sem]⟩, ⟨_, 0, rfl, fun k hk => by simp [exE] at hk⟩⟩

theorem exE_max : RowsMax exE 5000 := fun a => by
  match a with
  | 0 => decide
  | 1 => decide
  | 2 => decide
  | a + 3 => simp [exE]

end Go.Proofs.YtlajdcikhbocdaaDoor

/- The law RegallocColors. -/
set_option linter.unusedVariables false
set_option linter.unusedSimpArgs false
namespace Go.Proofs.YtlajdcikhbocdaaDoor
open Go.RowKit

theorem own_rdI {w : World} {base : Nat} {v : Value} {n : Nat} {xs : List Int} (h : w.ownsRow base 3 1 v n (xs.map (Value.int .i64))) : RdI w v xs := by
  have hn : n = xs.length := by have := h.1; simp at this; omega
  subst hn
  exact RdI.of_own h

end Go.Proofs.YtlajdcikhbocdaaDoor

/- The law RegallocProper. -/
set_option linter.unusedVariables false
set_option linter.unusedSimpArgs false
namespace Go.Proofs.YtlajdcikhbocdaaDoor
open Go.RowKit Go.Maps Go.WideMaps

/-- The colors that the first j nodes have, of those that are adjacent to a. -/
def keysJ (A : Nat → Nat → Bool) (l : List Int) (a j : Nat) : List Lit := ((List.range j).filter (fun b => A a b && decide (0 ≤ l.getD b (-1)))).map (fun b => Lit.int .i64 (l.getD b (-1)))
def Sj {H : Type} (A : Nat → Nat → Bool) (l : List Int) (a j : Nat) : DataW H := setOf (.lit (.bool true)) (keysJ A l a j)
theorem Sj_zero {H : Type} (A : Nat → Nat → Bool) (l : List Int) (a : Nat) : Sj (H := H) A l a 0 = .map [] := by simp [Sj, keysJ, setOf]
theorem keysJ_next (A : Nat → Nat → Bool) (l : List Int) (a j : Nat) : keysJ A l a (j+1) = if A a j = true ∧ 0 ≤ l.getD j (-1) then keysJ A l a j ++ [.int .i64 (l.getD j (-1))] else keysJ A l a j := by
  unfold keysJ
  rw [List.range_succ, List.filter_append, List.map_append]
  by_cases h : A a j = true ∧ 0 ≤ l.getD j (-1)
  · rw [if_pos h, List.filter_cons_of_pos (by simpa using h)]; rfl
  · rw [if_neg h, List.filter_cons_of_neg (by simpa using h)]; simp
theorem Sj_put {H : Type} (A : Nat → Nat → Bool) (l : List Int) (a j : Nat) (h : A a j = true) (h0 : 0 ≤ l.getD j (-1)) : Sj (H := H) A l a (j+1) = (Sj A l a j).put (.int .i64 (l.getD j (-1))) (.lit (.bool true)) := by
  unfold Sj; rw [keysJ_next, if_pos ⟨h, h0⟩, setOf_snoc]
theorem Sj_same {H : Type} (A : Nat → Nat → Bool) (l : List Int) (a j : Nat) (h : ¬ (A a j = true ∧ 0 ≤ l.getD j (-1))) : Sj (H := H) A l a (j+1) = Sj A l a j := by
  unfold Sj; rw [keysJ_next, if_neg h]
theorem keysJ_key (A : Nat → Nat → Bool) (l : List Int) (a j : Nat) : ∀ x ∈ keysJ A l a j, WideAt.IsKeyLit x := by
  intro x hx
  unfold keysJ at hx
  obtain ⟨b, _, rfl⟩ := List.mem_map.1 hx
  trivial
theorem addKey_mem : ∀ (xs L : List Lit) (x : Lit), (x ∈ L ∨ x ∈ xs) → x ∈ xs.foldl addKey L
  | [], L, x, h => by simpa using h
  | y :: ys, L, x, h => by
    refine addKey_mem ys (addKey L y) x ?_
    unfold addKey
    rcases h with h | h
    · left; split
      · exact h
      · exact List.mem_append_left _ h
    · rcases List.mem_cons.1 h with rfl | h
      · left; split
        · rename_i h1
          obtain ⟨z, hz, hs⟩ := List.any_eq_true.1 h1
          have : z = x := Classical.byContradiction fun hne => by rw [sameKey_ne hne] at hs; cases hs
          exact this ▸ hz
        · simp
      · exact .inr h
theorem size_full {H : Type} (A : Nat → Nat → Bool) (l : List Int) (n a K : Nat) (h : ∀ c : Nat, (c : Int) < K → ∃ b, b < n ∧ A a b = true ∧ l.getD b (-1) = (c : Int)) : K ≤ Maps.size (Sj (H := H) A l a n) := by
  unfold Sj
  rw [size_setOf _ _ (keysJ_key A l a n)]
  haveI : DecidableEq Lit := fun _ _ => Classical.propDecidable _
  have h1 := len_le_of_sub ((List.range K).map (fun c : Nat => Lit.int .i64 (c : Int))) ((keysJ A l a n).foldl addKey []) ?_ ?_
  · simpa using h1
  · rw [List.Nodup, List.pairwise_map]
    exact List.nodup_range.imp fun h e => h (by injection e with _ e; omega)
  · intro x hx
    obtain ⟨c, hc, rfl⟩ := List.mem_map.1 hx
    obtain ⟨b, hb, hA, hv⟩ := h c (by have := List.mem_range.1 hc; omega)
    refine addKey_mem _ _ _ (.inr ?_)
    unfold keysJ
    exact List.mem_map.2 ⟨b, List.mem_filter.2 ⟨List.mem_range.2 hb, by rw [hA, hv]; simp⟩, by rw [hv]⟩
theorem lawI : Keyed Tryd.prog 3 := int_keyed Tryd.underlying3
theorem key_i (x : Int) (h : -9223372036854775808 ≤ x ∧ x ≤ 9223372036854775807) : keyOf Tryd.prog 3 (.int .i64 x) = some (.int .i64 x) := by
  refine keyOf_int_mk Tryd.underlying3 ?_
  simp [Lit.wf, IntKind.min, IntKind.max, IntKind.bits, IntKind.signed]; omega

end Go.Proofs.YtlajdcikhbocdaaDoor

/- The law RegallocLists. -/
set_option linter.unusedVariables false
set_option linter.unusedSimpArgs false
namespace Go.Proofs.YtlajdcikhbocdaaDoor
open Go.RowKit

/-- The edges of the two graphs agree. -/
theorem colorG_congr (n : Nat) (A B : Nat → Nat → Bool) (k : Int) (h : ∀ a b, a < n → b < n → A a b = B a b) : colorG n A k = colorG n B k := by
  have hnb : ∀ a, a < n → nbs n A a = nbs n B a := fun a ha => List.filter_congr fun b hb => h a b ha (List.mem_range.1 hb)
  have hdeg : ∀ g a, a < n → degG n A g a = degG n B g a := fun g a ha => by unfold degG; rw [hnb a ha]
  have hscan : ∀ g (c i : Nat) (m : Int), i + c ≤ n → (m < 0 ∨ m.toNat < n) → scanG (degG n A g) g k c i m = scanG (degG n B g) g k c i m := by
    intro g c
    induction c with
    | zero => exact fun _ _ _ _ => rfl
    | succ c ih =>
      intro i m hi hm
      unfold scanG
      rw [hdeg g i (by omega)]
      by_cases hg : g.contains i = true
      · rw [if_pos hg, if_pos hg]; exact ih _ _ (by omega) hm
      · rw [if_neg hg, if_neg hg]
        by_cases hd : (degG n B g i : Int) < k
        · rw [if_pos hd, if_pos hd]
        · rw [if_neg hd, if_neg hd]
          have e : (m < 0 ∨ degG n A g m.toNat < degG n B g i) ↔ (m < 0 ∨ degG n B g m.toNat < degG n B g i) := by
            rcases hm with h | h
            · simp [h]
            · rw [hdeg g _ h]
          by_cases hc : m < 0 ∨ degG n B g m.toNat < degG n B g i
          · rw [if_pos (e.2 hc), if_pos hc]; exact ih _ _ (by omega) (by omega)
          · rw [if_neg (fun h => hc (e.1 h)), if_neg hc]; exact ih _ _ (by omega) hm
  have hnext : ∀ g, nextG n A k g = nextG n B k g := fun g => hscan g n 0 (-1) (by omega) (.inl (by omega))
  have hrem : ∀ c g, removeG n A k c g = removeG n B k c g := by
    intro c
    induction c with
    | zero => exact fun _ => rfl
    | succ c ih => intro g; unfold removeG; rw [hnext, ih]
  have hpick : ∀ out a, a < n → pickG n A k out a = pickG n B k out a := fun out a ha => by
    have : freeG n A out a = freeG n B out a := by funext c; unfold freeG; rw [hnb a ha]
    unfold pickG; rw [this]
  have hsel : ∀ (l : List Nat) (out : List Int), (∀ x ∈ l, x < n) → selectG n A k l out = selectG n B k l out := by
    intro l
    induction l with
    | nil => exact fun _ _ => rfl
    | cons a l ih => intro out hl; unfold selectG; rw [hpick out a (hl a (List.mem_cons_self ..)), ih _ (fun x hx => hl x (List.mem_cons_of_mem _ hx))]
  unfold colorG
  rw [hrem]
  exact hsel _ _ fun x hx => ((removed (n := n) (A := B) (k := k)).2.2 x).1 (List.mem_reverse.1 hx)

/-- What the second graph's rows hold: every listed edge stands in it, and nothing else. -/
structure Same2 (e : List (List Int)) (a : Nat) (j : Nat) (X : Nat → List Int) : Prop where
  /-- rows below a, and of row a the places from j on, have been taken over -/
  own : ∀ r b, (r < a ∨ (r = a ∧ ∃ i, j ≤ i ∧ i < (e.getD a []).length ∧ (e.getD a []).getD i 0 = b)) → r < e.length → (r < a → b ∈ e.getD r []) → b ∈ X r
  only : ∀ r b, b ∈ X r → b ∈ e.getD r [] ∨ (∃ s : Nat, s < e.length ∧ b = (s : Int) ∧ ((r : Nat) : Int) ∈ e.getD s [])

theorem Same2.adj {e : List (List Int)} {X : Nat → List Int} (h : Same2 e e.length 0 X) (f : List (List Int)) (hf : ∀ r, r < e.length → f.getD r [] = X r) (a b : Nat) (ha : a < e.length) (hb : b < e.length) : adjG f a b = adjG e a b := by
  have key : ∀ a b : Nat, a < e.length → b < e.length → adjG f a b = true → adjG e a b = true := by
    intro a b ha hb h1
    unfold adjG at h1 ⊢
    rw [Bool.and_eq_true, Bool.or_eq_true, List.contains_iff_mem, List.contains_iff_mem] at h1 ⊢
    refine ⟨h1.1, ?_⟩
    rcases h1.2 with h2 | h2
    · rw [hf a ha] at h2
      rcases h.only a b h2 with h3 | ⟨s, _, h4, h5⟩
      · exact .inl h3
      · have : s = b := by omega
        subst this; exact .inr h5
    · rw [hf b hb] at h2
      rcases h.only b a h2 with h3 | ⟨s, _, h4, h5⟩
      · exact .inr h3
      · have : s = a := by omega
        subst this; exact .inl h5
  have key2 : adjG e a b = true → adjG f a b = true := by
    intro h1
    unfold adjG at h1 ⊢
    rw [Bool.and_eq_true, Bool.or_eq_true, List.contains_iff_mem, List.contains_iff_mem] at h1 ⊢
    refine ⟨h1.1, ?_⟩
    rcases h1.2 with h2 | h2
    · left; rw [hf a ha]; exact h.own a b (.inl ha) ha (fun _ => h2)
    · right; rw [hf b hb]; exact h.own b a (.inl hb) hb (fun _ => h2)
  rw [Bool.eq_iff_iff]
  exact ⟨key a b ha hb, key2⟩
theorem Same2.start (e : List (List Int)) : Same2 e 0 (e.getD 0 []).length (fun _ => []) :=
  ⟨fun r b h hr hb => by rcases h with h | ⟨_, i, h1, h2, _⟩ <;> omega, fun r b h => by simp at h⟩
theorem Same2.row {e : List (List Int)} {a : Nat} {X : Nat → List Int} (h : Same2 e a 0 X) (ha : a < e.length) : Same2 e (a+1) (e.getD (a+1) []).length X :=
  ⟨fun r b h1 hr hb => by
    rcases h1 with h1 | ⟨_, i, h2, h3, _⟩
    · by_cases e1 : r = a
      · subst e1
        obtain ⟨i, hi, ei⟩ := List.mem_iff_getElem.1 (hb (by omega))
        refine h.own r b (.inr ⟨rfl, i, Nat.zero_le _, hi, ?_⟩) hr (fun h => by omega)
        rw [List.getD_eq_getElem?_getD, List.getElem?_eq_getElem hi]; exact ei
      · exact h.own r b (.inl (by omega)) hr (fun _ => hb h1)
    · omega, h.only⟩
/-- One place is taken over: to its own row, twice, and to the other's. -/
theorem Same2.put {e : List (List Int)} {a j : Nat} {X Y : Nat → List Int} {y : Int} (h : Same2 e a (j+1) X) (ha : a < e.length) (hj : j < (e.getD a []).length) (hy : (e.getD a []).getD j 0 = y)
    (hsub : ∀ r b, b ∈ X r → b ∈ Y r) (hin : y ∈ Y a) (honly : ∀ r b, b ∈ Y r → b ∈ X r ∨ (r = a ∧ b = y) ∨ ((r : Int) = y ∧ b = (a : Int))) : Same2 e a j Y := by
  have hmem : y ∈ e.getD a [] := by
    rw [← hy]
    generalize e.getD a [] = l at hj ⊢
    rw [List.getD_eq_getElem?_getD, List.getElem?_eq_getElem hj]; exact List.getElem_mem hj
  refine ⟨fun r b h1 hr hb => ?_, fun r b h1 => ?_⟩
  · rcases h1 with h1 | ⟨rfl, i, h2, h3, h4⟩
    · exact hsub r b (h.own r b (.inl h1) hr hb)
    · by_cases e1 : i = j
      · subst e1; rw [hy] at h4; subst h4; exact hin
      · exact hsub r b (h.own r b (.inr ⟨rfl, i, by omega, h3, h4⟩) hr hb)
  · rcases honly r b h1 with h2 | ⟨rfl, rfl⟩ | ⟨h2, rfl⟩
    · exact h.only r b h2
    · exact .inl hmem
    · exact .inr ⟨a, ha, rfl, by rw [h2]; exact hmem⟩

/-- A slice is stored into one cell: the world behind it under a name. -/
theorem wpList_store_slice {P : Program} {w : World} {ops : Array Oper} {rest : List Oper} {o : Oper} {a : Act} {Q : Exit → Act → World → Prop} (hgd : o.guard = none) (ty : TypeId) (x y : Operand) (ho : o.op = .store ty x y) (hd : o.dst = none)
    (b k : Nat) (p : Option Addr) (n c : Nat) (hx : a.eval x = .pointer (some ⟨b, k, none⟩)) (hy : a.eval y = .slice p n c) (hc : (w.cell? ⟨b, k, none⟩).isSome = true) (hf : w.frozen? ⟨b, k, none⟩ = false) (hi : (P.info? ty).map (·.size) = some 1)
    (h : ∀ w', Hid (w' = w.setCell ⟨b, k, none⟩ (.slice p n c)) → wpList P ops Q rest a w') : wpList P ops Q (o :: rest) a w := by
  refine wpList_plain hgd fun K hK => ?_
  have hr := run_storeCells_cells (P := P) b k [.slice p n c] 0 w (fun j hj => by
    have : j = 0 := by simpa using hj
    subst this; exact hc) (fun j hj => by
    have : j = 0 := by simpa using hj
    subst this; exact hf) (fun v hv => by
    have : v = .slice p n c := by simpa using hv
    subst this; rfl)
  cases hq : P.info? ty with
  | none => simp [hq] at hi
  | some i =>
    have hs : i.size = 1 := by simpa [hq] using hi
    simp only [Nat.add_zero] at hr
    have hr2 : (storeVar ty ⟨b, k, none⟩ (.slice p n c)).run P w = .ok () (w.setCell ⟨b, k, none⟩ (.slice p n c)) := by
      simp [storeVar, sizeOf, typeInfo, hq, Value.cells, hs, hr, World.setCells]
    unfold Oper.wp execOp
    simp only [ho, hx, hy, Instr.storeAt, Instr.sureAddr, Sem.run_bind, Sem.run_pure, Result.andThen_ok, hr2]
    have h2 : wpList P ops Q rest (a.put o.dst undef) (w.setCell ⟨b, k, none⟩ (.slice p n c)) := by rw [hd]; exact h _ rfl
    exact hK _ _ h2
theorem upd_sub {X : Nat → List Int} {k r : Nat} {l : List Int} {b : Int} (h : b ∈ X r) : b ∈ upd X k (X k ++ l) r := by
  by_cases e : r = k
  · subst e; rw [upd_same]; exact List.mem_append_left _ h
  · rw [upd_ne _ _ e]; exact h
theorem upd_only {X : Nat → List Int} {k r : Nat} {l : List Int} {b : Int} (h : b ∈ upd X k (X k ++ l) r) : b ∈ X r ∨ (r = k ∧ b ∈ l) := by
  by_cases e : r = k
  · subst e; rw [upd_same, List.mem_append] at h; exact h.imp id fun h => ⟨rfl, h⟩
  · rw [upd_ne _ _ e] at h; exact .inl h
theorem upd_len (X : Nat → List Int) (k : Nat) (l : List Int) (r : Nat) : (upd X k (X k ++ l) r).length ≤ (X r).length + l.length := by
  by_cases e : r = k
  · subst e; rw [upd_same, List.length_append]; exact Nat.le_refl _
  · rw [upd_ne _ _ e]; omega

end Go.Proofs.YtlajdcikhbocdaaDoor

