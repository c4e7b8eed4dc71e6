/- The neighbors of every node: regalloc.graph, by its contract. -/
import Derived.Test.YtifjcknklecdbaaDoorMs12
set_option linter.unusedVariables false
set_option linter.unusedSimpArgs false
namespace Go.Proofs.YtifjcknklecdbaaDoor
open Go.RowKit

theorem Rows.inplace {D : Nat → Prop} {w w' : World} {g n : Nat} {V : Nat → Value} {X : Nat → List Int} (h : Rows D w g n V X) {a : Nat} (ha : a < n) (hb : ∀ k, k < w.heap.size → (V a).ownBlock ≠ some k → w'.heap[k]? = w.heap[k]?)
    {xs : List Int} (hv : w'.ownsRow 0 3 1 (V a) xs.length (xs.map (Value.int .i64))) : Rows D w' g n V (upd X a xs) := by
  refine ⟨h.out.of_block (hb g h.out.lt (h.ne a ha)), fun i hi => ?_, h.ne, h.ap, h.dg, h.dom⟩
  by_cases e : i = a
  · subst e; rw [upd_same]; exact hv
  · rw [upd_ne _ _ e]
    exact own0_block (h.row i hi) fun k hk => hb k (own0_lt (h.row i hi) hk) (fun e3 => h.ap i a hi ha e k hk e3)
theorem Rows.values {D : Nat → Prop} {w : World} {g n : Nat} {V U : Nat → Value} {X : Nat → List Int} (h : Rows D w g n V X) (hU : ∀ i, i < n → V i = U i) : Rows D w g n U X :=
  ⟨h.out.congr hU, fun i hi => by rw [← hU i hi]; exact h.row i hi, fun i hi => by rw [← hU i hi]; exact h.ne i hi, fun i j hi hj hij k => by rw [← hU i hi, ← hU j hj]; exact h.ap i j hi hj hij k, h.dg, fun i hi k => by rw [← hU i hi]; exact h.dom i hi k⟩

/-- The first j entries of a row that are other nodes. -/
def filt (e : List (List Int)) (a j : Nat) : List Int := ((e.getD a []).take j).filter (fun b => decide (0 ≤ b ∧ b < (e.length : Int) ∧ b ≠ (a : Int)))
theorem filt_zero (e : List (List Int)) (a : Nat) : filt e a 0 = [] := by simp [filt]
theorem filt_end (e : List (List Int)) (a : Nat) : filt e a (e.getD a []).length = own0 e a := by unfold filt own0; rw [List.take_length]
theorem filt_next (e : List (List Int)) (a j : Nat) (hj : j < (e.getD a []).length) (y : Int) (hy : (e.getD a []).getD j 0 = y) : filt e a (j+1) = if 0 ≤ y ∧ y < (e.length : Int) ∧ y ≠ (a : Int) then filt e a j ++ [y] else filt e a j := by
  unfold filt
  have hy' : (e.getD a [])[j] = y := by rw [List.getD_eq_getElem?_getD, List.getElem?_eq_getElem hj] at hy; exact hy
  rw [List.take_succ_eq_append_getElem hj, hy', List.filter_append]
  by_cases h : 0 ≤ y ∧ y < (e.length : Int) ∧ y ≠ (a : Int)
  · rw [if_pos h, List.filter_cons_of_pos (by simpa using h)]; rfl
  · rw [if_neg h, List.filter_cons_of_neg (by simpa using h)]; simp
theorem filt_len (e : List (List Int)) (a j : Nat) : (filt e a j).length ≤ (e.getD a []).length := Nat.le_trans (List.length_filter_le _ _) (by rw [List.length_take]; omega)
theorem own1_len (e : List (List Int)) (a : Nat) : (own1 e a).length ≤ e.length := by
  unfold own1 upI
  rw [List.length_map]
  exact Nat.le_trans (List.length_filter_le _ _) (by simp)
theorem mis_len (e : List (List Int)) (a j b : Nat) : (mis e a j b).length ≤ a + 1 := by
  unfold mis upI
  rw [List.length_append, List.length_map]
  have h := List.length_filter_le (fun c => P1 e c b && !P1 e b c) (List.range a)
  rw [List.length_range] at h
  split
  · simp; omega
  · simp; omega

theorem bin_none (p : Option Addr) (x : Int) (cap : Nat) (w : World) : Calls Tryd.prog 41 #[.slice p 0 cap, .int .i64 x] w fun r w' => ∃ i, r = .returned (.tuple #[.int .i64 i, .bool false]) ∧ ∃ q, w' = w.drewN q := by
  go_enter Tryd.func41, Tryd.ntmps41
  go_wp2_with fail
  refine wp_loop_rounds 1 ?_
  rw [rounds_succ]
  go_wp2_with fail
  first
    | (go_ret2; exact ⟨_, rfl, 0, rfl⟩)
    | (go_ret; exact ⟨_, rfl, 0, rfl⟩)
theorem bin_any (v : Value) (xs : List Int) (x : Int) (w : World) (h : RdI w v xs) (hl : xs.length ≤ 1000000) (hs : xs.Pairwise (· < ·)) :
    Calls Tryd.prog 41 #[v, .int .i64 x] w fun r w' => ∃ i, r = .returned (.tuple #[.int .i64 i, .bool (xs.contains x)]) ∧ ∃ q, w' = w.drewN q := by
  obtain ⟨p, cap, rfl, hc⟩ := h
  by_cases h0 : xs.length = 0
  · have hx : xs = [] := List.length_eq_zero_iff.1 h0
    subst hx
    exact bin_none p x cap w
  · obtain ⟨m, off, rfl, hm, hx⟩ := hc 0 (by omega)
    refine (Tryd.slices_BinarySearch_int m off xs.length cap xs x w (Nat.le_refl _) (by omega) (fun j hj => ?_) (by rw [List.take_length]; exact hs.imp (fun h => by omega))).mono ?_
    · obtain ⟨m', off', e, _, hx⟩ := hc j hj
      cases e
      exact hx
    · rintro r w' ⟨rfl, q, rfl⟩
      rw [List.take_length]
      exact ⟨_, rfl, q, rfl⟩

/-- An element is appended to a row (a block is laid for it), and the row stored. -/
theorem Rows.pushed {D : Nat → Prop} {w w3 : World} {g n : Nat} {V : Nat → Value} {X : Nat → List Int} (h : Rows D w g n V X) {a : Nat} (ha : a < n) {o : Obj} (hg : (w.alloc o).grownBy w3 (V a).ownBlock) {v : Value} {xs : List Int}
    (hv : w3.ownsRow 0 3 1 v xs.length (xs.map (Value.int .i64))) (hk : v.ownBlock = (V a).ownBlock ∨ ∀ k, v.ownBlock = some k → (w.alloc o).heap.size ≤ k) (hD : ∀ k, w.heap.size ≤ k → D k) :
    Rows D (w3.setCell ⟨g, a, none⟩ v) g n (upd V a v) (upd X a xs) := by
  have hs := hg.size
  have hsz : (w.alloc o).heap.size = w.heap.size + 1 := by simp
  refine h.set ha (fun k hk hne => ?_) (by omega) hv (hk.imp id fun h k hk => by have := h k hk; omega) hD
  rw [hg.block k (by omega) (fun e => hne e.symm), Below.heap_alloc _ _ _ hk]
theorem Rows.pushed_below {B : Nat} {w0 w w3 : World} {g n : Nat} {V : Nat → Value} {X : Nat → List Int} {D : Nat → Prop} (h : Rows D w g n V X) {a : Nat} (ha : a < n) {o : Obj} (hg : (w.alloc o).grownBy w3 (V a).ownBlock) (hb : Below B w0 w) (hB : B ≤ w.heap.size) (hD : ∀ k, D k → B ≤ k) (u : Value) :
    Below B w0 (w3.setCell ⟨g, a, none⟩ u) :=
  bSet (hD g h.dg) (Below.grown (bAlloc hB hb) hg (by simp; omega) fun k hk => hD k (h.dom a ha k hk))
theorem Rows.pushed_out {D : Nat → Prop} {w w3 : World} {g n : Nat} {V : Nat → Value} {X : Nat → List Int} (h : Rows D w g n V X) {a : Nat} (ha : a < n) {o : Obj} (hg : (w.alloc o).grownBy w3 (V a).ownBlock) : w3.rowIs g 46 n V ∧ w.heap.size < w3.heap.size := by
  have hs := hg.size
  have hsz : (w.alloc o).heap.size = w.heap.size + 1 := by simp
  refine ⟨h.out.of_block ?_, by omega⟩
  rw [hg.block g (by have := h.out.lt; omega) (fun e => h.ne a ha e.symm), Below.heap_alloc _ _ _ h.out.lt]

theorem add_none0 (m off j : Nat) : (⟨m, off, none⟩ : Addr).add j = ⟨m, off + j, none⟩ := by unfold Addr.add; split <;> simp_all
/-- graph's contract. -/
def GraphPost (e : List (List Int)) (w : World) (r : Ending) (w' : World) : Prop :=
  ∃ g V, r = .returned (.slice (some ⟨g, 0, none⟩) e.length e.length) ∧ Rows (fun k => w.heap.size ≤ k) w' g e.length V (nbI e) ∧ Below w.heap.size w w'

set_option maxHeartbeats 6400000 in
set_option maxRecDepth 20000 in
theorem graph_any (v : Value) (e : List (List Int)) (w : World) (h : RdR w v e) (hm : RowsMax e 5000) (hn : e.length ≤ 1000) : Calls Tryd.prog 22 #[v] w (GraphPost e w) := by
  obtain ⟨p, cap, rfl⟩ := h.shape
  have HR := Lib.hid h
  have HM := Lib.hid hm
  clear h hm
  have hmkR := run_make_row' (P := Tryd.prog) 47 46 (.slice none 0 0) 24 Tryd.underlying47 infoL rfl .i64 .i64 e.length (by omega) (by omega)
  go_enter Tryd.func22, Tryd.ntmps22
  go_wp2_with fail
  go_loopw [24] (fun s24 wr => ∃ (k : Nat) (V : Nat → Value), s24 = .int .i64 k ∧ k ≤ e.length ∧ Hid (Rows (fun b => w.heap.size ≤ b) wr w.heap.size e.length V (fun i => if i < k then own1 e i else [])) ∧ Hid (Below w.heap.size w wr)) (fun s24 _ => e.length - (intOf s24).toNat)
  case atStart => exact ⟨0, _, rfl, Nat.zero_le _, (Rows.made w e.length (Nat.le_refl _)).congr (fun i _ => by rw [if_neg (by omega)]), bAlloc (Nat.le_refl _) (Below.refl _ _)⟩
  case round =>
    obtain ⟨k, V, rfl, hk, HW, HB⟩ := hrel
    obtain ⟨w1, rfl⟩ : ∃ W : World, W = wr := ⟨_, rfl⟩
    have hsz1 := HW.out.out.lt
    by_cases hlt : k < e.length
    · have hltI : (k : Int) < e.length := by omega
      obtain ⟨m1, o1, cap', q, c, e1, hm1, hx0, hr1⟩ := HR.out.row k hlt
      injection e1 with e1 e2 e3
      subst e1 e3
      have hx1 := (HB.out.cell (p := ⟨m1, o1 + k, none⟩) hm1).trans hx0
      have hml := HM.out k
      have HNX := Lib.hid (filt_next e k)
      have HE := Lib.hid (filt_end e k)
      have HL := Lib.hid (filt_len e k)
      generalize e.getD k [] = row at hx0 hx1 hr1 hml HNX HE HL
      have HROW := Lib.hid hr1
      clear hr1 hx0
      go_wp2_with fail
      go_loopw [31] (fun s31 wx => ∃ (j : Nat) (U : Nat → Value), s31 = .int .i64 j ∧ j ≤ row.length ∧ Hid (Rows (fun b => w.heap.size ≤ b) wx w.heap.size e.length U (upd (fun i => if i < k then own1 e i else []) k (filt e k j))) ∧ Hid (Below w.heap.size w wx)) (fun s31 _ => row.length - (intOf s31).toNat)
      case atStart =>
        refine ⟨0, V, rfl, Nat.zero_le _, HW.out.congr fun i _ => ?_, HB⟩
        rw [filt_zero]
        by_cases e1 : i = k
        · subst e1; rw [upd_same, if_neg (by omega)]
        · rw [upd_ne _ _ e1]
      case round =>
        obtain ⟨j, U, rfl, hj, HU, HBx⟩ := hrel
        obtain ⟨w2, rfl⟩ : ∃ W : World, W = wr := ⟨_, rfl⟩
        have hsz2 := HU.out.out.lt
        have hfz2 : w2.frozen? ⟨w.heap.size, k, none⟩ = false := HU.out.out.frozen k
        by_cases hlt2 : j < row.length
        · have hltJ : (j : Int) < row.length := by omega
          obtain ⟨q2, c2, hV2, hcl2⟩ := HU.out.cell hlt
          rw [upd_same] at hV2 hcl2
          have ho := HU.out.row k hlt
          rw [upd_same, hV2] at ho
          have HO := Lib.hid ho
          have HV := Lib.hid hV2
          have hfl := HL.out j
          clear ho hV2
          obtain ⟨m2, o2, cc, e1, hm2, hy0⟩ := rdI_at (HROW.out.below HBx.out (Nat.le_refl _)) j hlt2
          injection e1 with e1 e2 e3
          subst e1 e3
          have hnx := HNX.out j hlt2 _ rfl
          generalize row.getD j 0 = y at hy0 hnx
          by_cases hy : 0 ≤ y ∧ y < (e.length : Int) ∧ y ≠ (k : Int)
          · rw [if_pos hy] at hnx
            have HN := Lib.hid hnx
            obtain ⟨y1, y2, y3⟩ := hy
            have y4 : (y != (k : Int)) = true := by simpa using y3
            clear hnx
            go_wp2_with (first | (at_builtin; refine wpList_append_one rfl _ _ rfl 0 _ (filt e k j) rfl (HO.out.alloc _) _ _ (y) rfl (by simp [go_sem]) (by omega) (Nat.zero_le _) ?_))
            intro p3 c3 w3 hO3 hg3 hd3
            have hg4 : (w2.alloc (.cells #[Value.int .i64 y] 3)).grownBy w3 (U k).ownBlock := by rw [HV.out]; exact hg3
            obtain ⟨hR3, hs3⟩ := HU.out.pushed_out hlt hg4
            have hfz3 : w3.frozen? ⟨w.heap.size, k, none⟩ = false := hR3.frozen k
            have hcl3 : w3.cell? ⟨w.heap.size, k, none⟩ = some (U k) := hR3.cell hlt
            have HG := Lib.hid hg4
            have HO3 := Lib.hid hO3
            have HD3 := Lib.hid hd3
            clear hg3 hg4 hO3 hd3 hR3
            go_wp2_with fail
            go_roundw
            case rel =>
              refine ⟨j + 1, upd U k (.slice p3 ((filt e k j).length + 1) c3), by go_num, by omega, (HU.out.pushed hlt HG.out (xs := filt e k j ++ [y]) (by simpa using HO3.out) (by rw [HV.out]; exact HD3.out.imp id fun h b hb => by have := h b hb; simp; omega) (fun b hb => by omega)).congr fun i _ => ?_, HU.out.pushed_below hlt HG.out HBx.out HBx.out.size (fun b hb => hb) _⟩
              by_cases e1 : i = k
              · subst e1; rw [upd_same, upd_same, HN.out]
              · rw [upd_ne _ _ e1, upd_ne _ _ e1, upd_ne _ _ e1]
            case measure => simp [intOf]; omega
          · rw [if_neg hy] at hnx
            have HN := Lib.hid hnx
            have hy2 : y < 0 ∨ (0 ≤ y ∧ ¬ y < (e.length : Int)) ∨ (0 ≤ y ∧ y < (e.length : Int) ∧ y = (k : Int)) := by omega
            clear hnx hy
            rcases hy2 with h1 | ⟨h1, h2⟩ | ⟨h1, h2, h3⟩
            all_goals (
              try subst h3
              go_wp2_with fail
              go_roundw
              case rel => exact ⟨j + 1, U, by go_num, by omega, HU.out.congr (fun i _ => by rw [HN.out]), HBx⟩
              case measure => simp [intOf]; omega)
        · have hjl : j = row.length := by omega
          subst hjl
          have hu := HU.out
          rw [HE.out] at hu
          obtain ⟨q2, c2, hV2, hcl2⟩ := hu.cell hlt
          have ho := hu.row k hlt
          rw [upd_same] at hV2 hcl2
          rw [upd_same, hV2] at ho
          have hol : (own0 e k).length ≤ 5000 := by rw [← HE.out]; exact Nat.le_trans (HL.out _) hml
          have HS := Lib.hid (sort_row w2 _ (own0 e k) ho (by omega))
          have HU2 := Lib.hid hu
          have HV := Lib.hid hV2
          rw [HE.out] at HU
          clear hu ho hV2
          go_wp2_with fail
          refine HS.out.mono ?_
          rintro r w3 ⟨rfl, hO3, hg3⟩
          have hu3 : Rows (fun b => w.heap.size ≤ b) w3 w.heap.size e.length U (upd (upd (fun i => if i < k then own1 e i else []) k (own0 e k)) k (sortI (own0 e k))) := HU2.out.inplace hlt (fun b hb hne => hg3.block b hb (fun e => hne (by rw [HV.out]; exact e.symm))) (by rw [HV.out]; exact hO3)
          have hB3 : Below w.heap.size w w3 := HBx.out.grown hg3 HBx.out.size (fun b hb => HU2.out.dom k hlt b (by rw [HV.out]; exact hb))
          have hcl3 : w3.cell? ⟨w.heap.size, k, none⟩ = some (.slice q2 (own0 e k).length c2) := by rw [hu3.out.cell hlt, HV.out]
          have hsz3 := hu3.out.lt
          have hc3 := compact_row w3 _ (sortI (own0 e k)) hO3 (by rw [sortI_len]; omega)
          simp only [own1_eq] at hc3
          have HC := Lib.hid hc3
          have HU3 := Lib.hid hu3
          have HB3 := Lib.hid hB3
          clear HS hO3 hg3 hu3 hB3 hc3 hcl2 hfz2 hsz2 HU2 HU
          go_wp2_with fail
          refine HC.out.mono ?_
          rintro r w4 ⟨q4, c4, rfl, hO4, hg4, hob⟩
          have hne4 : w4.heap[w.heap.size]? = w3.heap[w.heap.size]? := hg4.block _ hsz3 (fun e => HU3.out.ne k hlt (by rw [HV.out]; exact e.symm))
          have hR4 := HU3.out.out.of_block hne4
          have hfz4 : w4.frozen? ⟨w.heap.size, k, none⟩ = false := hR4.frozen k
          have hcl4 : w4.cell? ⟨w.heap.size, k, none⟩ = some (U k) := hR4.cell hlt
          have hsz4 := hR4.lt
          have hu4 := HU3.out.set hlt (w' := w4) (fun b hb hne => hg4.block b hb (fun e => hne (by rw [HV.out]; exact e.symm))) hg4.size hO4 (.inl (by rw [HV.out]; exact hob)) (fun b hb => by have := HB3.out.size; omega)
          have HU4 := Lib.hid hu4
          have HB4 := Lib.hid (HB3.out.grown hg4 HB3.out.size (fun b hb => HU3.out.dom k hlt b (by rw [HV.out]; exact hb)))
          clear HC hO4 hg4 hne4 hR4 hu4 hcl3 hsz3 HU3 HB3
          go_wp2_with fail
          go_roundw
          case rel =>
            refine ⟨k + 1, _, by go_num, by omega, HU4.out.congr fun i _ => ?_, bSet (Nat.le_refl _) HB4.out⟩
            by_cases e1 : i = k
            · subst e1; rw [upd_same, if_pos (by omega)]
            · rw [upd_ne _ _ e1, upd_ne _ _ e1, upd_ne _ _ e1]
              by_cases e2 : i < k
              · rw [if_pos e2, if_pos (by omega)]
              · rw [if_neg e2, if_neg (by omega)]
          case measure => simp [intOf]; omega
    · have hw1 := HW.out.congr (Y := own1 e) fun i hi => by rw [if_pos (by omega)]
      have HW1 := Lib.hid hw1
      clear hw1 HW
      go_wp2_with fail
      go_loopw [76] (fun s76 wr => ∃ (k : Nat) (M : Nat → Value), s76 = .int .i64 k ∧ k ≤ e.length ∧ Hid (Rows (fun b => w1.heap.size ≤ b) wr w1.heap.size e.length M (mis e k 0)) ∧ Hid (Below w1.heap.size w1 wr)) (fun s76 _ => e.length - (intOf s76).toNat)
      case atStart => exact ⟨0, _, rfl, Nat.zero_le _, (Rows.made w1 e.length (Nat.le_refl _)).congr (fun i _ => (mis_start e i).symm), bAlloc (Nat.le_refl _) (Below.refl _ _)⟩
      case round =>
        obtain ⟨k2, M, rfl, hk2, HM2, HB2⟩ := hrel
        obtain ⟨w2, rfl⟩ : ∃ W : World, W = wr := ⟨_, rfl⟩
        have hsz2 := HM2.out.out.lt
        by_cases hlt2 : k2 < e.length
        · have hltI : (k2 : Int) < e.length := by omega
          obtain ⟨q, c, hVk, hclk⟩ := (HW1.out.below HB2.out).cell hlt2
          have hgs2 := (HW1.out.below HB2.out).out.lt
          have HVk := Lib.hid hVk
          have hml := own1_len e k2
          clear hVk
          have HNat := Lib.hid (own1_nat e k2)
          have HNx := Lib.hid (mis_next e k2)
          have HRow := Lib.hid (fun b hb => mis_row e k2 b hb)
          have HRd := Lib.hid (fun (W : World) (hb : Below w1.heap.size w1 W) => (show RdI W (.slice q (own1 e k2).length c) (own1 e k2) from HVk.out ▸ RdI.of_own ((HW1.out.below hb).row k2 hlt2)))
          generalize own1 e k2 = row at hclk HVk hml HNat HNx HRow HRd
          go_wp2_with fail
          go_loopw [83] (fun s83 wx => ∃ (j : Nat) (U : Nat → Value), s83 = .int .i64 j ∧ j ≤ row.length ∧ Hid (Rows (fun b => w1.heap.size ≤ b) wx w1.heap.size e.length U (mis e k2 j)) ∧ Hid (Below w1.heap.size w1 wx)) (fun s83 _ => row.length - (intOf s83).toNat)
          case atStart => exact ⟨0, M, rfl, Nat.zero_le _, HM2, HB2⟩
          case round =>
            obtain ⟨j, U, rfl, hj, HU, HBx⟩ := hrel
            obtain ⟨w3, rfl⟩ : ∃ W : World, W = wr := ⟨_, rfl⟩
            have hsz3 := HU.out.out.lt
            by_cases hlt3 : j < row.length
            · have hltJ : (j : Int) < row.length := by omega
              obtain ⟨m2, o2, cc, e1, hm2, hy0⟩ := rdI_at (HRd.out w3 HBx.out) j hlt3
              injection e1 with e1 e2 e3
              subst e1 e3
              obtain ⟨b, hb, hbn, -⟩ := HNat.out j hlt3
              have HNb := Lib.hid (HNx.out j b hlt3 hb)
              rw [hb] at hy0
              clear hb
              have hbI : (b : Int) < e.length := by omega
              have hOw := HW1.out.below HBx.out
              have hgs3 := hOw.out.lt
              obtain ⟨qb, cb, hVb, hclb⟩ := hOw.cell hbn
              have hbin := bin_any _ (own1 e b) (k2 : Int) w3 (hVb ▸ RdI.of_own (hOw.row b hbn)) (by have := own1_len e b; omega) (own1_lt e b)
              rw [mem_own1 e b k2 hlt2] at hbin
              have HBin := Lib.hid hbin
              clear hbin hOw hVb
              go_wp2_with fail
              refine HBin.out.mono ?_
              rintro r w4 ⟨i0, rfl, nq, hw4⟩
              have hu4 : Rows (fun b => w1.heap.size ≤ b) w4 w1.heap.size e.length U (mis e k2 j) := by rw [hw4]; exact HU.out.keep fun _ _ _ => rfl
              have hb4 : Below w1.heap.size w1 w4 := by rw [hw4]; exact bDrewN HBx.out
              have hsz4 := hu4.out.lt
              have HU4 := Lib.hid hu4
              have HB4 := Lib.hid hb4
              clear HBin hw4 hu4 hb4 hclb hgs3
              generalize P1 e b k2 = pb at HNb ⊢
              cases pb
              · obtain ⟨q5, c5, hV5, hcl5⟩ := HU4.out.cell hbn
                have ho := HU4.out.row b hbn
                rw [hV5] at ho
                have HO := Lib.hid ho
                have HV := Lib.hid hV5
                have hfl := mis_len e k2 j b
                clear ho hV5
                go_wp2_with (first | (at_builtin; refine wpList_append_one rfl _ _ rfl 0 _ (mis e k2 j b) rfl (HO.out.alloc _) _ _ (k2 : Int) rfl (by simp [go_sem]) (by omega) (Nat.zero_le _) ?_))
                intro p5 c6 w5 hO5 hg5 hd5
                have hg6 : (w4.alloc (.cells #[Value.int .i64 k2] 3)).grownBy w5 (U b).ownBlock := by rw [HV.out]; exact hg5
                obtain ⟨hR5, hs5⟩ := HU4.out.pushed_out hbn hg6
                have hfz5 : w5.frozen? ⟨w1.heap.size, b, none⟩ = false := hR5.frozen b
                have hcl6 : w5.cell? ⟨w1.heap.size, b, none⟩ = some (U b) := hR5.cell hbn
                have HG := Lib.hid hg6
                have HO5 := Lib.hid hO5
                have HD5 := Lib.hid hd5
                clear hg5 hg6 hO5 hd5 hR5
                go_wp2_with fail
                go_roundw
                case rel =>
                  refine ⟨j + 1, upd U b (.slice p5 ((mis e k2 j b).length + 1) c6), by go_num, by omega, (HU4.out.pushed hbn HG.out (xs := mis e k2 j b ++ [(k2 : Int)]) (by simpa using HO5.out) (by rw [HV.out]; exact HD5.out.imp id fun h b hb => by have := h b hb; simp; omega) (fun b hb => by omega)).congr fun i _ => ?_, HU4.out.pushed_below hbn HG.out HB4.out HB4.out.size (fun b hb => hb) _⟩
                  rw [HNb.out]
                  by_cases e1 : i = b
                  · subst e1; rw [upd_same, if_pos ⟨rfl, by first | trivial | rfl⟩]
                  · rw [upd_ne _ _ e1, if_neg (fun h => e1 h.1)]
                case measure => simp [intOf]; omega
              · go_wp2_with fail
                go_roundw
                case rel =>
                  refine ⟨j + 1, U, by go_num, by omega, HU4.out.congr (fun i _ => ?_), HB4⟩
                  rw [HNb.out, if_neg (fun h => Bool.noConfusion h.2)]
                case measure => simp [intOf]; omega
            · have hjl : j = row.length := by omega
              subst hjl
              go_wp2_with fail
              go_roundw
              case rel => exact ⟨k2 + 1, U, by go_num, by omega, HU.out.congr fun i hi => HRow.out i hi, HBx⟩
              case measure => simp [intOf]; omega
        · have hkn : k2 = e.length := by omega
          subst hkn
          have hM3 := HM2.out.mono (E := fun b => w1.heap.size ≤ b ∧ b < w2.heap.size) (fun b hb h => ⟨h, hb⟩)
          have hW3 := (HW1.out.mono (E := fun b => (w.heap.size ≤ b ∧ b < w1.heap.size) ∨ w2.heap.size ≤ b) (fun b hb h => .inl ⟨h, hb⟩)).below HB2.out
          have hB3 : Below w.heap.size w w2 := bThen HB2.out HB.out.size HB.out
          have HM3 := Lib.hid hM3
          have HW3 := Lib.hid hW3
          have HB3 := Lib.hid hB3
          have hs12 := HB2.out.size
          clear hM3 hW3 hB3 HM2 HW1 HB2 HB
          go_wp2_with fail
          go_loopw [112] (fun s112 wr => ∃ (k : Nat) (U : Nat → Value), s112 = .int .i64 k ∧ k ≤ e.length ∧ Hid (Rows (fun b => (w.heap.size ≤ b ∧ b < w1.heap.size) ∨ w2.heap.size ≤ b) wr w.heap.size e.length U (fun i => if i < k then nbI e i else own1 e i)) ∧ Hid (Rows (fun b => w1.heap.size ≤ b ∧ b < w2.heap.size) wr w1.heap.size e.length M (mis e e.length 0)) ∧ Hid (Below w.heap.size w wr) ∧ w2.heap.size ≤ wr.heap.size) (fun s112 _ => e.length - (intOf s112).toNat)
          case atStart => exact ⟨0, V, rfl, Nat.zero_le _, HW3.out.congr (fun i _ => by rw [if_neg (by omega)]), HM3, HB3, Nat.le_refl _⟩
          case round =>
            obtain ⟨k3, U, rfl, hk3, HU, HMs, HB4, hs4⟩ := hrel
            obtain ⟨w4, rfl⟩ : ∃ W : World, W = wr := ⟨_, rfl⟩
            have hsz4 := HU.out.out.lt
            have hsz5 := HMs.out.out.lt
            by_cases hlt4 : k3 < e.length
            · have hltI : (k3 : Int) < e.length := by omega
              obtain ⟨q, c, hVm, hclm⟩ := HMs.out.cell hlt4
              have hml := mis_len e e.length 0 k3
              have hrd : RdI w4 (.slice q (mis e e.length 0 k3).length c) (mis e e.length 0 k3) := hVm ▸ RdI.of_own (HMs.out.row k3 hlt4)
              have HF := Lib.hid (own_final e k3 hlt4)
              have HF0 := Lib.hid (own_same e k3 hlt4)
              generalize mis e e.length 0 k3 = mk at hclm hml hrd HF HF0
              clear hVm
              by_cases h0 : mk.length = 0
              · have hmk : mk = [] := List.length_eq_zero_iff.1 h0
                subst hmk
                go_wp2_with fail
                go_roundw
                case rel =>
                  refine ⟨k3 + 1, U, by go_num, by omega, HU.out.congr (fun i _ => ?_), HMs, HB4, hs4⟩
                  by_cases e1 : i = k3
                  · subst e1; rw [if_neg (by omega), if_pos (by omega)]; exact HF0.out (by first | trivial | rfl)
                  · by_cases e2 : i < k3
                    · rw [if_pos e2, if_pos (by omega)]
                    · rw [if_neg e2, if_neg (by omega)]
                case measure => simp [intOf]; omega
              · obtain ⟨m5, o5, cc, e1, hm5, -⟩ := rdI_at hrd 0 (by omega)
                injection e1 with e1 e2 e3
                subst e1 e3
                have HNews := Lib.hid (show ∀ j, j < mk.length → w4.cell? ((⟨m5, o5, none⟩ : Addr).add j) = some (.int .i64 (mk.getD j 0)) from fun j hj => by
                  obtain ⟨m', o', c', e1, _, h2⟩ := rdI_at hrd j hj
                  injection e1 with e1 e2 e3
                  cases e1
                  rw [add_none0]; exact h2)
                obtain ⟨q5, c5, hV5, hcl5⟩ := HU.out.cell hlt4
                have ho := HU.out.row k3 hlt4
                have hfz4 : w4.frozen? ⟨w.heap.size, k3, none⟩ = false := HU.out.out.frozen k3
                have hol := own1_len e k3
                rw [if_neg (show ¬ k3 < k3 by omega)] at hV5 hcl5 ho
                rw [hV5] at ho
                have HO := Lib.hid ho
                have HV := Lib.hid hV5
                clear ho hV5 hrd
                have hmp : (0 : Int) < mk.length := by omega
                go_wp2_with (first | (at_builtin; refine wpList_append_int rfl _ _ rfl 0 _ (own1 e k3) rfl HO.out _ _ mk rfl HNews.out (by omega) (Nat.zero_le _) ?_))
                intro p6 c6 w6 hO6 hg6 hd6
                obtain ⟨ll, hll⟩ : ∃ l, l = own1 e k3 ++ mk := ⟨_, rfl⟩
                have hlen : (own1 e k3).length + mk.length = ll.length := by rw [hll, List.length_append]
                have hO7 : w6.ownsRow 0 3 1 (.slice p6 ll.length c6) ll.length (ll.map (Value.int .i64)) := by rw [hll]; simpa using hO6
                rw [hlen] at hd6 ⊢
                have hg7 : w4.grownBy w6 (U k3).ownBlock := by rw [HV.out]; exact hg6
                have hd7 : (Value.slice p6 ll.length c6).ownBlock = (U k3).ownBlock ∨ ∀ k, (Value.slice p6 ll.length c6).ownBlock = some k → w4.heap.size ≤ k := by rw [HV.out]; exact hd6
                have hne6 : w6.heap[w.heap.size]? = w4.heap[w.heap.size]? := hg7.block _ hsz4 (fun e => HU.out.ne k3 hlt4 e.symm)
                have hR6 := HU.out.out.of_block hne6
                have hfz6 : w6.frozen? ⟨w.heap.size, k3, none⟩ = false := hR6.frozen k3
                have hcl6 : w6.cell? ⟨w.heap.size, k3, none⟩ = some (U k3) := hR6.cell hlt4
                have hsz6 := hR6.lt
                have hu7 := HU.out.set hlt4 (w' := w6) (fun b hb hne => hg7.block b hb (fun e => hne e.symm)) hg7.size hO7 hd7 (fun b hb => .inr (by omega))
                have hs6 := hg7.size
                have hgm : w.heap.size < w1.heap.size := by
                  rcases HU.out.dg with h | h
                  · exact h.2
                  · omega
                have hB7 : Below w.heap.size w (w6.setCell ⟨w.heap.size, k3, none⟩ (.slice p6 ll.length c6)) := bSet (Nat.le_refl _) (HB4.out.grown hg7 HB4.out.size (fun b hb => by rcases HU.out.dom k3 hlt4 b hb with h | h <;> omega))
                have hm7 : ∀ b, (w1.heap.size ≤ b ∧ b < w2.heap.size) → b < w4.heap.size → (w6.setCell ⟨w.heap.size, k3, none⟩ (.slice p6 ll.length c6)).heap[b]? = w4.heap[b]? := fun b hD hb => by
                  rw [Below.heap_setCell _ _ _ _ (show b ≠ w.heap.size by omega)]
                  exact hg7.block b hb (fun e => by rcases HU.out.dom k3 hlt4 b e.symm with h | h <;> omega)
                have ho7 := hu7.row k3 hlt4
                rw [upd_same, upd_same] at ho7
                have HS := Lib.hid (sort_row _ _ ll ho7 (by rw [← hlen]; omega))
                have HU7 := Lib.hid hu7
                have HB7 := Lib.hid hB7
                have HM7 := Lib.hid hm7
                have HLL := Lib.hid hll
                clear hO6 hg6 hd6 hO7 hg7 hd7 hne6 hR6 hu7 hB7 hm7 ho7 hll hlen
                go_wp2_with fail
                refine HS.out.mono ?_
                rintro r w8 ⟨rfl, hO8, hg8⟩
                have hvk : upd U k3 (Value.slice p6 ll.length c6) k3 = .slice p6 ll.length c6 := upd_same _ _ _
                have hu8 := HU7.out.inplace hlt4 (w' := w8) (fun b hb hne => hg8.block b hb (fun e => hne (by rw [hvk]; exact e.symm))) (xs := sortI ll) (by rw [hvk]; exact hO8)
                have hs8 := hg8.size
                have hm8 := HMs.out.keep (w' := w8) (fun b hD hb => by
                  rw [hg8.block b (by simp [World.setCell]; omega) (fun e => by rcases HU7.out.dom k3 hlt4 b (by rw [hvk]; exact e.symm) with h | h <;> omega)]
                  exact HM7.out b hD hb)
                have hB8 := HB7.out.grown hg8 HB7.out.size (fun b hb => by rcases HU7.out.dom k3 hlt4 b (by rw [hvk]; exact hb) with h | h <;> omega)
                have HU8 := Lib.hid hu8
                have HM8 := Lib.hid hm8
                have HB8 := Lib.hid hB8
                clear hu8 hm8 hB8 hO8 hg8 HS HU7 HB7 HM7 hcl6 hfz6 hcl5 hfz4
                have hsS : w6.heap.size ≤ w8.heap.size := by simpa [World.setCell] using hs8
                clear hs8
                go_wp2_with fail
                go_roundw
                case rel =>
                  refine ⟨k3 + 1, _, by go_num, by omega, HU8.out.congr (fun i _ => ?_), HM8, HB8, by omega⟩
                  by_cases e1 : i = k3
                  · subst e1; rw [upd_same, if_pos (by omega), HLL.out]; exact HF.out
                  · rw [upd_ne _ _ e1, upd_ne _ _ e1]
                    by_cases e2 : i < k3
                    · rw [if_pos e2, if_pos (by omega)]
                    · rw [if_neg e2, if_neg (by omega)]
                case measure => simp [intOf]; omega
            · go_wp2_with fail
              go_ret
              refine ⟨_, U, rfl, (HU.out.congr fun i hi => by rw [if_pos (by omega)]).mono (fun b _ h => by rcases h with h | h <;> omega), HB4.out⟩
end Go.Proofs.YtifjcknklecdbaaDoor
