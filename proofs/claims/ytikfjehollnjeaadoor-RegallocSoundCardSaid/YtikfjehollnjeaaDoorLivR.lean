/- The reference's Part, by its contract. -/
import Derived.Test.YtikfjehollnjeaaDoorLivQ
import Derived.StillTailTactics
set_option linter.unusedVariables false
set_option linter.unusedSimpArgs false
namespace Go.Proofs.YtikfjehollnjeaaDoor
open Go.RowKit Go.Maps Go.WideMaps

/-- Row i of the reference's graph of some nodes: its first j places. -/
def partJ (E : List (List Int)) (S : List Nat) (i j : Nat) : List Int := ((List.range j).filter (fun k => adjG E (S.getD i 0) (S.getD k 0))).map Int.ofNat
theorem filtR_next (f : Nat → Bool) (j : Nat) : ((List.range (j + 1)).filter f).map Int.ofNat = if f j = true then ((List.range j).filter f).map Int.ofNat ++ [(j : Int)] else ((List.range j).filter f).map Int.ofNat := by
  rw [List.range_succ, List.filter_append, List.map_append]
  by_cases h : f j = true
  · rw [if_pos h, List.filter_cons_of_pos h]; rfl
  · rw [if_neg h, List.filter_cons_of_neg h]; simp
theorem partJ_next (E : List (List Int)) (S : List Nat) (i j : Nat) : partJ E S i (j + 1) = if adjG E (S.getD i 0) (S.getD j 0) = true then partJ E S i j ++ [(j : Int)] else partJ E S i j := by
  exact filtR_next (fun k => adjG E (S.getD i 0) (S.getD k 0)) j
theorem partJ_len (E : List (List Int)) (S : List Nat) (i j : Nat) : (partJ E S i j).length ≤ j := by
  unfold partJ
  rw [List.length_map]
  have := List.length_filter_le (fun k => adjG E (S.getD i 0) (S.getD k 0)) (List.range j)
  rw [List.length_range] at this; exact this
def pF (E : List (List Int)) (S : List Nat) (i j t : Nat) : List Int := if t < i then partJ E S t S.length else if t = i then partJ E S i j else []
theorem pF_self (E : List (List Int)) (S : List Nat) (i j : Nat) : pF E S i j i = partJ E S i j := by unfold pF; rw [if_neg (by omega), if_pos rfl]
theorem pF_zero (E : List (List Int)) (S : List Nat) (t : Nat) : pF E S 0 0 t = [] := by
  unfold pF
  rw [if_neg (by omega)]
  split
  · rfl
  · rfl
theorem pF_upd {E : List (List Int)} {S : List Nat} {i j : Nat} (h : adjG E (S.getD i 0) (S.getD j 0) = true) : pF E S i (j + 1) = upd (pF E S i j) i (pF E S i j i ++ [(j : Int)]) := by
  funext t
  by_cases e : t = i
  · subst e; rw [upd_same, pF_self, pF_self, partJ_next, if_pos h]
  · rw [upd_ne _ _ e]; unfold pF; simp only [if_neg e]
theorem pF_same {E : List (List Int)} {S : List Nat} {i j : Nat} (h : adjG E (S.getD i 0) (S.getD j 0) = false) : pF E S i (j + 1) = pF E S i j := by
  unfold pF; rw [partJ_next, if_neg (by rw [h]; decide)]
theorem pF_end (E : List (List Int)) (S : List Nat) (i : Nat) : pF E S i S.length = pF E S (i + 1) 0 := by
  funext t
  unfold pF
  by_cases e : t < i
  · rw [if_pos e, if_pos (by omega)]
  · rw [if_neg e]
    by_cases e2 : t = i
    · subst e2; rw [if_pos rfl, if_pos (by omega)]
    · rw [if_neg e2, if_neg (by omega)]
      split
      · rfl
      · rfl
def partE (E : List (List Int)) (S : List Nat) : List (List Int) := (List.range S.length).map (fun i => partJ E S i S.length)
theorem partE_len (E : List (List Int)) (S : List Nat) : (partE E S).length = S.length := by simp [partE]
theorem partE_at (E : List (List Int)) (S : List Nat) {i : Nat} (hi : i < S.length) : (partE E S).getD i [] = partJ E S i S.length := by simp [partE, List.getD_eq_getElem?_getD, hi]
theorem mem_partJ {E : List (List Int)} {S : List Nat} {i j k : Nat} : (k : Int) ∈ partJ E S i j ↔ k < j ∧ adjG E (S.getD i 0) (S.getD k 0) = true := by
  unfold partJ
  rw [List.mem_map]
  constructor
  · rintro ⟨a, ha, e⟩
    have e : a = k := by
      have e2 : (a : Int) = (k : Int) := e
      omega
    subst e
    rw [List.mem_filter, List.mem_range] at ha; exact ha
  · intro h
    exact ⟨k, List.mem_filter.2 ⟨List.mem_range.2 h.1, h.2⟩, rfl⟩
theorem partE_adj (E : List (List Int)) (S : List Nat) (a b : Nat) (ha : a < S.length) (hb : b < S.length) : adjG (partE E S) a b = adjG E (S.getD a 0) (S.getD b 0) := by
  have h1 : adjG (partE E S) a b = (a != b && (((partE E S).getD a []).contains (b : Int) || ((partE E S).getD b []).contains (a : Int))) := rfl
  rw [h1, partE_at E S ha, partE_at E S hb, Bool.eq_iff_iff]
  simp only [Bool.and_eq_true, Bool.or_eq_true, List.contains_iff_mem, bne_iff_ne, mem_partJ]
  constructor
  · rintro ⟨_, h | h⟩
    · exact h.2
    · rw [adj_sym]; exact h.2
  · intro h
    refine ⟨fun e => ?_, .inl ⟨hb, h⟩⟩
    subst e
    rw [adj_irr] at h; cases h
theorem partE_max (E : List (List Int)) (S : List Nat) : RowsMax (partE E S) S.length := by
  intro a
  by_cases ha : a < S.length
  · rw [partE_at E S ha]; exact partJ_len E S a S.length
  · rw [List.getD_eq_getElem?_getD, List.getElem?_eq_none (by rw [partE_len]; omega)]
    simp

set_option maxHeartbeats 6400000 in
set_option maxRecDepth 40000 in
theorem part_any (v sv : Value) (E : List (List Int)) (S : List Nat) (w : World) (hE : RdR w v E) (hm : RowsMax E 100000) (hs : RdI w sv (S.map Int.ofNat)) (hSr : ∀ i, i < S.length → S.getD i 0 < E.length) (hn : S.length ≤ 1000) :
    Calls Tryd.prog 30 #[v, sv] w fun e w' => ∃ u, e = .returned u ∧ RdR w' u (partE E S) ∧ Below w.heap.size w w' := by
  obtain ⟨sp, scap, rfl⟩ := hs.shape
  rw [List.length_map] at hs ⊢
  have hmkL := run_make_row' (P := Tryd.prog) 34 38 (.slice none 0 0) 24 Tryd.underlying34 infoL rfl .i64 .i64 S.length (by omega) (by omega)
  have HE := Lib.hid hE
  have HS := Lib.hid hs
  have HSR := Lib.hid hSr
  have HM := Lib.hid hm
  have hb1 : Below w.heap.size w (w.alloc (.cells (madeCells #[Value.slice none 0 0] S.length) 38)) := bAlloc (Nat.le_refl _) (Below.refl _ _)
  have HB1 := Lib.hid hb1
  have HR1 := Lib.hid (RowsAt.made (fun _ => 0) 4 w S.length (by omega) (pF E S 0 0) (fun t => pF_zero E S t))
  have HL1 : Hid (∀ k, k < w.heap.size → paint (fun _ => 0) w.heap.size 4 k = 0) := (show ∀ k, _ → _ from fun k hk => paint_lt hk)
  clear hE hs hSr hm hb1
  go_enter Tryd.func30, Tryd.ntmps30
  go_wp2_with fail
  go_loopw [6] (fun s6 wx => ∃ (i : Nat) (cx : Nat → Nat), s6 = .int .i64 i ∧ i ≤ S.length ∧ Hid (RowsAt cx 4 wx (.slice (some ⟨w.heap.size, 0, none⟩) S.length S.length) S.length (pF E S i 0)) ∧ Hid (Below w.heap.size w wx) ∧ Hid (∀ k, k < w.heap.size → cx k = 0)) (fun s6 _ => S.length - (intOf s6).toNat)
  case atStart => exact ⟨0, _, rfl, Nat.zero_le _, HR1, HB1, HL1⟩
  case round =>
    obtain ⟨i, c6, rfl, hi, HRw, HB, HL⟩ := hrel
    obtain ⟨w6, rfl⟩ : ∃ W : World, W = wr := ⟨_, rfl⟩
    by_cases hlt : i < S.length
    · have hiI : (i : Int) < S.length := by omega
      go_wp2_with fail
      go_loopw [7] (fun s7 wy => ∃ (j : Nat) (cy : Nat → Nat), s7 = .int .i64 j ∧ j ≤ S.length ∧ Hid (RowsAt cy 4 wy (.slice (some ⟨w.heap.size, 0, none⟩) S.length S.length) S.length (pF E S i j)) ∧ Hid (Below w.heap.size w wy) ∧ Hid (∀ k, k < w.heap.size → cy k = 0)) (fun s7 _ => S.length - (intOf s7).toNat)
      case atStart => exact ⟨0, c6, rfl, Nat.zero_le _, HRw, HB, HL⟩
      case round =>
        obtain ⟨j, c7, rfl, hj, HR7, HB7, HL7⟩ := hrel
        obtain ⟨w7, rfl⟩ : ∃ W : World, W = wr := ⟨_, rfl⟩
        by_cases hlj : j < S.length
        · have hjI : (j : Int) < S.length := by omega
          have hg : ∀ t, t < S.length → (S.map Int.ofNat).getD t 0 = (S.getD t 0 : Nat) := fun t ht => by
            rw [List.getD_eq_getElem?_getD, List.getD_eq_getElem?_getD, List.getElem?_map, List.getElem?_eq_getElem ht]; rfl
          have hb8 : Below w.heap.size w w7.drew := HB7.out.trans ((Below.refl w7.heap.size w7).drew.mono HB7.out.size)
          obtain ⟨m1, o1, k1, e1, hm1, hc1⟩ := rdI_cell (HS.out.below HB7.out (Nat.le_refl _)) i (by rw [List.length_map]; exact hlt)
          obtain ⟨m2, o2, k2, e2, hm2, hc2⟩ := rdI_cell (HS.out.below HB7.out (Nat.le_refl _)) j (by rw [List.length_map]; exact hlj)
          rw [hg i hlt] at hc1
          rw [hg j hlj] at hc2
          rw [List.length_map] at e1 e2
          injection e1 with e1 _ e3
          subst e1 e3
          injection e2 with e2 _ e5
          injection e2 with e2
          injection e2 with e2 e4
          subst e2 e4 e5
          have HA := Lib.hid (adj_any v E (S.getD i 0) (S.getD j 0) w7.drew (HE.out.below hb8 (Nat.le_refl _)) HM.out (HSR.out i hlt) (HSR.out j hlj))
          have HT := Lib.hid (fun h => pF_upd (E := E) (S := S) (i := i) (j := j) h)
          have HF := Lib.hid (fun h => pF_same (E := E) (S := S) (i := i) (j := j) h)
          have hpl := partJ_len E S i j
          rw [← pF_self] at hpl
          generalize adjG E (S.getD i 0) (S.getD j 0) = t at HA HT HF
          generalize S.getD i 0 = a at hc1 HA
          generalize S.getD j 0 = b at hc2 HA
          clear hg hb8
          go_wp2_with fail
          go_still_tail 9, (by kernel_rfl)
          go_wp2_with fail
          refine HA.out.mono ?_
          rintro e w' ⟨rfl, rfl⟩
          have hd : Below w7.heap.size w7 w7.drew := (Below.refl _ _).drew
          have hR8 := HR7.out.below hd
          have HB8 : Hid (Below w.heap.size w w7.drew) := (show Below _ _ _ from HB7.out.trans (hd.mono HB7.out.size))
          cases t
          · rw [← HF.out rfl] at hR8
            have HR8 := Lib.hid hR8
            clear hR8 hd HT HF HA
            go_wp2_with fail
            go_roundw
            case rel => exact ⟨j + 1, c7, by go_num, by omega, HR8, HB8, HL7⟩
            case measure => simp [intOf]; omega
          · have HQ := Lib.hid (HT.out rfl)
            obtain ⟨w8, hw8⟩ : ∃ W : World, W = w7.drew := ⟨_, rfl⟩
            rw [← hw8] at hR8 HB8
            have hz8 : w8.heap.size = w7.heap.size := by rw [hw8]; rfl
            rw [← hw8]
            obtain ⟨g, cap, p, cap', e1, hg1, hg2, hg3, hg4, hg5, hg6⟩ := hR8.get hlt
            injection e1 with e1 e2 e3
            injection e1 with e1
            injection e1 with e1
            subst e1 e3
            have HR8 := Lib.hid hR8
            have HG3 := Lib.hid hg3
            generalize hpq : pF E S i j i = pq at hg3 hg5 hg6 hpl HG3
            have HPQ := Lib.hid hpq
            have hbb : Below w8.heap.size w8 (w8.alloc (.cells #[.int .i64 j] 3)) := bAlloc (Nat.le_refl _) (Below.refl _ _)
            have HBb := Lib.hid hbb
            have HO := Lib.hid (own0_block hg5 (w' := w8.alloc (.cells #[.int .i64 j] 3)) fun q hq => hbb.block q (own0_lt hg5 hq))
            have HG6 := Lib.hid hg6
            clear hpq hbb hg5 hg6 e2 hR8 hd HT HF HA HR7 HB7 hm1 hm2 hc1 hc2 hw8 hz8
            go_wp2_with (first | (at_builtin; refine wpList_append_cell rfl _ _ 38 3 (.int .i64 0) 8 rfl Tryd.underlying38 infoI rfl (by decide) 0 (.slice p pq.length cap') pq.length _ rfl HO.out w8.heap.size 1 (.int .i64 j) rfl (by simp [go_sem]) rfl (by omega) (Nat.zero_le _) ?_))
            intro p9 c9 w9 hO9 hgr9 hd9
            have hb9 : w9.heap[w.heap.size]? = w8.heap[w.heap.size]? := (hgr9.block _ (by simp; omega) (fun e => (HG6.out _ e.symm).2 rfl)).trans (HBb.out.block _ hg1)
            have hc9 := (World.cell?_of_block (w := w8) (a := ⟨w.heap.size, i, none⟩) hb9).trans hg3
            have hf9 := (World.frozen?_of_block (w := w8) (a := ⟨w.heap.size, i, none⟩) hb9).trans hg4
            have hs9 : w.heap.size < w9.heap.size := by have := hgr9.size; simp at this; omega
            obtain ⟨hP9, hT9⟩ := HR8.out.pushed hlt rfl (by rw [HPQ.out]; exact HG3.out) HBb.out (by rw [HPQ.out]; exact hgr9) (by rw [HPQ.out]; exact hO9) (by rw [HPQ.out]; exact hd9.imp id fun h q e => by have := h q e; simp; omega)
            rw [← HQ.out] at hP9
            have HR9 := Lib.hid hP9
            have HB9 := Lib.hid (HB8.out.trans (hT9.below HB8.out.size fun k hk e => by rw [HL7.out k hk] at e; cases e))
            have HL9 : Hid (∀ k, k < w.heap.size → paint c7 w8.heap.size 4 k = 0) := (show ∀ k, _ → _ from low_paint HL7.out HB8.out.size)
            clear hO9 hgr9 hd9 hb9 hP9 hT9 HO HBb HG6 HR8 hg1 hg3 hg4
            go_wp2_with fail
            go_roundw
            case rel => exact ⟨j + 1, _, by go_num, by omega, HR9, HB9, HL9⟩
            case measure => simp [intOf]; omega
        · have hjl : j = S.length := by omega
          subst hjl
          go_wp2_with fail
          go_roundw
          case rel => exact ⟨i + 1, c7, by go_num, by omega, by rw [← pF_end]; exact HR7, HB7, HL7⟩
          case measure => simp [intOf]; omega
    · have hiS : i = S.length := by omega
      subst hiS
      go_wp2_with fail
      go_ret
      exact ⟨_, rfl, HRw.out.rdR (partE E S) (partE_len E S) (fun t ht => by rw [partE_at E S ht]; unfold pF; rw [if_pos ht]), HB.out⟩
end Go.Proofs.YtikfjehollnjeaaDoor
