import Derived.Test.YtifjcknklecdbaaDoorLivQ
import Derived.StillTailTactics
/- The reference's Part, by its contract. -/
set_option linter.unusedVariables false
set_option linter.unusedSimpArgs false
namespace Go.Proofs.YtifjcknklecdbaaDoor
open Go.RowKit Go.Maps Go.WideMaps

/-- Row i of the reference's graph of some nodes: its first j places. -/
def partJ (E : List (List Int)) (S : List Nat) (i j : Nat) : List Int := ((List.range j).filter (fun k => adjG E (S.getD i 0) (S.getD k 0))).map Int.ofNat
theorem filtR_next (f : Nat → Bool) (j : Nat) : ((List.range (j + 1)).filter f).map Int.ofNat = if f j = true then ((List.range j).filter f).map Int.ofNat ++ [(j : Int)] else ((List.range j).filter f).map Int.ofNat := by
  rw [List.range_succ, List.filter_append, List.map_append]
  by_cases h : f j = true
  · rw [if_pos h, List.filter_cons_of_pos h]; rfl
  · rw [if_neg h, List.filter_cons_of_neg h]; simp
theorem partJ_next (E : List (List Int)) (S : List Nat) (i j : Nat) : partJ E S i (j + 1) = if adjG E (S.getD i 0) (S.getD j 0) = true then partJ E S i j ++ [(j : Int)] else partJ E S i j := by
  exact filtR_next (fun k => adjG E (S.getD i 0) (S.getD k 0)) j
theorem partJ_len (E : List (List Int)) (S : List Nat) (i j : Nat) : (partJ E S i j).length ≤ j := by
  unfold partJ
  rw [List.length_map]
  have := List.length_filter_le (fun k => adjG E (S.getD i 0) (S.getD k 0)) (List.range j)
  rw [List.length_range] at this; exact this
def pF (E : List (List Int)) (S : List Nat) (i j t : Nat) : List Int := if t < i then partJ E S t S.length else if t = i then partJ E S i j else []
theorem pF_self (E : List (List Int)) (S : List Nat) (i j : Nat) : pF E S i j i = partJ E S i j := by unfold pF; rw [if_neg (by omega), if_pos rfl]
theorem pF_zero (E : List (List Int)) (S : List Nat) (t : Nat) : pF E S 0 0 t = [] := by
  unfold pF
  rw [if_neg (by omega)]
  split
  · rfl
  · rfl
theorem pF_upd {E : List (List Int)} {S : List Nat} {i j : Nat} (h : adjG E (S.getD i 0) (S.getD j 0) = true) : pF E S i (j + 1) = upd (pF E S i j) i (pF E S i j i ++ [(j : Int)]) := by
  funext t
  by_cases e : t = i
  · subst e; rw [upd_same, pF_self, pF_self, partJ_next, if_pos h]
  · rw [upd_ne _ _ e]; unfold pF; simp only [if_neg e]
theorem pF_same {E : List (List Int)} {S : List Nat} {i j : Nat} (h : adjG E (S.getD i 0) (S.getD j 0) = false) : pF E S i (j + 1) = pF E S i j := by
  unfold pF; rw [partJ_next, if_neg (by rw [h]; decide)]
theorem pF_end (E : List (List Int)) (S : List Nat) (i : Nat) : pF E S i S.length = pF E S (i + 1) 0 := by
  funext t
  unfold pF
  by_cases e : t < i
  · rw [if_pos e, if_pos (by omega)]
  · rw [if_neg e]
    by_cases e2 : t = i
    · subst e2; rw [if_pos rfl, if_pos (by omega)]
    · rw [if_neg e2, if_neg (by omega)]
      split
      · rfl
      · rfl
def partE (E : List (List Int)) (S : List Nat) : List (List Int) := (List.range S.length).map (fun i => partJ E S i S.length)
theorem partE_len (E : List (List Int)) (S : List Nat) : (partE E S).length = S.length := by simp [partE]
theorem partE_at (E : List (List Int)) (S : List Nat) {i : Nat} (hi : i < S.length) : (partE E S).getD i [] = partJ E S i S.length := by simp [partE, List.getD_eq_getElem?_getD, hi]
theorem mem_partJ {E : List (List Int)} {S : List Nat} {i j k : Nat} : (k : Int) ∈ partJ E S i j ↔ k < j ∧ adjG E (S.getD i 0) (S.getD k 0) = true := by
  unfold partJ
  rw [List.mem_map]
  constructor
  · rintro ⟨a, ha, e⟩
    have e : a = k := by
      have e2 : (a : Int) = (k : Int) := e
      omega
    subst e
    rw [List.mem_filter, List.mem_range] at ha; exact ha
  · intro h
    exact ⟨k, List.mem_filter.2 ⟨List.mem_range.2 h.1, h.2⟩, rfl⟩
theorem partE_adj (E : List (List Int)) (S : List Nat) (a b : Nat) (ha : a < S.length) (hb : b < S.length) : adjG (partE E S) a b = adjG E (S.getD a 0) (S.getD b 0) := by
  have h1 : adjG (partE E S) a b = (a != b && (((partE E S).getD a []).contains (b : Int) || ((partE E S).getD b []).contains (a : Int))) := rfl
  rw [h1, partE_at E S ha, partE_at E S hb, Bool.eq_iff_iff]
  simp only [Bool.and_eq_true, Bool.or_eq_true, List.contains_iff_mem, bne_iff_ne, mem_partJ]
  constructor
  · rintro ⟨_, h | h⟩
    · exact h.2
    · rw [adj_sym]; exact h.2
  · intro h
    refine ⟨fun e => ?_, .inl ⟨hb, h⟩⟩
    subst e
    rw [adj_irr] at h; cases h
theorem partE_max (E : List (List Int)) (S : List Nat) : RowsMax (partE E S) S.length := by
  intro a
  by_cases ha : a < S.length
  · rw [partE_at E S ha]; exact partJ_len E S a S.length
  · rw [List.getD_eq_getElem?_getD, List.getElem?_eq_none (by rw [partE_len]; omega)]
    simp

end Go.Proofs.YtifjcknklecdbaaDoor

/- regalloc.Allocate of a function that is not valid. -/
set_option linter.unusedVariables false
set_option linter.unusedSimpArgs false
namespace Go.Proofs.YtifjcknklecdbaaDoor
open Go.RowKit Go.Maps Go.WideMaps

set_option maxHeartbeats 3200000 in
set_option maxRecDepth 40000 in
theorem alloc_no (nm : ByteArray) (R : Nat) (ap : Option Addr) (an ac : Nat) (bv : Value) (bs : List IBlk) (w : World) (hB : BksAt w bv bs) (hl : bs.length ≤ 1000) (hcl : ∀ k, k < bs.length → (bs.getD k default).code.length ≤ 1000) (hw : wfF R bs = false) :
    Calls Tryd.prog 7 #[.agg #[.string nm, .int .i64 R, .slice ap an ac, bv]] w fun e w' => e = .returned (.tuple #[.agg #[.slice none 0 0, .int .i64 0], .int .i64 3]) ∧ Below w.heap.size w w' := by
  obtain ⟨bp, bcap, rfl⟩ := hB.shape
  have hb0 : Below w.heap.size w ((w.alloc (.cells #[.string nm, .int .i64 R, .slice ap an ac, .slice bp bs.length bcap] 25)).alloc (.cells #[.slice none 0 0, .int .i64 0] 33)) := bAlloc (by simp) (bAlloc (Nat.le_refl _) (Below.refl _ _))
  have HIN := Lib.hid (interf_no nm R ap an ac _ bs _ (hB.below hb0 (Nat.le_refl _)) hl hcl hw)
  have hbx3 := AlBox.made (w.alloc (.cells #[.string nm, .int .i64 R, .slice ap an ac, .slice bp bs.length bcap] 25)) (.slice none 0 0) 0
  rw [show (w.alloc (.cells #[.string nm, .int .i64 R, .slice ap an ac, .slice bp bs.length bcap] 25)).heap.size = w.heap.size + 1 by simp] at hbx3
  have BX3 := Lib.hid hbx3
  have HB0 := Lib.hid hb0
  clear hB hw hb0 hl hcl hbx3
  go_enter Tryd.func7, Tryd.ntmps7
  go_wp2_with fail
  refine HIN.out.mono ?_
  rintro e w1 ⟨rfl, hb1⟩
  have hx3 := BX3.out.of_block (hb1.block _ BX3.out.1)
  have x0 := hx3.2.2.1
  have x1 := hx3.2.2.2
  have xf0 := hx3.2.1 0
  have xf1 := hx3.2.1 1
  have xl := hx3.1
  have HB1 := Lib.hid (bThen hb1 HB0.out.size HB0.out)
  clear hx3 hb1 BX3 HIN
  go_wp2_with fail
  refine bodyPost_ret (run_result2 Tryd.results7 (fun _ => by kernel_rfl) (fun _ => by kernel_rfl) _ _ (w.heap.size + 1) (.slice none 0 0) (.int .i64 0) (.int .i64 3) rfl rfl ?_ ?_) rfl ?_
  · simp [go_sem, *]
  · simp [go_sem, *]
  exact ⟨rfl, bSet (Nat.le_succ _) (bSet (Nat.le_succ _) HB1.out)⟩
end Go.Proofs.YtifjcknklecdbaaDoor

/- The law's great. -/
set_option linter.unusedVariables false
set_option linter.unusedSimpArgs false
namespace Go.Proofs.YtifjcknklecdbaaDoor
open Go.RowKit

def GreatPost (R : Int) (bs : List IBlk) (w : World) (e : Ending) (w' : World) : Prop := ∃ G : Bool, e = .returned (.bool G) ∧ Below w.heap.size w w' ∧ (G = false → 0 ≤ R ∧ R ≤ 30 ∧ bs.length ≤ 12 ∧ ∀ k, k < bs.length → (bs.getD k default).code.length ≤ 40)

set_option maxHeartbeats 3200000 in
set_option maxRecDepth 40000 in
theorem great_any (nm : ByteArray) (R : Int) (ap : Option Addr) (an ac : Nat) (bv : Value) (bs : List IBlk) (w : World) (hB : BksAt w bv bs) (hl : bs.length ≤ 9223372036854775807) (ha : an ≤ 9223372036854775807) (hcl : ∀ k, k < bs.length → (bs.getD k default).code.length ≤ 9223372036854775807) :
    Calls Tryd.prog 5 #[.agg #[.string nm, .int .i64 R, .slice ap an ac, bv]] w (GreatPost R bs w) := by
  obtain ⟨bp, bcap, rfl⟩ := hB.shape
  have hb0 : Below w.heap.size w (w.alloc (.cells #[.string nm, .int .i64 R, .slice ap an ac, .slice bp bs.length bcap] 25)) := bAlloc (Nat.le_refl _) (Below.refl _ _)
  have HB := Lib.hid hB
  have HB0 := Lib.hid hb0
  have HCL := Lib.hid hcl
  clear hB hb0 hcl
  by_cases h1 : R > 30
  · go_enter Tryd.func5, Tryd.ntmps5
    go_wp2_with fail
    go_ret
    exact Exists.intro true ⟨rfl, HB0.out, fun h => by cases h⟩
  by_cases h2 : R < 0
  · go_enter Tryd.func5, Tryd.ntmps5
    go_wp2_with fail
    go_ret
    exact Exists.intro true ⟨rfl, HB0.out, fun h => by cases h⟩
  by_cases h3 : (bs.length : Int) > 12
  · go_enter Tryd.func5, Tryd.ntmps5
    go_wp2_with fail
    go_ret
    exact Exists.intro true ⟨rfl, HB0.out, fun h => by cases h⟩
  by_cases h4 : (an : Int) > 10
  · go_enter Tryd.func5, Tryd.ntmps5
    go_wp2_with fail
    go_ret
    exact Exists.intro true ⟨rfl, HB0.out, fun h => by cases h⟩
  go_enter Tryd.func5, Tryd.ntmps5
  go_wp2_with fail
  go_loopw [28] (fun s28 wx => ∃ k : Nat, s28 = .int .i64 k ∧ k ≤ bs.length ∧ Hid (∀ i, i < k → (bs.getD i default).code.length ≤ 40) ∧ Hid (Below w.heap.size w wx)) (fun s28 _ => bs.length - (intOf s28).toNat)
  case atStart => exact ⟨0, rfl, Nat.zero_le _, fun i hi => absurd hi (Nat.not_lt_zero i), HB0⟩
  case round =>
    obtain ⟨k, rfl, hk, HQ, HX⟩ := hrel
    obtain ⟨w1, rfl⟩ : ∃ W : World, W = wr := ⟨_, rfl⟩
    by_cases hlt : k < bs.length
    · have hkI : (k : Int) < bs.length := by omega
      obtain ⟨m, off, cap', cp, cc, e1, hm, -, c0, c1, c2, c3, c4⟩ := (HB.out.below HX.out (Nat.le_refl _)).at k hlt
      injection e1 with e1 e2 e3
      subst e1 e3
      have hcl := HCL.out k hlt
      generalize hn : (bs.getD k default).code.length = n at c0 hcl
      have HN := Lib.hid hn
      generalize (bs.getD k default).kind = kd at c1
      generalize (bs.getD k default).x = kx at c2
      generalize (bs.getD k default).tgt = kt at c3
      generalize (bs.getD k default).els = ke at c4
      clear hn e2
      by_cases hx : (n : Int) > 40
      · go_wp2_with fail
        go_ret
        exact Exists.intro true ⟨rfl, HX.out.trans ((bAlloc (Nat.le_refl _) (Below.refl _ _)).mono HX.out.size), fun h => by cases h⟩
      · have hx2 : n ≤ 40 := by omega
        go_wp2_with fail
        go_roundw
        case rel =>
          refine ⟨k + 1, by go_num, by omega, fun i hi => ?_, HX.out.trans ((bAlloc (Nat.le_refl _) (Below.refl _ _)).mono HX.out.size)⟩
          by_cases e : i = k
          · subst e; rw [HN.out]; exact hx2
          · exact HQ.out i (by omega)
        case measure => simp [intOf]; omega
    · have hkn : k = bs.length := by omega
      subst hkn
      go_wp2_with fail
      go_ret
      exact Exists.intro false ⟨rfl, HX.out, fun _ => ⟨by omega, by omega, by omega, HQ.out⟩⟩
end Go.Proofs.YtifjcknklecdbaaDoor

