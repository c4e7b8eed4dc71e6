/- The law RegallocProper. -/
import Derived.Test.YtdfeebkekkmcjaaRegK
import Derived.Maps.OwnSet
set_option linter.unusedVariables false
set_option linter.unusedSimpArgs false
namespace Go.Proofs.Ytdfeebkekkmcjaa
open Go.RowKit Go.Maps Go.WideMaps

/-- The colors that the first j nodes have, of those that are adjacent to a. -/
def keysJ (A : Nat → Nat → Bool) (l : List Int) (a j : Nat) : List Lit := ((List.range j).filter (fun b => A a b && decide (0 ≤ l.getD b (-1)))).map (fun b => Lit.int .i64 (l.getD b (-1)))
def Sj {H : Type} (A : Nat → Nat → Bool) (l : List Int) (a j : Nat) : DataW H := setOf (.lit (.bool true)) (keysJ A l a j)
theorem Sj_zero {H : Type} (A : Nat → Nat → Bool) (l : List Int) (a : Nat) : Sj (H := H) A l a 0 = .map [] := by simp [Sj, keysJ, setOf]
theorem keysJ_next (A : Nat → Nat → Bool) (l : List Int) (a j : Nat) : keysJ A l a (j+1) = if A a j = true ∧ 0 ≤ l.getD j (-1) then keysJ A l a j ++ [.int .i64 (l.getD j (-1))] else keysJ A l a j := by
  unfold keysJ
  rw [List.range_succ, List.filter_append, List.map_append]
  by_cases h : A a j = true ∧ 0 ≤ l.getD j (-1)
  · rw [if_pos h, List.filter_cons_of_pos (by simpa using h)]; rfl
  · rw [if_neg h, List.filter_cons_of_neg (by simpa using h)]; simp
theorem Sj_put {H : Type} (A : Nat → Nat → Bool) (l : List Int) (a j : Nat) (h : A a j = true) (h0 : 0 ≤ l.getD j (-1)) : Sj (H := H) A l a (j+1) = (Sj A l a j).put (.int .i64 (l.getD j (-1))) (.lit (.bool true)) := by
  unfold Sj; rw [keysJ_next, if_pos ⟨h, h0⟩, setOf_snoc]
theorem Sj_same {H : Type} (A : Nat → Nat → Bool) (l : List Int) (a j : Nat) (h : ¬ (A a j = true ∧ 0 ≤ l.getD j (-1))) : Sj (H := H) A l a (j+1) = Sj A l a j := by
  unfold Sj; rw [keysJ_next, if_neg h]
theorem keysJ_key (A : Nat → Nat → Bool) (l : List Int) (a j : Nat) : ∀ x ∈ keysJ A l a j, WideAt.IsKeyLit x := by
  intro x hx
  unfold keysJ at hx
  obtain ⟨b, _, rfl⟩ := List.mem_map.1 hx
  trivial
theorem addKey_mem : ∀ (xs L : List Lit) (x : Lit), (x ∈ L ∨ x ∈ xs) → x ∈ xs.foldl addKey L
  | [], L, x, h => by simpa using h
  | y :: ys, L, x, h => by
    refine addKey_mem ys (addKey L y) x ?_
    unfold addKey
    rcases h with h | h
    · left; split
      · exact h
      · exact List.mem_append_left _ h
    · rcases List.mem_cons.1 h with rfl | h
      · left; split
        · rename_i h1
          obtain ⟨z, hz, hs⟩ := List.any_eq_true.1 h1
          have : z = x := Classical.byContradiction fun hne => by rw [sameKey_ne hne] at hs; cases hs
          exact this ▸ hz
        · simp
      · exact .inr h
theorem size_full {H : Type} (A : Nat → Nat → Bool) (l : List Int) (n a K : Nat) (h : ∀ c : Nat, (c : Int) < K → ∃ b, b < n ∧ A a b = true ∧ l.getD b (-1) = (c : Int)) : K ≤ Maps.size (Sj (H := H) A l a n) := by
  unfold Sj
  rw [size_setOf _ _ (keysJ_key A l a n)]
  haveI : DecidableEq Lit := fun _ _ => Classical.propDecidable _
  have h1 := len_le_of_sub ((List.range K).map (fun c : Nat => Lit.int .i64 (c : Int))) ((keysJ A l a n).foldl addKey []) ?_ ?_
  · simpa using h1
  · rw [List.Nodup, List.pairwise_map]
    exact List.nodup_range.imp fun h e => h (by injection e with _ e; omega)
  · intro x hx
    obtain ⟨c, hc, rfl⟩ := List.mem_map.1 hx
    obtain ⟨b, hb, hA, hv⟩ := h c (by have := List.mem_range.1 hc; omega)
    refine addKey_mem _ _ _ (.inr ?_)
    unfold keysJ
    exact List.mem_map.2 ⟨b, List.mem_filter.2 ⟨List.mem_range.2 hb, by rw [hA, hv]; simp⟩, by rw [hv]⟩
theorem lawI : Keyed Try.prog 3 := int_keyed Try.underlying3
theorem key_i (x : Int) (h : -9223372036854775808 ≤ x ∧ x ≤ 9223372036854775807) : keyOf Try.prog 3 (.int .i64 x) = some (.int .i64 x) := by
  refine keyOf_int_mk Try.underlying3 ?_
  simp [Lit.wf, IntKind.min, IntKind.max, IntKind.bits, IntKind.signed]; omega

set_option maxHeartbeats 6400000 in
set_option maxRecDepth 20000 in
theorem proper_any (v : Value) (e : List (List Int)) (c : Int) (w : World) (h : RdR w v e) (hn : e.length ≤ 9223372036854775807) (hc1 : 0 ≤ c) (hc2 : c ≤ 255) :
    Calls Try.prog 4 #[v, .int .u8 c] w fun r w' => r = .returned (.bool true) ∧ Below w.heap.size w w' := by
  obtain ⟨p, cap, rfl⟩ := h.shape
  have HR := Lib.hid h
  clear h
  have hmm := @run_makeMap Try.prog
  go_enter Try.func4, Try.ntmps4
  go_wp2_with fail
  refine (awake_any w).mono ?_
  rintro r w1 ⟨rfl, hB1⟩
  have HB1 := Lib.hid hB1
  clear hB1
  go_wp2_with fail
  refine (wide_any _ e w1 (HR.out.below HB1.out (Nat.le_refl _)) hn).mono ?_
  rintro r w' ⟨⟨b, rfl, hw⟩, rfl⟩
  cases b
  · obtain ⟨h24, hm⟩ := hw rfl
    have HM := Lib.hid hm
    have HR1 := Lib.hid (HR.out.below HB1.out (Nat.le_refl _))
    clear hw hm
    have hcol := color_any _ e (c % 31) w1 HR1.out (HM.out.mono (by omega)) (by omega) (by omega) (by omega)
    obtain ⟨K, hK⟩ := Int.eq_ofNat_of_zero_le (show 0 ≤ c % 31 by omega)
    rw [hK, show max (K : Int) 0 = (K : Int) by omega] at hcol
    have hp := colorG_ok (adj_sym e) (adj_irr e) (n := e.length) (k := (K : Int))
    generalize colorG e.length (adjG e) (K : Int) = l at hcol hp
    have HCOL := Lib.hid hcol
    have HP := Lib.hid hp
    have hK30 : K ≤ 30 := by omega
    have hll := hp.len
    clear hcol hp
    go_wp2_with fail
    refine HCOL.out.mono ?_
    rintro r w2 ⟨V, rfl, hO, hB2⟩
    have hrd := own_rdI hO
    obtain ⟨q, cq, rfl⟩ := hrd.shape
    have HRD := Lib.hid hrd
    have HR2 := Lib.hid (HR1.out.below hB2 (Nat.le_refl _))
    have HB2 := Lib.hid (bThen hB2 HB1.out.size HB1.out)
    clear hO hB2 hrd HR1
    go_wp2_with fail
    go_loopw [27] (fun s27 wr => ∃ k : Nat, s27 = .int .i64 k ∧ k ≤ e.length ∧ Hid (Below w2.heap.size w2 wr)) (fun s27 _ => e.length - (intOf s27).toNat)
    case atStart => exact ⟨0, rfl, Nat.zero_le _, Below.refl _ _⟩
    case round =>
      obtain ⟨k, rfl, hk, HB3⟩ := hrel
      obtain ⟨w3, rfl⟩ : ∃ W : World, W = wr := ⟨_, rfl⟩
      by_cases hlt : k < e.length
      · have hltI : (k : Int) < e.length := by omega
        obtain ⟨m2, o2, cc, e1, hm2, hy0⟩ := rdI_at (HRD.out.below HB3.out (Nat.le_refl _)) k (by omega)
        injection e1 with e1 e2 e3
        subst e1 e3
        have hg : l.getD k 0 = l.getD k (-1) := by simp only [List.getD_eq_getElem?_getD, List.getElem?_eq_getElem (show k < l.length by omega)]; rfl
        rw [hg] at hy0
        obtain ⟨r1, r2⟩ := HP.out.rng k hlt
        have HPr := Lib.hid (fun b => HP.out.prp k b hlt)
        have HFu := Lib.hid (HP.out.ful k hlt (by simp))
        generalize hx : l.getD k (-1) = x at hy0 r1 r2 HPr HFu
        have HX := Lib.hid hx
        have r3 : ¬ x < -1 := by omega
        have r4 : ¬ x ≥ (K : Int) := by omega
        clear hg hx r2
        go_wp2_with fail
        go_loopw [46] (fun s46 wx => ∃ j : Nat, s46 = .int .i64 j ∧ j ≤ e.length ∧ Hid (wx.ownsMap Try.prog 3 (plainElem (H := Unit) Try.prog 4) w3.heap.size j (Sj (H := Unit) (adjG e) l k j)) ∧ Hid (Below w3.heap.size w3 wx)) (fun s46 _ => e.length - (intOf s46).toNat)
        case atStart => exact ⟨0, rfl, Nat.zero_le _, by rw [Sj_zero]; exact World.ownsMap_made _ _ _ _, (Below.refl _ _).alloc (Nat.le_refl _) _⟩
        case round =>
          obtain ⟨j, rfl, hj, HOm, HBx⟩ := hrel
          obtain ⟨w4, rfl⟩ : ∃ W : World, W = wr := ⟨_, rfl⟩
          have hs24 := HBx.out.size
          have HB4 := Lib.hid (bThen HBx.out HB3.out.size HB3.out)
          by_cases hlt2 : j < e.length
          · have hltJ : (j : Int) < e.length := by omega
            have HA := Lib.hid (adj_any _ e k j w4 (HR2.out.below HB4.out (Nat.le_refl _)) (HM.out.mono (by omega)) hlt hlt2)
            obtain ⟨m4, o4, c4, e1, hm4, hz0⟩ := rdI_at (HRD.out.below HB4.out (Nat.le_refl _)) j (by omega)
            injection e1 with e1 e2 e3
            injection e1 with e1
            injection e1 with e1 e4
            subst e1 e3 e4
            clear e2
            have hyk := (HBx.out.cell (p := ⟨m2, o2 + k, none⟩) hm2).trans hy0
            have hg : l.getD j 0 = l.getD j (-1) := by simp only [List.getD_eq_getElem?_getD, List.getElem?_eq_getElem (show j < l.length by omega)]; rfl
            rw [hg] at hz0
            obtain ⟨s1, s2⟩ := HP.out.rng j hlt2
            have hpr := HPr.out j hlt2
            have HPut := Lib.hid (fun h1 h2 => Sj_put (H := Unit) (adjG e) l k j h1 h2)
            have HSame := Lib.hid (fun h => Sj_same (H := Unit) (adjG e) l k j h)
            generalize l.getD j (-1) = y at hz0 s1 s2 hpr HPut HSame
            have hkey := key_i y (by omega)
            have HKey := Lib.hid hkey
            have HPP := Lib.hid hpr
            clear hg hkey hpr
            go_wp2_with fail
            refine HA.out.mono ?_
            rintro r w' ⟨rfl, rfl⟩
            clear HA
            generalize adjG e k j = t at HPut HSame HPP ⊢
            cases t
            · have HS2 := Lib.hid (HSame.out (fun h => Bool.noConfusion h.1))
              go_wp2_with fail
              go_roundw
              case rel => exact ⟨j + 1, by go_num, by omega, by rw [HS2.out]; exact HOm.out.mono (by omega), HBx⟩
              case measure => simp [intOf]; omega
            · have hxy : x = -1 ∨ (0 ≤ x ∧ (x == y) = false) := by
                by_cases h0 : 0 ≤ x
                · exact .inr ⟨h0, by simpa using HPP.out rfl h0⟩
                · exact .inl (by omega)
              by_cases hy : 0 ≤ y
              · have HS2 := Lib.hid (HPut.out rfl hy)
                rcases hxy with rfl | ⟨h1, h2⟩
                all_goals (
                  go_wp2_with fail
                  go_quiet (fail)
                  go_wp2_with (first | (at_mapUpdate; refine wpList_mapUpdate_own _ rfl _ _ _ 29 rfl 3 4 lawI Try.underlying29 (plainElem (H := Unit) Try.prog 4) w3.heap.size j _ rfl HOm.out (by unfold maxLen; omega) _ _ _ rfl rfl HKey.out _ [] (plainElem_bool Try.underlying4 true) ?_))
                  intro w6 hown6 hgrow6
                  have HO6 := Lib.hid hown6
                  have HB6 := Lib.hid ((bDrewN HBx.out).grown hgrow6 hs24 (fun b hb => by cases hb; exact Nat.le_refl _))
                  clear hown6 hgrow6
                  go_wp2_with fail
                  go_roundw
                  case rel => exact ⟨j + 1, by go_num, by omega, by rw [HS2.out]; exact HO6.out, HB6⟩
                  case measure => simp [intOf]; omega)
              · have HS2 := Lib.hid (HSame.out (fun h => hy h.2))
                rcases hxy with rfl | ⟨h1, h2⟩
                all_goals (
                  go_wp2_with fail
                  go_quiet (fail)
                  go_wp2_with fail
                  go_roundw
                  case rel => exact ⟨j + 1, by go_num, by omega, by rw [HS2.out]; exact HOm.out.mono (by omega), bDrewN HBx.out⟩
                  case measure => simp [intOf]; omega)
          · have hjn : j = e.length := by omega
            subst hjn
            have hfull : x < 0 → K ≤ Maps.size (Sj (H := Unit) (adjG e) l k e.length) := fun h0 => size_full _ _ _ _ _ (HFu.out (by omega))
            generalize Sj (H := Unit) (adjG e) l k e.length = D at HOm hfull
            have hyk := (HBx.out.cell (p := ⟨m2, o2 + k, none⟩) hm2).trans hy0
            have hm4 : m2 < w4.heap.size := by omega
            by_cases h0 : x < 0
            · have hsz := hfull h0
              have hsI : ¬ ((Maps.size D : Nat) : Int) < (K : Int) := by omega
              clear hfull
              have hlen := HOm.out.len Try.underlying29 3
              go_wp2_with fail
              go_roundw
              case rel => exact ⟨k + 1, by go_num, by omega, HB4⟩
              case measure => simp [intOf]; omega
            · go_wp2_with fail
              go_roundw
              case rel => exact ⟨k + 1, by go_num, by omega, HB4⟩
              case measure => simp [intOf]; omega
      · go_wp2_with fail
        go_ret
        exact ⟨rfl, bThen HB3.out HB2.out.size HB2.out⟩
  · go_wp2_with fail
    go_ret
    exact ⟨rfl, HB1.out⟩
end Go.Proofs.Ytdfeebkekkmcjaa
