/- regalloc.Color, by its contract. -/
import Derived.Test.YtifjcknklecdbaaDoorRegH
set_option linter.unusedVariables false
set_option linter.unusedSimpArgs false
namespace Go.Proofs.YtifjcknklecdbaaDoor
open Go.RowKit

theorem index_any (T m c0 : Nat) (tk : Nat → Bool) (w : World) (h : w.rowIs T 4 m (fun c => .bool (tk c))) (hm : m ≤ 100000) (hc : c0 < m) (h1 : tk c0 = false) (h2 : ∀ d, d < c0 → tk d = true) :
    Calls Tryd.prog 24 #[.slice (some ⟨T, 0, none⟩) m m, .bool false] w fun r w' => r = .returned (.int .i64 c0) ∧ w = w' := by
  have HT := Lib.hid h
  have H1 := Lib.hid h1
  have H2 := Lib.hid h2
  clear h h1 h2
  have hs := HT.out.lt
  go_enter Tryd.func24, Tryd.ntmps24
  go_wp2_with fail
  go_loopw [8] (fun s8 wr => ∃ k : Nat, s8 = .int .i64 k ∧ k ≤ c0 ∧ w = wr) (fun s8 _ => m - (intOf s8).toNat)
  case atStart => exact ⟨0, rfl, Nat.zero_le _, rfl⟩
  case round =>
    obtain ⟨k, rfl, hk, rfl⟩ := hrel
    have hlt : k < m := by omega
    have hltI : (k : Int) < m := by omega
    have c1 : w.cell? ⟨T, k, none⟩ = some (.bool (tk k)) := HT.out.cell hlt
    by_cases hkc : k = c0
    · subst hkc
      rw [H1.out] at c1
      go_wp2_with fail
      go_ret
      exact ⟨rfl, rfl⟩
    · rw [H2.out k (by omega)] at c1
      go_wp2_with fail
      go_roundw
      case rel => exact ⟨k + 1, by go_num, by omega, by first | trivial | rfl⟩
      case measure => simp [intOf]; omega

/-- The lists of neighbors. -/
def nbL (e : List (List Int)) : List (List Int) := (List.range e.length).map (nbI e)
theorem nbL_len (e : List (List Int)) : (nbL e).length = e.length := by simp [nbL]
theorem nbL_at (e : List (List Int)) (i : Nat) (hi : i < e.length) : (nbL e).getD i [] = nbI e i := by simp [nbL, List.getD_eq_getElem?_getD, hi]
theorem taken_set {w : World} {T m : Nat} {f : Nat → Bool} (h : w.rowIs T 4 m (fun c => .bool (f c))) (c : Nat) : (w.setCell ⟨T, c, none⟩ (.bool true)).rowIs T 4 m (fun x => .bool (f x || (c == x))) := by
  refine (h.set c (.bool true)).congr fun i hi => ?_
  by_cases e : i = c
  · subst e; rw [if_pos rfl]; simp
  · rw [if_neg e]
    have : (c == i) = false := by simp; exact fun h => e h.symm
    rw [this, Bool.or_false]

set_option maxHeartbeats 6400000 in
set_option maxRecDepth 20000 in
theorem color_any (v : Value) (e : List (List Int)) (c : Int) (w : World) (h : RdR w v e) (hm : RowsMax e 5000) (hn : e.length ≤ 1000) (hc1 : -9223372036854775808 ≤ c) (hc2 : c ≤ 9223372036854775807) :
    Calls Tryd.prog 12 #[v, .int .i64 c] w fun r w' => ∃ V, r = .returned V ∧ w'.ownsRow w.heap.size 3 1 V e.length ((colorG e.length (adjG e) (max c 0)).map (Value.int .i64)) ∧ Below w.heap.size w w' := by
  have hg := graph_any v e w h hm hn
  obtain ⟨p, cap, rfl⟩ := h.shape
  have HGr := Lib.hid hg
  clear h hg
  have hmkI := run_make_row' (P := Tryd.prog) 46 3 (.int .i64 0) 8 Tryd.underlying46 infoI rfl .i64 .i64 e.length (by omega) (by omega)
  go_enter Tryd.func12, Tryd.ntmps12
  go_wp2_with fail
  refine HGr.out.mono ?_
  rintro r w1 ⟨g0, V0, rfl, hrows, hB1⟩
  have hrd := hrows.rd (nbL e) (nbL_len e) (fun i hi => (nbL_at e i hi).symm) e.length
  have HRM := Lib.hid (removal_any _ (nbL e) e.length (adjG e) (max c 0) w1 hrd (nbL_len e) (fun i hi => nbL_at e i hi) (adj_sym e) hn)
  have HRD := Lib.hid hrd
  have HB1 := Lib.hid hB1
  clear HGr hrows hrd hB1
  go_wp2_with fail
  refine HRM.out.mono ?_
  rintro r w2 ⟨V2, rfl, hO2, hB2⟩
  obtain ⟨hlen, hnd, hmem⟩ := removed (n := e.length) (A := adjG e) (k := max c 0)
  have hcol : colorG e.length (adjG e) (max c 0) = selK e.length (adjG e) (max c 0) (removeG e.length (adjG e) (max c 0) e.length []) e.length (List.replicate e.length (-1)) := by
    have := selK_all e.length (adjG e) (max c 0) (removeG e.length (adjG e) (max c 0) e.length []) (List.replicate e.length (-1))
    rw [hlen] at this
    rw [this]; rfl
  generalize removeG e.length (adjG e) (max c 0) e.length [] = g at hO2 hlen hnd hmem hcol
  have HCOL := Lib.hid hcol
  clear hcol
  have hcap : ∃ q cp, V2 = .slice q e.length cp ∧ e.length ≤ cp := by
    rcases hO2.2 with ⟨rfl, h0⟩ | ⟨_, cp, _, rfl, _, _, h1, _⟩
    · exact ⟨none, 0, by rw [h0], by omega⟩
    · exact ⟨_, cp, rfl, h1⟩
  obtain ⟨q2, cp2, rfl, hcp⟩ := hcap
  have HI2 := Lib.hid (RdI.of_own (xs := upI g) (show w2.ownsRow w1.heap.size 3 1 (.slice q2 e.length cp2) (upI g).length _ by rw [upI_len, hlen]; exact hO2))
  have HMem := Lib.hid hmem
  have HNd := Lib.hid hnd
  have HRD2 := Lib.hid (HRD.out.below hB2 (Nat.le_refl _))
  have HB2 := Lib.hid (bThen hB2 HB1.out.size HB1.out)
  clear HRM hmem hnd hB2 HB1 HRD hO2
  go_wp2_with fail
  go_loopw [27] (fun s27 wr => ∃ k : Nat, s27 = .int .i64 k ∧ k ≤ e.length ∧ Hid (wr.rowIs w2.heap.size 3 e.length (fun i => .int .i64 (if i < k then -1 else 0))) ∧ Hid (Below w2.heap.size w2 wr)) (fun s27 _ => e.length - (intOf s27).toNat)
  case atStart => exact ⟨0, rfl, Nat.zero_le _, (World.rowIs_made w2 _ e.length _).congr (fun i _ => by rw [if_neg (by omega)]), bAlloc (Nat.le_refl _) (Below.refl _ _)⟩
  case round =>
    obtain ⟨k, rfl, hk2, HW, HB3⟩ := hrel
    obtain ⟨w3, rfl⟩ : ∃ W : World, W = wr := ⟨_, rfl⟩
    have hsz := HW.out.lt
    by_cases hlt2 : k < e.length
    · have hltI : (k : Int) < e.length := by omega
      have hfz : w3.frozen? ⟨w2.heap.size, k, none⟩ = false := HW.out.frozen k
      have hcl : w3.cell? ⟨w2.heap.size, k, none⟩ = some (.int .i64 0) := by rw [HW.out.cell hlt2, if_neg (by omega)]
      go_wp2_with fail
      go_roundw
      case rel =>
        refine ⟨k + 1, by go_num, by omega, (HW.out.set k _).congr fun i hi => ?_, bSet (Nat.le_refl _) HB3.out⟩
        by_cases e1 : i = k
        · subst e1; rw [if_pos rfl, if_pos (by omega)]
        · rw [if_neg e1]
          by_cases e2 : i < k
          · rw [if_pos e2, if_pos (by omega)]
          · rw [if_neg e2, if_neg (by omega)]
      case measure => simp [intOf]; omega
    · have hC : ColAt w3 w2.heap.size e.length (List.replicate e.length (-1)) := HW.out.congr fun i hi => by
        rw [if_pos (by omega), List.getD_eq_getElem?_getD, List.getElem?_replicate, if_pos hi]; rfl
      have HC := Lib.hid hC
      clear hC HW
      go_wp2_with fail
      go_loopw [6] (fun s6 wr => ∃ (k : Nat) (out : List Int), s6 = .slice q2 k cp2 ∧ k ≤ e.length ∧ out.length = e.length ∧ Hid (ColAt wr w2.heap.size e.length out) ∧ Hid (Below w2.heap.size w2 wr) ∧ Hid (∀ b ∈ g.take k, out.getD b (-1) = -1) ∧ Hid (selK e.length (adjG e) (max c 0) g k out = selK e.length (adjG e) (max c 0) g e.length (List.replicate e.length (-1)))) (fun s6 _ => lenOf s6)
      case atStart => exact ⟨e.length, _, rfl, Nat.le_refl _, by simp, HC, HB3, fun b _ => by simp only [List.getD_eq_getElem?_getD, List.getElem?_replicate]; split <;> rfl, rfl⟩
      case round =>
        obtain ⟨k', out, rfl, hk3, hol, HC3, HB3', HL3, HS3⟩ := hrel
        obtain ⟨w4, rfl⟩ : ∃ W : World, W = wr := ⟨_, rfl⟩
        have hsz3 := HC3.out.lt
        by_cases hk0 : k' = 0
        · subst hk0
          go_wp2_with fail
          go_ret
          refine ⟨_, rfl, ?_, bThen HB3'.out HB2.out.size HB2.out⟩
          rw [HCOL.out, ← HS3.out, selK_zero]
          exact own_of_row HC3.out hol (by omega) _ HB2.out.size
        · obtain ⟨k, rfl⟩ : ∃ k, k' = k + 1 := ⟨k' - 1, by omega⟩
          have hkg : k < g.length := by omega
          have hI3 := HI2.out.below HB3'.out (Nat.le_refl _)
          rw [← hlen, ← upI_len g] at hI3
          obtain ⟨ms, os, cs, es, hms, hxs⟩ := rdI_at hI3 k (by rw [upI_len]; exact hkg)
          injection es with es1 es2 es3
          subst es1 es3
          rw [upI_get g k hkg] at hxs
          have hN := selK_next e.length (adjG e) (max c 0) g k out hkg
          have haL : g.getD k 0 < e.length := (HMem.out _).1 (by rw [List.getD_eq_getElem?_getD, List.getElem?_eq_getElem hkg]; exact List.getElem_mem _)
          have hlow : out.getD (g.getD k 0) (-1) = -1 := HL3.out _ (by rw [List.getD_eq_getElem?_getD, List.getElem?_eq_getElem hkg]; exact List.mem_iff_getElem.2 ⟨k, by rw [List.length_take]; omega, by rw [List.getElem_take]; rfl⟩)
          have hrest : ∀ b ∈ g.take k, b ≠ g.getD k 0 ∧ out.getD b (-1) = -1 := fun b hb => by
            obtain ⟨i, hi, ei⟩ := List.mem_iff_getElem.1 hb
            rw [List.length_take] at hi
            rw [List.getElem_take] at ei
            refine ⟨fun e1 => ?_, HL3.out b (List.mem_iff_getElem.2 ⟨i, by rw [List.length_take]; omega, by rw [List.getElem_take]; exact ei⟩)⟩
            rw [List.getD_eq_getElem?_getD, List.getElem?_eq_getElem hkg, ← ei] at e1
            exact List.pairwise_iff_getElem.1 HNd.out i k (by omega) hkg (by omega) e1
          generalize g.getD k 0 = a at hxs hN haL hlow hrest
          have HRest := Lib.hid hrest
          have HLow := Lib.hid hlow
          have HN := Lib.hid hN
          have hrdw := HRD2.out.below HB3'.out (Nat.le_refl _)
          obtain ⟨m1, o1, cap', q, c5, e1, hm1, hx1, hr1⟩ := hrdw.row a (by rw [nbL_len]; exact haL)
          injection e1 with e1 e2 e3
          injection e1 with e1
          injection e1 with e1 e4
          subst e1 e3 e4
          clear e2
          rw [nbL_at e a haL] at hx1 hr1
          rw [Nat.zero_add] at hx1
          have hrl : (nbI e a).length = (nbs e.length (adjG e) a).length := upI_len _
          have hnn := nbs_len e.length (adjG e) a
          have HIX := Lib.hid (fun j hj => upI_get (nbs e.length (adjG e) a) j hj)
          have HRW := Lib.hid hr1
          clear hrest hlow hN hrdw hr1 hI3
          have haI : (a : Int) < e.length := by omega
          change Hid (∀ j, j < (nbs e.length (adjG e) a).length → (nbI e a).getD j 0 = _) at HIX
          generalize nbI e a = row at hx1 hrl HIX HRW
          have hrn : row.length ≤ 1000 := by omega
          have HRL := Lib.hid hrl
          clear hrl hnn
          have hmkT := run_make_row' (P := Tryd.prog) 81 4 (.bool false) 1 Tryd.underlying81 infoB rfl .i64 .i64 (row.length + 1) (by omega) (by omega)
          simp only [Int.natCast_add, Int.natCast_one] at hmkT
          have hkk : ((k + 1 : Nat) : Int) - 1 = (k : Int) := by omega
          go_wp2_with fail
          go_loopw [60] (fun s60 wx => ∃ j : Nat, s60 = .int .i64 j ∧ j ≤ row.length ∧ Hid (wx.rowIs w4.heap.size 4 (row.length + 1) (fun x => .bool (takenJ e.length (adjG e) out a j x))) ∧ Hid (Below w4.heap.size w4 wx)) (fun s60 _ => row.length - (intOf s60).toNat)
          case atStart => exact ⟨0, rfl, Nat.zero_le _, (World.rowIs_made w4 _ (row.length + 1) _).congr (fun i _ => by rw [takenJ_zero]), bAlloc (Nat.le_refl _) (Below.refl _ _)⟩
          case round =>
            obtain ⟨j, rfl, hj, HT, HBx⟩ := hrel
            obtain ⟨w5, rfl⟩ : ∃ W : World, W = wr := ⟨_, rfl⟩
            have hs5 := HT.out.lt
            have hbs5 := HBx.out.size
            have hC5 : ColAt w5 w2.heap.size e.length out := HC3.out.of_block (HBx.out.block _ hsz3)
            by_cases hlt3 : j < row.length
            · have hltJ : (j : Int) < row.length := by omega
              have hj2 : j < (nbs e.length (adjG e) a).length := by have := HRL.out; omega
              obtain ⟨m6, o6, cc, e1, hm6, hy0⟩ := rdI_at (HRW.out.below HBx.out (Nat.le_refl _)) j hlt3
              injection e1 with e1 e2 e3
              subst e1 e3
              rw [HIX.out j hj2] at hy0
              have hbn := (nbs_at e.length (adjG e) a j hj2).1
              have HNX := Lib.hid (fun x => takenJ_next e.length (adjG e) out a j x hj2)
              generalize (nbs e.length (adjG e) a).getD j 0 = b at hy0 hbn HNX
              have hbI : (b : Int) < e.length := by omega
              have hcb : w5.cell? ⟨w2.heap.size, b, none⟩ = some (.int .i64 (out.getD b (-1))) := hC5.cell hbn
              generalize out.getD b (-1) = x at hcb HNX
              by_cases hx : 0 ≤ x ∧ x < (row.length : Int) + 1
              · obtain ⟨hx1', hx2'⟩ := hx
                obtain ⟨xn, rfl⟩ := Int.eq_ofNat_of_zero_le hx1'
                have hxn : xn < row.length + 1 := by omega
                have hfz5 : w5.frozen? ⟨w4.heap.size, xn, none⟩ = false := HT.out.frozen xn
                have hcl5 : w5.cell? ⟨w4.heap.size, xn, none⟩ = some (.bool (takenJ e.length (adjG e) out a j xn)) := HT.out.cell hxn
                go_wp2_with fail
                go_roundw
                case rel =>
                  refine ⟨j + 1, by go_num, by omega, (taken_set HT.out xn).congr fun i hi => ?_, bSet (Nat.le_refl _) HBx.out⟩
                  rw [HNX.out, show ((xn : Int) == (i : Int)) = (xn == i) by rw [Bool.eq_iff_iff, beq_iff_eq, beq_iff_eq]; omega]
                case measure => simp [intOf]; omega
              · have hx2 : x < 0 ∨ (0 ≤ x ∧ ¬ x < (row.length : Int) + 1) := by omega
                clear hx
                have HX := Lib.hid hx2
                rcases hx2 with h1 | ⟨h1, h2⟩
                all_goals (
                  go_wp2_with fail
                  go_roundw
                  case rel =>
                    refine ⟨j + 1, by go_num, by omega, HT.out.congr fun i hi => ?_, HBx⟩
                    rw [HNX.out]
                    have : (x == (i : Int)) = false := by
                      have := HX.out
                      simp; omega
                    rw [this, Bool.or_false]
                  case measure => simp [intOf]; omega)
            · have hjl : j = row.length := by omega
              subst hjl
              obtain ⟨c0, hc0, hf0, hl0⟩ := free_exists e.length (adjG e) out a
              rw [← HRL.out] at hc0
              have HT2 : w5.rowIs w4.heap.size 4 (row.length + 1) (fun x => .bool (!freeG e.length (adjG e) out a x)) := HT.out.congr fun i _ => by rw [HRL.out, takenJ_end]
              have HIxC := Lib.hid (index_any w4.heap.size (row.length + 1) c0 _ w5 HT2 (by omega) (by omega) (by rw [hf0]; rfl) (fun d hd => by rw [hl0 d hd]; rfl))
              have HPK := Lib.hid (pickG_least e.length (adjG e) (max c 0) out a c0 hf0 hl0)
              clear HT2 hf0 hl0
              have hfz5 : w5.frozen? ⟨w2.heap.size, a, none⟩ = false := hC5.frozen a
              have hcl5 : w5.cell? ⟨w2.heap.size, a, none⟩ = some (.int .i64 (out.getD a (-1))) := hC5.cell haL
              have hs25 := hC5.lt
              have HC5 := Lib.hid hC5
              have HB5 := Lib.hid (bThen HBx.out HB3'.out.size HB3'.out)
              clear hC5
              go_wp2_with fail
              refine HIxC.out.mono ?_
              rintro r w' ⟨rfl, rfl⟩
              by_cases hck : (c0 : Int) < max c 0
              · go_wp2_with fail
                go_roundw
                case rel =>
                  have hpk := HPK.out
                  rw [if_pos hck] at hpk
                  refine ⟨k, out.set a c0, rfl, by omega, by simpa using hol, col_set HC5.out hol a haL _, bSet (Nat.le_refl _) HB5.out, fun b hb => ?_, ?_⟩
                  · obtain ⟨r1, r2⟩ := HRest.out b hb
                    rw [getD_set _ _ _ _ (by omega), if_neg (fun e => r1 e.symm)]
                    exact r2
                  · show _ = _
                    rw [← HS3.out, HN.out, hpk]
                case measure => simp [lenOf]
              · go_wp2_with fail
                go_roundw
                case rel =>
                  have hpk := HPK.out
                  rw [if_neg (by omega)] at hpk
                  refine ⟨k, out, rfl, by omega, hol, HC5, HB5, fun b hb => (HRest.out b hb).2, ?_⟩
                  show _ = _
                  rw [← HS3.out, HN.out, hpk]
                  congr 1
                  refine List.ext_getElem (by simp) fun i h1 h2 => ?_
                  rw [List.getElem_set]
                  by_cases e4 : a = i
                  · subst e4
                    have := HLow.out
                    rw [List.getD_eq_getElem?_getD, List.getElem?_eq_getElem (by omega)] at this
                    rw [if_pos rfl]; exact this
                  · rw [if_neg e4]
                case measure => simp [lenOf]
end Go.Proofs.YtifjcknklecdbaaDoor
