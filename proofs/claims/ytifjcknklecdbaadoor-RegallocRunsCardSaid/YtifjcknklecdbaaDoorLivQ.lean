/- regalloc.Allocate, by its contract. -/
import Derived.Test.YtifjcknklecdbaaDoorMs17
import Derived.Deep.RegionWith
set_option linter.unusedVariables false
set_option linter.unusedSimpArgs false
namespace Go.Proofs.YtifjcknklecdbaaDoor
open Go.RowKit Go.Maps Go.WideMaps

theorem getD_mem0 {l : List Int} {j : Nat} (h : j < l.length) : l.getD j 0 ∈ l := by
  rw [List.getD_eq_getElem?_getD, List.getElem?_eq_getElem h]; exact List.getElem_mem h
theorem edgesL_max {R : Nat} {bs : List IBlk} (hw : wfF R bs = true) (hR : R ≤ 64) : RowsMax (edgesL R bs) 64 := by
  intro a
  by_cases ha : a < R
  · rw [edgesL_at bs ha, List.length_map]
    exact bitsL_len hR ((edge_ok hw hR).lt a ha)
  · rw [List.getD_eq_getElem?_getD, List.getElem?_eq_none (by rw [edgesL_len]; omega)]
    simp

def AllocPost (R : Nat) (E : List (List Int)) (w : World) (e : Ending) (w' : World) : Prop :=
  ∃ (C : List Int) (S : List Nat) (A : List Int) (g : Nat), C = colorG R (adjG E) 8 ∧ S = spillN C R ∧ A = colorG S.length (adjG (amongE E S)) S.length ∧ e = .returned (.tuple #[.agg #[.slice (some ⟨g, 0, none⟩) R R, .int .i64 (slN A S.length)], .int .i64 0]) ∧ PlAt w' g R (placesG C S A R) ∧ Below w.heap.size w w'

set_option maxHeartbeats 6400000 in
set_option maxRecDepth 40000 in
theorem alloc_any (nm : ByteArray) (R : Nat) (ap : Option Addr) (an ac : Nat) (bv : Value) (bs : List IBlk) (w : World) (hR : R ≤ 64) (hB : BksAt w bv bs) (hl : bs.length ≤ 1000) (hcl : ∀ k, k < bs.length → (bs.getD k default).code.length ≤ 1000) (hw : wfF R bs = true) (hT : TabZ w) :
    Calls Tryd.prog 7 #[.agg #[.string nm, .int .i64 R, .slice ap an ac, bv]] w (AllocPost R (edgesL R bs) w) := by
  obtain ⟨bp, bcap, rfl⟩ := hB.shape
  have hmk := run_make_pl R (by omega)
  have hmm := @run_makeMap Tryd.prog
  have hb0 : Below w.heap.size w ((w.alloc (.cells #[.string nm, .int .i64 R, .slice ap an ac, .slice bp bs.length bcap] 25)).alloc (.cells #[.slice none 0 0, .int .i64 0] 33)) := bAlloc (by simp) (bAlloc (Nat.le_refl _) (Below.refl _ _))
  have HIN := Lib.hid (interf_any nm R _ ap an ac _ bs _ hR rfl (hB.below hb0 (Nat.le_refl _)) hl hcl hw (hT.below hb0 hT.1))
  have HMX := Lib.hid (edgesL_max hw hR)
  have HEI := Lib.hid (fun r (hr : r < R) => edgesL_in hw hR hr)
  have hEL := edgesL_len R bs
  generalize edgesL R bs = E at HIN HMX HEI hEL ⊢
  have HB0 := Lib.hid hb0
  have c0 : ((w.alloc (.cells #[.string nm, .int .i64 R, .slice ap an ac, .slice bp bs.length bcap] 25)).alloc (.cells #[.slice none 0 0, .int .i64 0] 33)).heap.size = w.heap.size + 2 := by simp
  have hbx1 : BoxAt _ _ w.heap.size [.string nm, .int .i64 R, .slice ap an ac, .slice bp bs.length bcap] := (BoxAt.made (fun _ => 0) w [.string nm, .int .i64 R, .slice ap an ac, .slice bp bs.length bcap] 25).below (bAlloc (o := .cells #[.slice none 0 0, .int .i64 0] 33) (Nat.le_refl _) (Below.refl _ _))
  have hbx2 := BoxAt.made (fun _ => 0) (w.alloc (.cells #[.string nm, .int .i64 R, .slice ap an ac, .slice bp bs.length bcap] 25)) [.slice none 0 0, .int .i64 0] 33
  rw [show (w.alloc (.cells #[.string nm, .int .i64 R, .slice ap an ac, .slice bp bs.length bcap] 25)).heap.size = w.heap.size + 1 by simp] at hbx2
  have BX1 := Lib.hid hbx1
  have BX2 := Lib.hid hbx2
  have hbx3 := AlBox.made (w.alloc (.cells #[.string nm, .int .i64 R, .slice ap an ac, .slice bp bs.length bcap] 25)) (.slice none 0 0) 0
  rw [show (w.alloc (.cells #[.string nm, .int .i64 R, .slice ap an ac, .slice bp bs.length bcap] 25)).heap.size = w.heap.size + 1 by simp] at hbx3
  have BX3 := Lib.hid hbx3
  clear hB hw hT hb0 hl hcl hbx1 hbx2 hbx3
  go_enter Tryd.func7, Tryd.ntmps7
  go_wp2_with fail
  refine HIN.out.mono ?_
  rintro e w1 ⟨ev, rfl, hE, hb1⟩
  obtain ⟨ep, ecap, rfl⟩ := hE.shape
  have d1 := (hb1.cell (p := ⟨w.heap.size, 1, none⟩) BX1.out.lt).trans (BX1.out.at 1 rfl)
  have d2 := (hb1.cell (p := ⟨w.heap.size + 1, 0, none⟩) BX2.out.lt).trans (BX2.out.at 0 rfl)
  have d3 := (hb1.cell (p := ⟨w.heap.size + 1, 1, none⟩) BX2.out.lt).trans (BX2.out.at 1 rfl)
  have hs1 : w.heap.size + 2 ≤ w1.heap.size := by have := hb1.size; rw [c0] at this; exact this
  have l1 : w.heap.size < w1.heap.size := by omega
  have l2 : w.heap.size + 1 < w1.heap.size := by omega
  have HE := Lib.hid hE
  have HX3 := Lib.hid (BX3.out.of_block (hb1.block _ BX3.out.1))
  have HB1 := Lib.hid (bThen hb1 HB0.out.size HB0.out)
  clear hE hb1 HIN c0 BX1 BX2 BX3
  obtain ⟨c3, hA3⟩ := AloAt.made w1 R
  generalize hw3 : ((w1.alloc (.map #[] 0)).alloc (.cells (madeCells #[.int .i64 0, .int .i64 0] (R * 2)) 66)).alloc (.cells #[.slice (some ⟨w1.heap.size + 1, 0, none⟩) R R, .int .i64 0] 33) = w3 at hA3
  have hco := color_any _ E 8 w3 (HE.out.below hA3.bel (Nat.le_refl _)) (HMX.out.mono (by omega)) (by omega) (by omega) (by omega)
  rw [hEL, show max (8 : Int) 0 = 8 from rfl] at hco
  have HCO := Lib.hid hco
  have HA3 := Lib.hid hA3
  have HW3 := Lib.hid hw3
  clear hco hA3 hw3
  go_wp2_with fail
  rw [HW3.out]
  clear HW3
  refine HCO.out.mono ?_
  rintro e w4 ⟨V, rfl, hV, hb4⟩
  have hCl := colorG_len R (adjG E) 8
  obtain ⟨C, hC⟩ : ∃ C, C = colorG R (adjG E) 8 := ⟨_, rfl⟩
  rw [← hC] at hV hCl
  have hrd : RdI w4 V C := RdI.of_own (base := w3.heap.size) (by rw [hCl]; exact hV)
  obtain ⟨vp, vc, rfl⟩ := hrd.shape
  obtain ⟨c4, hA4, hL4⟩ : ∃ c, AloAt w1 R (w1.heap.size + 1) (w1.heap.size + 1 + 1) w1.heap.size (fun _ => (0, 0)) 0 [] [] c w4 (.slice none 0 0) ∧ ListAt c w4 (.slice vp C.length vc) C := ⟨_, HA3.out.paint0 hb4, ListAt.fresh hrd fun k hk => (by
    rcases hV.2 with ⟨e, _⟩ | ⟨g, _, _, e, h, _⟩
    · rw [e] at hk; cases hk
    · rw [e] at hk; cases hk; exact h)⟩
  rw [hCl] at hL4
  have HA4 := Lib.hid hA4
  have HL4 := Lib.hid hL4
  have HC := Lib.hid hC
  have HCR : Hid (∀ k, k < R → -1 ≤ C.getD k (-1) ∧ C.getD k (-1) ≤ 8) := (show ∀ k, k < R → _ from fun k hk => by
    obtain ⟨h1, h2⟩ := (colorG_ok (n := R) (A := adjG E) (k := 8) (adj_sym E) (adj_irr E)).rng k hk
    rw [← hC] at h1 h2
    omega)
  have HCL := Lib.hid hCl
  clear hrd hV hA4 hL4 HA3 HCO hb4 hC hCl d1
  rw [HCL.out]
  go_wp2_with fail
  go_loopw [6, 37] (fun s6 s37 wx => ∃ (k : Nat) (q : Option Addr) (cq : Nat) (cx : Nat → Nat), s6 = .slice q (spillN C k).length cq ∧ s37 = .int .i64 k ∧ k ≤ R ∧ Hid (AloAt w1 R (w1.heap.size + 1) (w1.heap.size + 1 + 1) w1.heap.size (pl1 C k) 0 (spillN C k) (spillN C k) cx wx (.slice q (spillN C k).length cq)) ∧ Hid (ListAt cx wx (.slice vp R vc) C)) (fun _ s37 _ => R - (intOf s37).toNat)
  case atStart => exact ⟨0, none, 0, c4, rfl, rfl, Nat.zero_le _, HA4, HL4⟩
  case round =>
    obtain ⟨k, q, cq, c5, rfl, rfl, hk, HA, HL⟩ := hrel
    obtain ⟨w5, rfl⟩ : ∃ W : World, W = wr := ⟨_, rfl⟩
    by_cases hlt : k < R
    · have hkI : (k : Int) < R := by omega
      obtain ⟨mv, ov, cv, e1, hmv, hcv⟩ := rdI_cell HL.out.1 k (by rw [HCL.out]; exact hlt)
      rw [HCL.out] at e1
      injection e1 with e1 e2 e3
      subst e1 e3
      have hg : C.getD k 0 = C.getD k (-1) := by simp only [List.getD_eq_getElem?_getD, List.getElem?_eq_getElem (show k < C.length by rw [HCL.out]; exact hlt)]; rfl
      rw [hg] at hcv
      have hpn : pl1 C (k + 1) = if 0 ≤ C.getD k (-1) then upd (pl1 C k) k (2 + C.getD k (-1), -1) else pl1 C k := rfl
      have hsn := spillN_next C k
      have hkn : k ∉ spillN C k := fun h => by have := (mem_spillN.1 h).1; omega
      have hsl := spillN_len C k
      obtain ⟨r1, r2⟩ : -1 ≤ C.getD k (-1) ∧ C.getD k (-1) ≤ 8 := HCR.out k hlt
      generalize C.getD k (-1) = x at hcv hpn hsn r1 r2
      have HPN := Lib.hid hpn
      have HSN := Lib.hid hsn
      have HKN := Lib.hid hkn
      clear hg hpn hsn hkn
      by_cases hx : 0 ≤ x
      · have hA := HA.out
        have b0 := hA.box.2.2.1
        have p0 := hA.pl.fst hlt
        have p1 := hA.pl.snd hlt
        have f0 := World.rowIs.frozen hA.pl (k * 2)
        have f1 := World.rowIs.frozen hA.pl (k * 2 + 1)
        have l3 := hA.lp
        have l4 := hA.la
        have hput := hA.putPl k (2 + x) (-1)
        have hpx := HPN.out
        rw [if_pos hx] at hpx
        have hsx := HSN.out
        rw [if_neg (by omega)] at hsx
        rw [← hpx] at hput
        have HPUT := Lib.hid hput
        have HSX := Lib.hid hsx
        have HLP := Lib.hid (HL.out.other hput.2 (by decide))
        clear hA hput hpx hsx HA HL
        go_wp2_with fail
        go_roundw
        case rel => exact ⟨k + 1, q, cq, _, by rw [HSX.out], by go_num, by omega, by rw [HSX.out]; exact HPUT.out.1, HLP⟩
        case measure => simp [intOf]; omega
      · obtain ⟨n, D, hn, hown, hmi⟩ := HA.out.mp
        have HM := Lib.hid hown
        have HMI := Lib.hid (hmi.push hown.isMap HKN.out)
        have HKey := Lib.hid (key_i (k : Int) (by omega))
        have HPE := Lib.hid (plainElem_int (H := Unit) (P := Tryd.prog) (q := .i64) (a := ((spillN C k).length : Int)) Tryd.underlying3 (by simp [Lit.wf, IntKind.min, IntKind.max, IntKind.bits, IntKind.signed]; omega))
        have hpx := HPN.out
        rw [if_neg hx] at hpx
        have hsx := HSN.out
        rw [if_pos (by omega)] at hsx
        have HPX := Lib.hid hpx
        have HSX := Lib.hid hsx
        clear hpx hsx hown hmi
        go_wp2_with (first | (at_mapUpdate; refine wpList_mapUpdate_own _ rfl _ _ _ 64 rfl 3 3 lawI Tryd.underlying64 (plainElem (H := Unit) Tryd.prog 3) w1.heap.size n _ rfl HM.out (by unfold maxLen; omega) _ _ _ rfl rfl HKey.out _ [] HPE.out ?_))
        intro w6 hown6 hgrow6
        have hT6 : Touch c5 2 w5 w6 := Touch.of_grown hgrow6 (fun b hb => by cases hb; exact HA.out.cm)
        have hA6 := HA.out.set2 (Sm' := spillN C k ++ [k]) ⟨n + 1, _, by rw [List.length_append]; simp; omega, hown6, HMI.out⟩ hT6
        have HL6 := Lib.hid (HL.out.other hT6 (by decide))
        have hbb : Below w6.heap.size w6 (w6.alloc (.cells #[.int .i64 k] 3)) := bAlloc (Nat.le_refl _) (Below.refl _ _)
        have ho := own0_block hA6.sp.1 (w' := w6.alloc (.cells #[.int .i64 k] 3)) fun b hb => hbb.block b (own0_lt hA6.sp.1 hb)
        rw [List.length_map] at ho
        have HO := Lib.hid ho
        have HBb := Lib.hid hbb
        have HA6 := Lib.hid hA6
        clear hT6 hA6 hbb ho hown6 hgrow6 HA HL HM HMI HPE
        go_wp2_with (first | (at_builtin; refine wpList_append_cell rfl _ _ 46 3 (.int .i64 0) 8 rfl Tryd.underlying46 infoI rfl (by decide) 0 (.slice q (spillN C k).length cq) (spillN C k).length _ rfl HO.out w6.heap.size 1 (.int .i64 k) rfl (by simp [go_sem]) rfl (by omega) (Nat.zero_le _) ?_))
        intro p7 c7 w7 hO7 hgr7 hd7
        obtain ⟨hP7, hT7⟩ := HA6.out.sp.push (v' := .slice p7 ((spillN C k).length + 1) c7) (y := (k : Int)) HBb.out hgr7 (by rw [List.length_map, List.map_map]; exact hO7) (hd7.imp id fun h b e => by have := h b e; simp; omega)
        have hA7 := HA6.out.set3 (S' := spillN C k ++ [k]) (by rw [List.map_append]; exact hP7) hT7
        have HL7 := Lib.hid (HL6.out.other hT7 (by decide))
        have HA7 := Lib.hid hA7
        clear hO7 hgr7 hd7 hP7 hT7 hA7 HO HBb HA6 HL6
        go_wp2_with fail
        go_roundw
        case rel => exact ⟨k + 1, p7, c7, _, by rw [HSX.out, List.length_append]; rfl, by go_num, by omega, by rw [HSX.out, HPX.out, List.length_append]; exact HA7.out, HL7⟩
        case measure => simp [intOf]; omega
    · have hkR : R = k := by omega
      subst hkR
      have hSl := spillN_len C R
      have hSn := spillN_nodup C R
      have hSr : ∀ i, i < (spillN C R).length → (spillN C R).getD i 0 < R := fun i hi => (mem_spillN (C := C)).1 (by rw [List.getD_eq_getElem?_getD, List.getElem?_eq_getElem hi]; exact List.getElem_mem hi) |>.1
      obtain ⟨S, hS⟩ : ∃ S, S = spillN C R := ⟨_, rfl⟩
      rw [← hS] at hSl hSn hSr HA ⊢
      have HS := Lib.hid hS
      have HSN := Lib.hid hSn
      have HSR := Lib.hid hSr
      have hmkL := run_make_row' (P := Tryd.prog) 47 46 (.slice none 0 0) 24 Tryd.underlying47 infoL rfl .i64 .i64 S.length (by omega) (by omega)
      have hT6 : Touch c5 4 w5 (w5.alloc (.cells (madeCells #[Value.slice none 0 0] S.length) 46)) := Touch.of_below (bAlloc (Nat.le_refl _) (Below.refl _ _))
      have HA6 := Lib.hid (HA.out.touch hT6 (by decide) (by decide) (by decide) (by decide))
      have HR6 := Lib.hid (RowsAt.made c5 4 w5 S.length (by omega) (aF E S 0 0) (fun t => aF_zero E S t))
      clear hS hSn hSr hT6 HA HL HL4 HA4 hlt
      go_wp2_with fail
      go_loopw [65] (fun s65 wx => ∃ (i : Nat) (cx : Nat → Nat), s65 = .int .i64 i ∧ i ≤ S.length ∧ Hid (AloAt w1 R (w1.heap.size + 1) (w1.heap.size + 1 + 1) w1.heap.size (pl1 C R) 0 S S cx wx (.slice q S.length cq)) ∧ Hid (RowsAt cx 4 wx (.slice (some ⟨w5.heap.size, 0, none⟩) S.length S.length) S.length (aF E S i 0))) (fun s65 _ => S.length - (intOf s65).toNat)
      case atStart => exact ⟨0, _, rfl, Nat.zero_le _, HA6, HR6⟩
      case round =>
        obtain ⟨i, c6, rfl, hi, HA, HRw⟩ := hrel
        obtain ⟨w6, rfl⟩ : ∃ W : World, W = wr := ⟨_, rfl⟩
        by_cases hlt : i < S.length
        · have hiI : (i : Int) < S.length := by omega
          obtain ⟨ms, os, cs, e1, hms, hcs⟩ := rdI_cell HA.out.sp.rd i (by rw [List.length_map]; exact hlt)
          rw [List.length_map] at e1
          injection e1 with e1 e2 e3
          subst e1 e3
          have hgi : (S.map Int.ofNat).getD i 0 = (S.getD i 0 : Nat) := by
            rw [List.getD_eq_getElem?_getD, List.getD_eq_getElem?_getD, List.getElem?_map, List.getElem?_eq_getElem hlt]; rfl
          rw [hgi] at hcs
          have hrR := HSR.out i hlt
          obtain ⟨m1, o1, cap1, q1, cr, e1, hm1, hx1, hr1⟩ := HE.out.row (S.getD i 0) (by omega)
          injection e1 with e1 e2 e3
          subst e1 e3
          clear e2
          have hAN : ∀ j, j < (E.getD (S.getD i 0) []).length → amongJ E S i (j + 1) = match posI S ((E.getD (S.getD i 0) []).getD j 0) with
            | none => amongJ E S i j
            | some k => amongJ E S i j ++ [k] := fun j hj => amongJ_next E S i j hj
          have hAE := amongJ_end E S i
          have hJL : ∀ j, (amongJ E S i j).length ≤ 64 := fun j => Nat.le_trans (amongJ_len E S i j) (HMX.out _)
          have hrl := HMX.out (S.getD i 0)
          have hin : ∀ j, j < (E.getD (S.getD i 0) []).length → ∃ k : Nat, (E.getD (S.getD i 0) []).getD j 0 = k ∧ k < R := fun j hj => by
            obtain ⟨k, h1, h2, _⟩ := HEI.out (S.getD i 0) hrR _ (getD_mem0 hj)
            exact ⟨k, h1, h2⟩
          generalize E.getD (S.getD i 0) [] = row at hx1 hr1 hAN hAE hrl hin
          generalize S.getD i 0 = r at hcs hrR hx1
          have hx6 := (HA.out.bel.cell (p := ⟨m1, o1 + r, none⟩) hm1).trans hx1
          have hm6 : m1 < w6.heap.size := Nat.lt_of_lt_of_le hm1 HA.out.bel.size
          have hrI : (r : Int) < R := by omega
          have HAN := Lib.hid hAN
          have HAE := Lib.hid hAE
          have HJL := Lib.hid hJL
          have HIN := Lib.hid hin
          have HR1 := Lib.hid hr1
          clear hAN hAE hJL hin hr1 hx1 hgi
          go_wp2_with fail
          go_loopw [75] (fun s75 wy => ∃ (j : Nat) (cy : Nat → Nat), s75 = .int .i64 j ∧ j ≤ row.length ∧ Hid (AloAt w1 R (w1.heap.size + 1) (w1.heap.size + 1 + 1) w1.heap.size (pl1 C R) 0 S S cy wy (.slice (some ⟨ms, os, none⟩) S.length cq)) ∧ Hid (RowsAt cy 4 wy (.slice (some ⟨w5.heap.size, 0, none⟩) S.length S.length) S.length (aF E S i j))) (fun s75 _ => row.length - (intOf s75).toNat)
          case atStart => exact ⟨0, c6, rfl, Nat.zero_le _, HA, HRw⟩
          case round =>
            obtain ⟨j, c7, rfl, hj, HA7, HR7⟩ := hrel
            obtain ⟨w7, rfl⟩ : ∃ W : World, W = wr := ⟨_, rfl⟩
            by_cases hlj : j < row.length
            · have hjI : (j : Int) < row.length := by omega
              obtain ⟨mu, ou, cu, e1, hmu, hcu⟩ := rdI_cell (HR1.out.below HA7.out.bel (Nat.le_refl _)) j hlj
              injection e1 with e1 e2 e3
              subst e1 e3
              have hAN := HAN.out j hlj
              obtain ⟨y, hy, hyR⟩ := HIN.out j hlj
              rw [hy] at hcu hAN
              have HAN7 := Lib.hid hAN
              obtain ⟨n, D, hn, hown, hmi⟩ := HA7.out.mp
              have HM := Lib.hid hown
              have HMI := Lib.hid hmi
              have HKey := Lib.hid (key_i (y : Int) (by omega))
              clear hy hown hmi hAN
              go_wp2_with (first | (at_lookup; refine wpList_lookup_own_ok_int _ rfl _ _ 64 rfl 3 3 .i64 lawI Tryd.underlying64 Tryd.underlying3 (zeroI _) w1.heap.size n D rfl HM.out _ _ rfl HKey.out ?_))
              intro c hc hwc
              rw [HMI.out.has (y : Int)]
              cases hp : posI S (y : Int) with
              | none =>
                have HQ := Lib.hid (aF_same (by have h := HAN7.out; rw [hp] at h; exact h))
                clear hp hc hwc
                go_wp2_with fail
                go_roundw
                case rel => exact ⟨j + 1, c7, by go_num, by omega, HA7, by rw [HQ.out]; exact HR7⟩
                case measure => simp [intOf]; omega
              | some z =>
                have HQ := Lib.hid (aF_upd (by have h := HAN7.out; rw [hp] at h; exact h))
                have hz := HMI.out.val _ _ hp (.lit (.int .i64 0))
                rw [hz] at hc
                injection hc with hc
                injection hc with _ hc
                subst hc
                clear hp hz hwc
                have hpl := HJL.out j
                obtain ⟨g, cap, p, cap', e1, hg1, hg2, hg3, hg4, hg5, hg6⟩ := HR7.out.get hlt
                injection e1 with e1 e2 e3
                injection e1 with e1
                injection e1 with e1
                subst e1 e3
                rw [← aF_self] at hpl
                have HG3 := Lib.hid hg3
                generalize hpq : aF E S i j i = pq at hg3 hg5 hg6 hpl HG3
                have HPQ := Lib.hid hpq
                have hbb : Below w7.heap.size w7 (w7.alloc (.cells #[.int .i64 z] 3)) := bAlloc (Nat.le_refl _) (Below.refl _ _)
                have HBb := Lib.hid hbb
                have HO := Lib.hid (own0_block hg5 (w' := w7.alloc (.cells #[.int .i64 z] 3)) fun q hq => hbb.block q (own0_lt hg5 hq))
                have HG6 := Lib.hid hg6
                clear hpq hbb hg5 hg6 e2
                go_wp2_with (first | (at_builtin; refine wpList_append_cell rfl _ _ 46 3 (.int .i64 0) 8 rfl Tryd.underlying46 infoI rfl (by decide) 0 (.slice p pq.length cap') pq.length _ rfl HO.out w7.heap.size 1 (.int .i64 z) rfl (by simp [go_sem]) rfl (by omega) (Nat.zero_le _) ?_))
                intro p8 c8 w8 hO8 hgr8 hd8
                have hb8 : w8.heap[w5.heap.size]? = w7.heap[w5.heap.size]? := (hgr8.block _ (by simp; omega) (fun e => (HG6.out _ e.symm).2 rfl)).trans (HBb.out.block _ hg1)
                have hc8 := (World.cell?_of_block (w := w7) (a := ⟨w5.heap.size, i, none⟩) hb8).trans hg3
                have hf8 := (World.frozen?_of_block (w := w7) (a := ⟨w5.heap.size, i, none⟩) hb8).trans hg4
                have hs8 : w5.heap.size < w8.heap.size := by have := hgr8.size; simp at this; omega
                obtain ⟨hP9, hT9⟩ := HR7.out.pushed hlt rfl (by rw [HPQ.out]; exact HG3.out) HBb.out (by rw [HPQ.out]; exact hgr8) (by rw [HPQ.out]; exact hO8) (by rw [HPQ.out]; exact hd8.imp id fun h q e => by have := h q e; simp; omega)
                have HA9 := Lib.hid (HA7.out.touch hT9 (by decide) (by decide) (by decide) (by decide))
                rw [← HQ.out] at hP9
                have HR9 := Lib.hid hP9
                clear hO8 hgr8 hd8 hb8 hP9 hT9 HO HBb HG6 HA7 HR7 hg1 hg3 hg4 hcu hmu
                go_wp2_with fail
                go_roundw
                case rel => exact ⟨j + 1, _, by go_num, by omega, HA9, HR9⟩
                case measure => simp [intOf]; omega
            · have hjl : j = row.length := by omega
              subst hjl
              go_wp2_with fail
              go_roundw
              case rel => exact ⟨i + 1, c7, by go_num, by omega, HA7, by rw [← aF_end HAE.out]; exact HR7⟩
              case measure => simp [intOf]; omega
        · have hiS : i = S.length := by omega
          subst hiS
          have hrdE := HRw.out.rdR (amongE E S) (amongE_len E S) (fun t ht => by rw [amongE_at E S ht]; unfold aF; rw [if_pos ht])
          have hco := color_any _ (amongE E S) S.length w6 hrdE ((amongE_max S HMX.out).mono (by omega)) (by rw [amongE_len]; omega) (by omega) (by omega)
          rw [amongE_len, show max (S.length : Int) 0 = S.length by omega] at hco
          have HCO := Lib.hid hco
          clear hrdE hco HRw HR6 HA6 hlt
          go_wp2_with fail
          refine HCO.out.mono ?_
          rintro e w7 ⟨V, rfl, hV, hb7⟩
          have hAl := colorG_len S.length (adjG (amongE E S)) S.length
          obtain ⟨A, hAq⟩ : ∃ A, A = colorG S.length (adjG (amongE E S)) S.length := ⟨_, rfl⟩
          rw [← hAq] at hV hAl
          have hrd : RdI w7 V A := RdI.of_own (base := w6.heap.size) (by rw [hAl]; exact hV)
          obtain ⟨tp, tc, rfl⟩ := hrd.shape
          obtain ⟨c7, hA7, hL7⟩ : ∃ c, AloAt w1 R (w1.heap.size + 1) (w1.heap.size + 1 + 1) w1.heap.size (pl1 C R) 0 S S c w7 (.slice q S.length cq) ∧ ListAt c w7 (.slice tp A.length tc) A := ⟨_, HA.out.paint0 hb7, ListAt.fresh hrd fun k hk => (by
            rcases hV.2 with ⟨e, _⟩ | ⟨g, _, _, e, h, _⟩
            · rw [e] at hk; cases hk
            · rw [e] at hk; cases hk; exact h)⟩
          rw [hAl] at hL7
          have HA7 := Lib.hid hA7
          have HL7 := Lib.hid hL7
          have HAQ := Lib.hid hAq
          have HAL := Lib.hid hAl
          have HAR : Hid (∀ k, k < S.length → -1 ≤ A.getD k (-1) ∧ A.getD k (-1) ≤ 64) := (show ∀ k, k < S.length → _ from fun k hk => by
            obtain ⟨h1, h2⟩ := (colorG_ok (n := S.length) (A := adjG (amongE E S)) (k := S.length) (adj_sym _) (adj_irr _)).rng k hk
            rw [← hAq] at h1 h2
            omega)
          clear hrd hV hA7 hL7 HA HCO hb7 hAq hAl
          rw [HAL.out]
          go_wp2_with fail
          go_loopw [103] (fun s103 wx => ∃ (i : Nat) (cx : Nat → Nat), s103 = .int .i64 i ∧ i ≤ S.length ∧ Hid (AloAt w1 R (w1.heap.size + 1) (w1.heap.size + 1 + 1) w1.heap.size (pl2 S A (pl1 C R) i) (slN A i) S S cx wx (.slice q S.length cq)) ∧ Hid (ListAt cx wx (.slice tp S.length tc) A)) (fun s103 _ => S.length - (intOf s103).toNat)
          case atStart => exact ⟨0, c7, rfl, Nat.zero_le _, HA7, HL7⟩
          case round =>
            obtain ⟨i, c8, rfl, hi, HA, HL⟩ := hrel
            obtain ⟨w8, rfl⟩ : ∃ W : World, W = wr := ⟨_, rfl⟩
            by_cases hlt : i < S.length
            · have hiI : (i : Int) < S.length := by omega
              obtain ⟨ms, os, cs, e1, hms, hcs⟩ := rdI_cell HA.out.sp.rd i (by rw [List.length_map]; exact hlt)
              rw [List.length_map] at e1
              injection e1 with e1 e2 e3
              subst e1 e3
              clear e2
              have hgi : (S.map Int.ofNat).getD i 0 = (S.getD i 0 : Nat) := by
                rw [List.getD_eq_getElem?_getD, List.getD_eq_getElem?_getD, List.getElem?_map, List.getElem?_eq_getElem hlt]; rfl
              rw [hgi] at hcs
              have hrR := HSR.out i hlt
              obtain ⟨mu, ou, cu, e1, hmu, hcu⟩ := rdI_cell HL.out.1 i (by rw [HAL.out]; exact hlt)
              rw [HAL.out] at e1
              injection e1 with e1 e2 e3
              subst e1 e3
              clear e2
              have hg : A.getD i 0 = A.getD i (-1) := by simp only [List.getD_eq_getElem?_getD, List.getElem?_eq_getElem (show i < A.length by rw [HAL.out]; exact hlt)]; rfl
              rw [hg] at hcu
              obtain ⟨r1, r2⟩ := HAR.out i hlt
              have hp2 : pl2 S A (pl1 C R) (i + 1) = upd (pl2 S A (pl1 C R) i) (S.getD i 0) (0, A.getD i (-1)) := rfl
              have hs2 : slN A (i + 1) = max (slN A i) (A.getD i (-1) + 1) := rfl
              generalize A.getD i (-1) = x at hcu r1 r2 hp2 hs2
              generalize S.getD i 0 = r at hcs hrR hp2
              have HP2 := Lib.hid hp2
              have HS2 := Lib.hid hs2
              have hA := HA.out.paint0 (w' := w8.drew) (Below.refl _ _).drew
              have b0 := HA.out.box.2.2.1
              have b1 := HA.out.box.2.2.2
              have bf := HA.out.box.2.1 1
              have p0 := HA.out.pl.fst hrR
              have p1 := HA.out.pl.snd hrR
              have f0 := World.rowIs.frozen HA.out.pl (r * 2)
              have f1 := World.rowIs.frozen HA.out.pl (r * 2 + 1)
              have l3 := HA.out.lp
              have l4 := HA.out.la
              have hrI : (r : Int) < R := by omega
              obtain ⟨hP9, hT9⟩ := hA.putPl r 0 x
              have hL9 := (HL.out.below (w' := w8.drew) (Below.refl _ _).drew).clean (n := w8.heap.size)
              have HL9 := Lib.hid (hL9.other hT9 (by decide))
              have b9 := hP9.box.2.2.1
              have b9' := hP9.box.2.2.2
              have bf9 := hP9.box.2.1 1
              have l9 := hP9.la
              have HA9 := Lib.hid hP9
              clear hA hP9 hT9 hL9 hp2 hs2 hg hgi HA HL HA7 HL7
              go_wp2_with fail
              go_still_tail 9, (by kernel_rfl)
              go_wp2_with fail
              go_roundw
              case rel =>
                obtain ⟨hA10, hT10⟩ := HA9.out.putS (max (slN A i) (x + 1))
                have hL10 := HL9.out.other hT10 (by decide)
                exact ⟨i + 1, _, by go_num, by omega, by rw [HP2.out, HS2.out]; exact hA10, hL10⟩
              case measure => simp [intOf]; omega
            · have hiS : i = S.length := by omega
              subst hiS
              have b0 := HA.out.box.2.2.1
              have b1 := HA.out.box.2.2.2
              have l4 := HA.out.la
              have hx3 := HX3.out.of_block (HA.out.bel.block _ l2)
              have x0 := hx3.2.2.1
              have x1 := hx3.2.2.2
              have xf0 := hx3.2.1 0
              have xf1 := hx3.2.1 1
              have xl := hx3.1
              clear hx3 d2 d3
              go_wp2_with fail
              refine bodyPost_ret (run_result2 Tryd.results7 (fun _ => by kernel_rfl) (fun _ => by kernel_rfl) _ _ (w.heap.size + 1) (.slice (some ⟨w1.heap.size + 1, 0, none⟩) R R) (.int .i64 (slN A S.length)) (.int .i64 0) rfl rfl ?_ ?_) rfl ?_
              · simp [go_sem, *]
              · simp [go_sem, *]
              refine ⟨C, S, A, w1.heap.size + 1, HC.out, HS.out, HAQ.out, rfl, ?_, ?_⟩
              · refine World.rowIs.of_block HA.out.pl ((Below.heap_setCell _ _ _ _ ?_).trans (Below.heap_setCell _ _ _ _ ?_))
                · show w1.heap.size + 1 ≠ w.heap.size + 1
                  omega
                · show w1.heap.size + 1 ≠ w.heap.size + 1
                  omega
              · exact bSet (Nat.le_succ _) (bSet (Nat.le_succ _) (bThen HA.out.bel HB1.out.size HB1.out))
end Go.Proofs.YtifjcknklecdbaaDoor
