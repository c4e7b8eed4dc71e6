import Derived.Test.YtkcfbonchhidlaaGreatDoorMs25
import Derived.Deep.RegionWith
import Derived.Lib.SlicesCompact
set_option linter.unusedVariables false
set_option linter.unusedSimpArgs false
namespace Go.Proofs.YtkcfbonchhidlaaGreatDoor
open Go.RowKit

structure RoAt (wE : World) (R m : Nat) (rv : Value) (fb rb : Nat) (F : List Value) (g : Nat → Nat) (col : Nat → Nat) (w : World) : Prop where
  rows : SetsAt col 7 w rv R m g
  fbox : BoxAt col w fb F
  rbox : BoxAt col w rb [rv]
  low : ∀ k, k < wE.heap.size → col k = 0
  bel : Below wE.heap.size wE w
  big : wE.heap.size ≤ w.heap.size
section
variable {wE w w' : World} {R m : Nat} {rv : Value} {fb rb : Nat} {F : List Value} {g : Nat → Nat} {col : Nat → Nat}
theorem RoAt.below (h : RoAt wE R m rv fb rb F g col w) (hb : Below w.heap.size w w') : RoAt wE R m rv fb rb F g col w' :=
  ⟨h.rows.below hb, h.fbox.below hb, h.rbox.below hb, h.low, h.bel.trans (hb.mono h.big), Nat.le_trans h.big hb.size⟩
theorem RoAt.clean (h : RoAt wE R m rv fb rb F g col w) : RoAt wE R m rv fb rb F g (paint col w.heap.size 0) w :=
  ⟨h.rows.mono (fun k hk e => by rw [paint_lt hk]; exact e), h.fbox.clean, h.rbox.clean, low_paint h.low h.big, h.bel, h.big⟩
theorem RoAt.paint0 (h : RoAt wE R m rv fb rb F g col w) (hb : Below w.heap.size w w') : RoAt wE R m rv fb rb F g (paint col w.heap.size 0) w' := by
  have h2 := h.clean.below hb
  exact h2
theorem RoAt.tb (h : RoAt wE R m rv fb rb F g col w) {c : Nat} (hc : c ≠ 0) (ht : Touch col c w w') : Below wE.heap.size wE w' := h.bel.trans (ht.below h.big fun k hk e => hc (by rw [← e]; exact h.low k hk))
theorem RoAt.touch3 (h : RoAt wE R m rv fb rb F g col w) (ht : Touch col 3 w w') : RoAt wE R m rv fb rb F g (paint col w.heap.size 3) w' :=
  ⟨h.rows.other ht (by decide), h.fbox.other ht (by decide), h.rbox.other ht (by decide), low_paint h.low h.big, h.tb (by decide) ht, Nat.le_trans h.big ht.size⟩
theorem RoAt.setRows (h : RoAt wE R m rv fb rb F g col w) {g' : Nat → Nat} (hn : SetsAt (paint col w.heap.size 7) 7 w' rv R m g') (ht : Touch col 7 w w') : RoAt wE R m rv fb rb F g' (paint col w.heap.size 7) w' :=
  ⟨hn, h.fbox.other ht (by decide), h.rbox.other ht (by decide), low_paint h.low h.big, h.tb (by decide) ht, Nat.le_trans h.big ht.size⟩
end
def symJ (r : Nat) (l : List Nat) (g : Nat → Nat) (j : Nat) : Nat → Nat := (l.take j).foldl (fun g q => upd g q (addB (g q) r)) g
theorem symJ_next (r : Nat) (l : List Nat) (g : Nat → Nat) (j q : Nat) (hj : j < l.length) (hq : l.getD j 0 = q) : symJ r l g (j + 1) = upd (symJ r l g j) q (addB (symJ r l g j q) r) := by
  unfold symJ
  have : l[j] = q := by rw [← hq, List.getD_eq_getElem?_getD, List.getElem?_eq_getElem hj]; rfl
  rw [List.take_succ_eq_append_getElem hj, List.foldl_append, this]; rfl
theorem symJ_end (r : Nat) (g : Nat → Nat) : symJ r (bitsL (remB (g r) r)) (upd g r (remB (g r) r)) (bitsL (remB (g r) r)).length = symI r g := by
  unfold symJ symI; rw [List.take_length]
theorem symJ_lt {R r : Nat} (hr : r < R) (l : List Nat) (g : Nat → Nat) (hg : ∀ q, q < R → g q < 2 ^ R) (j : Nat) : ∀ q, q < R → symJ r l g j q < 2 ^ R := by
  unfold symJ
  generalize l.take j = l2
  induction l2 generalizing g with
  | nil => exact hg
  | cons a l ih =>
    refine ih _ fun q hq => ?_
    show upd g a (addB (g a) r) q < _
    by_cases e : q = a
    · subst e; rw [upd_same]; exact addB_lt (hg q hq) hr
    · rw [upd_ne _ _ e]; exact hg q hq

structure LayAt (wE : World) (R m k : Nat) (rv : Value) (fb rb : Nat) (F : List Value) (V : Nat → Value) (col : Nat → Nat) (w : World) : Prop where
  rows : RowsV 147 164 (fun b => col b = 7) w rv R V (fun i => if i < k then setWd m 0 else [])
  fbox : BoxAt col w fb F
  rbox : BoxAt col w rb [rv]
  low : ∀ b, b < wE.heap.size → col b = 0
  bel : Below wE.heap.size wE w
  big : wE.heap.size ≤ w.heap.size
theorem LayAt.drew {wE w : World} {R m k : Nat} {rv : Value} {fb rb : Nat} {F : List Value} {V : Nat → Value} {col : Nat → Nat} (h : LayAt wE R m k rv fb rb F V col w) : LayAt wE R m k rv fb rb F V col w.drew :=
  ⟨h.rows.below (Below.refl _ _).drew, h.fbox.below (Below.refl _ _).drew, h.rbox.below (Below.refl _ _).drew, h.low, h.bel.drew, h.big⟩
theorem LayAt.next {wE w w' : World} {R m k : Nat} {fb rb g cap : Nat} {F : List Value} {V : Nat → Value} {col : Nat → Nat} (h : LayAt wE R m k (.slice (some ⟨g, 0, none⟩) R cap) fb rb F V col w) (hk : k < R) (hb : Below w.heap.size w w') {u : Value} (hu : SetV w' m u 0) (huf : ∀ b, u.ownBlock = some b → w.heap.size ≤ b) :
    LayAt wE R m (k + 1) (.slice (some ⟨g, 0, none⟩) R cap) fb rb F (upd V k u) (paint col w.heap.size 7) (w'.setCell ⟨g, k, none⟩ u) := by
  have hg : col g = 7 := h.rows.dg g rfl
  have hgl : g < w.heap.size := own0_lt h.rows.out rfl
  have ht : Touch col 7 w (w'.setCell ⟨g, k, none⟩ u) := (Touch.of_below hb).trans (Touch.setCell hg u)
  refine ⟨((h.rows.mono (G := fun b => paint col w.heap.size 7 b = 7) (fun b hb e => by rw [paint_lt hb]; exact e)).set hk (w' := w') (fun b hb2 _ => hb.block b hb2) hb.size rfl (xs := setWd m 0) (by rw [setW_len]; exact hu) (.inr huf) (fun b hb => paint_ge hb)).congr fun i hi => ?_, h.fbox.other ht (by decide), h.rbox.other ht (by decide), low_paint h.low h.big, h.bel.trans (ht.below h.big fun b hb e => by rw [h.low b hb] at e; cases e), Nat.le_trans h.big ht.size⟩
  by_cases e : i = k
  · subst e; rw [upd_same, if_pos (by omega)]
  · rw [upd_ne _ _ e]
    by_cases h2 : i < k
    · rw [if_pos h2, if_pos (by omega)]
    · rw [if_neg h2, if_neg (by omega)]
theorem bitsF_nodup : ∀ (k x : Nat), x ≤ k → x < 2 ^ 64 → (bitsF k x).Nodup
  | 0, x, _, _ => by simp [bitsF]
  | k + 1, x, h, h64 => by
    unfold bitsF
    by_cases h0 : x = 0
    · rw [if_pos h0]; exact List.nodup_nil
    · rw [if_neg h0]
      have hp := and_pred_lt h0
      refine List.nodup_cons.2 ⟨fun hm => ?_, bitsF_nodup k _ (by omega) (by omega)⟩
      rw [mem_bitsF k _ (by omega) (by omega)] at hm
      obtain ⟨m, hm2, -⟩ := Lib.ctzFrom_spec 64 x (by omega) h64
      have e : Lib.ctz 64 x = Lib.ctzFrom 64 x := by simp [Lib.ctz, h0]
      rw [e] at hm
      generalize Lib.ctzFrom 64 x = t at hm hm2
      rw [hm2, low_bit] at hm
      simp at hm
theorem bitsL_len {R x : Nat} (hR : R ≤ 64) (h : x < 2 ^ R) : (bitsL x).length ≤ 64 :=
  Nat.le_trans (nodup_len R _ (bitsF_nodup x x (Nat.le_refl _) (Nat.lt_of_lt_of_le h (Nat.pow_le_pow_right (by decide) hR))) (bitsL_lt hR h)) hR
def ListsAt (w : World) (g n r : Nat) (V : Nat → Value) (row : Nat → List Int) : Prop := w.rowIs g 88 n V ∧ ∀ i, i < r → RdI w (V i) (row i) ∧ ∀ b, (V i).ownBlock = some b → b ≠ g
theorem ListsAt.below {w w' : World} {g n r : Nat} {V : Nat → Value} {row : Nat → List Int} (h : ListsAt w g n r V row) (hb : Below w.heap.size w w') : ListsAt w' g n r V row :=
  ⟨h.1.of_block (hb.block g h.1.lt), fun i hi => ⟨(h.2 i hi).1.below hb (Nat.le_refl _), (h.2 i hi).2⟩⟩
theorem ListsAt.next {w : World} {g n r : Nat} {V : Nat → Value} {row : Nat → List Int} (h : ListsAt w g n r V row) {u : Value} (hu : RdI w u (row r)) (hug : ∀ b, u.ownBlock = some b → b ≠ g) : ListsAt (w.setCell ⟨g, r, none⟩ u) g n (r + 1) (upd V r u) row := by
  have hk : ∀ (v : Value) (l : List Int), RdI w v l → (∀ b, v.ownBlock = some b → b ≠ g) → RdI (w.setCell ⟨g, r, none⟩ u) v l := fun v l hv hne =>
    hv.keep (by simp [World.setCell]) fun b hb _ => Below.heap_setCell _ _ _ _ (hne b hb)
  refine ⟨(h.1.set r u).congr fun i _ => ?_, fun i hi => ?_⟩
  · unfold upd; rfl
  · by_cases e : i = r
    · subst e; rw [upd_same]; exact ⟨hk _ _ hu hug, hug⟩
    · rw [upd_ne _ _ e]
      have := h.2 i (by omega)
      exact ⟨hk _ _ this.1 this.2, this.2⟩
def InterPost (E : List (List Int)) (w : World) (e : Ending) (w' : World) : Prop := ∃ v, e = .returned (.tuple #[v, .int .i64 0]) ∧ RdR w' v E ∧ Below w.heap.size w w'
set_option maxHeartbeats 6400000 in
set_option maxRecDepth 100000 in
theorem interf_any (nm : ByteArray) (R m : Nat) (ap : Option Addr) (an ac : Nat) (bv : Value) (bs : List IBlk) (w : World) (hR : R ≤ 64) (hm : (R + 63) / 64 = m) (hB : BksAt w bv bs) (hl : bs.length ≤ 1000) (hcl : ∀ k, k < bs.length → (bs.getD k default).code.length ≤ 1000) (hw : wfF R bs = true) (hT : TabZ w) :
    Calls Tryz.prog 31 #[.agg #[.string nm, .int .i64 R, .slice ap an ac, bv]] w (InterPost (edgesL R bs) w) := by
  obtain ⟨bp, bcap, rfl⟩ := hB.shape
  have hm1 : m ≤ 1 := by omega
  have hRm : R ≤ 64 * m := by omega
  have hmkS := run_make_row' (P := Tryz.prog) 145 147 (.slice none 0 0) 24 Tryz.underlying145 infoS rfl .i64 .i64 R (by omega) (by omega)
  have hmkL := run_make_row' (P := Tryz.prog) 117 88 (.slice none 0 0) 24 Tryz.underlying117 infoL rfl .i64 .i64 R (by omega) (by omega)
  have hmf : ∀ (fn : Fn) (first cap : Array Value) (w : World), (Instr.makeFunc fn first cap).run Tryz.prog w = .ok (.func fn first cap) w := fun _ _ _ _ => rfl
  have hb0 : Below w.heap.size w (w.alloc (.cells #[.string nm, .int .i64 R, .slice ap an ac, .slice bp bs.length bcap] 61)) := bAlloc (Nat.le_refl _) (Below.refl _ _)
  have HWF := Lib.hid (wf_any nm R ap an ac _ bs _ (hB.below hb0 (Nat.le_refl _)) hl hcl)
  have HBX := Lib.hid (BoxAt.made (fun _ => 0) w [.string nm, .int .i64 R, .slice ap an ac, .slice bp bs.length bcap] 61)
  have HW := Lib.hid hw
  have HB0 := Lib.hid hb0
  have HD := Lib.hid hB
  have HCL := Lib.hid hcl
  have HM := Lib.hid hm
  have HT := Lib.hid hT
  clear hB hcl hw hm hT
  go_enter Tryz.func31, Tryz.ntmps31
  go_wp2_with fail
  refine HWF.out.mono ?_
  rintro e w1 ⟨rfl, hb1⟩
  rw [HW.out]
  have hx1 := HBX.out.below hb1
  have r1 := hx1.at 1 rfl
  have hzx := hx1.lt
  have HX1 := Lib.hid hx1
  have HB1 := Lib.hid (HB0.out.trans (hb1.mono hb0.size))
  clear hb1 hb0 HWF HBX HB0 hx1
  go_wp2_with fail
  have hL2 : ∃ (V : Nat → Value) (c : Nat → Nat), LayAt w R m 0 (.slice (some ⟨w1.heap.size, 0, none⟩) R R) w.heap.size (w1.heap.size + 1) [.string nm, .int .i64 R, .slice ap an ac, .slice bp bs.length bcap] V c ((w1.alloc (.cells (madeCells #[Value.slice none 0 0] R) 147)).alloc (.cells #[.slice (some ⟨w1.heap.size, 0, none⟩) R R] 145)) := by
    have hbm : Below w1.heap.size w1 (w1.alloc (.cells (madeCells #[Value.slice none 0 0] R) 147)) := bAlloc (Nat.le_refl _) (Below.refl _ _)
    have h1 := RowsV.made (T := 147) (E := 164) (D := fun b => paint (paint (fun _ => 0) w.heap.size 0) w1.heap.size 7 b = 7) w1 R (by unfold maxLen; omega) (paint_ge (Nat.le_refl _))
    have hx2 := HX1.out.other (Touch.of_below (col := paint (fun _ => 0) w.heap.size 0) (c := 7) hbm) (by decide)
    have hs : (w1.alloc (.cells (madeCells #[Value.slice none 0 0] R) 147)).heap.size = w1.heap.size + 1 := by simp
    generalize w1.alloc (.cells (madeCells #[Value.slice none 0 0] R) 147) = w1a at h1 hx2 hs hbm ⊢
    have hbm2 : Below w1a.heap.size w1a (w1a.alloc (.cells #[.slice (some ⟨w1.heap.size, 0, none⟩) R R] 145)) := bAlloc (Nat.le_refl _) (Below.refl _ _)
    have hbx := BoxAt.made (paint (paint (fun _ => 0) w.heap.size 0) w1.heap.size 7) w1a [.slice (some ⟨w1.heap.size, 0, none⟩) R R] 145
    rw [hs] at hbx
    refine ⟨_, paint (paint (paint (fun _ => 0) w.heap.size 0) w1.heap.size 7) (w1.heap.size + 1) 0, ((h1.congr fun i hi => by rw [if_neg (by omega)]).mono (G := fun b => paint (paint (paint (fun _ => 0) w.heap.size 0) w1.heap.size 7) (w1.heap.size + 1) 0 b = 7) (fun b hb e => by rw [paint_lt (by omega)]; exact e)).below hbm2, (hx2.clean).below hbm2, hbx, fun b hb => ?_, HB1.out.trans ((hbm.trans (hbm2.mono (by omega))).mono HB1.out.size), ?_⟩
    · rw [paint_lt (by omega), paint_lt (by omega)]; unfold paint; split <;> rfl
    · have := HB1.out.size; have := hbm2.size; omega
  obtain ⟨V0, c2, hL2⟩ := hL2
  have HL2 := Lib.hid hL2
  clear hL2 r1 hzx HX1
  generalize ((w1.alloc (.cells (madeCells #[Value.slice none 0 0] R) 147)).alloc (.cells #[.slice (some ⟨w1.heap.size, 0, none⟩) R R] 145)) = w2 at HL2 ⊢
  go_loopw [21] (fun s21 wx => ∃ (k : Nat) (V : Nat → Value) (cx : Nat → Nat), s21 = .int .i64 k ∧ k ≤ R ∧ Hid (LayAt w R m k (.slice (some ⟨w1.heap.size, 0, none⟩) R R) w.heap.size (w1.heap.size + 1) [.string nm, .int .i64 R, .slice ap an ac, .slice bp bs.length bcap] V cx wx)) (fun s21 _ => R - (intOf s21).toNat)
  case atStart => exact ⟨0, V0, c2, rfl, Nat.zero_le _, HL2⟩
  case round =>
    obtain ⟨k, V, c3, rfl, hk, HS⟩ := hrel
    obtain ⟨w3, rfl⟩ : ∃ W : World, W = wr := ⟨_, rfl⟩
    by_cases hlt : k < R
    · have hkI : (k : Int) < R := by omega
      obtain ⟨g, cap, e1, hg1, hg2, hg3, hg4, hg5⟩ := HS.out.rows.block (by omega)
      injection e1 with e1 e2 e3
      injection e1 with e1
      injection e1 with e1
      subst e1 e3
      have b1 := HS.out.fbox.at 1 rfl
      have b0 := HS.out.rbox.at 0 rfl
      have l1 := HS.out.fbox.lt
      have l2 := HS.out.rbox.lt
      have hgk := hg4 k hlt
      have hfk := hg5 k
      clear hg4 hg5
      have hnx := HS.out.next hlt (w' := w3.alloc (.cells (madeCells #[Value.int .u64 0] m) 164)) (bAlloc (Nat.le_refl _) (Below.refl _ _)) (empty_made w3 m hm1) (fun b hb => by cases hb; exact Nat.le_refl _)
      rw [World.setCell_alloc_past (w := w3) (.cells (madeCells #[Value.int .u64 0] m) 164) w1.heap.size k (.slice (some ⟨w3.heap.size, 0, none⟩) m m) hg1] at hnx
      have HNX := Lib.hid hnx
      clear hnx
      go_wp2_with fail
      go_region_with (go_at_call 57; refine (empty_any R m hR HM.out _).mono ?_; rintro e w' ⟨rfl, hsv, rfl⟩)
      all_goals
        have HN2 : Hid (LayAt w R m (k + 1) (.slice (some ⟨w1.heap.size, 0, none⟩) R R) w.heap.size (w1.heap.size + 1) [.string nm, .int .i64 R, .slice ap an ac, .slice bp bs.length bcap] (upd V k (.slice (some ⟨w3.heap.size, 0, none⟩) m m)) (paint c3 w3.heap.size 7) (((w3.setCell ⟨w1.heap.size, k, none⟩ (.slice (some ⟨w3.heap.size, 0, none⟩) m m)).alloc (.cells (madeCells #[Value.int .u64 0] m) 164)).drew)) := (show LayAt _ _ _ _ _ _ _ _ _ _ _ from HNX.out.drew)
        clear HNX hsv hg1 hgk hfk b0 b1 l1 l2 HS
        generalize ((w3.setCell ⟨w1.heap.size, k, none⟩ (.slice (some ⟨w3.heap.size, 0, none⟩) m m)).alloc (.cells (madeCells #[Value.int .u64 0] m) 164)).drew = w4 at HN2 ⊢
        go_wp2_with fail
        go_roundw
        case rel => exact ⟨k + 1, _, _, by go_num, by omega, HN2⟩
        case measure => simp [intOf]; omega
    · have hkn : k = R := by omega
      subst hkn
      have hr7 : RoAt w k m (.slice (some ⟨w1.heap.size, 0, none⟩) k k) w.heap.size (w1.heap.size + 1) [.string nm, .int .i64 k, .slice ap an ac, .slice bp bs.length bcap] (fun _ => 0) c3 w3 := ⟨⟨V, HS.out.rows.congr fun i hi => by rw [if_pos hi]⟩, HS.out.fbox, HS.out.rbox, HS.out.low, HS.out.bel, HS.out.big⟩
      have HR7 := Lib.hid hr7
      have HAF := Lib.hid (after_any nm k m ap an ac bp bcap (.slice (some ⟨w1.heap.size, 0, none⟩) k k) bs w.heap.size (w1.heap.size + 1) c3 w w3 hR HM.out HD.out hl HCL.out HW.out hr7.rows hr7.fbox hr7.rbox hr7.low hr7.bel)
      have b0 := hr7.fbox.at 0 rfl
      have b1 := hr7.fbox.at 1 rfl
      have b2 := hr7.fbox.at 2 rfl
      have b3 := hr7.fbox.at 3 rfl
      have l1 := hr7.fbox.lt
      clear hr7 HS hlt hk
      go_wp2_with fail
      refine HAF.out.mono ?_
      rintro e w4 ⟨rfl, c4, a1, a2, a3, a4, a5, a6⟩
      have hr8 : RoAt w k m (.slice (some ⟨w1.heap.size, 0, none⟩) k k) w.heap.size (w1.heap.size + 1) [.string nm, .int .i64 k, .slice ap an ac, .slice bp bs.length bcap] (symN (rowsN bs (solV bs).out bs.length) 0) c4 w4 := ⟨a1, a2, a3, a4, a5, a6⟩
      have HR8 := Lib.hid hr8
      have d0 := hr8.rbox.at 0 rfl
      have l2 := hr8.rbox.lt
      clear a1 a2 a3 a4 a5 a6 hr8 HAF HR7 b0 b1 b2 b3 l1
      go_wp2_with fail
      have hG := rowsN_lt HW.out (sol_fix HW.out).1.out bs.length (Nat.le_refl _)
      have hE : edgeG k bs = symN (rowsN bs (solV bs).out bs.length) k := rfl
      generalize rowsN bs (solV bs).out bs.length = G0 at HR8 hG hE
      have HE := Lib.hid hE
      have HG := Lib.hid hG
      have HTZ : Hid (∀ W, Below w.heap.size w W → TabZ W) := fun W h => HT.out.below h HT.out.1
      clear hE hG d0 l2
      go_loopw [36] (fun s36 wx => ∃ (r : Nat) (cx : Nat → Nat), s36 = .int .i64 r ∧ r ≤ k ∧ Hid (RoAt w k m (.slice (some ⟨w1.heap.size, 0, none⟩) k k) w.heap.size (w1.heap.size + 1) [.string nm, .int .i64 k, .slice ap an ac, .slice bp bs.length bcap] (symN G0 r) cx wx)) (fun s36 _ => k - (intOf s36).toNat)
      case atStart => exact ⟨0, c4, rfl, Nat.zero_le _, HR8⟩
      case round =>
        obtain ⟨r, c5, rfl, hr, HS⟩ := hrel
        obtain ⟨w5, rfl⟩ : ∃ W : World, W = wr := ⟨_, rfl⟩
        by_cases hlt : r < k
        · have hrI : (r : Int) < k := by omega
          have hso := sym_ok hR G0 HG.out r (by omega)
          have hgl := hso.lt
          have hsn : symN G0 (r + 1) = symI r (symN G0 r) := rfl
          generalize symN G0 r = g at HS hgl hsn
          have HSN := Lib.hid hsn
          clear hso hsn
          obtain ⟨gr, capr, pr, capr', e1, h1, h2, h3, h4, h5, h6⟩ := HS.out.rows.get hlt
          injection e1 with e1 e2 e3
          injection e1 with e1
          injection e1 with e1
          subst e1 e3
          have hgr := hgl r hlt
          have hrem := remB_lt (r := r) hgr
          have HRM := Lib.hid (remove_any m (g r) r _ w5 hm1 (by omega) (pow_le hgr hRm) h5)
          have H3 := Lib.hid h3
          have HGL := Lib.hid hgl
          clear h4 h5 h6 hgl
          go_wp2_with fail
          refine HRM.out.mono ?_
          rintro e w6 ⟨rfl, hs6, hg6⟩
          obtain ⟨hi6, hT6⟩ := HS.out.rows.inplace hlt rfl H3.out hs6 hg6
          have hS6 := HS.out.setRows (hi6.mono (fun _ _ e => paint_keep e)) hT6
          have HL := Lib.hid (list_any m _ _ w6 hm1 (pow_le hrem hRm) hs6 (HTZ.out w6 hS6.bel))
          have HS6 := Lib.hid hS6
          clear hs6 hg6 hi6 hT6 hS6 HS HRM h1 h3 H3
          go_wp2_with fail
          refine HL.out.mono ?_
          rintro e w7 ⟨u, rfl, hu, huf, hb7⟩
          have hlb := bitsL_lt hR hrem
          have hll := bitsL_len hR hrem
          have hse := symJ_end r g
          have hgu : ∀ q, q < k → upd g r (remB (g r) r) q < 2 ^ k := fun q hq => by
            by_cases e : q = r
            · subst e; rw [upd_same]; exact hrem
            · rw [upd_ne _ _ e]; exact HGL.out q hq
          generalize hgg : upd g r (remB (g r) r) = g1 at HS6 hse hgu
          generalize hbl : bitsL (remB (g r) r) = l at hu hlb hll hse
          obtain ⟨pu, cu, rfl⟩ := hu.shape
          obtain ⟨c7, hS7, hL7⟩ : ∃ c, RoAt w k m (.slice (some ⟨w1.heap.size, 0, none⟩) k k) w.heap.size (w1.heap.size + 1) [.string nm, .int .i64 k, .slice ap an ac, .slice bp bs.length bcap] g1 c w7 ∧ ListAt c w7 (.slice pu (l.map Int.ofNat).length cu) (l.map Int.ofNat) := ⟨_, HS6.out.paint0 hb7, ListAt.fresh hu huf⟩
          rw [List.length_map] at hL7 ⊢
          have HS7 := Lib.hid hS7
          have HL7 := Lib.hid hL7
          have HLB := Lib.hid hlb
          have HSE := Lib.hid hse
          have HGU := Lib.hid hgu
          clear hu huf hb7 hS7 hL7 hlb hse hgg hbl hgu HS6 HL hrem hgr HGL
          go_wp2_with fail
          go_loopw [47] (fun s47 wx => ∃ (j : Nat) (cx : Nat → Nat), s47 = .int .i64 j ∧ j ≤ l.length ∧ Hid (RoAt w k m (.slice (some ⟨w1.heap.size, 0, none⟩) k k) w.heap.size (w1.heap.size + 1) [.string nm, .int .i64 k, .slice ap an ac, .slice bp bs.length bcap] (symJ r l g1 j) cx wx) ∧ Hid (ListAt cx wx (.slice pu l.length cu) (l.map Int.ofNat))) (fun s47 _ => l.length - (intOf s47).toNat)
          case atStart => exact ⟨0, c7, rfl, Nat.zero_le _, HS7, HL7⟩
          case round =>
            obtain ⟨j, c8, rfl, hj, HS8, HL8⟩ := hrel
            obtain ⟨w8, rfl⟩ : ∃ W : World, W = wr := ⟨_, rfl⟩
            by_cases hlj : j < l.length
            · have hjI : (j : Int) < l.length := by omega
              obtain ⟨mu, ou, cu', e1, hmu, hcu⟩ := rdI_cell HL8.out.1 j (by rw [List.length_map]; exact hlj)
              rw [List.length_map] at e1
              injection e1 with e1 e2 e3
              subst e1 e3
              obtain ⟨x, hx⟩ : ∃ x, l.getD j 0 = x := ⟨_, rfl⟩
              have hxi : (l.map Int.ofNat).getD j 0 = (x : Int) := by
                rw [← hx, List.getD_eq_getElem?_getD, List.getD_eq_getElem?_getD, List.getElem?_map, List.getElem?_eq_getElem hlj]; rfl
              rw [hxi] at hcu
              have hxn : x < k := HLB.out x (by rw [← hx, List.getD_eq_getElem?_getD, List.getElem?_eq_getElem hlj]; exact List.getElem_mem hlj)
              have HJN := Lib.hid (symJ_next r l g1 j x hlj hx)
              have hgx := symJ_lt hlt l g1 HGU.out j x hxn
              have hxI : (x : Int) < k := by omega
              clear hx hxi
              obtain ⟨gr, capr, pr, capr', e1, h1, h2, h3, h4, h5, h6⟩ := HS8.out.rows.get hxn
              injection e1 with e1 e2 e3
              injection e1 with e1
              injection e1 with e1
              subst e1 e3
              have HAD := Lib.hid (add_any m _ r _ w8 hm1 (by omega) (pow_le hgx hRm) h5)
              have H3 := Lib.hid h3
              have d0 := HS8.out.rbox.at 0 rfl
              have l2 := HS8.out.rbox.lt
              clear h4 h5 h6 hgx
              go_wp2_with fail
              refine HAD.out.mono ?_
              rintro e w9 ⟨rfl, hs9, hg9⟩
              obtain ⟨hi9, hT9⟩ := HS8.out.rows.inplace hxn rfl H3.out hs9 hg9
              have hS9 := HS8.out.setRows (hi9.mono (fun _ _ e => paint_keep e)) hT9
              rw [← HJN.out] at hS9
              have HS9 := Lib.hid hS9
              have HL9 := Lib.hid (HL8.out.other hT9 (by decide))
              clear hs9 hg9 hi9 hT9 hS9 HS8 HL8 HAD h1 h3 H3 d0 l2 hcu hmu
              go_wp2_with fail
              go_roundw
              case rel => exact ⟨j + 1, _, by go_num, by omega, HS9, HL9⟩
              case measure => simp [intOf]; omega
            · have hjl : j = l.length := by omega
              subst hjl
              go_wp2_with fail
              go_roundw
              case rel => exact ⟨r + 1, c8, by go_num, by omega, (by rw [HSN.out, ← HSE.out]; exact HS8)⟩
              case measure => simp [intOf]; omega
        · have hrk : r = k := by omega
          subst hrk
          have b1 := HS.out.fbox.at 1 rfl
          have l1 := HS.out.fbox.lt
          have hbm : Below w5.heap.size w5 (w5.alloc (.cells (madeCells #[Value.slice none 0 0] r) 88)) := bAlloc (Nat.le_refl _) (Below.refl _ _)
          have hT : Touch c5 3 w5 (w5.alloc (.cells (madeCells #[Value.slice none 0 0] r) 88)) := Touch.of_below hbm
          have hg5 := (sym_ok hR G0 HG.out r (Nat.le_refl _)).lt
          have hS6 := HS.out.touch3 hT
          have hL6 : ListsAt (w5.alloc (.cells (madeCells #[Value.slice none 0 0] r) 88)) w5.heap.size r 0 (fun _ => .slice none 0 0) (fun i => (bitsL (symN G0 r i)).map Int.ofNat) := ⟨World.rowIs_made w5 _ r _, fun i hi => by omega⟩
          have d0 := hS6.rbox.at 0 rfl
          have l2 := hS6.rbox.lt
          have HS6w := Lib.hid HS.out.big
          have HS6 : Hid (∃ c, (RoAt w r m (.slice (some ⟨w1.heap.size, 0, none⟩) r r) w.heap.size (w1.heap.size + 1) [.string nm, .int .i64 r, .slice ap an ac, .slice bp bs.length bcap] (symN G0 r) c (w5.alloc (.cells (madeCells #[Value.slice none 0 0] r) 88))) ∧ c w5.heap.size = 3) := ⟨_, hS6, paint_ge (Nat.le_refl _)⟩
          have HL6 := Lib.hid hL6
          have HG5 := Lib.hid hg5
          clear hbm hT hS6 hL6 HS hg5
          go_wp2_with fail
          obtain ⟨c6, hS6, hc6⟩ := HS6.out
          have HS6a := Lib.hid hS6
          have HC6 := Lib.hid hc6
          have hz6 : w5.heap.size < (w5.alloc (.cells (madeCells #[Value.slice none 0 0] r) 88)).heap.size := by simp
          have hz7 : w.heap.size ≤ w5.heap.size := HS6w.out
          clear hS6 hc6 HS6 d0 l2 b1 l1 HS6w
          generalize (w5.alloc (.cells (madeCells #[Value.slice none 0 0] r) 88)) = w6 at HS6a HL6 hz6 ⊢
          go_loopw [64] (fun s64 wx => ∃ (q : Nat) (V : Nat → Value) (cx : Nat → Nat), s64 = .int .i64 q ∧ q ≤ r ∧ Hid (RoAt w r m (.slice (some ⟨w1.heap.size, 0, none⟩) r r) w.heap.size (w1.heap.size + 1) [.string nm, .int .i64 r, .slice ap an ac, .slice bp bs.length bcap] (symN G0 r) cx wx) ∧ Hid (cx w5.heap.size = 3) ∧ Hid (ListsAt wx w5.heap.size r q V (fun i => (bitsL (symN G0 r i)).map Int.ofNat))) (fun s64 _ => r - (intOf s64).toNat)
          case atStart => exact ⟨0, _, c6, rfl, Nat.zero_le _, HS6a, HC6, HL6⟩
          case round =>
            obtain ⟨q, V, c8, rfl, hq, HS8, HC8, HL8⟩ := hrel
            obtain ⟨w8, rfl⟩ : ∃ W : World, W = wr := ⟨_, rfl⟩
            by_cases hlt : q < r
            · have hqI : (q : Int) < r := by omega
              obtain ⟨gr, capr, pr, capr', e1, h1, h2, h3, h4, h5, h6⟩ := HS8.out.rows.get hlt
              injection e1 with e1 e2 e3
              injection e1 with e1
              injection e1 with e1
              subst e1 e3
              have HLI := Lib.hid (list_any m _ _ w8 hm1 (pow_le (HG5.out q hlt) hRm) h5 (HTZ.out w8 HS8.out.bel))
              have hll := HL8.out.1.lt
              clear h4 h5 h6
              go_wp2_with fail
              refine HLI.out.mono ?_
              rintro e w9 ⟨u, rfl, hu, huf, hb9⟩
              obtain ⟨pu, cu, rfl⟩ := hu.shape
              simp only [List.length_map] at hu huf ⊢
              have hL9 := HL8.out.below hb9
              have hS9 := HS8.out.below hb9
              have a1 := hL9.1.cell hlt
              have a2 := hL9.1.frozen q
              have a3 := hL9.1.lt
              have hL10 := hL9.next hu (fun b hb => by have := huf b hb; omega)
              have hT10 : Touch c8 3 w9 (w9.setCell ⟨w5.heap.size, q, none⟩ (.slice pu (bitsL (symN G0 r q)).length cu)) := Touch.setCell HC8.out _
              have HS10 := Lib.hid (hS9.touch3 hT10)
              have HL10 := Lib.hid hL10
              have HC10 : Hid (paint c8 w9.heap.size 3 w5.heap.size = 3) := (show paint c8 w9.heap.size 3 w5.heap.size = 3 from paint_keep HC8.out)
              clear hu huf hb9 hL9 hS9 hL10 hT10 HLI HS8 HC8 HL8 h1 h3 hll
              go_wp2_with fail
              go_roundw
              case rel => exact ⟨q + 1, _, _, by go_num, by omega, HS10, HC10, HL10⟩
              case measure => simp [intOf]; omega
            · have hqr : q = r := by omega
              subst hqr
              go_wp2_with fail
              go_ret2
              refine ⟨_, rfl, ?_, HS8.out.bel⟩
              refine ⟨some ⟨w5.heap.size, 0, none⟩, q, V, by rw [edgesL_len]; rfl, fun a ha => ?_⟩
              rw [edgesL_len] at ha
              refine ⟨⟨w5.heap.size, 0, rfl, HL8.out.1.lt, by rw [Nat.zero_add]; exact HL8.out.1.cell ha⟩, ?_⟩
              rw [edgesL_at bs ha, HE.out]
              exact (HL8.out.2 a ha).1
end Go.Proofs.YtkcfbonchhidlaaGreatDoor

set_option linter.unusedVariables false
set_option linter.unusedSimpArgs false
namespace Go.Proofs.YtkcfbonchhidlaaGreatDoor

theorem len_le_of_sub {α : Type} [DecidableEq α] : ∀ (l1 l2 : List α), l1.Nodup → (∀ x ∈ l1, x ∈ l2) → l1.length ≤ l2.length
  | [], _, _, _ => Nat.zero_le _
  | a :: l, l2, hn, hs => by
    rw [List.nodup_cons] at hn
    have ha := hs a (List.mem_cons_self ..)
    have h := len_le_of_sub l (l2.erase a) hn.2 (fun x hx => (List.mem_erase_of_ne (fun e => by subst e; exact hn.1 hx)).2 (hs x (List.mem_cons_of_mem _ hx)))
    rw [List.length_erase_of_mem ha] at h
    have : 0 < l2.length := List.length_pos_of_mem ha
    simp only [List.length_cons]; omega

def nbs (n : Nat) (A : Nat → Nat → Bool) (a : Nat) : List Nat := (List.range n).filter (A a)
def degG (n : Nat) (A : Nat → Nat → Bool) (g : List Nat) (a : Nat) : Nat := ((nbs n A a).filter (fun b => !g.contains b)).length
def scanG (d : Nat → Nat) (g : List Nat) (k : Int) : Nat → Nat → Int → Int
  | 0, _, m => m
  | c+1, i, m => if g.contains i then scanG d g k c (i+1) m else if (d i : Int) < k then (i : Int) else scanG d g k c (i+1) (if m < 0 ∨ d m.toNat < d i then (i : Int) else m)
def nextG (n : Nat) (A : Nat → Nat → Bool) (k : Int) (g : List Nat) : Int := scanG (degG n A g) g k n 0 (-1)
def removeG (n : Nat) (A : Nat → Nat → Bool) (k : Int) : Nat → List Nat → List Nat
  | 0, g => g
  | c+1, g => removeG n A k c (g ++ [(nextG n A k g).toNat])
def freeG (n : Nat) (A : Nat → Nat → Bool) (out : List Int) (a c : Nat) : Bool := (nbs n A a).all (fun b => out.getD b (-1) != (c : Int))
def pickG (n : Nat) (A : Nat → Nat → Bool) (k : Int) (out : List Int) (a : Nat) : Int :=
  match (List.range k.toNat).find? (freeG n A out a) with
  | some c => (c : Int)
  | none => -1
def selectG (n : Nat) (A : Nat → Nat → Bool) (k : Int) : List Nat → List Int → List Int
  | [], out => out
  | a :: l, out => selectG n A k l (out.set a (pickG n A k out a))
def colorG (n : Nat) (A : Nat → Nat → Bool) (k : Int) : List Int := selectG n A k (removeG n A k n []).reverse (List.replicate n (-1))

theorem mem_nbs {n : Nat} {A : Nat → Nat → Bool} {a b : Nat} : b ∈ nbs n A a ↔ b < n ∧ A a b = true := by
  simp [nbs, List.mem_filter, List.mem_range]
theorem nbs_nodup (n : Nat) (A : Nat → Nat → Bool) (a : Nat) : (nbs n A a).Nodup := List.Nodup.sublist List.filter_sublist List.nodup_range

theorem scanG_ok (d : Nat → Nat) (g : List Nat) (k : Int) (n : Nat) : ∀ (c i : Nat) (m : Int), i + c = n → (m = -1 ∨ (0 ≤ m ∧ m < n ∧ m.toNat ∉ g)) →
    (0 ≤ scanG d g k c i m ∧ scanG d g k c i m < n ∧ (scanG d g k c i m).toNat ∉ g) ∨ (scanG d g k c i m = -1 ∧ m = -1 ∧ ∀ j, i ≤ j → j < n → j ∈ g)
  | 0, i, m, hi, hm => by
    rcases hm with rfl | h
    · exact .inr ⟨rfl, rfl, fun j h1 h2 => by omega⟩
    · exact .inl h
  | c+1, i, m, hi, hm => by
    unfold scanG
    by_cases hg : g.contains i = true
    · rw [if_pos hg]
      rcases scanG_ok d g k n c (i+1) m (by omega) hm with h | ⟨h1, h2, h3⟩
      · exact .inl h
      · refine .inr ⟨h1, h2, fun j hj hjn => ?_⟩
        by_cases e : j = i
        · subst e; exact List.contains_iff_mem.1 hg
        · exact h3 j (by omega) hjn
    · rw [if_neg hg]
      have hi' : i ∉ g := fun h => hg (List.contains_iff_mem.2 h)
      by_cases hd : (d i : Int) < k
      · rw [if_pos hd]; exact .inl ⟨by omega, by omega, by simpa using hi'⟩
      · rw [if_neg hd]
        have hm' : (if m < 0 ∨ d m.toNat < d i then (i : Int) else m) = -1 ∨ (0 ≤ (if m < 0 ∨ d m.toNat < d i then (i : Int) else m) ∧ (if m < 0 ∨ d m.toNat < d i then (i : Int) else m) < n ∧ (if m < 0 ∨ d m.toNat < d i then (i : Int) else m).toNat ∉ g) := by
          by_cases hc : m < 0 ∨ d m.toNat < d i
          · rw [if_pos hc]; exact .inr ⟨by omega, by omega, by simpa using hi'⟩
          · rw [if_neg hc]; exact hm
        have hne : (if m < 0 ∨ d m.toNat < d i then (i : Int) else m) ≠ -1 := by
          by_cases hc : m < 0 ∨ d m.toNat < d i
          · rw [if_pos hc]; omega
          · rw [if_neg hc]; omega
        rcases scanG_ok d g k n c (i+1) _ (by omega) hm' with h | ⟨h1, h2, h3⟩
        · exact .inl h
        · exact absurd h2 hne

theorem nextG_ok {n : Nat} {A : Nat → Nat → Bool} {k : Int} {g : List Nat} (hg : g.length < n) :
    0 ≤ nextG n A k g ∧ nextG n A k g < n ∧ (nextG n A k g).toNat ∉ g := by
  rcases scanG_ok (degG n A g) g k n n 0 (-1) (by omega) (.inl rfl) with h | ⟨h1, _, h3⟩
  · exact h
  · exfalso
    have := len_le_of_sub (List.range n) g List.nodup_range (fun x hx => h3 x (Nat.zero_le _) (List.mem_range.1 hx))
    rw [List.length_range] at this; omega

theorem removeG_ok {n : Nat} {A : Nat → Nat → Bool} {k : Int} : ∀ (c : Nat) (g : List Nat), g.length + c = n → g.Nodup → (∀ x ∈ g, x < n) →
    (removeG n A k c g).length = n ∧ (removeG n A k c g).Nodup ∧ ∀ x ∈ removeG n A k c g, x < n
  | 0, g, h1, h2, h3 => ⟨by simpa [removeG] using h1, h2, h3⟩
  | c+1, g, h1, h2, h3 => by
    obtain ⟨a1, a2, a3⟩ := nextG_ok (n := n) (A := A) (k := k) (g := g) (by omega)
    refine removeG_ok c _ (by simp; omega) ?_ ?_
    · rw [List.nodup_append]
      exact ⟨h2, by simp, fun x hx y hy => by rw [List.mem_singleton] at hy; subst hy; intro e; exact a3 (e ▸ hx)⟩
    · intro x hx
      rcases List.mem_append.1 hx with h | h
      · exact h3 x h
      · rw [List.mem_singleton] at h; omega

theorem removed {n : Nat} {A : Nat → Nat → Bool} {k : Int} : (removeG n A k n []).length = n ∧ (removeG n A k n []).Nodup ∧ (∀ x, x ∈ removeG n A k n [] ↔ x < n) := by
  obtain ⟨h1, h2, h3⟩ := removeG_ok (n := n) (A := A) (k := k) n [] (by simp) (by simp) (by simp)
  refine ⟨h1, h2, fun x => ⟨h3 x, fun hx => ?_⟩⟩
  by_cases hm : x ∈ removeG n A k n []
  · exact hm
  · exfalso
    have := len_le_of_sub (x :: removeG n A k n []) (List.range n) (List.nodup_cons.2 ⟨hm, h2⟩) (fun y hy => by
      rw [List.mem_range]
      rcases List.mem_cons.1 hy with rfl | h
      · exact hx
      · exact h3 y h)
    rw [List.length_range, List.length_cons] at this; omega

theorem selectG_len (n : Nat) (A : Nat → Nat → Bool) (k : Int) : ∀ (l : List Nat) (out : List Int), (selectG n A k l out).length = out.length
  | [], _ => rfl
  | a :: l, out => by unfold selectG; rw [selectG_len n A k l]; simp
theorem colorG_len (n : Nat) (A : Nat → Nat → Bool) (k : Int) : (colorG n A k).length = n := by
  unfold colorG; rw [selectG_len]; simp

theorem pickG_cases (n : Nat) (A : Nat → Nat → Bool) (k : Int) (out : List Int) (a : Nat) :
    (0 ≤ pickG n A k out a ∧ pickG n A k out a < k ∧ ∀ b, b < n → A a b = true → out.getD b (-1) ≠ pickG n A k out a) ∨
    (pickG n A k out a = -1 ∧ ∀ c : Nat, (c : Int) < k → ∃ b, b < n ∧ A a b = true ∧ out.getD b (-1) = (c : Int)) := by
  unfold pickG
  cases h : (List.range k.toNat).find? (freeG n A out a) with
  | some c =>
    have h1 := List.find?_some h
    have h2 := List.mem_range.1 (List.mem_of_find?_eq_some h)
    refine .inl ⟨by show (0:Int) ≤ (c:Int); omega, by show (c:Int) < k; omega, fun b hb hA => ?_⟩
    have := List.all_eq_true.1 h1 b (mem_nbs.2 ⟨hb, hA⟩)
    simpa using this
  | none =>
    refine .inr ⟨rfl, fun c hc => ?_⟩
    have h1 := List.find?_eq_none.1 h c (List.mem_range.2 (by omega))
    simp only [freeG, List.all_eq_true, Classical.not_forall] at h1
    obtain ⟨b, hb, hne⟩ := h1
    rw [mem_nbs] at hb
    exact ⟨b, hb.1, hb.2, by simpa using hne⟩

structure PropG (n : Nat) (A : Nat → Nat → Bool) (k : Int) (l : List Nat) (out : List Int) : Prop where
  len : out.length = n
  low : ∀ a, a ∈ l → out.getD a (-1) = -1
  rng : ∀ a, a < n → -1 ≤ out.getD a (-1) ∧ (out.getD a (-1) < k ∨ out.getD a (-1) = -1)
  prp : ∀ a b, a < n → b < n → A a b = true → 0 ≤ out.getD a (-1) → out.getD a (-1) ≠ out.getD b (-1)
  ful : ∀ a, a < n → a ∉ l → out.getD a (-1) = -1 → ∀ c : Nat, (c : Int) < k → ∃ b, b < n ∧ A a b = true ∧ out.getD b (-1) = (c : Int)

theorem getD_set (l : List Int) (a b : Nat) (v : Int) (h : a < l.length) : (l.set a v).getD b (-1) = if a = b then v else l.getD b (-1) := by
  simp only [List.getD_eq_getElem?_getD, List.getElem?_set]
  by_cases e : a = b
  · subst e; simp [h]
  · simp [e]

theorem selectG_ok {n : Nat} {A : Nat → Nat → Bool} (hsym : ∀ a b, A a b = A b a) (hirr : ∀ a, A a a = false) {k : Int} : ∀ (l : List Nat) (out : List Int), l.Nodup → (∀ x ∈ l, x < n) → PropG n A k l out → PropG n A k [] (selectG n A k l out)
  | [], out, _, _, h => h
  | a :: l, out, hn, hl, h => by
    unfold selectG
    rw [List.nodup_cons] at hn
    have han := hl a (List.mem_cons_self ..)
    have hal := h.low a (List.mem_cons_self ..)
    have hlen := h.len
    have G : ∀ b, (out.set a (pickG n A k out a)).getD b (-1) = if a = b then pickG n A k out a else out.getD b (-1) := fun b => getD_set _ _ _ _ (by omega)
    refine selectG_ok hsym hirr l _ hn.2 (fun x hx => hl x (List.mem_cons_of_mem _ hx)) ⟨by simp [hlen], ?_, ?_, ?_, ?_⟩
    · intro b hb
      rw [G, if_neg (fun e : a = b => by subst e; exact hn.1 hb)]
      exact h.low b (List.mem_cons_of_mem _ hb)
    · intro b hb
      rw [G]
      by_cases e : a = b
      · rw [if_pos e]
        rcases pickG_cases n A k out a with ⟨h1, h2, _⟩ | ⟨h1, _⟩
        · exact ⟨by omega, .inl h2⟩
        · exact ⟨by omega, .inr h1⟩
      · rw [if_neg e]; exact h.rng b hb
    · intro b c hb hc hA
      rw [G, G]
      by_cases e1 : a = b
      · subst e1
        rw [if_pos rfl]
        have e2 : a ≠ c := fun e => by subst e; rw [hirr] at hA; exact Bool.noConfusion hA
        rw [if_neg e2]
        intro h0
        rcases pickG_cases n A k out a with ⟨h1, h2, h3⟩ | ⟨h1, _⟩
        · exact (h3 c hc hA).symm
        · omega
      · rw [if_neg e1]
        by_cases e2 : a = c
        · subst e2
          rw [if_pos rfl]
          intro h0
          rcases pickG_cases n A k out a with ⟨h1, h2, h3⟩ | ⟨h1, _⟩
          · exact h3 b hb (by rw [hsym]; exact hA)
          · omega
        · rw [if_neg e2]; exact h.prp b c hb hc hA
    · intro b hb hbl
      rw [G]
      by_cases e : a = b
      · subst e
        rw [if_pos rfl]
        intro he c hc
        rcases pickG_cases n A k out a with ⟨h1, h2, h3⟩ | ⟨_, h2⟩
        · omega
        · obtain ⟨d, hd, hA, hv⟩ := h2 c hc
          refine ⟨d, hd, hA, ?_⟩
          rw [G, if_neg (fun e => by subst e; rw [hirr] at hA; exact Bool.noConfusion hA)]
          exact hv
      · rw [if_neg e]
        intro he c hc
        obtain ⟨d, hd, hA, hv⟩ := h.ful b hb (fun hx => by
          rcases List.mem_cons.1 hx with h1 | h1
          · exact e h1.symm
          · exact hbl h1) he c hc
        refine ⟨d, hd, hA, ?_⟩
        rw [G]
        by_cases e2 : a = d
        · subst e2; omega
        · rw [if_neg e2]; exact hv

theorem colorG_ok {n : Nat} {A : Nat → Nat → Bool} (hsym : ∀ a b, A a b = A b a) (hirr : ∀ a, A a a = false) {k : Int} : PropG n A k [] (colorG n A k) := by
  obtain ⟨h1, h2, h3⟩ := removed (n := n) (A := A) (k := k)
  refine selectG_ok hsym hirr _ _ (List.pairwise_reverse.2 (h2.imp fun h => h.symm)) (fun x hx => (h3 x).1 (List.mem_reverse.1 hx)) ?_
  have G : ∀ b, (List.replicate n (-1 : Int)).getD b (-1) = -1 := by
    intro b
    simp only [List.getD_eq_getElem?_getD, List.getElem?_replicate]
    by_cases e : b < n <;> simp [e]
  refine ⟨by simp, fun a _ => G a, fun a _ => by rw [G]; omega, fun a b _ _ _ h0 => by rw [G] at h0; omega, fun a ha hna => ?_⟩
  exact absurd (List.mem_reverse.2 ((h3 a).2 ha)) hna

theorem colorG_full {n : Nat} {A : Nat → Nat → Bool} (hsym : ∀ a b, A a b = A b a) (hirr : ∀ a, A a a = false) {k : Nat} {a : Nat} (ha : a < n) (h : (colorG n A k).getD a (-1) = -1) : k ≤ (nbs n A a).length := by
  have hf := (colorG_ok hsym hirr (k := k)).ful a ha (by simp) h
  have h1 := len_le_of_sub (List.range k) ((nbs n A a).map (fun b => ((colorG n A k).getD b (-1)).toNat)) List.nodup_range (fun c hc => by
    obtain ⟨b, hb, hA, hv⟩ := hf c (by have := List.mem_range.1 hc; omega)
    exact List.mem_map.2 ⟨b, mem_nbs.2 ⟨hb, hA⟩, by rw [hv]; rfl⟩)
  rwa [List.length_range, List.length_map] at h1

theorem colorG_few {n : Nat} {A : Nat → Nat → Bool} (hsym : ∀ a b, A a b = A b a) (hirr : ∀ a, A a a = false) {k : Nat} (hk : ∀ a, a < n → (nbs n A a).length < k) {a : Nat} (ha : a < n) :
    0 ≤ (colorG n A k).getD a (-1) ∧ (colorG n A k).getD a (-1) < k := by
  obtain ⟨h1, h2⟩ := (colorG_ok hsym hirr (k := k)).rng a ha
  have h3 : (colorG n A k).getD a (-1) ≠ -1 := fun h => by have := colorG_full hsym hirr ha h; have := hk a ha; omega
  omega

theorem degG_zero (n : Nat) (A : Nat → Nat → Bool) (a : Nat) : degG n A [] a = (nbs n A a).length := by
  unfold degG
  have h : (fun b : Nat => !([] : List Nat).contains b) = fun _ => true := by funext b; rfl
  rw [h, List.filter_eq_self.2 (fun _ _ => rfl)]

theorem filter_out {α : Type} [DecidableEq α] (p : α → Bool) (x : α) : ∀ (l : List α), l.Nodup → (l.filter (fun b => p b && !(b == x))).length = (l.filter p).length - (if x ∈ l ∧ p x = true then 1 else 0)
  | [], _ => by simp
  | a :: l, hn => by
    rw [List.nodup_cons] at hn
    have ih := filter_out p x l hn.2
    by_cases e : a = x
    · subst e
      have h0 : ¬ (a ∈ l ∧ p a = true) := fun h => hn.1 h.1
      rw [if_neg h0] at ih
      by_cases hp : p a = true
      · rw [List.filter_cons_of_neg (by simp), List.filter_cons_of_pos hp, ih, if_pos ⟨List.mem_cons_self .., hp⟩]; simp
      · rw [List.filter_cons_of_neg (by simp), List.filter_cons_of_neg hp, ih, if_neg (fun h => hp h.2)]
    · have hm : (x ∈ a :: l ∧ p x = true) ↔ (x ∈ l ∧ p x = true) := by
        rw [List.mem_cons]
        exact ⟨fun h => ⟨h.1.resolve_left (fun e' => e e'.symm), h.2⟩, fun h => ⟨.inr h.1, h.2⟩⟩
      by_cases hp : p a = true
      · rw [List.filter_cons_of_pos (by simp [hp, e]), List.filter_cons_of_pos hp, List.length_cons, List.length_cons, ih]
        by_cases hx : x ∈ l ∧ p x = true
        · rw [if_pos hx, if_pos (hm.2 hx)]
          have : 0 < (l.filter p).length := List.length_pos_of_mem (List.mem_filter.2 hx)
          omega
        · rw [if_neg hx, if_neg (fun h => hx (hm.1 h))]; rfl
      · rw [List.filter_cons_of_neg (by simp [hp]), List.filter_cons_of_neg hp, ih]
        by_cases hx : x ∈ l ∧ p x = true
        · rw [if_pos hx, if_pos (hm.2 hx)]
        · rw [if_neg hx, if_neg (fun h => hx (hm.1 h))]

theorem degG_next (n : Nat) (A : Nat → Nat → Bool) (g : List Nat) (x b : Nat) (hx : x < n) (hg : x ∉ g) : degG n A (g ++ [x]) b = degG n A g b - (if A b x = true then 1 else 0) := by
  unfold degG
  have h : (fun c : Nat => !(g ++ [x]).contains c) = fun c => (fun b : Nat => !g.contains b) c && !(c == x) := by
    funext c
    show (!(g ++ [x]).contains c) = ((!g.contains c) && !(c == x))
    rw [List.contains_append, Bool.not_or]
    congr 1
    rw [List.contains_cons, List.contains_nil, Bool.or_false]
  rw [h, filter_out _ x _ (nbs_nodup n A b)]
  congr 1
  have : (x ∈ nbs n A b ∧ (!g.contains x) = true) ↔ A b x = true := by
    rw [mem_nbs]
    constructor
    · exact fun h => h.1.2
    · exact fun h => ⟨⟨hx, h⟩, by rw [Bool.not_eq_true']; exact (Bool.eq_false_iff).2 (fun e => hg (List.contains_iff_mem.1 e))⟩
  by_cases hA : A b x = true
  · rw [if_pos (this.2 hA), if_pos hA]
  · rw [if_neg (fun h => hA (this.1 h)), if_neg hA]

theorem find_range_least (p : Nat → Bool) : ∀ (m : Nat), (List.range m).find? p = none ∨ ∃ c, c < m ∧ p c = true ∧ (∀ d, d < c → p d = false) ∧ (List.range m).find? p = some c := by
  intro m
  cases h : (List.range m).find? p with
  | none => exact .inl rfl
  | some c =>
    refine .inr ⟨c, List.mem_range.1 (List.mem_of_find?_eq_some h), List.find?_some h, ?_, rfl⟩
    rw [List.find?_range_eq_some] at h
    intro d hd
    have := h.2.2 d hd
    simpa using this

theorem find_range_none (p : Nat → Bool) (m : Nat) : (List.range m).find? p = none ↔ ∀ d, d < m → p d = false := by
  rw [List.find?_eq_none]
  exact ⟨fun h d hd => by simpa using h d (List.mem_range.2 hd), fun h d hd => by simp [h d (List.mem_range.1 hd)]⟩

theorem free_exists (n : Nat) (A : Nat → Nat → Bool) (out : List Int) (a : Nat) : ∃ c, c ≤ (nbs n A a).length ∧ freeG n A out a c = true ∧ ∀ d, d < c → freeG n A out a d = false := by
  rcases find_range_least (freeG n A out a) ((nbs n A a).length + 1) with h | ⟨c, h1, h2, h3, _⟩
  · exfalso
    rw [find_range_none] at h
    have h1 := len_le_of_sub (List.range ((nbs n A a).length + 1)) ((nbs n A a).map (fun b => (out.getD b (-1)).toNat)) List.nodup_range (fun c hc => by
      have hf := h c (List.mem_range.1 hc)
      simp only [freeG, List.all_eq_false] at hf
      obtain ⟨b, hb, hne⟩ := hf
      exact List.mem_map.2 ⟨b, hb, by have : out.getD b (-1) = (c : Int) := by simpa using hne
                                      rw [this]; rfl⟩)
    rw [List.length_range, List.length_map] at h1; omega
  · exact ⟨c, by omega, h2, h3⟩

theorem pickG_least (n : Nat) (A : Nat → Nat → Bool) (k : Int) (out : List Int) (a c : Nat) (h1 : freeG n A out a c = true) (h2 : ∀ d, d < c → freeG n A out a d = false) :
    pickG n A k out a = if (c : Int) < k then (c : Int) else -1 := by
  unfold pickG
  by_cases hc : (c : Int) < k
  · rw [if_pos hc]
    have : (List.range k.toNat).find? (freeG n A out a) = some c := by
      rw [List.find?_range_eq_some]
      exact ⟨h1, List.mem_range.2 (by omega), fun d hd => by simp [h2 d hd]⟩
    rw [this]
  · rw [if_neg hc]
    have : (List.range k.toNat).find? (freeG n A out a) = none := (find_range_none _ _).2 (fun d hd => h2 d (by omega))
    rw [this]

theorem scan_end (d : Nat → Nat) (g : List Nat) (k : Int) (n : Nat) (m : Int) : scanG d g k (n - n) n m = m := by rw [Nat.sub_self]; rfl
theorem scan_gone (d : Nat → Nat) (g : List Nat) (k : Int) (n i : Nat) (m : Int) (h : i < n) (hg : g.contains i = true) : scanG d g k (n - i) i m = scanG d g k (n - (i+1)) (i+1) m := by
  rw [show n - i = (n - (i+1)) + 1 by omega]
  show (if g.contains i then _ else _) = _
  rw [if_pos hg]
theorem scan_few (d : Nat → Nat) (g : List Nat) (k : Int) (n i : Nat) (m : Int) (h : i < n) (hg : g.contains i = false) (hd : (d i : Int) < k) : scanG d g k (n - i) i m = (i : Int) := by
  rw [show n - i = (n - (i+1)) + 1 by omega]
  show (if g.contains i then _ else _) = _
  rw [hg, if_neg Bool.noConfusion, if_pos hd]
theorem scan_more (d : Nat → Nat) (g : List Nat) (k : Int) (n i : Nat) (m : Int) (h : i < n) (hg : g.contains i = false) (hd : ¬ (d i : Int) < k) : scanG d g k (n - i) i m = scanG d g k (n - (i+1)) (i+1) (if m < 0 ∨ d m.toNat < d i then (i : Int) else m) := by
  rw [show n - i = (n - (i+1)) + 1 by omega]
  show (if g.contains i then _ else _) = _
  rw [hg, if_neg Bool.noConfusion, if_neg hd]

def degJ (n : Nat) (A : Nat → Nat → Bool) (g : List Nat) (a j i : Nat) : Int := (degG n A g i : Int) - (if ((nbs n A a).take j).contains i then 1 else 0)
theorem degJ_zero (n : Nat) (A : Nat → Nat → Bool) (g : List Nat) (a i : Nat) : degJ n A g a 0 i = degG n A g i := by
  unfold degJ
  rw [List.take_zero]
  have : ([] : List Nat).contains i = false := rfl
  rw [this, if_neg Bool.noConfusion]; omega
theorem degG_pos (n : Nat) (A : Nat → Nat → Bool) (g : List Nat) (a i : Nat) (ha : a < n) (hA : A i a = true) (hg : a ∉ g) : 0 < degG n A g i := by
  unfold degG
  refine List.length_pos_of_mem (a := a) (List.mem_filter.2 ⟨mem_nbs.2 ⟨ha, hA⟩, ?_⟩)
  rw [Bool.not_eq_true']; exact Bool.eq_false_iff.2 (fun e => hg (List.contains_iff_mem.1 e))
theorem degJ_end (n : Nat) (A : Nat → Nat → Bool) (hsym : ∀ a b, A a b = A b a) (g : List Nat) (a i : Nat) (ha : a < n) (hi : i < n) (hg : a ∉ g) : degJ n A g a (nbs n A a).length i = degG n A (g ++ [a]) i := by
  unfold degJ
  rw [List.take_length, degG_next n A g a i ha hg]
  by_cases h : A i a = true
  · have h1 : (nbs n A a).contains i = true := List.contains_iff_mem.2 (mem_nbs.2 ⟨hi, by rw [hsym]; exact h⟩)
    have := degG_pos n A g a i ha h hg
    rw [if_pos h1, if_pos h]; omega
  · have h1 : (nbs n A a).contains i = false := Bool.eq_false_iff.2 (fun e => h (by rw [hsym]; exact (mem_nbs.1 (List.contains_iff_mem.1 e)).2))
    rw [h1, if_neg Bool.noConfusion, if_neg h]; omega
theorem degJ_next (n : Nat) (A : Nat → Nat → Bool) (g : List Nat) (a j q i : Nat) (hj : j < (nbs n A a).length) (hq : (nbs n A a).getD j 0 = q) :
    degJ n A g a (j+1) i = if i = q then degJ n A g a j q - 1 else degJ n A g a j i := by
  unfold degJ
  have hq' : (nbs n A a)[j] = q := by rw [List.getD_eq_getElem?_getD, List.getElem?_eq_getElem hj] at hq; exact hq
  have ht : (nbs n A a).take (j+1) = (nbs n A a).take j ++ [q] := by rw [← hq', List.take_succ_eq_append_getElem hj]
  have hne : q ∉ (nbs n A a).take j := by
    intro h
    obtain ⟨i, hi, ei⟩ := List.mem_iff_getElem.1 h
    rw [List.length_take] at hi
    rw [List.getElem_take] at ei
    have := (List.pairwise_iff_getElem.1 (nbs_nodup n A a)) i j (by omega) hj (by omega)
    exact this (ei.trans hq'.symm)
  rw [ht]
  by_cases e : i = q
  · subst e
    have h1 : ((nbs n A a).take j ++ [i]).contains i = true := List.contains_iff_mem.2 (by simp)
    have h2 : ((nbs n A a).take j).contains i = false := Bool.eq_false_iff.2 (fun h => hne (List.contains_iff_mem.1 h))
    rw [h1, h2, if_pos rfl, if_pos rfl, if_neg Bool.noConfusion]; omega
  · rw [if_neg e]
    have h1 : ((nbs n A a).take j ++ [q]).contains i = ((nbs n A a).take j).contains i := by
      rw [Bool.eq_iff_iff, List.contains_iff_mem, List.contains_iff_mem, List.mem_append, List.mem_singleton]
      exact ⟨fun h => h.resolve_right e, .inl⟩
    rw [h1]
theorem degJ_range (n : Nat) (A : Nat → Nat → Bool) (g : List Nat) (a j i : Nat) : -1 ≤ degJ n A g a j i ∧ degJ n A g a j i ≤ n := by
  have h : degG n A g i ≤ n := by
    unfold degG nbs
    exact Nat.le_trans (List.length_filter_le _ _) (Nat.le_trans (List.length_filter_le _ _) (by simp))
  unfold degJ
  by_cases e : ((nbs n A a).take j).contains i = true
  · rw [if_pos e]; omega
  · rw [if_neg e]; omega
theorem degG_le (n : Nat) (A : Nat → Nat → Bool) (g : List Nat) (i : Nat) : degG n A g i ≤ n := by
  unfold degG nbs
  exact Nat.le_trans (List.length_filter_le _ _) (Nat.le_trans (List.length_filter_le _ _) (by simp))
theorem nbs_at (n : Nat) (A : Nat → Nat → Bool) (a j : Nat) (hj : j < (nbs n A a).length) : (nbs n A a).getD j 0 < n ∧ A a ((nbs n A a).getD j 0) = true := by
  have h := List.getElem_mem hj
  rw [mem_nbs] at h
  rw [List.getD_eq_getElem?_getD, List.getElem?_eq_getElem hj]
  exact h
theorem nbs_len (n : Nat) (A : Nat → Nat → Bool) (a : Nat) : (nbs n A a).length ≤ n := by
  unfold nbs
  exact Nat.le_trans (List.length_filter_le _ _) (by simp)

def takenJ (n : Nat) (A : Nat → Nat → Bool) (out : List Int) (a j c : Nat) : Bool := ((nbs n A a).take j).any (fun b => out.getD b (-1) == (c : Int))
theorem takenJ_zero (n : Nat) (A : Nat → Nat → Bool) (out : List Int) (a c : Nat) : takenJ n A out a 0 c = false := by simp [takenJ]
theorem takenJ_next (n : Nat) (A : Nat → Nat → Bool) (out : List Int) (a j c : Nat) (hj : j < (nbs n A a).length) :
    takenJ n A out a (j+1) c = (takenJ n A out a j c || (out.getD ((nbs n A a).getD j 0) (-1) == (c : Int))) := by
  unfold takenJ
  have ht : (nbs n A a).take (j+1) = (nbs n A a).take j ++ [(nbs n A a).getD j 0] := by
    rw [List.take_succ_eq_append_getElem hj, List.getD_eq_getElem?_getD, List.getElem?_eq_getElem hj]; rfl
  rw [ht, List.any_append, List.any_cons, List.any_nil, Bool.or_false]
theorem takenJ_end (n : Nat) (A : Nat → Nat → Bool) (out : List Int) (a c : Nat) : takenJ n A out a (nbs n A a).length c = !freeG n A out a c := by
  unfold takenJ freeG
  rw [List.take_length, List.not_all_eq_any_not]
  congr 1
  funext b
  simp [bne]
end Go.Proofs.YtkcfbonchhidlaaGreatDoor

