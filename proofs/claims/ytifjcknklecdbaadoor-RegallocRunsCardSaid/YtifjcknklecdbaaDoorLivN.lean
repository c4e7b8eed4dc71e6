/- liveness.Interference, by its contract. -/
import Derived.Test.YtifjcknklecdbaaDoorLivM
import Derived.Deep.RegionWith
set_option linter.unusedVariables false
set_option linter.unusedSimpArgs false
namespace Go.Proofs.YtifjcknklecdbaaDoor
open Go.RowKit

/-- The rows beside the two boxes. -/
structure RoAt (wE : World) (R m : Nat) (rv : Value) (fb rb : Nat) (F : List Value) (g : Nat → Nat) (col : Nat → Nat) (w : World) : Prop where
  rows : SetsAt col 7 w rv R m g
  fbox : BoxAt col w fb F
  rbox : BoxAt col w rb [rv]
  low : ∀ k, k < wE.heap.size → col k = 0
  bel : Below wE.heap.size wE w
  big : wE.heap.size ≤ w.heap.size
section
variable {wE w w' : World} {R m : Nat} {rv : Value} {fb rb : Nat} {F : List Value} {g : Nat → Nat} {col : Nat → Nat}
theorem RoAt.below (h : RoAt wE R m rv fb rb F g col w) (hb : Below w.heap.size w w') : RoAt wE R m rv fb rb F g col w' :=
  ⟨h.rows.below hb, h.fbox.below hb, h.rbox.below hb, h.low, h.bel.trans (hb.mono h.big), Nat.le_trans h.big hb.size⟩
theorem RoAt.clean (h : RoAt wE R m rv fb rb F g col w) : RoAt wE R m rv fb rb F g (paint col w.heap.size 0) w :=
  ⟨h.rows.mono (fun k hk e => by rw [paint_lt hk]; exact e), h.fbox.clean, h.rbox.clean, low_paint h.low h.big, h.bel, h.big⟩
theorem RoAt.paint0 (h : RoAt wE R m rv fb rb F g col w) (hb : Below w.heap.size w w') : RoAt wE R m rv fb rb F g (paint col w.heap.size 0) w' := by
  have h2 := h.clean.below hb
  exact h2
theorem RoAt.tb (h : RoAt wE R m rv fb rb F g col w) {c : Nat} (hc : c ≠ 0) (ht : Touch col c w w') : Below wE.heap.size wE w' := h.bel.trans (ht.below h.big fun k hk e => hc (by rw [← e]; exact h.low k hk))
theorem RoAt.touch3 (h : RoAt wE R m rv fb rb F g col w) (ht : Touch col 3 w w') : RoAt wE R m rv fb rb F g (paint col w.heap.size 3) w' :=
  ⟨h.rows.other ht (by decide), h.fbox.other ht (by decide), h.rbox.other ht (by decide), low_paint h.low h.big, h.tb (by decide) ht, Nat.le_trans h.big ht.size⟩
theorem RoAt.setRows (h : RoAt wE R m rv fb rb F g col w) {g' : Nat → Nat} (hn : SetsAt (paint col w.heap.size 7) 7 w' rv R m g') (ht : Touch col 7 w w') : RoAt wE R m rv fb rb F g' (paint col w.heap.size 7) w' :=
  ⟨hn, h.fbox.other ht (by decide), h.rbox.other ht (by decide), low_paint h.low h.big, h.tb (by decide) ht, Nat.le_trans h.big ht.size⟩
end
/-- One direction after the other: behind the first j of a row's registers. -/
def symJ (r : Nat) (l : List Nat) (g : Nat → Nat) (j : Nat) : Nat → Nat := (l.take j).foldl (fun g q => upd g q (addB (g q) r)) g
theorem symJ_next (r : Nat) (l : List Nat) (g : Nat → Nat) (j q : Nat) (hj : j < l.length) (hq : l.getD j 0 = q) : symJ r l g (j + 1) = upd (symJ r l g j) q (addB (symJ r l g j q) r) := by
  unfold symJ
  have : l[j] = q := by rw [← hq, List.getD_eq_getElem?_getD, List.getElem?_eq_getElem hj]; rfl
  rw [List.take_succ_eq_append_getElem hj, List.foldl_append, this]; rfl
theorem symJ_end (r : Nat) (g : Nat → Nat) : symJ r (bitsL (remB (g r) r)) (upd g r (remB (g r) r)) (bitsL (remB (g r) r)).length = symI r g := by
  unfold symJ symI; rw [List.take_length]
theorem symJ_lt {R r : Nat} (hr : r < R) (l : List Nat) (g : Nat → Nat) (hg : ∀ q, q < R → g q < 2 ^ R) (j : Nat) : ∀ q, q < R → symJ r l g j q < 2 ^ R := by
  unfold symJ
  generalize l.take j = l2
  induction l2 generalizing g with
  | nil => exact hg
  | cons a l ih =>
    refine ih _ fun q hq => ?_
    show upd g a (addB (g a) r) q < _
    by_cases e : q = a
    · subst e; rw [upd_same]; exact addB_lt (hg q hq) hr
    · rw [upd_ne _ _ e]; exact hg q hq

/-- While the rows are laid: the first k hold empty sets. -/
structure LayAt (wE : World) (R m k : Nat) (rv : Value) (fb rb : Nat) (F : List Value) (V : Nat → Value) (col : Nat → Nat) (w : World) : Prop where
  rows : RowsV 88 107 (fun b => col b = 7) w rv R V (fun i => if i < k then setWd m 0 else [])
  fbox : BoxAt col w fb F
  rbox : BoxAt col w rb [rv]
  low : ∀ b, b < wE.heap.size → col b = 0
  bel : Below wE.heap.size wE w
  big : wE.heap.size ≤ w.heap.size
theorem LayAt.drew {wE w : World} {R m k : Nat} {rv : Value} {fb rb : Nat} {F : List Value} {V : Nat → Value} {col : Nat → Nat} (h : LayAt wE R m k rv fb rb F V col w) : LayAt wE R m k rv fb rb F V col w.drew :=
  ⟨h.rows.below (Below.refl _ _).drew, h.fbox.below (Below.refl _ _).drew, h.rbox.below (Below.refl _ _).drew, h.low, h.bel.drew, h.big⟩
theorem LayAt.next {wE w w' : World} {R m k : Nat} {fb rb g cap : Nat} {F : List Value} {V : Nat → Value} {col : Nat → Nat} (h : LayAt wE R m k (.slice (some ⟨g, 0, none⟩) R cap) fb rb F V col w) (hk : k < R) (hb : Below w.heap.size w w') {u : Value} (hu : SetV w' m u 0) (huf : ∀ b, u.ownBlock = some b → w.heap.size ≤ b) :
    LayAt wE R m (k + 1) (.slice (some ⟨g, 0, none⟩) R cap) fb rb F (upd V k u) (paint col w.heap.size 7) (w'.setCell ⟨g, k, none⟩ u) := by
  have hg : col g = 7 := h.rows.dg g rfl
  have hgl : g < w.heap.size := own0_lt h.rows.out rfl
  have ht : Touch col 7 w (w'.setCell ⟨g, k, none⟩ u) := (Touch.of_below hb).trans (Touch.setCell hg u)
  refine ⟨((h.rows.mono (G := fun b => paint col w.heap.size 7 b = 7) (fun b hb e => by rw [paint_lt hb]; exact e)).set hk (w' := w') (fun b hb2 _ => hb.block b hb2) hb.size rfl (xs := setWd m 0) (by rw [setW_len]; exact hu) (.inr huf) (fun b hb => paint_ge hb)).congr fun i hi => ?_, h.fbox.other ht (by decide), h.rbox.other ht (by decide), low_paint h.low h.big, h.bel.trans (ht.below h.big fun b hb e => by rw [h.low b hb] at e; cases e), Nat.le_trans h.big ht.size⟩
  by_cases e : i = k
  · subst e; rw [upd_same, if_pos (by omega)]
  · rw [upd_ne _ _ e]
    by_cases h2 : i < k
    · rw [if_pos h2, if_pos (by omega)]
    · rw [if_neg h2, if_neg (by omega)]
theorem bitsF_nodup : ∀ (k x : Nat), x ≤ k → x < 2 ^ 64 → (bitsF k x).Nodup
  | 0, x, _, _ => by simp [bitsF]
  | k + 1, x, h, h64 => by
    unfold bitsF
    by_cases h0 : x = 0
    · rw [if_pos h0]; exact List.nodup_nil
    · rw [if_neg h0]
      have hp := and_pred_lt h0
      refine List.nodup_cons.2 ⟨fun hm => ?_, bitsF_nodup k _ (by omega) (by omega)⟩
      rw [mem_bitsF k _ (by omega) (by omega)] at hm
      obtain ⟨m, hm2, -⟩ := Lib.ctzFrom_spec 64 x (by omega) h64
      have e : Lib.ctz 64 x = Lib.ctzFrom 64 x := by simp [Lib.ctz, h0]
      rw [e] at hm
      generalize Lib.ctzFrom 64 x = t at hm hm2
      rw [hm2, low_bit] at hm
      simp at hm
theorem bitsL_len {R x : Nat} (hR : R ≤ 64) (h : x < 2 ^ R) : (bitsL x).length ≤ 64 :=
  Nat.le_trans (nodup_len R _ (bitsF_nodup x x (Nat.le_refl _) (Nat.lt_of_lt_of_le h (Nat.pow_le_pow_right (by decide) hR))) (bitsL_lt hR h)) hR
/-- The lists that are handed back: the first r are laid. -/
def ListsAt (w : World) (g n r : Nat) (V : Nat → Value) (row : Nat → List Int) : Prop := w.rowIs g 46 n V ∧ ∀ i, i < r → RdI w (V i) (row i) ∧ ∀ b, (V i).ownBlock = some b → b ≠ g
theorem ListsAt.below {w w' : World} {g n r : Nat} {V : Nat → Value} {row : Nat → List Int} (h : ListsAt w g n r V row) (hb : Below w.heap.size w w') : ListsAt w' g n r V row :=
  ⟨h.1.of_block (hb.block g h.1.lt), fun i hi => ⟨(h.2 i hi).1.below hb (Nat.le_refl _), (h.2 i hi).2⟩⟩
theorem ListsAt.next {w : World} {g n r : Nat} {V : Nat → Value} {row : Nat → List Int} (h : ListsAt w g n r V row) {u : Value} (hu : RdI w u (row r)) (hug : ∀ b, u.ownBlock = some b → b ≠ g) : ListsAt (w.setCell ⟨g, r, none⟩ u) g n (r + 1) (upd V r u) row := by
  have hk : ∀ (v : Value) (l : List Int), RdI w v l → (∀ b, v.ownBlock = some b → b ≠ g) → RdI (w.setCell ⟨g, r, none⟩ u) v l := fun v l hv hne =>
    hv.keep (by simp [World.setCell]) fun b hb _ => Below.heap_setCell _ _ _ _ (hne b hb)
  refine ⟨(h.1.set r u).congr fun i _ => ?_, fun i hi => ?_⟩
  · unfold upd; rfl
  · by_cases e : i = r
    · subst e; rw [upd_same]; exact ⟨hk _ _ hu hug, hug⟩
    · rw [upd_ne _ _ e]
      have := h.2 i (by omega)
      exact ⟨hk _ _ this.1 this.2, this.2⟩
set_option maxHeartbeats 1600000 in
theorem interf_no (nm : ByteArray) (R : Int) (ap : Option Addr) (an ac : Nat) (bv : Value) (bs : List IBlk) (w : World) (hB : BksAt w bv bs) (hl : bs.length ≤ 1000) (hcl : ∀ k, k < bs.length → (bs.getD k default).code.length ≤ 1000) (hw : wfF R bs = false) :
    Calls Tryd.prog 15 #[.agg #[.string nm, .int .i64 R, .slice ap an ac, bv]] w fun e w' => e = .returned (.tuple #[.slice none 0 0, .int .i64 3]) ∧ Below w.heap.size w w' := by
  obtain ⟨bp, bcap, rfl⟩ := hB.shape
  have hb0 : Below w.heap.size w (w.alloc (.cells #[.string nm, .int .i64 R, .slice ap an ac, .slice bp bs.length bcap] 25)) := bAlloc (Nat.le_refl _) (Below.refl _ _)
  have HWF := Lib.hid (wf_any nm R ap an ac _ bs _ (hB.below hb0 (Nat.le_refl _)) hl hcl)
  have HW := Lib.hid hw
  have HB0 := Lib.hid hb0
  clear hb0 hB hcl hw
  go_enter Tryd.func15, Tryd.ntmps15
  go_wp2_with fail
  refine HWF.out.mono ?_
  rintro e w1 ⟨rfl, hb1⟩
  rw [HW.out]
  have HB1 := Lib.hid (HB0.out.trans (hb1.mono HB0.out.size))
  clear hb1 HWF HB0
  go_wp2_with fail
  go_ret2
  exact ⟨rfl, HB1.out⟩

def InterPost (E : List (List Int)) (w : World) (e : Ending) (w' : World) : Prop := ∃ v, e = .returned (.tuple #[v, .int .i64 0]) ∧ RdR w' v E ∧ Below w.heap.size w w'
set_option maxHeartbeats 6400000 in
set_option maxRecDepth 100000 in
theorem interf_any (nm : ByteArray) (R m : Nat) (ap : Option Addr) (an ac : Nat) (bv : Value) (bs : List IBlk) (w : World) (hR : R ≤ 64) (hm : (R + 63) / 64 = m) (hB : BksAt w bv bs) (hl : bs.length ≤ 1000) (hcl : ∀ k, k < bs.length → (bs.getD k default).code.length ≤ 1000) (hw : wfF R bs = true) (hT : TabZ w) :
    Calls Tryd.prog 15 #[.agg #[.string nm, .int .i64 R, .slice ap an ac, bv]] w (InterPost (edgesL R bs) w) := by
  obtain ⟨bp, bcap, rfl⟩ := hB.shape
  have hm1 : m ≤ 1 := by omega
  have hRm : R ≤ 64 * m := by omega
  have hmkS := run_make_row' (P := Tryd.prog) 86 88 (.slice none 0 0) 24 Tryd.underlying86 infoS rfl .i64 .i64 R (by omega) (by omega)
  have hmkL := run_make_row' (P := Tryd.prog) 47 46 (.slice none 0 0) 24 Tryd.underlying47 infoL rfl .i64 .i64 R (by omega) (by omega)
  have hmf : ∀ (fn : Fn) (first cap : Array Value) (w : World), (Instr.makeFunc fn first cap).run Tryd.prog w = .ok (.func fn first cap) w := fun _ _ _ _ => rfl
  have hb0 : Below w.heap.size w (w.alloc (.cells #[.string nm, .int .i64 R, .slice ap an ac, .slice bp bs.length bcap] 25)) := bAlloc (Nat.le_refl _) (Below.refl _ _)
  have HWF := Lib.hid (wf_any nm R ap an ac _ bs _ (hB.below hb0 (Nat.le_refl _)) hl hcl)
  have HBX := Lib.hid (BoxAt.made (fun _ => 0) w [.string nm, .int .i64 R, .slice ap an ac, .slice bp bs.length bcap] 25)
  have HW := Lib.hid hw
  have HB0 := Lib.hid hb0
  have HD := Lib.hid hB
  have HCL := Lib.hid hcl
  have HM := Lib.hid hm
  have HT := Lib.hid hT
  clear hB hcl hw hm hT
  go_enter Tryd.func15, Tryd.ntmps15
  go_wp2_with fail
  refine HWF.out.mono ?_
  rintro e w1 ⟨rfl, hb1⟩
  rw [HW.out]
  have hx1 := HBX.out.below hb1
  have r1 := hx1.at 1 rfl
  have hzx := hx1.lt
  have HX1 := Lib.hid hx1
  have HB1 := Lib.hid (HB0.out.trans (hb1.mono hb0.size))
  clear hb1 hb0 HWF HBX HB0 hx1
  go_wp2_with fail
  have hL2 : ∃ (V : Nat → Value) (c : Nat → Nat), LayAt w R m 0 (.slice (some ⟨w1.heap.size, 0, none⟩) R R) w.heap.size (w1.heap.size + 1) [.string nm, .int .i64 R, .slice ap an ac, .slice bp bs.length bcap] V c ((w1.alloc (.cells (madeCells #[Value.slice none 0 0] R) 88)).alloc (.cells #[.slice (some ⟨w1.heap.size, 0, none⟩) R R] 86)) := by
    have hbm : Below w1.heap.size w1 (w1.alloc (.cells (madeCells #[Value.slice none 0 0] R) 88)) := bAlloc (Nat.le_refl _) (Below.refl _ _)
    have h1 := RowsV.made (T := 88) (E := 107) (D := fun b => paint (paint (fun _ => 0) w.heap.size 0) w1.heap.size 7 b = 7) w1 R (by unfold maxLen; omega) (paint_ge (Nat.le_refl _))
    have hx2 := HX1.out.other (Touch.of_below (col := paint (fun _ => 0) w.heap.size 0) (c := 7) hbm) (by decide)
    have hs : (w1.alloc (.cells (madeCells #[Value.slice none 0 0] R) 88)).heap.size = w1.heap.size + 1 := by simp
    generalize w1.alloc (.cells (madeCells #[Value.slice none 0 0] R) 88) = w1a at h1 hx2 hs hbm ⊢
    have hbm2 : Below w1a.heap.size w1a (w1a.alloc (.cells #[.slice (some ⟨w1.heap.size, 0, none⟩) R R] 86)) := bAlloc (Nat.le_refl _) (Below.refl _ _)
    have hbx := BoxAt.made (paint (paint (fun _ => 0) w.heap.size 0) w1.heap.size 7) w1a [.slice (some ⟨w1.heap.size, 0, none⟩) R R] 86
    rw [hs] at hbx
    refine ⟨_, paint (paint (paint (fun _ => 0) w.heap.size 0) w1.heap.size 7) (w1.heap.size + 1) 0, ((h1.congr fun i hi => by rw [if_neg (by omega)]).mono (G := fun b => paint (paint (paint (fun _ => 0) w.heap.size 0) w1.heap.size 7) (w1.heap.size + 1) 0 b = 7) (fun b hb e => by rw [paint_lt (by omega)]; exact e)).below hbm2, (hx2.clean).below hbm2, hbx, fun b hb => ?_, HB1.out.trans ((hbm.trans (hbm2.mono (by omega))).mono HB1.out.size), ?_⟩
    · rw [paint_lt (by omega), paint_lt (by omega)]; unfold paint; split <;> rfl
    · have := HB1.out.size; have := hbm2.size; omega
  obtain ⟨V0, c2, hL2⟩ := hL2
  have HL2 := Lib.hid hL2
  clear hL2 r1 hzx HX1
  generalize ((w1.alloc (.cells (madeCells #[Value.slice none 0 0] R) 88)).alloc (.cells #[.slice (some ⟨w1.heap.size, 0, none⟩) R R] 86)) = w2 at HL2 ⊢
  go_loopw [21] (fun s21 wx => ∃ (k : Nat) (V : Nat → Value) (cx : Nat → Nat), s21 = .int .i64 k ∧ k ≤ R ∧ Hid (LayAt w R m k (.slice (some ⟨w1.heap.size, 0, none⟩) R R) w.heap.size (w1.heap.size + 1) [.string nm, .int .i64 R, .slice ap an ac, .slice bp bs.length bcap] V cx wx)) (fun s21 _ => R - (intOf s21).toNat)
  case atStart => exact ⟨0, V0, c2, rfl, Nat.zero_le _, HL2⟩
  case round =>
    obtain ⟨k, V, c3, rfl, hk, HS⟩ := hrel
    obtain ⟨w3, rfl⟩ : ∃ W : World, W = wr := ⟨_, rfl⟩
    by_cases hlt : k < R
    · have hkI : (k : Int) < R := by omega
      obtain ⟨g, cap, e1, hg1, hg2, hg3, hg4, hg5⟩ := HS.out.rows.block (by omega)
      injection e1 with e1 e2 e3
      injection e1 with e1
      injection e1 with e1
      subst e1 e3
      have b1 := HS.out.fbox.at 1 rfl
      have b0 := HS.out.rbox.at 0 rfl
      have l1 := HS.out.fbox.lt
      have l2 := HS.out.rbox.lt
      have hgk := hg4 k hlt
      have hfk := hg5 k
      clear hg4 hg5
      have hnx := HS.out.next hlt (w' := w3.alloc (.cells (madeCells #[Value.int .u64 0] m) 107)) (bAlloc (Nat.le_refl _) (Below.refl _ _)) (empty_made w3 m hm1) (fun b hb => by cases hb; exact Nat.le_refl _)
      rw [World.setCell_alloc_past (w := w3) (.cells (madeCells #[Value.int .u64 0] m) 107) w1.heap.size k (.slice (some ⟨w3.heap.size, 0, none⟩) m m) hg1] at hnx
      have HNX := Lib.hid hnx
      clear hnx
      go_wp2_with fail
      go_region_with (go_at_call 29; refine (empty_any R m hR HM.out _).mono ?_; rintro e w' ⟨rfl, hsv, rfl⟩)
      all_goals
        have HN2 : Hid (LayAt w R m (k + 1) (.slice (some ⟨w1.heap.size, 0, none⟩) R R) w.heap.size (w1.heap.size + 1) [.string nm, .int .i64 R, .slice ap an ac, .slice bp bs.length bcap] (upd V k (.slice (some ⟨w3.heap.size, 0, none⟩) m m)) (paint c3 w3.heap.size 7) (((w3.setCell ⟨w1.heap.size, k, none⟩ (.slice (some ⟨w3.heap.size, 0, none⟩) m m)).alloc (.cells (madeCells #[Value.int .u64 0] m) 107)).drew)) := (show LayAt _ _ _ _ _ _ _ _ _ _ _ from HNX.out.drew)
        clear HNX hsv hg1 hgk hfk b0 b1 l1 l2 HS
        generalize ((w3.setCell ⟨w1.heap.size, k, none⟩ (.slice (some ⟨w3.heap.size, 0, none⟩) m m)).alloc (.cells (madeCells #[Value.int .u64 0] m) 107)).drew = w4 at HN2 ⊢
        go_wp2_with fail
        go_roundw
        case rel => exact ⟨k + 1, _, _, by go_num, by omega, HN2⟩
        case measure => simp [intOf]; omega
    · have hkn : k = R := by omega
      subst hkn
      have hr7 : RoAt w k m (.slice (some ⟨w1.heap.size, 0, none⟩) k k) w.heap.size (w1.heap.size + 1) [.string nm, .int .i64 k, .slice ap an ac, .slice bp bs.length bcap] (fun _ => 0) c3 w3 := ⟨⟨V, HS.out.rows.congr fun i hi => by rw [if_pos hi]⟩, HS.out.fbox, HS.out.rbox, HS.out.low, HS.out.bel, HS.out.big⟩
      have HR7 := Lib.hid hr7
      have HAF := Lib.hid (after_any nm k m ap an ac bp bcap (.slice (some ⟨w1.heap.size, 0, none⟩) k k) bs w.heap.size (w1.heap.size + 1) c3 w w3 hR HM.out HD.out hl HCL.out HW.out hr7.rows hr7.fbox hr7.rbox hr7.low hr7.bel)
      have b0 := hr7.fbox.at 0 rfl
      have b1 := hr7.fbox.at 1 rfl
      have b2 := hr7.fbox.at 2 rfl
      have b3 := hr7.fbox.at 3 rfl
      have l1 := hr7.fbox.lt
      clear hr7 HS hlt hk
      go_wp2_with fail
      refine HAF.out.mono ?_
      rintro e w4 ⟨rfl, c4, a1, a2, a3, a4, a5, a6⟩
      have hr8 : RoAt w k m (.slice (some ⟨w1.heap.size, 0, none⟩) k k) w.heap.size (w1.heap.size + 1) [.string nm, .int .i64 k, .slice ap an ac, .slice bp bs.length bcap] (symN (rowsN bs (solV bs).out bs.length) 0) c4 w4 := ⟨a1, a2, a3, a4, a5, a6⟩
      have HR8 := Lib.hid hr8
      have d0 := hr8.rbox.at 0 rfl
      have l2 := hr8.rbox.lt
      clear a1 a2 a3 a4 a5 a6 hr8 HAF HR7 b0 b1 b2 b3 l1
      go_wp2_with fail
      have hG := rowsN_lt HW.out (sol_fix HW.out).1.out bs.length (Nat.le_refl _)
      have hE : edgeG k bs = symN (rowsN bs (solV bs).out bs.length) k := rfl
      generalize rowsN bs (solV bs).out bs.length = G0 at HR8 hG hE
      have HE := Lib.hid hE
      have HG := Lib.hid hG
      have HTZ : Hid (∀ W, Below w.heap.size w W → TabZ W) := fun W h => HT.out.below h HT.out.1
      clear hE hG d0 l2
      go_loopw [36] (fun s36 wx => ∃ (r : Nat) (cx : Nat → Nat), s36 = .int .i64 r ∧ r ≤ k ∧ Hid (RoAt w k m (.slice (some ⟨w1.heap.size, 0, none⟩) k k) w.heap.size (w1.heap.size + 1) [.string nm, .int .i64 k, .slice ap an ac, .slice bp bs.length bcap] (symN G0 r) cx wx)) (fun s36 _ => k - (intOf s36).toNat)
      case atStart => exact ⟨0, c4, rfl, Nat.zero_le _, HR8⟩
      case round =>
        obtain ⟨r, c5, rfl, hr, HS⟩ := hrel
        obtain ⟨w5, rfl⟩ : ∃ W : World, W = wr := ⟨_, rfl⟩
        by_cases hlt : r < k
        · have hrI : (r : Int) < k := by omega
          have hso := sym_ok hR G0 HG.out r (by omega)
          have hgl := hso.lt
          have hsn : symN G0 (r + 1) = symI r (symN G0 r) := rfl
          generalize symN G0 r = g at HS hgl hsn
          have HSN := Lib.hid hsn
          clear hso hsn
          obtain ⟨gr, capr, pr, capr', e1, h1, h2, h3, h4, h5, h6⟩ := HS.out.rows.get hlt
          injection e1 with e1 e2 e3
          injection e1 with e1
          injection e1 with e1
          subst e1 e3
          have hgr := hgl r hlt
          have hrem := remB_lt (r := r) hgr
          have HRM := Lib.hid (remove_any m (g r) r _ w5 hm1 (by omega) (pow_le hgr hRm) h5)
          have H3 := Lib.hid h3
          have HGL := Lib.hid hgl
          clear h4 h5 h6 hgl
          go_wp2_with fail
          refine HRM.out.mono ?_
          rintro e w6 ⟨rfl, hs6, hg6⟩
          obtain ⟨hi6, hT6⟩ := HS.out.rows.inplace hlt rfl H3.out hs6 hg6
          have hS6 := HS.out.setRows (hi6.mono (fun _ _ e => paint_keep e)) hT6
          have HL := Lib.hid (list_any m _ _ w6 hm1 (pow_le hrem hRm) hs6 (HTZ.out w6 hS6.bel))
          have HS6 := Lib.hid hS6
          clear hs6 hg6 hi6 hT6 hS6 HS HRM h1 h3 H3
          go_wp2_with fail
          refine HL.out.mono ?_
          rintro e w7 ⟨u, rfl, hu, huf, hb7⟩
          have hlb := bitsL_lt hR hrem
          have hll := bitsL_len hR hrem
          have hse := symJ_end r g
          have hgu : ∀ q, q < k → upd g r (remB (g r) r) q < 2 ^ k := fun q hq => by
            by_cases e : q = r
            · subst e; rw [upd_same]; exact hrem
            · rw [upd_ne _ _ e]; exact HGL.out q hq
          generalize hgg : upd g r (remB (g r) r) = g1 at HS6 hse hgu
          generalize hbl : bitsL (remB (g r) r) = l at hu hlb hll hse
          obtain ⟨pu, cu, rfl⟩ := hu.shape
          obtain ⟨c7, hS7, hL7⟩ : ∃ c, RoAt w k m (.slice (some ⟨w1.heap.size, 0, none⟩) k k) w.heap.size (w1.heap.size + 1) [.string nm, .int .i64 k, .slice ap an ac, .slice bp bs.length bcap] g1 c w7 ∧ ListAt c w7 (.slice pu (l.map Int.ofNat).length cu) (l.map Int.ofNat) := ⟨_, HS6.out.paint0 hb7, ListAt.fresh hu huf⟩
          rw [List.length_map] at hL7 ⊢
          have HS7 := Lib.hid hS7
          have HL7 := Lib.hid hL7
          have HLB := Lib.hid hlb
          have HSE := Lib.hid hse
          have HGU := Lib.hid hgu
          clear hu huf hb7 hS7 hL7 hlb hse hgg hbl hgu HS6 HL hrem hgr HGL
          go_wp2_with fail
          go_loopw [47] (fun s47 wx => ∃ (j : Nat) (cx : Nat → Nat), s47 = .int .i64 j ∧ j ≤ l.length ∧ Hid (RoAt w k m (.slice (some ⟨w1.heap.size, 0, none⟩) k k) w.heap.size (w1.heap.size + 1) [.string nm, .int .i64 k, .slice ap an ac, .slice bp bs.length bcap] (symJ r l g1 j) cx wx) ∧ Hid (ListAt cx wx (.slice pu l.length cu) (l.map Int.ofNat))) (fun s47 _ => l.length - (intOf s47).toNat)
          case atStart => exact ⟨0, c7, rfl, Nat.zero_le _, HS7, HL7⟩
          case round =>
            obtain ⟨j, c8, rfl, hj, HS8, HL8⟩ := hrel
            obtain ⟨w8, rfl⟩ : ∃ W : World, W = wr := ⟨_, rfl⟩
            by_cases hlj : j < l.length
            · have hjI : (j : Int) < l.length := by omega
              obtain ⟨mu, ou, cu', e1, hmu, hcu⟩ := rdI_cell HL8.out.1 j (by rw [List.length_map]; exact hlj)
              rw [List.length_map] at e1
              injection e1 with e1 e2 e3
              subst e1 e3
              obtain ⟨x, hx⟩ : ∃ x, l.getD j 0 = x := ⟨_, rfl⟩
              have hxi : (l.map Int.ofNat).getD j 0 = (x : Int) := by
                rw [← hx, List.getD_eq_getElem?_getD, List.getD_eq_getElem?_getD, List.getElem?_map, List.getElem?_eq_getElem hlj]; rfl
              rw [hxi] at hcu
              have hxn : x < k := HLB.out x (by rw [← hx, List.getD_eq_getElem?_getD, List.getElem?_eq_getElem hlj]; exact List.getElem_mem hlj)
              have HJN := Lib.hid (symJ_next r l g1 j x hlj hx)
              have hgx := symJ_lt hlt l g1 HGU.out j x hxn
              have hxI : (x : Int) < k := by omega
              clear hx hxi
              obtain ⟨gr, capr, pr, capr', e1, h1, h2, h3, h4, h5, h6⟩ := HS8.out.rows.get hxn
              injection e1 with e1 e2 e3
              injection e1 with e1
              injection e1 with e1
              subst e1 e3
              have HAD := Lib.hid (add_any m _ r _ w8 hm1 (by omega) (pow_le hgx hRm) h5)
              have H3 := Lib.hid h3
              have d0 := HS8.out.rbox.at 0 rfl
              have l2 := HS8.out.rbox.lt
              clear h4 h5 h6 hgx
              go_wp2_with fail
              refine HAD.out.mono ?_
              rintro e w9 ⟨rfl, hs9, hg9⟩
              obtain ⟨hi9, hT9⟩ := HS8.out.rows.inplace hxn rfl H3.out hs9 hg9
              have hS9 := HS8.out.setRows (hi9.mono (fun _ _ e => paint_keep e)) hT9
              rw [← HJN.out] at hS9
              have HS9 := Lib.hid hS9
              have HL9 := Lib.hid (HL8.out.other hT9 (by decide))
              clear hs9 hg9 hi9 hT9 hS9 HS8 HL8 HAD h1 h3 H3 d0 l2 hcu hmu
              go_wp2_with fail
              go_roundw
              case rel => exact ⟨j + 1, _, by go_num, by omega, HS9, HL9⟩
              case measure => simp [intOf]; omega
            · have hjl : j = l.length := by omega
              subst hjl
              go_wp2_with fail
              go_roundw
              case rel => exact ⟨r + 1, c8, by go_num, by omega, (by rw [HSN.out, ← HSE.out]; exact HS8)⟩
              case measure => simp [intOf]; omega
        · have hrk : r = k := by omega
          subst hrk
          have b1 := HS.out.fbox.at 1 rfl
          have l1 := HS.out.fbox.lt
          have hbm : Below w5.heap.size w5 (w5.alloc (.cells (madeCells #[Value.slice none 0 0] r) 46)) := bAlloc (Nat.le_refl _) (Below.refl _ _)
          have hT : Touch c5 3 w5 (w5.alloc (.cells (madeCells #[Value.slice none 0 0] r) 46)) := Touch.of_below hbm
          have hg5 := (sym_ok hR G0 HG.out r (Nat.le_refl _)).lt
          have hS6 := HS.out.touch3 hT
          have hL6 : ListsAt (w5.alloc (.cells (madeCells #[Value.slice none 0 0] r) 46)) w5.heap.size r 0 (fun _ => .slice none 0 0) (fun i => (bitsL (symN G0 r i)).map Int.ofNat) := ⟨World.rowIs_made w5 _ r _, fun i hi => by omega⟩
          have d0 := hS6.rbox.at 0 rfl
          have l2 := hS6.rbox.lt
          have HS6w := Lib.hid HS.out.big
          have HS6 : Hid (∃ c, (RoAt w r m (.slice (some ⟨w1.heap.size, 0, none⟩) r r) w.heap.size (w1.heap.size + 1) [.string nm, .int .i64 r, .slice ap an ac, .slice bp bs.length bcap] (symN G0 r) c (w5.alloc (.cells (madeCells #[Value.slice none 0 0] r) 46))) ∧ c w5.heap.size = 3) := ⟨_, hS6, paint_ge (Nat.le_refl _)⟩
          have HL6 := Lib.hid hL6
          have HG5 := Lib.hid hg5
          clear hbm hT hS6 hL6 HS hg5
          go_wp2_with fail
          obtain ⟨c6, hS6, hc6⟩ := HS6.out
          have HS6a := Lib.hid hS6
          have HC6 := Lib.hid hc6
          have hz6 : w5.heap.size < (w5.alloc (.cells (madeCells #[Value.slice none 0 0] r) 46)).heap.size := by simp
          have hz7 : w.heap.size ≤ w5.heap.size := HS6w.out
          clear hS6 hc6 HS6 d0 l2 b1 l1 HS6w
          generalize (w5.alloc (.cells (madeCells #[Value.slice none 0 0] r) 46)) = w6 at HS6a HL6 hz6 ⊢
          go_loopw [64] (fun s64 wx => ∃ (q : Nat) (V : Nat → Value) (cx : Nat → Nat), s64 = .int .i64 q ∧ q ≤ r ∧ Hid (RoAt w r m (.slice (some ⟨w1.heap.size, 0, none⟩) r r) w.heap.size (w1.heap.size + 1) [.string nm, .int .i64 r, .slice ap an ac, .slice bp bs.length bcap] (symN G0 r) cx wx) ∧ Hid (cx w5.heap.size = 3) ∧ Hid (ListsAt wx w5.heap.size r q V (fun i => (bitsL (symN G0 r i)).map Int.ofNat))) (fun s64 _ => r - (intOf s64).toNat)
          case atStart => exact ⟨0, _, c6, rfl, Nat.zero_le _, HS6a, HC6, HL6⟩
          case round =>
            obtain ⟨q, V, c8, rfl, hq, HS8, HC8, HL8⟩ := hrel
            obtain ⟨w8, rfl⟩ : ∃ W : World, W = wr := ⟨_, rfl⟩
            by_cases hlt : q < r
            · have hqI : (q : Int) < r := by omega
              obtain ⟨gr, capr, pr, capr', e1, h1, h2, h3, h4, h5, h6⟩ := HS8.out.rows.get hlt
              injection e1 with e1 e2 e3
              injection e1 with e1
              injection e1 with e1
              subst e1 e3
              have HLI := Lib.hid (list_any m _ _ w8 hm1 (pow_le (HG5.out q hlt) hRm) h5 (HTZ.out w8 HS8.out.bel))
              have hll := HL8.out.1.lt
              clear h4 h5 h6
              go_wp2_with fail
              refine HLI.out.mono ?_
              rintro e w9 ⟨u, rfl, hu, huf, hb9⟩
              obtain ⟨pu, cu, rfl⟩ := hu.shape
              simp only [List.length_map] at hu huf ⊢
              have hL9 := HL8.out.below hb9
              have hS9 := HS8.out.below hb9
              have a1 := hL9.1.cell hlt
              have a2 := hL9.1.frozen q
              have a3 := hL9.1.lt
              have hL10 := hL9.next hu (fun b hb => by have := huf b hb; omega)
              have hT10 : Touch c8 3 w9 (w9.setCell ⟨w5.heap.size, q, none⟩ (.slice pu (bitsL (symN G0 r q)).length cu)) := Touch.setCell HC8.out _
              have HS10 := Lib.hid (hS9.touch3 hT10)
              have HL10 := Lib.hid hL10
              have HC10 : Hid (paint c8 w9.heap.size 3 w5.heap.size = 3) := (show paint c8 w9.heap.size 3 w5.heap.size = 3 from paint_keep HC8.out)
              clear hu huf hb9 hL9 hS9 hL10 hT10 HLI HS8 HC8 HL8 h1 h3 hll
              go_wp2_with fail
              go_roundw
              case rel => exact ⟨q + 1, _, _, by go_num, by omega, HS10, HC10, HL10⟩
              case measure => simp [intOf]; omega
            · have hqr : q = r := by omega
              subst hqr
              go_wp2_with fail
              go_ret2
              refine ⟨_, rfl, ?_, HS8.out.bel⟩
              refine ⟨some ⟨w5.heap.size, 0, none⟩, q, V, by rw [edgesL_len]; rfl, fun a ha => ?_⟩
              rw [edgesL_len] at ha
              refine ⟨⟨w5.heap.size, 0, rfl, HL8.out.1.lt, by rw [Nat.zero_add]; exact HL8.out.1.cell ha⟩, ?_⟩
              rw [edgesL_at bs ha, HE.out]
              exact (HL8.out.2 a ha).1
end Go.Proofs.YtifjcknklecdbaaDoor
