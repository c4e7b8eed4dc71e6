/- regalloc.Valid of an allocation that is valid. -/
import Derived.Test.YtikfjehollnjeaaDoorSouA
import Derived.Test.YtikfjehollnjeaaDoorLivW
set_option linter.unusedVariables false
set_option linter.unusedSimpArgs false
namespace Go.Proofs.YtikfjehollnjeaaDoor
open Go.RowKit Go.Maps Go.WideMaps

/-- The slots of the first k places. -/
def slotK (P : Nat → Int × Int) (k : Nat) : List Lit := ((List.range k).filter (fun a => decide ((P a).1 = 0))).map (fun a => Lit.int .i64 (P a).2)
def SlK {H : Type} (P : Nat → Int × Int) (k : Nat) : DataW H := setOf (.lit (.bool true)) (slotK P k)
theorem SlK_zero {H : Type} (P : Nat → Int × Int) : SlK (H := H) P 0 = .map [] := by simp [SlK, slotK, setOf]
theorem slotK_next (P : Nat → Int × Int) (k : Nat) : slotK P (k + 1) = if (P k).1 = 0 then slotK P k ++ [.int .i64 (P k).2] else slotK P k := by
  unfold slotK
  rw [List.range_succ, List.filter_append, List.map_append]
  by_cases h : (P k).1 = 0
  · rw [if_pos h, List.filter_cons_of_pos (by simpa using h)]; rfl
  · rw [if_neg h, List.filter_cons_of_neg (by simpa using h)]; simp
theorem SlK_put {H : Type} (P : Nat → Int × Int) (k : Nat) (h : (P k).1 = 0) : SlK (H := H) P (k + 1) = (SlK P k).put (.int .i64 (P k).2) (.lit (.bool true)) := by
  unfold SlK; rw [slotK_next, if_pos h, setOf_snoc]
theorem SlK_same {H : Type} (P : Nat → Int × Int) (k : Nat) (h : ¬ (P k).1 = 0) : SlK (H := H) P (k + 1) = SlK P k := by
  unfold SlK; rw [slotK_next, if_neg h]
theorem slotK_key (P : Nat → Int × Int) (k : Nat) : ∀ x ∈ slotK P k, WideAt.IsKeyLit x := by
  intro x hx
  unfold slotK at hx
  obtain ⟨b, _, rfl⟩ := List.mem_map.1 hx
  trivial
theorem SlK_size {H : Type} (P : Nat → Int × Int) (R K : Nat) (h : ∀ c : Nat, (c : Int) < K → ∃ b, b < R ∧ (P b).1 = 0 ∧ (P b).2 = (c : Int)) : K ≤ Maps.size (SlK (H := H) P R) := by
  unfold SlK
  rw [size_setOf _ _ (slotK_key P R)]
  haveI : DecidableEq Lit := fun _ _ => Classical.propDecidable _
  have h1 := len_le_of_sub ((List.range K).map (fun c : Nat => Lit.int .i64 (c : Int))) ((slotK P R).foldl addKey []) ?_ ?_
  · simpa using h1
  · rw [List.Nodup, List.pairwise_map]
    exact List.nodup_range.imp fun h e => h (by injection e with _ e; omega)
  · intro x hx
    obtain ⟨c, hc, rfl⟩ := List.mem_map.1 hx
    obtain ⟨b, hb, hA, hv⟩ := h c (by have := List.mem_range.1 hc; omega)
    refine addKey_mem _ _ _ (.inr ?_)
    unfold slotK
    exact List.mem_map.2 ⟨b, List.mem_filter.2 ⟨List.mem_range.2 hb, by rw [hA]; simp⟩, by rw [hv]⟩

set_option maxHeartbeats 6400000 in
set_option maxRecDepth 40000 in
theorem valid_any (nm : ByteArray) (R : Nat) (ap : Option Addr) (an ac : Nat) (bv av : Value) (bs : List IBlk) (P : Nat → Int × Int) (n : Int) (w : World) (hR : R ≤ 64) (hB : BksAt w bv bs) (hl : bs.length ≤ 1000) (hcl : ∀ k, k < bs.length → (bs.getD k default).code.length ≤ 1000) (hw : wfF R bs = true) (hT : TabZ w)
    (hP : PlRd w av R P) (hv : VaG (edgesL R bs) R P n) :
    Calls Tryd.prog 12 #[.agg #[.string nm, .int .i64 R, .slice ap an ac, bv], .agg #[av, .int .i64 n]] w fun e w' => e = .returned (.bool true) ∧ Below w.heap.size w w' := by
  obtain ⟨bp, bcap, rfl⟩ := hB.shape
  obtain ⟨pp, pc, rfl⟩ := hP.shape
  have hmm := @run_makeMap Tryd.prog
  have hb0 : Below w.heap.size w ((w.alloc (.cells #[.string nm, .int .i64 R, .slice ap an ac, .slice bp bs.length bcap] 25)).alloc (.cells #[.slice pp R pc, .int .i64 n] 30)) := bAlloc (by simp) (bAlloc (Nat.le_refl _) (Below.refl _ _))
  have HIN := Lib.hid (interf_any nm R _ ap an ac _ bs _ hR rfl (hB.below hb0 (Nat.le_refl _)) hl hcl hw (hT.below hb0 hT.1))
  have HP := Lib.hid (hP.below hb0 (Nat.le_refl _))
  have hEL := edgesL_len R bs
  have HMX := Lib.hid (edgesL_max hw hR)
  have HV := Lib.hid hv
  have hn0 := hv.pos
  have hn1 := hv.big
  clear hv
  generalize edgesL R bs = E at HIN HV HMX hEL
  have hbx1 : BoxAt _ _ w.heap.size [.string nm, .int .i64 R, .slice ap an ac, .slice bp bs.length bcap] := (BoxAt.made (fun _ => 0) w [.string nm, .int .i64 R, .slice ap an ac, .slice bp bs.length bcap] 25).below (bAlloc (o := .cells #[.slice pp R pc, .int .i64 n] 30) (Nat.le_refl _) (Below.refl _ _))
  have hbx2 := AlBox.made (w.alloc (.cells #[.string nm, .int .i64 R, .slice ap an ac, .slice bp bs.length bcap] 25)) (.slice pp R pc) n
  rw [show (w.alloc (.cells #[.string nm, .int .i64 R, .slice ap an ac, .slice bp bs.length bcap] 25)).heap.size = w.heap.size + 1 by simp] at hbx2
  have BX1 := Lib.hid hbx1
  have BX2 := Lib.hid hbx2
  have HB0 := Lib.hid hb0
  clear hB hw hT hb0 hl hcl hbx1 hbx2 hP
  go_enter Tryd.func12, Tryd.ntmps12
  go_wp2_with fail
  refine HIN.out.mono ?_
  rintro e w1 ⟨ev, rfl, hE, hb1⟩
  obtain ⟨ep, ecap, rfl⟩ := hE.shape
  have d1 := (hb1.cell (p := ⟨w.heap.size, 1, none⟩) BX1.out.lt).trans (BX1.out.at 1 rfl)
  have l1 : w.heap.size < w1.heap.size := Nat.lt_of_lt_of_le BX1.out.lt hb1.size
  have hx2 := BX2.out.of_block (hb1.block _ BX2.out.1)
  have a0 := hx2.2.2.1
  have a1 := hx2.2.2.2
  have l2 := hx2.1
  have HX2 := Lib.hid hx2
  have HP1 := Lib.hid (HP.out.below hb1 (Nat.le_refl _))
  have HE1 := Lib.hid hE
  have HB1 := Lib.hid (bThen hb1 HB0.out.size HB0.out)
  rw [hEL]
  clear hE hb1 HIN BX1 BX2 hx2 HP HB0
  go_wp2_with fail
  go_loopw [40] (fun s40 wx => ∃ k : Nat, s40 = .int .i64 k ∧ k ≤ R ∧ Hid (wx.ownsMap Tryd.prog 3 (plainElem (H := Unit) Tryd.prog 4) w1.heap.size k (SlK (H := Unit) P k)) ∧ Hid (Below w1.heap.size w1 wx)) (fun s40 _ => R - (intOf s40).toNat)
  case atStart => exact ⟨0, rfl, Nat.zero_le _, by rw [SlK_zero]; exact World.ownsMap_made _ _ _ _, (Below.refl _ _).alloc (Nat.le_refl _) _⟩
  case round =>
    obtain ⟨k, rfl, hk, HM, HX⟩ := hrel
    obtain ⟨w2, rfl⟩ : ∃ W : World, W = wr := ⟨_, rfl⟩
    have a0 := (HX.out.cell (p := ⟨w.heap.size + 1, 0, none⟩) l2).trans a0
    have a1 := (HX.out.cell (p := ⟨w.heap.size + 1, 1, none⟩) l2).trans a1
    have l3 : w.heap.size + 1 < w2.heap.size := Nat.lt_of_lt_of_le l2 HX.out.size
    by_cases hlt : k < R
    · have hkI : (k : Int) < R := by omega
      obtain ⟨p', c', e1, hp⟩ := HP1.out.below HX.out (Nat.le_refl _)
      injection e1 with e1 _ e3
      subst e1 e3
      obtain ⟨m1, o1, rfl, h1, x1, y1⟩ := hp k hlt
      have hkd := HV.out.kind k hlt
      have hput := SlK_put (H := Unit) P k
      have hsam := SlK_same (H := Unit) P k
      generalize (P k).1 = px at x1 hkd hput hsam
      generalize (P k).2 = py at y1 hkd hput
      have HPut := Lib.hid hput
      have HSam := Lib.hid hsam
      have hnx : Below w2.heap.size w2 (w2.alloc (.cells #[.int .i64 px, .int .i64 py] 42)) := bAlloc (Nat.le_refl _) (Below.refl _ _)
      have HNX := Lib.hid (HX.out.trans (hnx.mono HX.out.size))
      have HM2 := Lib.hid (HM.out.alloc (.cells #[.int .i64 px, .int .i64 py] 42))
      clear hp hput hsam hnx
      rcases hkd with ⟨q1, q2, rfl⟩ | ⟨rfl, q1, q2⟩
      · have q0 : (px == 0) = false := by simp; omega
        have HS2 := Lib.hid (HSam.out (by omega))
        go_wp2_with fail
        go_roundw
        case rel => exact ⟨k + 1, by go_num, by omega, by rw [HS2.out]; exact HM2.out.mono (by omega), HNX⟩
        case measure => simp [intOf]; omega
      · have HS2 := Lib.hid (HPut.out rfl)
        have HKey := Lib.hid (key_i py (by omega))
        have hsz : w1.heap.size ≤ w2.heap.size := HX.out.size
        go_wp2_with (first | (at_mapUpdate; refine wpList_mapUpdate_own _ rfl _ _ _ 77 rfl 3 4 lawI Tryd.underlying77 (plainElem (H := Unit) Tryd.prog 4) w1.heap.size k _ rfl HM2.out (by unfold maxLen; omega) _ _ _ rfl rfl HKey.out _ [] (plainElem_bool Tryd.underlying4 true) ?_))
        intro w6 hown6 hgrow6
        have HO6 := Lib.hid hown6
        have HB6 := Lib.hid (HNX.out.grown hgrow6 (by have := HNX.out.size; omega) (fun b hb => by cases hb; exact Nat.le_refl _))
        clear hown6 hgrow6
        go_wp2_with fail
        go_roundw
        case rel => exact ⟨k + 1, by go_num, by omega, by rw [HS2.out]; exact HO6.out, HB6⟩
        case measure => simp [intOf]; omega
    · have hkR : k = R := by omega
      subst hkR
      obtain ⟨N, rfl⟩ := Int.eq_ofNat_of_zero_le hn0
      have hsz := SlK_size (H := Unit) P k N HV.out.used
      have HKE := Lib.hid HV.out.edge
      have hlen := HM.out.len Tryd.underlying77 3
      generalize SlK (H := Unit) P k = D at HM hsz hlen
      have hsI : ¬ (N : Int) > ((Maps.size D : Nat) : Int) := by omega
      have HB2 := Lib.hid (HB1.out.trans (HX.out.mono HB1.out.size))
      have HP2 := Lib.hid (HP1.out.below HX.out (Nat.le_refl _))
      have HE2 := Lib.hid (HE1.out.below HX.out (Nat.le_refl _))
      clear hsz HV
      go_wp2_with fail
      go_loopw [90] (fun s90 wx => ∃ r m : Nat, s90 = .int .i64 r ∧ r ≤ k ∧ wx = w2.drewN m) (fun s90 _ => k - (intOf s90).toNat)
      case atStart => exact ⟨0, 0, rfl, Nat.zero_le _, rfl⟩
      case round =>
        obtain ⟨r, m, rfl, hr, rfl⟩ := hrel
        by_cases hlr : r < k
        · have hrI : (r : Int) < k := by omega
          obtain ⟨m1, o1, cap1, q1, cr, e1, hm1, hx1, hr1⟩ := HE2.out.row r (by omega)
          rw [hEL] at e1
          injection e1 with e1 e2 e3
          subst e1 e3
          have hed := HKE.out r hlr
          have hrl := HMX.out r
          generalize E.getD r [] = row at hx1 hr1 hed hrl
          have HED := Lib.hid hed
          have HR1 := Lib.hid hr1
          obtain ⟨p', c', e1, hp⟩ := HP2.out
          injection e1 with e1 _ e3
          subst e1 e3
          obtain ⟨mp, op, rfl, h1, x1, y1⟩ := hp r hlr
          have HPk := Lib.hid hp
          generalize hpr : P r = pr at x1 y1 HED
          obtain ⟨px, py⟩ := pr
          have HPR := Lib.hid hpr
          simp only at x1 y1
          clear hed hr1 hp hpr
          go_wp2_with fail
          go_loopw [97] (fun s97 wx => ∃ j m2 : Nat, s97 = .int .i64 j ∧ j ≤ row.length ∧ wx = w2.drewN m2) (fun s97 _ => row.length - (intOf s97).toNat)
          case atStart => exact ⟨0, m, rfl, Nat.zero_le _, rfl⟩
          case round =>
            obtain ⟨j, m2, rfl, hj, rfl⟩ := hrel
            by_cases hlj : j < row.length
            · have hjI : (j : Int) < row.length := by omega
              obtain ⟨mu, ou, cu, e1, hmu, hcu⟩ := rdI_cell HR1.out j hlj
              injection e1 with e1 e2 e3
              subst e1 e3
              obtain ⟨q, hq, hqk, hne⟩ := HED.out _ (getD_mem0 hlj)
              rw [hq] at hcu
              obtain ⟨mq, oq, e1, h2, x2, y2⟩ := HPk.out q hqk
              injection e1 with e1
              injection e1 with e1 e3
              subst e1 e3
              have hqI : (q : Int) < k := by omega
              generalize P q = pq at x2 y2 hne
              obtain ⟨qx, qy⟩ := pq
              simp only at x2 y2
              have hd : (px == qx) = false ∨ (px = qx ∧ (py == qy) = false) := by
                by_cases h : px = qx
                · exact .inr ⟨h, by simp; intro e; exact hne (by rw [h, e])⟩
                · exact .inl (by simpa using h)
              clear hq hne e2
              rcases hd with hd | ⟨rfl, hd⟩
              · go_wp2_with fail
                go_quiet (fail)
                go_wp2_with fail
                go_roundw
                case rel => exact ⟨j + 1, m2 + nq, by go_num, by omega, by simp [World.drewN_drewN]⟩
                case measure => simp [intOf]; omega
              · go_wp2_with fail
                go_quiet (fail)
                go_wp2_with fail
                go_roundw
                case rel => exact ⟨j + 1, m2 + nq, by go_num, by omega, by simp [World.drewN_drewN]⟩
                case measure => simp [intOf]; omega
            · go_wp2_with fail
              go_roundw
              case rel => exact ⟨r + 1, m2, by go_num, by omega, rfl⟩
              case measure => simp [intOf]; omega
        · go_wp2_with fail
          go_ret
          exact ⟨rfl, bDrewN HB2.out⟩
end Go.Proofs.YtikfjehollnjeaaDoor
