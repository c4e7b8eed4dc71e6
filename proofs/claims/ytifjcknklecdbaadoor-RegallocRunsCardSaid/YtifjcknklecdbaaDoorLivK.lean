/- liveness.solve: the walk. -/
import Derived.Test.YtifjcknklecdbaaDoorMs07
import Derived.Deep.LoopGhost
import Derived.Deep.RegionHeld3
set_option linter.unusedVariables false
set_option linter.unusedSimpArgs false
namespace Go.Proofs.YtifjcknklecdbaaDoor
open Go.RowKit

theorem infoS : (Tryd.prog.info? 88).map (fun i => (i.zero, i.size, i.bytes)) = some (some (.slice none 0 0), 1, 24) := by kernel_rfl
theorem upd_zero (k : Nat) : upd (fun _ : Nat => 0) k 0 = fun _ => 0 := by
  funext i
  unfold upd
  split <;> rfl
def SolvePost (m : Nat) (bs : List IBlk) (w : World) (e : Ending) (w' : World) : Prop :=
  ∃ iv ov col, e = .returned (.tuple #[iv, ov]) ∧ SetsAt col 1 w' iv bs.length m (solV bs).inn ∧ SetsAt col 2 w' ov bs.length m (solV bs).out ∧ (∀ k, k < w.heap.size → col k = 0) ∧ Below w.heap.size w w'
theorem sol_start {w : World} {n m B : Nat} {bs : List IBlk} (hn : n ≤ 1000) (hB : w.heap.size = B) :
    ∃ col, SolAt B n m w 0 0 (fun _ => 0) (fun _ => 0) (fun t => (prevN bs 0 t).map Int.ofNat) ((List.range 0).map Int.ofNat) (fun i => decide (i < 0)) col ((w.alloc (.cells (madeCells #[Value.slice none 0 0] n) 46)).alloc (.cells (madeCells #[Value.bool false] n) 4)) (.slice none 0 0) (.slice none 0 0) (.slice (some ⟨B, 0, none⟩) n n) (.slice none 0 0) (.slice (some ⟨B + 1, 0, none⟩) n n) := by
  subst hB
  have h1 := RowsAt.made (fun _ => 0) 3 w n (by omega) (fun t => (prevN bs 0 t).map Int.ofNat) (fun i => rfl)
  have hs : (w.alloc (.cells (madeCells #[Value.slice none 0 0] n) 46)).heap.size = w.heap.size + 1 := by simp
  have hb1 : Below w.heap.size w (w.alloc (.cells (madeCells #[Value.slice none 0 0] n) 46)) := bAlloc (Nat.le_refl _) (Below.refl _ _)
  generalize w.alloc (.cells (madeCells #[Value.slice none 0 0] n) 46) = w1 at h1 hs hb1 ⊢
  have hb2 : Below w1.heap.size w1 (w1.alloc (.cells (madeCells #[Value.bool false] n) 4)) := bAlloc (Nat.le_refl _) (Below.refl _ _)
  have h2 := h1.other (Touch.of_below (col := paint (fun _ => 0) w.heap.size 3) (c := 5) hb2) (by decide)
  have h3 : WaitAt (paint (paint (fun _ => 0) w.heap.size 3) w1.heap.size 5) 5 (w1.alloc (.cells (madeCells #[Value.bool false] n) 4)) (.slice (some ⟨w.heap.size + 1, 0, none⟩) n n) n (fun i => decide (i < 0)) := by
    rw [← hs]
    exact ⟨_, rfl, (World.rowIs_made w1 (.bool false) n _).congr fun i _ => by simp, paint_ge (Nat.le_refl _)⟩
  exact ⟨_, SetsAt.none _ _ _ _ _, SetsAt.none _ _ _ _ _, h2, IntsAt.nil _ _ _, h3, low_paint (low_paint (fun _ _ => rfl) (Nat.le_refl _)) (by omega), hb1.trans (hb2.mono (by omega)), by have := hb2.size; omega⟩
set_option maxHeartbeats 6400000 in
set_option maxRecDepth 100000 in
theorem solve_any (nm : ByteArray) (R m : Nat) (ap : Option Addr) (an ac : Nat) (bv : Value) (bs : List IBlk) (w : World) (hR : R ≤ 64) (hm : (R + 63) / 64 = m) (hB : BksAt w bv bs) (hl : bs.length ≤ 1000) (hcl : ∀ k, k < bs.length → (bs.getD k default).code.length ≤ 1000) (hw : wfF R bs = true) :
    Calls Tryd.prog 45 #[.agg #[.string nm, .int .i64 R, .slice ap an ac, bv]] w (SolvePost m bs w) := by
  obtain ⟨bp, bcap, rfl⟩ := hB.shape
  have hm1 : m ≤ 1 := by omega
  have hRm : R ≤ 64 * m := by omega
  have hmkR := run_make_row' (P := Tryd.prog) 47 46 (.slice none 0 0) 24 Tryd.underlying47 infoL rfl .i64 .i64 bs.length (by omega) (by omega)
  have hmkB := run_make_row' (P := Tryd.prog) 81 4 (.bool false) 1 Tryd.underlying81 infoB rfl .i64 .i64 bs.length (by omega) (by omega)
  have HB0 := Lib.hid (show Below w.heap.size w (w.alloc (.cells #[.string nm, .int .i64 R, .slice ap an ac, .slice bp bs.length bcap] 25)) from bAlloc (Nat.le_refl _) (Below.refl _ _))
  have HD := Lib.hid hB
  have HCL := Lib.hid hcl
  have HW := Lib.hid hw
  have HM := Lib.hid hm
  have R1 := Lib.hid (show (w.alloc (.cells #[.string nm, .int .i64 R, .slice ap an ac, .slice bp bs.length bcap] 25)).cell? ⟨w.heap.size, 1, none⟩ = some (.int .i64 R) by simp [go_sem])
  have R3 := Lib.hid (show (w.alloc (.cells #[.string nm, .int .i64 R, .slice ap an ac, .slice bp bs.length bcap] 25)).cell? ⟨w.heap.size, 3, none⟩ = some (.slice bp bs.length bcap) by simp [go_sem])
  have hsz : (w.alloc (.cells #[.string nm, .int .i64 R, .slice ap an ac, .slice bp bs.length bcap] 25)).heap.size = w.heap.size + 1 := by simp
  have HS0 := Lib.hid (sol_start (w := w.alloc (.cells #[.string nm, .int .i64 R, .slice ap an ac, .slice bp bs.length bcap] 25)) (m := m) (bs := bs) (n := bs.length) hl hsz)
  clear hB hcl hw hm hsz
  go_enter Tryd.func45, Tryd.ntmps45
  go_wp2_with fail
  generalize hW0 : w.alloc (.cells #[.string nm, .int .i64 R, .slice ap an ac, .slice bp bs.length bcap] 25) = W0 at HB0 R1 R3 HS0 ⊢
  obtain ⟨col0, hs0⟩ := HS0.out
  clear hW0 HS0
  have HS0 := Lib.hid hs0
  clear hs0
  generalize (W0.alloc (.cells (madeCells #[Value.slice none 0 0] bs.length) 46)).alloc (.cells (madeCells #[Value.bool false] bs.length) 4) = w0 at HS0 ⊢
  go_loopw [2, 3, 6, 30] (fun s2 s3 s6 s30 wr => ∃ (k : Nat) (col : Nat → Nat), s30 = .int .i64 k ∧ k ≤ bs.length ∧ Hid (SolAt (w.heap.size + 1) bs.length m W0 k k (fun _ => 0) (fun _ => 0) (fun t => (prevN bs k t).map Int.ofNat) ((List.range k).map Int.ofNat) (fun i => decide (i < k)) col wr s2 s3 (.slice (some ⟨w.heap.size + 1, 0, none⟩) bs.length bs.length) s6 (.slice (some ⟨w.heap.size + 1 + 1, 0, none⟩) bs.length bs.length))) (fun _ _ _ s30 _ => bs.length - (intOf s30).toNat)
  case atStart => exact ⟨0, col0, rfl, Nat.zero_le _, HS0.out⟩
  case round =>
    obtain ⟨k, col, rfl, hk, HS⟩ := hrel
    obtain ⟨w1, rfl⟩ : ∃ W : World, W = wr := ⟨_, rfl⟩
    obtain ⟨pi, ci, rfl⟩ := HS.out.inn.shape
    obtain ⟨po, co, rfl⟩ := HS.out.out.shape
    obtain ⟨pk, ck, hkv⟩ := HS.out.work.shape
    rw [List.length_map, List.length_range] at hkv
    subst hkv
    by_cases hlt : k < bs.length
    · have hkI : (k : Int) < bs.length := by omega
      have hbw : Below w.heap.size w w1 := HB0.out.trans (HS.out.bel.mono (by omega))
      obtain ⟨mb, ob, cap', cp, cc, e1, hmb, hin, c0, c1, c2, c3, c4⟩ := (HD.out.below hbw (Nat.le_refl _)).at k hlt
      injection e1 with e1 e2 e3
      subst e1 e3
      have hsl := succI_len (bs.getD k default)
      have hsk := succ_ok (okBlk_at HW.out hlt)
      have HPE := Lib.hid (prevQ_end bs k)
      have HPU := Lib.hid (prevQ_upd bs k)
      obtain ⟨⟨code, kind, bx, tgt, els⟩, hb⟩ : ∃ b, b = bs.getD k default := ⟨_, rfl⟩
      rw [← hb] at c0 c1 c2 c3 c4 hsl hsk HPE HPU
      simp only at c0 c1 c2 c3 c4
      have HSK := Lib.hid hsk
      have HSL := Lib.hid hsl
      clear hb hin hsk hsl
      go_upto_region 8 with fail
      have hbA : Below w1.heap.size w1 (w1.alloc (.cells #[.slice cp code.length cc, .int .u8 kind, .int .i64 bx, .int .i64 tgt, .int .i64 els] 52)) := bAlloc (Nat.le_refl _) (Below.refl _ _)
      have HSA := Lib.hid (HS.out.paint0 hbA)
      have HBX := Lib.hid (BoxAt.made col w1 [.slice cp code.length cc, .int .u8 kind, .int .i64 bx, .int .i64 tgt, .int .i64 els] 52)
      generalize (w1.alloc (.cells #[.slice cp code.length cc, .int .u8 kind, .int .i64 bx, .int .i64 tgt, .int .i64 els] 52)) = wA at HSA HBX ⊢
      clear hbA c0 c1 c2 c3 c4 hbw hmb HS
      have r1 := (HSA.out.bel.cell (p := ⟨w.heap.size, 1, none⟩) (by simp)).trans R1.out
      have hzw := HSA.out.big
      go_wp2_with fail
      refine (empty_any R m hR HM.out wA).mono ?_
      rintro e wB ⟨rfl, hsv, hwB⟩
      have hbB : Below wA.heap.size wA wB := by rw [hwB]; exact bAlloc (Nat.le_refl _) (Below.refl _ _)
      have hbB2 : Below wA.heap.size wA (wB.alloc (.cells #[.slice (some ⟨wA.heap.size, 0, none⟩) m m] 88)) := bAlloc hbB.size hbB
      have hsv2 : SetV (wB.alloc (.cells #[.slice (some ⟨wA.heap.size, 0, none⟩) m m] 88)) m (.slice (some ⟨wA.heap.size, 0, none⟩) m m) 0 := hsv.below (B := wB.heap.size) (bAlloc (Nat.le_refl _) (Below.refl _ _)) (Nat.le_refl _)
      obtain ⟨VI, hVI⟩ := HSA.out.inn.open
      have HO := Lib.hid (own0_block hVI.out (w' := wB.alloc (.cells #[.slice (some ⟨wA.heap.size, 0, none⟩) m m] 88)) fun q hq => hbB2.block q (own0_lt hVI.out hq))
      have HV := Lib.hid hVI
      have HSV := Lib.hid hsv2
      have HBB := Lib.hid hbB2
      have hzB := hbB.size
      clear hsv hwB hbB hbB2 hsv2 hVI r1
      go_wp2_with (first | (at_builtin; refine wpList_append_cell rfl _ _ 86 88 (.slice none 0 0) 24 rfl Tryd.underlying86 infoS rfl (by decide) 0 (.slice pi k ci) k _ rfl HO.out wB.heap.size 1 (.slice (some ⟨wA.heap.size, 0, none⟩) m m) rfl (by simp [go_sem]) rfl (by omega) (Nat.zero_le _) ?_))
      intro p2 c2 wC hO3 hg3 hd3
      obtain ⟨hi3, ht3⟩ := SetsAt.push HSA.out.inn HBB.out HSV.out (fun q hq => by cases hq; exact Nat.le_refl _) hg3 ⟨VI, HV.out, hO3⟩ (hd3.imp id fun h q e => by have := h q e; simp; omega)
      rw [show upd (fun _ : Nat => 0) k 0 = fun _ => 0 from upd_zero k] at hi3
      have HSC := Lib.hid (HSA.out.setInn hi3 ht3)
      have HBX2 := Lib.hid (HBX.out.other ht3 (by decide))
      clear HBX
      have HBX := HBX2
      clear HBX2 HO HV HSV HBB hO3 hg3 hd3 hi3 ht3 HSA hzB hzw
      have r1 := (HSC.out.bel.cell (p := ⟨w.heap.size, 1, none⟩) (by simp)).trans R1.out
      have hzw := HSC.out.big
      go_wp2_with fail
      refine (empty_any R m hR HM.out wC).mono ?_
      rintro e wD ⟨rfl, hsv, hwB⟩
      have hbB : Below wC.heap.size wC wD := by rw [hwB]; exact bAlloc (Nat.le_refl _) (Below.refl _ _)
      have hbB2 : Below wC.heap.size wC (wD.alloc (.cells #[.slice (some ⟨wC.heap.size, 0, none⟩) m m] 88)) := bAlloc hbB.size hbB
      have hsv2 : SetV (wD.alloc (.cells #[.slice (some ⟨wC.heap.size, 0, none⟩) m m] 88)) m (.slice (some ⟨wC.heap.size, 0, none⟩) m m) 0 := hsv.below (B := wD.heap.size) (bAlloc (Nat.le_refl _) (Below.refl _ _)) (Nat.le_refl _)
      obtain ⟨VO, hVO⟩ := HSC.out.out.open
      have HO := Lib.hid (own0_block hVO.out (w' := wD.alloc (.cells #[.slice (some ⟨wC.heap.size, 0, none⟩) m m] 88)) fun q hq => hbB2.block q (own0_lt hVO.out hq))
      have HV := Lib.hid hVO
      have HSV := Lib.hid hsv2
      have HBB := Lib.hid hbB2
      have hzB := hbB.size
      clear hsv hwB hbB hbB2 hsv2 hVO r1
      go_wp2_with (first | (at_builtin; refine wpList_append_cell rfl _ _ 86 88 (.slice none 0 0) 24 rfl Tryd.underlying86 infoS rfl (by decide) 0 (.slice po k co) k _ rfl HO.out wD.heap.size 1 (.slice (some ⟨wC.heap.size, 0, none⟩) m m) rfl (by simp [go_sem]) rfl (by omega) (Nat.zero_le _) ?_))
      intro p3 c3 wE hO3 hg3 hd3
      obtain ⟨hi3, ht3⟩ := SetsAt.push HSC.out.out HBB.out HSV.out (fun q hq => by cases hq; exact Nat.le_refl _) hg3 ⟨VO, HV.out, hO3⟩ (hd3.imp id fun h q e => by have := h q e; simp; omega)
      rw [show upd (fun _ : Nat => 0) k 0 = fun _ => 0 from upd_zero k] at hi3
      have HSE := Lib.hid (HSC.out.setOut hi3 ht3)
      have HBX2 := Lib.hid (HBX.out.other ht3 (by decide))
      clear HBX
      have HBX := HBX2
      clear HBX2 HO HV HSV HBB hO3 hg3 hd3 hi3 ht3 HSC hzB hzw
      have q0 := HBX.out.at 0 rfl
      have q1 := HBX.out.at 1 rfl
      have q2 := HBX.out.at 2 rfl
      have q3 := HBX.out.at 3 rfl
      have q4 := HBX.out.at 4 rfl
      have hzx := HBX.out.lt
      go_wp2_with fail
      refine (succ_any cp code.length cc kind code bx tgt els wE).mono ?_
      rintro e wF ⟨u, rfl, hu, huf, hbF⟩
      generalize succI ⟨code, kind, bx, tgt, els⟩ = sc at hu HSK HSL HPE HPU
      obtain ⟨pu, cu, rfl⟩ := hu.shape
      obtain ⟨colF, hSF, hLF⟩ : ∃ c, SolAt (w.heap.size + 1) bs.length m W0 (k + 1) (k + 1) (fun _ => 0) (fun _ => 0) (fun t => (prevN bs k t).map Int.ofNat) ((List.range k).map Int.ofNat) (fun i => decide (i < k)) c wF (.slice p2 (k + 1) c2) (.slice p3 (k + 1) c3) (.slice (some ⟨w.heap.size + 1, 0, none⟩) bs.length bs.length) (.slice pk k ck) (.slice (some ⟨w.heap.size + 1 + 1, 0, none⟩) bs.length bs.length) ∧ ListAt c wF (.slice pu sc.length cu) sc := ⟨_, HSE.out.paint0 hbF, ListAt.fresh hu huf⟩
      have HSF := Lib.hid hSF
      have HLF := Lib.hid hLF
      have hscl : sc.length ≤ 2 := HSL.out
      clear q0 q1 q2 q3 q4 hzx hu huf hbF hSF hLF HSE HBX
      go_wp2_with fail
      go_loopw [50] (fun s50 wx => ∃ (j : Nat) (cx : Nat → Nat), s50 = .int .i64 j ∧ j ≤ sc.length ∧ Hid (SolAt (w.heap.size + 1) bs.length m W0 (k + 1) (k + 1) (fun _ => 0) (fun _ => 0) (fun t => (prevQ bs k j t).map Int.ofNat) ((List.range k).map Int.ofNat) (fun i => decide (i < k)) cx wx (.slice p2 (k + 1) c2) (.slice p3 (k + 1) c3) (.slice (some ⟨w.heap.size + 1, 0, none⟩) bs.length bs.length) (.slice pk k ck) (.slice (some ⟨w.heap.size + 1 + 1, 0, none⟩) bs.length bs.length)) ∧ Hid (ListAt cx wx (.slice pu sc.length cu) sc)) (fun s50 _ => sc.length - (intOf s50).toNat)
      case atStart => exact ⟨0, colF, rfl, Nat.zero_le _, (by rw [show (fun t => (prevQ bs k 0 t).map Int.ofNat) = fun t => (prevN bs k t).map Int.ofNat from funext fun t => by rw [prevQ_zero]]; exact HSF.out), HLF⟩
      case round =>
        obtain ⟨j, cx, rfl, hj, HSX, HLX⟩ := hrel
        obtain ⟨w2, rfl⟩ : ∃ W : World, W = wr := ⟨_, rfl⟩
        by_cases hlj : j < sc.length
        · have hjI : (j : Int) < sc.length := by omega
          obtain ⟨mu, ou, cu', e1, hmu, hcu⟩ := rdI_cell HLX.out.1 j hlj
          injection e1 with e1 e2 e3
          subst e1 e3
          obtain ⟨hy0, hy1⟩ := HSK.out (sc.getD j 0) (by rw [List.getD_eq_getElem?_getD, List.getElem?_eq_getElem hlj]; exact List.getElem_mem hlj)
          obtain ⟨y, hy⟩ := Int.eq_ofNat_of_zero_le hy0
          have HPJ := Lib.hid (HPU.out j y hlj hy)
          rw [hy] at hcu hy1
          have hyn : y < bs.length := by omega
          clear hy hy0
          obtain ⟨g, cap, p, cap', e1, hg1, hg2, hg3, hg4, hg5, hg6⟩ := HSX.out.prev.get hyn
          injection e1 with e1 e2 e3
          injection e1 with e1
          injection e1 with e1
          subst e1 e3
          have hpl := prevQ_len bs k j y
          have hml : ((prevQ bs k j y).map Int.ofNat).length ≤ 3000 := by rw [List.length_map]; omega
          have HG3 := Lib.hid hg3
          generalize hpq : (prevQ bs k j y).map Int.ofNat = pq at hg3 hg5 hg6 hml HG3
          have HPQ := Lib.hid hpq
          have hbb : Below w2.heap.size w2 (w2.alloc (.cells #[.int .i64 k] 3)) := bAlloc (Nat.le_refl _) (Below.refl _ _)
          have HBb := Lib.hid hbb
          have HO := Lib.hid (own0_block hg5 (w' := w2.alloc (.cells #[.int .i64 k] 3)) fun q hq => hbb.block q (own0_lt hg5 hq))
          have HG6 := Lib.hid hg6
          clear hpl hpq hbb hg5 hg6
          go_wp2_with (first | (at_builtin; refine wpList_append_cell rfl _ _ 46 3 (.int .i64 0) 8 rfl Tryd.underlying46 infoI rfl (by decide) 0 (.slice p pq.length cap') pq.length _ rfl HO.out w2.heap.size 1 (.int .i64 k) rfl (by simp [go_sem]) rfl (by omega) (Nat.zero_le _) ?_))
          intro p6 c6 w3 hO3 hgr3 hd3
          have hb3 : w3.heap[w.heap.size + 1]? = w2.heap[w.heap.size + 1]? := (hgr3.block _ (by simp; omega) (fun e => (HG6.out _ e.symm).2 rfl)).trans (HBb.out.block _ hg1)
          have hc3 := (World.cell?_of_block (w := w2) (a := ⟨w.heap.size + 1, y, none⟩) hb3).trans hg3
          have hf3 := (World.frozen?_of_block (w := w2) (a := ⟨w.heap.size + 1, y, none⟩) hb3).trans hg4
          have hs3 : w.heap.size + 1 < w3.heap.size := by have := hgr3.size; simp at this; omega
          obtain ⟨hP4, hT4⟩ := HSX.out.prev.pushed hyn rfl (by rw [HPQ.out]; exact HG3.out) HBb.out (by rw [HPQ.out]; exact hgr3) (by rw [HPQ.out]; exact hO3) (by rw [HPQ.out]; exact hd3.imp id fun h q e => by have := h q e; simp; omega)
          have HS4 := Lib.hid (HSX.out.setPrev hP4 hT4)
          have HL4 := Lib.hid (HLX.out.other hT4 (by decide))
          clear hO3 hgr3 hd3 hb3 hP4 hT4 HO HBb HG6 HSX HLX hg1 hg3 hg4 hcu hmu
          go_wp2_with fail
          go_roundw
          case rel =>
            refine ⟨j + 1, _, by go_num, by omega, ?_, HL4⟩
            rw [show (fun t => (prevQ bs k (j + 1) t).map Int.ofNat) = _ from funext HPJ.out]
            exact HS4
          case measure => simp [intOf]; omega
        · have hjl : j = sc.length := by omega
          subst hjl
          have hbb : Below w2.heap.size w2 (w2.alloc (.cells #[.int .i64 k] 3)) := bAlloc (Nat.le_refl _) (Below.refl _ _)
          have HBb := Lib.hid hbb
          have hwk := HSX.out.work
          have hwl : ((List.range k).map Int.ofNat).length = k := by simp
          have ho := own0_block hwk.1 (w' := w2.alloc (.cells #[.int .i64 k] 3)) fun q hq => hbb.block q (own0_lt hwk.1 hq)
          rw [hwl] at ho
          have HO := Lib.hid ho
          have HWL := Lib.hid hwl
          clear hbb hwk hwl ho
          go_wp2_with (first | (at_builtin; refine wpList_append_cell rfl _ _ 46 3 (.int .i64 0) 8 rfl Tryd.underlying46 infoI rfl (by decide) 0 (.slice pk k ck) k _ rfl HO.out w2.heap.size 1 (.int .i64 k) rfl (by simp [go_sem]) rfl (by omega) (Nat.zero_le _) ?_))
          intro p6 c6 w3 hO3 hgr3 hd3
          obtain ⟨hP4, hT4⟩ := HSX.out.work.push (v' := .slice p6 (k + 1) c6) (y := (k : Int)) HBb.out hgr3 (by rw [HWL.out, List.map_map]; exact hO3) (hd3.imp id fun h q e => by have := h q e; simp; omega)
          have HS4 := Lib.hid (HSX.out.setWork hP4 hT4)
          obtain ⟨d1, d2, d3⟩ := HS4.out.wait.cell hlt
          clear hO3 hgr3 hd3 hP4 hT4 HO HBb HSX HLX HLF HSF
          go_wp2_with fail
          obtain ⟨hP5, hT5⟩ := HS4.out.wait.set k true
          have hS5 := HS4.out.setWait (hP5.mono (fun q _ e => paint_keep e)) hT5
          rw [show upd (fun i => decide (i < k)) k true = fun i => decide (i < k + 1) from funext (wait_step k), show (fun t => (prevQ bs k sc.length t).map Int.ofNat) = fun t => (prevN bs (k + 1) t).map Int.ofNat from funext fun t => by rw [HPE.out], show (List.range k).map Int.ofNat ++ [(k : Int)] = (List.range (k + 1)).map Int.ofNat by rw [List.range_succ, List.map_append]; rfl] at hS5
          have HS5 := Lib.hid hS5
          clear hP5 hT5 hS5 HS4 d1 d2 d3
          go_roundw
          case rel => exact ⟨k + 1, _, by go_num, by omega, HS5⟩
          case measure => simp [intOf]; omega
    · have hkn : k = bs.length := by omega
      subst hkn
      go_wp2_with fail
      have HS1 : Hid (SolAt (w.heap.size + 1) bs.length m W0 bs.length bs.length (startV bs.length).inn (startV bs.length).out (fun t => (prevP bs t).map Int.ofNat) ((startV bs.length).work.map Int.ofNat) (startV bs.length).wait col w1 (.slice pi bs.length ci) (.slice po bs.length co) (.slice (some ⟨w.heap.size + 1, 0, none⟩) bs.length bs.length) (.slice pk bs.length ck) (.slice (some ⟨w.heap.size + 1 + 1, 0, none⟩) bs.length bs.length)) := HS
      clear HS HS0
      go_loopg [6] (gapV R bs.length (startV bs.length)) (fun g s6 wr => ∃ (kk : Nat) (s : SV) (col : Nat → Nat), Hid (iterV bs kk (startV bs.length) = s) ∧ Hid (IV R bs s) ∧ Hid (IN s.wait s.work) ∧ Hid (g = gapV R bs.length s) ∧ Hid (SolAt (w.heap.size + 1) bs.length m W0 bs.length bs.length s.inn s.out (fun t => (prevP bs t).map Int.ofNat) (s.work.map Int.ofNat) s.wait col wr (.slice pi bs.length ci) (.slice po bs.length co) (.slice (some ⟨w.heap.size + 1, 0, none⟩) bs.length bs.length) s6 (.slice (some ⟨w.heap.size + 1 + 1, 0, none⟩) bs.length bs.length)))
      case atStart => exact ⟨0, startV bs.length, col, rfl, IV.start R bs, IN.start _, rfl, HS1⟩
      case round =>
        obtain ⟨kk0, s, colx, HIT, HIV, HIN, HGP, HS⟩ := hrel
        obtain ⟨w2, rfl⟩ : ∃ W : World, W = wr := ⟨_, rfl⟩
        obtain ⟨pw, cw, hkv⟩ := HS.out.work.shape
        rw [List.length_map] at hkv
        subst hkv
        rcases List.eq_nil_or_concat s.work with h0 | ⟨l, i, hwl⟩
        · have hl0 : s.work.length = 0 := by rw [h0]; rfl
          have HE := Lib.hid (solV_of (s := s) ⟨kk0, HIT.out, h0⟩)
          clear h0
          go_wp2_with fail
          go_ret2
          refine ⟨_, _, colx, rfl, ?_, ?_, ?_, ?_⟩
          · rw [← HE.out]; exact HS.out.inn
          · rw [← HE.out]; exact HS.out.out
          · exact fun k hk => HS.out.low k (by omega)
          · exact HB0.out.trans (HS.out.bel.mono (by omega))
        · skip
          rw [List.concat_eq_append] at hwl
          have HWL := Lib.hid hwl
          have hlen : s.work.length = l.length + 1 := by rw [hwl]; simp
          have hwm : s.work.map Int.ofNat = l.map Int.ofNat ++ [(i : Int)] := by rw [hwl, List.map_append]; rfl
          have hin : i < bs.length := HIV.out.work i (by rw [hwl]; simp)
          have hll : l.length ≤ bs.length := by
            have := nodup_len bs.length s.work HIN.out.1 HIV.out.work
            omega
          have hS := HS.out
          rw [hwm] at hS
          obtain ⟨mk, ok, cw', e1, hmk, hck⟩ := rdI_cell hS.work.rd l.length (by simp)
          have hk0 : (l.map Int.ofNat ++ [(i : Int)]).getD l.length 0 = (i : Int) := by simp [List.getD_eq_getElem?_getD]
          rw [hk0] at hck
          have hle : (l.map Int.ofNat ++ [(i : Int)]).length = l.length + 1 := by simp
          rw [hle] at e1
          rw [hlen] at e1
          injection e1 with e1 e2 e3
          subst e1 e3
          have HST := Lib.hid (stepV_at (bs := bs) hwl)
          have hstp := HIV.out.step HW.out hwl
          have HIV2 := Lib.hid hstp.1
          have HGP2 := Lib.hid hstp.2
          rw [show s.work.length = l.length + 1 from hlen]
          rw [show s.work.length = l.length + 1 from hlen] at hS
          have hcap : l.length + 1 ≤ cw := hS.work.room (by simp)
          have hcapI : l.length ≤ cw := by omega
          have HS2 := Lib.hid hS
          obtain ⟨a1, a2, a3⟩ := hS.wait.cell hin
          have hinI : (i : Int) < bs.length := by omega
          have hz2 := hS.big
          have HLE := Lib.hid hle
          clear hwl hlen hwm hk0 hle hstp hS HS
          have r3 := (HS2.out.bel.cell (p := ⟨w.heap.size, 3, none⟩) (by simp)).trans R3.out
          go_upto_region 20 with fail
          have hw5 := HS2.out.setWork ((HS2.out.work.pop (by simp)).mono fun q _ e => paint_keep e) (Touch.refl _ _ _)
          rw [List.length_map] at hw5
          obtain ⟨b1, b2, b3⟩ := hw5.wait.cell hin
          have HS3 := Lib.hid hw5
          clear hw5 hck HS2 hmk hcap a1 a2 a3
          go_upto_region 22 with fail
          obtain ⟨hP5, hT5⟩ := HS3.out.wait.set i false
          have HS4 := Lib.hid (HS3.out.setWait (hP5.mono (fun q _ e => paint_keep e)) hT5)
          have hs4 : (w2.setCell ⟨w.heap.size + 1 + 1, i, none⟩ (.bool false)).heap.size = w2.heap.size := by simp [World.setCell]
          clear hP5 hT5 b1 b2 b3 HS3 r3 hcapI
          generalize w2.setCell ⟨w.heap.size + 1 + 1, i, none⟩ (.bool false) = w3 at HS4 hs4 ⊢
          have hz3 : w.heap.size < w3.heap.size := by omega
          clear hs4
          have r3 := (HS4.out.bel.cell (p := ⟨w.heap.size, 3, none⟩) (by simp)).trans R3.out
          have hbw : Below w.heap.size w w3 := HB0.out.trans (HS4.out.bel.mono (by omega))
          obtain ⟨mb, ob, cap', cp, cc, e1, hmb, hinB, c0, c1, c2, c3, c4⟩ := HD.out.at i hin
          replace c0 := (hbw.cell (p := ⟨mb, _, none⟩) hmb).trans c0
          replace c1 := (hbw.cell (p := ⟨mb, _, none⟩) hmb).trans c1
          replace c2 := (hbw.cell (p := ⟨mb, _, none⟩) hmb).trans c2
          replace c3 := (hbw.cell (p := ⟨mb, _, none⟩) hmb).trans c3
          replace c4 := (hbw.cell (p := ⟨mb, _, none⟩) hmb).trans c4
          have hmb3 : mb < w3.heap.size := by have := hbw.size; omega
          injection e1 with e1 e2 e3
          subst e1 e3
          have hbok := okBlk_at HW.out hin
          have hsk := succ_ok hbok
          have hbl := HCL.out i hin
          have HJE := Lib.hid (joinJ_end bs s.inn (s.out i) i)
          have hsi := sol_code hbok
          obtain ⟨⟨code, kind, bx, tgt, els⟩, hb⟩ : ∃ b, b = bs.getD i default := ⟨_, rfl⟩
          rw [← hb] at c0 c1 c2 c3 c4 hinB hsk HJE hbok hbl hsi
          simp only at c0 c1 c2 c3 c4 hinB hbl hsi
          have HBE := Lib.hid hb
          have HSK := Lib.hid hsk
          have HBO := Lib.hid hbok
          have HSI := Lib.hid hsi
          clear hb hsk hbok hsi
          go_upto_region 23 with fail
          have hbA : Below w3.heap.size w3 (w3.alloc (.cells #[.slice cp code.length cc, .int .u8 kind, .int .i64 bx, .int .i64 tgt, .int .i64 els] 52)) := bAlloc (Nat.le_refl _) (Below.refl _ _)
          obtain ⟨colB, hSB, hXB⟩ : ∃ c, SolAt (w.heap.size + 1) bs.length m W0 bs.length bs.length s.inn s.out (fun t => (prevP bs t).map Int.ofNat) (l.map Int.ofNat) (upd s.wait i false) c (w3.alloc (.cells #[.slice cp code.length cc, .int .u8 kind, .int .i64 bx, .int .i64 tgt, .int .i64 els] 52)) (.slice pi bs.length ci) (.slice po bs.length co) (.slice (some ⟨w.heap.size + 1, 0, none⟩) bs.length bs.length) (.slice (some ⟨mk, ok, none⟩) l.length cw) (.slice (some ⟨w.heap.size + 1 + 1, 0, none⟩) bs.length bs.length) ∧ BoxAt c (w3.alloc (.cells #[.slice cp code.length cc, .int .u8 kind, .int .i64 bx, .int .i64 tgt, .int .i64 els] 52)) w3.heap.size [.slice cp code.length cc, .int .u8 kind, .int .i64 bx, .int .i64 tgt, .int .i64 els] := ⟨_, HS4.out.paint0 hbA, BoxAt.made _ w3 [.slice cp code.length cc, .int .u8 kind, .int .i64 bx, .int .i64 tgt, .int .i64 els] 52⟩
          have HIB := Lib.hid hinB
          have hmb4 : w3.heap.size < (w3.alloc (.cells #[.slice cp code.length cc, .int .u8 kind, .int .i64 bx, .int .i64 tgt, .int .i64 els] 52)).heap.size := by simp
          have HSB := Lib.hid hSB
          have HXB := Lib.hid hXB
          clear hbA hSB hXB hinB c0 c1 c2 c3 c4 hmb hbw r3 HS4
          generalize hw4 : (w3.alloc (.cells #[.slice cp code.length cc, .int .u8 kind, .int .i64 bx, .int .i64 tgt, .int .i64 els] 52)) = w4 at HSB HXB hmb4 ⊢
          clear hw4 hmb3
          have q0 := HXB.out.at 0 rfl
          have q1 := HXB.out.at 1 rfl
          have q2 := HXB.out.at 2 rfl
          have q3 := HXB.out.at 3 rfl
          have q4 := HXB.out.at 4 rfl
          go_wp2_with fail
          refine (succ_any cp code.length cc kind code bx tgt els w4).mono ?_
          rintro e w5 ⟨u, rfl, hu, huf, hb5⟩
          have hsl := succI_len ⟨code, kind, bx, tgt, els⟩
          generalize hsc : succI ⟨code, kind, bx, tgt, els⟩ = sc at hu HSK HJE hsl
          obtain ⟨pu, cu, rfl⟩ := hu.shape
          obtain ⟨col5, hS5, hX5, hL5⟩ : ∃ c, SolAt (w.heap.size + 1) bs.length m W0 bs.length bs.length s.inn s.out (fun t => (prevP bs t).map Int.ofNat) (l.map Int.ofNat) (upd s.wait i false) c w5 (.slice pi bs.length ci) (.slice po bs.length co) (.slice (some ⟨w.heap.size + 1, 0, none⟩) bs.length bs.length) (.slice (some ⟨mk, ok, none⟩) l.length cw) (.slice (some ⟨w.heap.size + 1 + 1, 0, none⟩) bs.length bs.length) ∧ BoxAt c w5 w3.heap.size [.slice cp code.length cc, .int .u8 kind, .int .i64 bx, .int .i64 tgt, .int .i64 els] ∧ ListAt c w5 (.slice pu sc.length cu) sc := ⟨_, HSB.out.paint0 hb5, HXB.out.clean.below hb5, ListAt.fresh hu huf⟩
          have HS5 := Lib.hid hS5
          have HX5 := Lib.hid hX5
          have HL5 := Lib.hid hL5
          have HSC := Lib.hid hsc
          have hz5 : w3.heap.size < w5.heap.size := hX5.lt
          clear q0 q1 q2 q3 q4 hu huf hS5 hX5 hL5 hsc HSB HXB
          have HB5 := Lib.hid hb5
          clear hb5
          go_wp2_with fail
          go_loopw [98] (fun s98 wx => ∃ (j : Nat) (cx : Nat → Nat), s98 = .int .i64 j ∧ j ≤ sc.length ∧ Hid (SolAt (w.heap.size + 1) bs.length m W0 bs.length bs.length s.inn (upd s.out i (joinJ s.inn (s.out i) sc j)) (fun t => (prevP bs t).map Int.ofNat) (l.map Int.ofNat) (upd s.wait i false) cx wx (.slice pi bs.length ci) (.slice po bs.length co) (.slice (some ⟨w.heap.size + 1, 0, none⟩) bs.length bs.length) (.slice (some ⟨mk, ok, none⟩) l.length cw) (.slice (some ⟨w.heap.size + 1 + 1, 0, none⟩) bs.length bs.length)) ∧ Hid (BoxAt cx wx w3.heap.size [.slice cp code.length cc, .int .u8 kind, .int .i64 bx, .int .i64 tgt, .int .i64 els]) ∧ Hid (ListAt cx wx (.slice pu sc.length cu) sc)) (fun s98 _ => sc.length - (intOf s98).toNat)
          case atStart => exact ⟨0, col5, rfl, Nat.zero_le _, (by rw [joinJ_zero, show upd s.out i (s.out i) = s.out from upd_self s.out i]; exact HS5.out), HX5, HL5⟩
          case round =>
            obtain ⟨j, cx, rfl, hj, HSX, HXX, HLX⟩ := hrel
            obtain ⟨w6, rfl⟩ : ∃ W : World, W = wr := ⟨_, rfl⟩
            by_cases hlj : j < sc.length
            · have hjI : (j : Int) < sc.length := by omega
              obtain ⟨mu, ou, cu', e1, hmu, hcu⟩ := rdI_cell HLX.out.1 j hlj
              injection e1 with e1 e2 e3
              subst e1 e3
              obtain ⟨hy0, hy1⟩ := HSK.out (sc.getD j 0) (by rw [List.getD_eq_getElem?_getD, List.getElem?_eq_getElem hlj]; exact List.getElem_mem hlj)
              obtain ⟨y, hy⟩ := Int.eq_ofNat_of_zero_le hy0
              have HJN := Lib.hid (joinJ_next s.inn (s.out i) sc j y hlj hy)
              have hjl := joinJ_lt (n := bs.length) HIV.out.inn (HIV.out.out i hin) HSK.out j
              rw [hy] at hcu hy1
              have hyn : y < bs.length := by omega
              have hyl := HIV.out.inn y hyn
              clear hy hy0
              obtain ⟨go, capo, po', capo', e1, ho1, ho2, ho3, ho4, ho5, ho6⟩ := HSX.out.out.get hin
              have E1 := Lib.hid e1
              injection e1 with e1 e2 e3
              subst e1 e3
              obtain ⟨gi, capi, pi', capi', e1, hi1, hi2, hi3, hi4, hi5, hi6⟩ := HSX.out.inn.get hyn
              injection e1 with e1 e2 e3
              subst e1 e3
              rw [upd_same] at ho5
              have hsx := HSX.out
              have HJ := Lib.hid (join_any m (joinJ s.inn (s.out i) sc j) (s.inn y) _ _ w6.drew hm1 (pow_le hjl hRm) (pow_le hyl hRm) (ho5.keep (w' := w6.drew) fun _ _ => rfl) (hi5.keep (w' := w6.drew) fun _ _ => rfl))
              have HO4 := Lib.hid ho3
              have HI3 := Lib.hid hi3
              clear hsx ho4 hi4 ho5 ho6 hi5 hi6 hjl hyl
              go_wp2_with fail
              go_still_tail 8, (by kernel_rfl)
              go_wp2_with fail
              refine HJ.out.mono ?_
              rintro e w7 ⟨rfl, hs7, hg7⟩
              have h6 := HSX.out.below (w' := w6.drew) (Below.refl _ _).drew
              obtain ⟨hO7, hT7⟩ := h6.out.inplace hin rfl HO4.out hs7 hg7
              have hS7 := h6.setOut (hO7.mono (fun _ _ e => paint_keep e)) hT7
              rw [upd_upd, ← HJN.out] at hS7
              have HX7 := Lib.hid ((HXX.out.below (w' := w6.drew) (Below.refl _ _).drew).other hT7 (by decide))
              have HL7 := Lib.hid ((HLX.out.below (w' := w6.drew) (Below.refl _ _).drew).other hT7 (by decide))
              have HS7 := Lib.hid hS7
              clear HJ hs7 hg7 h6 hO7 hT7 hS7 HSX HXX HLX HO4 HI3 hcu hmu ho1 ho2 ho3 hi1 hi2 hi3
              go_wp2_with fail
              go_roundw
              case rel => exact ⟨j + 1, _, by go_num, by omega, HS7, HX7, HL7⟩
              case measure => simp [intOf]; omega
            · skip
              have hjl : j = sc.length := by omega
              subst hjl
              have hol := joinJ_lt (n := bs.length) HIV.out.inn (HIV.out.out i hin) HSK.out sc.length
              rw [HJE.out] at HSX hol
              obtain ⟨go, capo, po', capo', e1, ho1, ho2, ho3, ho4, ho5, ho6⟩ := HSX.out.out.get hin
              injection e1 with e1 e2 e3
              subst e1 e3
              rw [upd_same] at ho5
              have q0 := HXX.out.at 0 rfl
              have q1 := HXX.out.at 1 rfl
              have q2 := HXX.out.at 2 rfl
              have q3 := HXX.out.at 3 rfl
              have q4 := HXX.out.at 4 rfl
              have hzx := HXX.out.lt
              have hkx := blk_reg HBO.out
              generalize hon : joinB bs s.inn i (s.out i) = o at HSX hol ho5
              have HON := Lib.hid hon
              have HLA := Lib.hid (last_any m o cp code.length cc kind code bx tgt els _ w6.drew hm1 (pow_le hol hRm) (fun h => by have := hkx h; simp only at this; omega) (ho5.keep (w' := w6.drew) fun _ _ => rfl))
              clear hon hkx ho4 ho5 ho6 HLX HL5
              go_upto_region 28 with fail
              go_still_tail 5, (by kernel_rfl)
              go_wp2_with fail
              refine HLA.out.mono ?_
              rintro e w7 ⟨u, rfl, hu7, huf7, hb7⟩
              have h6 := HSX.out.below (w' := w6.drew) (Below.refl _ _).drew
              have hT7 : Touch cx 6 w6.drew w7 := Touch.of_below hb7
              obtain ⟨c7, hS7, hX7, hU7⟩ : ∃ c, SolAt (w.heap.size + 1) bs.length m W0 bs.length bs.length s.inn (upd s.out i o) (fun t => (prevP bs t).map Int.ofNat) (l.map Int.ofNat) (upd s.wait i false) c w7 (.slice pi bs.length ci) (.slice (some ⟨go, 0, none⟩) bs.length co) (.slice (some ⟨w.heap.size + 1, 0, none⟩) bs.length bs.length) (.slice (some ⟨mk, ok, none⟩) l.length cw) (.slice (some ⟨w.heap.size + 1 + 1, 0, none⟩) bs.length bs.length) ∧ BoxAt c w7 w3.heap.size [.slice cp code.length cc, .int .u8 kind, .int .i64 bx, .int .i64 tgt, .int .i64 els] ∧ (∀ b, u.ownBlock = some b → c b = 6) := ⟨_, h6.touch6 hT7, (HXX.out.below (w' := w6.drew) (Below.refl _ _).drew).other hT7 (by decide), fun b hb => paint_ge (huf7 b hb)⟩
              rw [← liveB_end ⟨code, kind, bx, tgt, els⟩ o] at hu7
              have HS7 := Lib.hid hS7
              have HX7 := Lib.hid hX7
              have HU7 := Lib.hid hU7
              have HV7 := Lib.hid hu7
              have q0 := hX7.at 0 rfl
              have hzx7 := hX7.lt
              obtain ⟨pu7, cu7, rfl⟩ := hu7.shape
              clear HLA hu7 huf7 hb7 h6 hT7 hS7 hX7 hU7 HSX HXX hzx q1 q2 q3 q4 ho1 ho2 ho3
              go_wp2_with fail
              go_loopw [17] (fun s17 wx => ∃ (z : Int) (kk : Nat) (cx : Nat → Nat), s17 = .int .i64 z ∧ Hid (z + 1 = kk) ∧ -1 ≤ z ∧ z < code.length ∧ Hid (SolAt (w.heap.size + 1) bs.length m W0 bs.length bs.length s.inn (upd s.out i o) (fun t => (prevP bs t).map Int.ofNat) (l.map Int.ofNat) (upd s.wait i false) cx wx (.slice pi bs.length ci) (.slice (some ⟨go, 0, none⟩) bs.length co) (.slice (some ⟨w.heap.size + 1, 0, none⟩) bs.length bs.length) (.slice (some ⟨mk, ok, none⟩) l.length cw) (.slice (some ⟨w.heap.size + 1 + 1, 0, none⟩) bs.length bs.length)) ∧ Hid (BoxAt cx wx w3.heap.size [.slice cp code.length cc, .int .u8 kind, .int .i64 bx, .int .i64 tgt, .int .i64 els]) ∧ Hid (SetV wx m (.slice pu7 m cu7) (liveB ⟨code, kind, bx, tgt, els⟩ o kk)) ∧ Hid (∀ b, (Value.slice pu7 m cu7).ownBlock = some b → cx b = 6)) (fun s17 _ => (intOf s17 + 1).toNat)
              case atStart => exact ⟨_, code.length, c7, rfl, (show _ = _ by omega), by omega, by omega, HS7, HX7, HV7, HU7⟩
              case round =>
                obtain ⟨z, kk, c8, rfl, HZ, hz1, hz2', HS8, HX8, HV8, HU8⟩ := hrel
                obtain ⟨w8, rfl⟩ : ∃ W : World, W = wr := ⟨_, rfl⟩
                by_cases hz0 : 0 ≤ z
                · obtain ⟨q, rfl⟩ := Int.eq_ofNat_of_zero_le hz0
                  have hkk : kk = q + 1 := by have := HZ.out; omega
                  subst hkk
                  have hqc : q < code.length := by omega
                  have hbw8 : Below w.heap.size w w8 := HB0.out.trans (HS8.out.bel.mono (by omega))
                  obtain ⟨mi, oi, ci', e1, hmi, d0, d1, d2, d3, d4, d5⟩ := (HIB.out.below hbw8 (Nat.le_refl _)).at q hqc
                  have hiq := HSI.out q hqc
                  have hlv := liveB_at ⟨code, kind, bx, tgt, els⟩ o hqc
                  have hlt8 : liveB ⟨code, kind, bx, tgt, els⟩ o (q + 1) < 2 ^ R := foldr_lt _ (lastB_lt (n := bs.length) ⟨code, kind, bx, tgt, els⟩ hol HBO.out) (fun x hx => by
                    obtain ⟨y, hy, rfl⟩ := List.mem_iff_getElem.1 (List.mem_of_mem_drop hx)
                    have := HSI.out y hy
                    rwa [List.getD_eq_getElem?_getD, List.getElem?_eq_getElem hy] at this)
                  simp only at hlv
                  injection e1 with e1 e2 e3
                  subst e1 e3
                  obtain ⟨⟨op, dst, ix, iy, imm, sym⟩, hi⟩ : ∃ x, x = code.getD q default := ⟨_, rfl⟩
                  rw [← hi] at d0 d1 d2 d3 d4 d5 hiq hlv
                  simp only at d0 d1 d2 d3 d4 d5
                  have HLV := Lib.hid hlv
                  have HBA := Lib.hid (back_any m R _ op dst ix iy imm sym _ w8 hm1 hRm hlt8 hiq HV8.out)
                  have q0 := HX8.out.at 0 rfl
                  have hzx8 := HX8.out.lt
                  clear hi hlv hiq hlt8
                  go_wp2_with fail
                  refine HBA.out.mono ?_
                  rintro e w9 ⟨rfl, hs9, hg9⟩
                  have hT9 : Touch c8 6 w8 w9 := Touch.of_grown hg9 HU8.out
                  have HS9 := Lib.hid (HS8.out.touch6 hT9)
                  have HX9 := Lib.hid (HX8.out.other hT9 (by decide))
                  rw [← HLV.out] at hs9
                  have HV9 := Lib.hid hs9
                  have HU9 : Hid (∀ b, (Value.slice pu7 m cu7).ownBlock = some b → paint c8 w8.heap.size 6 b = 6) := fun b hb => paint_keep (HU8.out b hb)
                  clear HBA hs9 hg9 hT9 HS8 HX8 HV8 HU8 d0 d1 d2 d3 d4 d5 q0 hzx8 hmi hbw8
                  go_wp2_with fail
                  go_roundw
                  case rel => exact ⟨_, q, _, rfl, (show _ = _ by omega), by omega, by omega, HS9, HX9, HV9, HU9⟩
                  case measure => simp [intOf] <;> omega
                · skip
                  have hkk : kk = 0 := by have := HZ.out; omega
                  subst hkk
                  have HV0 : Hid (SetV w8 m (.slice pu7 m cu7) (trB ⟨code, kind, bx, tgt, els⟩ o)) := (show SetV _ _ _ _ by rw [← liveB_zero]; exact HV8.out)
                  have hvl := trB_lt (n := bs.length) ⟨code, kind, bx, tgt, els⟩ hol HBO.out
                  obtain ⟨gi, capi, pi', capi', e1, hi1, hi2, hi3, hi4, hi5, hi6⟩ := HS8.out.inn.get hin
                  injection e1 with e1 e2 e3
                  subst e1 e3
                  have HEQ := Lib.hid (sequal_any m _ _ _ _ w8 hm1 (pow_le hvl hRm) (pow_le (HIV.out.inn i hin) hRm) HV0.out hi5)
                  have HBE2 := Lib.hid (show trB (bs.getD i default) (joinB bs s.inn i (s.out i)) = trB ⟨code, kind, bx, tgt, els⟩ o by rw [HON.out, ← HBE.out])
                  clear hi5 hi6 HV8 HZ
                  by_cases heq : trB ⟨code, kind, bx, tgt, els⟩ o = s.inn i
                  · rw [decide_eq_true heq] at HEQ
                    have hst := HST.out
                    rw [if_pos (HBE2.out.trans heq), HON.out] at hst
                    have HST2 := Lib.hid hst
                    clear heq hst
                    go_wp2_with fail
                    refine HEQ.out.mono ?_
                    rintro e w9 ⟨rfl, hb9⟩
                    have HS9 := Lib.hid (HS8.out.below hb9)
                    clear HEQ hb9 HS8 HX8 HU8 HV0 hi1 hi2 hi3 hi4
                    go_wp2_with fail
                    go_roundg (gapV R bs.length (stepV bs s))
                    case measure => rw [HGP.out]; exact HGP2.out
                    case rel =>
                      refine ⟨kk0 + 1, stepV bs s, c8, ?_, HIV2, HIN.out.step, rfl, ?_⟩
                      · show _ = _
                        rw [iterV_next, HIT.out]
                      · rw [HST2.out]
                        exact HS9.out
                  · rw [decide_eq_false heq] at HEQ
                    have hst := HST.out
                    rw [if_neg (fun e => heq (HBE2.out.symm.trans e)), HON.out, show trB (bs.getD i default) o = trB ⟨code, kind, bx, tgt, els⟩ o by rw [← HBE.out]] at hst
                    have HST2 := Lib.hid hst
                    clear heq hst
                    go_wp2_with fail
                    refine HEQ.out.mono ?_
                    rintro e w9 ⟨rfl, hb9⟩
                    have h9 := HS8.out.below hb9
                    have hc9 := (hb9.cell (p := ⟨gi, i, none⟩) hi1).trans hi3
                    have hf9 := (hb9.frozen (p := ⟨gi, i, none⟩) hi1).trans hi4
                    have hz9 := hb9.size
                    have hgi9 : gi < w9.heap.size := by omega
                    have HS9 := Lib.hid h9
                    have HV9 := Lib.hid (HV0.out.below hb9 (Nat.le_refl _))
                    clear HEQ hb9 HS8 HX8 HV0 hi1 hi3 hi4 h9
                    go_upto_region 35 with fail
                    have hS10 := HS9.out.storeInn hin rfl HV9.out HU8.out
                    have HS10 := Lib.hid hS10
                    have hs10 : (w9.setCell ⟨gi, i, none⟩ (.slice pu7 m cu7)).heap.size = w9.heap.size := by simp [World.setCell]
                    clear hS10 HS9 HV9 HU8 hc9 hf9
                    generalize w9.setCell ⟨gi, i, none⟩ (.slice pu7 m cu7) = w10 at HS10 hs10 ⊢
                    have hz10 : w.heap.size < w10.heap.size := by have := HS10.out.big; omega
                    clear hs10 hgi9 hz9
                    obtain ⟨gp, capp, pp, capp', e1, hp1, hp2, hp3, hp4, hp5, hp6⟩ := HS10.out.prev.get hin
                    injection e1 with e1 e2 e3
                    injection e1 with e1
                    injection e1 with e1
                    subst e1 e3
                    have hplt := prevP_lt (bs := bs) (t := i)
                    have hpln := prevP_len bs i
                    have hst := HST2.out
                    obtain ⟨pl, hpl⟩ : ∃ l, l = prevP bs i := ⟨_, rfl⟩
                    simp only [← hpl, List.length_map] at hp3 hp5 hp6 hst
                    rw [← hpl] at hplt hpln
                    have HST3 := Lib.hid hst
                    have HPL := Lib.hid hplt
                    have HPV : Hid (IntsAt (repaint c8 6 1) 3 w10 (.slice pp pl.length capp') (pl.map Int.ofNat)) := ⟨by rw [List.length_map]; exact hp5, fun k hk => (hp6 k hk).1⟩
                    have hpin := HIN.out
                    rw [HWL.out] at hpin
                    have HPI := Lib.hid hpin.pop
                    have HLN : Hid (∀ x ∈ l, x < bs.length) := fun x hx => HIV.out.work x (by rw [HWL.out]; simp [hx])
                    clear hpl hst hplt hp5 hp6 hpin HST2 HST
                    go_wp2_with fail
                    go_loopw [6, 148] (fun s6 s148 wx => ∃ (j : Nat) (cx : Nat → Nat), s148 = .int .i64 j ∧ j ≤ pl.length ∧ Hid (SolAt (w.heap.size + 1) bs.length m W0 bs.length bs.length (upd s.inn i (trB ⟨code, kind, bx, tgt, els⟩ o)) (upd s.out i o) (fun t => (prevP bs t).map Int.ofNat) ((pushJ (upd s.wait i false) l pl j).2.map Int.ofNat) (pushJ (upd s.wait i false) l pl j).1 cx wx (.slice (some ⟨gi, 0, none⟩) bs.length ci) (.slice (some ⟨go, 0, none⟩) bs.length co) (.slice (some ⟨w.heap.size + 1, 0, none⟩) bs.length bs.length) s6 (.slice (some ⟨w.heap.size + 1 + 1, 0, none⟩) bs.length bs.length)) ∧ Hid (IntsAt cx 3 wx (.slice pp pl.length capp') (pl.map Int.ofNat))) (fun _ s148 _ => pl.length - (intOf s148).toNat)
                    case atStart => exact ⟨0, repaint c8 6 1, rfl, Nat.zero_le _, HS10.out, HPV⟩
                    case round =>
                      obtain ⟨j, c11, rfl, hj, HS11, HP11⟩ := hrel
                      obtain ⟨w11, rfl⟩ : ∃ W : World, W = wr := ⟨_, rfl⟩
                      obtain ⟨pw, cw11, hkv⟩ := HS11.out.work.shape
                      rw [List.length_map] at hkv
                      subst hkv
                      by_cases hlj : j < pl.length
                      · have hjI : (j : Int) < pl.length := by omega
                        obtain ⟨mu, ou, cu', e1, hmu, hcu⟩ := rdI_cell HP11.out.rd j (by rw [List.length_map]; exact hlj)
                        rw [List.length_map] at e1
                        injection e1 with e1 e2 e3
                        subst e1 e3
                        obtain ⟨x, hx⟩ : ∃ x, pl.getD j 0 = x := ⟨_, rfl⟩
                        have hxi : (pl.map Int.ofNat).getD j 0 = (x : Int) := by
                          rw [← hx, List.getD_eq_getElem?_getD, List.getD_eq_getElem?_getD, List.getElem?_map, List.getElem?_eq_getElem hlj]; rfl
                        rw [hxi] at hcu
                        have hxn : x < bs.length := HPL.out x (by rw [← hx, List.getD_eq_getElem?_getD, List.getElem?_eq_getElem hlj]; exact List.getElem_mem hlj)
                        have HPN := Lib.hid (pushJ_next (upd s.wait i false) l pl j x hlj hx)
                        have hsm := pushJ_small HPI.out HLN.out HPL.out j
                        obtain ⟨x1, x2, x3⟩ := HS11.out.wait.cell hxn
                        have hxI : (x : Int) < bs.length := by omega
                        clear hx hxi
                        obtain ⟨b, hb⟩ : ∃ b, b = (pushJ (upd s.wait i false) l pl j).1 x := ⟨_, rfl⟩
                        rw [← hb] at x1 HPN
                        cases b
                        · have hpn := HPN.out
                          rw [if_neg (by decide)] at hpn
                          have HPN2 := Lib.hid hpn
                          clear hpn HPN hb
                          go_upto_region 40 with fail
                          obtain ⟨hP5, hT5⟩ := HS11.out.wait.set x true
                          have hS5 := HS11.out.setWait (hP5.mono (fun q _ e => paint_keep e)) hT5
                          have hPX := HP11.out.other hT5 (by decide)
                          have hs12 : (w11.setCell ⟨w.heap.size + 1 + 1, x, none⟩ (.bool true)).heap.size = w11.heap.size := by simp [World.setCell]
                          have hmu12 : mu < (w11.setCell ⟨w.heap.size + 1 + 1, x, none⟩ (.bool true)).heap.size := by omega
                          have HS12 := Lib.hid hS5
                          have HP12 := Lib.hid hPX
                          clear hP5 hT5 hS5 hPX x1 x2 x3 HS11 HP11 hs12 hmu hcu
                          generalize w11.setCell ⟨w.heap.size + 1 + 1, x, none⟩ (.bool true) = w12 at HS12 HP12 hmu12 ⊢
                          have hbb : Below w12.heap.size w12 (w12.alloc (.cells #[.int .i64 x] 3)) := bAlloc (Nat.le_refl _) (Below.refl _ _)
                          have HBb := Lib.hid hbb
                          have hwk := HS12.out.work
                          generalize hq2 : (pushJ (upd s.wait i false) l pl j).2 = k2 at hsm hwk HPN2 HS12 ⊢
                          have ho := own0_block hwk.1 (w' := w12.alloc (.cells #[.int .i64 x] 3)) fun q hq => hbb.block q (own0_lt hwk.1 hq)
                          rw [List.length_map] at ho
                          have HO := Lib.hid ho
                          clear hbb hwk ho hq2
                          go_wp2_with (first | (at_builtin; refine wpList_append_cell rfl _ _ 46 3 (.int .i64 0) 8 rfl Tryd.underlying46 infoI rfl (by decide) 0 (.slice pw k2.length cw11) k2.length _ rfl HO.out w12.heap.size 1 (.int .i64 x) rfl (by simp [go_sem]) rfl (by omega) (Nat.zero_le _) ?_))
                          intro p6 c6 w13 hO3 hgr3 hd3
                          obtain ⟨hP4, hT4⟩ := HS12.out.work.push (v' := .slice p6 (k2.length + 1) c6) (y := (x : Int)) HBb.out hgr3 (by rw [List.length_map, List.map_map]; exact hO3) (hd3.imp id fun h q e => by have := h q e; simp; omega)
                          have HS13 := Lib.hid (HS12.out.setWork hP4 hT4)
                          have HP13 := Lib.hid (HP12.out.other hT4 (by decide))
                          clear hO3 hgr3 hd3 hP4 hT4 HO HBb HS12 HP12
                          go_wp2_with fail
                          go_roundw
                          case rel =>
                            refine ⟨j + 1, _, by go_num, by omega, ?_, HP13⟩
                            rw [HPN2.out]
                            have h := HS13.out
                            rw [show k2.map Int.ofNat ++ [(x : Int)] = (k2 ++ [x]).map Int.ofNat by rw [List.map_append]; rfl] at h
                            exact h
                          case measure => simp [intOf]; omega
                        · have hpn := HPN.out
                          rw [if_pos rfl] at hpn
                          have HPN2 := Lib.hid hpn
                          clear hpn HPN hb
                          go_wp2_with fail
                          go_roundw
                          case rel => exact ⟨j + 1, c11, by go_num, by omega, (by rw [HPN2.out]; exact HS11), HP11⟩
                          case measure => simp [intOf]; omega
                      · have hjl : j = pl.length := by omega
                        subst hjl
                        go_wp2_with fail
                        go_roundg (gapV R bs.length (stepV bs s))
                        case measure => rw [HGP.out]; exact HGP2.out
                        case rel =>
                          refine ⟨kk0 + 1, stepV bs s, c11, ?_, HIV2, HIN.out.step, rfl, ?_⟩
                          · show _ = _
                            rw [iterV_next, HIT.out]
                          · have h := HS11.out
                            rw [pushJ_end] at h
                            rw [HST3.out]
                            rw [pushJ_end]
                            exact h
end Go.Proofs.YtifjcknklecdbaaDoor
