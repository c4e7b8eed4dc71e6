/- ir.Run: the success path. -/
import Derived.Test.YtifjcknklecdbaaDoorRunK
import Derived.Test.YtifjcknklecdbaaDoorMs38
set_option linter.unusedVariables false
set_option linter.unusedSimpArgs false
namespace Go.Proofs.YtifjcknklecdbaaDoor
open Go.RowKit Go.Maps Go.WideMaps

theorem infoI32 : (Tryd.prog.info? 21).map (fun i => (i.zero, i.size, i.bytes)) = some (some (.int .i32 0), 1, 4) := by kernel_rfl
theorem infoSl : (Tryd.prog.info? 27).map (fun i => (i.zero, i.size, i.bytes)) = some (some (.slice none 0 0), 1, 24) := by kernel_rfl
theorem run_make_i32 (n : Nat) (hn : n ≤ 100000) (w : World) : (Instr.makeSlice 27 (.int .i64 (n : Int)) (.int .i64 (n : Int))).run Tryd.prog w = .ok (.slice (some ⟨w.heap.size, 0, none⟩) n n) (w.alloc (.cells (madeCells #[.int .i32 0] n) 21)) := by
  obtain ⟨i, hi, hz, hs, hb⟩ := info_parts infoI32
  have hr := run_make (P := Tryd.prog) w 27 21 i (.int .i32 0) Tryd.underlying27 hi hz .i64 .i64 n (n : Int) (by omega) (by omega) (by rw [hb]; omega) (by omega)
  simp only [Int.toNat_natCast, hs, Value.cells, Nat.mul_one] at hr
  exact hr

/-- What a run leaves. -/
def RunPost (fuel na no : Nat) (r : RS × Nat × Int) (w : World) (e : Ending) (w' : World) : Prop :=
  ∃ va vo xo, e = .returned (.agg #[va, vo, xo, .int .i64 r.1.read, .int .i64 ((fuel : Int) - r.2.1), .int .i64 r.2.2]) ∧ RdR32 w' va ((List.range na).map r.1.mem) ∧ RdR32 w' vo ((List.range no).map fun k => r.1.mem (na + k)) ∧ RdOut w' xo r.1.out ∧ Below w.heap.size w w' ∧ (∀ k, k < na + no → (r.1.mem k).length ≤ maxLen) ∧ r.1.out.length ≤ maxLen

set_option maxHeartbeats 6400000 in
set_option maxRecDepth 20000 in
theorem run_yes {w : World} {av bv sv lv ov iv : Value} {A S : List Arr} {bs : List IBlk} {ls os : List (List Int)} {inp : List Int} (h : RunIn w av bv sv lv ov iv A S bs ls os inp) (nm : ByteArray) (R : Nat) (hR : R ≤ 100000) (hn : A.length + S.length ≤ 1000) (fuel : Nat) (hfu : fuel ≤ 1000) (hv : vFun R A S bs = true) (hlA : lensOk A ls) (hlS : lensOk S os) (hl32 : ∀ k, (ls.getD k []).length ≤ 35184372087808) (ho32 : ∀ k, (os.getD k []).length ≤ 35184372087808) :
    Calls Tryd.prog 8 #[.agg #[.string nm, .int .i64 R, av, bv], sv, lv, ov, iv, .int .i64 fuel] w (RunPost fuel A.length S.length (runR apW (idxN A S) inp bs fuel 0 0 (startR R (memL ls os A.length))) w) := by
  obtain ⟨ap, ac, rfl⟩ := h.a.shape
  obtain ⟨bp, bc, rfl⟩ := h.b.shape
  obtain ⟨sp, sc, rfl⟩ := h.s.shape
  obtain ⟨lp, lc, rfl⟩ := h.l.shape
  obtain ⟨op, oc, rfl⟩ := h.o.shape
  obtain ⟨ip, ic, rfl⟩ := h.i.shape
  have hmk := run_make_i32 R (by omega)
  have hmm := @run_makeMap Tryd.prog
  have H := Lib.hid h
  have HV := Lib.hid hv
  have HLA := Lib.hid hlA
  have HLS := Lib.hid hlS
  clear h hv hlA hlS
  generalize hs : startR R (memL ls os A.length) = s
  generalize hr : runR apW (idxN A S) inp bs fuel 0 0 s = r
  have HS := Lib.hid hs
  have HR := Lib.hid hr
  clear hs hr
  go_enter Tryd.func8, Tryd.ntmps8
  go_wp2_with fail
  have hb1 : Below w.heap.size w ((w.alloc (.cells #[.string nm, .int .i64 R, .slice ap A.length ac, .slice bp bs.length bc] 25)).alloc (.cells #[.slice none 0 0, .slice none 0 0, .slice none 0 0, .int .i64 0, .int .i64 0, .int .i64 0] 39)) := bAlloc (by simp) (bAlloc (Nat.le_refl _) (Below.refl _ _))
  have h1 := H.out.below hb1 (Nat.le_refl _)
  refine (irValid_any nm R _ _ _ A S bs _ h1.a h1.s h1.b h1.ok h1.al h1.sl h1.bl h1.cl).mono ?_
  rintro e w2 ⟨rfl, hb2⟩
  have hrow0 : ((w.alloc (.cells #[.string nm, .int .i64 R, .slice ap A.length ac, .slice bp bs.length bc] 25)).alloc (.cells #[.slice none 0 0, .slice none 0 0, .slice none 0 0, .int .i64 0, .int .i64 0, .int .i64 0] 39)).cell? ⟨w.heap.size, 2, none⟩ = some (.slice ap A.length ac) := by simp [go_sem]
  have hrow1 : ((w.alloc (.cells #[.string nm, .int .i64 R, .slice ap A.length ac, .slice bp bs.length bc] 25)).alloc (.cells #[.slice none 0 0, .slice none 0 0, .slice none 0 0, .int .i64 0, .int .i64 0, .int .i64 0] 39)).cell? ⟨w.heap.size, 3, none⟩ = some (.slice bp bs.length bc) := by simp [go_sem]
  have hrow3 : ((w.alloc (.cells #[.string nm, .int .i64 R, .slice ap A.length ac, .slice bp bs.length bc] 25)).alloc (.cells #[.slice none 0 0, .slice none 0 0, .slice none 0 0, .int .i64 0, .int .i64 0, .int .i64 0] 39)).cell? ⟨w.heap.size, 1, none⟩ = some (.int .i64 R) := by simp [go_sem]
  have c2 := (hb2.cell (p := ⟨w.heap.size, 2, none⟩) (by simp; omega)).trans hrow0
  have c3 := (hb2.cell (p := ⟨w.heap.size, 3, none⟩) (by simp; omega)).trans hrow1
  have c1 := (hb2.cell (p := ⟨w.heap.size, 1, none⟩) (by simp; omega)).trans hrow3
  have HB2 := Lib.hid (hb1.trans (hb2.mono hb1.size))
  have hl2 : w.heap.size + 1 < w2.heap.size := by have := hb2.size; simp at this; omega
  have hk0 : ((w.alloc (.cells #[.string nm, .int .i64 R, .slice ap A.length ac, .slice bp bs.length bc] 25)).alloc (.cells #[.slice none 0 0, .slice none 0 0, .slice none 0 0, .int .i64 0, .int .i64 0, .int .i64 0] 39)).heap[w.heap.size]? = some (.cells #[.string nm, .int .i64 R, .slice ap A.length ac, .slice bp bs.length bc] 25) := ((bAlloc (B := w.heap.size + 1) (by simp) (Below.refl _ _)).block w.heap.size (by omega)).trans (heap_alloc_new w _)
  have hk1 := heap_second w (.cells #[.string nm, .int .i64 R, .slice ap A.length ac, .slice bp bs.length bc] 25) (.cells #[.slice none 0 0, .slice none 0 0, .slice none 0 0, .int .i64 0, .int .i64 0, .int .i64 0] 39)
  have HBK := Lib.hid (And.intro ((hb2.block w.heap.size (by simp; omega)).trans hk0) ((hb2.block (w.heap.size + 1) (by simp)).trans hk1))
  clear hrow0 hrow1 hrow3 hb2 h1 hb1 hk0 hk1
  rw [HV.out]
  have M1 := Lib.hid (match_any _ _ A ls w2 (H.out.below HB2.out (Nat.le_refl _)).a (H.out.below HB2.out (Nat.le_refl _)).l H.out.al H.out.ll)
  go_wp2_with fail
  refine M1.out.mono ?_
  clear M1
  rintro e w3 ⟨r1, rfl, hr1, hb3⟩
  obtain rfl : r1 = true := hr1.2 HLA.out
  clear hr1
  have HB3 := Lib.hid (HB2.out.trans (hb3.mono HB2.out.size))
  have hl3 : w.heap.size + 1 < w3.heap.size := Nat.lt_of_lt_of_le hl2 hb3.size
  have d1 := (hb3.cell (p := ⟨w.heap.size, 1, none⟩) (by show w.heap.size < _; omega)).trans c1
  have d2 := (hb3.cell (p := ⟨w.heap.size, 2, none⟩) (by show w.heap.size < _; omega)).trans c2
  have d3 := (hb3.cell (p := ⟨w.heap.size, 3, none⟩) (by show w.heap.size < _; omega)).trans c3
  have HBK3 := Lib.hid (And.intro ((hb3.block w.heap.size (by omega)).trans HBK.out.1) ((hb3.block (w.heap.size + 1) (by omega)).trans HBK.out.2))
  clear HB2 hl2 c1 c2 c3 hb3 HBK
  have M2 := Lib.hid (match_any _ _ S os w3 (H.out.below HB3.out (Nat.le_refl _)).s (H.out.below HB3.out (Nat.le_refl _)).o (by have := H.out.sl; omega) H.out.ol)
  go_wp2_with fail
  refine M2.out.mono ?_
  clear M2
  rintro e w4 ⟨r2, rfl, hr2, hb4⟩
  obtain rfl : r2 = true := hr2.2 HLS.out
  clear hr2
  have HB4 := Lib.hid (HB3.out.trans (hb4.mono HB3.out.size))
  have hl4 : w.heap.size + 1 < w4.heap.size := Nat.lt_of_lt_of_le hl3 hb4.size
  have e1 := (hb4.cell (p := ⟨w.heap.size, 1, none⟩) (by show w.heap.size < _; omega)).trans d1
  have e2 := (hb4.cell (p := ⟨w.heap.size, 2, none⟩) (by show w.heap.size < _; omega)).trans d2
  have e3 := (hb4.cell (p := ⟨w.heap.size, 3, none⟩) (by show w.heap.size < _; omega)).trans d3
  have HBK := Lib.hid (And.intro ((hb4.block w.heap.size (by omega)).trans HBK3.out.1) ((hb4.block (w.heap.size + 1) (by omega)).trans HBK3.out.2))
  clear HB3 hl3 d1 d2 d3 hb4 HBK3
  have LB := LpRel.begin w4 R hR (.slice ip inp.length ic) inp (H.out.below HB4.out (Nat.le_refl _)).i (idxN A S) (memL ls os A.length)
  rw [HS.out] at LB
  have HL32 := Lib.hid hl32
  have HO32 := Lib.hid ho32
  clear hl32 ho32
  have hb5 : Below w4.heap.size w4 (((((w4.alloc (.cells (madeCells #[.int .i32 0] R) 21)).alloc (.map #[] 0)).alloc (.cells #[.slice (some ⟨w4.heap.size, 0, none⟩) R R, .int .i32 0, .int .i32 0, .int .i32 0, .int .i32 0, .map (some (w4.heap.size + 1)), .bool false, .string ⟨#[]⟩, .slice ip inp.length ic, .slice none 0 0, .int .i64 0] 73)).alloc (.cells #[.slice none 0 0, .slice none 0 0, .slice none 0 0, .int .i64 0, .int .i64 0, .int .i64 0] 39))) := bAlloc (by simp; omega) (bAlloc (by simp; omega) (bAlloc (by simp) (bAlloc (Nat.le_refl _) (Below.refl _ _))))
  have f2 := (hb5.cell (p := ⟨w.heap.size, 2, none⟩) (by show w.heap.size < _; omega)).trans e2
  have f3 := (hb5.cell (p := ⟨w.heap.size, 3, none⟩) (by show w.heap.size < _; omega)).trans e3
  have HLB := Lib.hid LB
  have HB5 := Lib.hid hb5
  clear LB hb5
  go_wp2_with fail
  go_loopw [47] (fun s47 wx => ∃ k : Nat, s47 = .int .i64 k ∧ k ≤ A.length ∧ Hid (∃ V F, (∀ j, j < k → F (nmN A S j) = some (V j)) ∧ LpRel (qL w4 R (.slice ip inp.length ic) inp (idxN A S) (k) (k) V F) [] (w4.heap.size + 3) k 0 s wx)) (fun s47 _ => A.length - (intOf s47).toNat)
  case atStart => exact ⟨0, rfl, Nat.zero_le _, _, _, fun j hj => absurd hj (Nat.not_lt_zero j), HLB.out⟩
  case round =>
    clear HLB f2 f3 e2 HB5
    obtain ⟨k, rfl, hk, HE⟩ := hrel
    obtain ⟨w5, rfl⟩ : ∃ W : World, W = wr := ⟨_, rfl⟩
    obtain ⟨V, F, hF, hL⟩ := HE.out
    have HF := Lib.hid hF
    have HL := Lib.hid hL
    clear hF hL HE
    by_cases hlt : k < A.length
    · skip
      have hltI : (k : Int) < A.length := by omega
      have hb5 : Below w.heap.size w w5 := HB4.out.trans ((show Below w4.heap.size w4 w5 by obtain ⟨_, _, _, _, hx⟩ := HL.out; exact hx.run.x.bel).mono HB4.out.size)
      have H5 := Lib.hid (H.out.below hb5 (Nat.le_refl _))
      clear hb5
      obtain ⟨ap', ac', e, ha⟩ := H5.out.a
      cases e
      obtain ⟨m, off, rfl, hm, g0, g1⟩ := ha k hlt
      clear ha
      obtain ⟨ar, har⟩ : ∃ x, x = A.getD k default := ⟨_, rfl⟩
      rw [← har] at g0 g1
      have HAR := Lib.hid har
      clear har
      go_upto_region 8 with fail
      have HL6 := Lib.hid (HL.out.made [.string ar.1, .int .i64 ar.2] 56)
      have H6 := Lib.hid (H5.out.below (bAlloc (o := .cells #[.string ar.1, .int .i64 ar.2] 56) (Nat.le_refl _) (Below.refl _ _)) (Nat.le_refl _))
      have sbx : w5.heap.size < (w5.alloc (.cells #[.string ar.1, .int .i64 ar.2] 56)).heap.size := by simp
      change Hid (LpRel _ _ _ _ _ _ (w5.alloc (.cells #[.string ar.1, .int .i64 ar.2] 56))) at HL6
      generalize hbx : w5.heap.size = bx at HL6 sbx ⊢
      generalize w5.alloc (.cells #[.string ar.1, .int .i64 ar.2] 56) = w6 at HL6 H6 sbx ⊢
      clear HL H5 g0 g1 hm hbx
      obtain ⟨col, ov, va, vo, hL⟩ := HL6.out
      have r0 := hL.row.at 0 rfl
      have rf := hL.fz 0
      have rl := hL.row.lt
      obtain ⟨vp, vc, rfl⟩ := hL.arr.shape
      have HLA6 := Lib.hid hL
      clear hL HL6
      obtain ⟨lp', lc', e, hl⟩ := H6.out.l
      cases e
      obtain ⟨m2, off2, q2, c2, rfl, hm2, u0, hrd⟩ := hl k (by have := HLA.out.1; omega)
      clear hl
      have hx : s.mem (k) = ls.getD k [] := by
        rw [← HS.out]
        exact if_pos hlt
      have hxl := HL32.out k
      rw [← hx] at u0 hrd hxl
      generalize hml : s.mem (k) = ml at u0 hrd hxl
      have HML := Lib.hid hml
      have HCL := Lib.hid (clone_any _ ml w6.drew (hrd.below (Below.refl _ _).drew (Nat.le_refl _)) hxl)
      clear hrd hxl hx hml
      have hal := H6.out.al
      have hkl : k < ls.length := by have := HLA.out.1; omega
      have hkI : (k : Int) < ls.length := by omega
      go_region_law (first | (refine step_append_els rfl _ _ 26 27 _ 1 24 rfl Tryd.underlying26 infoSl rfl (by decide) (by decide) _ k ((List.range k).map V) rfl (HO.out _) xA.heap.size 1 [.slice vp' ml.length vc'] rfl rfl (RowC2.made xA [.slice vp' ml.length vc'] 27).2 (by simp [Value.oneCell']) (by omega) ?_; intro p c' x7 hO hgr hd; obtain ⟨⟨c7, f7, l7⟩, hK⟩ := HLA6.out.addArr HBA.out (by rw [HML.out]; exact HVA.out) (bAlloc (Nat.le_refl _) (Below.refl _ _)) hgr hO hd; have HK := Lib.hid hK; clear hK) | (go_simp; go_at_call 17; refine HCL.out.mono ?_; rintro e xA ⟨v', rfl, hv', hbA⟩; have hC : OwnC 21 1 (fun _ => 0) 0 xA v' ml.length (ml.map (.int .i32)) := ⟨own0_of hv', fun _ _ => rfl⟩; obtain ⟨vp', vc', rfl⟩ := hC.shape; clear hC; have HVA := Lib.hid hv'; have hbB : Below w6.heap.size w6 xA := (Below.drew (Below.refl _ _)).trans hbA; have HBA := Lib.hid hbB; have q0 := (hbB.cell (p := ⟨w4.heap.size + 3, 0, none⟩) rl).trans r0; have qf := (World.frozen?_of_block (a := ⟨w4.heap.size + 3, 0, none⟩) (hbB.block _ rl)).trans rf; have ql := Nat.lt_of_lt_of_le rl hbB.size; have HO := Lib.hid (fun o : Obj => (HLA6.out.keep (hbB.trans (bAlloc (o := o) hbB.size (Below.refl _ _)))).arr.1); clear hv' hbA hbB))
      all_goals (
        change Hid (LpRel (qL w4 R (.slice ip inp.length ic) inp (idxN A S) (k) (k + 1) (upd V (k) (.slice vp' ml.length vc')) F) [(bx, [.string ar.1, .int .i64 ar.2])] (w4.heap.size + 3) (k + 1) 0 s (x7.setCell ⟨w4.heap.size + 1 + 1 + 1, 0, none⟩ (.slice p (k + 1) c'))) at HK
        generalize x7.setCell _ _ = w8 at HK ⊢
        clear q0 qf ql HO HVA HBA HCL u0 hm2 HLA6 r0 rf rl sbx H6 hO hgr hd c7 f7 l7
        have hsz : ar.1.size ≤ maxLen := by rw [HAR.out]; exact H.out.ok.a k hlt
        obtain ⟨col8, ov8, va8, vo8, h8⟩ := HK.out
        have hmp := h8.run.x.mp
        have t0 : w8.cell? ⟨w4.heap.size + 1 + 1, 5, none⟩ = some (.map (some (w4.heap.size + 1))) := h8.run.box.row.at 5 (boxL_more h8.run.lc 0)
        have tl : w4.heap.size + 1 + 1 < w8.heap.size := h8.run.box.lt
        have b0 : w8.cell? ⟨bx, 0, none⟩ = some (.string ar.1) := (h8.run.x.rows _ List.mem_cons_self).1.at 0 rfl
        have bl : bx < w8.heap.size := (h8.run.x.rows _ List.mem_cons_self).1.lt
        have a0' : w8.cell? ⟨w4.heap.size + 1 + 1 + 1, 0, none⟩ = some va8 := h8.row.at 0 rfl
        have al : w4.heap.size + 1 + 1 + 1 < w8.heap.size := h8.row.lt
        obtain ⟨g8, c8, rfl, gl, -, gx, -⟩ := h8.arr.cell (j := k) (by omega)
        have g0 : w8.cell? ⟨g8, k, none⟩ = some (.slice vp' ml.length vc') := gx.trans (by rw [List.getElem?_map, List.getElem?_range (by omega)]; exact congrArg some (upd_same V k _))
        obtain ⟨kn, hkn⟩ : ∃ n, n = k + 1 := ⟨_, rfl⟩
        have a0 : w8.cell? ⟨w4.heap.size + 1 + 1 + 1, 0, none⟩ = some (.slice (some ⟨g8, 0, none⟩) kn c8) := by rw [hkn]; exact a0'
        have hk1 : (k : Int) < kn := by omega
        have H8 := Lib.hid h8
        have hmp2 : MpAt w8.drew (w4.heap.size + 1) (k) F := hmp.of_block rfl
        clear gx h8 HK a0' hkn hmp
        go_upto_region 9 with fail
        go_still_tail 11, (by kernel_rfl)
        go_wp2_with (first | (at_mapUpdate; refine wpList_put_mp rfl _ _ _ 70 27 rfl Tryd.underlying70 (w4.heap.size + 1) (k) F hmp2 rfl ar.1 rfl hsz (by omega) (.slice vp' ml.length vc') rfl ?_))
        intro w9 hm9 hg9
        have h9 := (H8.out.addName hm9 ⟨hg9.os, hg9.tape, hg9.output, hg9.size, hg9.block⟩).drop
        have HR9 : Hid (LpRel (qL w4 R (.slice ip inp.length ic) inp (idxN A S) (k + 1) (k + 1) (upd V (k) (.slice vp' ml.length vc')) (updF F ar.1 (.slice vp' ml.length vc'))) [] (w4.heap.size + 3) (k + 1) 0 s w9) := Lib.hid h9
        have hF9 := nm_step HV.out (k := k) (by omega) HF.out (.slice vp' ml.length vc')
        rw [nmN_a A S hlt, ← HAR.out] at hF9
        have HF9 := Lib.hid hF9
        clear hF9 h9 hm9 hg9 H8 hmp2 t0 tl b0 bl a0 al g0 gl hk1
        go_wp2_with fail
        go_roundw
        case rel => exact ⟨k + 1, rfl, by omega, _, _, HF9.out, HR9.out⟩
        case measure => simp only [intOf]; omega)
    · skip
      obtain rfl : k = A.length := by omega
      clear hk hlt
      go_wp2_with fail
      go_loopw [76] (fun s76 wx => ∃ k : Nat, s76 = .int .i64 k ∧ k ≤ S.length ∧ Hid (∃ V F, (∀ j, j < A.length + k → F (nmN A S j) = some (V j)) ∧ LpRel (qL w4 R (.slice ip inp.length ic) inp (idxN A S) (A.length + k) (A.length + k) V F) [] (w4.heap.size + 3) A.length k s wx)) (fun s76 _ => S.length - (intOf s76).toNat)
      case atStart => exact ⟨0, rfl, Nat.zero_le _, _, _, HF.out, HL.out⟩
      case round =>
        clear HF HL V F w5
        obtain ⟨k, rfl, hk, HE⟩ := hrel
        obtain ⟨w5, rfl⟩ : ∃ W : World, W = wr := ⟨_, rfl⟩
        obtain ⟨V, F, hF, hL⟩ := HE.out
        have HF := Lib.hid hF
        have HL := Lib.hid hL
        clear hF hL HE
        by_cases hlt : k < S.length
        · skip
          have hltI : (k : Int) < S.length := by omega
          have hb5 : Below w.heap.size w w5 := HB4.out.trans ((show Below w4.heap.size w4 w5 by obtain ⟨_, _, _, _, hx⟩ := HL.out; exact hx.run.x.bel).mono HB4.out.size)
          have H5 := Lib.hid (H.out.below hb5 (Nat.le_refl _))
          clear hb5
          obtain ⟨ap', ac', e, ha⟩ := H5.out.s
          cases e
          obtain ⟨m, off, rfl, hm, g0, g1⟩ := ha k hlt
          clear ha
          obtain ⟨ar, har⟩ : ∃ x, x = S.getD k default := ⟨_, rfl⟩
          rw [← har] at g0 g1
          have HAR := Lib.hid har
          clear har
          go_upto_region 14 with fail
          have HL6 := Lib.hid (HL.out.made [.string ar.1, .int .i64 ar.2] 56)
          have H6 := Lib.hid (H5.out.below (bAlloc (o := .cells #[.string ar.1, .int .i64 ar.2] 56) (Nat.le_refl _) (Below.refl _ _)) (Nat.le_refl _))
          have sbx : w5.heap.size < (w5.alloc (.cells #[.string ar.1, .int .i64 ar.2] 56)).heap.size := by simp
          change Hid (LpRel _ _ _ _ _ _ (w5.alloc (.cells #[.string ar.1, .int .i64 ar.2] 56))) at HL6
          generalize hbx : w5.heap.size = bx at HL6 sbx ⊢
          generalize w5.alloc (.cells #[.string ar.1, .int .i64 ar.2] 56) = w6 at HL6 H6 sbx ⊢
          clear HL H5 g0 g1 hm hbx
          obtain ⟨col, ov, va, vo, hL⟩ := HL6.out
          have r0 := hL.row.at 1 rfl
          have rf := hL.fz 1
          have rl := hL.row.lt
          obtain ⟨vp, vc, rfl⟩ := hL.obj.shape
          have HLA6 := Lib.hid hL
          clear hL HL6
          obtain ⟨lp', lc', e, hl⟩ := H6.out.o
          cases e
          obtain ⟨m2, off2, q2, c2, rfl, hm2, u0, hrd⟩ := hl k (by have := HLS.out.1; omega)
          clear hl
          have hx : s.mem (A.length + k) = os.getD k [] := by
            rw [← HS.out]
            show memL ls os A.length (A.length + k) = _; unfold memL; rw [if_neg (by omega), Nat.add_sub_cancel_left]
          have hxl := HO32.out k
          rw [← hx] at u0 hrd hxl
          generalize hml : s.mem (A.length + k) = ml at u0 hrd hxl
          have HML := Lib.hid hml
          have HCL := Lib.hid (clone_any _ ml w6.drew (hrd.below (Below.refl _ _).drew (Nat.le_refl _)) hxl)
          clear hrd hxl hx hml
          have hal := H6.out.al
          have hkl : k < os.length := by have := HLS.out.1; omega
          have hkI : (k : Int) < os.length := by omega
          go_region_law (first | (refine step_append_els rfl _ _ 26 27 _ 1 24 rfl Tryd.underlying26 infoSl rfl (by decide) (by decide) _ k ((List.range k).map fun j => V (A.length + j)) rfl (HO.out _) xA.heap.size 1 [.slice vp' ml.length vc'] rfl rfl (RowC2.made xA [.slice vp' ml.length vc'] 27).2 (by simp [Value.oneCell']) (by omega) ?_; intro p c' x7 hO hgr hd; obtain ⟨⟨c7, f7, l7⟩, hK⟩ := HLA6.out.addObj HBA.out (by rw [HML.out]; exact HVA.out) (bAlloc (Nat.le_refl _) (Below.refl _ _)) hgr hO hd; have HK := Lib.hid hK; clear hK) | (go_simp; go_at_call 17; refine HCL.out.mono ?_; rintro e xA ⟨v', rfl, hv', hbA⟩; have hC : OwnC 21 1 (fun _ => 0) 0 xA v' ml.length (ml.map (.int .i32)) := ⟨own0_of hv', fun _ _ => rfl⟩; obtain ⟨vp', vc', rfl⟩ := hC.shape; clear hC; have HVA := Lib.hid hv'; have hbB : Below w6.heap.size w6 xA := (Below.drew (Below.refl _ _)).trans hbA; have HBA := Lib.hid hbB; have q0 := (hbB.cell (p := ⟨w4.heap.size + 3, 1, none⟩) rl).trans r0; have qf := (World.frozen?_of_block (a := ⟨w4.heap.size + 3, 1, none⟩) (hbB.block _ rl)).trans rf; have ql := Nat.lt_of_lt_of_le rl hbB.size; have HO := Lib.hid (fun o : Obj => (HLA6.out.keep (hbB.trans (bAlloc (o := o) hbB.size (Below.refl _ _)))).obj.1); clear hv' hbA hbB))
          all_goals (
            change Hid (LpRel (qL w4 R (.slice ip inp.length ic) inp (idxN A S) (A.length + k) (A.length + (k + 1)) (upd V (A.length + k) (.slice vp' ml.length vc')) F) [(bx, [.string ar.1, .int .i64 ar.2])] (w4.heap.size + 3) A.length (k + 1) s (x7.setCell ⟨w4.heap.size + 1 + 1 + 1, 1, none⟩ (.slice p (k + 1) c'))) at HK
            generalize x7.setCell _ _ = w8 at HK ⊢
            clear q0 qf ql HO HVA HBA HCL u0 hm2 HLA6 r0 rf rl sbx H6 hO hgr hd c7 f7 l7
            have hsz : ar.1.size ≤ maxLen := by rw [HAR.out]; exact H.out.ok.s k hlt
            obtain ⟨col8, ov8, va8, vo8, h8⟩ := HK.out
            have hmp := h8.run.x.mp
            have t0 : w8.cell? ⟨w4.heap.size + 1 + 1, 5, none⟩ = some (.map (some (w4.heap.size + 1))) := h8.run.box.row.at 5 (boxL_more h8.run.lc 0)
            have tl : w4.heap.size + 1 + 1 < w8.heap.size := h8.run.box.lt
            have b0 : w8.cell? ⟨bx, 0, none⟩ = some (.string ar.1) := (h8.run.x.rows _ List.mem_cons_self).1.at 0 rfl
            have bl : bx < w8.heap.size := (h8.run.x.rows _ List.mem_cons_self).1.lt
            have a0' : w8.cell? ⟨w4.heap.size + 1 + 1 + 1, 1, none⟩ = some vo8 := h8.row.at 1 rfl
            have al : w4.heap.size + 1 + 1 + 1 < w8.heap.size := h8.row.lt
            obtain ⟨g8, c8, rfl, gl, -, gx, -⟩ := h8.obj.cell (j := k) (by omega)
            have g0 : w8.cell? ⟨g8, k, none⟩ = some (.slice vp' ml.length vc') := gx.trans (by rw [List.getElem?_map, List.getElem?_range (by omega)]; exact congrArg some (upd_same V (A.length + k) _))
            obtain ⟨kn, hkn⟩ : ∃ n, n = k + 1 := ⟨_, rfl⟩
            have a0 : w8.cell? ⟨w4.heap.size + 1 + 1 + 1, 1, none⟩ = some (.slice (some ⟨g8, 0, none⟩) kn c8) := by rw [hkn]; exact a0'
            have hk1 : (k : Int) < kn := by omega
            have H8 := Lib.hid h8
            have hmp2 : MpAt w8.drew (w4.heap.size + 1) (A.length + k) F := hmp.of_block rfl
            clear gx h8 HK a0' hkn hmp
            go_upto_region 15 with fail
            go_still_tail 11, (by kernel_rfl)
            go_wp2_with (first | (at_mapUpdate; refine wpList_put_mp rfl _ _ _ 70 27 rfl Tryd.underlying70 (w4.heap.size + 1) (A.length + k) F hmp2 rfl ar.1 rfl hsz (by omega) (.slice vp' ml.length vc') rfl ?_))
            intro w9 hm9 hg9
            have h9 := (H8.out.addName hm9 ⟨hg9.os, hg9.tape, hg9.output, hg9.size, hg9.block⟩).drop
            have HR9 : Hid (LpRel (qL w4 R (.slice ip inp.length ic) inp (idxN A S) (A.length + (k + 1)) (A.length + (k + 1)) (upd V (A.length + k) (.slice vp' ml.length vc')) (updF F ar.1 (.slice vp' ml.length vc'))) [] (w4.heap.size + 3) A.length (k + 1) s w9) := Lib.hid h9
            have hF9 := nm_step HV.out (k := A.length + k) (by omega) HF.out (.slice vp' ml.length vc')
            rw [nmN_s, ← HAR.out] at hF9
            have HF9 := Lib.hid hF9
            clear hF9 h9 hm9 hg9 H8 hmp2 t0 tl b0 bl a0 al g0 gl hk1
            go_wp2_with fail
            go_roundw
            case rel => exact ⟨k + 1, rfl, by omega, _, _, HF9.out, HR9.out⟩
            case measure => simp only [intOf]; omega)
        · skip
          obtain rfl : k = S.length := by omega
          clear hk hlt
          have hbl := HL.out.bel
          have hsz5 := hbl.size
          change w4.heap.size ≤ w5.heap.size at hsz5
          have hbk0 := (hbl.block w.heap.size (by show w.heap.size < w4.heap.size; omega)).trans HBK.out.1
          have hbk1 := (hbl.block (w.heap.size + 1) (by show w.heap.size + 1 < w4.heap.size; omega)).trans HBK.out.2
          have u0 : w5.cell? ⟨w.heap.size, 0, none⟩ = some (.string nm) := by simp [World.cell?, hbk0]
          have u1 : w5.cell? ⟨w.heap.size, 1, none⟩ = some (.int .i64 R) := by simp [World.cell?, hbk0]
          have u2 : w5.cell? ⟨w.heap.size, 2, none⟩ = some (.slice ap A.length ac) := by simp [World.cell?, hbk0]
          have u3 : w5.cell? ⟨w.heap.size, 3, none⟩ = some (.slice bp bs.length bc) := by simp [World.cell?, hbk0]
          have ul : w.heap.size < w5.heap.size := by omega
          obtain ⟨va, vo, Lx, hrun, hnm, hLx, hrd⟩ := HL.out.run
          have HLX := Lib.hid hLx
          obtain ⟨⟨vap, vac, rfl, -⟩, ⟨vop, voc, rfl, -⟩⟩ := hrd w5 (fun p hp => hrun.at (b := p.1) (cs := p.2) (List.mem_cons_of_mem _ hp))
          have HRD := Lib.hid hrd
          have HB5 := Lib.hid hbl
          have HK1 := Lib.hid hbk1
          obtain ⟨hne, -, -, -, -, hvb⟩ := (vFun_iff R A S bs).1 HV.out
          have HX := Lib.hid (exec_any (K := kindS A S S.length) hrun nm (.slice ap A.length ac) (.slice bp bs.length bc) bs fuel hfu (H.out.below HB4.out (Nat.le_refl _)).b hne hvb (names_ok HF.out rfl rfl) (fun k hk j hj => (H.out.ok.i k hk j hj).1) H.out.cl (by rw [← HS.out]; rfl) (by rw [← HS.out]; rfl))
          clear hrd hLx hbl hbk0 hbk1 hnm hne hvb hrun e1 e3 HF HL
          change Hid (Calls _ _ _ _ (ExecPost _ _ _ (runR apW (idxN A S) inp bs fuel 0 0 s))) at HX
          rw [HR.out] at HX
          go_wp2_with fail
          refine HX.out.mono ?_
          clear HX
          rintro e w6 ⟨rfl, hle, hrr⟩
          obtain ⟨col, ov, hra⟩ := hrr
          obtain ⟨xp, xc, rfl⟩ := hra.out.shape
          obtain ⟨x1, -, x3⟩ := hra.x.fro (w4.heap.size + 3) List.mem_cons_self
          have y0 : RowC2 w6 (w4.heap.size + 3) [.slice vap A.length vac, .slice vop S.length voc, .slice none 0 0, .int .i64 0, .int .i64 0, .int .i64 0] := (hra.x.rows _ List.mem_cons_self).1
          have hbw : Below w4.heap.size w4 w6 := hra.x.bel
          have hbx := hra.box.row
          have z9 : w6.cell? ⟨w4.heap.size + 1 + 1, 9, none⟩ = some (.slice xp r.1.out.length xc) := hbx.at 9 (boxL_more hra.lc 4)
          have z10 : w6.cell? ⟨w4.heap.size + 1 + 1, 10, none⟩ = some (.int .i64 r.1.read) := hbx.at 10 (boxL_more hra.lc 5)
          have zl : w4.heap.size + 1 + 1 < w6.heap.size := hbx.lt
          have x4 : w6.frozen? ⟨w4.heap.size + 1 + 1 + 1, 4, none⟩ = false := x3 4
          have x5 : w6.frozen? ⟨w4.heap.size + 1 + 1 + 1, 5, none⟩ = false := x3 5
          have y4 : w6.cell? ⟨w4.heap.size + 1 + 1 + 1, 4, none⟩ = some (.int .i64 0) := y0.at 4 rfl
          have y5 : w6.cell? ⟨w4.heap.size + 1 + 1 + 1, 5, none⟩ = some (.int .i64 0) := y0.at 5 rfl
          have xl : w4.heap.size + 1 + 1 + 1 < w6.heap.size := x1
          have HBW := Lib.hid hbw
          have HRA := Lib.hid hra
          have HX3 := Lib.hid x3
          have HY0 := Lib.hid y0
          clear hra x3 y0 hbw hbx x1
          go_upto_region 18 with fail
          have hrow6 : w6.heap[w.heap.size + 1]? = _ := (HBW.out.block (w.heap.size + 1) (by omega)).trans ((HB5.out.block (w.heap.size + 1) (by show w.heap.size + 1 < w4.heap.size; omega)).symm.trans HK1.out)
          have hT : Touch (fun k => if k = w4.heap.size + 3 ∨ k = w.heap.size + 1 then 1 else 0) 1 w6 ((w6.setCell ⟨w4.heap.size + 1 + 1 + 1, 4, none⟩ (.int .i64 ((fuel : Int) - r.2.1))).setCell ⟨w4.heap.size + 1 + 1 + 1, 5, none⟩ (.int .i64 r.2.2)) := (Touch.setCell (a := ⟨w4.heap.size + 1 + 1 + 1, 4, none⟩) (by show (if _ ∨ _ then 1 else 0) = 1; exact if_pos (Or.inl rfl)) _).trans (Touch.setCell (a := ⟨w4.heap.size + 1 + 1 + 1, 5, none⟩) (by show (if _ ∨ _ then 1 else 0) = 1; exact if_pos (Or.inl rfl)) _)
          have h7 := row_set (row_set HY0.out 4 (.int .i64 ((fuel : Int) - r.2.1))) 5 (.int .i64 r.2.2)
          change RowC2 ((w6.setCell ⟨w4.heap.size + 1 + 1 + 1, 4, none⟩ (.int .i64 ((fuel : Int) - r.2.1))).setCell ⟨w4.heap.size + 1 + 1 + 1, 5, none⟩ (.int .i64 r.2.2)) (w4.heap.size + 1 + 1 + 1) [.slice vap A.length vac, .slice vop S.length voc, .slice none 0 0, .int .i64 0, .int .i64 ((fuel : Int) - r.2.1), .int .i64 r.2.2] at h7
          have f7 : ∀ k, ((w6.setCell ⟨w4.heap.size + 1 + 1 + 1, 4, none⟩ (.int .i64 ((fuel : Int) - r.2.1))).setCell ⟨w4.heap.size + 1 + 1 + 1, 5, none⟩ (.int .i64 r.2.2)).frozen? ⟨w4.heap.size + 1 + 1 + 1, k, none⟩ = false := fun k => by
            rw [World.frozen?_setCell, World.frozen?_setCell]
            exact HX3.out k
          have hR7 := ((Below.heap_setCell (w6.setCell ⟨w4.heap.size + 1 + 1 + 1, 4, none⟩ (.int .i64 ((fuel : Int) - r.2.1))) ⟨w4.heap.size + 1 + 1 + 1, 5, none⟩ (.int .i64 r.2.2) (w.heap.size + 1) (by show _ ≠ w4.heap.size + 1 + 1 + 1; omega)).trans (Below.heap_setCell w6 ⟨w4.heap.size + 1 + 1 + 1, 4, none⟩ (.int .i64 ((fuel : Int) - r.2.1)) (w.heap.size + 1) (by show _ ≠ w4.heap.size + 1 + 1 + 1; omega))).trans hrow6
          clear z9 z10 zl x4 x5 y4 y5 xl
          generalize (w6.setCell ⟨w4.heap.size + 1 + 1 + 1, 4, none⟩ (.int .i64 ((fuel : Int) - r.2.1))).setCell ⟨w4.heap.size + 1 + 1 + 1, 5, none⟩ (.int .i64 r.2.2) = w7 at hT h7 f7 hR7 ⊢
          have hB7 : ∀ k, k < w6.heap.size → k ≠ w4.heap.size + 3 → k ≠ w.heap.size + 1 → w7.heap[k]? = w6.heap[k]? := fun k h1 h2 h3 => hT.block k h1 (by rw [if_neg (by omega)]; decide)
          have hbx := hB7 (w4.heap.size + 2) HRA.out.box.row.lt (by omega) (by omega)
          have z9 : w7.cell? ⟨w4.heap.size + 1 + 1, 9, none⟩ = some (.slice xp r.1.out.length xc) := (World.cell?_of_block (a := ⟨w4.heap.size + 2, 9, none⟩) hbx).trans (HRA.out.box.row.at 9 (boxL_more HRA.out.lc 4))
          have z10 : w7.cell? ⟨w4.heap.size + 1 + 1, 10, none⟩ = some (.int .i64 r.1.read) := (World.cell?_of_block (a := ⟨w4.heap.size + 2, 10, none⟩) hbx).trans (HRA.out.box.row.at 10 (boxL_more HRA.out.lc 5))
          have zl : w4.heap.size + 1 + 1 < w7.heap.size := Nat.lt_of_lt_of_le HRA.out.box.row.lt hT.size
          have x2 := f7 2
          have x3 := f7 3
          have y0 := h7.at 0 rfl
          have y1 := h7.at 1 rfl
          have y2 := h7.at 2 rfl
          have y3 := h7.at 3 rfl
          have y4 := h7.at 4 rfl
          have y5 := h7.at 5 rfl
          have xl := h7.lt
          have HT7 := Lib.hid hT
          have H7 := Lib.hid h7
          have HR7 := Lib.hid hR7
          clear hB7 hbx hT h7 f7 hrow6 hR7
          go_region
          all_goals (
            go_upto_region 19 with fail
            have hT8 := HT7.out.trans ((Touch.setCell (a := ⟨w4.heap.size + 1 + 1 + 1, 2, none⟩) (by show (if _ ∨ _ then 1 else 0) = 1; exact if_pos (Or.inl rfl)) (.slice xp r.1.out.length xc)).trans ((Touch.setCell (a := ⟨w4.heap.size + 1 + 1 + 1, 3, none⟩) (by show (if _ ∨ _ then 1 else 0) = 1; exact if_pos (Or.inl rfl)) (.int .i64 r.1.read)).trans (Touch.of_below (Below.drew (Below.refl _ _)))))
            have h8 := row_block (row_set (row_set H7.out 2 (.slice xp r.1.out.length xc)) 3 (.int .i64 r.1.read)) (w' := ((w7.setCell ⟨w4.heap.size + 1 + 1 + 1, 2, none⟩ (.slice xp r.1.out.length xc)).setCell ⟨w4.heap.size + 1 + 1 + 1, 3, none⟩ (.int .i64 r.1.read)).drew) rfl (Nat.le_refl _)
            have hR8 := ((Below.heap_setCell (w7.setCell ⟨w4.heap.size + 1 + 1 + 1, 2, none⟩ (.slice xp r.1.out.length xc)) ⟨w4.heap.size + 1 + 1 + 1, 3, none⟩ (.int .i64 r.1.read) (w.heap.size + 1) (by show _ ≠ w4.heap.size + 1 + 1 + 1; omega)).trans (Below.heap_setCell w7 ⟨w4.heap.size + 1 + 1 + 1, 2, none⟩ (.slice xp r.1.out.length xc) (w.heap.size + 1) (by show _ ≠ w4.heap.size + 1 + 1 + 1; omega))).trans HR7.out
            change ((w7.setCell ⟨w4.heap.size + 1 + 1 + 1, 2, none⟩ (.slice xp r.1.out.length xc)).setCell ⟨w4.heap.size + 1 + 1 + 1, 3, none⟩ (.int .i64 r.1.read)).drew.heap[w.heap.size + 1]? = _ at hR8
            change RowC2 _ (w4.heap.size + 1 + 1 + 1) [.slice vap A.length vac, .slice vop S.length voc, .slice xp r.1.out.length xc, .int .i64 r.1.read, .int .i64 ((fuel : Int) - r.2.1), .int .i64 r.2.2] at h8
            generalize ((w7.setCell ⟨w4.heap.size + 1 + 1 + 1, 2, none⟩ (.slice xp r.1.out.length xc)).setCell ⟨w4.heap.size + 1 + 1 + 1, 3, none⟩ (.int .i64 r.1.read)).drew = w8 at hT8 h8 hR8 ⊢
            clear y0 y1 y2 y3 y4 y5 x2 x3 z9 z10 xl zl
            have y0 := h8.at 0 rfl
            have y1 := h8.at 1 rfl
            have y2 := h8.at 2 rfl
            have y3 := h8.at 3 rfl
            have y4 := h8.at 4 rfl
            have y5 := h8.at 5 rfl
            have yl := h8.lt
            have HT8 := Lib.hid hT8
            have HROW := Lib.hid hR8
            have HOi : Hid ((Tryd.prog.info? 39).map (·.size) = some (#[.slice vap A.length vac, .slice vop S.length voc, .slice xp r.1.out.length xc, .int .i64 r.1.read, .int .i64 ((fuel : Int) - r.2.1), .int .i64 r.2.2] : Array Value).size) := (show _ = some 6 by kernel_rfl)
            have HOa : Hid ((#[.slice vap A.length vac, .slice vop S.length voc, .slice xp r.1.out.length xc, .int .i64 r.1.read, .int .i64 ((fuel : Int) - r.2.1), .int .i64 r.2.2] : Array Value).all (·.oneCell') = true) := (show (#[.slice vap A.length vac, .slice vop S.length voc, .slice xp r.1.out.length xc, .int .i64 r.1.read, .int .i64 ((fuel : Int) - r.2.1), .int .i64 r.2.2] : Array Value).all (·.oneCell') = true by simp [Value.oneCell'])
            clear h8 hT8 hR8
            go_wp2_with (first | (refine wpList_store_row rfl 39 (.tmp 12) (.tmp 122) rfl (w.heap.size + 1) #[.slice vap A.length vac, .slice vop S.length voc, .slice xp r.1.out.length xc, .int .i64 r.1.read, .int .i64 ((fuel : Int) - r.2.1), .int .i64 r.2.2] rfl rfl 39 _ HROW.out HOi.out rfl HOa.out ?_))
            refine bodyPost_ret (results_cell_row Tryd.results8 _ _ (w.heap.size + 1) _ _ _ _ rfl (setRow_heap _ _ _ _ _ _ HROW.out) Tryd.underlying39 rfl (by kernel_rfl)) rfl ?_
            have hTf := HT8.out.trans (Touch.setRow (g := w.heap.size + 1) (by show (if _ ∨ _ then 1 else 0) = 1; exact if_pos (Or.inr rfl)) #[.slice vap A.length vac, .slice vop S.length voc, .slice xp r.1.out.length xc, .int .i64 r.1.read, .int .i64 ((fuel : Int) - r.2.1), .int .i64 r.2.2])
            obtain ⟨e1, e2, e3, e4, e5⟩ := run_final HRA.out hTf (by show w.heap.size + 1 < w4.heap.size; omega) HLX.out HRD.out rfl
            exact ⟨_, _, _, rfl, e1, e2, e3, (HB4.out.trans (HBW.out.mono HB4.out.size)).trans (hTf.below (by have := HBW.out.size; omega) fun k hk e => by rw [if_neg (by omega)] at e; cases e), e4, e5⟩)
end Go.Proofs.YtifjcknklecdbaaDoor
