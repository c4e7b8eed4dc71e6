import Derived.Test.YtkcfbonchhidlaaGreatDoorMs46
import Derived.Test.YtkcfbonchhidlaaGreatDoorMs48
import Derived.Test.YtkcfbonchhidlaaGreatDoorMs17
import Derived.Test.YtkcfbonchhidlaaGreatDoorConC
set_option linter.unusedVariables false
set_option linter.unusedSimpArgs false
namespace Go.Proofs.YtkcfbonchhidlaaGreatDoor
open Go.RowKit Go.Maps

structure CmInv (w : World) (codes : List Int) (k : Nat) (p : Option Addr) (c : Nat) (wr : World) : Prop where
  own : wr.ownsRow (w.heap.size + 2) 31 1 (.slice p k c) k (codeCells codes k)
  im : RowAt wr (w.heap.size + 1) [.slice p k c, .slice (some ⟨w.heap.size, 0, none⟩) 1 1, .int .i64 0, .int .i64 0]
  en : RowAt wr w.heap.size [.string tName, .int .i64 0, .int .i64 codes.length, .int .i64 0]
  below : Below w.heap.size w wr
theorem CmInv.later {w : World} {codes : List Int} {k : Nat} {p : Option Addr} {c : Nat} {wr w' : World} (h : CmInv w codes k p c wr) (hb : Below wr.heap.size wr w') : CmInv w codes k p c w' :=
  ⟨ownsRow_block h.own fun g _ hg => hb.block g hg, h.im.below hb h.im.lt, h.en.below hb h.en.lt, h.below.trans (hb.mono h.below.size)⟩
theorem CmInv.keep2 {w : World} {codes : List Int} {k : Nat} {p : Option Addr} {c : Nat} {w2 w3 : World} {o : Obj} (h : CmInv w codes k p c w2) (hg : (w2.alloc o).grownBy w3 (Value.slice p k c).ownBlock) : ∀ j, j < w.heap.size + 2 → j < w2.heap.size → w3.heap[j]? = w2.heap[j]? :=
  fun j hj hj2 => (hg.block j (by simp; omega) (fun e => by have := ownBase h.own e.symm; omega)).trans (Below.heap_alloc _ _ _ hj2)
theorem CmInv.push {w : World} {codes : List Int} {k : Nat} {p p' : Option Addr} {c c' : Nat} {w2 w3 : World} {o : Obj} {x : Value} (h : CmInv w codes k p c w2) (hw : codeCells codes (k + 1) = codeCells codes k ++ [x]) (hown : w3.ownsRow (w.heap.size + 2) 31 1 (.slice p' (k + 1) c') (k + 1) (codeCells codes k ++ [x])) (hg : (w2.alloc o).grownBy w3 (Value.slice p k c).ownBlock) :
    CmInv w codes (k + 1) p' c' (w3.setCell ⟨w.heap.size + 1, 0, none⟩ (.slice p' (k + 1) c')) := by
  have keep := h.keep2 hg
  refine ⟨?_, (h.im.block (keep _ (by omega) h.im.lt)).set 0 _, (h.en.block (keep _ (by omega) h.en.lt)).other (by show w.heap.size + 1 ≠ w.heap.size; omega) _, ?_⟩
  · rw [hw]
    exact ownsRow_set hown (fun e => by have := ownBase hown e; simp at this) _
  · refine bSet (by show w.heap.size ≤ w.heap.size + 1; omega) ⟨hg.os.trans h.below.os, hg.tape.trans h.below.tape, hg.output.trans h.below.output, ?_, fun j hj => (keep j (by omega) (Nat.lt_of_lt_of_le hj h.below.size)).trans (h.below.block j hj)⟩
    have := hg.size; have := h.below.size; simp at *; omega
theorem put_noC (a : Act) (v : Value) : a.put none v = a := rfl
def CmRel (w : World) (codes : List Int) (k : Nat) (wr : World) : Prop := ∃ p c, CmInv w codes k p c wr
theorem codes_next (codes : List Int) (k : Nat) (h : k < codes.length) : codeCells codes (k + 1) = codeCells codes k ++ [.int .u32 (codes.getD k 0)] := by
  unfold codeCells
  rw [List.take_succ_eq_append_getElem h, List.map_append, List.getD_eq_getElem?_getD, List.getElem?_eq_getElem h]
  rfl
theorem conL_len (r n : Int) : (conL r n).length = (constG r n).length + 1 := by unfold conL; rw [List.length_append]; rfl
theorem conG_len (r n : Int) : (constG r n).length ≤ 3 := by
  unfold constG
  split
  · exact Nat.zero_le _
  · split
    · show 1 ≤ 3; omega
    · exact Nat.le_refl _
theorem conL_at (r n : Int) (k : Nat) (h : k < (constG r n).length) : (conL r n).getD k default = (constG r n).getD k default := by
  unfold conL
  rw [List.getD_eq_getElem?_getD, List.getD_eq_getElem?_getD, List.getElem?_append_left h]
theorem conL_last (r n : Int) : (conL r n).getD (constG r n).length default = haltG := by
  unfold conL
  rw [List.getD_eq_getElem?_getD, List.getElem?_append_right (Nat.le_refl _), Nat.sub_self]; rfl
theorem codes_at (r n : Int) (k : Nat) (h : k < (conL r n).length) : ((conL r n).map encG).getD k 0 = encG ((conL r n).getD k default) := by
  rw [List.getD_eq_getElem?_getD, List.getElem?_map, List.getD_eq_getElem?_getD, List.getElem?_eq_getElem h]; rfl
theorem codes_bd (r n : Int) (hn : W32 n) (k : Nat) (h : k < ((conL r n).map encG).length) : 0 ≤ ((conL r n).map encG).getD k 0 ∧ ((conL r n).map encG).getD k 0 < 4294967296 := by
  rw [List.length_map] at h
  rw [codes_at r n k h]
  exact encW_bd (const_all r n hn k h)

set_option maxHeartbeats 12800000 in
set_option maxRecDepth 100000 in
theorem constLaw (reg n : Int) (w : World) (hT : Tab w) (hZ : TabZ w) (hO : OTab w) (hn : W32 n) (hr : -9223372036854775808 ≤ reg ∧ reg ≤ 9223372036854775807) :
    Calls Tryz.prog 3 #[.int .i64 reg, .int .i32 n] w fun e w' => e = .returned (.bool true) ∧ Below w.heap.size w w' := by
  obtain ⟨i0, hi0, hz0, hz1, hz2⟩ := info_parts Tryz.infoU32
  have hxi := Tryz.underlying28
  have HT := Lib.hid hT
  have HO := Lib.hid hO
  have hn' : -2147483648 ≤ n ∧ n ≤ 2147483647 := hn
  have HN := Lib.hid hn
  clear hn
  go_enter Tryz.func3, Tryz.ntmps3
  go_wp2_with fail
  refine (awake21 w hT hZ).mono ?_
  rintro e w1 ⟨rfl, hb1⟩
  clear hT hZ hO
  go_wp2_with fail
  refine (const_any reg n w1 hn').mono ?_
  rintro e w2 ⟨lv, rfl, hl, hb2⟩
  have HB2 := Lib.hid (hb1.trans (hb2.mono hb1.size))
  have HL := Lib.hid hl
  obtain ⟨lp, lc, rfl⟩ := hl.shape
  clear hb1 hb2 hl
  go_wp2_with fail
  refine (rconst_any reg n w2 hn').mono ?_
  rintro e w3 ⟨wv, rfl, hl, hb3⟩
  have HB3 := Lib.hid (HB2.out.trans (hb3.mono HB2.out.size))
  have HL3 := Lib.hid (HL.out.below hb3 (Nat.le_refl _))
  have HW3 := Lib.hid hl
  obtain ⟨xp, xc, rfl⟩ := hl.shape
  clear hb3 hl HB2 HL
  have HCL := Lib.hid (conL_len reg n)
  have hl3 := conG_len reg n
  have hcl := conL_len reg n
  have HVA := Lib.hid (const_all reg n HN.out)
  have HCA := Lib.hid (conL_at reg n)
  have HLA := Lib.hid (conL_last reg n)
  have HCD := Lib.hid (codes_at reg n)
  have HCB := Lib.hid (codes_bd reg n HN.out)
  have hml : ((conL reg n).map encG).length = (conL reg n).length := List.length_map ..
  have HRUN := Lib.hid (con_run reg n HN.out)
  have HIM := Lib.hid (show conIm reg n = ⟨(conL reg n).map encG, [⟨⟨#[116]⟩, 0, ((conL reg n).map encG).length, 0⟩], 0, 0⟩ by unfold conIm; rw [hml])
  obtain ⟨codes, hcodes⟩ : ∃ c, c = (conL reg n).map encG := ⟨_, rfl⟩
  rw [← hcodes] at hml HCD HCB HIM
  clear hcodes HCL
  generalize conL reg n = CL at hcl HVA HCA HLA HCD hml
  generalize constG reg n = l at HL3 HW3 hl3 hcl HCA HLA
  have hcn : codes.length = l.length + 1 := by omega
  have hwr : IntKind.i64.wrap ((l.length : Int) + 1) = (l.length : Int) + 1 := IntWalk.i64_in _ ⟨by omega, by omega⟩
  obtain ⟨w4, rfl⟩ : ∃ W : World, W = w3 := ⟨_, rfl⟩
  have HI0 := Lib.hid (show CmInv w4 codes 0 none 0 ((w4.alloc (.cells #[.string tName, .int .i64 0, .int .i64 ((l.length : Int) + 1), .int .i64 0] 26)).alloc (.cells #[.slice none 0 0, .slice (some ⟨w4.heap.size, 0, none⟩) 1 1, .int .i64 0, .int .i64 0] 30)) by
    refine ⟨World.ownsRow_nil _ _ _ _, ⟨30, heap_at1 _ _ _⟩, ⟨26, ?_⟩, bAlloc (by simp) (bAlloc (Nat.le_refl _) (Below.refl _ _))⟩
    rw [Below.heap_alloc _ _ _ (by simp), show ((codes.length : Nat) : Int) = (l.length : Int) + 1 by omega]; exact heap_alloc_new _ _)
  unfold tName at HI0
  go_upto_region 7 with fail
  obtain ⟨w5, hw5⟩ : ∃ W : World, W = (w4.alloc (.cells #[.string ⟨#[116]⟩, .int .i64 0, .int .i64 ((l.length : Int) + 1), .int .i64 0] 26)).alloc (.cells #[.slice none 0 0, .slice (some ⟨w4.heap.size, 0, none⟩) 1 1, .int .i64 0, .int .i64 0] 30) := ⟨_, rfl⟩
  rw [← hw5] at HI0 ⊢
  clear hw5 hwr
  go_wp2_with fail
  go_loopw [8] (fun s8 wr => ∃ k : Nat, s8 = .int .i64 k ∧ k ≤ l.length ∧ Hid (CmRel w4 codes k wr)) (fun s8 _ => l.length - (intOf s8).toNat)
  case atStart => exact ⟨0, rfl, Nat.zero_le _, none, 0, HI0.out⟩
  case round =>
    clear HI0
    obtain ⟨k, rfl, hk, HV⟩ := hrel
    obtain ⟨w6, rfl⟩ : ∃ W : World, W = wr := ⟨_, rfl⟩
    obtain ⟨p, c, hI⟩ := HV.out
    have HV1 := Lib.hid hI
    clear HV
    by_cases hlt : k < l.length
    · have hltI : (k : Int) < l.length := by omega
      obtain ⟨m, off, cap, e0, hm, x0, x1, x2, x3, x4⟩ := HL3.out.get hlt
      injection e0 with e0a _ e0c
      subst e0a e0c
      obtain ⟨m', off', cap', e1, hm', y0, y1, y2, y3, y4⟩ := HW3.out.get hlt
      injection e1 with e1a _ e1c
      subst e1a e1c
      have hvk := HVA.out k (by omega)
      have hck := HCD.out k (by omega)
      rw [HCA.out k hlt] at hvk hck
      have HCW := Lib.hid (codes_next codes k (by omega))
      rw [hck] at HCW
      clear hck
      generalize l.getD k default = g at x0 x1 x2 x3 x4 y0 y1 y2 y3 y4 hvk HCW
      obtain ⟨op, ga, gb, gc, gi⟩ := g
      have HVK := Lib.hid (show vld op ga gb gc gi = true from hvk)
      simp only at x0 x1 x2 x3 x4 y0 y1 y2 y3 y4
      have HCW : Hid (codeCells codes (k + 1) = codeCells codes k ++ [.int .u32 (encW op ga gb gc gi)]) := HCW
      clear hvk
      rw [← HV1.out.below.cell (p := ⟨m, off + k * 5, none⟩) hm] at x0
      rw [← HV1.out.below.cell (p := ⟨m, off + k * 5 + 1, none⟩) hm] at x1
      rw [← HV1.out.below.cell (p := ⟨m, off + k * 5 + 2, none⟩) hm] at x2
      rw [← HV1.out.below.cell (p := ⟨m, off + k * 5 + 3, none⟩) hm] at x3
      rw [← HV1.out.below.cell (p := ⟨m, off + k * 5 + 4, none⟩) hm] at x4
      rw [← HV1.out.below.cell (p := ⟨m', off' + k * 5, none⟩) hm'] at y0
      rw [← HV1.out.below.cell (p := ⟨m', off' + k * 5 + 1, none⟩) hm'] at y1
      rw [← HV1.out.below.cell (p := ⟨m', off' + k * 5 + 2, none⟩) hm'] at y2
      rw [← HV1.out.below.cell (p := ⟨m', off' + k * 5 + 3, none⟩) hm'] at y3
      rw [← HV1.out.below.cell (p := ⟨m', off' + k * 5 + 4, none⟩) hm'] at y4
      have hm6 : m < w6.heap.size := Nat.lt_of_lt_of_le hm HV1.out.below.size
      have hm6' : m' < w6.heap.size := Nat.lt_of_lt_of_le hm' HV1.out.below.size
      go_wp2_with fail
      refine (encode_ok op ga gb gc gi w6 (HT.out.of_below (HB3.out.trans (HV1.out.below.mono HB3.out.size))) HVK.out).mono ?_
      rintro e w7 ⟨rfl, hb7⟩
      have hr7 := HV1.out.later hb7
      rw [← hb7.cell (p := ⟨m, off + k * 5, none⟩) hm6] at x0
      rw [← hb7.cell (p := ⟨m, off + k * 5 + 1, none⟩) hm6] at x1
      rw [← hb7.cell (p := ⟨m, off + k * 5 + 2, none⟩) hm6] at x2
      rw [← hb7.cell (p := ⟨m, off + k * 5 + 3, none⟩) hm6] at x3
      rw [← hb7.cell (p := ⟨m, off + k * 5 + 4, none⟩) hm6] at x4
      rw [← hb7.cell (p := ⟨m', off' + k * 5, none⟩) hm6'] at y0
      rw [← hb7.cell (p := ⟨m', off' + k * 5 + 1, none⟩) hm6'] at y1
      rw [← hb7.cell (p := ⟨m', off' + k * 5 + 2, none⟩) hm6'] at y2
      rw [← hb7.cell (p := ⟨m', off' + k * 5 + 3, none⟩) hm6'] at y3
      rw [← hb7.cell (p := ⟨m', off' + k * 5 + 4, none⟩) hm6'] at y4
      have hm7 : m < w7.heap.size := Nat.lt_of_lt_of_le hm6 hb7.size
      have hm7' : m' < w7.heap.size := Nat.lt_of_lt_of_le hm6' hb7.size
      clear hb7 HV1 hm6 hm6'
      go_wp2_with fail
      go_region
      all_goals (
        have hb8 : Below w7.heap.size w7 w7.drew := Below.drew (Below.refl _ _)
        have hr8 := hr7.later hb8
        generalize w7.drew = w8 at hr8 hb8 ⊢
        clear hb8 hr7 x0 x1 x2 x3 x4 y0 y1 y2 y3 y4 hm7 hm7' hm hm'
        have n0 := hr8.im.cell 0
        have nf := hr8.im.frozen 0
        simp only [List.getElem?_cons_zero, List.getElem?_cons_succ] at n0
        have hsz2 := hr8.im.lt
        have HOW := Lib.hid (fun o : Obj => hr8.own.alloc o)
        have HR2 := Lib.hid hr8
        clear hr8
        go_wp2_with (first | (at_builtin; refine wpList_append_own _ rfl _ _ 28 rfl (w4.heap.size + 2) 31 i0 (.int .u32 0) 1 4 hxi hi0 hz0 hz1 hz2 rfl (by decide) _ _ _ rfl (HOW.out _) ⟨w8.heap.size, 0, none⟩ 1 1 [.int .u32 (encW op ga gb gc gi)] rfl rfl ?c1 ?c2 ?c3 ?c4 ?c5 ?_))
        case c1 =>
          intro j u hj
          match j, hj with
          | 0, hj => simp at hj; subst hj; simp [Addr.add, go_sem]
        case c2 => intro u hu; simp at hu; subst hu; rfl
        case c3 => unfold maxLen; omega
        case c4 => omega
        case c5 => simp; omega
        intro v' w9 hown' hgrow _
        obtain ⟨p', c', rfl⟩ : ∃ p' c', v' = .slice p' (k + 1) c' := by
          rcases hown'.2 with ⟨rfl, h0⟩ | ⟨g, cp, cur, rfl, _⟩
          · omega
          · exact ⟨_, _, rfl⟩
        have hI := Lib.hid (HR2.out.push HCW.out hown' hgrow)
        have z0 : w9.cell? ⟨w4.heap.size + 1, 0, none⟩ = some (.slice p k c) := (World.cell?_of_block (HR2.out.keep2 hgrow (w4.heap.size + 1) (by omega) HR2.out.im.lt)).trans n0
        have zf : w9.frozen? ⟨w4.heap.size + 1, 0, none⟩ = false := (World.frozen?_of_block (HR2.out.keep2 hgrow (w4.heap.size + 1) (by omega) HR2.out.im.lt)).trans nf
        clear hown' hgrow n0 nf HOW
        go_wp2_with fail
        go_roundw
        case rel => exact ⟨k + 1, by go_num, by omega, p', c', hI.out⟩
        case measure => simp [intOf]; omega)
    · have hkn : k = l.length := by omega
      subst hkn
      clear hlt hk
      have HCW := Lib.hid (codes_next codes l.length (by omega))
      have hck := HCD.out l.length (by omega)
      rw [HLA.out] at hck
      rw [hck] at HCW
      have HCW : Hid (codeCells codes (l.length + 1) = codeCells codes l.length ++ [.int .u32 (encW 1 0 0 0 0)]) := HCW
      clear hck
      go_wp2_with fail
      refine (encode_ok 1 0 0 0 0 w6 (HT.out.of_below (HB3.out.trans (HV1.out.below.mono HB3.out.size))) (by decide)).mono ?_
      rintro e w7 ⟨rfl, hb7⟩
      have hr7 := HV1.out.later hb7
      clear hb7 HV1 hI
      have n0 := hr7.im.cell 0
      have nf := hr7.im.frozen 0
      simp only [List.getElem?_cons_zero, List.getElem?_cons_succ] at n0
      have hsz2 := hr7.im.lt
      have HOW := Lib.hid (fun o : Obj => hr7.own.alloc o)
      have HR2 := Lib.hid hr7
      clear hr7
      go_wp2_with (first | (at_builtin; refine wpList_append_own _ rfl _ _ 28 rfl (w4.heap.size + 2) 31 i0 (.int .u32 0) 1 4 hxi hi0 hz0 hz1 hz2 rfl (by decide) _ _ _ rfl (HOW.out _) ⟨w7.heap.size, 0, none⟩ 1 1 [.int .u32 (encW 1 0 0 0 0)] rfl rfl ?c1 ?c2 ?c3 ?c4 ?c5 ?_))
      case c1 =>
        intro j u hj
        match j, hj with
        | 0, hj => simp at hj; subst hj; simp [Addr.add, go_sem]
      case c2 => intro u hu; simp at hu; subst hu; rfl
      case c3 => unfold maxLen; omega
      case c4 => omega
      case c5 => simp; omega
      intro v' w9 hown' hgrow _
      obtain ⟨p', c', rfl⟩ : ∃ p' c', v' = .slice p' (l.length + 1) c' := by
        rcases hown'.2 with ⟨rfl, h0⟩ | ⟨g, cp, cur, rfl, _⟩
        · omega
        · exact ⟨_, _, rfl⟩
      have hI := Lib.hid (HR2.out.push HCW.out hown' hgrow)
      have z0 : w9.cell? ⟨w4.heap.size + 1, 0, none⟩ = some (.slice p l.length c) := (World.cell?_of_block (HR2.out.keep2 hgrow (w4.heap.size + 1) (by omega) HR2.out.im.lt)).trans n0
      have zf : w9.frozen? ⟨w4.heap.size + 1, 0, none⟩ = false := (World.frozen?_of_block (HR2.out.keep2 hgrow (w4.heap.size + 1) (by omega) HR2.out.im.lt)).trans nf
      clear hown' hgrow n0 nf HOW
      go_upto_region 16 with fail
      have hI : Hid (CmInv w4 codes codes.length p' c' (w9.setCell ⟨w4.heap.size + 1, 0, none⟩ (.slice p' (l.length + 1) c'))) := (show CmInv _ _ _ _ _ _ by rw [hcn]; exact hI.out)
      have hcnI : (Value.slice p' (l.length + 1) c') = .slice p' codes.length c' := by rw [hcn]
      rw [hcnI] at hI ⊢
      obtain ⟨w10, hw10⟩ : ∃ W : World, W = w9.setCell ⟨w4.heap.size + 1, 0, none⟩ (.slice p' codes.length c') := ⟨_, rfl⟩
      rw [← hw10] at hI ⊢
      have hc1000 : codes.length ≤ 1000 := by omega
      clear hw10 hcnI z0 zf hsz2 HR2 HCW hcn hml hcl
      have m0 := hI.out.im.cell 0
      have m1 := hI.out.im.cell 1
      have m2 := hI.out.im.cell 2
      have m3 := hI.out.im.cell 3
      simp only [List.getElem?_cons_zero, List.getElem?_cons_succ] at m0 m1 m2 m3
      have hil := hI.out.im.lt
      have HIM10 := Lib.hid (show ImAt w10 (.agg #[.slice p' codes.length c', .slice (some ⟨w4.heap.size, 0, none⟩) 1 1, .int .i64 0, .int .i64 0]) (conIm reg n) by
        rw [HIM.out]
        exact imAt_one (codes := codes) hI.out.own hI.out.en HCB.out hc1000)
      go_wp2_with fail
      have he0 : w10.cell? ⟨w4.heap.size, 0, none⟩ = some (.string tName) := hI.out.en.cell 0
      have he1 : w10.cell? ⟨w4.heap.size, 0 + 1, none⟩ = some (.int .i64 0) := hI.out.en.cell 1
      have he2 : w10.cell? ⟨w4.heap.size, 0 + 2, none⟩ = some (.int .i64 codes.length) := hI.out.en.cell 2
      have he3 : w10.cell? ⟨w4.heap.size, 0 + 3, none⟩ = some (.int .i64 0) := hI.out.en.cell 3
      refine (new_zero (.slice p' codes.length c') w4.heap.size 0 1 0 0 tName 0 codes.length w10 hI.out.en.lt he0 he1 he2 he3).mono ?_
      rintro e w11 ⟨g, rfl, hb11, hg, hrow⟩
      have hI11 := Lib.hid (hI.out.later hb11)
      have HB11 := Lib.hid hb11
      have HROW := Lib.hid hrow
      have hgl := hrow.lt
      have HG := Lib.hid hg
      clear he0 he1 he2 he3 m0 m1 m2 m3 hil hb11 hrow
      have HR : Hid ((w11.alloc (.cells #[.int .i64 0, .int .i32 0, .int .i32 0, .int .i32 0, .int .i32 0, .int .i32 0, .int .i32 0, .int .i32 0, .int .i32 0, .int .i32 0, .int .i32 0, .int .i32 0, .int .i32 0, .int .i32 0, .int .i32 0, .int .i32 0, .int .i32 0, .slice none 0 0, .bool false, .int .i64 0] 40)).heap[w11.heap.size]? = some (.cells #[.int .i64 0, .int .i32 0, .int .i32 0, .int .i32 0, .int .i32 0, .int .i32 0, .int .i32 0, .int .i32 0, .int .i32 0, .int .i32 0, .int .i32 0, .int .i32 0, .int .i32 0, .int .i32 0, .int .i32 0, .int .i32 0, .int .i32 0, .slice none 0 0, .bool false, .int .i64 0] 40 (0, 0))) := (show _ = _ from heap_alloc_new _ _)
      have HI : Hid ((Tryz.prog.info? 40).map (·.size) = some 20) := (show _ = _ from infoState)
      have HA : Hid ((#[.int .i64 0, .int .i32 0, .int .i32 0, .int .i32 0, .int .i32 0, .int .i32 0, .int .i32 0, .int .i32 0, .int .i32 0, .int .i32 0, .int .i32 0, .int .i32 0, .int .i32 0, .int .i32 0, .int .i32 0, .int .i32 0, .int .i32 0, .slice (some ⟨g, 0, none⟩) 0 0, .bool false, .int .i64 (-1)] : Array Value).all (·.oneCell') = true) := (show (#[.int .i64 0, .int .i32 0, .int .i32 0, .int .i32 0, .int .i32 0, .int .i32 0, .int .i32 0, .int .i32 0, .int .i32 0, .int .i32 0, .int .i32 0, .int .i32 0, .int .i32 0, .int .i32 0, .int .i32 0, .int .i32 0, .int .i32 0, .slice (some ⟨g, 0, none⟩) 0 0, .bool false, .int .i64 (-1)] : Array Value).all (·.oneCell') = true by simp [Value.oneCell'])
      have HZ : Hid ((#[.int .i64 0, .int .i32 0, .int .i32 0, .int .i32 0, .int .i32 0, .int .i32 0, .int .i32 0, .int .i32 0, .int .i32 0, .int .i32 0, .int .i32 0, .int .i32 0, .int .i32 0, .int .i32 0, .int .i32 0, .int .i32 0, .int .i32 0, .slice none 0 0, .bool false, .int .i64 0] : Array Value).size = (#[.int .i64 0, .int .i32 0, .int .i32 0, .int .i32 0, .int .i32 0, .int .i32 0, .int .i32 0, .int .i32 0, .int .i32 0, .int .i32 0, .int .i32 0, .int .i32 0, .int .i32 0, .int .i32 0, .int .i32 0, .int .i32 0, .int .i32 0, .slice (some ⟨g, 0, none⟩) 0 0, .bool false, .int .i64 (-1)] : Array Value).size) := (show (#[.int .i64 0, .int .i32 0, .int .i32 0, .int .i32 0, .int .i32 0, .int .i32 0, .int .i32 0, .int .i32 0, .int .i32 0, .int .i32 0, .int .i32 0, .int .i32 0, .int .i32 0, .int .i32 0, .int .i32 0, .int .i32 0, .int .i32 0, .slice none 0 0, .bool false, .int .i64 0] : Array Value).size = (#[.int .i64 0, .int .i32 0, .int .i32 0, .int .i32 0, .int .i32 0, .int .i32 0, .int .i32 0, .int .i32 0, .int .i32 0, .int .i32 0, .int .i32 0, .int .i32 0, .int .i32 0, .int .i32 0, .int .i32 0, .int .i32 0, .int .i32 0, .slice (some ⟨g, 0, none⟩) 0 0, .bool false, .int .i64 (-1)] : Array Value).size by simp)
      have HX := Lib.hid (boxed_new w11 [.int .i64 0, .int .i32 0, .int .i32 0, .int .i32 0, .int .i32 0, .int .i32 0, .int .i32 0, .int .i32 0, .int .i32 0, .int .i32 0, .int .i32 0, .int .i32 0, .int .i32 0, .int .i32 0, .int .i32 0, .int .i32 0, .int .i32 0, .slice none 0 0, .bool false, .int .i64 0] [.int .i64 0, .int .i32 0, .int .i32 0, .int .i32 0, .int .i32 0, .int .i32 0, .int .i32 0, .int .i32 0, .int .i32 0, .int .i32 0, .int .i32 0, .int .i32 0, .int .i32 0, .int .i32 0, .int .i32 0, .int .i32 0, .int .i32 0, .slice (some ⟨g, 0, none⟩) 0 0, .bool false, .int .i64 (-1)] 40)
      go_upto_region 17 with (first | (refine wpList_store_row rfl 40 (.tmp 13) (.tmp 85) rfl w11.heap.size _ rfl rfl 40 _ HR.out HI.out HZ.out HA.out ?_; simp only [put_noC]))
      obtain ⟨w12, hw12, hst, hb12, hs12⟩ := HX.out
      rw [hw12]
      clear hw12 HX HR HA HZ
      have HST := Lib.hid hst
      have HB12 := Lib.hid (HB11.out.trans (hb12.mono HB11.out.size))
      have hI12 := Lib.hid (hI11.out.later hb12)
      have HROW12 := Lib.hid (HROW.out.below hb12 HROW.out.lt)
      have m0 := hI12.out.im.cell 0
      have m1 := hI12.out.im.cell 1
      have m2 := hI12.out.im.cell 2
      have m3 := hI12.out.im.cell 3
      simp only [List.getElem?_cons_zero, List.getElem?_cons_succ] at m0 m1 m2 m3
      have hil := hI12.out.im.lt
      clear hst hb12 hI11 HROW
      have hg1 := HG.out
      have hs1 := HB11.out.size
      have hs4 := hI12.out.below.size
      have hs0 := HB3.out.size
      have ht0 := HO.out.1
      have HB10 := Lib.hid (HB3.out.trans (hI.out.below.mono HB3.out.size))
      have hs10 := HB10.out.size
      have HBW := Lib.hid (HB10.out.trans (HB12.out.mono HB10.out.size))
      have HPRE := Lib.hid (show RunPre w12 w10.heap.size (.agg #[.slice p' codes.length c', .slice (some ⟨w4.heap.size, 0, none⟩) 1 1, .int .i64 0, .int .i64 0]) (conIm reg n) w11.heap.size (.slice (some ⟨g, 0, none⟩) 0 0) (.slice none 0 0) (fun _ => False) from
        ⟨HT.out.of_below HBW.out, HO.out.of_below HBW.out, fun w' hb' => HIM10.out.below (HB12.out.trans (hb'.mono (Nat.le_refl _))) (Nat.le_refl _), by
          rintro k ((rfl | hk | hk) | hk)
          · exact ⟨hs1, by rw [hs12]; omega⟩
          · have : g = k := by simpa [Value.ownBlock] using hk
            subst this
            exact ⟨hg1, by rw [hs12]; omega⟩
          · simp [Value.ownBlock] at hk
          · exact hk.elim, ⟨by omega, by omega⟩, HB12.out.size, by simp [Value.ownBlock]; omega, by simp [Value.ownBlock], by intro k _; simp [Value.ownBlock]⟩)
      obtain ⟨pc, R, kk, hrun, hR16, hR32, hRj⟩ := HRUN.out
      have HRJ := Lib.hid hRj
      have hall := run_all _ (conIm reg n) 0 w11.heap.size (.slice (some ⟨g, 0, none⟩) 0 0) (.slice none 0 0) .nilFunc (fun _ _ => 0) (fun _ _ => ()) (fun _ _ => True) (fun _ => False) (fun _ _ => id) 9 conC w10.heap.size w12 (by omega) HPRE.out (port_nil _ _ _) ⟨rfl, HST.out⟩ ⟨some ⟨g, 0, none⟩, 0, rfl, .inl rfl⟩ ⟨none, 0, rfl, .inl rfl⟩ trivial rfl (w32_all (by decide)) (w32_all (by decide)) (w32_all (by decide)) (con_fit reg n) (con_op4 reg n HN.out)
      rw [show ((9 : Int).toNat) = 9 from rfl, hrun] at hall
      have HCALL := Lib.hid hall
      clear hall
      clear hrun hR16 hR32 hRj hgl hs12 ht0
      go_wp2_with fail
      refine HCALL.out.mono ?_
      rintro e w13 ⟨ov, rfl, -, hk13, hs13, -⟩
      have HB13 := Lib.hid (hk13.below HB12.out.size (by
        rintro k ((rfl | hk | hk) | hk)
        · exact hs1
        · have : g = k := by simpa [Value.ownBlock] using hk
          subst this
          exact hg1
        · simp [Value.ownBlock] at hk
        · exact hk.elim))
      have HS13 := Lib.hid hs13
      have hl13 := hs13.lt
      clear hk13 hs13 HCALL HPRE m0 m1 m2 m3 hil
      go_wp2_with fail
      go_loopw [18] (fun s18 wx => ∃ j : Nat, s18 = .int .i64 j ∧ j ≤ 16 ∧ w13 = wx) (fun s18 _ => 16 - (intOf s18).toNat)
      case atStart => exact ⟨0, rfl, Nat.zero_le _, rfl⟩
      case round =>
        obtain ⟨j, rfl, hj, rfl⟩ := hrel
        by_cases hj16 : j < 16
        · have hjI : (j : Int) < 16 := by omega
          have hq := HS13.out.reg j hj16
          rw [show (conEnd pc R).s.r = R from rfl, HRJ.out j hj16] at hq
          by_cases hjr : (j : Int) = reg
          · subst hjr
            by_cases hp : 0 < (j : Int)
            · rw [if_pos ⟨rfl, hp⟩] at hq
              have hpI : (j : Int) > 0 := hp
              go_wp2_with fail
              go_roundw
              case rel => exact ⟨j + 1, by go_num, by omega, by first | rfl | trivial⟩
              case measure => simp [intOf]; omega
            · rw [if_neg (fun h => hp h.2)] at hq
              have hpI : ¬ (j : Int) > 0 := hp
              go_wp2_with fail
              go_roundw
              case rel => exact ⟨j + 1, by go_num, by omega, by first | rfl | trivial⟩
              case measure => simp [intOf]; omega
          · have f1 : ((j : Int) == reg) = false := beq_eq_false_iff_ne.2 hjr
            rw [if_neg (fun h => hjr h.1)] at hq
            go_wp2_with fail
            go_roundw
            case rel => exact ⟨j + 1, by go_num, by omega, by first | rfl | trivial⟩
            case measure => simp [intOf]; omega
        · have hj2 : j = 16 := by omega
          subst hj2
          go_wp2_with fail
          go_ret
          exact ⟨rfl, HB10.out.trans ((HB12.out.trans (HB13.out.mono (Nat.le_refl _))).mono HB10.out.size)⟩
end Go.Proofs.YtkcfbonchhidlaaGreatDoor
