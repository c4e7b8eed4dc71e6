import Derived.Test.YtkcfbonchhidlaaGreatDoorIrC
import Derived.Test.YtkcfbonchhidlaaGreatDoorLivQ
import Derived.Test.YtkcfbonchhidlaaGreatDoorMs20
import Derived.Test.YtkcfbonchhidlaaGreatDoorMs01
set_option linter.unusedVariables false
set_option linter.unusedSimpArgs false
namespace Go.Proofs.YtkcfbonchhidlaaGreatDoor
open Go.RowKit Go.Maps

def RowC2 (w : World) (b : Nat) (l : List Value) : Prop := b < w.heap.size ∧ ∀ k v, l[k]? = some v → w.cell? ⟨b, k, none⟩ = some v
theorem RowC2.lt {w : World} {b : Nat} {l : List Value} (h : RowC2 w b l) : b < w.heap.size := h.1
theorem RowC2.at {w : World} {b : Nat} {l : List Value} (h : RowC2 w b l) (k : Nat) {v : Value} (hv : l[k]? = some v) : w.cell? ⟨b, k, none⟩ = some v := h.2 k v hv
theorem RowC2.below {B : Nat} {w w' : World} {b : Nat} {l : List Value} (h : RowC2 w b l) (hb : Below B w w') (hB : b < B) : RowC2 w' b l :=
  ⟨Nat.lt_of_lt_of_le h.1 hb.size, fun k u hk => (hb.cell (p := ⟨b, k, none⟩) hB).trans (h.2 k u hk)⟩
theorem RowC2.made (w : World) (l : List Value) (t : TypeId) : RowC2 (w.alloc (.cells l.toArray t)) w.heap.size l :=
  ⟨by simp, fun k u hk => by
    unfold World.cell?
    rw [heap_alloc_new w]
    simpa using hk⟩
structure FnOk (A S : List Arr) (bs : List IBlk) : Prop where
  a : ∀ k, k < A.length → (A.getD k default).1.size ≤ maxLen
  s : ∀ k, k < S.length → (S.getD k default).1.size ≤ maxLen
  i : ∀ k, k < bs.length → ∀ j, j < (bs.getD k default).code.length → ((bs.getD k default).code.getD j default).sym.size ≤ maxLen ∧ ((bs.getD k default).code.getD j default).op < 256
  e : ∀ k, k < bs.length → -9223372036854775808 ≤ (bs.getD k default).x ∧ (bs.getD k default).x ≤ 9223372036854775807
theorem all_range {p : Nat → Bool} {n : Nat} : (List.range n).all p = true ↔ ∀ j, j < n → p j = true := by
  rw [List.all_eq_true]
  exact ⟨fun h j hj => h j (List.mem_range.2 hj), fun h j hj => h j (List.mem_range.1 hj)⟩
theorem all_getD {α : Type} [Inhabited α] {p : α → Bool} {l : List α} : l.all p = true ↔ ∀ j, j < l.length → p (l.getD j default) = true := by
  rw [List.all_eq_true]
  refine ⟨fun h j hj => h _ (by rw [List.getD_eq_getElem?_getD, List.getElem?_eq_getElem hj]; exact List.getElem_mem hj), fun h x hx => ?_⟩
  obtain ⟨j, hj, rfl⟩ := List.mem_iff_getElem.1 hx
  have := h j hj
  rwa [List.getD_eq_getElem?_getD, List.getElem?_eq_getElem hj] at this
theorem vFun_iff (R : Int) (A S : List Arr) (bs : List IBlk) : vFun R A S bs = true ↔ bs ≠ [] ∧ (0 ≤ R ∧ R ≤ 10000) ∧ A.length ≤ 4 ∧ (∀ j, j < A.length → okA A j = true) ∧ (∀ j, j < S.length → okS A S j = true) ∧ ∀ j, j < bs.length → vBlk R (kindS A S S.length) bs.length (bs.getD j default) = true := by
  unfold vFun
  rw [Bool.and_eq_true, Bool.and_eq_true, Bool.and_eq_true, Bool.and_eq_true, Bool.and_eq_true, all_range, all_range, all_getD]
  simp only [decide_eq_true_eq, and_assoc]
theorem vBlk_iff (R : Int) (K : Kinds) (n : Nat) (b : IBlk) : vBlk R K n b = true ↔ (∀ j, j < b.code.length → vIns R K (b.code.getD j default) = true) ∧ vEnd R n b = true := by
  unfold vBlk
  rw [Bool.and_eq_true, all_getD]
theorem no_of {b : Bool} {P : Prop} (h : b = true ↔ P) (hn : ¬ P) : b = false := by
  cases b
  · rfl
  · exact absurd (h.1 rfl) hn
def VRel (w0 : World) (mb n : Nat) (F : Kinds) (w : World) : Prop := MpAt w mb n (mapK F) ∧ Below w0.heap.size w0 w ∧ w0.heap.size ≤ mb
section
variable {w0 w w' : World} {mb n : Nat} {F : Kinds}
theorem VRel.keep (h : VRel w0 mb n F w) (hb : Below w.heap.size w w') : VRel w0 mb n F w' := ⟨h.1.of_block (hb.block _ h.1.lt), h.2.1.trans (hb.mono h.2.1.size), h.2.2⟩
theorem VRel.put (h : VRel w0 mb n F w) {n' : Nat} {s : ByteArray} {v : Bool} (hm : MpAt w' mb n' (updF (mapK F) s (.bool v))) (hg : w.grownBy w' (some mb)) : VRel w0 mb n' (updK F s v) w' :=
  ⟨by rw [← mapK_upd]; exact hm, h.2.1.trans ⟨hg.os, hg.tape, hg.output, hg.size, fun k hk => hg.block k (Nat.lt_of_lt_of_le hk h.2.1.size) (fun e => by cases e; have := h.2.2; omega)⟩, h.2.2⟩
end

set_option maxHeartbeats 12800000 in
set_option maxRecDepth 40000 in
theorem irValid_any (nm : ByteArray) (R : Int) (av bv sv : Value) (A S : List Arr) (bs : List IBlk) (w : World) (hA : ArsAt w av A) (hS : ArsAt w sv S) (hB : BksAt w bv bs) (hok : FnOk A S bs) (hAl : A.length ≤ 100000) (hSl : S.length ≤ 10000) (hbl : bs.length ≤ 100000) (hcl : ∀ k, k < bs.length → (bs.getD k default).code.length ≤ 100000) :
    Calls Tryz.prog 17 #[.agg #[.string nm, .int .i64 R, av, bv], sv] w fun e w' => e = .returned (.bool (vFun R A S bs)) ∧ Below w.heap.size w w' := by
  obtain ⟨ap, ac, rfl⟩ := hA.shape
  obtain ⟨bp, bc, rfl⟩ := hB.shape
  obtain ⟨spp, sc, rfl⟩ := hS.shape
  obtain ⟨r, hr⟩ : ∃ r, r = vFun R A S bs := ⟨_, rfl⟩
  rw [← hr]
  have hr2 := vFun_iff R A S bs
  rw [← hr] at hr2
  have HR := Lib.hid hr2
  clear hr hr2
  have hmm := @run_makeMap Tryz.prog
  have hb0 : Below w.heap.size w (w.alloc (.cells #[.string nm, .int .i64 R, .slice ap A.length ac, .slice bp bs.length bc] 61)) := bAlloc (Nat.le_refl _) (Below.refl _ _)
  have hF : RowC2 (w.alloc (.cells #[.string nm, .int .i64 R, .slice ap A.length ac, .slice bp bs.length bc] 61)) w.heap.size [.string nm, .int .i64 R, .slice ap A.length ac, .slice bp bs.length bc] := RowC2.made w _ 61
  have HA := Lib.hid (hA.below hb0 (Nat.le_refl _))
  have HS := Lib.hid (hS.below hb0 (Nat.le_refl _))
  have HBK := Lib.hid (hB.below hb0 (Nat.le_refl _))
  have HOK := Lib.hid hok
  have HCL := Lib.hid hcl
  have HB0 := Lib.hid hb0
  have HF := Lib.hid hF
  clear hA hS hB hok hcl hb0 hF
  go_enter Tryz.func17, Tryz.ntmps17
  go_upto_region 1 with fail
  generalize w.alloc (.cells #[.string nm, .int .i64 R, .slice ap A.length ac, .slice bp bs.length bc] 61) = w0 at HA HS HBK HB0 HF ⊢
  have f0 := HF.out.at 0 rfl
  have f1 := HF.out.at 1 rfl
  have f2 := HF.out.at 2 rfl
  have f3 := HF.out.at 3 rfl
  have fl := HF.out.lt
  by_cases c0 : bs.length = 0
  · skip
    have c0I : ((bs.length : Int) == 0) = true := beq_iff_eq.2 (by omega)
    go_wp2_with fail
    go_ret
    exact ⟨by rw [no_of HR.out (fun h => h.1 (List.length_eq_zero_iff.1 c0))] <;> rfl, HB0.out⟩
  have c0I : ((bs.length : Int) == 0) = false := beq_eq_false_iff_ne.2 (by omega)
  by_cases c1 : R < 0
  · skip
    go_wp2_with fail
    go_ret
    exact ⟨by rw [no_of HR.out (fun h => by have := h.2.1; omega)] <;> rfl, HB0.out⟩
  have c1I : ¬ R < 0 := c1
  by_cases c2 : R > 10000
  · skip
    go_wp2_with fail
    go_ret
    exact ⟨by rw [no_of HR.out (fun h => by have := h.2.1; omega)] <;> rfl, HB0.out⟩
  by_cases c3 : A.length > 4
  · have c3I : (A.length : Int) > 4 := by omega
    go_wp2_with fail
    go_ret
    exact ⟨by rw [no_of HR.out (fun h => by have := h.2.2.1; omega)] <;> rfl, HB0.out⟩
  have c3I : ¬ (A.length : Int) > 4 := by omega
  have HC := Lib.hid (show bs ≠ [] ∧ (0 ≤ R ∧ R ≤ 10000) ∧ A.length ≤ 4 from ⟨fun e => c0 (by rw [e]; rfl), by omega, by omega⟩)
  have HV0 := Lib.hid (show VRel w0 w0.heap.size 0 (fun _ => none) (w0.alloc (.map #[] 0)) from ⟨MpAt.made w0, bAlloc (Nat.le_refl _) (Below.refl _ _), Nat.le_refl _⟩)
  go_wp2_with fail
  clear f0 f1 f2 f3 c0 c0I c1 c1I c2 c3 c3I
  go_loopw [42] (fun s42 wx => ∃ k : Nat, s42 = .int .i64 k ∧ k ≤ A.length ∧ Hid (VRel w0 w0.heap.size k (kindA A k) wx) ∧ Hid (∀ j, j < k → okA A j = true)) (fun s42 _ => A.length - (intOf s42).toNat)
  case atStart => exact ⟨0, rfl, Nat.zero_le _, HV0, fun j hj => absurd hj (Nat.not_lt_zero j)⟩
  case round =>
    clear HV0
    obtain ⟨k, rfl, hk, HV, HAll⟩ := hrel
    obtain ⟨w1, rfl⟩ : ∃ W : World, W = wr := ⟨_, rfl⟩
    have mlt := HV.out.1.lt
    by_cases hlt : k < A.length
    · skip
      have hltI : (k : Int) < A.length := by omega
      have hsz := HOK.out.a k hlt
      obtain ⟨_, _, e1, hen⟩ := HA.out.below HV.out.2.1 (Nat.le_refl _)
      injection e1 with e1 e2 e3
      subst e1
      obtain ⟨m, off, rfl, hm, n0, n1⟩ := hen k hlt
      clear hen e2 e3
      have HOk := Lib.hid (show okA A k = (!((kindA A k) (A.getD k default).1).isSome && decide (1 ≤ (A.getD k default).2 ∧ (A.getD k default).2 ≤ 32)) from rfl)
      have HKn := Lib.hid (show kindA A (k + 1) = updK (kindA A (k)) (A.getD k default).1 true from rfl)
      generalize A.getD k default = en at n0 n1 hsz HOk HKn
      obtain ⟨s, ln⟩ := en
      simp only at n0 n1 hsz HOk HKn
      generalize kindA A (k) = F at HV HOk HKn
      have hV1 := HV.out.keep (w' := w1.alloc (.cells #[.string s, .int .i64 ln] 97)) (bAlloc (Nat.le_refl _) (Below.refl _ _))
      have hl := hV1.1.look2 (t := 113) (e := 4) Tryz.underlying113 (zeroB _) s hsz
      rw [(mapK_get F s).1, (mapK_get F s).2] at hl
      have HV1 := Lib.hid hV1
      clear hV1
      generalize (F s).getD false = u at hl
      generalize (F s).isSome = t at hl HOk
      cases t
      · skip
        by_cases d1 : ln < 1
        · skip
          go_wp2_with fail
          go_ret
          exact ⟨by rw [no_of HR.out (fun h => by have h2 := h.2.2.2.1 k hlt; rw [HOk.out] at h2; simp at h2; omega)] <;> rfl, HB0.out.trans ((HV1.out.2.1).mono HB0.out.size)⟩
        by_cases d2 : ln > 32
        · skip
          go_wp2_with fail
          go_ret
          exact ⟨by rw [no_of HR.out (fun h => by have h2 := h.2.2.2.1 k hlt; rw [HOk.out] at h2; simp at h2; omega)] <;> rfl, HB0.out.trans ((HV1.out.2.1).mono HB0.out.size)⟩
        have hpn := HV1.out.1
        go_wp2_with (first | (at_mapUpdate; refine wpList_put_mp rfl _ _ _ 113 4 rfl Tryz.underlying113 w0.heap.size _ (mapK F) hpn rfl s rfl hsz (by omega) (.bool true) rfl ?_))
        intro w3 hm3 hg3
        have HV3 := Lib.hid (HV1.out.put hm3 hg3)
        rw [← HKn.out] at HV3
        clear hm3 hg3 hpn
        go_wp2_with fail
        go_roundw
        case rel =>
          refine ⟨k + 1, by go_num, by omega, HV3, fun j hj => ?_⟩
          rcases Nat.lt_succ_iff_lt_or_eq.1 hj with h | rfl
          · exact HAll.out j h
          · rw [HOk.out]; simp; omega
        case measure => simp [intOf]; omega
      · skip
        go_wp2_with fail
        go_ret
        exact ⟨by rw [no_of HR.out (fun h => by have h2 := h.2.2.2.1 k hlt; rw [HOk.out] at h2; simp at h2)] <;> rfl, HB0.out.trans ((HV1.out.2.1).mono HB0.out.size)⟩
    · skip
      have hkn : k = A.length := by omega
      subst hkn
      clear hk hlt
      have HAA := HAll
      clear HAll
      go_wp2_with fail
      go_loopw [70] (fun s70 wx => ∃ k : Nat, s70 = .int .i64 k ∧ k ≤ S.length ∧ Hid (VRel w0 w0.heap.size (A.length + k) (kindS A S k) wx) ∧ Hid (∀ j, j < k → okS A S j = true)) (fun s70 _ => S.length - (intOf s70).toNat)
      case atStart => exact ⟨0, rfl, Nat.zero_le _, HV, fun j hj => absurd hj (Nat.not_lt_zero j)⟩
      case round =>
        clear HV mlt
        have hA4 := HC.out.2.2
        obtain ⟨k, rfl, hk, HV, HAll⟩ := hrel
        obtain ⟨w1, rfl⟩ : ∃ W : World, W = wr := ⟨_, rfl⟩
        have mlt := HV.out.1.lt
        by_cases hlt : k < S.length
        · skip
          have hltI : (k : Int) < S.length := by omega
          have hsz := HOK.out.s k hlt
          obtain ⟨_, _, e1, hen⟩ := HS.out.below HV.out.2.1 (Nat.le_refl _)
          injection e1 with e1 e2 e3
          subst e1
          obtain ⟨m, off, rfl, hm, n0, n1⟩ := hen k hlt
          clear hen e2 e3
          have HOk := Lib.hid (show okS A S k = (!((kindS A S k) (S.getD k default).1).isSome) from rfl)
          have HKn := Lib.hid (show kindS A S (k + 1) = updK (kindS A S (k)) (S.getD k default).1 false from rfl)
          generalize S.getD k default = en at n0 n1 hsz HOk HKn
          obtain ⟨s, ln⟩ := en
          simp only at n0 n1 hsz HOk HKn
          generalize kindS A S (k) = F at HV HOk HKn
          have hV1 := HV.out.keep (w' := w1.alloc (.cells #[.string s, .int .i64 ln] 97)) (bAlloc (Nat.le_refl _) (Below.refl _ _))
          have hl := hV1.1.look2 (t := 113) (e := 4) Tryz.underlying113 (zeroB _) s hsz
          rw [(mapK_get F s).1, (mapK_get F s).2] at hl
          have HV1 := Lib.hid hV1
          clear hV1
          generalize (F s).getD false = u at hl
          generalize (F s).isSome = t at hl HOk
          cases t
          · skip
            have hpn := HV1.out.1
            go_wp2_with (first | (at_mapUpdate; refine wpList_put_mp rfl _ _ _ 113 4 rfl Tryz.underlying113 w0.heap.size _ (mapK F) hpn rfl s rfl hsz (by omega) (.bool false) rfl ?_))
            intro w3 hm3 hg3
            have HV3 := Lib.hid (HV1.out.put hm3 hg3)
            rw [← HKn.out] at HV3
            clear hm3 hg3 hpn
            go_wp2_with fail
            go_roundw
            case rel =>
              refine ⟨k + 1, by go_num, by omega, HV3, fun j hj => ?_⟩
              rcases Nat.lt_succ_iff_lt_or_eq.1 hj with h | rfl
              · exact HAll.out j h
              · rw [HOk.out]; rfl
            case measure => simp [intOf]; omega
          · skip
            go_wp2_with fail
            go_ret
            exact ⟨by rw [no_of HR.out (fun h => by have h2 := h.2.2.2.2.1 k hlt; rw [HOk.out] at h2; simp at h2)] <;> rfl, HB0.out.trans ((HV1.out.2.1).mono HB0.out.size)⟩
        · skip
          have hkn : k = S.length := by omega
          subst hkn
          clear hk hlt
          have HSA := HAll
          clear HAll
          generalize A.length + S.length = mn at HV
          generalize hKK : kindS A S S.length = K at HV HR
          have rF := HF.out.below HV.out.2.1 HF.out.lt
          have f3 := rF.at 3 rfl
          have fl2 := rF.lt
          clear rF hKK
          go_wp2_with fail
          clear f3 fl2
          go_loopw [89] (fun s89 wx => ∃ k : Nat, s89 = .int .i64 k ∧ k ≤ bs.length ∧ Hid (VRel w0 w0.heap.size mn K wx) ∧ Hid (∀ j, j < k → vBlk R K bs.length (bs.getD j default) = true)) (fun s89 _ => bs.length - (intOf s89).toNat)
          case atStart => exact ⟨0, rfl, Nat.zero_le _, HV, fun j hj => absurd hj (Nat.not_lt_zero j)⟩
          case round =>
            clear HV mlt
            obtain ⟨k, rfl, hk, HV, HAll⟩ := hrel
            obtain ⟨w1, rfl⟩ : ∃ W : World, W = wr := ⟨_, rfl⟩
            by_cases hlt : k < bs.length
            · skip
              have hltI : (k : Int) < bs.length := by omega
              have hck := HCL.out k hlt
              have hik := HOK.out.i k hlt
              have hek := HOK.out.e k hlt
              obtain ⟨_, _, e1, hen⟩ := HBK.out.below HV.out.2.1 (Nat.le_refl _)
              injection e1 with e1 e2 e3
              subst e1
              obtain ⟨m, off, cp, cc, rfl, hm, hins, n0, n1, n2, n3, n4⟩ := hen k hlt
              clear hen e2 e3
              have HBI := Lib.hid (vBlk_iff R K bs.length (bs.getD k default))
              have HOB := Lib.hid (fun (h : ¬ vBlk R K bs.length (bs.getD k default) = true) => no_of HR.out (fun h2 => h (h2.2.2.2.2.2 k hlt)))
              have HNB := Lib.hid (fun (h : vBlk R K bs.length (bs.getD k default) = true) j (hj : j < k + 1) => (show vBlk R K bs.length (bs.getD j default) = true by rcases Nat.lt_succ_iff_lt_or_eq.1 hj with h3 | rfl; exact HAll.out j h3; exact h))
              generalize vBlk R K bs.length (bs.getD k default) = vb at HBI HOB HNB
              generalize bs.getD k default = en at n0 n1 n2 n3 n4 hins hck hik hek HBI
              obtain ⟨code, kind, x, tg, els⟩ := en
              simp only at n0 n1 n2 n3 n4 hins hck hik hek HBI
              have hV1 := HV.out.keep (w' := w1.alloc (.cells #[.slice cp code.length cc, .int .u8 kind, .int .i64 x, .int .i64 tg, .int .i64 els] 57)) (bAlloc (Nat.le_refl _) (Below.refl _ _))
              have HRB : Hid (RowC2 (w1.alloc (.cells #[.slice cp code.length cc, .int .u8 kind, .int .i64 x, .int .i64 tg, .int .i64 els] 57)) w1.heap.size [.slice cp code.length cc, .int .u8 kind, .int .i64 x, .int .i64 tg, .int .i64 els]) := RowC2.made w1 [.slice cp code.length cc, .int .u8 kind, .int .i64 x, .int .i64 tg, .int .i64 els] 57
              have HI1 := Lib.hid (hins.below (show Below w1.heap.size w1 (w1.alloc (.cells #[.slice cp code.length cc, .int .u8 kind, .int .i64 x, .int .i64 tg, .int .i64 els] 57)) from bAlloc (Nat.le_refl _) (Below.refl _ _)) (Nat.le_refl _))
              have HV1 := Lib.hid hV1
              have HIK := Lib.hid hik
              have HEK := Lib.hid hek
              clear hV1 hins hik hek
              go_upto_region 23 with fail
              generalize w1.alloc (.cells #[.slice cp code.length cc, .int .u8 kind, .int .i64 x, .int .i64 tg, .int .i64 els] 57) = w2 at HV1 HRB HI1 ⊢
              clear n0 n1 n2 n3 n4 hm
              have q0 := HRB.out.at 0 rfl
              have ql := HRB.out.lt
              go_wp2_with fail
              clear q0 ql
              go_loopw [96] (fun s96 wx => ∃ j : Nat, s96 = .int .i64 j ∧ j ≤ code.length ∧ Hid (VRel w0 w0.heap.size mn K wx) ∧ Hid (Below w2.heap.size w2 wx) ∧ Hid (∀ q, q < j → vIns R K (code.getD q default) = true)) (fun s96 _ => code.length - (intOf s96).toNat)
              case atStart => exact ⟨0, rfl, Nat.zero_le _, HV1, Below.refl _ _, fun j hj => absurd hj (Nat.not_lt_zero j)⟩
              case round =>
                clear HV1
                obtain ⟨j, rfl, hj, HVJ, HBJ, HAJ⟩ := hrel
                obtain ⟨w3, rfl⟩ : ∃ W : World, W = wr := ⟨_, rfl⟩
                have rF := HF.out.below HVJ.out.2.1 HF.out.lt
                have f0 := rF.at 0 rfl
                have f1 := rF.at 1 rfl
                have f2 := rF.at 2 rfl
                have f3 := rF.at 3 rfl
                have fl2 := rF.lt
                clear rF
                by_cases hltj : j < code.length
                · skip
                  have hltJ : (j : Int) < code.length := by omega
                  obtain ⟨hsy, hop⟩ := HIK.out j hltj
                  obtain ⟨_, _, e1, hen⟩ := HI1.out.below HBJ.out (Nat.le_refl _)
                  injection e1 with e1 e2 e3
                  subst e1
                  obtain ⟨m2, off2, rfl, hm2, n0, n1, n2, n3, n4, n5⟩ := hen j hltj
                  clear hen e2 e3
                  have HVI := Lib.hid (validIns_any nm R ap (some ⟨m, off, none⟩) A.length ac bs.length bc w0.heap.size mn K (code.getD j default) (w3.alloc (.cells #[.int .u8 (code.getD j default).op, .int .i64 (code.getD j default).dst, .int .i64 (code.getD j default).x, .int .i64 (code.getD j default).y, .int .i64 (code.getD j default).imm, .string (code.getD j default).sym] 54)) (HVJ.out.keep (bAlloc (Nat.le_refl _) (Below.refl _ _))).1 hsy hop)
                  have HNI := Lib.hid (fun (h : vIns R K (code.getD j default) = true) q (hq : q < j + 1) => (show vIns R K (code.getD q default) = true by rcases Nat.lt_succ_iff_lt_or_eq.1 hq with h3 | rfl; exact HAJ.out q h3; exact h))
                  have HFI := Lib.hid (fun (h : ¬ vIns R K (code.getD j default) = true) => HOB.out (fun h2 => h ((HBI.out.1 h2).1 j hltj)))
                  generalize code.getD j default = ii at n0 n1 n2 n3 n4 n5 HVI HNI HFI
                  obtain ⟨op, dst, xx, yy, imm, sym⟩ := ii
                  simp only at n0 n1 n2 n3 n4 n5 HVI HNI HFI
                  generalize vIns R K ⟨op, dst, xx, yy, imm, sym⟩ = vi at HVI HNI HFI
                  have HBA := Lib.hid (show Below w3.heap.size w3 (w3.alloc (.cells #[.int .u8 op, .int .i64 dst, .int .i64 xx, .int .i64 yy, .int .i64 imm, .string sym] 54)) from bAlloc (Nat.le_refl _) (Below.refl _ _))
                  clear hsy hop
                  go_wp2_with fail
                  refine HVI.out.mono ?_
                  rintro e w4 ⟨rfl, hb4⟩
                  have HV4 := Lib.hid (HVJ.out.keep (HBA.out.trans (hb4.mono HBA.out.size)))
                  have HB4 := Lib.hid (HBJ.out.trans ((HBA.out.trans (hb4.mono HBA.out.size)).mono HBJ.out.size))
                  clear HVI hb4 HBA f0 f1 f2 f3 fl2 n0 n1 n2 n3 n4 n5 hm2
                  cases vi
                  · go_wp2_with fail
                    go_ret
                    exact ⟨by rw [HFI.out (by decide)] <;> rfl, HB0.out.trans (HV4.out.2.1.mono HB0.out.size)⟩
                  · go_wp2_with fail
                    go_roundw
                    case rel => exact ⟨j + 1, by go_num, by omega, HV4, HB4, HNI.out (by first | trivial | rfl)⟩
                    case measure => simp [intOf]; omega
                · skip
                  have hjn : j = code.length := by omega
                  subst hjn
                  have rB := HRB.out.below HBJ.out HRB.out.lt
                  have q0 := rB.at 0 rfl
                  have q1 := rB.at 1 rfl
                  have q2 := rB.at 2 rfl
                  have q3 := rB.at 3 rfl
                  have q4 := rB.at 4 rfl
                  have ql := rB.lt
                  clear rB
                  have HVE := Lib.hid (validEnd_any nm R x tg els ap (some ⟨m, off, none⟩) cp A.length ac bs.length bc code.length cc kind code w3 HEK.out)
                  have HBE := Lib.hid (fun (h : ¬ vEnd R bs.length ⟨code, kind, x, tg, els⟩ = true) => HOB.out (fun h2 => h (HBI.out.1 h2).2))
                  have HBT := Lib.hid (fun (h : vEnd R bs.length ⟨code, kind, x, tg, els⟩ = true) => HNB.out (HBI.out.2 ⟨HAJ.out, h⟩))
                  generalize vEnd R bs.length ⟨code, kind, x, tg, els⟩ = ve at HVE HBE HBT
                  go_wp2_with fail
                  refine HVE.out.mono ?_
                  rintro e w4 ⟨rfl, hb4⟩
                  have HV4 := Lib.hid (HVJ.out.keep hb4)
                  clear HVE hb4 f0 f1 f2 f3 fl2 q0 q1 q2 q3 q4 ql
                  cases ve
                  · go_wp2_with fail
                    go_ret
                    exact ⟨by rw [HBE.out (by decide)] <;> rfl, HB0.out.trans (HV4.out.2.1.mono HB0.out.size)⟩
                  · go_wp2_with fail
                    go_roundw
                    case rel => exact ⟨k + 1, by go_num, by omega, HV4, HBT.out (by first | trivial | rfl)⟩
                    case measure => simp [intOf]; omega
            · skip
              have hkn : k = bs.length := by omega
              subst hkn
              have hr : r = true := HR.out.2 ⟨HC.out.1, HC.out.2.1, HC.out.2.2, HAA.out, HSA.out, HAll.out⟩
              subst hr
              go_wp2_with fail
              go_ret
              exact ⟨rfl, HB0.out.trans (HV.out.2.1.mono HB0.out.size)⟩
end Go.Proofs.YtkcfbonchhidlaaGreatDoor

set_option linter.unusedVariables false
set_option linter.unusedSimpArgs false
namespace Go.Proofs.YtkcfbonchhidlaaGreatDoor
open Go.RowKit

def Dense (n : Nat) (out : List Int) : Prop := ∀ a, a < n → ∀ c : Nat, (c : Int) < out.getD a (-1) → ∃ b, b < n ∧ out.getD b (-1) = (c : Int)
theorem pickG_below (n : Nat) (A : Nat → Nat → Bool) (k : Int) (out : List Int) (a c : Nat) (h : (c : Int) < pickG n A k out a) : ∃ b, b < n ∧ A a b = true ∧ out.getD b (-1) = (c : Int) := by
  unfold pickG at h
  cases hf : (List.range k.toNat).find? (freeG n A out a) with
  | none => rw [hf] at h; exact absurd h (by show ¬ (c : Int) < -1; omega)
  | some d =>
    rw [hf] at h
    have hcd : c < d := by
      have h : (c : Int) < (d : Int) := h
      omega
    have h1 := (List.find?_range_eq_some.1 hf).2.2 c hcd
    have h2 : freeG n A out a c = false := by simpa using h1
    unfold freeG at h2
    obtain ⟨b, hb, hne⟩ := List.all_eq_false.1 h2
    rw [mem_nbs] at hb
    exact ⟨b, hb.1, hb.2, by simpa using hne⟩
theorem selectG_dense {n : Nat} {A : Nat → Nat → Bool} (hirr : ∀ a, A a a = false) {k : Int} : ∀ (l : List Nat) (out : List Int), out.length = n → l.Nodup → (∀ x ∈ l, x < n ∧ out.getD x (-1) = -1) → Dense n out → Dense n (selectG n A k l out)
  | [], out, _, _, _, h => h
  | a :: l, out, hlen, hn, hl, h => by
    unfold selectG
    rw [List.nodup_cons] at hn
    obtain ⟨han, hal⟩ := hl a (List.mem_cons_self ..)
    have G : ∀ b, (out.set a (pickG n A k out a)).getD b (-1) = if a = b then pickG n A k out a else out.getD b (-1) := fun b => getD_set _ _ _ _ (by omega)
    refine selectG_dense hirr l _ (by simp [hlen]) hn.2 (fun x hx => ⟨(hl x (List.mem_cons_of_mem _ hx)).1, ?_⟩) ?_
    · rw [G, if_neg (fun e : a = x => by subst e; exact hn.1 hx)]
      exact (hl x (List.mem_cons_of_mem _ hx)).2
    · intro b hb c hc
      rw [G] at hc
      by_cases e : a = b
      · rw [if_pos e] at hc
        obtain ⟨d, hd, hA, hv⟩ := pickG_below n A k out a c hc
        refine ⟨d, hd, ?_⟩
        rw [G, if_neg (fun e => by subst e; rw [hirr] at hA; cases hA)]
        exact hv
      · rw [if_neg e] at hc
        obtain ⟨d, hd, hv⟩ := h b hb c hc
        refine ⟨d, hd, ?_⟩
        rw [G, if_neg (fun e => by subst e; omega)]
        exact hv
theorem colorG_dense {n : Nat} {A : Nat → Nat → Bool} (hirr : ∀ a, A a a = false) {k : Int} : Dense n (colorG n A k) := by
  obtain ⟨h1, h2, h3⟩ := removed (n := n) (A := A) (k := k)
  have G : ∀ b, (List.replicate n (-1 : Int)).getD b (-1) = -1 := by
    intro b
    simp only [List.getD_eq_getElem?_getD, List.getElem?_replicate]
    by_cases e : b < n <;> simp [e]
  refine selectG_dense hirr _ _ (by simp) (List.pairwise_reverse.2 (h2.imp fun h => h.symm)) (fun x hx => ⟨(h3 x).1 (List.mem_reverse.1 hx), G x⟩) fun a _ c hc => ?_
  rw [G] at hc; omega
theorem nbs_lt {n : Nat} {A : Nat → Nat → Bool} (hirr : ∀ a, A a a = false) {a : Nat} (ha : a < n) : (nbs n A a).length < n := by
  have h := len_le_of_sub (a :: nbs n A a) (List.range n) (List.nodup_cons.2 ⟨fun h => (by rw [mem_nbs, hirr] at h; cases h.2), List.Nodup.sublist List.filter_sublist List.nodup_range⟩) (fun x hx => by
    rw [List.mem_range]
    rcases List.mem_cons.1 hx with rfl | h
    · exact ha
    · exact (mem_nbs.1 h).1)
  rw [List.length_cons, List.length_range] at h
  omega

theorem slN_ge (A : List Int) : ∀ k i, i < k → A.getD i (-1) + 1 ≤ slN A k
  | 0, i, h => absurd h (Nat.not_lt_zero i)
  | k + 1, i, h => by
    unfold slN
    by_cases e : i = k
    · subst e; exact Int.le_max_right _ _
    · exact Int.le_trans (slN_ge A k i (by omega)) (Int.le_max_left _ _)
theorem slN_pos (A : List Int) : ∀ k, 0 ≤ slN A k
  | 0 => Int.le_refl _
  | k + 1 => Int.le_trans (slN_pos A k) (Int.le_max_left _ _)
theorem slN_hit (A : List Int) : ∀ k, slN A k = 0 ∨ ∃ i, i < k ∧ slN A k = A.getD i (-1) + 1
  | 0 => .inl rfl
  | k + 1 => by
    unfold slN
    rcases Int.le_total (slN A k) (A.getD k (-1) + 1) with h | h
    · rw [Int.max_eq_right h]; exact .inr ⟨k, by omega, rfl⟩
    · rw [Int.max_eq_left h]
      rcases slN_hit A k with h1 | ⟨i, hi, h1⟩
      · exact .inl h1
      · exact .inr ⟨i, by omega, h1⟩

structure VaG (E : List (List Int)) (R : Nat) (P : Nat → Int × Int) (n : Int) : Prop where
  pos : 0 ≤ n
  big : n ≤ 64
  kind : ∀ a, a < R → (2 ≤ (P a).1 ∧ (P a).1 < 10 ∧ (P a).2 = -1) ∨ ((P a).1 = 0 ∧ 0 ≤ (P a).2 ∧ (P a).2 < n)
  used : ∀ c : Nat, (c : Int) < n → ∃ a, a < R ∧ (P a).1 = 0 ∧ (P a).2 = (c : Int)
  edge : ∀ r, r < R → ∀ q ∈ E.getD r [], ∃ k : Nat, q = (k : Int) ∧ k < R ∧ P r ≠ P k

theorem vaG {E : List (List Int)} {R : Nat} (hR : R ≤ 64) (hE : ∀ r, r < R → ∀ q ∈ E.getD r [], ∃ k : Nat, q = (k : Int) ∧ k < R ∧ k ≠ r) {C : List Int} {S : List Nat} {A : List Int}
    (hC : C = colorG R (adjG E) 8) (hS : S = spillN C R) (hA : A = colorG S.length (adjG (amongE E S)) S.length) : VaG E R (placesG C S A R) (slN A S.length) := by
  have hSn : S.Nodup := by rw [hS]; exact spillN_nodup C R
  have hSl : S.length ≤ R := by rw [hS]; exact spillN_len C R
  have hSm : ∀ a, a ∈ S ↔ a < R ∧ C.getD a (-1) < 0 := fun a => by rw [hS]; exact mem_spillN
  have hAf : ∀ i, i < S.length → 0 ≤ A.getD i (-1) ∧ A.getD i (-1) < S.length := fun i hi => by
    have h := colorG_few (n := S.length) (A := adjG (amongE E S)) (adj_sym _) (adj_irr _) (k := S.length) (fun a ha => nbs_lt (adj_irr _) ha) hi
    rw [← hA] at h; exact h
  have hCr := (colorG_ok (n := R) (A := adjG E) (k := 8) (adj_sym E) (adj_irr E))
  rw [← hC] at hCr
  have hAr := (colorG_ok (n := S.length) (A := adjG (amongE E S)) (k := S.length) (adj_sym _) (adj_irr _))
  rw [← hA] at hAr
  have hP : ∀ a, a < R → placesG C S A R a = if a ∈ S then (0, A.getD (S.idxOf a) (-1)) else (2 + C.getD a (-1), -1) := fun a ha => by
    unfold placesG
    rw [pl2_at _ _ _ hSn _ _ (Nat.le_refl _), List.take_length, pl1_at]
    by_cases h : a ∈ S
    · rw [if_pos h, if_pos h]
    · have h2 := mt (hSm a).2 h
      have h3 : a < R ∧ 0 ≤ C.getD a (-1) := ⟨ha, by omega⟩
      rw [if_neg h, if_neg h, if_pos h3]
  have hix : ∀ a, a ∈ S → S.idxOf a < S.length ∧ S.getD (S.idxOf a) 0 = a := fun a h => by
    have hl := List.idxOf_lt_length_of_mem h
    exact ⟨hl, by rw [List.getD_eq_getElem?_getD, List.getElem?_eq_getElem hl]; simp⟩
  refine ⟨slN_pos _ _, ?_, fun a ha => ?_, fun c hc => ?_, fun r hr q hq => ?_⟩
  · rcases slN_hit A S.length with h | ⟨i, hi, h⟩
    · omega
    · have := hAf i hi; omega
  · rw [hP a ha]
    by_cases h : a ∈ S
    · rw [if_pos h]
      have hi := (hix a h).1
      have h2 := slN_ge A S.length _ hi
      have := hAf _ hi
      exact .inr ⟨rfl, this.1, by show A.getD (S.idxOf a) (-1) < _; omega⟩
    · rw [if_neg h]
      have h2 := mt (hSm a).2 h
      have := hCr.rng a ha
      exact .inl ⟨by show 2 ≤ 2 + C.getD a (-1); omega, by show 2 + C.getD a (-1) < 10; omega, rfl⟩
  · have hd : Dense S.length A := by rw [hA]; exact colorG_dense (adj_irr _)
    have hb : ∃ b, b < S.length ∧ A.getD b (-1) = (c : Int) := by
      rcases slN_hit A S.length with h | ⟨i, hi, h⟩
      · omega
      · by_cases e : (c : Int) = A.getD i (-1)
        · exact ⟨i, hi, e.symm⟩
        · exact hd i hi c (by omega)
    obtain ⟨b, hb, hv⟩ := hb
    have hm : S[b] ∈ S := List.getElem_mem hb
    refine ⟨S[b], ((hSm _).1 hm).1, ?_⟩
    rw [hP _ ((hSm _).1 hm).1, if_pos hm, List.Nodup.idxOf_getElem hSn]
    exact ⟨rfl, hv⟩
  · obtain ⟨k, rfl, hk, hkr⟩ := hE r hr q hq
    refine ⟨k, rfl, hk, ?_⟩
    have hadj : adjG E r k = true := by
      have : adjG E r k = (r != k && ((E.getD r []).contains (k : Int) || (E.getD k []).contains (r : Int))) := rfl
      rw [this]
      simp only [Bool.and_eq_true, Bool.or_eq_true, bne_iff_ne]
      exact ⟨fun e => hkr e.symm, .inl (List.contains_iff_mem.2 hq)⟩
    rw [hP r hr, hP k hk]
    by_cases h1 : r ∈ S
    · rw [if_pos h1]
      by_cases h2 : k ∈ S
      · rw [if_pos h2]
        obtain ⟨i1, j1⟩ := hix r h1
        obtain ⟨i2, j2⟩ := hix k h2
        have ha := amongE_adj E S hSn _ _ i1 i2
        rw [j1, j2, hadj] at ha
        have hp := hAr.prp _ _ i1 i2 ha (hAf _ i1).1
        intro e
        injection e with _ e
        exact hp e
      · rw [if_neg h2]
        have := mt (hSm k).2 h2
        intro e
        injection e with e _
        omega
    · rw [if_neg h1]
      have h3 := mt (hSm r).2 h1
      by_cases h2 : k ∈ S
      · rw [if_pos h2]
        intro e
        injection e with e _
        omega
      · rw [if_neg h2]
        have hp := hCr.prp r k hr hk hadj (by omega)
        intro e
        injection e with e _
        omega
end Go.Proofs.YtkcfbonchhidlaaGreatDoor

set_option linter.unusedVariables false
set_option linter.unusedSimpArgs false
namespace Go.Proofs.YtkcfbonchhidlaaGreatDoor
open Go.RowKit

theorem okIns_of_v {R : Int} {K : Kinds} {i : IIns} (h : vIns R K i = true) : okIns R i = true := by
  obtain ⟨op, dst, x, y, imm, sym⟩ := i
  have hop : op = 1 ∨ op = 2 ∨ op = 3 ∨ op = 4 ∨ op = 5 ∨ op = 6 ∨ op = 7 ∨ op = 8 ∨ op = 9 ∨ op = 10 ∨ op = 11 ∨ op = 12 ∨ op = 13 ∨ op = 14 ∨ op = 15 ∨ op = 16 ∨ (op ≠ 1 ∧ op ≠ 2 ∧ op ≠ 3 ∧ ¬ (op = 4 ∨ op = 6) ∧ ¬ (op = 5 ∨ op = 7) ∧ op ≠ 8 ∧ op ≠ 9 ∧ op ≠ 10 ∧ ¬ (op = 11 ∨ op = 12) ∧ ¬ (op = 13 ∨ op = 14) ∧ op ≠ 15 ∧ op ≠ 16) := by omega
  unfold vIns at h
  simp only [] at h
  rcases hop with rfl | rfl | rfl | rfl | rfl | rfl | rfl | rfl | rfl | rfl | rfl | rfl | rfl | rfl | rfl | rfl | ⟨h1, h2, h3, h4, h5, h8, h9, h10, h11, h13, h15, h16⟩
  all_goals (try (
    simp only [Nat.reduceEqDiff, if_true, if_false, or_false, false_or, or_true, true_or, or_self, Bool.and_eq_true] at h
    simp [okIns, usesI, hasDef, h]
    done))
  rw [if_neg h1, if_neg h2, if_neg h3, if_neg h4, if_neg h5, if_neg h8, if_neg h9, if_neg h10, if_neg h11, if_neg h13, if_neg h15, if_neg h16] at h
  cases h
theorem wf_of_v {R : Int} {A S : List Arr} {bs : List IBlk} (h : vFun R A S bs = true) : wfF R bs = true := by
  obtain ⟨h0, h1, _, _, _, h5⟩ := (vFun_iff R A S bs).1 h
  refine wf_yes (fun e => h0 (List.length_eq_zero_iff.1 e)) h1 fun k hk => ?_
  obtain ⟨hi, he⟩ := (vBlk_iff _ _ _ _).1 (h5 k hk)
  generalize bs.getD k default = b at hi he
  have hall : b.code.all (okIns R) = true := all_getD.2 fun j hj => okIns_of_v (hi j hj)
  unfold okBlk
  rw [hall]
  unfold vEnd at he
  unfold succI
  repeat' split at he
  all_goals simp_all
  all_goals (try split)
  all_goals simp_all

inductive Tg
  | p
  | r (nm : ByteArray)
  | b (k : Int)
abbrev TI := GI × Tg
def add1 (g : Gen) (x : TI) : Gen := match x.2 with
  | .p => emitG [x.1] g
  | .r nm => referG x.1 nm g
  | .b k => jumpG x.1 k g
def addT (l : List TI) (g : Gen) : Gen := l.foldl add1 g
def pT (l : List GI) : List TI := l.map fun i => (i, .p)
theorem addT_app (l t : List TI) (g : Gen) : addT (l ++ t) g = addT t (addT l g) := by unfold addT; rw [List.foldl_append]
theorem emit_add : ∀ (l : List GI) (g : Gen), emitG l g = addT (pT l) g
  | [], g => by show { g with code := g.code ++ [] } = g; rw [List.append_nil]
  | i :: l, g => by
    show _ = addT (pT l) (emitG [i] g)
    rw [← emit_add l]
    show Gen.mk (g.code ++ i :: l) _ _ _ = Gen.mk ((g.code ++ [i]) ++ l) _ _ _
    rw [List.append_assoc]; rfl
def readT (c : Cfg) (v scr : Int) : Int × List TI := if (placeG c v).1 ≠ 0 then ((placeG c v).1, []) else (scr, [(⟨18, scr, 0, 0, c.sp + (placeG c v).2⟩, .p)])
def writeT (c : Cfg) (v : Int) (set : Int → List TI) : List TI := if (placeG c v).1 ≠ 0 then set (placeG c v).1 else set 1 ++ [(⟨19, 1, 0, 0, c.sp + (placeG c v).2⟩, .p)]
theorem read_T (c : Cfg) (v scr : Int) (g : Gen) : readG c v scr g = ((readT c v scr).1, addT (readT c v scr).2 g) := by
  unfold readG readT
  split <;> rfl
theorem write_T (c : Cfg) (v : Int) (set : Int → Gen → Gen) (st : Int → List TI) (hs : ∀ r g, set r g = addT (st r) g) (g : Gen) : writeG c v set g = addT (writeT c v st) g := by
  unfold writeG writeT
  split
  · rw [hs]
  · rw [hs, addT_app]; rfl
theorem write_E (c : Cfg) (v : Int) (f : Int → List GI) (g : Gen) : writeG c v (fun r => emitG (f r)) g = addT (writeT c v fun r => pT (f r)) g := write_T c v _ _ (fun r g => emit_add (f r) g) g
def insT (c : Cfg) (i : IIns) : List TI :=
  if i.op = 1 then writeT c i.dst (fun r => pT (constG r i.imm))
  else if i.op = 2 then
    if placeG c i.dst = placeG c i.x then []
    else (readT c i.x 1).2 ++ writeT c i.dst (fun r => if r ≠ (readT c i.x 1).1 then pT [⟨15, r, (readT c i.x 1).1, 0, 0⟩] else [])
  else if i.op = 3 then (readT c i.x 1).2 ++ ((readT c i.y 14).2 ++ writeT c i.dst (fun r => pT (operG i.imm.toNat r (readT c i.x 1).1 (readT c i.y 14).1)))
  else if i.op = 4 then (readT c i.x 1).2 ++ writeT c i.dst (fun r => pT [⟨18, r, (readT c i.x 1).1, 0, c.ar i.sym⟩])
  else if i.op = 6 then (readT c i.x 1).2 ++ writeT c i.dst (fun r => [(⟨20, r, (readT c i.x 1).1, 0, 0⟩, .r i.sym)])
  else if i.op = 5 ∨ i.op = 7 then
    (readT c i.x 1).2 ++ ((readT c i.y 14).2 ++ (if i.op = 5 then pT [⟨19, (readT c i.y 14).1, (readT c i.x 1).1, 0, c.ar i.sym⟩] else [(⟨21, (readT c i.y 14).1, (readT c i.x 1).1, 0, 0⟩, .r i.sym)]))
  else if i.op = 8 then (readT c i.x 1).2 ++ pT [⟨25, (readT c i.x 1).1, 0, 0, i.imm⟩]
  else if i.op = 9 then writeT c i.dst (fun r => pT [⟨26, r, 0, 0, i.imm⟩])
  else if i.op = 10 then (readT c i.x 1).2 ++ pT [⟨27, (readT c i.x 1).1, 0, 0, i.imm⟩]
  else if i.op = 11 then [(⟨28, 0, 0, 0, 0⟩, .r i.sym)]
  else if i.op = 12 then [(⟨29, 0, 0, 0, 0⟩, .r i.sym)]
  else if i.op = 13 then pT [⟨14, 10 + i.imm, 0, 0, 0⟩]
  else if i.op = 14 then pT [⟨15, 10 + i.imm, 10 + i.imm, 0, 1⟩]
  else if i.op = 15 then writeT c i.dst (fun r => pT [⟨15, r, 10 + i.imm, 0, 0⟩])
  else if i.op = 16 then pT [⟨25, 10 + i.x, 0, 0, i.imm⟩]
  else []
theorem ins_T (c : Cfg) (i : IIns) (g : Gen) : insG c i g = addT (insT c i) g := by
  unfold insG insT
  simp only [read_T]
  by_cases h1 : i.op = 1
  · simp only [if_pos h1]; exact write_E c _ _ g
  simp only [if_neg h1]
  by_cases h2 : i.op = 2
  · simp only [if_pos h2]
    split
    · rfl
    · rw [addT_app]
      refine write_T c _ _ _ (fun r g => ?_) _
      split
      · exact emit_add _ g
      · rfl
  simp only [if_neg h2]
  by_cases h3 : i.op = 3
  · simp only [if_pos h3, addT_app]
    exact write_E c _ _ _
  simp only [if_neg h3]
  by_cases h4 : i.op = 4
  · simp only [if_pos h4, addT_app]
    exact write_E c _ _ _
  simp only [if_neg h4]
  by_cases h6 : i.op = 6
  · simp only [if_pos h6, addT_app]
    refine write_T c _ _ _ (fun r g => ?_) _
    rfl
  simp only [if_neg h6]
  by_cases h57 : i.op = 5 ∨ i.op = 7
  · simp only [if_pos h57, addT_app]
    split
    · exact emit_add _ _
    · rfl
  simp only [if_neg h57]
  by_cases h8 : i.op = 8
  · simp only [if_pos h8, addT_app]; exact emit_add _ _
  simp only [if_neg h8]
  by_cases h9 : i.op = 9
  · simp only [if_pos h9]; exact write_E c _ _ g
  simp only [if_neg h9]
  by_cases h10 : i.op = 10
  · simp only [if_pos h10, addT_app]; exact emit_add _ _
  simp only [if_neg h10]
  by_cases h11 : i.op = 11
  · simp only [if_pos h11]; rfl
  simp only [if_neg h11]
  by_cases h12 : i.op = 12
  · simp only [if_pos h12]; rfl
  simp only [if_neg h12]
  by_cases h13 : i.op = 13
  · simp only [if_pos h13]; exact emit_add _ g
  simp only [if_neg h13]
  by_cases h14 : i.op = 14
  · simp only [if_pos h14]; exact emit_add _ g
  simp only [if_neg h14]
  by_cases h15 : i.op = 15
  · simp only [if_pos h15]; exact write_E c _ _ g
  simp only [if_neg h15]
  split
  · exact emit_add _ g
  · rfl
def endT (c : Cfg) (b : IBlk) (next : Int) : List TI :=
  if b.kind = 3 then pT [⟨1, 0, 0, 0, 0⟩]
  else if b.kind = 2 ∧ b.tgt ≠ b.els then
    (readT c b.x 1).2 ++ (if b.tgt = next then [(⟨22, (readT c b.x 1).1, 0, 0, 0⟩, .b b.els)]
      else (⟨23, (readT c b.x 1).1, 0, 0, 0⟩, .b b.tgt) :: (if b.els ≠ next then [(⟨24, 0, 0, 0, 0⟩, .b b.els)] else []))
  else if b.tgt ≠ next then [(⟨24, 0, 0, 0, 0⟩, .b b.tgt)]
  else []
theorem end_T (c : Cfg) (b : IBlk) (next : Int) (g : Gen) : endG c b next g = addT (endT c b next) g := by
  unfold endG endT
  simp only [read_T]
  split
  · exact emit_add _ g
  split
  · rw [addT_app]
    split
    · rfl
    · split <;> rfl
  split <;> rfl
def blkT (c : Cfg) (b : IBlk) (k : Nat) : List TI := b.code.flatMap (insT c) ++ endT c b ((k : Int) + 1)
theorem code_T (c : Cfg) : ∀ (l : List IIns) (g : Gen), codeG c l g = addT (l.flatMap (insT c)) g
  | [], g => rfl
  | i :: l, g => by
    show codeG c l (insG c i g) = _
    rw [code_T c l, ins_T, List.flatMap_cons, addT_app]
theorem blk_T (c : Cfg) (b : IBlk) (k : Nat) (g : Gen) : blkG c b k g = addT (blkT c b k) { g with starts := g.starts ++ [(g.code.length : Int)] } := by
  unfold blkG blkT
  rw [code_T, end_T, addT_app]

theorem addT_code : ∀ (l : List TI) (g : Gen), (addT l g).code = g.code ++ l.map Prod.fst
  | [], g => by simp [addT]
  | x :: l, g => by
    show (addT l (add1 g x)).code = _
    rw [addT_code l]
    have : (add1 g x).code = g.code ++ [x.1] := by unfold add1; split <;> rfl
    rw [this]; simp
theorem addT_starts : ∀ (l : List TI) (g : Gen), (addT l g).starts = g.starts
  | [], g => rfl
  | x :: l, g => by
    show (addT l (add1 g x)).starts = _
    rw [addT_starts l]
    unfold add1; split <;> rfl
end Go.Proofs.YtkcfbonchhidlaaGreatDoor

