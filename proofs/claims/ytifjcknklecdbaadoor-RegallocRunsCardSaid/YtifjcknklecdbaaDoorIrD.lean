/- ir.Valid, by its contract. -/
import Derived.Test.YtifjcknklecdbaaDoorIrC
set_option linter.unusedVariables false
set_option linter.unusedSimpArgs false
namespace Go.Proofs.YtifjcknklecdbaaDoor
open Go.RowKit Go.Maps

/-- The first cells of a block. -/
def RowC2 (w : World) (b : Nat) (l : List Value) : Prop := b < w.heap.size ∧ ∀ k v, l[k]? = some v → w.cell? ⟨b, k, none⟩ = some v
theorem RowC2.lt {w : World} {b : Nat} {l : List Value} (h : RowC2 w b l) : b < w.heap.size := h.1
theorem RowC2.at {w : World} {b : Nat} {l : List Value} (h : RowC2 w b l) (k : Nat) {v : Value} (hv : l[k]? = some v) : w.cell? ⟨b, k, none⟩ = some v := h.2 k v hv
theorem RowC2.below {B : Nat} {w w' : World} {b : Nat} {l : List Value} (h : RowC2 w b l) (hb : Below B w w') (hB : b < B) : RowC2 w' b l :=
  ⟨Nat.lt_of_lt_of_le h.1 hb.size, fun k u hk => (hb.cell (p := ⟨b, k, none⟩) hB).trans (h.2 k u hk)⟩
theorem RowC2.made (w : World) (l : List Value) (t : TypeId) : RowC2 (w.alloc (.cells l.toArray t)) w.heap.size l :=
  ⟨by simp, fun k u hk => by
    unfold World.cell?
    rw [heap_alloc_new w]
    simpa using hk⟩
/-- The names of a function and of shared objects are strings that fit, its operations are bytes. -/
structure FnOk (A S : List Arr) (bs : List IBlk) : Prop where
  a : ∀ k, k < A.length → (A.getD k default).1.size ≤ maxLen
  s : ∀ k, k < S.length → (S.getD k default).1.size ≤ maxLen
  i : ∀ k, k < bs.length → ∀ j, j < (bs.getD k default).code.length → ((bs.getD k default).code.getD j default).sym.size ≤ maxLen ∧ ((bs.getD k default).code.getD j default).op < 256
  e : ∀ k, k < bs.length → -9223372036854775808 ≤ (bs.getD k default).x ∧ (bs.getD k default).x ≤ 9223372036854775807
theorem all_range {p : Nat → Bool} {n : Nat} : (List.range n).all p = true ↔ ∀ j, j < n → p j = true := by
  rw [List.all_eq_true]
  exact ⟨fun h j hj => h j (List.mem_range.2 hj), fun h j hj => h j (List.mem_range.1 hj)⟩
theorem all_getD {α : Type} [Inhabited α] {p : α → Bool} {l : List α} : l.all p = true ↔ ∀ j, j < l.length → p (l.getD j default) = true := by
  rw [List.all_eq_true]
  refine ⟨fun h j hj => h _ (by rw [List.getD_eq_getElem?_getD, List.getElem?_eq_getElem hj]; exact List.getElem_mem hj), fun h x hx => ?_⟩
  obtain ⟨j, hj, rfl⟩ := List.mem_iff_getElem.1 hx
  have := h j hj
  rwa [List.getD_eq_getElem?_getD, List.getElem?_eq_getElem hj] at this
theorem vFun_iff (R : Int) (A S : List Arr) (bs : List IBlk) : vFun R A S bs = true ↔ bs ≠ [] ∧ (0 ≤ R ∧ R ≤ 10000) ∧ A.length ≤ 4 ∧ (∀ j, j < A.length → okA A j = true) ∧ (∀ j, j < S.length → okS A S j = true) ∧ ∀ j, j < bs.length → vBlk R (kindS A S S.length) bs.length (bs.getD j default) = true := by
  unfold vFun
  rw [Bool.and_eq_true, Bool.and_eq_true, Bool.and_eq_true, Bool.and_eq_true, Bool.and_eq_true, all_range, all_range, all_getD]
  simp only [decide_eq_true_eq, and_assoc]
theorem vBlk_iff (R : Int) (K : Kinds) (n : Nat) (b : IBlk) : vBlk R K n b = true ↔ (∀ j, j < b.code.length → vIns R K (b.code.getD j default) = true) ∧ vEnd R n b = true := by
  unfold vBlk
  rw [Bool.and_eq_true, all_getD]
theorem no_of {b : Bool} {P : Prop} (h : b = true ↔ P) (hn : ¬ P) : b = false := by
  cases b
  · rfl
  · exact absurd (h.1 rfl) hn
/-- What Valid holds: its map of names. -/
def VRel (w0 : World) (mb n : Nat) (F : Kinds) (w : World) : Prop := MpAt w mb n (mapK F) ∧ Below w0.heap.size w0 w ∧ w0.heap.size ≤ mb
section
variable {w0 w w' : World} {mb n : Nat} {F : Kinds}
theorem VRel.keep (h : VRel w0 mb n F w) (hb : Below w.heap.size w w') : VRel w0 mb n F w' := ⟨h.1.of_block (hb.block _ h.1.lt), h.2.1.trans (hb.mono h.2.1.size), h.2.2⟩
theorem VRel.put (h : VRel w0 mb n F w) {n' : Nat} {s : ByteArray} {v : Bool} (hm : MpAt w' mb n' (updF (mapK F) s (.bool v))) (hg : w.grownBy w' (some mb)) : VRel w0 mb n' (updK F s v) w' :=
  ⟨by rw [← mapK_upd]; exact hm, h.2.1.trans ⟨hg.os, hg.tape, hg.output, hg.size, fun k hk => hg.block k (Nat.lt_of_lt_of_le hk h.2.1.size) (fun e => by cases e; have := h.2.2; omega)⟩, h.2.2⟩
end

set_option maxHeartbeats 12800000 in
set_option maxRecDepth 40000 in
theorem irValid_any (nm : ByteArray) (R : Int) (av bv sv : Value) (A S : List Arr) (bs : List IBlk) (w : World) (hA : ArsAt w av A) (hS : ArsAt w sv S) (hB : BksAt w bv bs) (hok : FnOk A S bs) (hAl : A.length ≤ 100000) (hSl : S.length ≤ 10000) (hbl : bs.length ≤ 100000) (hcl : ∀ k, k < bs.length → (bs.getD k default).code.length ≤ 100000) :
    Calls Tryd.prog 6 #[.agg #[.string nm, .int .i64 R, av, bv], sv] w fun e w' => e = .returned (.bool (vFun R A S bs)) ∧ Below w.heap.size w w' := by
  obtain ⟨ap, ac, rfl⟩ := hA.shape
  obtain ⟨bp, bc, rfl⟩ := hB.shape
  obtain ⟨spp, sc, rfl⟩ := hS.shape
  obtain ⟨r, hr⟩ : ∃ r, r = vFun R A S bs := ⟨_, rfl⟩
  rw [← hr]
  have hr2 := vFun_iff R A S bs
  rw [← hr] at hr2
  have HR := Lib.hid hr2
  clear hr hr2
  have hmm := @run_makeMap Tryd.prog
  have hb0 : Below w.heap.size w (w.alloc (.cells #[.string nm, .int .i64 R, .slice ap A.length ac, .slice bp bs.length bc] 25)) := bAlloc (Nat.le_refl _) (Below.refl _ _)
  have hF : RowC2 (w.alloc (.cells #[.string nm, .int .i64 R, .slice ap A.length ac, .slice bp bs.length bc] 25)) w.heap.size [.string nm, .int .i64 R, .slice ap A.length ac, .slice bp bs.length bc] := RowC2.made w _ 25
  have HA := Lib.hid (hA.below hb0 (Nat.le_refl _))
  have HS := Lib.hid (hS.below hb0 (Nat.le_refl _))
  have HBK := Lib.hid (hB.below hb0 (Nat.le_refl _))
  have HOK := Lib.hid hok
  have HCL := Lib.hid hcl
  have HB0 := Lib.hid hb0
  have HF := Lib.hid hF
  clear hA hS hB hok hcl hb0 hF
  go_enter Tryd.func6, Tryd.ntmps6
  go_upto_region 1 with fail
  generalize w.alloc (.cells #[.string nm, .int .i64 R, .slice ap A.length ac, .slice bp bs.length bc] 25) = w0 at HA HS HBK HB0 HF ⊢
  have f0 := HF.out.at 0 rfl
  have f1 := HF.out.at 1 rfl
  have f2 := HF.out.at 2 rfl
  have f3 := HF.out.at 3 rfl
  have fl := HF.out.lt
  by_cases c0 : bs.length = 0
  · skip
    have c0I : ((bs.length : Int) == 0) = true := beq_iff_eq.2 (by omega)
    go_wp2_with fail
    go_ret
    exact ⟨by rw [no_of HR.out (fun h => h.1 (List.length_eq_zero_iff.1 c0))] <;> rfl, HB0.out⟩
  have c0I : ((bs.length : Int) == 0) = false := beq_eq_false_iff_ne.2 (by omega)
  by_cases c1 : R < 0
  · skip
    go_wp2_with fail
    go_ret
    exact ⟨by rw [no_of HR.out (fun h => by have := h.2.1; omega)] <;> rfl, HB0.out⟩
  have c1I : ¬ R < 0 := c1
  by_cases c2 : R > 10000
  · skip
    go_wp2_with fail
    go_ret
    exact ⟨by rw [no_of HR.out (fun h => by have := h.2.1; omega)] <;> rfl, HB0.out⟩
  by_cases c3 : A.length > 4
  · have c3I : (A.length : Int) > 4 := by omega
    go_wp2_with fail
    go_ret
    exact ⟨by rw [no_of HR.out (fun h => by have := h.2.2.1; omega)] <;> rfl, HB0.out⟩
  have c3I : ¬ (A.length : Int) > 4 := by omega
  have HC := Lib.hid (show bs ≠ [] ∧ (0 ≤ R ∧ R ≤ 10000) ∧ A.length ≤ 4 from ⟨fun e => c0 (by rw [e]; rfl), by omega, by omega⟩)
  have HV0 := Lib.hid (show VRel w0 w0.heap.size 0 (fun _ => none) (w0.alloc (.map #[] 0)) from ⟨MpAt.made w0, bAlloc (Nat.le_refl _) (Below.refl _ _), Nat.le_refl _⟩)
  go_wp2_with fail
  clear f0 f1 f2 f3 c0 c0I c1 c1I c2 c3 c3I
  go_loopw [42] (fun s42 wx => ∃ k : Nat, s42 = .int .i64 k ∧ k ≤ A.length ∧ Hid (VRel w0 w0.heap.size k (kindA A k) wx) ∧ Hid (∀ j, j < k → okA A j = true)) (fun s42 _ => A.length - (intOf s42).toNat)
  case atStart => exact ⟨0, rfl, Nat.zero_le _, HV0, fun j hj => absurd hj (Nat.not_lt_zero j)⟩
  case round =>
    clear HV0
    obtain ⟨k, rfl, hk, HV, HAll⟩ := hrel
    obtain ⟨w1, rfl⟩ : ∃ W : World, W = wr := ⟨_, rfl⟩
    have mlt := HV.out.1.lt
    by_cases hlt : k < A.length
    · skip
      have hltI : (k : Int) < A.length := by omega
      have hsz := HOK.out.a k hlt
      obtain ⟨_, _, e1, hen⟩ := HA.out.below HV.out.2.1 (Nat.le_refl _)
      injection e1 with e1 e2 e3
      subst e1
      obtain ⟨m, off, rfl, hm, n0, n1⟩ := hen k hlt
      clear hen e2 e3
      have HOk := Lib.hid (show okA A k = (!((kindA A k) (A.getD k default).1).isSome && decide (1 ≤ (A.getD k default).2 ∧ (A.getD k default).2 ≤ 32)) from rfl)
      have HKn := Lib.hid (show kindA A (k + 1) = updK (kindA A (k)) (A.getD k default).1 true from rfl)
      generalize A.getD k default = en at n0 n1 hsz HOk HKn
      obtain ⟨s, ln⟩ := en
      simp only at n0 n1 hsz HOk HKn
      generalize kindA A (k) = F at HV HOk HKn
      have hV1 := HV.out.keep (w' := w1.alloc (.cells #[.string s, .int .i64 ln] 56)) (bAlloc (Nat.le_refl _) (Below.refl _ _))
      have hl := hV1.1.look2 (t := 54) (e := 4) Tryd.underlying54 (zeroB _) s hsz
      rw [(mapK_get F s).1, (mapK_get F s).2] at hl
      have HV1 := Lib.hid hV1
      clear hV1
      generalize (F s).getD false = u at hl
      generalize (F s).isSome = t at hl HOk
      cases t
      · skip
        by_cases d1 : ln < 1
        · skip
          go_wp2_with fail
          go_ret
          exact ⟨by rw [no_of HR.out (fun h => by have h2 := h.2.2.2.1 k hlt; rw [HOk.out] at h2; simp at h2; omega)] <;> rfl, HB0.out.trans ((HV1.out.2.1).mono HB0.out.size)⟩
        by_cases d2 : ln > 32
        · skip
          go_wp2_with fail
          go_ret
          exact ⟨by rw [no_of HR.out (fun h => by have h2 := h.2.2.2.1 k hlt; rw [HOk.out] at h2; simp at h2; omega)] <;> rfl, HB0.out.trans ((HV1.out.2.1).mono HB0.out.size)⟩
        have hpn := HV1.out.1
        go_wp2_with (first | (at_mapUpdate; refine wpList_put_mp rfl _ _ _ 54 4 rfl Tryd.underlying54 w0.heap.size _ (mapK F) hpn rfl s rfl hsz (by omega) (.bool true) rfl ?_))
        intro w3 hm3 hg3
        have HV3 := Lib.hid (HV1.out.put hm3 hg3)
        rw [← HKn.out] at HV3
        clear hm3 hg3 hpn
        go_wp2_with fail
        go_roundw
        case rel =>
          refine ⟨k + 1, by go_num, by omega, HV3, fun j hj => ?_⟩
          rcases Nat.lt_succ_iff_lt_or_eq.1 hj with h | rfl
          · exact HAll.out j h
          · rw [HOk.out]; simp; omega
        case measure => simp [intOf]; omega
      · skip
        go_wp2_with fail
        go_ret
        exact ⟨by rw [no_of HR.out (fun h => by have h2 := h.2.2.2.1 k hlt; rw [HOk.out] at h2; simp at h2)] <;> rfl, HB0.out.trans ((HV1.out.2.1).mono HB0.out.size)⟩
    · skip
      have hkn : k = A.length := by omega
      subst hkn
      clear hk hlt
      have HAA := HAll
      clear HAll
      go_wp2_with fail
      go_loopw [70] (fun s70 wx => ∃ k : Nat, s70 = .int .i64 k ∧ k ≤ S.length ∧ Hid (VRel w0 w0.heap.size (A.length + k) (kindS A S k) wx) ∧ Hid (∀ j, j < k → okS A S j = true)) (fun s70 _ => S.length - (intOf s70).toNat)
      case atStart => exact ⟨0, rfl, Nat.zero_le _, HV, fun j hj => absurd hj (Nat.not_lt_zero j)⟩
      case round =>
        clear HV mlt
        have hA4 := HC.out.2.2
        obtain ⟨k, rfl, hk, HV, HAll⟩ := hrel
        obtain ⟨w1, rfl⟩ : ∃ W : World, W = wr := ⟨_, rfl⟩
        have mlt := HV.out.1.lt
        by_cases hlt : k < S.length
        · skip
          have hltI : (k : Int) < S.length := by omega
          have hsz := HOK.out.s k hlt
          obtain ⟨_, _, e1, hen⟩ := HS.out.below HV.out.2.1 (Nat.le_refl _)
          injection e1 with e1 e2 e3
          subst e1
          obtain ⟨m, off, rfl, hm, n0, n1⟩ := hen k hlt
          clear hen e2 e3
          have HOk := Lib.hid (show okS A S k = (!((kindS A S k) (S.getD k default).1).isSome) from rfl)
          have HKn := Lib.hid (show kindS A S (k + 1) = updK (kindS A S (k)) (S.getD k default).1 false from rfl)
          generalize S.getD k default = en at n0 n1 hsz HOk HKn
          obtain ⟨s, ln⟩ := en
          simp only at n0 n1 hsz HOk HKn
          generalize kindS A S (k) = F at HV HOk HKn
          have hV1 := HV.out.keep (w' := w1.alloc (.cells #[.string s, .int .i64 ln] 56)) (bAlloc (Nat.le_refl _) (Below.refl _ _))
          have hl := hV1.1.look2 (t := 54) (e := 4) Tryd.underlying54 (zeroB _) s hsz
          rw [(mapK_get F s).1, (mapK_get F s).2] at hl
          have HV1 := Lib.hid hV1
          clear hV1
          generalize (F s).getD false = u at hl
          generalize (F s).isSome = t at hl HOk
          cases t
          · skip
            have hpn := HV1.out.1
            go_wp2_with (first | (at_mapUpdate; refine wpList_put_mp rfl _ _ _ 54 4 rfl Tryd.underlying54 w0.heap.size _ (mapK F) hpn rfl s rfl hsz (by omega) (.bool false) rfl ?_))
            intro w3 hm3 hg3
            have HV3 := Lib.hid (HV1.out.put hm3 hg3)
            rw [← HKn.out] at HV3
            clear hm3 hg3 hpn
            go_wp2_with fail
            go_roundw
            case rel =>
              refine ⟨k + 1, by go_num, by omega, HV3, fun j hj => ?_⟩
              rcases Nat.lt_succ_iff_lt_or_eq.1 hj with h | rfl
              · exact HAll.out j h
              · rw [HOk.out]; rfl
            case measure => simp [intOf]; omega
          · skip
            go_wp2_with fail
            go_ret
            exact ⟨by rw [no_of HR.out (fun h => by have h2 := h.2.2.2.2.1 k hlt; rw [HOk.out] at h2; simp at h2)] <;> rfl, HB0.out.trans ((HV1.out.2.1).mono HB0.out.size)⟩
        · skip
          have hkn : k = S.length := by omega
          subst hkn
          clear hk hlt
          have HSA := HAll
          clear HAll
          generalize A.length + S.length = mn at HV
          generalize hKK : kindS A S S.length = K at HV HR
          have rF := HF.out.below HV.out.2.1 HF.out.lt
          have f3 := rF.at 3 rfl
          have fl2 := rF.lt
          clear rF hKK
          go_wp2_with fail
          clear f3 fl2
          go_loopw [89] (fun s89 wx => ∃ k : Nat, s89 = .int .i64 k ∧ k ≤ bs.length ∧ Hid (VRel w0 w0.heap.size mn K wx) ∧ Hid (∀ j, j < k → vBlk R K bs.length (bs.getD j default) = true)) (fun s89 _ => bs.length - (intOf s89).toNat)
          case atStart => exact ⟨0, rfl, Nat.zero_le _, HV, fun j hj => absurd hj (Nat.not_lt_zero j)⟩
          case round =>
            clear HV mlt
            obtain ⟨k, rfl, hk, HV, HAll⟩ := hrel
            obtain ⟨w1, rfl⟩ : ∃ W : World, W = wr := ⟨_, rfl⟩
            by_cases hlt : k < bs.length
            · skip
              have hltI : (k : Int) < bs.length := by omega
              have hck := HCL.out k hlt
              have hik := HOK.out.i k hlt
              have hek := HOK.out.e k hlt
              obtain ⟨_, _, e1, hen⟩ := HBK.out.below HV.out.2.1 (Nat.le_refl _)
              injection e1 with e1 e2 e3
              subst e1
              obtain ⟨m, off, cp, cc, rfl, hm, hins, n0, n1, n2, n3, n4⟩ := hen k hlt
              clear hen e2 e3
              have HBI := Lib.hid (vBlk_iff R K bs.length (bs.getD k default))
              have HOB := Lib.hid (fun (h : ¬ vBlk R K bs.length (bs.getD k default) = true) => no_of HR.out (fun h2 => h (h2.2.2.2.2.2 k hlt)))
              have HNB := Lib.hid (fun (h : vBlk R K bs.length (bs.getD k default) = true) j (hj : j < k + 1) => (show vBlk R K bs.length (bs.getD j default) = true by rcases Nat.lt_succ_iff_lt_or_eq.1 hj with h3 | rfl; exact HAll.out j h3; exact h))
              generalize vBlk R K bs.length (bs.getD k default) = vb at HBI HOB HNB
              generalize bs.getD k default = en at n0 n1 n2 n3 n4 hins hck hik hek HBI
              obtain ⟨code, kind, x, tg, els⟩ := en
              simp only at n0 n1 n2 n3 n4 hins hck hik hek HBI
              have hV1 := HV.out.keep (w' := w1.alloc (.cells #[.slice cp code.length cc, .int .u8 kind, .int .i64 x, .int .i64 tg, .int .i64 els] 52)) (bAlloc (Nat.le_refl _) (Below.refl _ _))
              have HRB : Hid (RowC2 (w1.alloc (.cells #[.slice cp code.length cc, .int .u8 kind, .int .i64 x, .int .i64 tg, .int .i64 els] 52)) w1.heap.size [.slice cp code.length cc, .int .u8 kind, .int .i64 x, .int .i64 tg, .int .i64 els]) := RowC2.made w1 [.slice cp code.length cc, .int .u8 kind, .int .i64 x, .int .i64 tg, .int .i64 els] 52
              have HI1 := Lib.hid (hins.below (show Below w1.heap.size w1 (w1.alloc (.cells #[.slice cp code.length cc, .int .u8 kind, .int .i64 x, .int .i64 tg, .int .i64 els] 52)) from bAlloc (Nat.le_refl _) (Below.refl _ _)) (Nat.le_refl _))
              have HV1 := Lib.hid hV1
              have HIK := Lib.hid hik
              have HEK := Lib.hid hek
              clear hV1 hins hik hek
              go_upto_region 23 with fail
              generalize w1.alloc (.cells #[.slice cp code.length cc, .int .u8 kind, .int .i64 x, .int .i64 tg, .int .i64 els] 52) = w2 at HV1 HRB HI1 ⊢
              clear n0 n1 n2 n3 n4 hm
              have q0 := HRB.out.at 0 rfl
              have ql := HRB.out.lt
              go_wp2_with fail
              clear q0 ql
              go_loopw [96] (fun s96 wx => ∃ j : Nat, s96 = .int .i64 j ∧ j ≤ code.length ∧ Hid (VRel w0 w0.heap.size mn K wx) ∧ Hid (Below w2.heap.size w2 wx) ∧ Hid (∀ q, q < j → vIns R K (code.getD q default) = true)) (fun s96 _ => code.length - (intOf s96).toNat)
              case atStart => exact ⟨0, rfl, Nat.zero_le _, HV1, Below.refl _ _, fun j hj => absurd hj (Nat.not_lt_zero j)⟩
              case round =>
                clear HV1
                obtain ⟨j, rfl, hj, HVJ, HBJ, HAJ⟩ := hrel
                obtain ⟨w3, rfl⟩ : ∃ W : World, W = wr := ⟨_, rfl⟩
                have rF := HF.out.below HVJ.out.2.1 HF.out.lt
                have f0 := rF.at 0 rfl
                have f1 := rF.at 1 rfl
                have f2 := rF.at 2 rfl
                have f3 := rF.at 3 rfl
                have fl2 := rF.lt
                clear rF
                by_cases hltj : j < code.length
                · skip
                  have hltJ : (j : Int) < code.length := by omega
                  obtain ⟨hsy, hop⟩ := HIK.out j hltj
                  obtain ⟨_, _, e1, hen⟩ := HI1.out.below HBJ.out (Nat.le_refl _)
                  injection e1 with e1 e2 e3
                  subst e1
                  obtain ⟨m2, off2, rfl, hm2, n0, n1, n2, n3, n4, n5⟩ := hen j hltj
                  clear hen e2 e3
                  have HVI := Lib.hid (validIns_any nm R ap (some ⟨m, off, none⟩) A.length ac bs.length bc w0.heap.size mn K (code.getD j default) (w3.alloc (.cells #[.int .u8 (code.getD j default).op, .int .i64 (code.getD j default).dst, .int .i64 (code.getD j default).x, .int .i64 (code.getD j default).y, .int .i64 (code.getD j default).imm, .string (code.getD j default).sym] 59)) (HVJ.out.keep (bAlloc (Nat.le_refl _) (Below.refl _ _))).1 hsy hop)
                  have HNI := Lib.hid (fun (h : vIns R K (code.getD j default) = true) q (hq : q < j + 1) => (show vIns R K (code.getD q default) = true by rcases Nat.lt_succ_iff_lt_or_eq.1 hq with h3 | rfl; exact HAJ.out q h3; exact h))
                  have HFI := Lib.hid (fun (h : ¬ vIns R K (code.getD j default) = true) => HOB.out (fun h2 => h ((HBI.out.1 h2).1 j hltj)))
                  generalize code.getD j default = ii at n0 n1 n2 n3 n4 n5 HVI HNI HFI
                  obtain ⟨op, dst, xx, yy, imm, sym⟩ := ii
                  simp only at n0 n1 n2 n3 n4 n5 HVI HNI HFI
                  generalize vIns R K ⟨op, dst, xx, yy, imm, sym⟩ = vi at HVI HNI HFI
                  have HBA := Lib.hid (show Below w3.heap.size w3 (w3.alloc (.cells #[.int .u8 op, .int .i64 dst, .int .i64 xx, .int .i64 yy, .int .i64 imm, .string sym] 59)) from bAlloc (Nat.le_refl _) (Below.refl _ _))
                  clear hsy hop
                  go_wp2_with fail
                  refine HVI.out.mono ?_
                  rintro e w4 ⟨rfl, hb4⟩
                  have HV4 := Lib.hid (HVJ.out.keep (HBA.out.trans (hb4.mono HBA.out.size)))
                  have HB4 := Lib.hid (HBJ.out.trans ((HBA.out.trans (hb4.mono HBA.out.size)).mono HBJ.out.size))
                  clear HVI hb4 HBA f0 f1 f2 f3 fl2 n0 n1 n2 n3 n4 n5 hm2
                  cases vi
                  · go_wp2_with fail
                    go_ret
                    exact ⟨by rw [HFI.out (by decide)] <;> rfl, HB0.out.trans (HV4.out.2.1.mono HB0.out.size)⟩
                  · go_wp2_with fail
                    go_roundw
                    case rel => exact ⟨j + 1, by go_num, by omega, HV4, HB4, HNI.out (by first | trivial | rfl)⟩
                    case measure => simp [intOf]; omega
                · skip
                  have hjn : j = code.length := by omega
                  subst hjn
                  have rB := HRB.out.below HBJ.out HRB.out.lt
                  have q0 := rB.at 0 rfl
                  have q1 := rB.at 1 rfl
                  have q2 := rB.at 2 rfl
                  have q3 := rB.at 3 rfl
                  have q4 := rB.at 4 rfl
                  have ql := rB.lt
                  clear rB
                  have HVE := Lib.hid (validEnd_any nm R x tg els ap (some ⟨m, off, none⟩) cp A.length ac bs.length bc code.length cc kind code w3 HEK.out)
                  have HBE := Lib.hid (fun (h : ¬ vEnd R bs.length ⟨code, kind, x, tg, els⟩ = true) => HOB.out (fun h2 => h (HBI.out.1 h2).2))
                  have HBT := Lib.hid (fun (h : vEnd R bs.length ⟨code, kind, x, tg, els⟩ = true) => HNB.out (HBI.out.2 ⟨HAJ.out, h⟩))
                  generalize vEnd R bs.length ⟨code, kind, x, tg, els⟩ = ve at HVE HBE HBT
                  go_wp2_with fail
                  refine HVE.out.mono ?_
                  rintro e w4 ⟨rfl, hb4⟩
                  have HV4 := Lib.hid (HVJ.out.keep hb4)
                  clear HVE hb4 f0 f1 f2 f3 fl2 q0 q1 q2 q3 q4 ql
                  cases ve
                  · go_wp2_with fail
                    go_ret
                    exact ⟨by rw [HBE.out (by decide)] <;> rfl, HB0.out.trans (HV4.out.2.1.mono HB0.out.size)⟩
                  · go_wp2_with fail
                    go_roundw
                    case rel => exact ⟨k + 1, by go_num, by omega, HV4, HBT.out (by first | trivial | rfl)⟩
                    case measure => simp [intOf]; omega
            · skip
              have hkn : k = bs.length := by omega
              subst hkn
              have hr : r = true := HR.out.2 ⟨HC.out.1, HC.out.2.1, HC.out.2.2, HAA.out, HSA.out, HAll.out⟩
              subst hr
              go_wp2_with fail
              go_ret
              exact ⟨rfl, HB0.out.trans (HV.out.2.1.mono HB0.out.size)⟩
end Go.Proofs.YtifjcknklecdbaaDoor
