import Derived.Test.YtlajdcikhbocdaaDoorGenD
import Derived.Test.YtlajdcikhbocdaaDoorMgL
/- The shared objects that a function mentions: a function that is valid for some objects is valid for these. No walk here. -/
set_option linter.unusedVariables false
set_option linter.unusedSimpArgs false
namespace Go.Proofs.YtlajdcikhbocdaaDoor
open Go.RowKit

def nms (l : List Arr) : List ByteArray := l.map Prod.fst
theorem nms_get (l : List Arr) (k : Nat) (h : k < l.length) (h2 : k < (nms l).length) : (nms l)[k] = l[k].1 := List.getElem_map ..
theorem onL_iff (l : List Arr) (s : ByteArray) : (onL l s).isSome = true ↔ s ∈ nms l := by
  unfold onL nms
  rw [List.mem_map]
  constructor
  · intro h
    split at h
    · rename_i h1
      obtain ⟨a, ha, he⟩ := List.any_eq_true.1 h1
      exact ⟨a, ha, of_decide_eq_true he⟩
    · cases h
  · rintro ⟨a, ha, rfl⟩
    rw [if_pos (List.any_eq_true.2 ⟨a, ha, decide_eq_true rfl⟩)]; rfl
theorem mentI_mono (l : List Arr) (i : IIns) {s : ByteArray} (h : s ∈ nms l) : s ∈ nms (mentI l i) := by
  unfold mentI
  split
  · unfold nms; rw [List.map_append]; exact List.mem_append_left _ h
  · exact h
theorem mentI_in (l : List Arr) (i : IIns) (h : isS i.op = true) : i.sym ∈ nms (mentI l i) := by
  unfold mentI
  by_cases h2 : (onL l i.sym).isSome = false
  · rw [if_pos ⟨h, h2⟩]
    unfold nms; rw [List.map_append]; exact List.mem_append_right _ (List.mem_singleton.2 rfl)
  · rw [if_neg (fun e => h2 e.2)]
    exact (onL_iff l i.sym).1 (by cases e : (onL l i.sym).isSome with | true => rfl | false => exact absurd e h2)
theorem mentI_nodup (l : List Arr) (i : IIns) (h : (nms l).Nodup) : (nms (mentI l i)).Nodup := by
  unfold mentI
  split
  · rename_i h2
    unfold nms
    rw [List.map_append]
    refine List.nodup_append.2 ⟨h, by simp, fun a ha b hb => ?_⟩
    rw [List.map_cons, List.map_nil, List.mem_singleton] at hb
    subst hb
    intro e
    subst e
    have := (onL_iff l i.sym).2 ha
    rw [h2.2] at this; cases this
  · exact h
theorem mentI_from {P : ByteArray → Prop} (l : List Arr) (i : IIns) (hl : ∀ s ∈ nms l, P s) (h : isS i.op = true → P i.sym) : ∀ s ∈ nms (mentI l i), P s := by
  unfold mentI
  split
  · rename_i h2
    intro s hs
    unfold nms at hs
    rw [List.map_append] at hs
    rcases List.mem_append.1 hs with hs | hs
    · exact hl s hs
    · rw [List.map_cons, List.map_nil, List.mem_singleton] at hs
      subst hs; exact h h2.1
  · exact hl
theorem mentC_mono (l : List Arr) (c : List IIns) {s : ByteArray} (h : s ∈ nms l) : ∀ k, s ∈ nms (mentC l c k)
  | 0 => h
  | k + 1 => mentI_mono _ _ (mentC_mono l c h k)
theorem mentC_later (l : List Arr) (c : List IIns) {s : ByteArray} : ∀ d k, s ∈ nms (mentC l c k) → s ∈ nms (mentC l c (k + d))
  | 0, k, h => h
  | d + 1, k, h => mentI_mono _ _ (mentC_later l c d k h)
theorem mentC_nodup (l : List Arr) (c : List IIns) (h : (nms l).Nodup) : ∀ k, (nms (mentC l c k)).Nodup
  | 0 => h
  | k + 1 => mentI_nodup _ _ (mentC_nodup l c h k)
theorem mentC_from {P : ByteArray → Prop} (l : List Arr) (c : List IIns) (hl : ∀ s ∈ nms l, P s) (h : ∀ j, j < c.length → isS (c.getD j default).op = true → P (c.getD j default).sym) : ∀ k, k ≤ c.length → ∀ s ∈ nms (mentC l c k), P s
  | 0, _ => hl
  | k + 1, hk => mentI_from _ _ (mentC_from l c hl h k (by omega)) (h k (by omega))
theorem mentB_nodup (bs : List IBlk) : ∀ n, (nms (mentB bs n)).Nodup
  | 0 => List.nodup_nil
  | n + 1 => mentC_nodup _ _ (mentB_nodup bs n) _
theorem mentB_later (bs : List IBlk) {s : ByteArray} : ∀ d k, s ∈ nms (mentB bs k) → s ∈ nms (mentB bs (k + d))
  | 0, k, h => h
  | d + 1, k, h => mentC_mono _ _ (mentB_later bs d k h) _
theorem mentB_from {P : ByteArray → Prop} (bs : List IBlk) (h : ∀ k, k < bs.length → ∀ j, j < (bs.getD k default).code.length → isS ((bs.getD k default).code.getD j default).op = true → P ((bs.getD k default).code.getD j default).sym) : ∀ n, n ≤ bs.length → ∀ s ∈ nms (mentB bs n), P s
  | 0, _ => fun s hs => by cases hs
  | n + 1, hn => mentC_from _ _ (mentB_from bs h n (by omega)) (h n (by omega)) _ (Nat.le_refl _)
theorem mentB_in (bs : List IBlk) {k j : Nat} (hk : k < bs.length) (hj : j < (bs.getD k default).code.length) (h : isS ((bs.getD k default).code.getD j default).op = true) : ((bs.getD k default).code.getD j default).sym ∈ nms (mentB bs bs.length) := by
  have h1 : ((bs.getD k default).code.getD j default).sym ∈ nms (mentC (mentB bs k) (bs.getD k default).code (j + 1)) := mentI_in _ _ h
  have h2 := mentC_later (mentB bs k) (bs.getD k default).code ((bs.getD k default).code.length - (j + 1)) (j + 1) h1
  rw [show j + 1 + ((bs.getD k default).code.length - (j + 1)) = (bs.getD k default).code.length by omega] at h2
  have h3 := mentB_later bs (bs.length - (k + 1)) (k + 1) h2
  rwa [show k + 1 + (bs.length - (k + 1)) = bs.length by omega] at h3
open Classical in
/-- What a name stands for. -/
theorem kinds_at (F : Kinds) (l : List Arr) (v : Bool) (s : ByteArray) : ∀ k, k ≤ l.length → kinds F l v k s = if s ∈ nms (l.take k) then some v else F s
  | 0, _ => by simp [kinds, nms]
  | k + 1, hk => by
    have ih := kinds_at F l v s k (by omega)
    have e : l.getD k default = l[k] := by rw [List.getD_eq_getElem?_getD, List.getElem?_eq_getElem (by omega)]; rfl
    show updK (kinds F l v k) (l.getD k default).1 v s = _
    unfold updK
    rw [List.take_succ_eq_append_getElem (by omega), e]
    unfold nms at ih ⊢
    rw [List.map_append, List.map_cons, List.map_nil]
    by_cases h : s = l[k].1
    · rw [if_pos h, if_pos (List.mem_append_right _ (List.mem_singleton.2 h))]
    · rw [if_neg h, ih]
      by_cases h2 : s ∈ (l.take k).map Prod.fst
      · rw [if_pos h2, if_pos (List.mem_append_left _ h2)]
      · rw [if_neg h2, if_neg]
        intro h3
        rcases List.mem_append.1 h3 with h3 | h3
        · exact h2 h3
        · exact h (List.mem_singleton.1 h3)
open Classical in
theorem kinds_all (F : Kinds) (l : List Arr) (v : Bool) (s : ByteArray) : kinds F l v l.length s = if s ∈ nms l then some v else F s := by
  have := kinds_at F l v s l.length (Nat.le_refl _)
  rwa [List.take_length] at this
theorem vIns_same {R : Int} {K K' : Kinds} {i : IIns} (h : vIns R K i = true) (h1 : K i.sym = some true → K' i.sym = some true) (h2 : isS i.op = true → K i.sym = some false → K' i.sym = some false) : vIns R K' i = true := by
  obtain ⟨op, dst, x, y, imm, sym⟩ := i
  have hop : op = 1 ∨ op = 2 ∨ op = 3 ∨ op = 4 ∨ op = 5 ∨ op = 6 ∨ op = 7 ∨ op = 8 ∨ op = 9 ∨ op = 10 ∨ op = 11 ∨ op = 12 ∨ op = 13 ∨ op = 14 ∨ op = 15 ∨ op = 16 ∨ (op ≠ 1 ∧ op ≠ 2 ∧ op ≠ 3 ∧ ¬ (op = 4 ∨ op = 6) ∧ ¬ (op = 5 ∨ op = 7) ∧ op ≠ 8 ∧ op ≠ 9 ∧ op ≠ 10 ∧ ¬ (op = 11 ∨ op = 12) ∧ ¬ (op = 13 ∨ op = 14) ∧ op ≠ 15 ∧ op ≠ 16) := by omega
  unfold vIns at h ⊢
  simp only [] at h h1 h2 ⊢
  have key : ∀ b : Bool, ((K sym).isSome && ((K sym).getD false == b)) = true → (b = false → isS op = true) → ((K' sym).isSome && ((K' sym).getD false == b)) = true := by
    intro b hb hs
    cases e : K sym with
    | none => rw [e] at hb; cases hb
    | some c =>
      rw [e] at hb
      have hcb : c = b := by simpa using hb
      subst hcb
      cases c with
      | true => rw [h1 e]; rfl
      | false => rw [h2 (hs rfl) e]; rfl
  rcases hop with rfl | rfl | rfl | rfl | rfl | rfl | rfl | rfl | rfl | rfl | rfl | rfl | rfl | rfl | rfl | rfl | ⟨g1, g2, g3, g4, g5, g8, g9, g10, g11, g13, g15, g16⟩
  all_goals (try simp only [Nat.reduceEqDiff, if_true, if_false, or_false, false_or, or_true, true_or, or_self, decide_true, decide_false] at h ⊢)
  all_goals (try exact h)
  all_goals (try (
    simp only [Bool.and_eq_true] at h key ⊢
    first
      | exact ⟨⟨⟨h.1.1.1, key _ h.1.1.2 (fun e => by first | rfl | cases e)⟩, h.1.2⟩, h.2⟩
      | exact ⟨⟨⟨⟨key _ h.1.1.1.1 (fun e => by first | rfl | cases e), h.1.1.1.2⟩, h.1.1.2⟩, h.1.2⟩, h.2⟩))
  all_goals (
    rw [if_neg g1, if_neg g2, if_neg g3, if_neg g4, if_neg g5, if_neg g8, if_neg g9, if_neg g10, if_neg g11, if_neg g13, if_neg g15, if_neg g16] at h
    cases h)
/-- Which operations name shared objects, in a valid function. -/
theorem isS_false {R : Int} {K : Kinds} {i : IIns} (h : vIns R K i = true) (hs : isS i.op = true) : K i.sym = some false := by
  obtain ⟨op, dst, x, y, imm, sym⟩ := i
  have hop : op = 6 ∨ op = 7 ∨ op = 11 ∨ op = 12 := of_decide_eq_true hs
  unfold vIns at h
  simp only [] at h
  have key : ((K sym).isSome && ((K sym).getD false == false)) = true → K sym = some false := by
    intro hb
    cases e : K sym with
    | none => rw [e] at hb; cases hb
    | some c =>
      rw [e] at hb
      cases c with
      | false => rfl
      | true => exact absurd hb (by decide)
  rcases hop with rfl | rfl | rfl | rfl
  all_goals (
    simp only [Nat.reduceEqDiff, if_true, if_false, or_false, false_or, or_true, true_or, or_self, decide_true, decide_false] at h
    simp only [Bool.and_eq_true] at h key)
  · exact key h.1.1.2
  · exact key h.1.1.2
  · exact key h.1.1.1.1
  · exact key h.1.1.1.1
open Classical in
/-- A function that is valid for some shared objects is valid for those that it mentions. -/
theorem vFun_ment {R : Int} {A S : List Arr} {bs : List IBlk} (h : vFun R A S bs = true) : vFun R A (mentB bs bs.length) bs = true := by
  obtain ⟨h0, h1, h2, h3, h4, h5⟩ := (vFun_iff R A S bs).1 h
  have hK : ∀ s, kindS A S S.length s = if s ∈ nms S then some false else kindA A A.length s := fun s => kinds_all _ S false s
  have hKM : ∀ s, kindS A (mentB bs bs.length) (mentB bs bs.length).length s = if s ∈ nms (mentB bs bs.length) then some false else kindA A A.length s := fun s => kinds_all _ _ false s
  have hA : ∀ s, kindA A A.length s = if s ∈ nms A then some true else none := fun s => kinds_all _ A true s
  have hins : ∀ k, k < bs.length → ∀ j, j < (bs.getD k default).code.length → vIns R (kindS A S S.length) ((bs.getD k default).code.getD j default) = true := fun k hk j hj => ((vBlk_iff _ _ _ _).1 (h5 k hk)).1 j hj
  have hfrom : ∀ s ∈ nms (mentB bs bs.length), kindS A S S.length s = some false := mentB_from (P := fun s => kindS A S S.length s = some false) bs (fun k hk j hj hs => isS_false (hins k hk j hj) hs) bs.length (Nat.le_refl _)
  have hdis : ∀ s, kindS A S S.length s = some false → kindA A A.length s = none := by
    intro s hs
    rw [hK] at hs
    by_cases hS : s ∈ nms S
    · obtain ⟨a, ha, rfl⟩ := List.mem_map.1 hS
      obtain ⟨k, hk, rfl⟩ := List.mem_iff_getElem.1 ha
      have := h4 k hk
      unfold okS at this
      have e : S.getD k default = S[k] := by rw [List.getD_eq_getElem?_getD, List.getElem?_eq_getElem hk]; rfl
      rw [e, show kindS A S k = kinds (kindA A A.length) S false k from rfl, kinds_at _ _ _ _ k (by omega)] at this
      split at this
      · cases this
      · cases hc : kindA A A.length S[k].1 with
        | none => rfl
        | some c => rw [hc] at this; cases this
    · rw [if_neg hS, hA] at hs
      split at hs
      · cases hs
      · cases hs
  refine (vFun_iff R A _ bs).2 ⟨h0, h1, h2, h3, fun k hk => ?_, fun k hk => ?_⟩
  · unfold okS
    have e : (mentB bs bs.length).getD k default = (mentB bs bs.length)[k] := by rw [List.getD_eq_getElem?_getD, List.getElem?_eq_getElem hk]; rfl
    rw [e, show kindS A (mentB bs bs.length) k = kinds (kindA A A.length) (mentB bs bs.length) false k from rfl, kinds_at _ _ _ _ k (by omega)]
    have hin : (mentB bs bs.length)[k].1 ∈ nms (mentB bs bs.length) := List.mem_map.2 ⟨_, List.getElem_mem hk, rfl⟩
    rw [if_neg ?_, hdis _ (hfrom _ hin)]
    · rfl
    · intro h6
      have hnd := mentB_nodup bs bs.length
      obtain ⟨a, ha, he⟩ := List.mem_map.1 h6
      obtain ⟨q, hq, rfl⟩ := List.mem_iff_getElem.1 ha
      rw [List.length_take] at hq
      rw [List.getElem_take] at he
      have hql : q < (nms (mentB bs bs.length)).length := by unfold nms; rw [List.length_map]; omega
      have hkl : k < (nms (mentB bs bs.length)).length := by unfold nms; rw [List.length_map]; exact hk
      exact List.pairwise_iff_getElem.1 hnd q k hql hkl (by omega) ((nms_get _ q (by omega) hql).trans (he.trans (nms_get _ k hk hkl).symm))
  · obtain ⟨h6, h7⟩ := (vBlk_iff _ _ _ _).1 (h5 k hk)
    refine (vBlk_iff _ _ _ _).2 ⟨fun j hj => ?_, h7⟩
    refine vIns_same (h6 j hj) (fun hs => ?_) (fun hs hf => ?_)
    · rw [hKM, if_neg ?_]
      · rw [hK] at hs
        split at hs
        · cases hs
        · exact hs
      · intro hm
        rw [hfrom _ hm] at hs; cases hs
    · rw [hKM, if_pos (mentB_in bs hk hj hs)]
end Go.Proofs.YtlajdcikhbocdaaDoor

/- The law CodegenValid. -/
set_option linter.unusedVariables false
set_option linter.unusedSimpArgs false
namespace Go.Proofs.YtlajdcikhbocdaaDoor
open Go.RowKit Go.Maps

/-- A function and shared objects that came in. -/
structure FnIn (w : World) (av bv : Value) (A : List Arr) (bs : List IBlk) : Prop where
  a : ArsAt w av A
  b : BksAt w bv bs
  ax : ∀ k, k < A.length → (A.getD k default).1.size ≤ maxLen ∧ -9223372036854775808 ≤ (A.getD k default).2 ∧ (A.getD k default).2 ≤ 9223372036854775807
  bx : ∀ k, k < bs.length → ((bs.getD k default).code.length ≤ 9223372036854775807 ∧ ∀ j, j < (bs.getD k default).code.length → ((bs.getD k default).code.getD j default).sym.size ≤ maxLen ∧ ((bs.getD k default).code.getD j default).op < 256) ∧ -9223372036854775808 ≤ (bs.getD k default).x ∧ (bs.getD k default).x ≤ 9223372036854775807
theorem FnIn.below {w w' : World} {av bv : Value} {A : List Arr} {bs : List IBlk} (h : FnIn w av bv A bs) (hb : Below w.heap.size w w') : FnIn w' av bv A bs := ⟨h.a.below hb (Nat.le_refl _), h.b.below hb (Nat.le_refl _), h.ax, h.bx⟩
theorem Small.tot {R : Int} {A : List Arr} {bs : List IBlk} (h : Small R A bs) : sumC bs bs.length ≤ 300 := by
  rcases Nat.eq_zero_or_pos bs.length with e | e
  · rw [e]; exact Nat.zero_le _
  · have := (h.2.2.2 (bs.length - 1) (by omega)).2
    rwa [show bs.length - 1 + 1 = bs.length by omega] at this
theorem FnIn.tk {w : World} {av bv : Value} {A : List Arr} {bs : List IBlk} {R : Int} (h : FnIn w av bv A bs) (hs : Small R A bs) (hz : TabZ w) : TkOk w av bv A bs :=
  ⟨h.a, h.b, fun k hk => (h.ax k hk).1, fun k hk j hj => (h.bx k hk).1.2 j hj, fun k hk => (h.bx k hk).2, hs.2.2.1, hs.1, hs.tot, hz⟩
theorem FnIn.valid {w : World} {av bv sv : Value} {A S : List Arr} {bs : List IBlk} {R : Int} (h : FnIn w av bv A bs) (hs : Small R A bs) (nm : ByteArray) (hS : ArsAt w sv S) (hSx : ∀ k, k < S.length → (S.getD k default).1.size ≤ maxLen) (hSl : S.length ≤ 10000) :
    Calls Tryd.prog 12 #[.agg #[.string nm, .int .i64 R, av, bv], sv] w fun e w' => e = .returned (.bool (vFun R A S bs)) ∧ Below w.heap.size w w' :=
  irValid_any nm R av bv sv A S bs w h.a hS h.b ⟨fun k hk => (h.ax k hk).1, hSx, fun k hk j hj => (h.bx k hk).1.2 j hj, fun k hk => (h.bx k hk).2⟩ (by have := hs.2.2.1; omega) hSl (by have := hs.1; omega) (fun k hk => by have := (hs.2.2.2 k hk).1; omega)
/-- What the laws begin with: the function's box. -/
structure LawAt (w W1 : World) (nm : ByteArray) (R : Int) (av bv : Value) (A : List Arr) (bs : List IBlk) (x : World) : Prop where
  bel : Below W1.heap.size W1 x
  fn : FnIn x av bv A bs
  tab : Tab x
  tz : TabZ x
  row : RowC2 x w.heap.size [.string nm, .int .i64 R, av, bv]
theorem LawAt.keep {w W1 x y : World} {nm : ByteArray} {R : Int} {av bv : Value} {A : List Arr} {bs : List IBlk} (h : LawAt w W1 nm R av bv A bs x) (hb : Below x.heap.size x y) : LawAt w W1 nm R av bv A bs y :=
  ⟨h.bel.trans (hb.mono h.bel.size), h.fn.below hb, h.tab.of_below hb, h.tz.of_below hb, h.row.below hb h.row.lt⟩

set_option maxHeartbeats 6400000 in
set_option maxRecDepth 20000 in
theorem validLaw (nm : ByteArray) (R : Int) (av bv sv : Value) (A S : List Arr) (bs : List IBlk) (w : World) (hT : Tab w) (hZ : TabZ w) (hF : FnIn w av bv A bs) (hS : ArsAt w sv S) (hSx : ∀ k, k < S.length → (S.getD k default).1.size ≤ maxLen) (hSl : S.length ≤ 9223372036854775807) :
    Calls Tryd.prog 3 #[.agg #[.string nm, .int .i64 R, av, bv], sv] w fun e w' => e = .returned (.bool true) ∧ Below w.heap.size w w' := by
  obtain ⟨ap, ac, rfl⟩ := hF.a.shape
  obtain ⟨bp, bc, rfl⟩ := hF.b.shape
  obtain ⟨spp, sc, rfl⟩ := hS.shape
  obtain ⟨W1, hW1⟩ : ∃ W : World, W = w.alloc (.cells #[.string nm, .int .i64 R, .slice ap A.length ac, .slice bp bs.length bc] 25) := ⟨_, rfl⟩
  have hb0 : Below w.heap.size w W1 := by rw [hW1]; exact bAlloc (Nat.le_refl _) (Below.refl _ _)
  have HL1 := Lib.hid (show LawAt w W1 nm R (.slice ap A.length ac) (.slice bp bs.length bc) A bs W1 from ⟨Below.refl _ _, hF.below hb0, hT.of_below hb0, hZ.of_below hb0, by rw [hW1]; exact RowC2.made w _ 25⟩)
  have HS1 := Lib.hid (hS.below hb0 (Nat.le_refl _))
  have HB0 := Lib.hid hb0
  have HSX := Lib.hid hSx
  clear hb0 hF hT hZ hS hSx
  go_enter Tryd.func3, Tryd.ntmps3
  go_upto_region 1 with fail
  rw [← hW1]
  clear hW1
  go_wp2_with fail
  refine (awake21 W1 HL1.out.tab HL1.out.tz).mono ?_
  rintro e w2 ⟨rfl, hb2⟩
  have HL2 := Lib.hid (HL1.out.keep hb2)
  have HS2 := Lib.hid (HS1.out.below hb2 (Nat.le_refl _))
  clear hb2 HL1 HS1
  have r0 := HL2.out.row
  have rl := r0.lt
  have q0 := r0.at 0 rfl
  have q1 := r0.at 1 rfl
  have q2 := r0.at 2 rfl
  have q3 := r0.at 3 rfl
  clear r0
  go_wp2_with fail
  by_cases hsm : Small R A bs
  · refine (small_any nm R _ _ A bs w2 HL2.out.fn.a HL2.out.fn.b 1 (fun _ => rfl) (fun h => absurd hsm h)).mono ?_
    rintro e w3 ⟨rfl, hb3⟩
    have HL3 := Lib.hid (HL2.out.keep hb3)
    have HS3 := Lib.hid (HS2.out.below hb3 (Nat.le_refl _))
    have HSM := Lib.hid hsm
    clear hb3 HL2 HS2 hsm rl q0 q1 q2 q3
    by_cases h4 : 4 < S.length
    · have h4I : (S.length : Int) > 4 := by omega
      clear h4
      go_wp2_with fail
      go_ret
      exact ⟨rfl, HB0.out.trans (HL3.out.bel.mono HB0.out.size)⟩
    have h4I : ¬ (S.length : Int) > 4 := by omega
    have HS4 := Lib.hid (show S.length ≤ 10000 by omega)
    clear h4 hSl
    have r0 := HL3.out.row
    have rl := r0.lt
    have q0 := r0.at 0 rfl
    have q1 := r0.at 1 rfl
    have q2 := r0.at 2 rfl
    have q3 := r0.at 3 rfl
    clear r0
    go_wp2_with fail
    by_cases hv : vFun R A (mentB bs bs.length) bs = true
    · obtain ⟨h0, h1, -⟩ := (vFun_iff _ _ _ _).1 hv
      obtain ⟨Rn, rfl⟩ := Int.eq_ofNat_of_zero_le h1.1
      refine ((HL3.out.fn.tk HSM.out HL3.out.tz).obj (nm := nm) hv (by have := HSM.out.2.1; omega)).mono ?_
      rintro e w4 ⟨cv, rv, data, code, refs, rfl, hc, hr, hvo, hd, hb4⟩
      have HA := Lib.hid (arr_small hv)
      have HL4 := Lib.hid (HL3.out.keep hb4)
      have HS4' := Lib.hid (HS3.out.below hb4 (Nat.le_refl _))
      have HC := Lib.hid hc
      have HR := Lib.hid hr
      have HVO := Lib.hid hvo
      obtain ⟨cvp, cvc, rfl⟩ := hc.shape
      obtain ⟨rvp, rvc, rfl, -, -⟩ := id hr
      clear hb4 HL3 HS3 hc hr hvo rl q0 q1 q2 q3 hv h0 h1 h4I
      have r0 := HL4.out.row
      have rl := r0.lt
      have q0 := r0.at 0 rfl
      have q1 := r0.at 1 rfl
      have q2 := r0.at 2 rfl
      have q3 := r0.at 3 rfl
      clear r0
      have hbx : ∀ o : Obj, Below w4.heap.size w4 (w4.alloc o) := fun o => bAlloc (Nat.le_refl _) (Below.refl _ _)
      have HBX := Lib.hid hbx
      have HRO := Lib.hid (RowC2.made w4 [.string nm, .slice cvp code.length cvc, .int .i64 data, .slice rvp refs.length rvc] 31)
      clear hbx
      go_upto_region 6 with fail
      obtain ⟨w5, hw5⟩ : ∃ W : World, W = w4.alloc (.cells #[.string nm, .slice cvp code.length cvc, .int .i64 data, .slice rvp refs.length rvc] 31) := ⟨_, rfl⟩
      have hb5 : Below w4.heap.size w4 w5 := by rw [hw5]; exact HBX.out _
      have HRO : Hid (RowC2 w5 w4.heap.size [.string nm, .slice cvp code.length cvc, .int .i64 data, .slice rvp refs.length rvc]) := by rw [hw5]; exact HRO
      rw [← hw5]
      clear hw5 HBX
      have HL5 := Lib.hid (HL4.out.keep hb5)
      have HS5 := Lib.hid (HS4'.out.below hb5 (Nat.le_refl _))
      have HC5 := Lib.hid (HC.out.below hb5 (Nat.le_refl _))
      have HR5 := Lib.hid (HR.out.below hb5 (Nat.le_refl _))
      clear hb5 HL4 HS4' HC HR rl q0 q1 q2 q3
      have r0 := HL5.out.row
      have rl := r0.lt
      have q0 := r0.at 0 rfl
      have q1 := r0.at 1 rfl
      have q2 := r0.at 2 rfl
      have q3 := r0.at 3 rfl
      clear r0
      go_wp2_with fail
      refine (HL5.out.fn.valid HSM.out nm HS5.out HSX.out HS4.out).mono ?_
      rintro e w6 ⟨rfl, hb6⟩
      have HL6 := Lib.hid (HL5.out.keep hb6)
      have HC6 := Lib.hid (HC5.out.below hb6 (Nat.le_refl _))
      have HR6 := Lib.hid (HR5.out.below hb6 (Nat.le_refl _))
      have HRO6 := Lib.hid (HRO.out.below hb6 HRO.out.lt)
      clear hb6 HL5 HS5 HC5 HR5 HRO rl q0 q1 q2 q3
      generalize vFun Rn A S bs = b
      cases b with
      | false =>
        go_wp2_with fail
        go_ret
        exact ⟨rfl, HB0.out.trans (HL6.out.bel.mono HB0.out.size)⟩
      | true =>
        have r0 := HL6.out.row
        have rl := r0.lt
        have q0 := r0.at 0 rfl
        have q2 := r0.at 2 rfl
        clear r0
        go_wp2_with fail
        refine (layout_any _ A w6 HL6.out.fn.a (by have := HA.out.1; omega) (fun k hk => by have := (HA.out.2 k hk).2; omega) (fun k hk => by have := (HA.out.2 k hk).1; omega)).mono ?_
        rintro e w7 ⟨lv, rfl, -, hb7⟩
        have HL7 := Lib.hid (HL6.out.keep hb7)
        have HC7 := Lib.hid (HC6.out.below hb7 (Nat.le_refl _))
        have HR7 := Lib.hid (HR6.out.below hb7 (Nat.le_refl _))
        have HRO7 := Lib.hid (HRO6.out.below hb7 HRO6.out.lt)
        clear hb7 HL6 HC6 HR6 HRO6 rl q0 q2
        have o0 := HRO7.out
        have ol := o0.lt
        have p0 := o0.at 0 rfl
        have p1 := o0.at 1 rfl
        have p2 := o0.at 2 rfl
        have p3 := o0.at 3 rfl
        clear o0
        go_wp2_with fail
        refine (objValid_any nm _ _ data code refs w7 HL7.out.tab HC7.out HR7.out).mono ?_
        rintro e w8 ⟨rfl, hb8⟩
        rw [HVO.out]
        have HL8 := Lib.hid (HL7.out.keep hb8)
        have HRO8 := Lib.hid (HRO7.out.below hb8 HRO7.out.lt)
        clear hb8 HL7 HC7 HR7 HRO7 ol p0 p1 p2 p3
        have r0 := HL8.out.row
        have rl := r0.lt
        have q0 := r0.at 0 rfl
        clear r0
        have o0 := HRO8.out
        have ol := o0.lt
        have p0 := o0.at 0 rfl
        have p2 := o0.at 2 rfl
        clear o0
        have hd2 : data ≥ addrG A A.length := hd
        go_wp2_with fail
        go_ret
        exact ⟨rfl, HB0.out.trans (HL8.out.bel.mono HB0.out.size)⟩
    · have hv : vFun R A (mentB bs bs.length) bs = false := by simpa using hv
      have HVS := Lib.hid (show vFun R A S bs = false by
        cases e : vFun R A S bs with
        | false => rfl
        | true => rw [vFun_ment e] at hv; cases hv)
      refine (task_no nm R _ _ A bs w3 (HL3.out.fn.tk HSM.out HL3.out.tz) hv).mono ?_
      rintro e w4 ⟨rfl, hb4⟩
      have HL4 := Lib.hid (HL3.out.keep hb4)
      have HS4' := Lib.hid (HS3.out.below hb4 (Nat.le_refl _))
      clear hb4 HL3 HS3 rl q0 q1 q2 q3 hv h4I
      have hbx : ∀ o : Obj, Below w4.heap.size w4 (w4.alloc o) := fun o => bAlloc (Nat.le_refl _) (Below.refl _ _)
      have HBX := Lib.hid hbx
      have HRO := Lib.hid (RowC2.made w4 [.string ⟨#[]⟩, .slice none 0 0, .int .i64 0, .slice none 0 0] 31)
      clear hbx
      unfold zeroObj
      go_upto_region 6 with fail
      obtain ⟨w5, hw5⟩ : ∃ W : World, W = w4.alloc (.cells #[.string ⟨#[]⟩, .slice none 0 0, .int .i64 0, .slice none 0 0] 31) := ⟨_, rfl⟩
      have hb5 : Below w4.heap.size w4 w5 := by rw [hw5]; exact HBX.out _
      have HRO : Hid (RowC2 w5 w4.heap.size [.string ⟨#[]⟩, .slice none 0 0, .int .i64 0, .slice none 0 0]) := by rw [hw5]; exact HRO
      rw [← hw5]
      clear hw5 HBX
      have HL5 := Lib.hid (HL4.out.keep hb5)
      have HS5 := Lib.hid (HS4'.out.below hb5 (Nat.le_refl _))
      clear hb5 HL4 HS4'
      have r0 := HL5.out.row
      have rl := r0.lt
      have q0 := r0.at 0 rfl
      have q1 := r0.at 1 rfl
      have q2 := r0.at 2 rfl
      have q3 := r0.at 3 rfl
      clear r0
      go_wp2_with fail
      refine (HL5.out.fn.valid HSM.out nm HS5.out HSX.out HS4.out).mono ?_
      rintro e w6 ⟨rfl, hb6⟩
      rw [HVS.out]
      have HL6 := Lib.hid (HL5.out.keep hb6)
      have HRO6 := Lib.hid (HRO.out.below hb6 HRO.out.lt)
      clear hb6 HL5 HS5 HRO rl q0 q1 q2 q3
      have o0 := HRO6.out
      have ol := o0.lt
      have p0 := o0.at 0 rfl
      have p1 := o0.at 1 rfl
      have p2 := o0.at 2 rfl
      have p3 := o0.at 3 rfl
      clear o0
      go_wp2_with fail
      refine (objValid_any ⟨#[]⟩ (.slice none 0 0) (.slice none 0 0) 0 [] [] w6 HL6.out.tab (GsRd.nil _) (RfRd.nil none 0 rfl)).mono ?_
      rintro e w7 ⟨rfl, hb7⟩
      have HL7 := Lib.hid (HL6.out.keep hb7)
      rw [show valO [] 0 (([] : List GR).map fun r => (r.at', r.lk)) = false from rfl]
      clear hb7 HL6 HRO6 ol p0 p1 p2 p3
      go_wp2_with fail
      go_ret
      exact ⟨rfl, HB0.out.trans (HL7.out.bel.mono HB0.out.size)⟩
  · refine (small_any nm R _ _ A bs w2 HL2.out.fn.a HL2.out.fn.b 0 (fun h => absurd h hsm) (fun _ => rfl)).mono ?_
    rintro e w3 ⟨rfl, hb3⟩
    have HL3 := Lib.hid (HL2.out.keep hb3)
    clear hb3 HL2 HS2 rl q0 q1 q2 q3
    go_wp2_with fail
    go_ret
    exact ⟨rfl, HB0.out.trans (HL3.out.bel.mono HB0.out.size)⟩
end Go.Proofs.YtlajdcikhbocdaaDoor

