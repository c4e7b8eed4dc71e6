/- What CoreReads sees, in plain words. -/
import Derived.Test.YtlmipchjmgnlfaaDoorCorCb
import Derived.Test.YtlmipchjmgnlfaaDoorIsaO
set_option linter.unusedVariables false
set_option linter.unusedSimpArgs false
namespace Go.Proofs.YtlmipchjmgnlfaaDoor
open Go.RowKit

section
open Go.Lib
theorem sortI_mem (xs : List Int) (x : Int) : x ∈ sortI xs ↔ x ∈ xs := by unfold sortI; rw [List.mem_mergeSort]
theorem sortI_le (xs : List Int) : (sortI xs).Pairwise (· ≤ ·) := by
  unfold sortI
  have := List.pairwise_mergeSort (le := fun (x y : Int) => decide (x ≤ y)) (by intro a b c; simp only [decide_eq_true_eq]; omega) (by intro a b; simp only [Bool.or_eq_true, decide_eq_true_eq]; omega) xs
  exact this.imp (by intro a b h; simpa using h)
theorem compact_mem_aux (d : Array Int) (hd : ∀ i j, i ≤ j → j < d.size → d[i]! ≤ d[j]!) : ∀ m, m ≤ d.size → (compactUpTo d m).Pairwise (· < ·) ∧ ∀ x, x ∈ compactUpTo d m ↔ ∃ j, j < m ∧ d[j]! = x
  | 0, _ => ⟨by simp [compactUpTo], fun x => by simp [compactUpTo]⟩
  | m+1, hm => by
    obtain ⟨h1, h2⟩ := compact_mem_aux d hd m (by omega)
    rw [compactUpTo_succ]
    by_cases hk : keeps d m = true
    · rw [if_pos hk]
      constructor
      · rw [List.pairwise_append]
        refine ⟨h1, List.pairwise_singleton .., fun x hx y hy => ?_⟩
        rw [List.mem_singleton] at hy; subst hy
        obtain ⟨j, hj, rfl⟩ := (h2 x).1 hx
        have hne : d[m]! ≠ d[m-1]! := by
          rcases of_decide_eq_true hk with e | e
          · omega
          · exact e
        have a1 := hd j (m-1) (by omega) (by omega)
        have a2 := hd (m-1) m (by omega) (by omega)
        omega
      · intro x
        rw [List.mem_append, h2, List.mem_singleton]
        constructor
        · rintro (⟨j, hj, e⟩ | e)
          · exact ⟨j, by omega, e⟩
          · exact ⟨m, by omega, e.symm⟩
        · rintro ⟨j, hj, e⟩
          by_cases hjm : j = m
          · subst hjm; exact .inr e.symm
          · exact .inl ⟨j, by omega, e⟩
    · rw [if_neg hk, List.append_nil]
      refine ⟨h1, fun x => ?_⟩
      rw [h2]
      constructor
      · rintro ⟨j, hj, e⟩; exact ⟨j, by omega, e⟩
      · rintro ⟨j, hj, e⟩
        by_cases hjm : j = m
        · subst hjm
          simp only [keeps, decide_eq_true_eq, not_or, Decidable.not_not] at hk
          exact ⟨j - 1, by omega, by rw [← hk.2]; exact e⟩
        · exact ⟨j, by omega, e⟩

theorem compact_sorted (zs : List Int) (h : zs.Pairwise (· ≤ ·)) : (compact zs).Pairwise (· < ·) ∧ ∀ x, x ∈ compact zs ↔ x ∈ zs := by
  have hg : ∀ i, (hi : i < zs.length) → zs.toArray[i]! = zs[i] := fun i hi => by simp [hi]
  obtain ⟨h1, h2⟩ := compact_mem_aux zs.toArray (fun i j hij hj => by
    have hj' : j < zs.length := by simpa using hj
    rw [hg i (by omega), hg j hj']
    rcases Nat.lt_or_eq_of_le hij with h' | h'
    · exact List.pairwise_iff_getElem.1 h i j _ _ h'
    · subst h'; omega) zs.length (by simp)
  refine ⟨h1, fun x => ?_⟩
  rw [compact, h2]
  constructor
  · rintro ⟨j, hj, e⟩; rw [hg j hj] at e; subst e; exact List.getElem_mem _
  · intro hx
    obtain ⟨j, hj, e⟩ := List.mem_iff_getElem.1 hx
    exact ⟨j, hj, by rw [hg j hj]; exact e⟩

end

theorem unread_of {n : Nat} {a b c i : Int} {r : Nat} (hv : vld n a b c i = true) (hr : r ≠ 0) (h : (r : Int) ∉ rdl n a b c i) : unread n a.toNat b.toNat c.toNat r := by
  obtain ⟨_, pa, pb, pc, _⟩ := vld_parts hv
  intro l hl e
  apply h
  unfold rdl
  rw [if_pos hv, (compact_sorted _ (sortI_le _)).2, sortI_mem, List.mem_filter]
  refine ⟨List.mem_map.2 ⟨l, hl, ?_⟩, by simp; omega⟩
  unfold fv
  split at e
  · rename_i h1; rw [if_pos h1]; omega
  · rename_i h1
    rw [if_neg h1]
    split at e
    · rename_i h2; rw [if_pos h2]; omega
    · rename_i h2; rw [if_neg h2]; omega

theorem rdl_len {n : Nat} {a b c i : Int} (hv : vld n a b c i = true) : (rdl n a b c i).length ≤ 1000 := by
  unfold rdl
  rw [if_pos hv]
  refine Nat.le_trans (Lib.compact_length_le _) ?_
  unfold sortI
  rw [List.length_mergeSort]
  refine Nat.le_trans (List.length_filter_le _ _) ?_
  rw [List.length_map]
  rcases rd_kinds n (vld_parts hv).1 with h | h | h | h | h <;> rw [h] <;> simp

/-- What the law looks at. -/
structure RF (r : Nat) (v : Int) (cd : Prop) (z s' t' : St) : Prop where
  same : cd → t' = s'
  own : ¬ cd → t'.r.getD r 0 = v
  back : ¬ cd → { t' with r := t'.r.set r (z.r.getD r 0) } = s'
  dlen : t'.d = s'.d
  rlen : t'.r.length = 16
  rlen' : s'.r.length = 16

theorem set_back {l : List Int} {r : Nat} {v x : Int} (hl : r < l.length) (h : l.getD r 0 = x) : (l.set r v).set r x = l := by
  rw [List.set_set]
  apply List.ext_getElem
  · simp
  · intro j h1 h2
    by_cases e : r = j
    · subst e
      rw [List.getElem_set_self, ← h, List.getD_eq_getElem?_getD, List.getElem?_eq_getElem hl]; rfl
    · rw [List.getElem_set_ne e]

theorem reads_facts {n : Nat} {a b c i dl ml v : Int} {z : St} {m : List Int} {inp : Int → Int} {r : Nat} (hv : vld n a b c i = true) (hpc : z.pc = 0) (hz : z.r.length = 16) (hr : r ≠ 0) (hr16 : r < 16) (hu : (r : Int) ∉ rdl n a b c i) {er : Int} {f : Ef} {s' : St} {m' : List Int}
    (ho : stepO (oneIm (encW n a b c i) dl ml) 0 z m inp = (er, f, s', m')) :
    ∃ t', stepO (oneIm (encW n a b c i) dl ml) 0 { z with r := z.r.set r v } m inp = (er, f, t', m') ∧ RF r v (er = 0 ∧ wrR n a b c i = r) z s' t' := by
  have hun := unread_of hv hr hu
  obtain ⟨hn, pa, pb, pc, pi⟩ := vld_parts hv
  have hfit : fitP (oneIm (encW n a b c i) dl ml) 0 { z with r := z.r.set r v } = fitP (oneIm (encW n a b c i) dl ml) 0 z := by
    unfold fitP
    simp only [getD_set_ne hr]
  have hbad : ∀ e, e ≠ 0 → stepP (oneIm (encW n a b c i) dl ml) 0 z m inp = .error e → stepP (oneIm (encW n a b c i) dl ml) 0 { z with r := z.r.set r v } m inp = .error e → ∃ t', stepO (oneIm (encW n a b c i) dl ml) 0 { z with r := z.r.set r v } m inp = (er, f, t', m') ∧ RF r v (er = 0 ∧ wrR n a b c i = r) z s' t' := by
    intro e he h1 h2
    unfold stepO at ho ⊢
    rw [h1] at ho
    rw [h2]
    simp only [Prod.mk.injEq] at ho
    obtain ⟨rfl, rfl, rfl, rfl⟩ := ho
    refine ⟨_, rfl, ⟨fun h => absurd h.1 he, fun _ => getD_set_eq (by omega), fun _ => ?_, rfl, by simp [hz], hz⟩⟩
    show { z with r := (z.r.set r v).set r (z.r.getD r 0) } = z
    rw [set_back (by omega) rfl]
  by_cases hf : fitP (oneIm (encW n a b c i) dl ml) 0 z = false ∨ z.halted = true
  · refine hbad 14 (by decide) ?_ ?_
    · unfold stepP; rw [if_pos hf]
    · unfold stepP; rw [hfit, if_pos hf]
  by_cases hp : z.pc < ((oneIm (encW n a b c i) dl ml).ents.getD (0 : Int).toNat default).st ∨ ((oneIm (encW n a b c i) dl ml).ents.getD (0 : Int).toNat default).fin ≤ z.pc ∨ z.pc < 0 ∨ ((oneIm (encW n a b c i) dl ml).code.length : Int) ≤ z.pc
  · refine hbad 10 (by decide) ?_ ?_
    · unfold stepP; rw [if_neg hf]; simp only; rw [if_pos hp]
    · unfold stepP; rw [hfit, if_neg hf]; simp only; rw [if_pos hp]
  obtain ⟨e1, e2, e3, e4, e5⟩ := dec_enc hv
  have hx : (oneIm (encW n a b c i) dl ml).code.getD z.pc.toNat 0 = encW n a b c i := by rw [hpc]; rfl
  have hd : decOk (encW n a b c i) = true := by
    unfold decOk
    rw [e1, e2, e3, e4, e5]
    simpa using hv
  have hU := stepI_unread (lk := (oneIm (encW n a b c i) dl ml).lk) (i := i) (s := z) (mem := m) (inp := inp i) (v := v) hn hr hun
  have h1 : stepP (oneIm (encW n a b c i) dl ml) 0 z m inp = match stepI (oneIm (encW n a b c i) dl ml).lk n a.toNat b.toNat c.toNat i z m (inp i) with
        | .error er => .error er
        | .ok (s', mem', tk, ad, vl) => .ok (⟨n, a.toNat, b.toNat, c.toNat, i, z.pc, tk, ad, vl⟩, s', mem') := by
    unfold stepP
    rw [if_neg hf]
    simp only
    rw [if_neg hp, hx, hd, if_neg (by simp), e1, e2, e3, e4, e5]
    rfl
  have h2 : stepP (oneIm (encW n a b c i) dl ml) 0 { z with r := z.r.set r v } m inp = match stepI (oneIm (encW n a b c i) dl ml).lk n a.toNat b.toNat c.toNat i { z with r := z.r.set r v } m (inp i) with
        | .error er => .error er
        | .ok (s', mem', tk, ad, vl) => .ok (⟨n, a.toNat, b.toNat, c.toNat, i, z.pc, tk, ad, vl⟩, s', mem') := by
    unfold stepP
    rw [hfit, if_neg hf]
    simp only
    rw [if_neg hp, hx, hd, if_neg (by simp), e1, e2, e3, e4, e5]
    rfl
  rw [hU] at h2
  rcases hs : stepI (oneIm (encW n a b c i) dl ml).lk n a.toNat b.toNat c.toNat i z m (inp i) with e | ⟨s1, m1, tk, ad, vl⟩
  · rw [hs] at h1 h2
    have he : e ≠ 0 := stepP_err h1
    exact hbad e he h1 h2
  · rw [hs] at h1 h2
    simp only at h1 h2
    have hW := stepI_wrote hn hs
    unfold stepO at ho ⊢
    rw [h1] at ho
    rw [h2]
    simp only [Prod.mk.injEq] at ho
    obtain ⟨rfl, rfl, rfl, rfl⟩ := ho
    have hl : s1.r.length = 16 := hW.len.trans hz
    refine ⟨_, rfl, ?_⟩
    by_cases hc : fwr n = true ∧ a.toNat = r
    · have hw : wrR n a b c i = r := by
        unfold wrR
        rw [hv, hc.1]
        simp
        omega
      have hfx : fixup n a.toNat r v s1 = s1 := by unfold fixup; rw [if_pos hc]
      rw [hfx]
      exact ⟨fun _ => rfl, fun h => absurd ⟨rfl, hw⟩ h, fun h => absurd ⟨rfl, hw⟩ h, rfl, hl, hl⟩
    · have hw : ¬ wrR n a b c i = r := by
        intro h
        unfold wrR at h
        rw [hv] at h
        cases hfw : fwr n
        · rw [hfw] at h; simp at h; omega
        · rw [hfw] at h; simp at h; exact hc ⟨hfw, by omega⟩
      have hfx : fixup n a.toNat r v s1 = { s1 with r := s1.r.set r v } := by unfold fixup; rw [if_neg hc]
      rw [hfx]
      refine ⟨fun h => absurd h.2 hw, fun _ => getD_set_eq (by omega), fun _ => ?_, rfl, by simp [hl], hl⟩
      show { s1 with r := (s1.r.set r v).set r (z.r.getD r 0) } = s1
      rw [set_back (by omega)]
      apply Classical.byContradiction
      intro hne
      obtain ⟨g1, g2, g3⟩ := hW.regs r hne
      exact hc ⟨g1, g3.symm⟩

theorem put_lit (l : List Value) (df : List Deferred) (k : Nat) (v : Value) : Act.put ⟨l.toArray, df⟩ (some k) v = ⟨(l.set k v).toArray, df⟩ := by simp [Act.put]
theorem put_no (a : Act) (v : Value) : a.put none v = a := rfl
theorem contains_take {xs : List Int} {k : Nat} {z : Int} (hk : k < xs.length) (hz : xs.getD k 0 = z) (r : Int) : (xs.take (k + 1)).contains r = ((xs.take k).contains r || z == r) := by
  have e : xs.take (k + 1) = xs.take k ++ [z] := by
    rw [List.take_add_one, List.getElem?_eq_getElem hk, ← hz, List.getD_eq_getElem?_getD, List.getElem?_eq_getElem hk]; rfl
  rw [e, Bool.eq_iff_iff]
  simp only [List.contains_eq_mem, decide_eq_true_eq, List.mem_append, List.mem_singleton, Bool.or_eq_true, beq_iff_eq]
  exact or_congr Iff.rfl ⟨fun h => h.symm, fun h => h.symm⟩
theorem sl_shape {B : Nat} {w : World} {v : Value} {xs : List Int} (h : SlI B w v xs) : ∃ p cap, v = .slice p xs.length cap ∧ ∀ k, k < xs.length → ∃ g, p = some ⟨g, 0, none⟩ ∧ g < w.heap.size ∧ w.cell? ⟨g, k, none⟩ = some (.int .i64 (xs.getD k 0)) := by
  rcases h with ⟨rfl, a, cap, rfl⟩ | ⟨h1, g, cap, rfl, h2, h3, h4⟩
  · exact ⟨a, cap, rfl, fun k hk => absurd hk (Nat.not_lt_zero _)⟩
  · exact ⟨_, cap, rfl, fun k hk => ⟨g, rfl, h3, h4 k hk⟩⟩

/-- Two copies, of which the second has turned. -/
structure Two2 (w0 : World) (s t : St) (bx by' : Nat) (xv yv : Value) (W : World) : Prop where
  bel : Below w0.heap.size w0 W
  x : StAt W bx s xv
  y : StAt W by' t yv
  mx : MemAt W xv s.d
  my : MemAt W yv t.d
  lx : w0.heap.size ≤ bx
  ly : w0.heap.size ≤ by'
  ox : ∀ k, xv.ownBlock = some k → w0.heap.size ≤ k ∧ k < W.heap.size ∧ k ≠ bx ∧ k ≠ by' ∧ yv.ownBlock ≠ some k
  oy : ∀ k, yv.ownBlock = some k → w0.heap.size ≤ k ∧ k < W.heap.size ∧ k ≠ bx ∧ k ≠ by' ∧ xv.ownBlock ≠ some k
  ne : bx ≠ by'
theorem Two.set2 {w0 W : World} {s : St} {bx by' : Nat} {xv yv : Value} (h : Two w0 s bx by' xv yv W) (r : Nat) (hr : r < 16) (v : Int) : Two2 w0 s { s with r := s.r.set r v } bx by' xv yv (W.setCell ⟨by', 1 + r, none⟩ (.int .i32 v)) := by
  have hz : (W.setCell ⟨by', 1 + r, none⟩ (.int .i32 v)).heap.size = W.heap.size := by simp [World.setCell]
  exact ⟨bSet h.ly h.bel, h.x.other (fun e => h.ne e.symm) _, h.y.setReg r hr v, h.mx.other (fun e => (h.ox by' e).2.2.2.1 rfl) _, h.my.other (fun e => (h.oy by' e).2.2.2.1 rfl) _, h.lx, h.ly, fun k hk => by rw [hz]; exact h.ox k hk, fun k hk => by rw [hz]; exact h.oy k hk, h.ne⟩
theorem both_of2 {w0 w3 w4 w5 : World} {s t : St} {sh : List Int} {bx by' : Nat} {xv yv av bv : Value} {e : TypeId} {n : Nat} (hT : Two2 w0 s t bx by' xv yv w3) (hb4 : Below w3.heap.size w3 w4) (h4 : w4.ownsRow w3.heap.size e 1 av n (sh.map (.int .i32)))
    (hb5 : Below w4.heap.size w4 w5) (h5 : w5.ownsRow w4.heap.size e 1 bv n (sh.map (.int .i32))) (r32 : ∀ j, W32 (s.r.getD j 0)) (d32 : ∀ j, W32 (s.d.getD j 0)) (q32 : ∀ j, W32 (t.r.getD j 0)) (e32 : ∀ j, W32 (t.d.getD j 0)) (m32 : ∀ j, W32 (sh.getD j 0)) :
    Side w0.heap.size w5 bx xv av s sh ∧ Side w0.heap.size w5 by' yv bv t sh ∧ (∀ k, OwnF bx xv av k → ¬ OwnF by' yv bv k) ∧ Below w0.heap.size w0 w5 := by
  have hb35 : Below w3.heap.size w3 w5 := hb4.trans (hb5.mono hb4.size)
  have s0 := hT.bel.size
  have s4 := hb4.size
  have s5 := hb5.size
  have ha : ∀ k, av.ownBlock = some k → w3.heap.size ≤ k ∧ k < w4.heap.size := fun k hk => ⟨ownBase h4 hk, own_lt h4 hk⟩
  have hb : ∀ k, bv.ownBlock = some k → w4.heap.size ≤ k ∧ k < w5.heap.size := fun k hk => ⟨ownBase h5 hk, own_lt h5 hk⟩
  have lx := hT.x.lt
  have ly := hT.y.lt
  have gx := hT.lx
  have gy := hT.ly
  refine ⟨⟨hT.x.below hb35 lx, hT.mx.below hb35 (Nat.le_refl _), (MemAt.of_owns h4).below hb5 (Nat.le_refl _), ?_, ?_, ?_, ?_, r32, d32, m32⟩, ⟨hT.y.below hb35 ly, hT.my.below hb35 (Nat.le_refl _), MemAt.of_owns h5, ?_, ?_, ?_, ?_, q32, e32, m32⟩, ?_, hT.bel.trans (hb35.mono s0)⟩
  · rintro k (rfl | hk | hk)
    · omega
    · have := hT.ox k hk; omega
    · have := ha k hk; omega
  · intro hk; exact (hT.ox bx hk).2.2.1 rfl
  · intro hk; have := ha bx hk; omega
  · intro k hk hk2; have := hT.ox k hk; have := ha k hk2; omega
  · rintro k (rfl | hk | hk)
    · omega
    · have := hT.oy k hk; omega
    · have := hb k hk; omega
  · intro hk; exact (hT.oy by' hk).2.2.2.1 rfl
  · intro hk; have := hb by' hk; omega
  · intro k hk hk2; have := hT.oy k hk; have := hb k hk2; omega
  · rintro k (rfl | hk | hk) (hk2 | hk2 | hk2)
    · exact hT.ne hk2
    · exact (hT.oy k hk2).2.2.1 rfl
    · have := hb k hk2; omega
    · subst hk2; exact (hT.ox k hk).2.2.2.1 rfl
    · exact (hT.ox k hk).2.2.2.2 hk2
    · have := hT.ox k hk; have := hb k hk2; omega
    · have := ha k hk; omega
    · have := ha k hk; have := hT.oy k hk2; omega
    · have := ha k hk; have := hb k hk2; omega

/-- A state with its memories. -/
structure Tri (W : World) (S : Nat) (dv mv : Value) (s : St) (m : List Int) : Prop where
  st : StAt W S s dv
  d : MemAt W dv s.d
  m : MemAt W mv m
theorem Tri.below {W W' : World} {S : Nat} {dv mv : Value} {s : St} {m : List Int} (h : Tri W S dv mv s m) (hb : Below W.heap.size W W') : Tri W' S dv mv s m := ⟨h.st.below hb h.st.lt, h.d.below hb (Nat.le_refl _), h.m.below hb (Nat.le_refl _)⟩
theorem Tri.kept {W W' : World} {S : Nat} {dv mv : Value} {s : St} {m : List Int} (h : Tri W S dv mv s m) {F : Nat → Prop} (hk : Kept F W W') (hF : ∀ k, OwnF S dv mv k → ¬ F k) (hlt : ∀ k, OwnF S dv mv k → k < W.heap.size) : Tri W' S dv mv s m :=
  ⟨⟨h.st.1, h.st.2.block (hk.block _ (hlt _ (.inl rfl)) (hF _ (.inl rfl)))⟩, h.d.block fun k e => hk.block _ (hlt _ (.inr (.inl e))) (hF _ (.inr (.inl e))), h.m.block fun k e => hk.block _ (hlt _ (.inr (.inr e))) (hF _ (.inr (.inr e)))⟩
theorem mem_len {W : World} {p : Option Addr} {n c : Nat} {m : List Int} (h : MemAt W (.slice p n c) m) : m.length = n := by
  obtain ⟨q, cap, hv, _⟩ := h
  injection hv with _ e _
  exact e.symm

theorem neq_ef (n : Nat) (a b c i pc : Int) (tk : Bool) (ad vl : Int) (w : World) : (binOp .neq 36 (.agg #[.int .u8 n, .int .i64 a, .int .i64 b, .int .i64 c, .int .i64 i, .int .i64 pc, .bool tk, .int .i64 ad, .int .i32 vl]) (.agg #[.int .u8 n, .int .i64 a, .int .i64 b, .int .i64 c, .int .i64 i, .int .i64 pc, .bool tk, .int .i64 ad, .int .i32 vl])).run Tryd.prog w = .ok (.bool false) w := by
  have h1 : Tryd.prog.underlying 36 = some (.struct (Tryd.prog.fieldsOf 36)) := by kernel_rfl
  have h2 : Tryd.prog.stoodInHeld 36 = false := by kernel_rfl
  have g1 : Tryd.prog.underlying 34 = some (.struct (Tryd.prog.fieldsOf 34)) := by kernel_rfl
  have g2 : Tryd.prog.stoodInHeld 34 = false := by kernel_rfl
  have e1 := Tryd.underlying3
  have e2 := Tryd.underlying21
  have e3 := Tryd.underlying5
  have e4 := Tryd.underlying4
  have e0 := Tryd.underlying36
  have e5 := Tryd.underlying34
  rw [run_neq_struct, run_equalIn_struct w 9999 _ _ _ h1 h2]
  simp [Program.fieldsOf, e0, e5, Op.eqFields, part, isAgg, run_underlying e1, run_underlying e2, run_underlying e3, run_underlying e4, run_underlying e5, run_equalIn_struct w 9998 _ _ _ g1 g2, run_equalIn_int _ _ _ _ _ _ _ e1, run_equalIn_int _ _ _ _ _ _ _ e2, run_equalIn_int _ _ _ _ _ _ _ e3, run_equalIn_bool _ _ _ _ _ e4]
end Go.Proofs.YtlmipchjmgnlfaaDoor
