/- one of an instruction that is not valid; what a copy of a state and of a memory leave. -/
import Derived.Test.YtlmipchjmgnlfaaDoorCorBe
set_option linter.unusedVariables false
set_option linter.unusedSimpArgs false
namespace Go.Proofs.YtlmipchjmgnlfaaDoor
open Go.RowKit


/-- An image of one instruction and a nop. -/
def oneIm (x : Int) (dl ml : Int) : Im := ⟨[x, encW 0 0 0 0 0], [⟨tName, 0, 2, dl⟩], ml, 4⟩
def zEf : Ef := ⟨0, 0, 0, 0, 0, 0, false, 0, 0⟩
/-- A step as one outcome: error number, effect, state, shared memory. -/
def stepO (im : Im) (t : Int) (s : St) (mem : List Int) (inp : Int → Int) : Int × Ef × St × List Int :=
  match stepP im t s mem inp with
  | .error er => (er, zEf, s, mem)
  | .ok (f, s', m') => (0, f, s', m')

theorem step_out (imv : Value) (im : Im) (t : Int) (S : Nat) (s : St) (dv mv pv : Value) (mem : List Int) (inp : Int → Int) (w : World) (R : Set w imv im S s dv mv mem) (hport : ∀ i, PortIn w S dv mv pv i (inp i) id) (er : Int) (f : Ef) (s' : St) (m' : List Int) (ho : stepO im t s mem inp = (er, f, s', m')) :
    Calls Tryd.prog 13 #[imv, .int .i64 t, .pointer (some ⟨S, 0, none⟩), mv, pv] w fun e w' => e = .returned (.tuple #[f.val, .int .i64 er]) ∧ Kept (OwnF S dv mv) w w' ∧ StAt w' S s' dv ∧ MemAt w' dv s'.d ∧ MemAt w' mv m' := by
  refine (step_all imv im t S s dv mv pv mem inp (fun _ => id) w R hport).mono fun e w' h => ?_
  unfold stepO at ho
  rcases hs : stepP im t s mem inp with er' | ⟨f', s1, m1⟩
  · rw [hs] at h ho
    simp only [Prod.mk.injEq] at ho
    obtain ⟨rfl, rfl, rfl, rfl⟩ := ho
    obtain ⟨h1, h2⟩ := h
    exact ⟨h1, Kept.of_below h2, R.st.below h2 R.st.lt, R.d.below h2 (Nat.le_refl _), R.m.below h2 (Nat.le_refl _)⟩
  · rw [hs] at h ho
    simp only [Prod.mk.injEq] at ho
    obtain ⟨rfl, rfl, rfl, rfl⟩ := ho
    obtain ⟨h1, h2, h3⟩ := h
    refine ⟨h1, ?_, h3⟩
    split at h2 <;> exact h2

/-- How many of the first k words differ. -/
def chg (a b : List Int) : Nat → Nat
  | 0 => 0
  | k + 1 => chg a b k + if a.getD k 0 = b.getD k 0 then 0 else 1
theorem chg_same (a : List Int) (k : Nat) : chg a a k = 0 := by induction k with
  | zero => rfl
  | succ k ih => simp [chg, ih]
theorem chg_set (b : List Int) (j : Nat) (v : Int) (k : Nat) : chg (b.set j v) b k ≤ if k ≤ j then 0 else 1 := by induction k with
  | zero => simp [chg]
  | succ k ih =>
    unfold chg
    by_cases h : k = j
    · subst h
      rw [if_pos (Nat.le_refl _)] at ih
      split <;> split <;> omega
    · rw [getD_set_ne (Ne.symm h), if_pos rfl]
      split at ih <;> split <;> omega
theorem chg_le (a b : List Int) (k : Nat) : chg a b k ≤ k := by induction k with
  | zero => exact Nat.le_refl _
  | succ k ih => unfold chg; split <;> omega

/-- What the law looks at. -/
structure WF (n : Nat) (wv er ad : Int) (s s' : St) (m m' : List Int) : Prop where
  regs : ∀ r : Nat, s'.r.getD r 0 ≠ s.r.getD r 0 → wv = r ∧ r ≠ 0 ∧ er = 0
  memc : ∀ k : Nat, m'.getD k 0 ≠ m.getD k 0 → n = 21 ∧ ad = k
  datc : ∀ k : Nat, s'.d.getD k 0 ≠ s.d.getD k 0 → n = 19 ∧ ad = k
  len : s'.r.length = s.r.length
  mlen : m'.length = m.length
  dlen : s'.d.length = s.d.length
  total : ∀ j k, chg m' m j + chg s'.d s.d k ≤ 1
  zero : s'.r.getD 0 0 = 0

theorem WF.same {n : Nat} {wv er ad : Int} {s : St} {m : List Int} (h0 : s.r.getD 0 0 = 0) : WF n wv er ad s s m m :=
  ⟨fun _ h => absurd rfl h, fun _ h => absurd rfl h, fun _ h => absurd rfl h, rfl, rfl, rfl, fun j k => by rw [chg_same, chg_same]; omega, h0⟩
theorem WF.wrote {n : Nat} {a b c i ad : Int} {s s' : St} {m m' : List Int} (hv : vld n a b c i = true) (h0 : s.r.getD 0 0 = 0) (h : Wrote n a.toNat s s' m m' ad) : WF n (if vld n a b c i && fwr n then a else 0) 0 ad s s' m m' := by
  have hbd := vld_bd hv
  obtain ⟨h1, h2, h3, h4, h5, h6⟩ := h
  refine ⟨fun r hr => ?_, fun k hk => ?_, fun k hk => ?_, h2, h3, h4, fun j k => ?_, ?_⟩
  · obtain ⟨g1, g2, g3⟩ := h1 r hr
    rw [hv, g1]
    refine ⟨?_, by omega, rfl⟩
    simp
    omega
  · rcases h5 with h5 | ⟨h5, -, j, hj, hjl, v, hm⟩
    · exact absurd (by rw [h5]) hk
    · refine ⟨h5, ?_⟩
      by_cases e : k = j
      · rw [hj, e]
      · exact absurd (by rw [hm, getD_set_ne (Ne.symm e)]) hk
  · rcases h6 with h6 | ⟨h6, -, j, hj, hjl, v, hm⟩
    · exact absurd (by rw [h6]) hk
    · refine ⟨h6, ?_⟩
      by_cases e : k = j
      · rw [hj, e]
      · exact absurd (by rw [hm, getD_set_ne (Ne.symm e)]) hk
  · rcases h5 with h5 | ⟨h5, hd, j', hj, hjl, v, hm⟩
    · rw [h5, chg_same]
      rcases h6 with h6 | ⟨h6, -, j', hj, hjl, v, hm⟩
      · rw [h6, chg_same]; omega
      · rw [hm]
        have := chg_set s.d j' v k
        split at this <;> omega
    · rw [hd, chg_same, hm]
      have := chg_set m j' v j
      split at this <;> omega
  · rw [show s'.r.getD 0 0 = s.r.getD 0 0 from ?_, h0]
    apply Classical.byContradiction
    intro hne
    obtain ⟨_, g2, g3⟩ := h1 0 hne
    omega

/-- The facts of a step of one instruction. -/
theorem writes_facts {n : Nat} {a b c i dl ml : Int} {s : St} {m : List Int} {inp : Int → Int} (hv : vld n a b c i = true) (hpc : s.pc = 0) (h0 : s.r.getD 0 0 = 0) {er : Int} {f : Ef} {s' : St} {m' : List Int} (ho : stepO (oneIm (encW n a b c i) dl ml) 0 s m inp = (er, f, s', m')) :
    WF n (if vld n a b c i && fwr n then a else 0) er f.ad s s' m m' := by
  unfold stepO at ho
  rcases hs : stepP (oneIm (encW n a b c i) dl ml) 0 s m inp with er' | ⟨f', s1, m1⟩
  · rw [hs] at ho
    simp only [Prod.mk.injEq] at ho
    obtain ⟨rfl, rfl, rfl, rfl⟩ := ho
    exact WF.same h0
  · rw [hs] at ho
    simp only [Prod.mk.injEq] at ho
    obtain ⟨rfl, rfl, rfl, rfl⟩ := ho
    unfold stepP at hs
    split at hs
    · cases hs
    · simp only at hs
      split at hs
      · cases hs
      · split at hs
        · cases hs
        · split at hs
          · cases hs
          · rename_i s1 m1 tk ad vl hi
            simp only [Except.ok.injEq, Prod.mk.injEq] at hs
            obtain ⟨rfl, rfl, rfl⟩ := hs
            rw [hpc, show (oneIm (encW n a b c i) dl ml).code.getD (0 : Int).toNat 0 = encW n a b c i from rfl] at hi
            obtain ⟨e1, e2, e3, e4, e5⟩ := dec_enc hv
            rw [e1, e2, e3, e4, e5] at hi
            exact WF.wrote hv h0 (stepI_wrote (vld_parts hv).1 hi)

set_option maxHeartbeats 1600000 in
set_option maxRecDepth 100000 in
theorem one_bad (b cap n : Nat) (a0 b0 c0 i0 : Int) (dat sh lk : Int) (w : World) (hT : Tab w) (hb : b < w.heap.size) (hx : vld n a0 b0 c0 i0 = false)
    (hc : w.cell? ⟨b, 0, none⟩ = some (.int .u8 n) ∧ w.cell? ⟨b, 1, none⟩ = some (.int .i64 a0) ∧ w.cell? ⟨b, 2, none⟩ = some (.int .i64 b0) ∧ w.cell? ⟨b, 3, none⟩ = some (.int .i64 c0) ∧ w.cell? ⟨b, 4, none⟩ = some (.int .i64 i0)) :
    Calls Tryd.prog 24 #[.slice (some ⟨b, 0, none⟩) 2 cap, .int .i64 dat, .int .i64 sh, .int .i64 lk] w fun e w' => e = .returned (.tuple #[.agg #[.slice none 0 0, .slice (some ⟨w.heap.size + 1, 0, none⟩) 1 1, .int .i64 sh, .int .i64 lk], .bool false]) ∧ Below w.heap.size w w' := by
  obtain ⟨x0, x1, x2, x3, x4⟩ := hc
  go_enter Tryd.func24, Tryd.ntmps24
  go_wp2_with fail
  obtain ⟨w1, hw1⟩ : ∃ w1, ((w.alloc (.cells #[.slice none 0 0, .slice none 0 0, .int .i64 0, .int .i64 0] 25)).alloc (.cells #[.string tName, .int .i64 0, .int .i64 2, .int .i64 dat] 70)).alloc
      (.cells #[.slice none 0 0, .slice (some ⟨w.heap.size + 1, 0, none⟩) 1 1, .int .i64 sh, .int .i64 lk] 25) = w1 := ⟨_, rfl⟩
  have him : RowAt w1 (w.heap.size + 1 + 1) [.slice none 0 0, .slice (some ⟨w.heap.size + 1, 0, none⟩) 1 1, .int .i64 sh, .int .i64 lk] := by
    rw [← hw1]
    refine ⟨25, ?_⟩
    have h := heap_alloc_new ((w.alloc (.cells #[.slice none 0 0, .slice none 0 0, .int .i64 0, .int .i64 0] 25)).alloc (.cells #[.string tName, .int .i64 0, .int .i64 2, .int .i64 dat] 70)) (.cells #[.slice none 0 0, .slice (some ⟨w.heap.size + 1, 0, none⟩) 1 1, .int .i64 sh, .int .i64 lk] 25)
    rwa [show ((w.alloc (.cells #[.slice none 0 0, .slice none 0 0, .int .i64 0, .int .i64 0] 25)).alloc (.cells #[.string tName, .int .i64 0, .int .i64 2, .int .i64 dat] 70)).heap.size = w.heap.size + 1 + 1 by simp] at h
  have hres : RowAt w1 w.heap.size [.slice none 0 0, .slice none 0 0, .int .i64 0, .int .i64 0] := by
    rw [← hw1]
    refine ⟨25, ?_⟩
    rw [Below.heap_alloc _ _ _ (by simp; omega), Below.heap_alloc _ _ _ (by simp)]; exact heap_alloc_new _ _
  have hB1 : Below w.heap.size w w1 := by rw [← hw1]; exact bAlloc (by simp; omega) (bAlloc (by simp) (bAlloc (Nat.le_refl _) (Below.refl _ _)))
  unfold tName at hw1
  rw [hw1]
  clear hw1
  have hbl := Nat.lt_of_lt_of_le hb hB1.size
  have y0 := (hB1.cell (p := ⟨b, 0, none⟩) hb).trans x0
  have y1 := (hB1.cell (p := ⟨b, 1, none⟩) hb).trans x1
  have y2 := (hB1.cell (p := ⟨b, 2, none⟩) hb).trans x2
  have y3 := (hB1.cell (p := ⟨b, 3, none⟩) hb).trans x3
  have y4 := (hB1.cell (p := ⟨b, 4, none⟩) hb).trans x4
  clear x0 x1 x2 x3 x4
  refine wp_loop_rounds 1 ?_
  rw [rounds_succ]
  go_wp2_with fail
  refine (encode_no n a0 b0 c0 i0 _ (hT.of_below hB1) hx).mono ?_
  rintro e w2 ⟨rfl, hb2⟩
  have him2 := him.below hb2 him.lt
  have hres2 := hres.below hb2 hres.lt
  have hB2 : Below w.heap.size w w2 := bThen hb2 hB1.size hB1
  clear hb2 him hres y0 y1 y2 y3 y4
  have m0 := him2.cell 0
  have m1 := him2.cell 1
  have m2 := him2.cell 2
  have m3 := him2.cell 3
  have s0 := hres2.cell 0
  have s1 := hres2.cell 1
  have s2 := hres2.cell 2
  have s3 := hres2.cell 3
  have t0 := hres2.frozen 0
  have t1 := hres2.frozen 1
  have t2 := hres2.frozen 2
  have t3 := hres2.frozen 3
  simp only [List.getElem?_cons_zero, List.getElem?_cons_succ] at m0 m1 m2 m3 s0 s1 s2 s3
  have hl2 := him2.lt
  go_wp2_with fail
  have hfin : RowAt ((((w2.setCell ⟨w.heap.size, 0, none⟩ (.slice none 0 0)).setCell ⟨w.heap.size, 1, none⟩ (.slice (some ⟨w.heap.size + 1, 0, none⟩) 1 1)).setCell ⟨w.heap.size, 2, none⟩ (.int .i64 sh)).setCell ⟨w.heap.size, 3, none⟩ (.int .i64 lk)) w.heap.size [.slice none 0 0, .slice (some ⟨w.heap.size + 1, 0, none⟩) 1 1, .int .i64 sh, .int .i64 lk] :=
    (((hres2.set 0 _).set 1 _).set 2 _).set 3 _
  obtain ⟨tR, hfin⟩ := hfin
  refine bodyPost_ret (results_row2 Tryd.results24 _ _ w.heap.size tR _ _ _ _ rfl rfl hfin Tryd.underlying25 rfl (by kernel_rfl)) rfl ⟨rfl, ?_⟩
  exact bSet (Nat.le_refl _) (bSet (Nat.le_refl _) (bSet (Nat.le_refl _) (bSet (Nat.le_refl _) hB2)))

theorem putx_meet {P : Program} {id : Nat} {ops : Array Oper} {b : Bool} {Q : Exit → Act → World → Prop} {a : Act} {w : World} (w0 : World) (s : St) (sh : List Int) (V : Act → Value → Value → Value → Value → Act)
    (h1 : (Code.region id ops b).wp P (fun e a' w' => e = .normal ∧ ∃ bx px cx pm cm be, a' = V a (stV s (.slice px s.d.length cx)) (.pointer (some ⟨bx, 0, none⟩)) (.slice pm sh.length cm) (.slice (some ⟨be, 0, none⟩) 0 0) ∧ Side w0.heap.size w' bx (.slice px s.d.length cx) (.slice pm sh.length cm) s sh ∧ Below w0.heap.size w0 w') a w)
    (h2 : ∀ bx px cx pm cm be w', Side w0.heap.size w' bx (.slice px s.d.length cx) (.slice pm sh.length cm) s sh → Below w0.heap.size w0 w' → Q .normal (V a (stV s (.slice px s.d.length cx)) (.pointer (some ⟨bx, 0, none⟩)) (.slice pm sh.length cm) (.slice (some ⟨be, 0, none⟩) 0 0)) w') : (Code.region id ops b).wp P Q a w :=
  Code.wp_mono (fun e a' w' ⟨he, bx, px, cx, pm, cm, be, ha, ht, hb⟩ => by subst he; subst ha; exact h2 bx px cx pm cm be w' ht hb) h1

theorem side_of {w0 w2 w : World} {B bx be : Nat} {s : St} {sh : List Int} {xv mv : Value} (hr : s.r.length = 16) (hx : RowAt w bx (stCells s xv)) (hd : MemAt w xv s.d) (hm : MemAt w mv sh) (hB : B ≤ bx) (ox : ∀ k, xv.ownBlock = some k → B ≤ k ∧ k < w.heap.size ∧ k ≠ bx) (om : ∀ k, mv.ownBlock = some k → B ≤ k ∧ k < w.heap.size ∧ k ≠ bx ∧ xv.ownBlock ≠ some k)
    (r32 : ∀ j, W32 (s.r.getD j 0)) (d32 : ∀ j, W32 (s.d.getD j 0)) (m32 : ∀ j, W32 (sh.getD j 0)) : Side B w bx xv mv s sh :=
  ⟨⟨hr, hx⟩, hd, hm, by
    rintro k (rfl | hk | hk)
    · exact ⟨hB, hx.lt⟩
    · exact ⟨(ox k hk).1, (ox k hk).2.1⟩
    · exact ⟨(om k hk).1, (om k hk).2.1⟩, fun h => (ox bx h).2.2 rfl, fun h => (om bx h).2.2.1 rfl, fun k hk hk2 => (om k hk2).2.2.2 hk, r32, d32, m32⟩

end Go.Proofs.YtlmipchjmgnlfaaDoor
