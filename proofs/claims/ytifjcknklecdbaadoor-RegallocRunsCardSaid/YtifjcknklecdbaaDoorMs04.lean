import Derived.Test.YtifjcknklecdbaaDoorMs03
/- slices.Clone and slices.Equal of sets, liveness.last and back, by their contracts. -/
set_option linter.unusedVariables false
set_option linter.unusedSimpArgs false
namespace Go.Proofs.YtifjcknklecdbaaDoor
open Go.RowKit

/-- A set of its own, in a block that was not there. -/
def FreshPost (m x : Nat) (w : World) (e : Ending) (w' : World) : Prop := ∃ u, e = .returned u ∧ SetV w' m u x ∧ (∀ k, u.ownBlock = some k → w.heap.size ≤ k) ∧ Below w.heap.size w w'
theorem grownBy.refl (w : World) (k : Option Nat) : w.grownBy w k := ⟨rfl, rfl, rfl, Nat.le_refl _, fun _ _ _ => rfl⟩

set_option maxHeartbeats 1600000 in
theorem sclone_any (m x : Nat) (v : Value) (w : World) (hm : m ≤ 1) (h : SetV w m v x) :
    Calls Tryd.prog 56 #[v] w (FreshPost m x w) := by
  obtain ⟨i0, hi0, hz0, hz1, hz2⟩ := info_parts infoU
  rcases h.2 with ⟨rfl, h0⟩ | ⟨g, cap, cur, rfl, _, hh, hnc, hcm, hcs, htk⟩
  · subst h0
    have heq := fun (w : World) => run_eql_slice_nil (P := Tryd.prog) w 88 107 none 0 0 Tryd.underlying88
    go_enter Tryd.func56, Tryd.ntmps56
    go_wp2_with fail
    go_ret
    exact ⟨_, rfl, World.ownsRow_nil _ _ _ _, fun k hk => (by cases hk), Below.refl _ _⟩
  · have heq := fun (w : World) => run_eql_slice_nil (P := Tryd.prog) w 88 107 (some ⟨g, 0, none⟩) m cap Tryd.underlying88
    have HC : Hid (∀ j u, (setWd m x)[j]? = some u → (w.alloc (.cells #[] 107)).cell? ⟨g, j, none⟩ = some u) := fun j u hj => by
      have hjm : j < m := by
        obtain ⟨h, _⟩ := List.getElem?_eq_some_iff.1 hj
        simpa [setWd] using h
      have hb : (w.alloc (.cells #[] 107)).heap[g]? = some (.cells cur 107 (0, 0)) := (Below.heap_alloc _ _ _ (ltB hh)).trans hh
      rw [← htk, Nat.mul_one, List.getElem?_take, if_pos hjm] at hj
      simp only [World.cell?, hb, Option.isSome_none, Bool.false_eq_true, if_false]
      rw [← Array.getElem?_toList, hj]
    have HO := Lib.hid (World.ownsRow_made (e := 107) (size := 1) (base := w.heap.size) w #[] 0 (Nat.le_refl _) (Nat.zero_le _) rfl)
    have H1 : Hid (∀ u ∈ setWd m x, u.oneCell' = true) := fun u hu => by
      obtain ⟨_, rfl⟩ := List.mem_replicate.1 hu; rfl
    have hsl := setW_len m x
    have HSL := Lib.hid hsl
    clear h hh htk hcs hsl
    go_enter Tryd.func56, Tryd.ntmps56
    go_wp2_with (first | (at_builtin; refine wpList_append_own _ rfl _ _ 88 rfl w.heap.size 107 i0 (.int .u64 0) 1 8 Tryd.underlying88 hi0 hz0 hz1 hz2 rfl (by decide) _ 0 [] rfl HO.out ⟨g, 0, none⟩ m cap (setWd m x) rfl ?c0 ?c1 H1.out ?c3 ?c4 ?c5 ?_))
    case c0 => rw [HSL.out, Nat.mul_one]
    case c1 =>
      intro j u hj
      have e : (⟨g, 0, none⟩ : Addr).add j = ⟨g, j, none⟩ := by unfold Addr.add; split <;> simp_all
      rw [e]; exact HC.out j u hj
    case c3 => unfold maxLen; omega
    case c4 => omega
    case c5 => simp
    intro v' w' hown hg hnil
    have hB : Below w.heap.size w w' := (bAlloc (o := .cells #[] 107) (Nat.le_refl _) (Below.refl _ _)).grown hg (by simp) (fun k hk => by simp [Value.ownBlock] at hk; omega)
    have HU : Hid (SetV w' m v' x) := own0_base (by simpa using hown) (fun k _ => Nat.zero_le _)
    have HL : Hid (∀ k, v'.ownBlock = some k → w.heap.size ≤ k) := fun k hk => (hown.lt k hk).1
    have HB := Lib.hid hB
    clear hown hg hnil hB
    go_wp2_with fail
    go_ret
    exact ⟨_, rfl, HU.out, HL.out, HB.out⟩

theorem sequal_any (m x y : Nat) (v u : Value) (w : World) (hm : m ≤ 1) (hx : x < 2 ^ (64 * m)) (hy : y < 2 ^ (64 * m)) (h : SetV w m v x) (hu : SetV w m u y) :
    Calls Tryd.prog 55 #[v, u] w fun e w' => e = .returned (.bool (decide (x = y))) ∧ Below w.heap.size w w' := by
  have hmm : m = 0 ∨ m = 1 := by omega
  rcases hmm with rfl | rfl
  · obtain ⟨p, cap, rfl⟩ := h.nil
    obtain ⟨p2, cap2, rfl⟩ := hu.nil
    have h0 : x = y := by simp at hx hy; omega
    rw [decide_eq_true h0]
    clear h hu hx hy h0
    go_enter Tryd.func55, Tryd.ntmps55
    go_wp2_with fail
    refine wp_loop_rounds 1 ?_
    rw [rounds_succ]
    go_wp2_with fail
    go_ret
    exact ⟨rfl, Below.refl _ _⟩
  · obtain ⟨b, cap, rfl, hb, hc, -⟩ := h.one
    obtain ⟨b2, cap2, rfl, hb2, hc2, -⟩ := hu.one
    clear h hu hx hy
    by_cases e : x = y
    · subst e
      rw [decide_eq_true rfl]
      go_enter Tryd.func55, Tryd.ntmps55
      go_wp2_with fail
      refine wp_loop_rounds 2 ?_
      rw [rounds_succ]
      go_wp2_with fail
      go_quiet (fail)
      go_wp2_with fail
      rw [rounds_succ]
      go_wp2_with fail
      go_ret
      exact ⟨rfl, by repeat (first | exact Below.refl _ _ | apply bDrewN)⟩
    · rw [decide_eq_false e]
      have en : ((x : Int) != (y : Int)) = true := by simp; omega
      clear e
      go_enter Tryd.func55, Tryd.ntmps55
      go_wp2_with fail
      refine wp_loop_rounds 2 ?_
      rw [rounds_succ]
      go_wp2_with fail
      go_quiet (fail)
      go_wp2_with fail
      go_ret
      exact ⟨rfl, by repeat (first | exact Below.refl _ _ | apply bDrewN)⟩

set_option maxHeartbeats 1600000 in
theorem last_any (m o : Nat) (cp : Option Addr) (cl cc kind : Nat) (code : List IIns) (x tgt els : Int) (v : Value) (w : World) (hm : m ≤ 1) (ho : o < 2 ^ (64 * m)) (hx : kind = 2 → 0 ≤ x ∧ x < 64 * m) (h : SetV w m v o) :
    Calls Tryd.prog 46 #[.agg #[.slice cp cl cc, .int .u8 kind, .int .i64 x, .int .i64 tgt, .int .i64 els], v] w (FreshPost m (lastB ⟨code, kind, x, tgt, els⟩ o) w) := by
  have hb0 : Below w.heap.size w (w.alloc (.cells #[.slice cp cl cc, .int .u8 kind, .int .i64 x, .int .i64 tgt, .int .i64 els] 52)) := bAlloc (Nat.le_refl _) (Below.refl _ _)
  have HB0 := Lib.hid hb0
  have HC := Lib.hid (sclone_any m o v _ hm (h.below hb0 (Nat.le_refl _)))
  clear hb0 h
  go_enter Tryd.func46, Tryd.ntmps46
  go_wp2_with fail
  refine HC.out.mono ?_
  rintro e w1 ⟨u, rfl, hu, hf, hb1⟩
  have hz : w.heap.size < w1.heap.size := by have := hb1.size; simp at this; omega
  have hk1 : w1.cell? ⟨w.heap.size, 1, none⟩ = some (.int .u8 kind) := by rw [hb1.cell (p := ⟨w.heap.size, 1, none⟩) (by simp)]; simp [go_sem]
  have hk2 : w1.cell? ⟨w.heap.size, 2, none⟩ = some (.int .i64 x) := by rw [hb1.cell (p := ⟨w.heap.size, 2, none⟩) (by simp)]; simp [go_sem]
  have HB1 := Lib.hid (bThen hb1 (by simp) HB0.out)
  have HU := Lib.hid hu
  have HF : Hid (∀ k, u.ownBlock = some k → w.heap.size < k) := fun k hk => by have := hf k hk; simp at this; omega
  clear hb1 hu hf HC HB0
  by_cases hk : kind = 2
  · subst hk
    obtain ⟨hx0, hx1⟩ := hx rfl
    obtain ⟨r, rfl⟩ := Int.eq_ofNat_of_zero_le hx0
    have HA := Lib.hid (add_any m o r u w1 hm (by omega) ho HU.out)
    clear hx hx0 hx1
    go_wp2_with fail
    refine HA.out.mono ?_
    rintro e w2 ⟨rfl, hu2, hg2⟩
    have HU2 := Lib.hid hu2
    have HB2 := Lib.hid (HB1.out.grown hg2 HB1.out.size fun k hk => by have := HF.out k hk; omega)
    clear hu2 hg2 HA
    go_wp2_with fail
    go_ret
    exact ⟨u, rfl, HU2.out, fun k hk => by have := HF.out k hk; omega, HB2.out⟩
  · have hn : ((kind : Int) == 2) = false := by simp; omega
    have HL : Hid (lastB ⟨code, kind, x, tgt, els⟩ o = o) := (show lastB _ _ = _ by unfold lastB; rw [if_neg hk])
    clear hk hx
    go_wp2_with fail
    go_ret
    exact ⟨u, rfl, by rw [HL.out]; exact HU.out, fun k hk => by have := HF.out k hk; omega, HB1.out⟩
end Go.Proofs.YtifjcknklecdbaaDoor

/- liveness.back and wellFormed, by their contracts. -/
set_option linter.unusedVariables false
set_option linter.unusedSimpArgs false
namespace Go.Proofs.YtifjcknklecdbaaDoor
open Go.RowKit

theorem gTrans {a b c : World} {k : Option Nat} (h1 : a.grownBy b k) (h2 : b.grownBy c k) : a.grownBy c k :=
  ⟨h2.os.trans h1.os, h2.tape.trans h1.tape, h2.output.trans h1.output, Nat.le_trans h1.size h2.size, fun q hq hne => (h2.block q (Nat.lt_of_lt_of_le hq h1.size) hne).trans (h1.block q hq hne)⟩
theorem gBelow {a b : World} {k : Option Nat} (h : Below a.heap.size a b) : a.grownBy b k := ⟨h.os, h.tape, h.output, h.size, fun q hq _ => h.block q hq⟩
theorem gCell {w w' : World} {k : Option Nat} (hg : w.grownBy w' k) {b o : Nat} (hb : b < w.heap.size) (hne : ∀ q, k = some q → q ≠ b) : w'.cell? ⟨b, o, none⟩ = w.cell? ⟨b, o, none⟩ :=
  World.cell?_of_block (hg.block b hb (fun e => hne b e.symm rfl))
theorem rdI_grown {w w' : World} {u : Value} {l : List Int} {k : Option Nat} (h : RdI w u l) (hg : w.grownBy w' k) (hne : ∀ b, u.ownBlock = some b → k ≠ some b) : RdI w' u l :=
  h.keep hg.size fun b hb hlt => hg.block b hlt (fun e => hne b hb e.symm)
theorem rdI_cell {w : World} {v : Value} {xs : List Int} (h : RdI w v xs) (k : Nat) (hk : k < xs.length) : ∃ m off cap, v = .slice (some ⟨m, off, none⟩) xs.length cap ∧ m < w.heap.size ∧ w.cell? ⟨m, off + k, none⟩ = some (.int .i64 (xs.getD k 0)) := by
  obtain ⟨p, cap, rfl, hc⟩ := h
  obtain ⟨m, off, rfl, h1, h2⟩ := hc k hk
  exact ⟨m, off, cap, rfl, h1, h2⟩

theorem okIns_uses {R : Int} {i : IIns} (h : okIns R i = true) : ∀ r ∈ usesI i, 0 ≤ r ∧ r < R := by
  simp only [okIns, Bool.and_eq_true, List.all_eq_true] at h
  intro r hr
  have := h.1.2 r hr
  simpa [okR] using this
theorem okIns_def {R : Int} {i : IIns} (h : okIns R i = true) (hd : hasDef i.op = true) : 0 ≤ i.dst ∧ i.dst < R := by
  simp only [okIns, Bool.and_eq_true, hd, Bool.not_true, Bool.false_or] at h
  have := h.2
  simpa [okR] using this
/-- The set behind the first k uses. -/
def usedB (l : List Int) (k : Nat) (x : Nat) : Nat := (l.take k).foldl (fun s r => addB s r.toNat) x
theorem usedB_zero (l : List Int) (x : Nat) : usedB l 0 x = x := by simp [usedB]
theorem usedB_next (l : List Int) (k x : Nat) (hk : k < l.length) : usedB l (k + 1) x = addB (usedB l k x) (l.getD k 0).toNat := by
  unfold usedB
  rw [List.take_succ_eq_append_getElem hk, List.foldl_append, List.getD_eq_getElem?_getD, List.getElem?_eq_getElem hk]
  rfl
theorem usedB_lt {R : Nat} (l : List Int) (k x : Nat) (hx : x < 2 ^ R) (hl : ∀ r ∈ l, 0 ≤ r ∧ r < R) : usedB l k x < 2 ^ R :=
  foldl_add_lt _ hx fun r hr => by
    have := hl r (List.mem_of_mem_take hr)
    simpa [okR] using this
theorem usesI_len (i : IIns) : (usesI i).length ≤ 2 := by
  unfold usesI
  split
  · simp
  · split <;> simp
theorem backB_def {i : IIns} {x : Nat} (h : hasDef i.op = true) : backB i x = usedB (usesI i) (usesI i).length (remB x i.dst.toNat) := by
  unfold backB usedB; rw [if_pos h, List.take_length]
theorem backB_no {i : IIns} {x : Nat} (h : hasDef i.op = false) : backB i x = usedB (usesI i) (usesI i).length x := by
  unfold backB usedB; rw [if_neg (by rw [h]; exact Bool.noConfusion), List.take_length]
theorem pow_le {R m x : Nat} (h : x < 2 ^ R) (hR : R ≤ 64 * m) : x < 2 ^ (64 * m) := Nat.lt_of_lt_of_le h (Nat.pow_le_pow_right (by decide) hR)

set_option maxHeartbeats 1600000 in
theorem back_any (m R x op : Nat) (dst ix iy imm : Int) (sym : ByteArray) (v : Value) (w : World) (hm : m ≤ 1) (hR : R ≤ 64 * m) (hx : x < 2 ^ R) (hi : okIns R ⟨op, dst, ix, iy, imm, sym⟩ = true) (h : SetV w m v x) :
    Calls Tryd.prog 47 #[v, .agg #[.int .u8 op, .int .i64 dst, .int .i64 ix, .int .i64 iy, .int .i64 imm, .string sym]] w (SetPost m v (backB ⟨op, dst, ix, iy, imm, sym⟩ x) w) := by
  have hb0 : Below w.heap.size w (w.alloc (.cells #[.int .u8 op, .int .i64 dst, .int .i64 ix, .int .i64 iy, .int .i64 imm, .string sym] 59)) := bAlloc (Nat.le_refl _) (Below.refl _ _)
  have hvl : ∀ k, v.ownBlock = some k → k < w.heap.size := fun k hk => h.lt hk
  have HV := Lib.hid hvl
  have HB0 := Lib.hid hb0
  have HS0 := Lib.hid (h.below hb0 (Nat.le_refl _))
  have hus := okIns_uses hi
  have HUS := Lib.hid hus
  have HUL := Lib.hid (usesI_len ⟨op, dst, ix, iy, imm, sym⟩)
  have hdf := okIns_def hi
  clear hb0 hvl h hus
  go_enter Tryd.func47, Tryd.ntmps47
  go_wp2_with fail
  refine (defines_any op dst ix iy imm sym _).mono ?_
  rintro e w1 ⟨rfl, hb1⟩
  have hz : w.heap.size < w1.heap.size := by have := hb1.size; simp at this; omega
  have c0 : w1.cell? ⟨w.heap.size, 0, none⟩ = some (.int .u8 op) := by rw [hb1.cell (p := ⟨w.heap.size, 0, none⟩) (by simp)]; simp [go_sem]
  have c1 : w1.cell? ⟨w.heap.size, 1, none⟩ = some (.int .i64 dst) := by rw [hb1.cell (p := ⟨w.heap.size, 1, none⟩) (by simp)]; simp [go_sem]
  have c2 : w1.cell? ⟨w.heap.size, 2, none⟩ = some (.int .i64 ix) := by rw [hb1.cell (p := ⟨w.heap.size, 2, none⟩) (by simp)]; simp [go_sem]
  have c3 : w1.cell? ⟨w.heap.size, 3, none⟩ = some (.int .i64 iy) := by rw [hb1.cell (p := ⟨w.heap.size, 3, none⟩) (by simp)]; simp [go_sem]
  have c4 : w1.cell? ⟨w.heap.size, 4, none⟩ = some (.int .i64 imm) := by rw [hb1.cell (p := ⟨w.heap.size, 4, none⟩) (by simp)]; simp [go_sem]
  have c5 : w1.cell? ⟨w.heap.size, 5, none⟩ = some (.string sym) := by rw [hb1.cell (p := ⟨w.heap.size, 5, none⟩) (by simp)]; simp [go_sem]
  have HS1 := Lib.hid (HS0.out.below hb1 (Nat.le_refl _))
  have HG1 := Lib.hid (gBelow (k := v.ownBlock) (bThen hb1 HB0.out.size HB0.out))
  clear hb1 HS0 HB0
  generalize hl : usesI ⟨op, dst, ix, iy, imm, sym⟩ = l at HUS HUL
  have HL := Lib.hid hl
  obtain ⟨hd, hdd⟩ : ∃ b, b = hasDef op := ⟨_, rfl⟩
  rw [← hdd]
  cases hd
  focus
    have HBK : Hid (backB ⟨op, dst, ix, iy, imm, sym⟩ x = usedB l l.length x) := (show backB _ _ = _ by rw [← hl]; exact backB_no hdd.symm)
    have hx2 := hx
    clear hl hdd hdf
    go_wp2_with fail
    generalize w1 = w2 at *
    generalize x = x2 at *
    have HS2 := HS1
    have HG2 := HG1
    clear HS1 HG1
  rotate_left
  focus
    have HBK : Hid (backB ⟨op, dst, ix, iy, imm, sym⟩ x = usedB l l.length (remB x dst.toNat)) := (show backB _ _ = _ by rw [← hl]; exact backB_def hdd.symm)
    obtain ⟨hd0, hd1⟩ := hdf hdd.symm
    obtain ⟨r, rfl⟩ := Int.eq_ofNat_of_zero_le hd0
    have hx2 : remB x ((r : Int)).toNat < 2 ^ R := remB_lt hx
    rw [Int.toNat_natCast] at hx2 HBK
    have HR := Lib.hid (remove_any m x r v w1 hm (by omega) (pow_le hx hR) HS1.out)
    clear hl hdd hdf hd0 hd1
    go_wp2_with fail
    refine HR.out.mono ?_
    rintro e w2 ⟨rfl, hs2, hg2⟩
    have d0 := (gCell (o := 0) hg2 hz (fun q hq => by have := HV.out q hq; omega)).trans c0
    have d1 := (gCell (o := 1) hg2 hz (fun q hq => by have := HV.out q hq; omega)).trans c1
    have d2 := (gCell (o := 2) hg2 hz (fun q hq => by have := HV.out q hq; omega)).trans c2
    have d3 := (gCell (o := 3) hg2 hz (fun q hq => by have := HV.out q hq; omega)).trans c3
    have d4 := (gCell (o := 4) hg2 hz (fun q hq => by have := HV.out q hq; omega)).trans c4
    have d5 := (gCell (o := 5) hg2 hz (fun q hq => by have := HV.out q hq; omega)).trans c5
    have hz2 := hg2.size
    have hz' : w.heap.size < w2.heap.size := by omega
    have HS2 := Lib.hid hs2
    have HG2 := Lib.hid (gTrans HG1.out hg2)
    clear hs2 hg2 HR HS1 HG1 c0 c1 c2 c3 c4 c5 hz hz2
    generalize remB x r = x2 at HBK hx2 HS2
    go_wp2_with fail
  all_goals
    refine (uses_any op _ ix iy imm sym w2).mono ?_
    rintro e w3 ⟨u, rfl, hu, huf, hb3⟩
    rw [HL.out] at hu
    obtain ⟨p, cap, rfl⟩ := hu.shape
    have HS3 := Lib.hid (HS2.out.below hb3 (Nat.le_refl _))
    have HG3 := Lib.hid (gTrans HG2.out (gBelow hb3))
    have HU3 := Lib.hid hu
    have HUF : Hid (∀ b, (Value.slice p l.length cap).ownBlock = some b → v.ownBlock ≠ some b) := fun b hb e => by have h1 := huf b hb; have h2 := HV.out b e; have h3 := HG2.out.size; omega
    have HL2 := Lib.hid (show l.length ≤ 2 from HUL.out)
    clear hu huf hb3 HS2 HG2
    try clear c0 c1 c2 c3 c4 c5
    try clear d0 d1 d2 d3 d4 d5
    go_wp2_with fail
    go_loopw [20] (fun s20 wr => ∃ k : Nat, s20 = .int .i64 k ∧ k ≤ l.length ∧ Hid (SetV wr m v (usedB l k x2)) ∧ Hid (w.grownBy wr v.ownBlock) ∧ Hid (RdI wr (.slice p l.length cap) l)) (fun s20 _ => l.length - (intOf s20).toNat)
    case atStart => exact ⟨0, rfl, Nat.zero_le _, HS3.out, HG3, HU3⟩
    case round =>
      obtain ⟨k, rfl, hk, HSk, HGk, HUk⟩ := hrel
      obtain ⟨w4, rfl⟩ : ∃ W : World, W = wr := ⟨_, rfl⟩
      have hl2 := HL2.out
      by_cases hlt : k < l.length
      · have hkI : (k : Int) < l.length := by omega
        obtain ⟨mb, off, cap', e1, hmb, hc⟩ := rdI_cell HUk.out k hlt
        injection e1 with e1 e2 e3
        subst e1 e3
        obtain ⟨hy0, hy1⟩ := HUS.out (l.getD k 0) (by rw [List.getD_eq_getElem?_getD, List.getElem?_eq_getElem hlt]; exact List.getElem_mem hlt)
        have hnx := usedB_next l k x2 hlt
        have hlt2 := usedB_lt (R := R) l k x2 hx2 HUS.out
        generalize l.getD k 0 = y at hc hy0 hy1 hnx
        obtain ⟨r2, rfl⟩ := Int.eq_ofNat_of_zero_le hy0
        rw [Int.toNat_natCast] at hnx
        have HN := Lib.hid hnx
        have HA := Lib.hid (add_any m (usedB l k x2) r2 v w4 hm (by omega) (pow_le hlt2 hR) HSk.out)
        clear hnx hlt2 hy0 hy1
        go_wp2_with fail
        refine HA.out.mono ?_
        rintro e w5 ⟨rfl, hs5, hg5⟩
        have HS5 := Lib.hid hs5
        have HG5 := Lib.hid (gTrans HGk.out hg5)
        have HU5 := Lib.hid (rdI_grown HUk.out hg5 HUF.out)
        clear HA hs5 hg5 hc HSk HGk HUk hmb
        go_wp2_with fail
        go_roundw
        case rel => exact ⟨k + 1, by go_num, by omega, (show SetV _ _ _ _ by rw [HN.out]; exact HS5.out), HG5, HU5⟩
        case measure => simp [intOf]; omega
      · have hkl : k = l.length := by omega
        subst hkl
        clear hlt hk
        go_wp2_with fail
        go_end0
        exact ⟨rfl, by rw [HBK.out]; exact HSk.out, HGk.out⟩
end Go.Proofs.YtifjcknklecdbaaDoor

