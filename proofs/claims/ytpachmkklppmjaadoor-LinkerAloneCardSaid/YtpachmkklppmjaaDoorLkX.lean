/- Plain facts of LinkerAlone: the PC stays small, a task alone runs alike, the copied memory, two arrays of registers. -/
import Derived.Test.YtpachmkklppmjaaDoorLkW
import Derived.Test.YtpachmkklppmjaaDoorCorS
import Derived.Test.YtpachmkklppmjaaDoorLkS
import Derived.Laws.CopyOwn
import Derived.Laws.StructEq
set_option linter.unusedVariables false
set_option linter.unusedSimpArgs false
namespace Go.Proofs.YtpachmkklppmjaaDoor
open Go.RowKit Go.Maps Go.WideMaps

theorem all_range_eqI : ∀ (xs ys : List Int), xs.length = ys.length → ((List.range xs.length).all fun i => xs.getD i 0 == ys.getD i 0) = (xs == ys)
  | [], [], _ => rfl
  | x :: xs, y :: ys, h => by
    have ih := all_range_eqI xs ys (by simpa using h)
    rw [List.length_cons, List.range_succ_eq_map, List.all_cons, List.all_map]
    simp only [List.getD_cons_zero, Function.comp_def, List.getD_cons_succ, ih]
    simp [List.cons_beq_cons]
  | [], _ :: _, h => by simp at h
  | _ :: _, [], h => by simp at h
theorem run_equalIn_ints {P : Program} (w : World) (d : Nat) (t e : TypeId) (n : Nat) (k : IntKind) (ht : P.underlying t = some (.array n e)) (he : P.underlying e = some (.int k)) (hsz : ∀ w, (sizeOf e).run P w = .ok 1 w)
    (xs ys : List Int) (hx : xs.length = n) (hy : ys.length = n) :
    (Op.equalIn (d + 2) t (.agg (xs.map (Value.int k)).toArray) (.agg (ys.map (Value.int k)).toArray)).run P w = .ok (xs == ys) w := by
  rw [← all_range_eqI xs ys (hx.trans hy.symm), hx, List.range_eq_range', Op.equalIn]
  simp only [Sem.run_bind, run_underlying ht, Result.andThen_ok, hsz, Std.Legacy.Range.forIn_eq_forIn_range', Std.Legacy.Range.size, Nat.sub_zero, Nat.add_sub_cancel, Nat.div_one]
  have hl : ∀ i ∈ List.range' 0 n 1, i < n := fun i hi => by simpa using (List.mem_range'_1.1 hi).2
  generalize List.range' 0 n 1 = l at hl ⊢
  induction l with
  | nil => simp
  | cons i l ih =>
    have hi : i < n := hl i (by simp)
    have px : (part e (xs.map (Value.int k)).toArray (i * 1)).run P w = .ok (.int k (xs.getD i 0)) w := by
      simp [part, isAgg, run_underlying he, List.getD, List.getElem?_eq_getElem (show i < xs.length by omega)]
    have py : (part e (ys.map (Value.int k)).toArray (i * 1)).run P w = .ok (.int k (ys.getD i 0)) w := by
      simp [part, isAgg, run_underlying he, List.getD, List.getElem?_eq_getElem (show i < ys.length by omega)]
    have pe : (Op.equalIn (d + 1) e (.int k (xs.getD i 0)) (.int k (ys.getD i 0))).run P w = .ok (xs.getD i 0 == ys.getD i 0) w := run_equalIn_int w d e k k _ _ he
    simp only [List.forIn_cons, Sem.run_bind, px, py, pe, Result.andThen_ok, List.all_cons]
    cases hb : (xs.getD i 0 == ys.getD i 0)
    · simp
    · simp only [Bool.not_true, Bool.false_eq_true, if_false, Sem.run_pure, Result.andThen_ok, Bool.true_and]
      exact ih fun j hj => hl j (by simp [hj])
theorem run_eql_regs (xs ys : List Int) (hx : xs.length = 16) (hy : ys.length = 16) (w : World) :
    (binOp .eql 40 (.agg (xs.map (Value.int .i32)).toArray) (.agg (ys.map (Value.int .i32)).toArray)).run Tryd.prog w = .ok (.bool (xs == ys)) w := by
  rw [run_eql_struct, run_equalIn_ints w 9998 40 21 16 .i32 Tryd.underlying40 Tryd.underlying21 (fun _ => by kernel_rfl) xs ys hx hy]
  rfl
theorem StAt.regs {w : World} {S : Nat} {s : St} {dv : Value} (h : StAt w S s dv) : w.rangeAt S 1 (s.r.map (.int .i32)) := fun j v hj => by
  obtain ⟨hj1, hj2⟩ := List.getElem?_eq_some_iff.1 hj
  have hj3 : j < 16 := by have := h.1; simp at hj1; omega
  rw [h.reg j hj3, ← hj2]
  simp [List.getD_eq_getElem?_getD, List.getElem?_eq_getElem (show j < s.r.length by simpa using hj1)]
theorem yieldsIf_eql_regs {ops : Array Oper} {S : World → Prop} {o : Oper} {a : Act} (hw : Region.wanted o (yielded ops a.tmps) = true) (x y : Operand) (r : TypeId) (ho : o.op = .binOp .eql 40 x y r) (xs : List Int) (hl : xs.length = 16)
    (hx : a.eval x = .agg (xs.map (Value.int .i32)).toArray) (hy : a.eval y = .agg (xs.map (Value.int .i32)).toArray) : YieldsIf Tryd.prog ops S o (.bool true) a := by
  refine .inl ⟨hw, fun w _ => ?_⟩
  have hr := run_eql_regs xs xs hl hl w
  rw [show (xs == xs) = true by simp] at hr
  have hg : (eqGuard .eql 40 x y (a.eval x) (a.eval y)).run Tryd.prog w = .ok () w := by rw [hx, hy]; exact run_eqGuard_agg _ _ _ _ _ _ _ Tryd.eqGuardType40
  have hr2 : (binOp .eql 40 (a.eval x) (a.eval y)).run Tryd.prog w = .ok (.bool true) w := by rw [hx, hy]; exact hr
  unfold execOp
  simp only [ho, Sem.run_bind, hg, hr2, Result.andThen_ok, Sem.run_pure]
set_option maxHeartbeats 2000000 in
theorem stepI_pc {lk : Int} {n a b c : Nat} {i : Int} {s : St} {mem : List Int} {inp M : Int} {s' : St} {mem' : List Int} {tk : Bool} {ad vl : Int} (h : stepI lk n a b c i s mem inp = .ok (s', mem', tk, ad, vl)) (hi : -131072 ≤ i ∧ i ≤ 131071) (hp : 0 ≤ s.pc ∧ s.pc ≤ M) :
    -200000 ≤ s'.pc ∧ s'.pc ≤ M + 200001 := by
  revert h
  unfold stepI
  simp only
  repeat' (with_reducible refine ite_ok (fun _ => ?_) (fun _ => ?_))
  all_goals intro h
  all_goals first
    | (with_reducible exact (err_ne h).elim)
    | (with_reducible obtain ⟨rfl, rfl⟩ := ok_parts h
       refine ⟨?_, ?_⟩ <;> dsimp only <;> omega)
theorem stepP_pc {im : Im} {t : Int} {s : St} {mem : List Int} {inp : Int → Int} {f : Ef} {s' : St} {mem' : List Int} (h : stepP im t s mem inp = .ok (f, s', mem')) : -200000 ≤ s'.pc ∧ s'.pc ≤ (im.code.length : Int) + 200001 := by
  unfold stepP at h
  split at h
  · cases h
  · simp only at h
    split at h
    · cases h
    · rename_i hpc
      split at h
      · cases h
      · rename_i hok
        have hv := (of_decide_eq_true (show decOk (im.code.getD s.pc.toNat 0) = true by simpa using hok)).1
        have hb := vld_bd hv
        split at h
        · cases h
        · rename_i s2 m2 tk ad vl hs
          cases h
          exact stepI_pc hs ⟨by omega, by omega⟩ ⟨by omega, by omega⟩
theorem runP_pc {σ : Type} {im : Im} {t : Int} (inp : σ → Int → Int) (nxt : σ → Int → σ) : ∀ (fuel : Nat) (c : Cf σ), (-200000 ≤ c.s.pc ∧ c.s.pc ≤ (im.code.length : Int) + 200001) → -200000 ≤ (runP im t inp nxt fuel c).1.s.pc ∧ (runP im t inp nxt fuel c).1.s.pc ≤ (im.code.length : Int) + 200001
  | 0, c, h => by
    cases hh : c.s.halted with
    | true => rw [runP_halted hh]; exact h
    | false => rw [runP_fuel hh]; exact h
  | fuel + 1, c, h => by
    cases hh : c.s.halted with
    | true => rw [runP_halted hh]; exact h
    | false =>
      cases hc : cstep im t inp nxt c with
      | error e => rw [runP_err hh hc]; exact h
      | ok c' =>
        rw [runP_ok hh hc]
        refine runP_pc inp nxt fuel c' ?_
        unfold cstep at hc
        split at hc
        · cases hc
        · rename_i f s' m' hs
          cases hc
          exact stepP_pc hs
/-- A task of an image runs as it does alone. -/
theorem alone_rn {S : List LSh} {l : List LOb} {im : Im} (h : linkR S l = some im) {k : Nat} (hk : k < l.length) (mem : List Int) : ∃ (one : Im) (d : Int), linkR S [l.getD k default] = some one ∧ im.sh = one.sh ∧ k < im.ents.length ∧ 0 < one.ents.length ∧ (im.ents.getD k default).st = d ∧
    (0 ≤ (im.ents.getD k default).dat ∧ (im.ents.getD k default).dat ≤ 512) ∧ (0 ≤ (one.ents.getD 0 default).dat ∧ (one.ents.getD 0 default).dat ≤ 512) ∧ rnL im k mem = ((rnL one 0 mem).1.sh d, (rnL one 0 mem).2.1, (rnL one 0 mem).2.2) ∧
    (-200000 ≤ (rnL one 0 mem).1.s.pc ∧ (rnL one 0 mem).1.s.pc ≤ (one.code.length : Int) + 200001) := by
  obtain ⟨e1, e2, hA, hs, hd⟩ := link_alone h hk
  have hob : okL S l = true := by
    unfold linkR at h
    split at h
    · rename_i hc
      exact hc.1
    · cases h
  have hv := ob_ok (List.all_eq_true.1 ((okL_iff S l).1 hob).1 _ (mem_at2 l hk))
  have hdat : (im.ents.getD k default).dat = (l.getD k default).dat := by
    rw [e1]
    show ((entsL l).getD k default).dat = _
    rw [entsL_at l hk]
  refine ⟨_, _, e2, hs, hA.lt, by rw [hA.n1]; exact Nat.one_pos, hd, ?_, ?_, ?_, ?_⟩
  · rw [hdat]
    exact ⟨hv.d0, hv.d1⟩
  · rw [hA.dat, hdat]
    exact ⟨hv.d0, hv.d1⟩
  · have hx := runP_sh hA (σ := Unit) (fun _ _ => 0) (fun _ _ => ()) 2000 ⟨s0 ((imgL S [l.getD k default]).ents.getD 0 default).st ((imgL S [l.getD k default]).ents.getD 0 default).dat.toNat, mem, (), []⟩
    rw [hA.ost, hA.dat] at hx
    unfold rnL
    rw [hA.ost, hA.dat, hd]
    rw [show ((0 : Nat) : Int) = 0 from rfl]
    rw [← hx]
    show runP im k _ _ 2000 _ = runP im k _ _ 2000 ⟨⟨0 + _, _, _, _, _⟩, _, _, _⟩
    rw [Int.zero_add]
    rfl
  · refine runP_pc _ _ 2000 _ ?_
    rw [hA.ost]
    show -200000 ≤ (0 : Int) ∧ (0 : Int) ≤ _
    omega
theorem im_sh {S : List LSh} {l : List LOb} {im : Im} (h : linkR S l = some im) : 0 ≤ im.sh ∧ im.sh ≤ 32 * (S.length : Int) := by
  unfold linkR at h
  split at h
  · rename_i hc
    cases h
    exact addrS_bd ((okL_iff S l).1 hc.1).2.1 S.length (Nat.le_refl _)
  · cases h
/-- The memory that the law copies. -/
def cpM (n : Nat) (mem : List Int) : List Int := mem.take n ++ List.replicate (n - mem.length) 0
theorem cpM_len (n : Nat) (mem : List Int) : (cpM n mem).length = n := by
  unfold cpM
  rw [List.length_append, List.length_take, List.length_replicate]
  omega
theorem cpM_w32 (n : Nat) {mem : List Int} (h : ∀ j, W32 (mem.getD j 0)) : ∀ j, W32 ((cpM n mem).getD j 0) := fun j => by
  unfold cpM
  rw [List.getD_eq_getElem?_getD, List.getElem?_append]
  split
  · rename_i hj
    rw [List.length_take] at hj
    rw [List.getElem?_take, if_pos (by omega), ← List.getD_eq_getElem?_getD]
    exact h j
  · rw [List.getElem?_replicate]
    split <;> exact W32.zero
theorem cpM_cells (n : Nat) (mem : List Int) : (mem.take n).map (Value.int .i32) ++ (List.replicate n (Value.int .i32 0)).drop ((mem.take n).map (Value.int .i32)).length = (cpM n mem).map (Value.int .i32) := by
  unfold cpM
  rw [List.map_append, List.map_replicate, List.drop_replicate, List.length_map, List.length_take]
  congr 2
  omega
theorem wpList_copy_exact {P : Program} {w : World} {ops : Array Oper} {rest : List Oper} {o : Oper} {a : Act} {Q : Exit → Act → World → Prop} (hgd : o.guard = none) (d s : Operand) (dT sT : TypeId)
    (ho : o.op = .call { callee := .builtin .copy, args := #[d, s], argTypes := #[dT, sT] }) (elem : TypeId) (hu : P.underlying dT = some (.slice elem)) (hsz : (P.info? elem).map (·.size) = some 1)
    (g n cap : Nat) (sp : Option Addr) (sLen sCap : Nat) (hd : a.eval d = .slice (some ⟨g, 0, none⟩) n cap) (hs : a.eval s = .slice sp sLen sCap) (cur : List Value) (t : TypeId) (hg : w.heap[g]? = some (.cells cur.toArray t (0, 0)))
    (cs : List Value) (hn : cs.length = Nat.min sLen n) (hsrc : 0 < cs.length → ∃ ad, sp = some ad ∧ ∀ j v, cs[j]? = some v → w.cell? (ad.add j) = some v) (hfit : cs.length ≤ cur.length) (h1 : ∀ v ∈ cs, v.oneCell' = true)
    (h : ∀ w', w'.heap[g]? = some (.cells (cs ++ cur.drop cs.length).toArray t (0, 0)) → Kept (fun j => j = g) w w' → wpList P ops Q rest (a.put o.dst (goInt cs.length)) w') : wpList P ops Q (o :: rest) a w := by
  by_cases h0 : cs.length = 0
  · obtain rfl : cs = [] := List.eq_nil_of_length_eq_zero h0
    refine wpList_copy_nothing hgd d s dT sT ho elem hu hsz _ sp n cap sLen sCap hd hs (by rw [← hn]; rfl) ?_
    exact h w (by simpa using hg) (Kept.refl _ _)
  · obtain ⟨ad, rfl, hx⟩ := hsrc (by omega)
    refine wpList_copy_own hgd d s dT sT ho elem hu hsz g 0 n cap ad sLen sCap hd hs cur.toArray t hg cs hn hx (by simpa using hfit) h1 ?_
    refine h _ ?_ ⟨rfl, rfl, rfl, by simp [World.setRow], fun k hk hne => setRow_other w g k _ hne⟩
    have := setRow_heap w g _ (cur.toArray.toList.take 0 ++ (cs ++ cur.toArray.toList.drop (0 + cs.length))).toArray _ _ hg
    simpa using this
/-- Two memories made. -/
def Mk2 (w : World) (n : Nat) (u v : Value) (W : World) : Prop := ∃ g h, u = .slice (some ⟨g, 0, none⟩) n n ∧ v = .slice (some ⟨h, 0, none⟩) n n ∧ Hid (g ≠ h ∧ (w.heap.size ≤ g ∧ w.heap.size ≤ h) ∧ W.heap[g]? = some (.cells (List.replicate n (Value.int .i32 0)).toArray 21 (0, 0)) ∧ W.heap[h]? = some (.cells (List.replicate n (Value.int .i32 0)).toArray 21 (0, 0)) ∧ Below w.heap.size w W)
theorem Mk2.made (w : World) (n : Nat) : Mk2 w n (.slice (some ⟨w.heap.size, 0, none⟩) n n) (.slice (some ⟨w.heap.size + 1, 0, none⟩) n n) ((w.alloc (.cells (madeCells #[.int .i32 0] n) 21)).alloc (.cells (madeCells #[.int .i32 0] n) 21)).drew := by
  refine ⟨_, _, rfl, rfl, ⟨by omega, ⟨Nat.le_refl _, by omega⟩, ?_, ?_, Below.drew (bAlloc (by simp) (bAlloc (Nat.le_refl _) (Below.refl _ _)))⟩⟩
  · rw [← made_rep]
    show ((w.alloc _).alloc _).heap[w.heap.size]? = _
    rw [Below.heap_alloc _ _ _ (by simp)]
    exact heap_alloc_new _ _
  · rw [← made_rep]
    show ((w.alloc _).alloc _).heap[w.heap.size + 1]? = _
    exact heap_at1 _ _ _
theorem Mk2.swap {w : World} {n : Nat} {u v : Value} {W : World} (h : Mk2 w n u v W) : Mk2 w n v u W := by
  obtain ⟨g, k, e1, e2, ⟨hne, hge, h1, h2, hb⟩⟩ := h
  exact ⟨k, g, e2, e1, ⟨fun e => hne e.symm, hge.symm, h2, h1, hb⟩⟩
theorem mem_of_row {W : World} {g n : Nat} {xs : List Int} {t : TypeId} (hl : xs.length = n) (h : W.heap[g]? = some (.cells (xs.map (Value.int .i32)).toArray t (0, 0))) : MemAt W (.slice (some ⟨g, 0, none⟩) n n) xs := by
  subst hl
  refine ⟨_, _, rfl, .inr ⟨g, [], [], rfl, t, ?_⟩⟩
  rw [List.nil_append, List.append_nil]
  exact h
end Go.Proofs.YtpachmkklppmjaaDoor
