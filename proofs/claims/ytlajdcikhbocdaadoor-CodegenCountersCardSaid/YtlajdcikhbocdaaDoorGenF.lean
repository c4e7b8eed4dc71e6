/- The generator's emit, refer and jump, by their contracts. -/
import Derived.Test.YtlajdcikhbocdaaDoorGenE
import Derived.Deep.RegionLaw
set_option linter.unusedVariables false
set_option linter.unusedSimpArgs false
namespace Go.Proofs.YtlajdcikhbocdaaDoor
open Go.RowKit Go.Maps

theorem infoIn : (Tryd.prog.info? 53).map (fun i => (i.zero, i.size, i.bytes)) = some (some (.agg #[.int .u8 0, .int .i64 0, .int .i64 0, .int .i64 0, .int .i64 0]), 5, 40) := by kernel_rfl
theorem codeV_one (l : List GI) : ∀ u ∈ codeV l, u.oneCell' = true := by
  intro u hu
  obtain ⟨i, _, hu⟩ := List.mem_flatMap.1 hu
  simp only [giV, List.mem_cons, List.not_mem_nil, or_false] at hu
  rcases hu with rfl | rfl | rfl | rfl | rfl <;> rfl
/-- Append of instructions that can be read. -/
theorem wpList_append_gs {w : World} {ops : Array Oper} {rest : List Oper} {o : Oper} {a : Act} {Q : Exit → Act → World → Prop} (hgd : o.guard = none) (s x : Operand)
    (ho : o.op = .call { callee := .builtin .append, args := #[s, x], argTypes := #[28, 28] })
    (v : Value) (l0 : List GI) (hs : a.eval s = v) (hown : w.ownsRow 0 53 5 v l0.length (codeV l0))
    (xv : Value) (l : List GI) (hx : a.eval x = xv) (hl : GsRd w xv l) (hne : l ≠ []) (h63 : l0.length + l.length ≤ 1000000)
    (h : ∀ p c' w', w'.ownsRow 0 53 5 (.slice p (l0 ++ l).length c') (l0 ++ l).length (codeV l0 ++ codeV l) → w.grownBy w' v.ownBlock → ((Value.slice p (l0 ++ l).length c').ownBlock = v.ownBlock ∨ ∀ k, (Value.slice p (l0 ++ l).length c').ownBlock = some k → w.heap.size ≤ k) → wpList Tryd.prog ops Q rest (a.put o.dst (.slice p (l0 ++ l).length c')) w') : wpList Tryd.prog ops Q (o :: rest) a w := by
  refine wpList_plain hgd fun K hK => ?_
  obtain ⟨i, hi, hie⟩ := Option.map_eq_some_iff.1 infoIn
  simp only [Prod.mk.injEq] at hie
  obtain ⟨q, cap, rfl, hq⟩ := hl
  obtain ⟨g, off, rfl, hg, hc⟩ := hq.resolve_left hne
  have hpos : 0 < l.length := List.length_pos_iff.2 hne
  obtain ⟨v', w', hrun, h2, h3, _, h5⟩ := run_append_own_at (P := Tryd.prog) w 0 28 o.type 53 i _ 5 40 Tryd.underlying28 hi hie.1 hie.2.1 hie.2.2 rfl (by decide) v l0.length (codeV l0) hown ⟨g, off, none⟩ l.length cap (codeV l) (codeV_len l) (fun j u hj => by
    have e2 : (⟨g, off, none⟩ : Addr).add j = ⟨g, off + j, none⟩ := by
      unfold Addr.add
      split
      · rename_i e; subst e; rfl
      · rfl
    rw [e2]; exact hc j u hj) (codeV_one l) (by unfold maxLen; omega) (by omega) (Nat.zero_le _)
  rw [← List.length_append] at h2
  have hsl : ∃ p c', v' = .slice p (l0 ++ l).length c' := by
    rcases h2.2 with ⟨rfl, hh⟩ | ⟨g, cap, cur, rfl, _⟩
    · rw [List.length_append] at hh; omega
    · exact ⟨_, _, rfl⟩
  obtain ⟨p, c', rfl⟩ := hsl
  unfold Oper.wp execOp
  simp only [ho, resolve, invoke, builtin, Sem.run_bind, Sem.run_pure, Result.andThen_ok, List.map_toArray, List.map_cons, List.map_nil, hs, hx, hrun]
  exact hK _ _ (h p c' w' h2 h3 (h5.imp id fun e k hk => by rw [e] at hk; cases hk; exact Nat.le_refl _))

set_option maxHeartbeats 1600000 in
set_option maxRecDepth 20000 in
theorem emit_any {q : GK} {R : List (Nat × List Value)} {g : Gen} {w : World} (h : GenRel q R g w) {lv : Value} {l : List GI} (hl : GsRd w lv l) (hne : l ≠ []) (h63 : g.code.length + l.length ≤ 1000000) :
    Calls Tryd.prog 24 #[.pointer (some ⟨q.gb, 0, none⟩), lv] w fun e w' => e = .returned (.tuple #[]) ∧ Hid (GenRel q R (emitG l g) w') := by
  obtain ⟨col, cv, rv, sv, bv, h⟩ := h
  obtain ⟨hlt, -, c3, -⟩ := h.cells
  have HL := Lib.hid hl
  have HO := Lib.hid h.code.1
  have HG := Lib.hid h
  clear hl h
  go_enter Tryd.func24, Tryd.ntmps24
  go_wp2_with (first | (at_builtin; refine wpList_append_gs rfl _ _ rfl cv g.code rfl HO.out lv l rfl HL.out hne h63 ?_))
  intro p c' w3 hO hgr hd
  obtain ⟨⟨b3, f3, lt3⟩, hK⟩ := HG.out.putCode (l := l) (List.length_append ..).symm hgr hO hd
  have HK := Lib.hid hK
  clear hO hgr hd hK HG HO HL c3 hlt
  go_wp2_with fail
  go_end0
  exact ⟨rfl, HK⟩

/-- Append of one element, as a step of a region that draws its order. -/
theorem step_append_els {w : World} {ops : Array Oper} {o : Oper} {a : Act} {K : Act → World → Prop} {Q : Exit → Act → World → Prop} {E : Prop} (hgd : o.guard = none) (s x : Operand) (t e : TypeId) (z : Value) (size bytes : Nat)
    (ho : o.op = .call { callee := .builtin .append, args := #[s, x], argTypes := #[t, t] }) (ht : Tryd.prog.underlying t = some (.slice e)) (hinfo : (Tryd.prog.info? e).map (fun i => (i.zero, i.size, i.bytes)) = some (some z, size, bytes)) (hz1 : z.cells.size = size) (hsz : 0 < size) (hby : bytes ≤ 64)
    (v : Value) (n : Nat) (xs : List Value) (hs : a.eval s = v) (hown : w.ownsRow 0 e size v n xs)
    (g c : Nat) (ys : List Value) (hx : a.eval x = .slice (some ⟨g, 0, none⟩) 1 c) (hyl : ys.length = size) (hy : ∀ j u, ys[j]? = some u → w.cell? ⟨g, j, none⟩ = some u) (hy1 : ∀ u ∈ ys, u.oneCell' = true)
    (h63 : n ≤ 1000000)
    (h : ∀ p c' w', w'.ownsRow 0 e size (.slice p (n + 1) c') (n + 1) (xs ++ ys) → w.grownBy w' v.ownBlock → ((Value.slice p (n + 1) c').ownBlock = v.ownBlock ∨ ∀ k, (Value.slice p (n + 1) c').ownBlock = some k → w.heap.size ≤ k) → K (a.put o.dst (.slice p (n + 1) c')) w') : if Region.wanted o (yielded ops a.tmps) = true then Oper.wp Tryd.prog o a w K Q else E := by
  have hw : Region.wanted o (yielded ops a.tmps) = true := by simp [Region.wanted, hgd]
  rw [if_pos hw]
  obtain ⟨i, hi, hie⟩ := Option.map_eq_some_iff.1 hinfo
  simp only [Prod.mk.injEq] at hie
  obtain ⟨v', w', hrun, h2, h3, _, h5⟩ := run_append_own_at (P := Tryd.prog) w 0 t o.type e i z size bytes ht hi hie.1 hie.2.1 hie.2.2 hz1 hsz v n xs hown ⟨g, 0, none⟩ 1 c ys (by rw [hyl, Nat.one_mul]) (fun j u hj => by
    have e2 : (⟨g, 0, none⟩ : Addr).add j = ⟨g, j, none⟩ := by unfold Addr.add; split <;> simp_all
    rw [e2]; exact hy j u hj) hy1 (by unfold maxLen; omega) (by have : (n + 1) * bytes ≤ 1000001 * 64 := Nat.mul_le_mul (by omega) hby; omega) (Nat.zero_le _)
  have hsl : ∃ p c', v' = .slice p (n + 1) c' := by
    rcases h2.2 with ⟨rfl, hh⟩ | ⟨g, cap, cur, rfl, _⟩
    · omega
    · exact ⟨_, _, rfl⟩
  obtain ⟨p, c', rfl⟩ := hsl
  unfold Oper.wp execOp
  simp only [ho, resolve, invoke, builtin, Sem.run_bind, Sem.run_pure, Result.andThen_ok, List.map_toArray, List.map_cons, List.map_nil, hs, hx, hrun]
  exact h p c' w' h2 h3 (h5.imp id fun e k hk => by rw [e] at hk; cases hk; exact Nat.le_refl _)

/-- How much there is of it. -/
def SzG (g : Gen) (n : Nat) : Prop := g.code.length ≤ n ∧ g.refs.length ≤ n ∧ g.brs.length ≤ n
theorem SzG.le {g : Gen} {n m : Nat} (h : SzG g n) (hm : n ≤ m) : SzG g m := ⟨Nat.le_trans h.1 hm, Nat.le_trans h.2.1 hm, Nat.le_trans h.2.2 hm⟩
theorem SzG.emit {g : Gen} {n : Nat} (h : SzG g n) (l : List GI) : SzG (emitG l g) (n + l.length) := ⟨by show (g.code ++ l).length ≤ _; rw [List.length_append]; have := h.1; omega, Nat.le_trans h.2.1 (Nat.le_add_right _ _), Nat.le_trans h.2.2 (Nat.le_add_right _ _)⟩

theorem infoRef : (Tryd.prog.info? 82).map (fun i => (i.zero, i.size, i.bytes)) = some (some (.agg #[.int .i64 0, .string .empty, .bool false]), 3, 32) := by kernel_rfl
theorem infoBr : (Tryd.prog.info? 102).map (fun i => (i.zero, i.size, i.bytes)) = some (some (.agg #[.int .i64 0, .int .i64 0]), 2, 16) := by kernel_rfl
theorem GsRd.one (w : World) (op : Nat) (a b c im : Int) (t : TypeId) : GsRd (w.alloc (.cells #[.int .u8 op, .int .i64 a, .int .i64 b, .int .i64 c, .int .i64 im] t)) (.slice (some ⟨w.heap.size, 0, none⟩) 1 1) [⟨op, a, b, c, im⟩] := GsRd.made w _ _ _ 1 rfl rfl

/-- A row that the generator's box holds, where something is made besides. -/
theorem GenAt.made {q : GK} {R : List (Nat × List Value)} {g : Gen} {col : Nat → Nat} {w : World} {cv rv sv bv : Value} (h : GenAt q R g col w cv rv sv bv) (o : Obj) : GenAt q R g (paint col w.heap.size 0) (w.drew.alloc o) cv rv sv bv :=
  h.keep (bAlloc (Nat.le_refl _) (Below.drew (Below.refl _ _)))

set_option maxHeartbeats 3200000 in
set_option maxRecDepth 20000 in
theorem refer_any {q : GK} {R : List (Nat × List Value)} {g : Gen} {w : World} (h : GenRel q R g w) {op : Nat} (hop : op = 20 ∨ op = 21 ∨ op = 28 ∨ op = 29) (a b c im : Int) (nm : ByteArray) (hz : SzG g 900000) :
    Calls Tryd.prog 43 #[.pointer (some ⟨q.gb, 0, none⟩), .agg #[.int .u8 op, .int .i64 a, .int .i64 b, .int .i64 c, .int .i64 im], .string nm] w fun e w' => e = .returned (.tuple #[]) ∧ Hid (GenRel q R (referG ⟨op, a, b, c, im⟩ nm g) w') := by
  have hW := h.made [.int .u8 op, .int .i64 a, .int .i64 b, .int .i64 c, .int .i64 im] 53
  obtain ⟨hz1, hz2, -⟩ := hz
  obtain ⟨lk, hlk⟩ : ∃ lk : Bool, lk = decide (op = 28 ∨ op = 29) := ⟨_, rfl⟩
  have HRE : Hid (∀ p : Gen → Prop, p (emitG [⟨op, a, b, c, im⟩] { g with refs := g.refs ++ [⟨g.code.length, nm, lk⟩] }) → p (referG ⟨op, a, b, c, im⟩ nm g)) := (show ∀ p : Gen → Prop, _ from fun p hp => by rw [hlk] at hp; exact hp)
  have hcs : (((op : Int) == 28) = true ∧ lk = true) ∨ (((op : Int) == 28) = false ∧ ((op : Int) == 29) = true ∧ lk = true) ∨ (((op : Int) == 28) = false ∧ ((op : Int) == 29) = false ∧ lk = false) := by
    rcases hop with rfl | rfl | rfl | rfl
    · exact .inr (.inr ⟨by decide, by decide, hlk⟩)
    · exact .inr (.inr ⟨by decide, by decide, hlk⟩)
    · exact .inl ⟨by decide, hlk⟩
    · exact .inr (.inl ⟨by decide, by decide, hlk⟩)
  clear hlk hop
  rcases hcs with ⟨e8, rfl⟩ | ⟨e8, e9, rfl⟩ | ⟨e8, e9, rfl⟩
  all_goals (
    go_enter Tryd.func43, Tryd.ntmps43
    go_upto_region 2 with fail
    obtain ⟨w1, hw1⟩ : ∃ W : World, W = w.alloc (.cells #[.int .u8 op, .int .i64 a, .int .i64 b, .int .i64 c, .int .i64 im] 53) := ⟨_, rfl⟩
    rw [← hw1]
    have hW : GenRel q ((w.heap.size, [.int .u8 op, .int .i64 a, .int .i64 b, .int .i64 c, .int .i64 im]) :: R) g w1 := by rw [hw1]; exact hW
    clear hw1
    obtain ⟨col, cv, rv, sv, bv, hA⟩ := hW
    obtain ⟨hlt, ⟨c0, c1, c2⟩, c3, c4, c5, c6⟩ := hA.cells
    obtain ⟨⟨f3, f4⟩, f5, f6⟩ := hA.frozen
    obtain ⟨cp, cc, rfl⟩ := hA.code.shape
    obtain ⟨rp, rc, rfl⟩ := hA.refs.shape
    have HM := Lib.hid (fun o : Obj => hA.made o)
    have HO := Lib.hid (fun o : Obj => (hA.made o).refs.1)
    clear hA
    go_region_law (refine step_append_els rfl _ _ 29 82 _ 3 32 rfl Tryd.underlying29 infoRef rfl (by decide) (by decide) _ g.refs.length (refV g.refs) rfl (HO.out _) w1.heap.size 1 [.int .i64 g.code.length, .string nm, .bool _] rfl rfl (RowC2.made w1.drew [.int .i64 g.code.length, .string nm, .bool _] 82).2 (by simp [Value.oneCell']) (by omega) ?_; intro p c' w3 hO hgr hd; obtain ⟨⟨b3, f3, l3⟩, hK⟩ := (HM.out _).putRefs (r := ⟨g.code.length, nm, _⟩) hgr hO hd; have HK3 := Lib.hid hK)
    all_goals (
      clear HM HO b3 f3 l3 hK hgr hO hd hlt c0 c1 c2 c3 c4 c5 c6 f4 f5 f6
      try clear e9
      obtain ⟨w4, hw4⟩ : ∃ W : World, W = w3.setCell ⟨q.gb, 4, none⟩ (.slice p (g.refs.length + 1) c') := ⟨_, rfl⟩
      rw [← hw4] at HK3 ⊢
      clear hw4
      have r0 := HK3.out.at (List.mem_cons_self ..)
      have l0 := r0.lt
      have a0 := r0.at 0 rfl
      have a1 := r0.at 1 rfl
      have a2 := r0.at 2 rfl
      have a3 := r0.at 3 rfl
      have a4 := r0.at 4 rfl
      clear r0
      go_wp2_with fail
      refine (emit_any (l := [⟨op, a, b, c, im⟩]) (HK3.out.keep (by repeat (first | (with_reducible exact Below.refl _ _) | (with_reducible apply Below.drew) | ((with_reducible apply bAlloc); (focus first | (exact Nat.le_refl _) | (simp; done) | (simp; omega)))))) (GsRd.one _ op _ _ _ _ _) (by simp) (by simp; omega)).mono ?_
      rintro e w5 ⟨rfl, HK⟩
      go_wp2_with fail
      go_end0
      exact ⟨rfl, HRE.out (fun g => GenRel q R g w5) HK.out.drop⟩))

set_option maxHeartbeats 3200000 in
set_option maxRecDepth 20000 in
theorem jump_any {q : GK} {R : List (Nat × List Value)} {g : Gen} {w : World} (h : GenRel q R g w) (op : Nat) (a b c im k : Int) (hz : SzG g 900000) :
    Calls Tryd.prog 46 #[.pointer (some ⟨q.gb, 0, none⟩), .agg #[.int .u8 op, .int .i64 a, .int .i64 b, .int .i64 c, .int .i64 im], .int .i64 k] w fun e w' => e = .returned (.tuple #[]) ∧ Hid (GenRel q R (jumpG ⟨op, a, b, c, im⟩ k g) w') := by
  have hW := h.made [.int .u8 op, .int .i64 a, .int .i64 b, .int .i64 c, .int .i64 im] 53
  obtain ⟨hz1, -, hz2⟩ := hz
  clear h
  go_enter Tryd.func46, Tryd.ntmps46
  go_upto_region 1 with fail
  obtain ⟨w1, hw1⟩ : ∃ W : World, W = w.alloc (.cells #[.int .u8 op, .int .i64 a, .int .i64 b, .int .i64 c, .int .i64 im] 53) := ⟨_, rfl⟩
  rw [← hw1]
  have hW : GenRel q ((w.heap.size, [.int .u8 op, .int .i64 a, .int .i64 b, .int .i64 c, .int .i64 im]) :: R) g w1 := by rw [hw1]; exact hW
  clear hw1
  obtain ⟨col, cv, rv, sv, bv, hA⟩ := hW
  obtain ⟨hlt, ⟨c0, c1, c2⟩, c3, c4, c5, c6⟩ := hA.cells
  obtain ⟨⟨f3, f4⟩, f5, f6⟩ := hA.frozen
  obtain ⟨cp, cc, rfl⟩ := hA.code.shape
  obtain ⟨bp, bc, rfl⟩ := hA.brs.shape
  have HM := Lib.hid (fun o : Obj => hA.made o)
  have HO := Lib.hid (fun o : Obj => (hA.made o).brs.1)
  clear hA
  go_region_law (refine step_append_els rfl _ _ 68 102 _ 2 16 rfl Tryd.underlying68 infoBr rfl (by decide) (by decide) _ g.brs.length (brV g.brs) rfl (HO.out _) w1.heap.size 1 [.int .i64 g.code.length, .int .i64 k] rfl rfl (RowC2.made w1.drew [.int .i64 g.code.length, .int .i64 k] 102).2 (by simp [Value.oneCell']) (by omega) ?_; intro p c' w3 hO hgr hd; obtain ⟨⟨b3, f3, l3⟩, hK⟩ := (HM.out _).putBrs (r := (g.code.length, k)) hgr hO hd; have HK3 := Lib.hid hK)
  all_goals (
    clear HM HO b3 f3 l3 hK hgr hO hd hlt c0 c1 c2 c3 c4 c5 c6 f4 f5 f6
    obtain ⟨w4, hw4⟩ : ∃ W : World, W = w3.setCell ⟨q.gb, 6, none⟩ (.slice p (g.brs.length + 1) c') := ⟨_, rfl⟩
    rw [← hw4] at HK3 ⊢
    clear hw4
    have r0 := HK3.out.at (List.mem_cons_self ..)
    have l0 := r0.lt
    have a0 := r0.at 0 rfl
    have a1 := r0.at 1 rfl
    have a2 := r0.at 2 rfl
    have a3 := r0.at 3 rfl
    have a4 := r0.at 4 rfl
    clear r0
    go_wp2_with fail
    refine (emit_any (l := [⟨op, a, b, c, im⟩]) (HK3.out.keep (by repeat (first | (with_reducible exact Below.refl _ _) | (with_reducible apply Below.drew) | ((with_reducible apply bAlloc); (focus first | (exact Nat.le_refl _) | (simp; done) | (simp; omega)))))) (GsRd.one _ op _ _ _ _ _) (by simp) (by simp; omega)).mono ?_
    rintro e w5 ⟨rfl, HK⟩
    go_wp2_with fail
    go_end0
    exact ⟨rfl, HK.out.drop⟩)
end Go.Proofs.YtlajdcikhbocdaaDoor
