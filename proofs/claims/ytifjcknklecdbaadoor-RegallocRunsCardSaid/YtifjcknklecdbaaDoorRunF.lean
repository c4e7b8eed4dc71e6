/- The runner's instruction, a theorem an operation. -/
import Derived.Test.YtifjcknklecdbaaDoorRunD
import Derived.Test.YtifjcknklecdbaaDoorRunE
set_option linter.unusedVariables false
set_option linter.unusedSimpArgs false
namespace Go.Proofs.YtifjcknklecdbaaDoor
open Go.RowKit Go.Maps

theorem RunAt.allRegs {q : RK} {L : List (Nat × List Value)} {s : RS} {col : Nat → Nat} {w : World} {ov : Value} (h : RunAt q L s col w ov) {k0 : Nat} (hk0 : k0 < q.R) : ∃ g cap, q.rv = .slice (some ⟨g, 0, none⟩) q.R cap ∧ g < w.heap.size ∧ (∀ k, k < q.R → w.cell? ⟨g, k, none⟩ = some (.int .i32 (s.regs.getD k 0)) ∧ w.frozen? ⟨g, k, none⟩ = false) ∧ ∀ W, Below w.heap.size w W → ∀ k, k < q.R → ∀ v : Int, RunRel q L { s with regs := s.regs.set k v } (W.setCell ⟨g, k, none⟩ (.int .i32 v)) := by
  obtain ⟨g, cap, hrv, hg, _⟩ := h.reg hk0
  have same : ∀ {g' cap' : Nat}, q.rv = .slice (some ⟨g', 0, none⟩) q.R cap' → g' = g := fun e => by
    have e2 := hrv.symm.trans e
    injection e2 with e3 _ _
    injection e3 with e3
    injection e3 with e3 _
    exact e3.symm
  refine ⟨g, cap, hrv, hg, fun k hk => ?_, fun W hb k hk v => ?_⟩
  · obtain ⟨g', c', e, _, h1, h2, _⟩ := h.reg hk
    rw [same e] at h1 h2
    exact ⟨h1, h2⟩
  · obtain ⟨g', c', e, _, _, _, hp⟩ := (h.keep hb).reg hk
    rw [same e] at hp
    exact ⟨_, _, hp v⟩
theorem bytes_ne {t s : ByteArray} (h : ¬ t = s) : (t.toList == s.toList) = false := by
  rw [beq_eq_false_iff_ne]
  intro e
  rw [ByteArray.toList_eq, ByteArray.toList_eq] at e
  exact h (ByteArray.ext (Array.toList_inj.mp e))
theorem box_lck {q : RK} {s : RS} {ov : Value} (h : s.ctr.length = 4) (b : Bool) : (boxL q s ov).set 6 (.bool b) = boxL q { s with lck := b } ov := by
  obtain ⟨regs, ctr, mem, lck, held, out, read⟩ := s
  match ctr, h with
  | [a, b, c, d], _ => rfl
theorem box_held {q : RK} {s : RS} {ov : Value} (h : s.ctr.length = 4) (b : ByteArray) : (boxL q s ov).set 7 (.string b) = boxL q { s with held := b } ov := by
  obtain ⟨regs, ctr, mem, lck, held, out, read⟩ := s
  match ctr, h with
  | [a, b, c, d], _ => rfl
theorem box_read {q : RK} {s : RS} {ov : Value} (h : s.ctr.length = 4) (b : Nat) : (boxL q s ov).set 10 (.int .i64 (b : Int)) = boxL q { s with read := b } ov := by
  obtain ⟨regs, ctr, mem, lck, held, out, read⟩ := s
  match ctr, h with
  | [a, b, c, d], _ => rfl
theorem box_ctr {q : RK} {s : RS} {ov : Value} (h : s.ctr.length = 4) (k : Nat) (hk : k < 4) (v : Int) : (boxL q s ov).set (1 + k) (.int .i32 v) = boxL q { s with ctr := s.ctr.set k v } ov := by
  obtain ⟨regs, ctr, mem, lck, held, out, read⟩ := s
  match ctr, h with
  | [a, b, c, d], _ =>
    match k, hk with
    | 0, _ => rfl
    | 1, _ => rfl
    | 2, _ => rfl
    | 3, _ => rfl
section
variable {q : RK} {L : List (Nat × List Value)} {s : RS} {w : World}
theorem RunAt.setLck {col : Nat → Nat} {ov : Value} (h : RunAt q L s col w ov) (b : Bool) : RunAt q L { s with lck := b } (paint col w.heap.size 1) (w.setCell ⟨q.gb, 6, none⟩ (.bool b)) ov := h.putBox 6 _ (box_lck h.lc b) rfl h.lc rfl rfl
theorem RunAt.setHeld {col : Nat → Nat} {ov : Value} (h : RunAt q L s col w ov) (b : ByteArray) : RunAt q L { s with held := b } (paint col w.heap.size 1) (w.setCell ⟨q.gb, 7, none⟩ (.string b)) ov := h.putBox 7 _ (box_held h.lc b) rfl h.lc rfl rfl
theorem RunAt.setRead {col : Nat → Nat} {ov : Value} (h : RunAt q L s col w ov) (b : Nat) : RunAt q L { s with read := b } (paint col w.heap.size 1) (w.setCell ⟨q.gb, 10, none⟩ (.int .i64 (b : Int))) ov := h.putBox 10 _ (box_read h.lc b) rfl h.lc rfl rfl
theorem RunAt.setRead1 {col : Nat → Nat} {ov : Value} (h : RunAt q L s col w ov) : RunAt q L { s with read := s.read + 1 } (paint col w.heap.size 1) (w.setCell ⟨q.gb, 10, none⟩ (.int .i64 ((s.read : Int) + 1))) ov := by
  have h1 := h.setRead (s.read + 1)
  have e : ((s.read + 1 : Nat) : Int) = (s.read : Int) + 1 := by omega
  rw [e] at h1
  exact h1
theorem RunAt.setCtr {col : Nat → Nat} {ov : Value} (h : RunAt q L s col w ov) {k : Nat} (hk : k < 4) (v : Int) : RunAt q L { s with ctr := s.ctr.set k v } (paint col w.heap.size 1) (w.setCell ⟨q.gb, 1 + k, none⟩ (.int .i32 v)) ov := h.putBox (1 + k) _ (box_ctr h.lc k hk v) rfl (by simpa using h.lc) rfl rfl
end
theorem put_lit (l : List Value) (df : List Deferred) (k : Nat) (v : Value) : Act.put ⟨l.toArray, df⟩ (some k) v = ⟨(l.set k v).toArray, df⟩ := by simp [Act.put]
theorem put_no (a : Act) (v : Value) : a.put none v = a := rfl
/-- Append of one element, as a step of a region that draws its order. -/
theorem step_append_els {w : World} {ops : Array Oper} {o : Oper} {a : Act} {K : Act → World → Prop} {Q : Exit → Act → World → Prop} {E : Prop} (hgd : o.guard = none) (s x : Operand) (t e : TypeId) (z : Value) (size bytes : Nat)
    (ho : o.op = .call { callee := .builtin .append, args := #[s, x], argTypes := #[t, t] }) (ht : Tryd.prog.underlying t = some (.slice e)) (hinfo : (Tryd.prog.info? e).map (fun i => (i.zero, i.size, i.bytes)) = some (some z, size, bytes)) (hz1 : z.cells.size = size) (hsz : 0 < size) (hby : bytes ≤ 64)
    (v : Value) (n : Nat) (xs : List Value) (hs : a.eval s = v) (hown : w.ownsRow 0 e size v n xs)
    (g c : Nat) (ys : List Value) (hx : a.eval x = .slice (some ⟨g, 0, none⟩) 1 c) (hyl : ys.length = size) (hy : ∀ j u, ys[j]? = some u → w.cell? ⟨g, j, none⟩ = some u) (hy1 : ∀ u ∈ ys, u.oneCell' = true)
    (h63 : n ≤ 1000000)
    (h : ∀ p c' w', w'.ownsRow 0 e size (.slice p (n + 1) c') (n + 1) (xs ++ ys) → w.grownBy w' v.ownBlock → ((Value.slice p (n + 1) c').ownBlock = v.ownBlock ∨ ∀ k, (Value.slice p (n + 1) c').ownBlock = some k → w.heap.size ≤ k) → K (a.put o.dst (.slice p (n + 1) c')) w') : if Region.wanted o (yielded ops a.tmps) = true then Oper.wp Tryd.prog o a w K Q else E := by
  have hw : Region.wanted o (yielded ops a.tmps) = true := by simp [Region.wanted, hgd]
  rw [if_pos hw]
  obtain ⟨i, hi, hie⟩ := Option.map_eq_some_iff.1 hinfo
  simp only [Prod.mk.injEq] at hie
  obtain ⟨v', w', hrun, h2, h3, _, h5⟩ := run_append_own_at (P := Tryd.prog) w 0 t o.type e i z size bytes ht hi hie.1 hie.2.1 hie.2.2 hz1 hsz v n xs hown ⟨g, 0, none⟩ 1 c ys (by rw [hyl, Nat.one_mul]) (fun j u hj => by
    have e2 : (⟨g, 0, none⟩ : Addr).add j = ⟨g, j, none⟩ := by unfold Addr.add; split <;> simp_all
    rw [e2]; exact hy j u hj) hy1 (by unfold maxLen; omega) (by have : (n + 1) * bytes ≤ 1000001 * 64 := Nat.mul_le_mul (by omega) hby; omega) (Nat.zero_le _)
  have hsl : ∃ p c', v' = .slice p (n + 1) c' := by
    rcases h2.2 with ⟨rfl, hh⟩ | ⟨g, cap, cur, rfl, _⟩
    · omega
    · exact ⟨_, _, rfl⟩
  obtain ⟨p, c', rfl⟩ := hsl
  unfold Oper.wp execOp
  simp only [ho, resolve, invoke, builtin, Sem.run_bind, Sem.run_pure, Result.andThen_ok, List.map_toArray, List.map_cons, List.map_nil, hs, hx, hrun]
  exact h p c' w' h2 h3 (h5.imp id fun e k hk => by rw [e] at hk; cases hk; exact Nat.le_refl _)

theorem infoOutR : (Tryd.prog.info? 43).map (fun i => (i.zero, i.size, i.bytes)) = some (some (.agg #[.int .i64 0, .int .i32 0]), 2, 16) := by kernel_rfl
theorem RunAt.made {q : RK} {L : List (Nat × List Value)} {s : RS} {col : Nat → Nat} {w : World} {ov : Value} (h : RunAt q L s col w ov) (o : Obj) : RunAt q L s (paint col w.heap.size 0) (w.drew.alloc o) ov := h.keep (bAlloc (Nat.le_refl _) (Below.drew (Below.refl _ _)))

set_option maxHeartbeats 3200000 in
set_option maxRecDepth 20000 in
theorem ins1 {q : RK} {L : List (Nat × List Value)} {s : RS} {w : World} (h : RunRel q L s w) (dst x y imm : Int) (sym : ByteArray) (hdst : okR q.R dst = true) :
    Calls Tryd.prog 38 #[.pointer (some ⟨q.gb, 0, none⟩), .agg #[.int .u8 1, .int .i64 dst, .int .i64 x, .int .i64 y, .int .i64 imm, .string sym]] w (InsPost q L s (insR apW q.idx q.inp s ⟨1, dst, x, y, imm, sym⟩)) := by
  simp only [okR, decide_eq_true_eq] at hdst
  obtain ⟨dstn, rfl⟩ := Int.eq_ofNat_of_zero_le hdst.1
  have hdstn : dstn < q.R := by omega
  clear hdst
  have h1 := h.made [.int .u8 1, .int .i64 dstn, .int .i64 x, .int .i64 y, .int .i64 imm, .string sym] 59
  clear h
  go_enter Tryd.func38, Tryd.ntmps38
  go_upto_region 3 with fail
  obtain ⟨w1, hw1⟩ : ∃ W, W = w.alloc (.cells #[.int .u8 1, .int .i64 dstn, .int .i64 x, .int .i64 y, .int .i64 imm, .string sym] 59) := ⟨_, rfl⟩
  rw [← hw1] at h1 ⊢
  clear hw1
  have r1 := h1.at (b := w.heap.size) (cs := [.int .u8 1, .int .i64 dstn, .int .i64 x, .int .i64 y, .int .i64 imm, .string sym]) List.mem_cons_self
  have l1 := r1.lt
  have a1 := r1.at 1 rfl
  have a2 := r1.at 2 rfl
  have a3 := r1.at 3 rfl
  have a4 := r1.at 4 rfl
  have a5 := r1.at 5 rfl
  obtain ⟨col, ov, h1⟩ := h1
  obtain ⟨hl, ⟨c0, cc⟩, ⟨c5, c6, c7⟩, c8, c9, c10, cf⟩ := h1.cells
  have H1 := Lib.hid h1
  clear r1
  obtain ⟨g, cap, hrv, hg, hcs, hput⟩ := H1.out.allRegs hdstn
  have HP := Lib.hid hput
  have HRV := Lib.hid hrv
  rw [hrv] at c0
  obtain ⟨vdst, hvdst⟩ : ∃ v, v = s.regs.getD dstn 0 := ⟨_, rfl⟩
  have tdst := (hcs _ hdstn).1
  have fdst := (hcs _ hdstn).2
  rw [← hvdst] at tdst
  have HVdst := Lib.hid (show s.get (dstn : Int) = vdst from hvdst.symm)
  clear hvdst
  clear hput hrv hcs h1
  go_region
  all_goals (
    go_wp2_with fail
    go_ret
    exact ⟨rfl, Lib.hid ((HP.out w1 (Below.refl _ _) dstn hdstn _).drop.keep (by repeat (first | (with_reducible exact Below.refl _ _) | (with_reducible apply Below.drew) | (with_reducible apply bDrewN))))⟩)

set_option maxHeartbeats 3200000 in
set_option maxRecDepth 20000 in
theorem ins2 {q : RK} {L : List (Nat × List Value)} {s : RS} {w : World} (h : RunRel q L s w) (dst x y imm : Int) (sym : ByteArray) (hdst : okR q.R dst = true) (hx : okR q.R x = true) :
    Calls Tryd.prog 38 #[.pointer (some ⟨q.gb, 0, none⟩), .agg #[.int .u8 2, .int .i64 dst, .int .i64 x, .int .i64 y, .int .i64 imm, .string sym]] w (InsPost q L s (insR apW q.idx q.inp s ⟨2, dst, x, y, imm, sym⟩)) := by
  simp only [okR, decide_eq_true_eq] at hdst
  obtain ⟨dstn, rfl⟩ := Int.eq_ofNat_of_zero_le hdst.1
  have hdstn : dstn < q.R := by omega
  clear hdst
  simp only [okR, decide_eq_true_eq] at hx
  obtain ⟨xn, rfl⟩ := Int.eq_ofNat_of_zero_le hx.1
  have hxn : xn < q.R := by omega
  clear hx
  have h1 := h.made [.int .u8 2, .int .i64 dstn, .int .i64 xn, .int .i64 y, .int .i64 imm, .string sym] 59
  clear h
  go_enter Tryd.func38, Tryd.ntmps38
  go_upto_region 5 with fail
  obtain ⟨w1, hw1⟩ : ∃ W, W = w.alloc (.cells #[.int .u8 2, .int .i64 dstn, .int .i64 xn, .int .i64 y, .int .i64 imm, .string sym] 59) := ⟨_, rfl⟩
  rw [← hw1] at h1 ⊢
  clear hw1
  have r1 := h1.at (b := w.heap.size) (cs := [.int .u8 2, .int .i64 dstn, .int .i64 xn, .int .i64 y, .int .i64 imm, .string sym]) List.mem_cons_self
  have l1 := r1.lt
  have a1 := r1.at 1 rfl
  have a2 := r1.at 2 rfl
  have a3 := r1.at 3 rfl
  have a4 := r1.at 4 rfl
  have a5 := r1.at 5 rfl
  obtain ⟨col, ov, h1⟩ := h1
  obtain ⟨hl, ⟨c0, cc⟩, ⟨c5, c6, c7⟩, c8, c9, c10, cf⟩ := h1.cells
  have H1 := Lib.hid h1
  clear r1
  obtain ⟨g, cap, hrv, hg, hcs, hput⟩ := H1.out.allRegs hdstn
  have HP := Lib.hid hput
  have HRV := Lib.hid hrv
  rw [hrv] at c0
  obtain ⟨vdst, hvdst⟩ : ∃ v, v = s.regs.getD dstn 0 := ⟨_, rfl⟩
  have tdst := (hcs _ hdstn).1
  have fdst := (hcs _ hdstn).2
  rw [← hvdst] at tdst
  have HVdst := Lib.hid (show s.get (dstn : Int) = vdst from hvdst.symm)
  clear hvdst
  obtain ⟨vx, hvx⟩ : ∃ v, v = s.regs.getD xn 0 := ⟨_, rfl⟩
  have tx := (hcs _ hxn).1
  have fx := (hcs _ hxn).2
  rw [← hvx] at tx
  have HVx := Lib.hid (show s.get (xn : Int) = vx from hvx.symm)
  clear hvx
  clear hput hrv hcs h1
  go_region
  all_goals (
    go_wp2_with fail
    go_ret
    show InsPost q L s (.ok (s.set (dstn : Int) (s.get (xn : Int)))) _ _
    rw [HVx.out]
    exact ⟨rfl, Lib.hid ((HP.out w1 (Below.refl _ _) dstn hdstn vx).drop.keep (by repeat (first | (with_reducible exact Below.refl _ _) | (with_reducible apply Below.drew) | (with_reducible apply bDrewN))))⟩)

set_option maxHeartbeats 3200000 in
set_option maxRecDepth 20000 in
theorem ins3 {q : RK} {L : List (Nat × List Value)} {s : RS} {w : World} (h : RunRel q L s w) (dst x y imm : Int) (sym : ByteArray) (hdst : okR q.R dst = true) (hx : okR q.R x = true) (hy : okR q.R y = true) (him : 6 ≤ imm ∧ imm ≤ 23) :
    Calls Tryd.prog 38 #[.pointer (some ⟨q.gb, 0, none⟩), .agg #[.int .u8 3, .int .i64 dst, .int .i64 x, .int .i64 y, .int .i64 imm, .string sym]] w (InsPost q L s (insR apW q.idx q.inp s ⟨3, dst, x, y, imm, sym⟩)) := by
  have hw8 : IntKind.u8.wrap imm = imm := IntWalk.u8_in _ ⟨by omega, by omega⟩
  simp only [okR, decide_eq_true_eq] at hdst
  obtain ⟨dstn, rfl⟩ := Int.eq_ofNat_of_zero_le hdst.1
  have hdstn : dstn < q.R := by omega
  clear hdst
  simp only [okR, decide_eq_true_eq] at hx
  obtain ⟨xn, rfl⟩ := Int.eq_ofNat_of_zero_le hx.1
  have hxn : xn < q.R := by omega
  clear hx
  simp only [okR, decide_eq_true_eq] at hy
  obtain ⟨yn, rfl⟩ := Int.eq_ofNat_of_zero_le hy.1
  have hyn : yn < q.R := by omega
  clear hy
  have h1 := h.made [.int .u8 3, .int .i64 dstn, .int .i64 xn, .int .i64 yn, .int .i64 imm, .string sym] 59
  clear h
  go_enter Tryd.func38, Tryd.ntmps38
  go_upto_region 7 with fail
  obtain ⟨w1, hw1⟩ : ∃ W, W = w.alloc (.cells #[.int .u8 3, .int .i64 dstn, .int .i64 xn, .int .i64 yn, .int .i64 imm, .string sym] 59) := ⟨_, rfl⟩
  rw [← hw1] at h1 ⊢
  clear hw1
  have r1 := h1.at (b := w.heap.size) (cs := [.int .u8 3, .int .i64 dstn, .int .i64 xn, .int .i64 yn, .int .i64 imm, .string sym]) List.mem_cons_self
  have l1 := r1.lt
  have a1 := r1.at 1 rfl
  have a2 := r1.at 2 rfl
  have a3 := r1.at 3 rfl
  have a4 := r1.at 4 rfl
  have a5 := r1.at 5 rfl
  obtain ⟨col, ov, h1⟩ := h1
  obtain ⟨hl, ⟨c0, cc⟩, ⟨c5, c6, c7⟩, c8, c9, c10, cf⟩ := h1.cells
  have H1 := Lib.hid h1
  clear r1
  obtain ⟨g, cap, hrv, hg, hcs, hput⟩ := H1.out.allRegs hdstn
  have HP := Lib.hid hput
  have HRV := Lib.hid hrv
  rw [hrv] at c0
  obtain ⟨vdst, hvdst⟩ : ∃ v, v = s.regs.getD dstn 0 := ⟨_, rfl⟩
  have tdst := (hcs _ hdstn).1
  have fdst := (hcs _ hdstn).2
  rw [← hvdst] at tdst
  have HVdst := Lib.hid (show s.get (dstn : Int) = vdst from hvdst.symm)
  clear hvdst
  obtain ⟨vx, hvx⟩ : ∃ v, v = s.regs.getD xn 0 := ⟨_, rfl⟩
  have tx := (hcs _ hxn).1
  have fx := (hcs _ hxn).2
  rw [← hvx] at tx
  have HVx := Lib.hid (show s.get (xn : Int) = vx from hvx.symm)
  clear hvx
  obtain ⟨vy, hvy⟩ : ∃ v, v = s.regs.getD yn 0 := ⟨_, rfl⟩
  have ty := (hcs _ hyn).1
  have fy := (hcs _ hyn).2
  rw [← hvy] at ty
  have HVy := Lib.hid (show s.get (yn : Int) = vy from hvy.symm)
  clear hvy
  clear hput hrv hcs h1
  obtain ⟨pv, hpv⟩ : ∃ p, p = apW imm vx vy := ⟨_, rfl⟩
  have HC := Lib.hid (fun w => (apW_any imm vx vy him w).mono fun e w' h => (⟨h.1, h.2.symm⟩ : e = .returned (.tuple #[.int .i32 (apW imm vx vy).1, .int .i64 (apW imm vx vy).2]) ∧ w' = w))
  rw [← hpv] at HC
  have HS : Hid (insR apW q.idx q.inp s ⟨3, (dstn : Int), (xn : Int), (yn : Int), imm, sym⟩ = if pv.2 ≠ 0 then .error pv.2 else .ok (s.set (dstn : Int) pv.1)) := (show _ = _ by
    show (if (apW (IntKind.u8.wrap imm) (s.get (xn : Int)) (s.get (yn : Int))).2 ≠ 0 then _ else _) = _
    rw [hw8, HVx.out, HVy.out, ← hpv])
  clear hpv
  go_quiet (first | (go_at_call 49; refine Calls.quiet_of_same (HC.out _)))
  clear a1 a2 a3 a4 a5 hl c0 cc c5 c6 c7 c8 c9 c10 cf l1
  clear tdst tx ty fdst fx fy hg
  obtain ⟨w3, hww3⟩ : ∃ W, W = w1.drewN nq := ⟨_, rfl⟩
  have hbw3 : Below w1.heap.size w1 w3 := by rw [hww3]; exact (by repeat (first | (with_reducible exact Below.refl _ _) | (with_reducible apply Below.drew) | (with_reducible apply bDrewN)))
  rw [← hww3]
  clear hww3
  have Hw3 := Lib.hid (H1.out.keep hbw3)
  have rw3 := (RunRel.keep ⟨_, _, H1.out⟩ hbw3).at (b := w.heap.size) (cs := [.int .u8 3, .int .i64 dstn, .int .i64 xn, .int .i64 yn, .int .i64 imm, .string sym]) List.mem_cons_self
  have lw3 := rw3.lt
  have a1 := rw3.at 1 rfl
  have a4 := rw3.at 4 rfl
  have a5 := rw3.at 5 rfl
  obtain ⟨hl, ⟨c0, cc⟩, ⟨c5, c6, c7⟩, c8, c9, c10, cf⟩ := Hw3.out.cells
  clear rw3
  obtain ⟨g', cap', hrv, hg, hcs, hput⟩ := Hw3.out.allRegs hdstn
  have e4 := HRV.out.symm.trans hrv
  injection e4 with e5 _ e6
  injection e5 with e5
  injection e5 with e5 _
  subst e5 e6
  rw [HRV.out] at c0
  have HP3 := Lib.hid hput
  have fdst := (hcs _ hdstn).2
  have tdst := (hcs _ hdstn).1
  clear hcs hput hrv HP
  by_cases her : pv.2 = 0
  · rw [if_neg (by simpa using her)] at HS
    rw [her]
    generalize pv.1 = v1 at HS ⊢
    go_upto_region 10 with fail
    go_region
    all_goals (
      go_wp2_with fail
      go_ret
      rw [HS.out]
      exact ⟨rfl, Lib.hid ((HP3.out w3 (Below.refl _ _) dstn hdstn v1).drop.keep (by repeat (first | (with_reducible exact Below.refl _ _) | (with_reducible apply Below.drew) | (with_reducible apply bDrewN))))⟩)
  · have herb : (pv.2 != 0) = true := bne_iff_ne.2 her
    rw [if_pos her] at HS
    go_wp2_with fail
    go_ret
    rw [HS.out]
    exact ⟨rfl, Lib.hid (RunRel.drop ⟨_, _, Hw3.out⟩)⟩

set_option maxHeartbeats 3200000 in
set_option maxRecDepth 20000 in
theorem ins4 {q : RK} {L : List (Nat × List Value)} {s : RS} {w : World} (h : RunRel q L s w) (dst x y imm : Int) (sym : ByteArray) (hF : q.F sym = some (q.V (q.idx sym)) ∧ q.idx sym < q.nm) (hs : sym.size ≤ maxLen) (hx : okR q.R x = true) (hdst : okR q.R dst = true) :
    Calls Tryd.prog 38 #[.pointer (some ⟨q.gb, 0, none⟩), .agg #[.int .u8 4, .int .i64 dst, .int .i64 x, .int .i64 y, .int .i64 imm, .string sym]] w (InsPost q L s (insR apW q.idx q.inp s ⟨4, dst, x, y, imm, sym⟩)) := by
  have h1 := h.made [.int .u8 4, .int .i64 dst, .int .i64 x, .int .i64 y, .int .i64 imm, .string sym] 59
  clear h
  go_enter Tryd.func38, Tryd.ntmps38
  go_upto_region 15 with fail
  obtain ⟨w1, hw1⟩ : ∃ W, W = w.alloc (.cells #[.int .u8 4, .int .i64 dst, .int .i64 x, .int .i64 y, .int .i64 imm, .string sym] 59) := ⟨_, rfl⟩
  rw [← hw1] at h1 ⊢
  clear hw1
  have HA := Lib.hid (access_any (ap := apW) h1.drop 4 dst x y imm sym (by omega) hF hs hx (fun e => hdst) (fun e => by omega))
  have r1 := h1.at (b := w.heap.size) (cs := [.int .u8 4, .int .i64 dst, .int .i64 x, .int .i64 y, .int .i64 imm, .string sym]) List.mem_cons_self
  have l1 := r1.lt
  have a0 := r1.at 0 rfl
  have a1 := r1.at 1 rfl
  have a2 := r1.at 2 rfl
  have a3 := r1.at 3 rfl
  have a4 := r1.at 4 rfl
  have a5 := r1.at 5 rfl
  clear r1 h1
  go_wp2_with fail
  refine HA.out.mono ?_
  intro e w2 hp
  obtain ⟨out, hout⟩ : ∃ o, o = insR apW q.idx q.inp s ⟨4, dst, x, y, imm, sym⟩ := ⟨_, rfl⟩
  rw [← hout] at hp
  clear HA
  have HO := Lib.hid hout
  clear hout
  cases out with
  | error er =>
    obtain ⟨rfl, hr⟩ := hp
    go_wp2_with fail
    go_ret
    rw [← HO.out]
    exact ⟨rfl, hr⟩
  | ok s' =>
    obtain ⟨rfl, hr⟩ := hp
    go_wp2_with fail
    go_ret
    rw [← HO.out]
    exact ⟨rfl, hr⟩

set_option maxHeartbeats 3200000 in
set_option maxRecDepth 20000 in
theorem ins5 {q : RK} {L : List (Nat × List Value)} {s : RS} {w : World} (h : RunRel q L s w) (dst x y imm : Int) (sym : ByteArray) (hF : q.F sym = some (q.V (q.idx sym)) ∧ q.idx sym < q.nm) (hs : sym.size ≤ maxLen) (hx : okR q.R x = true) (hy : okR q.R y = true) :
    Calls Tryd.prog 38 #[.pointer (some ⟨q.gb, 0, none⟩), .agg #[.int .u8 5, .int .i64 dst, .int .i64 x, .int .i64 y, .int .i64 imm, .string sym]] w (InsPost q L s (insR apW q.idx q.inp s ⟨5, dst, x, y, imm, sym⟩)) := by
  have h1 := h.made [.int .u8 5, .int .i64 dst, .int .i64 x, .int .i64 y, .int .i64 imm, .string sym] 59
  clear h
  go_enter Tryd.func38, Tryd.ntmps38
  go_upto_region 15 with fail
  obtain ⟨w1, hw1⟩ : ∃ W, W = w.alloc (.cells #[.int .u8 5, .int .i64 dst, .int .i64 x, .int .i64 y, .int .i64 imm, .string sym] 59) := ⟨_, rfl⟩
  rw [← hw1] at h1 ⊢
  clear hw1
  have HA := Lib.hid (access_any (ap := apW) h1.drop 5 dst x y imm sym (by omega) hF hs hx (fun e => by omega) (fun e => hy))
  have r1 := h1.at (b := w.heap.size) (cs := [.int .u8 5, .int .i64 dst, .int .i64 x, .int .i64 y, .int .i64 imm, .string sym]) List.mem_cons_self
  have l1 := r1.lt
  have a0 := r1.at 0 rfl
  have a1 := r1.at 1 rfl
  have a2 := r1.at 2 rfl
  have a3 := r1.at 3 rfl
  have a4 := r1.at 4 rfl
  have a5 := r1.at 5 rfl
  clear r1 h1
  go_wp2_with fail
  refine HA.out.mono ?_
  intro e w2 hp
  obtain ⟨out, hout⟩ : ∃ o, o = insR apW q.idx q.inp s ⟨5, dst, x, y, imm, sym⟩ := ⟨_, rfl⟩
  rw [← hout] at hp
  clear HA
  have HO := Lib.hid hout
  clear hout
  cases out with
  | error er =>
    obtain ⟨rfl, hr⟩ := hp
    go_wp2_with fail
    go_ret
    rw [← HO.out]
    exact ⟨rfl, hr⟩
  | ok s' =>
    obtain ⟨rfl, hr⟩ := hp
    go_wp2_with fail
    go_ret
    rw [← HO.out]
    exact ⟨rfl, hr⟩

set_option maxHeartbeats 3200000 in
set_option maxRecDepth 20000 in
theorem ins6 {q : RK} {L : List (Nat × List Value)} {s : RS} {w : World} (h : RunRel q L s w) (dst x y imm : Int) (sym : ByteArray) (hF : q.F sym = some (q.V (q.idx sym)) ∧ q.idx sym < q.nm) (hs : sym.size ≤ maxLen) (hx : okR q.R x = true) (hdst : okR q.R dst = true) :
    Calls Tryd.prog 38 #[.pointer (some ⟨q.gb, 0, none⟩), .agg #[.int .u8 6, .int .i64 dst, .int .i64 x, .int .i64 y, .int .i64 imm, .string sym]] w (InsPost q L s (insR apW q.idx q.inp s ⟨6, dst, x, y, imm, sym⟩)) := by
  have h1 := h.made [.int .u8 6, .int .i64 dst, .int .i64 x, .int .i64 y, .int .i64 imm, .string sym] 59
  clear h
  go_enter Tryd.func38, Tryd.ntmps38
  go_upto_region 15 with fail
  obtain ⟨w1, hw1⟩ : ∃ W, W = w.alloc (.cells #[.int .u8 6, .int .i64 dst, .int .i64 x, .int .i64 y, .int .i64 imm, .string sym] 59) := ⟨_, rfl⟩
  rw [← hw1] at h1 ⊢
  clear hw1
  have HA := Lib.hid (access_any (ap := apW) h1.drop 6 dst x y imm sym (by omega) hF hs hx (fun e => hdst) (fun e => by omega))
  have r1 := h1.at (b := w.heap.size) (cs := [.int .u8 6, .int .i64 dst, .int .i64 x, .int .i64 y, .int .i64 imm, .string sym]) List.mem_cons_self
  have l1 := r1.lt
  have a0 := r1.at 0 rfl
  have a1 := r1.at 1 rfl
  have a2 := r1.at 2 rfl
  have a3 := r1.at 3 rfl
  have a4 := r1.at 4 rfl
  have a5 := r1.at 5 rfl
  clear r1 h1
  go_wp2_with fail
  refine HA.out.mono ?_
  intro e w2 hp
  obtain ⟨out, hout⟩ : ∃ o, o = insR apW q.idx q.inp s ⟨6, dst, x, y, imm, sym⟩ := ⟨_, rfl⟩
  rw [← hout] at hp
  clear HA
  have HO := Lib.hid hout
  clear hout
  cases out with
  | error er =>
    obtain ⟨rfl, hr⟩ := hp
    go_wp2_with fail
    go_ret
    rw [← HO.out]
    exact ⟨rfl, hr⟩
  | ok s' =>
    obtain ⟨rfl, hr⟩ := hp
    go_wp2_with fail
    go_ret
    rw [← HO.out]
    exact ⟨rfl, hr⟩

set_option maxHeartbeats 3200000 in
set_option maxRecDepth 20000 in
theorem ins7 {q : RK} {L : List (Nat × List Value)} {s : RS} {w : World} (h : RunRel q L s w) (dst x y imm : Int) (sym : ByteArray) (hF : q.F sym = some (q.V (q.idx sym)) ∧ q.idx sym < q.nm) (hs : sym.size ≤ maxLen) (hx : okR q.R x = true) (hy : okR q.R y = true) :
    Calls Tryd.prog 38 #[.pointer (some ⟨q.gb, 0, none⟩), .agg #[.int .u8 7, .int .i64 dst, .int .i64 x, .int .i64 y, .int .i64 imm, .string sym]] w (InsPost q L s (insR apW q.idx q.inp s ⟨7, dst, x, y, imm, sym⟩)) := by
  have h1 := h.made [.int .u8 7, .int .i64 dst, .int .i64 x, .int .i64 y, .int .i64 imm, .string sym] 59
  clear h
  go_enter Tryd.func38, Tryd.ntmps38
  go_upto_region 15 with fail
  obtain ⟨w1, hw1⟩ : ∃ W, W = w.alloc (.cells #[.int .u8 7, .int .i64 dst, .int .i64 x, .int .i64 y, .int .i64 imm, .string sym] 59) := ⟨_, rfl⟩
  rw [← hw1] at h1 ⊢
  clear hw1
  have HA := Lib.hid (access_any (ap := apW) h1.drop 7 dst x y imm sym (by omega) hF hs hx (fun e => by omega) (fun e => hy))
  have r1 := h1.at (b := w.heap.size) (cs := [.int .u8 7, .int .i64 dst, .int .i64 x, .int .i64 y, .int .i64 imm, .string sym]) List.mem_cons_self
  have l1 := r1.lt
  have a0 := r1.at 0 rfl
  have a1 := r1.at 1 rfl
  have a2 := r1.at 2 rfl
  have a3 := r1.at 3 rfl
  have a4 := r1.at 4 rfl
  have a5 := r1.at 5 rfl
  clear r1 h1
  go_wp2_with fail
  refine HA.out.mono ?_
  intro e w2 hp
  obtain ⟨out, hout⟩ : ∃ o, o = insR apW q.idx q.inp s ⟨7, dst, x, y, imm, sym⟩ := ⟨_, rfl⟩
  rw [← hout] at hp
  clear HA
  have HO := Lib.hid hout
  clear hout
  cases out with
  | error er =>
    obtain ⟨rfl, hr⟩ := hp
    go_wp2_with fail
    go_ret
    rw [← HO.out]
    exact ⟨rfl, hr⟩
  | ok s' =>
    obtain ⟨rfl, hr⟩ := hp
    go_wp2_with fail
    go_ret
    rw [← HO.out]
    exact ⟨rfl, hr⟩

set_option maxHeartbeats 3200000 in
set_option maxRecDepth 20000 in
theorem ins8 {q : RK} {L : List (Nat × List Value)} {s : RS} {w : World} (h : RunRel q L s w) (dst x y imm : Int) (sym : ByteArray) (hx : okR q.R x = true) :
    Calls Tryd.prog 38 #[.pointer (some ⟨q.gb, 0, none⟩), .agg #[.int .u8 8, .int .i64 dst, .int .i64 x, .int .i64 y, .int .i64 imm, .string sym]] w (InsPost q L s (insR apW q.idx q.inp s ⟨8, dst, x, y, imm, sym⟩)) := by
  simp only [okR, decide_eq_true_eq] at hx
  obtain ⟨xn, rfl⟩ := Int.eq_ofNat_of_zero_le hx.1
  have hxn : xn < q.R := by omega
  clear hx
  have h1 := h.made [.int .u8 8, .int .i64 dst, .int .i64 xn, .int .i64 y, .int .i64 imm, .string sym] 59
  clear h
  go_enter Tryd.func38, Tryd.ntmps38
  go_upto_region 17 with fail
  obtain ⟨w1, hw1⟩ : ∃ W, W = w.alloc (.cells #[.int .u8 8, .int .i64 dst, .int .i64 xn, .int .i64 y, .int .i64 imm, .string sym] 59) := ⟨_, rfl⟩
  rw [← hw1] at h1 ⊢
  clear hw1
  have r1 := h1.at (b := w.heap.size) (cs := [.int .u8 8, .int .i64 dst, .int .i64 xn, .int .i64 y, .int .i64 imm, .string sym]) List.mem_cons_self
  have l1 := r1.lt
  have a1 := r1.at 1 rfl
  have a2 := r1.at 2 rfl
  have a3 := r1.at 3 rfl
  have a4 := r1.at 4 rfl
  have a5 := r1.at 5 rfl
  obtain ⟨col, ov, h1⟩ := h1
  obtain ⟨hl, ⟨c0, cc⟩, ⟨c5, c6, c7⟩, c8, c9, c10, cf⟩ := h1.cells
  have H1 := Lib.hid h1
  clear r1
  obtain ⟨g, cap, hrv, hg, hcs, hput⟩ := H1.out.allRegs hxn
  have HP := Lib.hid hput
  have HRV := Lib.hid hrv
  rw [hrv] at c0
  obtain ⟨vx, hvx⟩ : ∃ v, v = s.regs.getD xn 0 := ⟨_, rfl⟩
  have tx := (hcs _ hxn).1
  have fx := (hcs _ hxn).2
  rw [← hvx] at tx
  have HVx := Lib.hid (show s.get (xn : Int) = vx from hvx.symm)
  clear hvx
  clear hput hrv hcs h1
  have HS : Hid (insR apW q.idx q.inp s ⟨8, dst, (xn : Int), y, imm, sym⟩ = if wrap64 vx < 0 ∨ imm ≤ wrap64 vx then .error 11 else .ok s) := (show _ = _ by
    show (if wrap64 (s.get (xn : Int)) < 0 ∨ imm ≤ wrap64 (s.get (xn : Int)) then _ else _) = _
    rw [HVx.out])
  go_quiet (fail)
  by_cases h0 : wrap64 vx < 0
  · have h0' : decide (wrap64 vx < 0) = true := by simpa using h0
    go_wp2_with fail
    go_ret
    rw [HS.out, if_pos (.inl h0)]
    exact ⟨rfl, Lib.hid ((RunRel.drop ⟨_, _, H1.out⟩).keep (by repeat (first | (with_reducible exact Below.refl _ _) | (with_reducible apply Below.drew) | (with_reducible apply bDrewN))))⟩
  · have h0' : decide (wrap64 vx < 0) = false := by simpa using h0
    by_cases h2 : imm ≤ wrap64 vx
    · have h2' : decide (wrap64 vx ≥ imm) = true := by simpa using h2
      go_wp2_with fail
      go_ret
      rw [HS.out, if_pos (.inr h2)]
      exact ⟨rfl, Lib.hid ((RunRel.drop ⟨_, _, H1.out⟩).keep (by repeat (first | (with_reducible exact Below.refl _ _) | (with_reducible apply Below.drew) | (with_reducible apply bDrewN))))⟩
    · have h2' : decide (wrap64 vx ≥ imm) = false := by simpa using h2
      go_wp2_with fail
      go_ret
      rw [HS.out, if_neg (by omega)]
      exact ⟨rfl, Lib.hid ((RunRel.drop ⟨_, _, H1.out⟩).keep (by repeat (first | (with_reducible exact Below.refl _ _) | (with_reducible apply Below.drew) | (with_reducible apply bDrewN))))⟩

set_option maxHeartbeats 3200000 in
set_option maxRecDepth 20000 in
theorem ins9 {q : RK} {L : List (Nat × List Value)} {s : RS} {w : World} (h : RunRel q L s w) (dst x y imm : Int) (sym : ByteArray) (hdst : okR q.R dst = true) (hrb : s.read ≤ 1000000) :
    Calls Tryd.prog 38 #[.pointer (some ⟨q.gb, 0, none⟩), .agg #[.int .u8 9, .int .i64 dst, .int .i64 x, .int .i64 y, .int .i64 imm, .string sym]] w (InsPost q L s (insR apW q.idx q.inp s ⟨9, dst, x, y, imm, sym⟩)) := by
  simp only [okR, decide_eq_true_eq] at hdst
  obtain ⟨dstn, rfl⟩ := Int.eq_ofNat_of_zero_le hdst.1
  have hdstn : dstn < q.R := by omega
  clear hdst
  have h1 := h.made [.int .u8 9, .int .i64 dstn, .int .i64 x, .int .i64 y, .int .i64 imm, .string sym] 59
  clear h
  go_enter Tryd.func38, Tryd.ntmps38
  go_upto_region 21 with fail
  obtain ⟨w1, hw1⟩ : ∃ W, W = w.alloc (.cells #[.int .u8 9, .int .i64 dstn, .int .i64 x, .int .i64 y, .int .i64 imm, .string sym] 59) := ⟨_, rfl⟩
  rw [← hw1] at h1 ⊢
  clear hw1
  have r1 := h1.at (b := w.heap.size) (cs := [.int .u8 9, .int .i64 dstn, .int .i64 x, .int .i64 y, .int .i64 imm, .string sym]) List.mem_cons_self
  have l1 := r1.lt
  have a1 := r1.at 1 rfl
  have a2 := r1.at 2 rfl
  have a3 := r1.at 3 rfl
  have a4 := r1.at 4 rfl
  have a5 := r1.at 5 rfl
  obtain ⟨col, ov, h1⟩ := h1
  obtain ⟨hl, ⟨c0, cc⟩, ⟨c5, c6, c7⟩, c8, c9, c10, cf⟩ := h1.cells
  have H1 := Lib.hid h1
  clear r1
  obtain ⟨g, cap, hrv, hg, hcs, hput⟩ := H1.out.allRegs hdstn
  have HP := Lib.hid hput
  have HRV := Lib.hid hrv
  rw [hrv] at c0
  obtain ⟨vdst, hvdst⟩ : ∃ v, v = s.regs.getD dstn 0 := ⟨_, rfl⟩
  have tdst := (hcs _ hdstn).1
  have fdst := (hcs _ hdstn).2
  rw [← hvdst] at tdst
  have HVdst := Lib.hid (show s.get (dstn : Int) = vdst from hvdst.symm)
  clear hvdst
  clear hput hrv hcs h1
  go_region
  all_goals (
    go_upto_region 22 with fail
    obtain ⟨w3, hw3⟩ : ∃ W, W = (w1.setCell ⟨g, dstn, none⟩ (.int .i32 0)).drew := ⟨_, rfl⟩
    have h3 := (HP.out w1 (Below.refl _ _) dstn hdstn 0).keep (w' := w3) (by rw [hw3]; exact Below.drew (Below.refl _ _))
    rw [← hw3]
    clear hw3 HP H1 a1 a2 a3 a4 a5 hl c0 cc c5 c6 c7 c8 c9 c10 cf l1 tdst fdst hg
    obtain ⟨pi, ci, hiv, hin⟩ := h3.inn
    have r3 := h3.at (b := w.heap.size) (cs := [.int .u8 9, .int .i64 dstn, .int .i64 x, .int .i64 y, .int .i64 imm, .string sym]) List.mem_cons_self
    have l1 := r3.lt
    have a1 := r3.at 1 rfl
    clear r3
    obtain ⟨col3, ov3, h3⟩ := h3
    obtain ⟨hl, ⟨c0, cc⟩, ⟨c5, c6, c7⟩, c8, c9, c10, cf⟩ := h3.cells
    obtain ⟨g', cap', hrv, hg, hcs, hput⟩ := h3.allRegs hdstn
    have e4 := HRV.out.symm.trans hrv
    injection e4 with e5 _ e6
    injection e5 with e5
    injection e5 with e5 _
    subst e5 e6
    have f3 := (hcs _ hdstn).2
    obtain ⟨v0, t3⟩ : ∃ v, w3.cell? ⟨g, dstn, none⟩ = some (.int .i32 v) := ⟨_, (hcs _ hdstn).1⟩
    rw [HRV.out] at c0
    rw [hiv] at c8
    have H3 := Lib.hid h3
    have HP3 := Lib.hid hput
    have f10 := cf 10
    have hwr : IntKind.i64.wrap ((s.read : Int) + 1) = (s.read : Int) + 1 := IntWalk.i64_in _ ⟨by omega, by omega⟩
    have c10' : w3.cell? ⟨q.gb, 10, none⟩ = some (.int .i64 (s.read : Int)) := c10
    have HIN := Lib.hid hin
    clear hcs hput hrv h3 hiv c10 cc c5 c6 c7 c9 hin
    by_cases hlt : s.read < q.inp.length
    · have hltI : (s.read : Int) < q.inp.length := by omega
      obtain ⟨m, off, rfl, hm, hci⟩ := HIN.out s.read hlt
      obtain ⟨vi, hvi⟩ : ∃ v, v = q.inp.getD s.read 0 := ⟨_, rfl⟩
      rw [← hvi] at hci
      have HVI := Lib.hid hvi
      clear hvi HIN
      go_quiet (fail)
      go_upto_region 23 with fail
      obtain ⟨w5, hw5⟩ : ∃ W, W = w3.drewN nq := ⟨_, rfl⟩
      have hb5 : Below w3.heap.size w3 w5 := by rw [hw5]; exact bDrewN (Below.refl _ _)
      rw [← hw5]
      clear hw5
      have H5 := Lib.hid (H3.out.keep hb5)
      have HP5 := Lib.hid (fun W (hb : Below w5.heap.size w5 W) => HP3.out W (hb5.trans (hb.mono hb5.size)) dstn hdstn vi)
      have hci5 := (hb5.cell (p := ⟨m, off + s.read, none⟩) hm).trans hci
      have hm5 : m < w5.heap.size := Nat.lt_of_lt_of_le hm hb5.size
      have hg5 : g < w5.heap.size := Nat.lt_of_lt_of_le hg hb5.size
      have a15 := (hb5.cell (p := ⟨w.heap.size, 1, none⟩) l1).trans a1
      have l15 : w.heap.size < w5.heap.size := Nat.lt_of_lt_of_le l1 hb5.size
      have c05 := (hb5.cell (p := ⟨q.gb, 0, none⟩) hl).trans c0
      have c85 := (hb5.cell (p := ⟨q.gb, 8, none⟩) hl).trans c8
      have c105 := (hb5.cell (p := ⟨q.gb, 10, none⟩) hl).trans c10'
      have hl5 : q.gb < w5.heap.size := Nat.lt_of_lt_of_le hl hb5.size
      have t35 := (hb5.cell (p := ⟨g, dstn, none⟩) hg).trans t3
      have f35 := (World.frozen?_of_block (a := ⟨g, dstn, none⟩) (hb5.block g hg)).trans f3
      clear hb5 H3 HP3 a1 l1 c0 c8 c10' hl f3 t3 hg hm hci f10 cf
      go_region
      all_goals (
        go_upto_region 24 with fail
        obtain ⟨w6, hw6⟩ : ∃ W, W = (w5.setCell ⟨g, dstn, none⟩ (.int .i32 vi)).drew := ⟨_, rfl⟩
        have h6 := (HP5.out w5 (Below.refl _ _)).keep (w' := w6) (by rw [hw6]; exact Below.drew (Below.refl _ _))
        rw [← hw6]
        clear hw6 HP5 H5 hci5 hm5 hg5 a15 l15 c05 c85 c105 hl5 f35 t35
        obtain ⟨col6, ov6, h6⟩ := h6
        obtain ⟨hl, _, _, _, _, c10, cf⟩ := h6.cells
        have f10 := cf 10
        have c10' : w6.cell? ⟨q.gb, 10, none⟩ = some (.int .i64 (s.read : Int)) := c10
        clear c10
        have H6 := Lib.hid h6
        clear h6
        go_wp2_with fail
        go_ret
        show InsPost q L s (.ok { s with regs := s.regs.set dstn (q.inp.getD s.read 0), read := s.read + 1 }) _ _
        rw [← HVI.out]
        have H7 := RunRel.drop ⟨_, _, H6.out.setRead1⟩
        simp only [List.set_set] at H7
        exact ⟨rfl, Lib.hid (H7.keep (by repeat (first | (with_reducible exact Below.refl _ _) | (with_reducible apply Below.drew) | (with_reducible apply bDrewN))))⟩)
    · have hltI : ¬ (s.read : Int) < q.inp.length := by omega
      have hv0 : q.inp.getD s.read 0 = 0 := by rw [List.getD_eq_getElem?_getD, List.getElem?_eq_none (by omega)]; rfl
      go_quiet (fail)
      go_wp2_with fail
      go_ret
      show InsPost q L s (.ok { s with regs := s.regs.set dstn (q.inp.getD s.read 0), read := s.read + 1 }) _ _
      rw [hv0]
      exact ⟨rfl, Lib.hid (RunRel.keep (RunRel.drop ⟨_, _, (H3.out.keep (w' := w3.drewN nq) (by repeat (first | (with_reducible exact Below.refl _ _) | (with_reducible apply Below.drew) | (with_reducible apply bDrewN)))).setRead1⟩) (by repeat (first | (with_reducible exact Below.refl _ _) | (with_reducible apply Below.drew) | (with_reducible apply bDrewN))))⟩)

set_option maxHeartbeats 3200000 in
set_option maxRecDepth 20000 in
theorem ins10 {q : RK} {L : List (Nat × List Value)} {s : RS} {w : World} (h : RunRel q L s w) (dst x y imm : Int) (sym : ByteArray) (hx : okR q.R x = true) (hob : s.out.length ≤ 1000000) :
    Calls Tryd.prog 38 #[.pointer (some ⟨q.gb, 0, none⟩), .agg #[.int .u8 10, .int .i64 dst, .int .i64 x, .int .i64 y, .int .i64 imm, .string sym]] w (InsPost q L s (insR apW q.idx q.inp s ⟨10, dst, x, y, imm, sym⟩)) := by
  simp only [okR, decide_eq_true_eq] at hx
  obtain ⟨xn, rfl⟩ := Int.eq_ofNat_of_zero_le hx.1
  have hxn : xn < q.R := by omega
  clear hx
  have h1 := h.made [.int .u8 10, .int .i64 dst, .int .i64 xn, .int .i64 y, .int .i64 imm, .string sym] 59
  clear h
  go_enter Tryd.func38, Tryd.ntmps38
  go_upto_region 26 with fail
  obtain ⟨w1, hw1⟩ : ∃ W, W = w.alloc (.cells #[.int .u8 10, .int .i64 dst, .int .i64 xn, .int .i64 y, .int .i64 imm, .string sym] 59) := ⟨_, rfl⟩
  rw [← hw1] at h1 ⊢
  clear hw1
  have r1 := h1.at (b := w.heap.size) (cs := [.int .u8 10, .int .i64 dst, .int .i64 xn, .int .i64 y, .int .i64 imm, .string sym]) List.mem_cons_self
  have l1 := r1.lt
  have a1 := r1.at 1 rfl
  have a2 := r1.at 2 rfl
  have a3 := r1.at 3 rfl
  have a4 := r1.at 4 rfl
  have a5 := r1.at 5 rfl
  obtain ⟨col, ov, h1⟩ := h1
  obtain ⟨hl, ⟨c0, cc⟩, ⟨c5, c6, c7⟩, c8, c9, c10, cf⟩ := h1.cells
  have H1 := Lib.hid h1
  clear r1
  obtain ⟨g, cap, hrv, hg, hcs, hput⟩ := H1.out.allRegs hxn
  have HP := Lib.hid hput
  have HRV := Lib.hid hrv
  rw [hrv] at c0
  obtain ⟨vx, hvx⟩ : ∃ v, v = s.regs.getD xn 0 := ⟨_, rfl⟩
  have tx := (hcs _ hxn).1
  have fx := (hcs _ hxn).2
  rw [← hvx] at tx
  have HVx := Lib.hid (show s.get (xn : Int) = vx from hvx.symm)
  clear hvx
  clear hput hrv hcs h1
  obtain ⟨p0, q0, rfl⟩ := H1.out.out.shape
  have HM := Lib.hid (fun o : Obj => H1.out.made o)
  have HO := Lib.hid (fun o : Obj => (H1.out.made o).out.1)
  have HN : Hid (∀ k, (Value.slice p0 s.out.length q0).ownBlock = some k → q.gb ≠ k ∧ w.heap.size ≠ k ∧ g ≠ k) := (show ∀ k, _ from fun k hk => by
    have h5 := H1.out.out.2 k hk
    have hgc : col g = 3 := H1.out.regs.2 g (by rw [HRV.out]; rfl)
    have hbc : col w.heap.size = 0 := (H1.out.x.rows _ List.mem_cons_self).2
    exact ⟨fun e => by rw [← e, H1.out.box.cb] at h5; omega, fun e => by rw [← e, hbc] at h5; omega, fun e => by rw [← e, hgc] at h5; omega⟩)
  have hne : g ≠ q.gb := fun e => by
    have h3 : col g = 3 := H1.out.regs.2 g (by rw [HRV.out]; rfl)
    rw [e, H1.out.box.cb] at h3
    omega
  have f9 := cf 9
  have HS4 := Lib.hid (fun (W : World) (hb : Below w1.heap.size w1 W) => (⟨(hb.cell (p := ⟨q.gb, 0, none⟩) hl).trans c0, (hb.cell (p := ⟨w.heap.size, 4, none⟩) l1).trans a4, (hb.cell (p := ⟨w.heap.size, 2, none⟩) l1).trans a2, (hb.cell (p := ⟨g, xn, none⟩) hg).trans tx⟩ : W.cell? ⟨q.gb, 0, none⟩ = some (.slice (some ⟨g, 0, none⟩) q.R cap) ∧ W.cell? ⟨w.heap.size, 4, none⟩ = some (.int .i64 imm) ∧ W.cell? ⟨w.heap.size, 2, none⟩ = some (.int .i64 (xn : Int)) ∧ W.cell? ⟨g, xn, none⟩ = some (.int .i32 vx)))
  clear H1 HP cf cc c5 c6 c7 c8 c10 a1 a3 a5
  refine wp_region_held_drew (S := fun w' => w'.cell? ⟨q.gb, 0, none⟩ = some (.slice (some ⟨g, 0, none⟩) q.R cap) ∧ w'.cell? ⟨w.heap.size, 4, none⟩ = some (.int .i64 imm) ∧ w'.cell? ⟨w.heap.size, 2, none⟩ = some (.int .i64 (xn : Int)) ∧ w'.cell? ⟨g, xn, none⟩ = some (.int .i32 vx)) (by kernel_rfl) ⟨c0, a4, a2, tx⟩ (fun hHeld => ?_)
  refine wpAnyH_take (i := 0) (oi := { dst := some 148, op := Go.Op.move (Go.Operand.tmp 0), type := 69, pos := "run.go:104", after := #[], guard := none }) (v := ?_) rfl (by kernel_rfl) (by kernel_rfl) (by kernel_rfl) (fun _ _ _ h => h) (Or.inl ⟨by rfl, ?_⟩) hHeld ?_
  rotate_left
  · intro w hSw; (try dsimp only at hSw); (try obtain ⟨hSw1, hSw2, hSw3, hSw4⟩ := hSw); go_simp; try (with_reducible rfl)
  (try simp only [Act.put, List.setIfInBounds_toArray, List.set_cons_zero, List.set_cons_succ])
  refine wpAnyH_take (i := 1) (oi := { dst := some 149, op := Go.Op.move (Go.Operand.tmp 0), type := 69, pos := "run.go:104", after := #[], guard := none }) (v := ?_) rfl (by kernel_rfl) (by kernel_rfl) (by kernel_rfl) (fun _ _ _ h => h) (Or.inl ⟨by rfl, ?_⟩) hHeld ?_
  rotate_left
  · intro w hSw; (try dsimp only at hSw); (try obtain ⟨hSw1, hSw2, hSw3, hSw4⟩ := hSw); go_simp; try (with_reducible rfl)
  (try simp only [Act.put, List.setIfInBounds_toArray, List.set_cons_zero, List.set_cons_succ])
  refine wpAnyH_take (i := 2) (oi := { dst := some 150, op := Go.Op.nilCheck (Go.Operand.tmp 149), type := 0, pos := "run.go:104", after := #[{ on := 1, ground := Go.Ground.data }], guard := none }) (v := ?_) rfl (by kernel_rfl) (by kernel_rfl) (by kernel_rfl) (fun _ _ _ h => h) (Or.inl ⟨by rfl, ?_⟩) hHeld ?_
  rotate_left
  · intro w hSw; (try dsimp only at hSw); (try obtain ⟨hSw1, hSw2, hSw3, hSw4⟩ := hSw); go_simp; try (with_reducible rfl)
  (try simp only [Act.put, List.setIfInBounds_toArray, List.set_cons_zero, List.set_cons_succ])
  refine wpAnyH_take (i := 3) (oi := { dst := some 151, op := Go.Op.fieldAddr 73 (Go.Operand.tmp 150) 6, type := 0, pos := "run.go:104", after := #[{ on := 2, ground := Go.Ground.data }], guard := none }) (v := ?_) rfl (by kernel_rfl) (by kernel_rfl) (by kernel_rfl) (fun _ _ _ h => h) (Or.inl ⟨by rfl, ?_⟩) hHeld ?_
  rotate_left
  · intro w hSw; (try dsimp only at hSw); (try obtain ⟨hSw1, hSw2, hSw3, hSw4⟩ := hSw); go_simp; try (with_reducible rfl)
  (try simp only [Act.put, List.setIfInBounds_toArray, List.set_cons_zero, List.set_cons_succ])
  refine wpAnyH_take (i := 5) (oi := { dst := some 153, op := Go.Op.fieldAddr 59 (Go.Operand.tmp 3) 4, type := 0, pos := "run.go:104", after := #[], guard := none }) (v := ?_) rfl (by kernel_rfl) (by kernel_rfl) (by kernel_rfl) (fun _ _ _ h => h) (Or.inl ⟨by rfl, ?_⟩) hHeld ?_
  rotate_left
  · intro w hSw; (try dsimp only at hSw); (try obtain ⟨hSw1, hSw2, hSw3, hSw4⟩ := hSw); go_simp; try (with_reducible rfl)
  (try simp only [Act.put, List.setIfInBounds_toArray, List.set_cons_zero, List.set_cons_succ])
  refine wpAnyH_take (i := 6) (oi := { dst := some 154, op := Go.Op.load 3 (Go.Operand.tmp 153), type := 3, pos := "run.go:104", after := #[{ on := 5, ground := Go.Ground.data }], guard := none }) (v := ?_) rfl (by kernel_rfl) (by kernel_rfl) (by kernel_rfl) (fun _ _ _ h => h) (Or.inl ⟨by rfl, ?_⟩) hHeld ?_
  rotate_left
  · intro w hSw; (try dsimp only at hSw); (try obtain ⟨hSw1, hSw2, hSw3, hSw4⟩ := hSw); go_simp; try (with_reducible rfl)
  (try simp only [Act.put, List.setIfInBounds_toArray, List.set_cons_zero, List.set_cons_succ])
  refine wpAnyH_take (i := 7) (oi := { dst := some 155, op := Go.Op.move (Go.Operand.tmp 0), type := 69, pos := "run.go:104", after := #[], guard := none }) (v := ?_) rfl (by kernel_rfl) (by kernel_rfl) (by kernel_rfl) (fun _ _ _ h => h) (Or.inl ⟨by rfl, ?_⟩) hHeld ?_
  rotate_left
  · intro w hSw; (try dsimp only at hSw); (try obtain ⟨hSw1, hSw2, hSw3, hSw4⟩ := hSw); go_simp; try (with_reducible rfl)
  (try simp only [Act.put, List.setIfInBounds_toArray, List.set_cons_zero, List.set_cons_succ])
  refine wpAnyH_take (i := 8) (oi := { dst := some 156, op := Go.Op.nilCheck (Go.Operand.tmp 155), type := 0, pos := "run.go:104", after := #[{ on := 7, ground := Go.Ground.data }], guard := none }) (v := ?_) rfl (by kernel_rfl) (by kernel_rfl) (by kernel_rfl) (fun _ _ _ h => h) (Or.inl ⟨by rfl, ?_⟩) hHeld ?_
  rotate_left
  · intro w hSw; (try dsimp only at hSw); (try obtain ⟨hSw1, hSw2, hSw3, hSw4⟩ := hSw); go_simp; try (with_reducible rfl)
  (try simp only [Act.put, List.setIfInBounds_toArray, List.set_cons_zero, List.set_cons_succ])
  refine wpAnyH_take (i := 9) (oi := { dst := some 157, op := Go.Op.fieldAddr 73 (Go.Operand.tmp 156) 0, type := 0, pos := "run.go:104", after := #[{ on := 8, ground := Go.Ground.data }], guard := none }) (v := ?_) rfl (by kernel_rfl) (by kernel_rfl) (by kernel_rfl) (fun _ _ _ h => h) (Or.inl ⟨by rfl, ?_⟩) hHeld ?_
  rotate_left
  · intro w hSw; (try dsimp only at hSw); (try obtain ⟨hSw1, hSw2, hSw3, hSw4⟩ := hSw); go_simp; try (with_reducible rfl)
  (try simp only [Act.put, List.setIfInBounds_toArray, List.set_cons_zero, List.set_cons_succ])
  refine wpAnyH_take (i := 10) (oi := { dst := some 158, op := Go.Op.load 27 (Go.Operand.tmp 157), type := 27, pos := "run.go:104", after := #[{ on := 9, ground := Go.Ground.data }], guard := none }) (v := ?_) rfl (by kernel_rfl) (by kernel_rfl) (by kernel_rfl) (fun _ _ _ h => h) (Or.inl ⟨by rfl, ?_⟩) hHeld ?_
  rotate_left
  · intro w hSw; (try dsimp only at hSw); (try obtain ⟨hSw1, hSw2, hSw3, hSw4⟩ := hSw); go_simp; try (with_reducible rfl)
  (try simp only [Act.put, List.setIfInBounds_toArray, List.set_cons_zero, List.set_cons_succ])
  refine wpAnyH_take (i := 11) (oi := { dst := some 159, op := Go.Op.fieldAddr 59 (Go.Operand.tmp 3) 2, type := 0, pos := "run.go:104", after := #[], guard := none }) (v := ?_) rfl (by kernel_rfl) (by kernel_rfl) (by kernel_rfl) (fun _ _ _ h => h) (Or.inl ⟨by rfl, ?_⟩) hHeld ?_
  rotate_left
  · intro w hSw; (try dsimp only at hSw); (try obtain ⟨hSw1, hSw2, hSw3, hSw4⟩ := hSw); go_simp; try (with_reducible rfl)
  (try simp only [Act.put, List.setIfInBounds_toArray, List.set_cons_zero, List.set_cons_succ])
  refine wpAnyH_take (i := 12) (oi := { dst := some 160, op := Go.Op.load 3 (Go.Operand.tmp 159), type := 3, pos := "run.go:104", after := #[{ on := 11, ground := Go.Ground.data }], guard := none }) (v := ?_) rfl (by kernel_rfl) (by kernel_rfl) (by kernel_rfl) (fun _ _ _ h => h) (Or.inl ⟨by rfl, ?_⟩) hHeld ?_
  rotate_left
  · intro w hSw; (try dsimp only at hSw); (try obtain ⟨hSw1, hSw2, hSw3, hSw4⟩ := hSw); go_simp; try (with_reducible rfl)
  (try simp only [Act.put, List.setIfInBounds_toArray, List.set_cons_zero, List.set_cons_succ])
  refine wpAnyH_take (i := 13) (oi := { dst := some 161, op := Go.Op.indexAddr 27 (Go.Operand.tmp 158) (Go.Operand.tmp 160), type := 0, pos := "run.go:104", after := #[{ on := 10, ground := Go.Ground.data }, { on := 12, ground := Go.Ground.data }], guard := none }) (v := ?_) rfl (by kernel_rfl) (by kernel_rfl) (by kernel_rfl) (fun _ _ _ h => h) (Or.inl ⟨by rfl, ?_⟩) hHeld ?_
  rotate_left
  · intro w hSw; (try dsimp only at hSw); (try obtain ⟨hSw1, hSw2, hSw3, hSw4⟩ := hSw); go_simp; try (with_reducible rfl)
  (try simp only [Act.put, List.setIfInBounds_toArray, List.set_cons_zero, List.set_cons_succ])
  refine wpAnyH_take (i := 14) (oi := { dst := some 162, op := Go.Op.load 21 (Go.Operand.tmp 161), type := 21, pos := "run.go:104", after := #[{ on := 13, ground := Go.Ground.data }], guard := none }) (v := ?_) rfl (by kernel_rfl) (by kernel_rfl) (by kernel_rfl) (fun _ _ _ h => h) (Or.inl ⟨by rfl, ?_⟩) hHeld ?_
  rotate_left
  · intro w hSw; (try dsimp only at hSw); (try obtain ⟨hSw1, hSw2, hSw3, hSw4⟩ := hSw); go_simp; try (with_reducible rfl)
  (try simp only [Act.put, List.setIfInBounds_toArray, List.set_cons_zero, List.set_cons_succ])
  refine wpAnyH_ready (rs := [4, 15]) (by kernel_rfl) (by simp) ?_
  refine AllReadyH.cons (o := { dst := some 152, op := Go.Op.load 37 (Go.Operand.tmp 151), type := 37, pos := "run.go:104", after := #[{ on := 3, ground := Go.Ground.data }], guard := none }) rfl (fun K hK => ?_) (AllReadyH.cons (o := { dst := some 163, op := Go.Op.build 43 #[(0, Go.Operand.tmp 154), (1, Go.Operand.tmp 162)], type := 43, pos := "run.go:104", after := #[{ on := 6, ground := Go.Ground.data }, { on := 14, ground := Go.Ground.data }], guard := none }) rfl (fun K hK => ?_) AllReadyH.nil)
  · skip
    go_simp
    first | (refine hK.out _ _ hHeld (fun hHeld => ?_)) | (go_wp2_with fail; refine hK.out _ _ hHeld (fun hHeld => ?_))
    clear hK K
    (try simp only [Act.put, List.setIfInBounds_toArray, List.set_cons_zero, List.set_cons_succ])
    refine wpAnyH_ready (rs := [15]) (by kernel_rfl) (by simp) ?_
    refine AllReadyH.cons (o := { dst := some 163, op := Go.Op.build 43 #[(0, Go.Operand.tmp 154), (1, Go.Operand.tmp 162)], type := 43, pos := "run.go:104", after := #[{ on := 6, ground := Go.Ground.data }, { on := 14, ground := Go.Ground.data }], guard := none }) rfl (fun K hK => ?_) AllReadyH.nil
    go_simp
    first | (refine hK.out _ _ hHeld (fun hHeld => ?_)) | (go_wp2_with fail; refine hK.out _ _ hHeld (fun hHeld => ?_))
    clear hK K
    (try simp only [Act.put, List.setIfInBounds_toArray, List.set_cons_zero, List.set_cons_succ])
    refine wpAnyH_ready (rs := [16]) (by kernel_rfl) (by simp) ?_
    refine AllReadyH.cons (o := { dst := some 164, op := Go.Op.buildSlice 37 1 #[(0, Go.Operand.tmp 163)], type := 37, pos := "run.go:104", after := #[{ on := 15, ground := Go.Ground.data }], guard := none }) rfl (fun K hK => ?_) AllReadyH.nil
    go_simp
    first | (refine hK.out _ _ ?_ (fun hHeld => ?_)) | (go_wp2_with fail; refine hK.out _ _ ?_ (fun hHeld => ?_))
    · exact HS4.out _ (by repeat (first | (with_reducible exact Below.refl _ _) | (with_reducible apply Below.drew) | (with_reducible apply bDrewN) | ((with_reducible apply bAlloc); (focus first | (exact Nat.le_refl _) | (simp; done)))))
    clear hK K
    (try simp only [Act.put, List.setIfInBounds_toArray, List.set_cons_zero, List.set_cons_succ])
    refine wpAnyH_ready (rs := [17]) (by kernel_rfl) (by simp) ?_
    refine AllReadyH.cons (o := { dst := some 165, op := Go.Op.call { callee := Go.Callee.builtin Go.Builtin.append, args := #[Go.Operand.tmp 152, Go.Operand.tmp 164], argTypes := #[37, 37] }, type := 37, pos := "run.go:104", after := #[{ on := 4, ground := Go.Ground.data }, { on := 16, ground := Go.Ground.data }], guard := none }) rfl (fun K hK => ?_) AllReadyH.nil
    refine step_append_els rfl _ _ 37 43 _ 2 16 rfl Tryd.underlying37 infoOutR rfl (by decide) (by decide) _ s.out.length (outV s.out) rfl (HO.out _) w1.heap.size 1 [.int .i64 imm, .int .i32 vx] rfl rfl (RowC2.made w1.drew [.int .i64 imm, .int .i32 vx] 43).2 (by simp [Value.oneCell']) (by omega) ?_
    intro p c' w3 hO hgr hd
    obtain ⟨⟨b3, f3, l3⟩, hK3⟩ := (HM.out _).putOut (x := (imm, vx)) (Below.refl _ _) hgr hO hd
    have HK3 := Lib.hid hK3
    clear hK3
    refine hK.out _ _ ?_ (fun hHeld => ?_)
    · exact ⟨(World.cell?_of_block (a := ⟨q.gb, 0, none⟩) (hgr.block _ (by simp; omega) (fun e => (HN.out _ (by first | exact e | exact e.symm)).1 rfl))).trans hHeld.1, (World.cell?_of_block (a := ⟨w.heap.size, 4, none⟩) (hgr.block _ (by simp; omega) (fun e => (HN.out _ (by first | exact e | exact e.symm)).2.1 rfl))).trans hHeld.2.1, (World.cell?_of_block (a := ⟨w.heap.size, 2, none⟩) (hgr.block _ (by simp; omega) (fun e => (HN.out _ (by first | exact e | exact e.symm)).2.1 rfl))).trans hHeld.2.2.1, (World.cell?_of_block (a := ⟨g, xn, none⟩) (hgr.block _ (by simp; omega) (fun e => (HN.out _ (by first | exact e | exact e.symm)).2.2 rfl))).trans hHeld.2.2.2⟩
    clear hK K
    (try simp only [Act.put, List.setIfInBounds_toArray, List.set_cons_zero, List.set_cons_succ])
    refine wpAnyH_take (i := 18) (oi := { dst := some 166, op := Go.Op.nilCheck (Go.Operand.tmp 148), type := 0, pos := "run.go:104", after := #[{ on := 0, ground := Go.Ground.data }, { on := 0, ground := Go.Ground.phase }, { on := 1, ground := Go.Ground.phase }, { on := 2, ground := Go.Ground.phase }, { on := 3, ground := Go.Ground.phase }, { on := 4, ground := Go.Ground.phase }, { on := 5, ground := Go.Ground.phase }, { on := 6, ground := Go.Ground.phase }, { on := 7, ground := Go.Ground.phase }, { on := 8, ground := Go.Ground.phase }, { on := 9, ground := Go.Ground.phase }, { on := 10, ground := Go.Ground.phase }, { on := 11, ground := Go.Ground.phase }, { on := 12, ground := Go.Ground.phase }, { on := 13, ground := Go.Ground.phase }, { on := 14, ground := Go.Ground.phase }, { on := 15, ground := Go.Ground.phase }, { on := 16, ground := Go.Ground.phase }, { on := 17, ground := Go.Ground.phase }], guard := none }) (v := ?_) rfl (by kernel_rfl) (by kernel_rfl) (by kernel_rfl) (fun _ _ _ h => h) (Or.inl ⟨by rfl, ?_⟩) hHeld ?_
    rotate_left
    · intro w hSw; (try dsimp only at hSw); (try obtain ⟨hSw1, hSw2, hSw3, hSw4⟩ := hSw); go_simp; try (with_reducible rfl)
    (try simp only [Act.put, List.setIfInBounds_toArray, List.set_cons_zero, List.set_cons_succ])
    refine wpAnyH_take (i := 19) (oi := { dst := some 167, op := Go.Op.fieldAddr 73 (Go.Operand.tmp 166) 6, type := 0, pos := "run.go:104", after := #[{ on := 18, ground := Go.Ground.data }, { on := 0, ground := Go.Ground.phase }, { on := 1, ground := Go.Ground.phase }, { on := 2, ground := Go.Ground.phase }, { on := 3, ground := Go.Ground.phase }, { on := 4, ground := Go.Ground.phase }, { on := 5, ground := Go.Ground.phase }, { on := 6, ground := Go.Ground.phase }, { on := 7, ground := Go.Ground.phase }, { on := 8, ground := Go.Ground.phase }, { on := 9, ground := Go.Ground.phase }, { on := 10, ground := Go.Ground.phase }, { on := 11, ground := Go.Ground.phase }, { on := 12, ground := Go.Ground.phase }, { on := 13, ground := Go.Ground.phase }, { on := 14, ground := Go.Ground.phase }, { on := 15, ground := Go.Ground.phase }, { on := 16, ground := Go.Ground.phase }, { on := 17, ground := Go.Ground.phase }], guard := none }) (v := ?_) rfl (by kernel_rfl) (by kernel_rfl) (by kernel_rfl) (fun _ _ _ h => h) (Or.inl ⟨by rfl, ?_⟩) hHeld ?_
    rotate_left
    · intro w hSw; (try dsimp only at hSw); (try obtain ⟨hSw1, hSw2, hSw3, hSw4⟩ := hSw); go_simp; try (with_reducible rfl)
    (try simp only [Act.put, List.setIfInBounds_toArray, List.set_cons_zero, List.set_cons_succ])
    refine wpAnyH_ready (rs := [20]) (by kernel_rfl) (by simp) ?_
    refine AllReadyH.cons (o := { dst := none, op := Go.Op.store 37 (Go.Operand.tmp 167) (Go.Operand.tmp 165), type := 0, pos := "run.go:104", after := #[{ on := 19, ground := Go.Ground.data }, { on := 17, ground := Go.Ground.data }, { on := 17, ground := Go.Ground.chain }, { on := 0, ground := Go.Ground.phase }, { on := 1, ground := Go.Ground.phase }, { on := 2, ground := Go.Ground.phase }, { on := 3, ground := Go.Ground.phase }, { on := 4, ground := Go.Ground.phase }, { on := 5, ground := Go.Ground.phase }, { on := 6, ground := Go.Ground.phase }, { on := 7, ground := Go.Ground.phase }, { on := 8, ground := Go.Ground.phase }, { on := 9, ground := Go.Ground.phase }, { on := 10, ground := Go.Ground.phase }, { on := 11, ground := Go.Ground.phase }, { on := 12, ground := Go.Ground.phase }, { on := 13, ground := Go.Ground.phase }, { on := 14, ground := Go.Ground.phase }, { on := 15, ground := Go.Ground.phase }, { on := 16, ground := Go.Ground.phase }, { on := 17, ground := Go.Ground.phase }], guard := none }) rfl (fun K hK => ?_) AllReadyH.nil
    go_simp
    first | (refine hK.out _ _ ?_ (fun hHeld => ?_)) | (go_wp2_with fail; refine hK.out _ _ ?_ (fun hHeld => ?_))
    · exact ⟨(World.cell?_setCell_other _ _ _ _ (by intro e; injection e with _ e; omega)).trans hHeld.1, (World.cell?_setCell_other _ _ _ _ (by intro e; injection e with _ e; omega)).trans hHeld.2.1, (World.cell?_setCell_other _ _ _ _ (by intro e; injection e with _ e; omega)).trans hHeld.2.2.1, (World.cell?_setCell_other _ _ _ _ (by intro e; injection e with e _; exact hne (by first | exact e | exact e.symm))).trans hHeld.2.2.2⟩
    clear hK K
    (try simp only [Act.put, List.setIfInBounds_toArray, List.set_cons_zero, List.set_cons_succ])
    refine wpAnyH_done (by kernel_rfl) ?_ _
    clear hHeld hgr hO hd b3 l3
    go_wp2_with fail
    go_ret
    show InsPost q L s (.ok { s with out := s.out ++ [(imm, s.get (xn : Int))] }) _ _
    rw [HVx.out]
    exact ⟨rfl, Lib.hid (HK3.out.drop.keep (by repeat (first | (with_reducible exact Below.refl _ _) | (with_reducible apply Below.drew) | (with_reducible apply bDrewN))))⟩
  · skip
    go_simp
    first | (refine hK.out _ _ hHeld (fun hHeld => ?_)) | (go_wp2_with fail; refine hK.out _ _ hHeld (fun hHeld => ?_))
    clear hK K
    (try simp only [Act.put, List.setIfInBounds_toArray, List.set_cons_zero, List.set_cons_succ])
    refine wpAnyH_ready (rs := [4, 16]) (by kernel_rfl) (by simp) ?_
    refine AllReadyH.cons (o := { dst := some 152, op := Go.Op.load 37 (Go.Operand.tmp 151), type := 37, pos := "run.go:104", after := #[{ on := 3, ground := Go.Ground.data }], guard := none }) rfl (fun K hK => ?_) (AllReadyH.cons (o := { dst := some 164, op := Go.Op.buildSlice 37 1 #[(0, Go.Operand.tmp 163)], type := 37, pos := "run.go:104", after := #[{ on := 15, ground := Go.Ground.data }], guard := none }) rfl (fun K hK => ?_) AllReadyH.nil)
    · skip
      go_simp
      first | (refine hK.out _ _ hHeld (fun hHeld => ?_)) | (go_wp2_with fail; refine hK.out _ _ hHeld (fun hHeld => ?_))
      clear hK K
      (try simp only [Act.put, List.setIfInBounds_toArray, List.set_cons_zero, List.set_cons_succ])
      refine wpAnyH_ready (rs := [16]) (by kernel_rfl) (by simp) ?_
      refine AllReadyH.cons (o := { dst := some 164, op := Go.Op.buildSlice 37 1 #[(0, Go.Operand.tmp 163)], type := 37, pos := "run.go:104", after := #[{ on := 15, ground := Go.Ground.data }], guard := none }) rfl (fun K hK => ?_) AllReadyH.nil
      go_simp
      first | (refine hK.out _ _ ?_ (fun hHeld => ?_)) | (go_wp2_with fail; refine hK.out _ _ ?_ (fun hHeld => ?_))
      · exact HS4.out _ (by repeat (first | (with_reducible exact Below.refl _ _) | (with_reducible apply Below.drew) | (with_reducible apply bDrewN) | ((with_reducible apply bAlloc); (focus first | (exact Nat.le_refl _) | (simp; done)))))
      clear hK K
      (try simp only [Act.put, List.setIfInBounds_toArray, List.set_cons_zero, List.set_cons_succ])
      refine wpAnyH_ready (rs := [17]) (by kernel_rfl) (by simp) ?_
      refine AllReadyH.cons (o := { dst := some 165, op := Go.Op.call { callee := Go.Callee.builtin Go.Builtin.append, args := #[Go.Operand.tmp 152, Go.Operand.tmp 164], argTypes := #[37, 37] }, type := 37, pos := "run.go:104", after := #[{ on := 4, ground := Go.Ground.data }, { on := 16, ground := Go.Ground.data }], guard := none }) rfl (fun K hK => ?_) AllReadyH.nil
      refine step_append_els rfl _ _ 37 43 _ 2 16 rfl Tryd.underlying37 infoOutR rfl (by decide) (by decide) _ s.out.length (outV s.out) rfl (HO.out _) w1.heap.size 1 [.int .i64 imm, .int .i32 vx] rfl rfl (RowC2.made w1.drew [.int .i64 imm, .int .i32 vx] 43).2 (by simp [Value.oneCell']) (by omega) ?_
      intro p c' w3 hO hgr hd
      obtain ⟨⟨b3, f3, l3⟩, hK3⟩ := (HM.out _).putOut (x := (imm, vx)) (Below.refl _ _) hgr hO hd
      have HK3 := Lib.hid hK3
      clear hK3
      refine hK.out _ _ ?_ (fun hHeld => ?_)
      · exact ⟨(World.cell?_of_block (a := ⟨q.gb, 0, none⟩) (hgr.block _ (by simp; omega) (fun e => (HN.out _ (by first | exact e | exact e.symm)).1 rfl))).trans hHeld.1, (World.cell?_of_block (a := ⟨w.heap.size, 4, none⟩) (hgr.block _ (by simp; omega) (fun e => (HN.out _ (by first | exact e | exact e.symm)).2.1 rfl))).trans hHeld.2.1, (World.cell?_of_block (a := ⟨w.heap.size, 2, none⟩) (hgr.block _ (by simp; omega) (fun e => (HN.out _ (by first | exact e | exact e.symm)).2.1 rfl))).trans hHeld.2.2.1, (World.cell?_of_block (a := ⟨g, xn, none⟩) (hgr.block _ (by simp; omega) (fun e => (HN.out _ (by first | exact e | exact e.symm)).2.2 rfl))).trans hHeld.2.2.2⟩
      clear hK K
      (try simp only [Act.put, List.setIfInBounds_toArray, List.set_cons_zero, List.set_cons_succ])
      refine wpAnyH_take (i := 18) (oi := { dst := some 166, op := Go.Op.nilCheck (Go.Operand.tmp 148), type := 0, pos := "run.go:104", after := #[{ on := 0, ground := Go.Ground.data }, { on := 0, ground := Go.Ground.phase }, { on := 1, ground := Go.Ground.phase }, { on := 2, ground := Go.Ground.phase }, { on := 3, ground := Go.Ground.phase }, { on := 4, ground := Go.Ground.phase }, { on := 5, ground := Go.Ground.phase }, { on := 6, ground := Go.Ground.phase }, { on := 7, ground := Go.Ground.phase }, { on := 8, ground := Go.Ground.phase }, { on := 9, ground := Go.Ground.phase }, { on := 10, ground := Go.Ground.phase }, { on := 11, ground := Go.Ground.phase }, { on := 12, ground := Go.Ground.phase }, { on := 13, ground := Go.Ground.phase }, { on := 14, ground := Go.Ground.phase }, { on := 15, ground := Go.Ground.phase }, { on := 16, ground := Go.Ground.phase }, { on := 17, ground := Go.Ground.phase }], guard := none }) (v := ?_) rfl (by kernel_rfl) (by kernel_rfl) (by kernel_rfl) (fun _ _ _ h => h) (Or.inl ⟨by rfl, ?_⟩) hHeld ?_
      rotate_left
      · intro w hSw; (try dsimp only at hSw); (try obtain ⟨hSw1, hSw2, hSw3, hSw4⟩ := hSw); go_simp; try (with_reducible rfl)
      (try simp only [Act.put, List.setIfInBounds_toArray, List.set_cons_zero, List.set_cons_succ])
      refine wpAnyH_take (i := 19) (oi := { dst := some 167, op := Go.Op.fieldAddr 73 (Go.Operand.tmp 166) 6, type := 0, pos := "run.go:104", after := #[{ on := 18, ground := Go.Ground.data }, { on := 0, ground := Go.Ground.phase }, { on := 1, ground := Go.Ground.phase }, { on := 2, ground := Go.Ground.phase }, { on := 3, ground := Go.Ground.phase }, { on := 4, ground := Go.Ground.phase }, { on := 5, ground := Go.Ground.phase }, { on := 6, ground := Go.Ground.phase }, { on := 7, ground := Go.Ground.phase }, { on := 8, ground := Go.Ground.phase }, { on := 9, ground := Go.Ground.phase }, { on := 10, ground := Go.Ground.phase }, { on := 11, ground := Go.Ground.phase }, { on := 12, ground := Go.Ground.phase }, { on := 13, ground := Go.Ground.phase }, { on := 14, ground := Go.Ground.phase }, { on := 15, ground := Go.Ground.phase }, { on := 16, ground := Go.Ground.phase }, { on := 17, ground := Go.Ground.phase }], guard := none }) (v := ?_) rfl (by kernel_rfl) (by kernel_rfl) (by kernel_rfl) (fun _ _ _ h => h) (Or.inl ⟨by rfl, ?_⟩) hHeld ?_
      rotate_left
      · intro w hSw; (try dsimp only at hSw); (try obtain ⟨hSw1, hSw2, hSw3, hSw4⟩ := hSw); go_simp; try (with_reducible rfl)
      (try simp only [Act.put, List.setIfInBounds_toArray, List.set_cons_zero, List.set_cons_succ])
      refine wpAnyH_ready (rs := [20]) (by kernel_rfl) (by simp) ?_
      refine AllReadyH.cons (o := { dst := none, op := Go.Op.store 37 (Go.Operand.tmp 167) (Go.Operand.tmp 165), type := 0, pos := "run.go:104", after := #[{ on := 19, ground := Go.Ground.data }, { on := 17, ground := Go.Ground.data }, { on := 17, ground := Go.Ground.chain }, { on := 0, ground := Go.Ground.phase }, { on := 1, ground := Go.Ground.phase }, { on := 2, ground := Go.Ground.phase }, { on := 3, ground := Go.Ground.phase }, { on := 4, ground := Go.Ground.phase }, { on := 5, ground := Go.Ground.phase }, { on := 6, ground := Go.Ground.phase }, { on := 7, ground := Go.Ground.phase }, { on := 8, ground := Go.Ground.phase }, { on := 9, ground := Go.Ground.phase }, { on := 10, ground := Go.Ground.phase }, { on := 11, ground := Go.Ground.phase }, { on := 12, ground := Go.Ground.phase }, { on := 13, ground := Go.Ground.phase }, { on := 14, ground := Go.Ground.phase }, { on := 15, ground := Go.Ground.phase }, { on := 16, ground := Go.Ground.phase }, { on := 17, ground := Go.Ground.phase }], guard := none }) rfl (fun K hK => ?_) AllReadyH.nil
      go_simp
      first | (refine hK.out _ _ ?_ (fun hHeld => ?_)) | (go_wp2_with fail; refine hK.out _ _ ?_ (fun hHeld => ?_))
      · exact ⟨(World.cell?_setCell_other _ _ _ _ (by intro e; injection e with _ e; omega)).trans hHeld.1, (World.cell?_setCell_other _ _ _ _ (by intro e; injection e with _ e; omega)).trans hHeld.2.1, (World.cell?_setCell_other _ _ _ _ (by intro e; injection e with _ e; omega)).trans hHeld.2.2.1, (World.cell?_setCell_other _ _ _ _ (by intro e; injection e with e _; exact hne (by first | exact e | exact e.symm))).trans hHeld.2.2.2⟩
      clear hK K
      (try simp only [Act.put, List.setIfInBounds_toArray, List.set_cons_zero, List.set_cons_succ])
      refine wpAnyH_done (by kernel_rfl) ?_ _
      clear hHeld hgr hO hd b3 l3
      go_wp2_with fail
      go_ret
      show InsPost q L s (.ok { s with out := s.out ++ [(imm, s.get (xn : Int))] }) _ _
      rw [HVx.out]
      exact ⟨rfl, Lib.hid (HK3.out.drop.keep (by repeat (first | (with_reducible exact Below.refl _ _) | (with_reducible apply Below.drew) | (with_reducible apply bDrewN))))⟩
    · skip
      go_simp
      first | (refine hK.out _ _ ?_ (fun hHeld => ?_)) | (go_wp2_with fail; refine hK.out _ _ ?_ (fun hHeld => ?_))
      · exact HS4.out _ (by repeat (first | (with_reducible exact Below.refl _ _) | (with_reducible apply Below.drew) | (with_reducible apply bDrewN) | ((with_reducible apply bAlloc); (focus first | (exact Nat.le_refl _) | (simp; done)))))
      clear hK K
      (try simp only [Act.put, List.setIfInBounds_toArray, List.set_cons_zero, List.set_cons_succ])
      refine wpAnyH_ready (rs := [4]) (by kernel_rfl) (by simp) ?_
      refine AllReadyH.cons (o := { dst := some 152, op := Go.Op.load 37 (Go.Operand.tmp 151), type := 37, pos := "run.go:104", after := #[{ on := 3, ground := Go.Ground.data }], guard := none }) rfl (fun K hK => ?_) AllReadyH.nil
      go_simp
      first | (refine hK.out _ _ hHeld (fun hHeld => ?_)) | (go_wp2_with fail; refine hK.out _ _ hHeld (fun hHeld => ?_))
      clear hK K
      (try simp only [Act.put, List.setIfInBounds_toArray, List.set_cons_zero, List.set_cons_succ])
      refine wpAnyH_ready (rs := [17]) (by kernel_rfl) (by simp) ?_
      refine AllReadyH.cons (o := { dst := some 165, op := Go.Op.call { callee := Go.Callee.builtin Go.Builtin.append, args := #[Go.Operand.tmp 152, Go.Operand.tmp 164], argTypes := #[37, 37] }, type := 37, pos := "run.go:104", after := #[{ on := 4, ground := Go.Ground.data }, { on := 16, ground := Go.Ground.data }], guard := none }) rfl (fun K hK => ?_) AllReadyH.nil
      refine step_append_els rfl _ _ 37 43 _ 2 16 rfl Tryd.underlying37 infoOutR rfl (by decide) (by decide) _ s.out.length (outV s.out) rfl (HO.out _) w1.heap.size 1 [.int .i64 imm, .int .i32 vx] rfl rfl (RowC2.made w1.drew [.int .i64 imm, .int .i32 vx] 43).2 (by simp [Value.oneCell']) (by omega) ?_
      intro p c' w3 hO hgr hd
      obtain ⟨⟨b3, f3, l3⟩, hK3⟩ := (HM.out _).putOut (x := (imm, vx)) (Below.refl _ _) hgr hO hd
      have HK3 := Lib.hid hK3
      clear hK3
      refine hK.out _ _ ?_ (fun hHeld => ?_)
      · exact ⟨(World.cell?_of_block (a := ⟨q.gb, 0, none⟩) (hgr.block _ (by simp; omega) (fun e => (HN.out _ (by first | exact e | exact e.symm)).1 rfl))).trans hHeld.1, (World.cell?_of_block (a := ⟨w.heap.size, 4, none⟩) (hgr.block _ (by simp; omega) (fun e => (HN.out _ (by first | exact e | exact e.symm)).2.1 rfl))).trans hHeld.2.1, (World.cell?_of_block (a := ⟨w.heap.size, 2, none⟩) (hgr.block _ (by simp; omega) (fun e => (HN.out _ (by first | exact e | exact e.symm)).2.1 rfl))).trans hHeld.2.2.1, (World.cell?_of_block (a := ⟨g, xn, none⟩) (hgr.block _ (by simp; omega) (fun e => (HN.out _ (by first | exact e | exact e.symm)).2.2 rfl))).trans hHeld.2.2.2⟩
      clear hK K
      (try simp only [Act.put, List.setIfInBounds_toArray, List.set_cons_zero, List.set_cons_succ])
      refine wpAnyH_take (i := 18) (oi := { dst := some 166, op := Go.Op.nilCheck (Go.Operand.tmp 148), type := 0, pos := "run.go:104", after := #[{ on := 0, ground := Go.Ground.data }, { on := 0, ground := Go.Ground.phase }, { on := 1, ground := Go.Ground.phase }, { on := 2, ground := Go.Ground.phase }, { on := 3, ground := Go.Ground.phase }, { on := 4, ground := Go.Ground.phase }, { on := 5, ground := Go.Ground.phase }, { on := 6, ground := Go.Ground.phase }, { on := 7, ground := Go.Ground.phase }, { on := 8, ground := Go.Ground.phase }, { on := 9, ground := Go.Ground.phase }, { on := 10, ground := Go.Ground.phase }, { on := 11, ground := Go.Ground.phase }, { on := 12, ground := Go.Ground.phase }, { on := 13, ground := Go.Ground.phase }, { on := 14, ground := Go.Ground.phase }, { on := 15, ground := Go.Ground.phase }, { on := 16, ground := Go.Ground.phase }, { on := 17, ground := Go.Ground.phase }], guard := none }) (v := ?_) rfl (by kernel_rfl) (by kernel_rfl) (by kernel_rfl) (fun _ _ _ h => h) (Or.inl ⟨by rfl, ?_⟩) hHeld ?_
      rotate_left
      · intro w hSw; (try dsimp only at hSw); (try obtain ⟨hSw1, hSw2, hSw3, hSw4⟩ := hSw); go_simp; try (with_reducible rfl)
      (try simp only [Act.put, List.setIfInBounds_toArray, List.set_cons_zero, List.set_cons_succ])
      refine wpAnyH_take (i := 19) (oi := { dst := some 167, op := Go.Op.fieldAddr 73 (Go.Operand.tmp 166) 6, type := 0, pos := "run.go:104", after := #[{ on := 18, ground := Go.Ground.data }, { on := 0, ground := Go.Ground.phase }, { on := 1, ground := Go.Ground.phase }, { on := 2, ground := Go.Ground.phase }, { on := 3, ground := Go.Ground.phase }, { on := 4, ground := Go.Ground.phase }, { on := 5, ground := Go.Ground.phase }, { on := 6, ground := Go.Ground.phase }, { on := 7, ground := Go.Ground.phase }, { on := 8, ground := Go.Ground.phase }, { on := 9, ground := Go.Ground.phase }, { on := 10, ground := Go.Ground.phase }, { on := 11, ground := Go.Ground.phase }, { on := 12, ground := Go.Ground.phase }, { on := 13, ground := Go.Ground.phase }, { on := 14, ground := Go.Ground.phase }, { on := 15, ground := Go.Ground.phase }, { on := 16, ground := Go.Ground.phase }, { on := 17, ground := Go.Ground.phase }], guard := none }) (v := ?_) rfl (by kernel_rfl) (by kernel_rfl) (by kernel_rfl) (fun _ _ _ h => h) (Or.inl ⟨by rfl, ?_⟩) hHeld ?_
      rotate_left
      · intro w hSw; (try dsimp only at hSw); (try obtain ⟨hSw1, hSw2, hSw3, hSw4⟩ := hSw); go_simp; try (with_reducible rfl)
      (try simp only [Act.put, List.setIfInBounds_toArray, List.set_cons_zero, List.set_cons_succ])
      refine wpAnyH_ready (rs := [20]) (by kernel_rfl) (by simp) ?_
      refine AllReadyH.cons (o := { dst := none, op := Go.Op.store 37 (Go.Operand.tmp 167) (Go.Operand.tmp 165), type := 0, pos := "run.go:104", after := #[{ on := 19, ground := Go.Ground.data }, { on := 17, ground := Go.Ground.data }, { on := 17, ground := Go.Ground.chain }, { on := 0, ground := Go.Ground.phase }, { on := 1, ground := Go.Ground.phase }, { on := 2, ground := Go.Ground.phase }, { on := 3, ground := Go.Ground.phase }, { on := 4, ground := Go.Ground.phase }, { on := 5, ground := Go.Ground.phase }, { on := 6, ground := Go.Ground.phase }, { on := 7, ground := Go.Ground.phase }, { on := 8, ground := Go.Ground.phase }, { on := 9, ground := Go.Ground.phase }, { on := 10, ground := Go.Ground.phase }, { on := 11, ground := Go.Ground.phase }, { on := 12, ground := Go.Ground.phase }, { on := 13, ground := Go.Ground.phase }, { on := 14, ground := Go.Ground.phase }, { on := 15, ground := Go.Ground.phase }, { on := 16, ground := Go.Ground.phase }, { on := 17, ground := Go.Ground.phase }], guard := none }) rfl (fun K hK => ?_) AllReadyH.nil
      go_simp
      first | (refine hK.out _ _ ?_ (fun hHeld => ?_)) | (go_wp2_with fail; refine hK.out _ _ ?_ (fun hHeld => ?_))
      · exact ⟨(World.cell?_setCell_other _ _ _ _ (by intro e; injection e with _ e; omega)).trans hHeld.1, (World.cell?_setCell_other _ _ _ _ (by intro e; injection e with _ e; omega)).trans hHeld.2.1, (World.cell?_setCell_other _ _ _ _ (by intro e; injection e with _ e; omega)).trans hHeld.2.2.1, (World.cell?_setCell_other _ _ _ _ (by intro e; injection e with e _; exact hne (by first | exact e | exact e.symm))).trans hHeld.2.2.2⟩
      clear hK K
      (try simp only [Act.put, List.setIfInBounds_toArray, List.set_cons_zero, List.set_cons_succ])
      refine wpAnyH_done (by kernel_rfl) ?_ _
      clear hHeld hgr hO hd b3 l3
      go_wp2_with fail
      go_ret
      show InsPost q L s (.ok { s with out := s.out ++ [(imm, s.get (xn : Int))] }) _ _
      rw [HVx.out]
      exact ⟨rfl, Lib.hid (HK3.out.drop.keep (by repeat (first | (with_reducible exact Below.refl _ _) | (with_reducible apply Below.drew) | (with_reducible apply bDrewN))))⟩

set_option maxHeartbeats 3200000 in
set_option maxRecDepth 20000 in
theorem ins11 {q : RK} {L : List (Nat × List Value)} {s : RS} {w : World} (h : RunRel q L s w) (dst x y imm : Int) (sym : ByteArray) :
    Calls Tryd.prog 38 #[.pointer (some ⟨q.gb, 0, none⟩), .agg #[.int .u8 11, .int .i64 dst, .int .i64 x, .int .i64 y, .int .i64 imm, .string sym]] w (InsPost q L s (insR apW q.idx q.inp s ⟨11, dst, x, y, imm, sym⟩)) := by
  have h1 := h.made [.int .u8 11, .int .i64 dst, .int .i64 x, .int .i64 y, .int .i64 imm, .string sym] 59
  clear h
  go_enter Tryd.func38, Tryd.ntmps38
  go_upto_region 28 with fail
  obtain ⟨w1, hw1⟩ : ∃ W, W = w.alloc (.cells #[.int .u8 11, .int .i64 dst, .int .i64 x, .int .i64 y, .int .i64 imm, .string sym] 59) := ⟨_, rfl⟩
  rw [← hw1] at h1 ⊢
  clear hw1
  have r1 := h1.at (b := w.heap.size) (cs := [.int .u8 11, .int .i64 dst, .int .i64 x, .int .i64 y, .int .i64 imm, .string sym]) List.mem_cons_self
  have l1 := r1.lt
  have a1 := r1.at 1 rfl
  have a2 := r1.at 2 rfl
  have a3 := r1.at 3 rfl
  have a4 := r1.at 4 rfl
  have a5 := r1.at 5 rfl
  obtain ⟨col, ov, h1⟩ := h1
  obtain ⟨hl, ⟨c0, cc⟩, ⟨c5, c6, c7⟩, c8, c9, c10, cf⟩ := h1.cells
  have H1 := Lib.hid h1
  clear r1
  have f6 := cf 6
  have f7 := cf 7
  cases hk : s.lck with
  | true =>
    rw [hk] at c6
    go_wp2_with fail
    go_ret
    show InsPost q L s (if s.lck = true then .error 12 else _) _ _
    rw [if_pos hk]
    exact ⟨rfl, Lib.hid (RunRel.drop ⟨_, _, H1.out⟩)⟩
  | false =>
    rw [hk] at c6
    have HP : Hid ((∀ W, Below w1.heap.size w1 W → RunRel q L { s with lck := true, held := sym } ((W.setCell ⟨q.gb, 6, none⟩ (.bool true)).setCell ⟨q.gb, 7, none⟩ (.string sym))) ∧ ∀ W, Below w1.heap.size w1 W → RunRel q L { s with lck := true, held := sym } ((W.setCell ⟨q.gb, 7, none⟩ (.string sym)).setCell ⟨q.gb, 6, none⟩ (.bool true))) :=
      (show _ ∧ _ from ⟨fun W hb => RunRel.drop ⟨_, _, ((H1.out.keep hb).setLck true).setHeld sym⟩, fun W hb => RunRel.drop ⟨_, _, ((H1.out.keep hb).setHeld sym).setLck true⟩⟩)
    go_upto_region 30 with fail
    go_region
    all_goals (
      go_wp2_with fail
      go_ret
      show InsPost q L s (if s.lck = true then .error 12 else .ok { s with lck := true, held := sym }) _ _
      rw [if_neg (by rw [hk]; decide)]
      first
        | exact ⟨rfl, Lib.hid ((HP.out.1 w1 (Below.refl _ _)).keep (by repeat (first | (with_reducible exact Below.refl _ _) | (with_reducible apply Below.drew) | (with_reducible apply bDrewN))))⟩
        | exact ⟨rfl, Lib.hid ((HP.out.2 w1 (Below.refl _ _)).keep (by repeat (first | (with_reducible exact Below.refl _ _) | (with_reducible apply Below.drew) | (with_reducible apply bDrewN))))⟩)

set_option maxHeartbeats 3200000 in
set_option maxRecDepth 20000 in
theorem ins12 {q : RK} {L : List (Nat × List Value)} {s : RS} {w : World} (h : RunRel q L s w) (dst x y imm : Int) (sym : ByteArray) :
    Calls Tryd.prog 38 #[.pointer (some ⟨q.gb, 0, none⟩), .agg #[.int .u8 12, .int .i64 dst, .int .i64 x, .int .i64 y, .int .i64 imm, .string sym]] w (InsPost q L s (insR apW q.idx q.inp s ⟨12, dst, x, y, imm, sym⟩)) := by
  have h1 := h.made [.int .u8 12, .int .i64 dst, .int .i64 x, .int .i64 y, .int .i64 imm, .string sym] 59
  clear h
  go_enter Tryd.func38, Tryd.ntmps38
  go_upto_region 32 with fail
  obtain ⟨w1, hw1⟩ : ∃ W, W = w.alloc (.cells #[.int .u8 12, .int .i64 dst, .int .i64 x, .int .i64 y, .int .i64 imm, .string sym] 59) := ⟨_, rfl⟩
  rw [← hw1] at h1 ⊢
  clear hw1
  have r1 := h1.at (b := w.heap.size) (cs := [.int .u8 12, .int .i64 dst, .int .i64 x, .int .i64 y, .int .i64 imm, .string sym]) List.mem_cons_self
  have l1 := r1.lt
  have a1 := r1.at 1 rfl
  have a2 := r1.at 2 rfl
  have a3 := r1.at 3 rfl
  have a4 := r1.at 4 rfl
  have a5 := r1.at 5 rfl
  obtain ⟨col, ov, h1⟩ := h1
  obtain ⟨hl, ⟨c0, cc⟩, ⟨c5, c6, c7⟩, c8, c9, c10, cf⟩ := h1.cells
  have H1 := Lib.hid h1
  clear r1
  have f6 := cf 6
  have f7 := cf 7
  have HS : Hid (insR apW q.idx q.inp s ⟨12, dst, x, y, imm, sym⟩ = if s.lck = false ∨ s.held ≠ sym then .error 12 else .ok { s with lck := false, held := ⟨#[]⟩ }) := (show _ = _ from rfl)
  cases hk : s.lck with
  | false =>
    rw [hk] at c6
    go_quiet (fail)
    go_wp2_with fail
    go_ret
    rw [HS.out, if_pos (.inl hk)]
    exact ⟨rfl, Lib.hid ((RunRel.drop ⟨_, _, H1.out⟩).keep (by repeat (first | (with_reducible exact Below.refl _ _) | (with_reducible apply Below.drew) | (with_reducible apply bDrewN))))⟩
  | true =>
    rw [hk] at c6
    by_cases he : s.held = sym
    · have HE := Lib.hid he
      rw [he] at c7
      clear he
      go_quiet (fail)
      go_wp2_with fail
      go_ret
      rw [HS.out, if_neg (by rw [hk, HE.out]; simp)]
      exact ⟨rfl, Lib.hid (RunRel.keep (RunRel.drop ⟨_, _, ((H1.out.keep (w' := w1.drewN nq) (by repeat (first | (with_reducible exact Below.refl _ _) | (with_reducible apply Below.drew) | (with_reducible apply bDrewN)))).setLck false).setHeld ⟨#[]⟩⟩) (by repeat (first | (with_reducible exact Below.refl _ _) | (with_reducible apply Below.drew) | (with_reducible apply bDrewN))))⟩
    · have heb : (s.held.toList == sym.toList) = false := bytes_ne he
      go_quiet (fail)
      go_wp2_with fail
      go_ret
      rw [HS.out, if_pos (.inr he)]
      exact ⟨rfl, Lib.hid ((RunRel.drop ⟨_, _, H1.out⟩).keep (by repeat (first | (with_reducible exact Below.refl _ _) | (with_reducible apply Below.drew) | (with_reducible apply bDrewN))))⟩

set_option maxHeartbeats 3200000 in
set_option maxRecDepth 20000 in
theorem ins13 {q : RK} {L : List (Nat × List Value)} {s : RS} {w : World} (h : RunRel q L s w) (dst x y imm : Int) (sym : ByteArray) (him : 0 ≤ imm ∧ imm ≤ 3) :
    Calls Tryd.prog 38 #[.pointer (some ⟨q.gb, 0, none⟩), .agg #[.int .u8 13, .int .i64 dst, .int .i64 x, .int .i64 y, .int .i64 imm, .string sym]] w (InsPost q L s (insR apW q.idx q.inp s ⟨13, dst, x, y, imm, sym⟩)) := by
  obtain ⟨immn, rfl⟩ := Int.eq_ofNat_of_zero_le him.1
  have himn : immn < 4 := by omega
  have himI : (immn : Int) < 4 := by omega
  clear him
  have h1 := h.made [.int .u8 13, .int .i64 dst, .int .i64 x, .int .i64 y, .int .i64 immn, .string sym] 59
  clear h
  go_enter Tryd.func38, Tryd.ntmps38
  go_upto_region 36 with fail
  obtain ⟨w1, hw1⟩ : ∃ W, W = w.alloc (.cells #[.int .u8 13, .int .i64 dst, .int .i64 x, .int .i64 y, .int .i64 immn, .string sym] 59) := ⟨_, rfl⟩
  rw [← hw1] at h1 ⊢
  clear hw1
  have r1 := h1.at (b := w.heap.size) (cs := [.int .u8 13, .int .i64 dst, .int .i64 x, .int .i64 y, .int .i64 immn, .string sym]) List.mem_cons_self
  have l1 := r1.lt
  have a1 := r1.at 1 rfl
  have a2 := r1.at 2 rfl
  have a3 := r1.at 3 rfl
  have a4 := r1.at 4 rfl
  have a5 := r1.at 5 rfl
  obtain ⟨col, ov, h1⟩ := h1
  obtain ⟨hl, ⟨c0, cc⟩, ⟨c5, c6, c7⟩, c8, c9, c10, cf⟩ := h1.cells
  have H1 := Lib.hid h1
  clear r1
  have t := cc immn himn
  have f := cf (1 + immn)
  clear cc
  obtain ⟨vc, hvc⟩ : ∃ v, v = s.ctr.getD immn 0 := ⟨_, rfl⟩
  rw [← hvc] at t
  have HVC := Lib.hid (show s.cnt (immn : Int) = vc from hvc.symm)
  clear hvc
  have HP : Hid (∀ W, Below w1.heap.size w1 W → ∀ v : Int, RunRel q L { s with ctr := s.ctr.set immn v } (W.setCell ⟨q.gb, 1 + immn, none⟩ (.int .i32 v))) := (show ∀ W, _ from fun W hb v => RunRel.drop ⟨_, _, (H1.out.keep hb).setCtr himn v⟩)
  clear h1
  go_region
  all_goals (
    go_wp2_with fail
    go_ret
    show InsPost q L s (.ok { s with ctr := s.ctr.set immn 0 }) _ _
    exact ⟨rfl, Lib.hid ((HP.out w1 (Below.refl _ _) _).keep (by repeat (first | (with_reducible exact Below.refl _ _) | (with_reducible apply Below.drew) | (with_reducible apply bDrewN))))⟩)

set_option maxHeartbeats 3200000 in
set_option maxRecDepth 20000 in
theorem ins14 {q : RK} {L : List (Nat × List Value)} {s : RS} {w : World} (h : RunRel q L s w) (dst x y imm : Int) (sym : ByteArray) (him : 0 ≤ imm ∧ imm ≤ 3) :
    Calls Tryd.prog 38 #[.pointer (some ⟨q.gb, 0, none⟩), .agg #[.int .u8 14, .int .i64 dst, .int .i64 x, .int .i64 y, .int .i64 imm, .string sym]] w (InsPost q L s (insR apW q.idx q.inp s ⟨14, dst, x, y, imm, sym⟩)) := by
  obtain ⟨immn, rfl⟩ := Int.eq_ofNat_of_zero_le him.1
  have himn : immn < 4 := by omega
  have himI : (immn : Int) < 4 := by omega
  clear him
  have h1 := h.made [.int .u8 14, .int .i64 dst, .int .i64 x, .int .i64 y, .int .i64 immn, .string sym] 59
  clear h
  go_enter Tryd.func38, Tryd.ntmps38
  go_upto_region 38 with fail
  obtain ⟨w1, hw1⟩ : ∃ W, W = w.alloc (.cells #[.int .u8 14, .int .i64 dst, .int .i64 x, .int .i64 y, .int .i64 immn, .string sym] 59) := ⟨_, rfl⟩
  rw [← hw1] at h1 ⊢
  clear hw1
  have r1 := h1.at (b := w.heap.size) (cs := [.int .u8 14, .int .i64 dst, .int .i64 x, .int .i64 y, .int .i64 immn, .string sym]) List.mem_cons_self
  have l1 := r1.lt
  have a1 := r1.at 1 rfl
  have a2 := r1.at 2 rfl
  have a3 := r1.at 3 rfl
  have a4 := r1.at 4 rfl
  have a5 := r1.at 5 rfl
  obtain ⟨col, ov, h1⟩ := h1
  obtain ⟨hl, ⟨c0, cc⟩, ⟨c5, c6, c7⟩, c8, c9, c10, cf⟩ := h1.cells
  have H1 := Lib.hid h1
  clear r1
  have t := cc immn himn
  have f := cf (1 + immn)
  clear cc
  obtain ⟨vc, hvc⟩ : ∃ v, v = s.ctr.getD immn 0 := ⟨_, rfl⟩
  rw [← hvc] at t
  have HVC := Lib.hid (show s.cnt (immn : Int) = vc from hvc.symm)
  clear hvc
  have HP : Hid (∀ W, Below w1.heap.size w1 W → ∀ v : Int, RunRel q L { s with ctr := s.ctr.set immn v } (W.setCell ⟨q.gb, 1 + immn, none⟩ (.int .i32 v))) := (show ∀ W, _ from fun W hb v => RunRel.drop ⟨_, _, (H1.out.keep hb).setCtr himn v⟩)
  clear h1
  go_region
  all_goals (
    go_wp2_with fail
    go_ret
    show InsPost q L s (.ok { s with ctr := s.ctr.set immn (wrap32 (s.cnt (immn : Int) + 1)) }) _ _
    rw [HVC.out]
    exact ⟨rfl, Lib.hid ((HP.out w1 (Below.refl _ _) _).keep (by repeat (first | (with_reducible exact Below.refl _ _) | (with_reducible apply Below.drew) | (with_reducible apply bDrewN))))⟩)

set_option maxHeartbeats 3200000 in
set_option maxRecDepth 20000 in
theorem ins15 {q : RK} {L : List (Nat × List Value)} {s : RS} {w : World} (h : RunRel q L s w) (dst x y imm : Int) (sym : ByteArray) (hdst : okR q.R dst = true) (him : 0 ≤ imm ∧ imm ≤ 3) :
    Calls Tryd.prog 38 #[.pointer (some ⟨q.gb, 0, none⟩), .agg #[.int .u8 15, .int .i64 dst, .int .i64 x, .int .i64 y, .int .i64 imm, .string sym]] w (InsPost q L s (insR apW q.idx q.inp s ⟨15, dst, x, y, imm, sym⟩)) := by
  obtain ⟨immn, rfl⟩ := Int.eq_ofNat_of_zero_le him.1
  have himn : immn < 4 := by omega
  have himI : (immn : Int) < 4 := by omega
  clear him
  simp only [okR, decide_eq_true_eq] at hdst
  obtain ⟨dstn, rfl⟩ := Int.eq_ofNat_of_zero_le hdst.1
  have hdstn : dstn < q.R := by omega
  clear hdst
  have h1 := h.made [.int .u8 15, .int .i64 dstn, .int .i64 x, .int .i64 y, .int .i64 immn, .string sym] 59
  clear h
  go_enter Tryd.func38, Tryd.ntmps38
  go_upto_region 40 with fail
  obtain ⟨w1, hw1⟩ : ∃ W, W = w.alloc (.cells #[.int .u8 15, .int .i64 dstn, .int .i64 x, .int .i64 y, .int .i64 immn, .string sym] 59) := ⟨_, rfl⟩
  rw [← hw1] at h1 ⊢
  clear hw1
  have r1 := h1.at (b := w.heap.size) (cs := [.int .u8 15, .int .i64 dstn, .int .i64 x, .int .i64 y, .int .i64 immn, .string sym]) List.mem_cons_self
  have l1 := r1.lt
  have a1 := r1.at 1 rfl
  have a2 := r1.at 2 rfl
  have a3 := r1.at 3 rfl
  have a4 := r1.at 4 rfl
  have a5 := r1.at 5 rfl
  obtain ⟨col, ov, h1⟩ := h1
  obtain ⟨hl, ⟨c0, cc⟩, ⟨c5, c6, c7⟩, c8, c9, c10, cf⟩ := h1.cells
  have H1 := Lib.hid h1
  clear r1
  obtain ⟨g, cap, hrv, hg, hcs, hput⟩ := H1.out.allRegs hdstn
  have HP := Lib.hid hput
  have HRV := Lib.hid hrv
  rw [hrv] at c0
  obtain ⟨vdst, hvdst⟩ : ∃ v, v = s.regs.getD dstn 0 := ⟨_, rfl⟩
  have tdst := (hcs _ hdstn).1
  have fdst := (hcs _ hdstn).2
  rw [← hvdst] at tdst
  have HVdst := Lib.hid (show s.get (dstn : Int) = vdst from hvdst.symm)
  clear hvdst
  clear hput hrv hcs h1
  have t := cc immn himn
  clear cc
  obtain ⟨vc, hvc⟩ : ∃ v, v = s.ctr.getD immn 0 := ⟨_, rfl⟩
  rw [← hvc] at t
  have HVC := Lib.hid (show s.cnt (immn : Int) = vc from hvc.symm)
  clear hvc
  go_region
  all_goals (
    go_wp2_with fail
    go_ret
    show InsPost q L s (.ok (s.set (dstn : Int) (s.cnt (immn : Int)))) _ _
    rw [HVC.out]
    exact ⟨rfl, Lib.hid ((HP.out w1 (Below.refl _ _) dstn hdstn vc).drop.keep (by repeat (first | (with_reducible exact Below.refl _ _) | (with_reducible apply Below.drew) | (with_reducible apply bDrewN))))⟩)

set_option maxHeartbeats 3200000 in
set_option maxRecDepth 20000 in
theorem ins16 {q : RK} {L : List (Nat × List Value)} {s : RS} {w : World} (h : RunRel q L s w) (dst x y imm : Int) (sym : ByteArray) (hx : 0 ≤ x ∧ x ≤ 3) :
    Calls Tryd.prog 38 #[.pointer (some ⟨q.gb, 0, none⟩), .agg #[.int .u8 16, .int .i64 dst, .int .i64 x, .int .i64 y, .int .i64 imm, .string sym]] w (InsPost q L s (insR apW q.idx q.inp s ⟨16, dst, x, y, imm, sym⟩)) := by
  obtain ⟨xn, rfl⟩ := Int.eq_ofNat_of_zero_le hx.1
  have hxn : xn < 4 := by omega
  have hxI : (xn : Int) < 4 := by omega
  clear hx
  have h1 := h.made [.int .u8 16, .int .i64 dst, .int .i64 xn, .int .i64 y, .int .i64 imm, .string sym] 59
  clear h
  go_enter Tryd.func38, Tryd.ntmps38
  go_upto_region 42 with fail
  obtain ⟨w1, hw1⟩ : ∃ W, W = w.alloc (.cells #[.int .u8 16, .int .i64 dst, .int .i64 xn, .int .i64 y, .int .i64 imm, .string sym] 59) := ⟨_, rfl⟩
  rw [← hw1] at h1 ⊢
  clear hw1
  have r1 := h1.at (b := w.heap.size) (cs := [.int .u8 16, .int .i64 dst, .int .i64 xn, .int .i64 y, .int .i64 imm, .string sym]) List.mem_cons_self
  have l1 := r1.lt
  have a1 := r1.at 1 rfl
  have a2 := r1.at 2 rfl
  have a3 := r1.at 3 rfl
  have a4 := r1.at 4 rfl
  have a5 := r1.at 5 rfl
  obtain ⟨col, ov, h1⟩ := h1
  obtain ⟨hl, ⟨c0, cc⟩, ⟨c5, c6, c7⟩, c8, c9, c10, cf⟩ := h1.cells
  have H1 := Lib.hid h1
  clear r1
  have t := cc xn hxn
  clear cc
  obtain ⟨vx, hvx⟩ : ∃ v, v = s.ctr.getD xn 0 := ⟨_, rfl⟩
  rw [← hvx] at t
  have HVx := Lib.hid (show s.cnt (xn : Int) = vx from hvx.symm)
  clear hvx
  have HS : Hid (insR apW q.idx q.inp s ⟨16, dst, (xn : Int), y, imm, sym⟩ = if wrap64 vx < 0 ∨ imm ≤ wrap64 vx then .error 11 else .ok s) := (show _ = _ by
    show (if wrap64 (s.cnt (xn : Int)) < 0 ∨ imm ≤ wrap64 (s.cnt (xn : Int)) then _ else _) = _
    rw [HVx.out])
  go_quiet (fail)
  by_cases h0 : wrap64 vx < 0
  · have h0' : decide (wrap64 vx < 0) = true := by simpa using h0
    go_wp2_with fail
    go_ret
    rw [HS.out, if_pos (.inl h0)]
    exact ⟨rfl, Lib.hid ((RunRel.drop ⟨_, _, H1.out⟩).keep (by repeat (first | (with_reducible exact Below.refl _ _) | (with_reducible apply Below.drew) | (with_reducible apply bDrewN))))⟩
  · have h0' : decide (wrap64 vx < 0) = false := by simpa using h0
    by_cases h2 : imm ≤ wrap64 vx
    · have h2' : decide (wrap64 vx ≥ imm) = true := by simpa using h2
      go_wp2_with fail
      go_ret
      rw [HS.out, if_pos (.inr h2)]
      exact ⟨rfl, Lib.hid ((RunRel.drop ⟨_, _, H1.out⟩).keep (by repeat (first | (with_reducible exact Below.refl _ _) | (with_reducible apply Below.drew) | (with_reducible apply bDrewN))))⟩
    · have h2' : decide (wrap64 vx ≥ imm) = false := by simpa using h2
      go_wp2_with fail
      go_ret
      rw [HS.out, if_neg (by omega)]
      exact ⟨rfl, Lib.hid ((RunRel.drop ⟨_, _, H1.out⟩).keep (by repeat (first | (with_reducible exact Below.refl _ _) | (with_reducible apply Below.drew) | (with_reducible apply bDrewN))))⟩
end Go.Proofs.YtifjcknklecdbaaDoor
