import Derived.Test.YtkcfbonchhidlaaGreatDoorGenH
import Derived.Test.YtkcfbonchhidlaaGreatDoorGenI
set_option linter.unusedVariables false
set_option linter.unusedSimpArgs false
namespace Go.Proofs.YtkcfbonchhidlaaGreatDoor
open Go.RowKit Go.Maps

theorem SzG.read {c : Cfg} {v scr : Int} {g : Gen} {n : Nat} (h : SzG g n) : SzG (readG c v scr g).2 (n + 1) := by
  unfold readG
  split
  · exact h.le (by omega)
  · exact h.emit _
theorem SzG.jump {g : Gen} {n : Nat} (h : SzG g n) (i : GI) (k : Int) : SzG (jumpG i k g) (n + 1) := by
  refine ⟨?_, Nat.le_trans h.2.1 (by omega), ?_⟩
  · show (g.code ++ [i]).length ≤ _
    rw [List.length_append]; have := h.1; simp; omega
  · show (g.brs ++ [_]).length ≤ _
    rw [List.length_append]; have := h.2.2; simp; omega
set_option maxHeartbeats 3200000 in
set_option maxRecDepth 20000 in
theorem end_any {q : GK} {R : List (Nat × List Value)} {g : Gen} {w : World} (h : GenRel q R g w) (hc : CfOk q.c) (cv : Value) (kind : Nat) (x tg els next : Int) (code : List IIns) (hx : kind = 2 → okR q.c.P.length x = true) (hz : SzG g 800000) :
    Calls Tryz.prog 23 #[.pointer (some ⟨q.gb, 0, none⟩), .agg #[cv, .int .u8 kind, .int .i64 x, .int .i64 tg, .int .i64 els], .int .i64 next] w fun e w' => e = .returned (.tuple #[]) ∧ Hid (GenRel q R (endG q.c ⟨code, kind, x, tg, els⟩ next g) w') := by
  have hW := h.made [cv, .int .u8 kind, .int .i64 x, .int .i64 tg, .int .i64 els] 57
  have HZ := Lib.hid hz
  have hz1 := hz.1
  clear h hz
  by_cases h3 : kind = 3
  · have HE : Hid (endG q.c ⟨code, kind, x, tg, els⟩ next g = emitG [⟨1, 0, 0, 0, 0⟩] g) := (show _ = _ from if_pos h3)
    rw [HE.out]
    have f3 : ((kind : Int) == 3) = true := beq_iff_eq.2 (by omega)
    have HG := Lib.hid hW
    clear h3 hx HE hW
    go_enter Tryz.func23, Tryz.ntmps23
    go_upto_region 1 with fail
    obtain ⟨w1, hw1⟩ : ∃ W : World, W = w.alloc (.cells #[cv, .int .u8 kind, .int .i64 x, .int .i64 tg, .int .i64 els] 57) := ⟨_, rfl⟩
    rw [← hw1]
    have HG : Hid (GenRel q ((w.heap.size, [cv, .int .u8 kind, .int .i64 x, .int .i64 tg, .int .i64 els]) :: R) g w1) := by rw [hw1]; exact HG
    clear hw1
    have z0 := HG.out.at (List.mem_cons_self ..)
    have zl := z0.lt
    have z1 := z0.at 1 rfl
    have z2 := z0.at 2 rfl
    have z3 := z0.at 3 rfl
    have z4 := z0.at 4 rfl
    clear z0
    go_wp2_with fail
    refine (emit_any (l := [⟨1, 0, 0, 0, 0⟩]) (HG.out.keep (bAlloc (Nat.le_refl _) (Below.refl _ _))) (GsRd.one _ 1 _ _ _ _ _) (by simp) (by simp; omega)).mono ?_
    rintro e w5 ⟨rfl, HK⟩
    go_wp2_with fail
    try simp only [Exit.inBlock, Exit.then]
    refine bodyPost_ret (results_none rfl _ _ _) rfl ?_
    exact ⟨rfl, HK.out.drop⟩
  · have f3 : ((kind : Int) == 3) = false := beq_eq_false_iff_ne.2 (by omega)
    by_cases h2 : kind = 2 ∧ tg ≠ els
    · have f2 : ((kind : Int) == 2) = true := beq_iff_eq.2 (by omega)
      have fte : (tg == els) = false := beq_eq_false_iff_ne.2 h2.2
      have hxx := hx h2.1
      have HG := Lib.hid hW
      by_cases h4 : tg = next
      · have HE : Hid (endG q.c ⟨code, kind, x, tg, els⟩ next g = jumpG ⟨22, (readG q.c x 1 g).1, 0, 0, 0⟩ els (readG q.c x 1 g).2) := (show _ = _ by unfold endG; rw [if_neg h3, if_pos h2]; exact if_pos h4)
        have f4 : (tg == next) = true := beq_iff_eq.2 h4
        clear h2 h3 h4 hx hW
        go_enter Tryz.func23, Tryz.ntmps23
        go_upto_region 1 with fail
        obtain ⟨w1, hw1⟩ : ∃ W : World, W = w.alloc (.cells #[cv, .int .u8 kind, .int .i64 x, .int .i64 tg, .int .i64 els] 57) := ⟨_, rfl⟩
        rw [← hw1]
        have HG : Hid (GenRel q ((w.heap.size, [cv, .int .u8 kind, .int .i64 x, .int .i64 tg, .int .i64 els]) :: R) g w1) := by rw [hw1]; exact HG
        clear hw1
        have z0 := HG.out.at (List.mem_cons_self ..)
        have zl := z0.lt
        have z1 := z0.at 1 rfl
        have z2 := z0.at 2 rfl
        have z3 := z0.at 3 rfl
        have z4 := z0.at 4 rfl
        clear z0
        go_wp2_with fail
        refine (read_any HG.out hc hxx 1 (HZ.out.le (by decide))).mono ?_
        rintro e w2 ⟨rfl, H2⟩
        clear zl z1 z2 z3 z4
        have HZ2 := Lib.hid (HZ.out.read (c := q.c) (v := x) (scr := 1))
        have r0 := H2.out.at (List.mem_cons_self ..)
        have l0 := r0.lt
        have a1 := r0.at 1 rfl
        have a2 := r0.at 2 rfl
        have a3 := r0.at 3 rfl
        have a4 := r0.at 4 rfl
        clear r0
        generalize readG q.c x 1 g = X at H2 HZ2 HE ⊢
        obtain ⟨X, g2⟩ := X
        simp only at H2 HZ2 HE ⊢
        go_wp2_with fail
        refine (jump_any H2.out 22 X 0 0 0 els (HZ2.out.le (by decide))).mono ?_
        rintro e w5 ⟨rfl, HK⟩
        go_wp2_with fail
        try simp only [Exit.inBlock, Exit.then]
        refine bodyPost_ret (results_none rfl _ _ _) rfl ?_
        exact ⟨rfl, by rw [HE.out]; exact HK.out.drop⟩
      · have f4 : (tg == next) = false := beq_eq_false_iff_ne.2 h4
        have HE : Hid (endG q.c ⟨code, kind, x, tg, els⟩ next g = if els ≠ next then jumpG ⟨24, 0, 0, 0, 0⟩ els (jumpG ⟨23, (readG q.c x 1 g).1, 0, 0, 0⟩ tg (readG q.c x 1 g).2) else jumpG ⟨23, (readG q.c x 1 g).1, 0, 0, 0⟩ tg (readG q.c x 1 g).2) := (show _ = _ by unfold endG; rw [if_neg h3, if_pos h2]; exact if_neg h4)
        clear h2 h3 h4 hx hW
        go_enter Tryz.func23, Tryz.ntmps23
        go_upto_region 1 with fail
        obtain ⟨w1, hw1⟩ : ∃ W : World, W = w.alloc (.cells #[cv, .int .u8 kind, .int .i64 x, .int .i64 tg, .int .i64 els] 57) := ⟨_, rfl⟩
        rw [← hw1]
        have HG : Hid (GenRel q ((w.heap.size, [cv, .int .u8 kind, .int .i64 x, .int .i64 tg, .int .i64 els]) :: R) g w1) := by rw [hw1]; exact HG
        clear hw1
        have z0 := HG.out.at (List.mem_cons_self ..)
        have zl := z0.lt
        have z1 := z0.at 1 rfl
        have z2 := z0.at 2 rfl
        have z3 := z0.at 3 rfl
        have z4 := z0.at 4 rfl
        clear z0
        go_wp2_with fail
        refine (read_any HG.out hc hxx 1 (HZ.out.le (by decide))).mono ?_
        rintro e w2 ⟨rfl, H2⟩
        clear zl z1 z2 z3 z4
        have HZ2 := Lib.hid (HZ.out.read (c := q.c) (v := x) (scr := 1))
        have r0 := H2.out.at (List.mem_cons_self ..)
        have l0 := r0.lt
        have a1 := r0.at 1 rfl
        have a2 := r0.at 2 rfl
        have a3 := r0.at 3 rfl
        have a4 := r0.at 4 rfl
        clear r0
        generalize readG q.c x 1 g = X at H2 HZ2 HE ⊢
        obtain ⟨X, g2⟩ := X
        simp only at H2 HZ2 HE ⊢
        go_wp2_with fail
        refine (jump_any H2.out 23 X 0 0 0 tg (HZ2.out.le (by decide))).mono ?_
        rintro e w5 ⟨rfl, HK⟩
        have HZ3 := Lib.hid (HZ2.out.jump ⟨23, X, 0, 0, 0⟩ tg)
        have r0 := HK.out.at (List.mem_cons_self ..)
        have m0 := r0.lt
        have b3 := r0.at 3 rfl
        have b4 := r0.at 4 rfl
        clear r0 l0 a1 a2 a3 a4
        generalize jumpG ⟨23, X, 0, 0, 0⟩ tg g2 = g3 at HK HZ3 HE ⊢
        by_cases h5 : els = next
        · have HE5 := Lib.hid (HE.out.trans (if_neg (not_not_intro h5)))
          have f5 : (els == next) = true := beq_iff_eq.2 h5
          clear h5
          go_wp2_with fail
          go_end0
          exact ⟨rfl, by rw [HE5.out]; exact HK.out.drop⟩
        · have HE5 := Lib.hid (HE.out.trans (if_pos h5))
          have f5 : (els == next) = false := beq_eq_false_iff_ne.2 h5
          clear h5
          go_wp2_with fail
          refine (jump_any HK.out 24 0 0 0 0 els (HZ3.out.le (by decide))).mono ?_
          rintro e w6 ⟨rfl, HK6⟩
          go_wp2_with fail
          go_end0
          exact ⟨rfl, by rw [HE5.out]; exact HK6.out.drop⟩
    · have HE : Hid (endG q.c ⟨code, kind, x, tg, els⟩ next g = if tg ≠ next then jumpG ⟨24, 0, 0, 0, 0⟩ tg g else g) := (show _ = _ by unfold endG; rw [if_neg h3, if_neg h2])
      rw [HE.out]
      have HG := Lib.hid hW
      have hcs : ((kind : Int) == 2) = false ∨ (((kind : Int) == 2) = true ∧ (tg == els) = true) := by
        by_cases e : kind = 2
        · exact .inr ⟨beq_iff_eq.2 (by omega), beq_iff_eq.2 (Classical.byContradiction fun h => h2 ⟨e, h⟩)⟩
        · exact .inl (beq_eq_false_iff_ne.2 (by omega))
      clear h2 h3 HE hx hW
      by_cases h5 : tg = next
      · rw [if_neg (by simpa using h5)]
        have f5 : (tg == next) = true := beq_iff_eq.2 h5
        clear h5
        rcases hcs with f2 | ⟨f2, fte⟩
        all_goals (
          go_enter Tryz.func23, Tryz.ntmps23
          go_upto_region 1 with fail
          obtain ⟨w1, hw1⟩ : ∃ W : World, W = w.alloc (.cells #[cv, .int .u8 kind, .int .i64 x, .int .i64 tg, .int .i64 els] 57) := ⟨_, rfl⟩
          rw [← hw1]
          have HG : Hid (GenRel q ((w.heap.size, [cv, .int .u8 kind, .int .i64 x, .int .i64 tg, .int .i64 els]) :: R) g w1) := by rw [hw1]; exact HG
          clear hw1
          have z0 := HG.out.at (List.mem_cons_self ..)
          have zl := z0.lt
          have z1 := z0.at 1 rfl
          have z2 := z0.at 2 rfl
          have z3 := z0.at 3 rfl
          have z4 := z0.at 4 rfl
          clear z0
          go_wp2_with fail
          go_end0
          exact ⟨rfl, HG.out.drop⟩)
      · rw [if_pos h5]
        have f5 : (tg == next) = false := beq_eq_false_iff_ne.2 h5
        clear h5
        rcases hcs with f2 | ⟨f2, fte⟩
        all_goals (
          go_enter Tryz.func23, Tryz.ntmps23
          go_upto_region 1 with fail
          obtain ⟨w1, hw1⟩ : ∃ W : World, W = w.alloc (.cells #[cv, .int .u8 kind, .int .i64 x, .int .i64 tg, .int .i64 els] 57) := ⟨_, rfl⟩
          rw [← hw1]
          have HG : Hid (GenRel q ((w.heap.size, [cv, .int .u8 kind, .int .i64 x, .int .i64 tg, .int .i64 els]) :: R) g w1) := by rw [hw1]; exact HG
          clear hw1
          have z0 := HG.out.at (List.mem_cons_self ..)
          have zl := z0.lt
          have z1 := z0.at 1 rfl
          have z2 := z0.at 2 rfl
          have z3 := z0.at 3 rfl
          have z4 := z0.at 4 rfl
          clear z0
          go_wp2_with fail
          refine (jump_any HG.out 24 0 0 0 0 tg (HZ.out.le (by decide))).mono ?_
          rintro e w6 ⟨rfl, HK6⟩
          go_wp2_with fail
          go_end0
          exact ⟨rfl, HK6.out.drop⟩)
end Go.Proofs.YtkcfbonchhidlaaGreatDoor

set_option linter.unusedVariables false
set_option linter.unusedSimpArgs false
namespace Go.Proofs.YtkcfbonchhidlaaGreatDoor
open Go.RowKit Go.Maps

def InsPost (q : GK) (R : List (Nat × List Value)) (i : IIns) (g : Gen) (e : Ending) (w' : World) : Prop := e = .returned (.tuple #[]) ∧ Hid (GenRel q R (insG q.c i g) w')
theorem SzG.refer {g : Gen} {n : Nat} (h : SzG g n) (i : GI) (nm : ByteArray) : SzG (referG i nm g) (n + 1) := by
  refine ⟨?_, ?_, Nat.le_trans h.2.2 (by omega)⟩
  · show (g.code ++ [i]).length ≤ _
    rw [List.length_append]; have := h.1; simp; omega
  · show (g.refs ++ [_]).length ≤ _
    rw [List.length_append]; have := h.2.1; simp; omega
theorem constG_len (r n : Int) : (constG r n).length ≤ 3 := by
  unfold constG
  split
  · simp
  · split <;> simp
theorem operG_len (k : Nat) (r x y : Int) : (operG k r x y).length ≤ 4 := by
  unfold operG
  repeat' split
  all_goals simp

set_option maxHeartbeats 3200000 in
set_option maxRecDepth 20000 in
theorem ins1_any {q : GK} {R : List (Nat × List Value)} {g : Gen} {w : World} (h : GenRel q R g w) (hc : CfOk q.c) (dst x y imm : Int) (sym : ByteArray) (hd : okR q.c.P.length dst = true) (hb : -2147483648 ≤ imm ∧ imm ≤ 2147483647) (hz : SzG g 800000) :
    Calls Tryz.prog 22 #[.pointer (some ⟨q.gb, 0, none⟩), .agg #[.int .u8 1, .int .i64 dst, .int .i64 x, .int .i64 y, .int .i64 imm, .string sym]] w (InsPost q R ⟨1, dst, x, y, imm, sym⟩ g) := by
  have HE : Hid (insG q.c ⟨1, dst, x, y, imm, sym⟩ g = writeG q.c dst (fun r => emitG (constG r imm)) g) := (show _ = _ by unfold insG; rfl)
  have hW := (h.made [.pointer (some ⟨q.gb, 0, none⟩)] 91).made [.int .u8 1, .int .i64 dst, .int .i64 x, .int .i64 y, .int .i64 imm, .string sym] 54
  rw [show (w.alloc (.cells ([.pointer (some ⟨q.gb, 0, none⟩)] : List Value).toArray 91)).heap.size = w.heap.size + 1 by simp] at hW
  have HZ := Lib.hid hz
  clear h hz
  go_enter Tryz.func22, Tryz.ntmps22
  go_upto_region 1 with fail
  obtain ⟨w1, hw1⟩ : ∃ W : World, W = (w.alloc (.cells #[.pointer (some ⟨q.gb, 0, none⟩)] 91)).alloc (.cells #[.int .u8 1, .int .i64 dst, .int .i64 x, .int .i64 y, .int .i64 imm, .string sym] 54) := ⟨_, rfl⟩
  rw [← hw1]
  have hW : GenRel q ((w.heap.size + 1, [.int .u8 1, .int .i64 dst, .int .i64 x, .int .i64 y, .int .i64 imm, .string sym]) :: (w.heap.size, [.pointer (some ⟨q.gb, 0, none⟩)]) :: R) g w1 := by rw [hw1]; exact hW
  have HG := Lib.hid hW
  clear hw1 hW
  have ra0 := HG.out.at (List.mem_cons_self ..)
  have la0 := ra0.lt
  have a0_0 := ra0.at 0 rfl
  have a0_1 := ra0.at 1 rfl
  have a0_2 := ra0.at 2 rfl
  have a0_3 := ra0.at 3 rfl
  have a0_4 := ra0.at 4 rfl
  have a0_5 := ra0.at 5 rfl
  clear ra0
  have rb0 := HG.out.at (List.mem_cons_of_mem _ (List.mem_cons_self ..))
  have lb0 := rb0.lt
  have b0_0 := rb0.at 0 rfl
  clear rb0
  go_wp2_with fail
  refine (write_any HG.out hc hd (fun r => emitG (constG r imm)) 34 #[.pointer (some ⟨w.heap.size, 0, none⟩), .pointer (some ⟨w.heap.size + 1, 0, none⟩)] (enters_of Tryz.func34 (by kernel_rfl) rfl) (fun r R' w1 hs hr h1 => by simpa using clo1_any h1 (hs _ (List.mem_cons_of_mem _ (List.mem_cons_self ..))) (hs _ (List.mem_cons_self ..)) r hr hb (HZ.out.le (by decide))) (fun r => (HZ.out.emit _).le (by have := constG_len r imm; omega))).mono ?_
  rintro e we ⟨rfl, HK⟩
  clear la0 a0_0 a0_1 a0_2 a0_3 a0_4 a0_5 lb0 b0_0
  go_wp2_with fail
  go_end0
  exact ⟨rfl, by rw [HE.out]; exact HK.out.drop.drop⟩

set_option maxHeartbeats 3200000 in
set_option maxRecDepth 20000 in
theorem ins9_any {q : GK} {R : List (Nat × List Value)} {g : Gen} {w : World} (h : GenRel q R g w) (hc : CfOk q.c) (dst x y imm : Int) (sym : ByteArray) (hd : okR q.c.P.length dst = true) (hz : SzG g 800000) :
    Calls Tryz.prog 22 #[.pointer (some ⟨q.gb, 0, none⟩), .agg #[.int .u8 9, .int .i64 dst, .int .i64 x, .int .i64 y, .int .i64 imm, .string sym]] w (InsPost q R ⟨9, dst, x, y, imm, sym⟩ g) := by
  have HE : Hid (insG q.c ⟨9, dst, x, y, imm, sym⟩ g = writeG q.c dst (fun r => emitG [⟨26, r, 0, 0, imm⟩]) g) := (show _ = _ by unfold insG; rfl)
  have hW := (h.made [.pointer (some ⟨q.gb, 0, none⟩)] 91).made [.int .u8 9, .int .i64 dst, .int .i64 x, .int .i64 y, .int .i64 imm, .string sym] 54
  rw [show (w.alloc (.cells ([.pointer (some ⟨q.gb, 0, none⟩)] : List Value).toArray 91)).heap.size = w.heap.size + 1 by simp] at hW
  have HZ := Lib.hid hz
  clear h hz
  go_enter Tryz.func22, Tryz.ntmps22
  go_upto_region 1 with fail
  obtain ⟨w1, hw1⟩ : ∃ W : World, W = (w.alloc (.cells #[.pointer (some ⟨q.gb, 0, none⟩)] 91)).alloc (.cells #[.int .u8 9, .int .i64 dst, .int .i64 x, .int .i64 y, .int .i64 imm, .string sym] 54) := ⟨_, rfl⟩
  rw [← hw1]
  have hW : GenRel q ((w.heap.size + 1, [.int .u8 9, .int .i64 dst, .int .i64 x, .int .i64 y, .int .i64 imm, .string sym]) :: (w.heap.size, [.pointer (some ⟨q.gb, 0, none⟩)]) :: R) g w1 := by rw [hw1]; exact hW
  have HG := Lib.hid hW
  clear hw1 hW
  have ra0 := HG.out.at (List.mem_cons_self ..)
  have la0 := ra0.lt
  have a0_0 := ra0.at 0 rfl
  have a0_1 := ra0.at 1 rfl
  have a0_2 := ra0.at 2 rfl
  have a0_3 := ra0.at 3 rfl
  have a0_4 := ra0.at 4 rfl
  have a0_5 := ra0.at 5 rfl
  clear ra0
  have rb0 := HG.out.at (List.mem_cons_of_mem _ (List.mem_cons_self ..))
  have lb0 := rb0.lt
  have b0_0 := rb0.at 0 rfl
  clear rb0
  go_wp2_with fail
  refine (write_any HG.out hc hd (fun r => emitG [⟨26, r, 0, 0, imm⟩]) 42 #[.pointer (some ⟨w.heap.size, 0, none⟩), .pointer (some ⟨w.heap.size + 1, 0, none⟩)] (enters_of Tryz.func42 (by kernel_rfl) rfl) (fun r R' w1 hs hr h1 => by simpa using clo5_any h1 (hs _ (List.mem_cons_of_mem _ (List.mem_cons_self ..))) (hs _ (List.mem_cons_self ..)) r (HZ.out.le (by decide))) (fun r => (HZ.out.emit _).le (by simp))).mono ?_
  rintro e we ⟨rfl, HK⟩
  clear la0 a0_0 a0_1 a0_2 a0_3 a0_4 a0_5 lb0 b0_0
  go_wp2_with fail
  go_end0
  exact ⟨rfl, by rw [HE.out]; exact HK.out.drop.drop⟩

set_option maxHeartbeats 3200000 in
set_option maxRecDepth 20000 in
theorem ins15_any {q : GK} {R : List (Nat × List Value)} {g : Gen} {w : World} (h : GenRel q R g w) (hc : CfOk q.c) (dst x y imm : Int) (sym : ByteArray) (hd : okR q.c.P.length dst = true) (hb : 0 ≤ imm ∧ imm ≤ 1000) (hz : SzG g 800000) :
    Calls Tryz.prog 22 #[.pointer (some ⟨q.gb, 0, none⟩), .agg #[.int .u8 15, .int .i64 dst, .int .i64 x, .int .i64 y, .int .i64 imm, .string sym]] w (InsPost q R ⟨15, dst, x, y, imm, sym⟩ g) := by
  have HE : Hid (insG q.c ⟨15, dst, x, y, imm, sym⟩ g = writeG q.c dst (fun r => emitG [⟨15, r, 10 + imm, 0, 0⟩]) g) := (show _ = _ by unfold insG; rfl)
  have hW := (h.made [.pointer (some ⟨q.gb, 0, none⟩)] 91).made [.int .u8 15, .int .i64 dst, .int .i64 x, .int .i64 y, .int .i64 imm, .string sym] 54
  rw [show (w.alloc (.cells ([.pointer (some ⟨q.gb, 0, none⟩)] : List Value).toArray 91)).heap.size = w.heap.size + 1 by simp] at hW
  have HZ := Lib.hid hz
  clear h hz
  go_enter Tryz.func22, Tryz.ntmps22
  go_upto_region 1 with fail
  obtain ⟨w1, hw1⟩ : ∃ W : World, W = (w.alloc (.cells #[.pointer (some ⟨q.gb, 0, none⟩)] 91)).alloc (.cells #[.int .u8 15, .int .i64 dst, .int .i64 x, .int .i64 y, .int .i64 imm, .string sym] 54) := ⟨_, rfl⟩
  rw [← hw1]
  have hW : GenRel q ((w.heap.size + 1, [.int .u8 15, .int .i64 dst, .int .i64 x, .int .i64 y, .int .i64 imm, .string sym]) :: (w.heap.size, [.pointer (some ⟨q.gb, 0, none⟩)]) :: R) g w1 := by rw [hw1]; exact hW
  have HG := Lib.hid hW
  clear hw1 hW
  have ra0 := HG.out.at (List.mem_cons_self ..)
  have la0 := ra0.lt
  have a0_0 := ra0.at 0 rfl
  have a0_1 := ra0.at 1 rfl
  have a0_2 := ra0.at 2 rfl
  have a0_3 := ra0.at 3 rfl
  have a0_4 := ra0.at 4 rfl
  have a0_5 := ra0.at 5 rfl
  clear ra0
  have rb0 := HG.out.at (List.mem_cons_of_mem _ (List.mem_cons_self ..))
  have lb0 := rb0.lt
  have b0_0 := rb0.at 0 rfl
  clear rb0
  go_wp2_with fail
  refine (write_any HG.out hc hd (fun r => emitG [⟨15, r, 10 + imm, 0, 0⟩]) 43 #[.pointer (some ⟨w.heap.size, 0, none⟩), .pointer (some ⟨w.heap.size + 1, 0, none⟩)] (enters_of Tryz.func43 (by kernel_rfl) rfl) (fun r R' w1 hs hr h1 => by simpa using clo6_any h1 (hs _ (List.mem_cons_of_mem _ (List.mem_cons_self ..))) (hs _ (List.mem_cons_self ..)) r hb (HZ.out.le (by decide))) (fun r => (HZ.out.emit _).le (by simp))).mono ?_
  rintro e we ⟨rfl, HK⟩
  clear la0 a0_0 a0_1 a0_2 a0_3 a0_4 a0_5 lb0 b0_0
  go_wp2_with fail
  go_end0
  exact ⟨rfl, by rw [HE.out]; exact HK.out.drop.drop⟩

set_option maxHeartbeats 3200000 in
set_option maxRecDepth 20000 in
theorem ins11_any {q : GK} {R : List (Nat × List Value)} {g : Gen} {w : World} (h : GenRel q R g w) (hc : CfOk q.c) (dst x y imm : Int) (sym : ByteArray)  (hz : SzG g 800000) :
    Calls Tryz.prog 22 #[.pointer (some ⟨q.gb, 0, none⟩), .agg #[.int .u8 11, .int .i64 dst, .int .i64 x, .int .i64 y, .int .i64 imm, .string sym]] w (InsPost q R ⟨11, dst, x, y, imm, sym⟩ g) := by
  have HE : Hid (insG q.c ⟨11, dst, x, y, imm, sym⟩ g = referG ⟨28, 0, 0, 0, 0⟩ sym g) := (show _ = _ by unfold insG; rfl)
  have hW := (h.made [.pointer (some ⟨q.gb, 0, none⟩)] 91).made [.int .u8 11, .int .i64 dst, .int .i64 x, .int .i64 y, .int .i64 imm, .string sym] 54
  rw [show (w.alloc (.cells ([.pointer (some ⟨q.gb, 0, none⟩)] : List Value).toArray 91)).heap.size = w.heap.size + 1 by simp] at hW
  have HZ := Lib.hid hz
  clear h hz
  go_enter Tryz.func22, Tryz.ntmps22
  go_upto_region 1 with fail
  obtain ⟨w1, hw1⟩ : ∃ W : World, W = (w.alloc (.cells #[.pointer (some ⟨q.gb, 0, none⟩)] 91)).alloc (.cells #[.int .u8 11, .int .i64 dst, .int .i64 x, .int .i64 y, .int .i64 imm, .string sym] 54) := ⟨_, rfl⟩
  rw [← hw1]
  have hW : GenRel q ((w.heap.size + 1, [.int .u8 11, .int .i64 dst, .int .i64 x, .int .i64 y, .int .i64 imm, .string sym]) :: (w.heap.size, [.pointer (some ⟨q.gb, 0, none⟩)]) :: R) g w1 := by rw [hw1]; exact hW
  have HG := Lib.hid hW
  clear hw1 hW
  have ra0 := HG.out.at (List.mem_cons_self ..)
  have la0 := ra0.lt
  have a0_0 := ra0.at 0 rfl
  have a0_1 := ra0.at 1 rfl
  have a0_2 := ra0.at 2 rfl
  have a0_3 := ra0.at 3 rfl
  have a0_4 := ra0.at 4 rfl
  have a0_5 := ra0.at 5 rfl
  clear ra0
  have rb0 := HG.out.at (List.mem_cons_of_mem _ (List.mem_cons_self ..))
  have lb0 := rb0.lt
  have b0_0 := rb0.at 0 rfl
  clear rb0
  go_wp2_with fail
  refine (refer_any HG.out (op := 28) (.inr (.inr (.inl rfl))) 0 0 0 0 sym (HZ.out.le (by decide))).mono ?_
  rintro e we ⟨rfl, HK⟩
  clear la0 a0_0 a0_1 a0_2 a0_3 a0_4 a0_5 lb0 b0_0
  go_wp2_with fail
  go_end0
  exact ⟨rfl, by rw [HE.out]; exact HK.out.drop.drop⟩

set_option maxHeartbeats 3200000 in
set_option maxRecDepth 20000 in
theorem ins12_any {q : GK} {R : List (Nat × List Value)} {g : Gen} {w : World} (h : GenRel q R g w) (hc : CfOk q.c) (dst x y imm : Int) (sym : ByteArray)  (hz : SzG g 800000) :
    Calls Tryz.prog 22 #[.pointer (some ⟨q.gb, 0, none⟩), .agg #[.int .u8 12, .int .i64 dst, .int .i64 x, .int .i64 y, .int .i64 imm, .string sym]] w (InsPost q R ⟨12, dst, x, y, imm, sym⟩ g) := by
  have HE : Hid (insG q.c ⟨12, dst, x, y, imm, sym⟩ g = referG ⟨29, 0, 0, 0, 0⟩ sym g) := (show _ = _ by unfold insG; rfl)
  have hW := (h.made [.pointer (some ⟨q.gb, 0, none⟩)] 91).made [.int .u8 12, .int .i64 dst, .int .i64 x, .int .i64 y, .int .i64 imm, .string sym] 54
  rw [show (w.alloc (.cells ([.pointer (some ⟨q.gb, 0, none⟩)] : List Value).toArray 91)).heap.size = w.heap.size + 1 by simp] at hW
  have HZ := Lib.hid hz
  clear h hz
  go_enter Tryz.func22, Tryz.ntmps22
  go_upto_region 1 with fail
  obtain ⟨w1, hw1⟩ : ∃ W : World, W = (w.alloc (.cells #[.pointer (some ⟨q.gb, 0, none⟩)] 91)).alloc (.cells #[.int .u8 12, .int .i64 dst, .int .i64 x, .int .i64 y, .int .i64 imm, .string sym] 54) := ⟨_, rfl⟩
  rw [← hw1]
  have hW : GenRel q ((w.heap.size + 1, [.int .u8 12, .int .i64 dst, .int .i64 x, .int .i64 y, .int .i64 imm, .string sym]) :: (w.heap.size, [.pointer (some ⟨q.gb, 0, none⟩)]) :: R) g w1 := by rw [hw1]; exact hW
  have HG := Lib.hid hW
  clear hw1 hW
  have ra0 := HG.out.at (List.mem_cons_self ..)
  have la0 := ra0.lt
  have a0_0 := ra0.at 0 rfl
  have a0_1 := ra0.at 1 rfl
  have a0_2 := ra0.at 2 rfl
  have a0_3 := ra0.at 3 rfl
  have a0_4 := ra0.at 4 rfl
  have a0_5 := ra0.at 5 rfl
  clear ra0
  have rb0 := HG.out.at (List.mem_cons_of_mem _ (List.mem_cons_self ..))
  have lb0 := rb0.lt
  have b0_0 := rb0.at 0 rfl
  clear rb0
  go_wp2_with fail
  refine (refer_any HG.out (op := 29) (.inr (.inr (.inr rfl))) 0 0 0 0 sym (HZ.out.le (by decide))).mono ?_
  rintro e we ⟨rfl, HK⟩
  clear la0 a0_0 a0_1 a0_2 a0_3 a0_4 a0_5 lb0 b0_0
  go_wp2_with fail
  go_end0
  exact ⟨rfl, by rw [HE.out]; exact HK.out.drop.drop⟩

set_option maxHeartbeats 3200000 in
set_option maxRecDepth 20000 in
theorem ins13_any {q : GK} {R : List (Nat × List Value)} {g : Gen} {w : World} (h : GenRel q R g w) (hc : CfOk q.c) (dst x y imm : Int) (sym : ByteArray) (hb : 0 ≤ imm ∧ imm ≤ 1000) (hz : SzG g 800000) :
    Calls Tryz.prog 22 #[.pointer (some ⟨q.gb, 0, none⟩), .agg #[.int .u8 13, .int .i64 dst, .int .i64 x, .int .i64 y, .int .i64 imm, .string sym]] w (InsPost q R ⟨13, dst, x, y, imm, sym⟩ g) := by
  have HE : Hid (insG q.c ⟨13, dst, x, y, imm, sym⟩ g = emitG [⟨14, 10 + imm, 0, 0, 0⟩] g) := (show _ = _ by unfold insG; rfl)
  have hW := (h.made [.pointer (some ⟨q.gb, 0, none⟩)] 91).made [.int .u8 13, .int .i64 dst, .int .i64 x, .int .i64 y, .int .i64 imm, .string sym] 54
  rw [show (w.alloc (.cells ([.pointer (some ⟨q.gb, 0, none⟩)] : List Value).toArray 91)).heap.size = w.heap.size + 1 by simp] at hW
  have HZ := Lib.hid hz
  clear h hz
  go_enter Tryz.func22, Tryz.ntmps22
  go_upto_region 1 with fail
  obtain ⟨w1, hw1⟩ : ∃ W : World, W = (w.alloc (.cells #[.pointer (some ⟨q.gb, 0, none⟩)] 91)).alloc (.cells #[.int .u8 13, .int .i64 dst, .int .i64 x, .int .i64 y, .int .i64 imm, .string sym] 54) := ⟨_, rfl⟩
  rw [← hw1]
  have hW : GenRel q ((w.heap.size + 1, [.int .u8 13, .int .i64 dst, .int .i64 x, .int .i64 y, .int .i64 imm, .string sym]) :: (w.heap.size, [.pointer (some ⟨q.gb, 0, none⟩)]) :: R) g w1 := by rw [hw1]; exact hW
  have HG := Lib.hid hW
  clear hw1 hW
  have ra0 := HG.out.at (List.mem_cons_self ..)
  have la0 := ra0.lt
  have a0_0 := ra0.at 0 rfl
  have a0_1 := ra0.at 1 rfl
  have a0_2 := ra0.at 2 rfl
  have a0_3 := ra0.at 3 rfl
  have a0_4 := ra0.at 4 rfl
  have a0_5 := ra0.at 5 rfl
  clear ra0
  have rb0 := HG.out.at (List.mem_cons_of_mem _ (List.mem_cons_self ..))
  have lb0 := rb0.lt
  have b0_0 := rb0.at 0 rfl
  clear rb0
  have hwr : IntKind.i64.wrap (10 + imm) = 10 + imm := IntWalk.i64_in _ (by omega)
  go_wp2_with fail
  refine (emit_any (l := [⟨14, 10 + imm, 0, 0, 0⟩]) (HG.out.keep (by repeat (first | (with_reducible exact Below.refl _ _) | (with_reducible apply Below.drew) | ((with_reducible apply bAlloc); (focus first | (exact Nat.le_refl _) | (simp; done) | (simp; omega)))))) (GsRd.one _ 14 _ _ _ _ _) (by simp) (by have := HZ.out.1; simp; omega)).mono ?_
  rintro e we ⟨rfl, HK⟩
  clear la0 a0_0 a0_1 a0_2 a0_3 a0_4 a0_5 lb0 b0_0
  go_wp2_with fail
  go_end0
  exact ⟨rfl, by rw [HE.out]; exact HK.out.drop.drop⟩

set_option maxHeartbeats 3200000 in
set_option maxRecDepth 20000 in
theorem ins14_any {q : GK} {R : List (Nat × List Value)} {g : Gen} {w : World} (h : GenRel q R g w) (hc : CfOk q.c) (dst x y imm : Int) (sym : ByteArray) (hb : 0 ≤ imm ∧ imm ≤ 1000) (hz : SzG g 800000) :
    Calls Tryz.prog 22 #[.pointer (some ⟨q.gb, 0, none⟩), .agg #[.int .u8 14, .int .i64 dst, .int .i64 x, .int .i64 y, .int .i64 imm, .string sym]] w (InsPost q R ⟨14, dst, x, y, imm, sym⟩ g) := by
  have HE : Hid (insG q.c ⟨14, dst, x, y, imm, sym⟩ g = emitG [⟨15, 10 + imm, 10 + imm, 0, 1⟩] g) := (show _ = _ by unfold insG; rfl)
  have hW := (h.made [.pointer (some ⟨q.gb, 0, none⟩)] 91).made [.int .u8 14, .int .i64 dst, .int .i64 x, .int .i64 y, .int .i64 imm, .string sym] 54
  rw [show (w.alloc (.cells ([.pointer (some ⟨q.gb, 0, none⟩)] : List Value).toArray 91)).heap.size = w.heap.size + 1 by simp] at hW
  have HZ := Lib.hid hz
  clear h hz
  go_enter Tryz.func22, Tryz.ntmps22
  go_upto_region 1 with fail
  obtain ⟨w1, hw1⟩ : ∃ W : World, W = (w.alloc (.cells #[.pointer (some ⟨q.gb, 0, none⟩)] 91)).alloc (.cells #[.int .u8 14, .int .i64 dst, .int .i64 x, .int .i64 y, .int .i64 imm, .string sym] 54) := ⟨_, rfl⟩
  rw [← hw1]
  have hW : GenRel q ((w.heap.size + 1, [.int .u8 14, .int .i64 dst, .int .i64 x, .int .i64 y, .int .i64 imm, .string sym]) :: (w.heap.size, [.pointer (some ⟨q.gb, 0, none⟩)]) :: R) g w1 := by rw [hw1]; exact hW
  have HG := Lib.hid hW
  clear hw1 hW
  have ra0 := HG.out.at (List.mem_cons_self ..)
  have la0 := ra0.lt
  have a0_0 := ra0.at 0 rfl
  have a0_1 := ra0.at 1 rfl
  have a0_2 := ra0.at 2 rfl
  have a0_3 := ra0.at 3 rfl
  have a0_4 := ra0.at 4 rfl
  have a0_5 := ra0.at 5 rfl
  clear ra0
  have rb0 := HG.out.at (List.mem_cons_of_mem _ (List.mem_cons_self ..))
  have lb0 := rb0.lt
  have b0_0 := rb0.at 0 rfl
  clear rb0
  have hwr : IntKind.i64.wrap (10 + imm) = 10 + imm := IntWalk.i64_in _ (by omega)
  go_wp2_with fail
  refine (emit_any (l := [⟨15, 10 + imm, 10 + imm, 0, 1⟩]) (HG.out.keep (by repeat (first | (with_reducible exact Below.refl _ _) | (with_reducible apply Below.drew) | ((with_reducible apply bAlloc); (focus first | (exact Nat.le_refl _) | (simp; done) | (simp; omega)))))) (GsRd.one _ 15 _ _ _ _ _) (by simp) (by have := HZ.out.1; simp; omega)).mono ?_
  rintro e we ⟨rfl, HK⟩
  clear la0 a0_0 a0_1 a0_2 a0_3 a0_4 a0_5 lb0 b0_0
  go_wp2_with fail
  go_end0
  exact ⟨rfl, by rw [HE.out]; exact HK.out.drop.drop⟩

set_option maxHeartbeats 3200000 in
set_option maxRecDepth 20000 in
theorem ins16_any {q : GK} {R : List (Nat × List Value)} {g : Gen} {w : World} (h : GenRel q R g w) (hc : CfOk q.c) (dst x y imm : Int) (sym : ByteArray) (hb : 0 ≤ x ∧ x ≤ 1000) (hz : SzG g 800000) :
    Calls Tryz.prog 22 #[.pointer (some ⟨q.gb, 0, none⟩), .agg #[.int .u8 16, .int .i64 dst, .int .i64 x, .int .i64 y, .int .i64 imm, .string sym]] w (InsPost q R ⟨16, dst, x, y, imm, sym⟩ g) := by
  have HE : Hid (insG q.c ⟨16, dst, x, y, imm, sym⟩ g = emitG [⟨25, 10 + x, 0, 0, imm⟩] g) := (show _ = _ by unfold insG; rfl)
  have hW := (h.made [.pointer (some ⟨q.gb, 0, none⟩)] 91).made [.int .u8 16, .int .i64 dst, .int .i64 x, .int .i64 y, .int .i64 imm, .string sym] 54
  rw [show (w.alloc (.cells ([.pointer (some ⟨q.gb, 0, none⟩)] : List Value).toArray 91)).heap.size = w.heap.size + 1 by simp] at hW
  have HZ := Lib.hid hz
  clear h hz
  go_enter Tryz.func22, Tryz.ntmps22
  go_upto_region 1 with fail
  obtain ⟨w1, hw1⟩ : ∃ W : World, W = (w.alloc (.cells #[.pointer (some ⟨q.gb, 0, none⟩)] 91)).alloc (.cells #[.int .u8 16, .int .i64 dst, .int .i64 x, .int .i64 y, .int .i64 imm, .string sym] 54) := ⟨_, rfl⟩
  rw [← hw1]
  have hW : GenRel q ((w.heap.size + 1, [.int .u8 16, .int .i64 dst, .int .i64 x, .int .i64 y, .int .i64 imm, .string sym]) :: (w.heap.size, [.pointer (some ⟨q.gb, 0, none⟩)]) :: R) g w1 := by rw [hw1]; exact hW
  have HG := Lib.hid hW
  clear hw1 hW
  have ra0 := HG.out.at (List.mem_cons_self ..)
  have la0 := ra0.lt
  have a0_0 := ra0.at 0 rfl
  have a0_1 := ra0.at 1 rfl
  have a0_2 := ra0.at 2 rfl
  have a0_3 := ra0.at 3 rfl
  have a0_4 := ra0.at 4 rfl
  have a0_5 := ra0.at 5 rfl
  clear ra0
  have rb0 := HG.out.at (List.mem_cons_of_mem _ (List.mem_cons_self ..))
  have lb0 := rb0.lt
  have b0_0 := rb0.at 0 rfl
  clear rb0
  have hwr : IntKind.i64.wrap (10 + x) = 10 + x := IntWalk.i64_in _ (by omega)
  go_wp2_with fail
  refine (emit_any (l := [⟨25, 10 + x, 0, 0, imm⟩]) (HG.out.keep (by repeat (first | (with_reducible exact Below.refl _ _) | (with_reducible apply Below.drew) | ((with_reducible apply bAlloc); (focus first | (exact Nat.le_refl _) | (simp; done) | (simp; omega)))))) (GsRd.one _ 25 _ _ _ _ _) (by simp) (by have := HZ.out.1; simp; omega)).mono ?_
  rintro e we ⟨rfl, HK⟩
  clear la0 a0_0 a0_1 a0_2 a0_3 a0_4 a0_5 lb0 b0_0
  go_wp2_with fail
  go_end0
  exact ⟨rfl, by rw [HE.out]; exact HK.out.drop.drop⟩
end Go.Proofs.YtkcfbonchhidlaaGreatDoor

