/- The generator's duplicate, by its contract. -/
import Derived.Test.YtlajdcikhbocdaaDoorGenJ
import Derived.RegionTactic
set_option linter.unusedVariables false
set_option linter.unusedSimpArgs false
namespace Go.Proofs.YtlajdcikhbocdaaDoor
open Go.RowKit Go.Maps

set_option maxHeartbeats 3200000 in
set_option maxRecDepth 20000 in
theorem dup_any {q : GK} {R : List (Nat × List Value)} {g : Gen} {w : World} (h : GenRel q R g w) (hc : CfOk q.c) (op : Nat) (dst x y imm : Int) (sym : ByteArray) (hd : okR q.c.P.length dst = true) (hx : okR q.c.P.length x = true) (hz : SzG g 800000) :
    Calls Tryd.prog 37 #[.pointer (some ⟨q.gb, 0, none⟩), .agg #[.int .u8 op, .int .i64 dst, .int .i64 x, .int .i64 y, .int .i64 imm, .string sym]] w fun e w' => e = .returned (.tuple #[]) ∧ Hid (GenRel q R (insG q.c ⟨2, dst, x, y, imm, sym⟩ g) w') := by
  have hW := (h.made [.pointer (some ⟨q.gb, 0, none⟩)] 66).made [.int .u8 op, .int .i64 dst, .int .i64 x, .int .i64 y, .int .i64 imm, .string sym] 51
  rw [show (w.alloc (.cells ([.pointer (some ⟨q.gb, 0, none⟩)] : List Value).toArray 66)).heap.size = w.heap.size + 1 by simp] at hW
  have HZ := Lib.hid hz
  have HD := Lib.hid hd
  have HX := Lib.hid hx
  have hdv : 0 ≤ dst ∧ dst < q.c.P.length := of_decide_eq_true hd
  have hxv : 0 ≤ x ∧ x < q.c.P.length := of_decide_eq_true hx
  obtain ⟨kd, rfl⟩ := Int.eq_ofNat_of_zero_le hdv.1
  obtain ⟨kx, rfl⟩ := Int.eq_ofNat_of_zero_le hxv.1
  have hkd : kd < q.c.P.length := by omega
  have hkx : kx < q.c.P.length := by omega
  have hkdI : (kd : Int) < q.c.P.length := by omega
  have hkxI : (kx : Int) < q.c.P.length := by omega
  clear h hz hd hx hdv hxv
  have HPD : Hid (placeG q.c (kd : Int) = q.c.P.getD kd (0, 0)) := (show _ = _ by unfold placeG; rw [Int.toNat_natCast])
  have HPX : Hid (placeG q.c (kx : Int) = q.c.P.getD kx (0, 0)) := (show _ = _ by unfold placeG; rw [Int.toNat_natCast])
  go_enter Tryd.func37, Tryd.ntmps37
  go_upto_region 1 with fail
  obtain ⟨w1, hw1⟩ : ∃ W : World, W = (w.alloc (.cells #[.pointer (some ⟨q.gb, 0, none⟩)] 66)).alloc (.cells #[.int .u8 op, .int .i64 kd, .int .i64 kx, .int .i64 y, .int .i64 imm, .string sym] 51) := ⟨_, rfl⟩
  rw [← hw1]
  have hW : GenRel q ((w.heap.size + 1, [.int .u8 op, .int .i64 kd, .int .i64 kx, .int .i64 y, .int .i64 imm, .string sym]) :: (w.heap.size, [.pointer (some ⟨q.gb, 0, none⟩)]) :: R) g w1 := by rw [hw1]; exact hW
  have HG := Lib.hid (hW.keep (w' := w1.drew) (Below.drew (Below.refl _ _)))
  clear hw1
  have r1 := hW.at (List.mem_cons_self ..)
  have l1 := r1.lt
  have a1 := r1.at 1 rfl
  have a2 := r1.at 2 rfl
  clear r1
  have r0 := hW.at (List.mem_cons_of_mem _ (List.mem_cons_self ..))
  have l0 := r0.lt
  have b0 := r0.at 0 rfl
  clear r0
  obtain ⟨p0, p1, hpl⟩ := hW.place hkd
  obtain ⟨s0, s1, -⟩ := hW.place hkx
  obtain ⟨col, cv, rv, sv, bv, hA⟩ := hW
  obtain ⟨hlt, ⟨c0, c1, c2⟩, -⟩ := hA.cells
  clear hA c1 c2
  generalize q.c.P.getD kd (0, 0) = pd at p0 p1 HPD
  generalize q.c.P.getD kx (0, 0) = px at s0 s1 HPX
  obtain ⟨d1, d2⟩ := pd
  obtain ⟨x1, x2⟩ := px
  simp only at p0 p1 s0 s1 HPD HPX
  have hcs : (d1 = x1 ∧ d2 = x2) ∨ ((placeG q.c (kd : Int) = placeG q.c (kx : Int) → False) ∧ (¬ d1 = x1 ∨ (d1 = x1 ∧ ¬ d2 = x2))) := by
    rw [HPD.out, HPX.out]
    by_cases e1 : d1 = x1
    · by_cases e2 : d2 = x2
      · exact .inl ⟨e1, e2⟩
      · exact .inr ⟨fun e => e2 (Prod.mk.inj e).2, .inr ⟨e1, e2⟩⟩
    · exact .inr ⟨fun e => e1 (Prod.mk.inj e).1, .inl e1⟩
  rcases hcs with ⟨rfl, rfl⟩ | ⟨hne, hcs⟩
  · have HE : Hid (insG q.c ⟨2, kd, kx, y, imm, sym⟩ g = g) := (show _ = _ from (show (if placeG q.c (kd : Int) = placeG q.c (kx : Int) then g else _) = g from if_pos (HPD.out.trans HPX.out.symm)))
    clear HPD HPX
    go_region
    all_goals (
      go_wp2_with fail
      try simp only [Exit.inBlock, Exit.then]
      refine bodyPost_ret (results_none rfl _ _ _) rfl ?_
      exact ⟨rfl, by rw [HE.out]; exact HG.out.drop.drop⟩)
  · have HE : Hid (insG q.c ⟨2, kd, kx, y, imm, sym⟩ g = writeG q.c kd (fun r => if r ≠ (readG q.c kx 1 g).1 then emitG [⟨15, r, (readG q.c kx 1 g).1, 0, 0⟩] else id) (readG q.c kx 1 g).2) := (show _ = _ from (show (if placeG q.c (kd : Int) = placeG q.c (kx : Int) then g else _) = _ from if_neg hne))
    clear HPD HPX hne
    rcases hcs with e1 | ⟨rfl, e1⟩
    all_goals (
      go_region
      all_goals (
        clear e1 p0 p1 s0 s1 c0 hlt hpl
        clear hkdI hkxI
        go_upto_region 2 with fail
        obtain ⟨w2, hw2⟩ : ∃ W : World, W = w1.drew := ⟨_, rfl⟩
        rw [← hw2] at HG ⊢
        clear hw2 l1 a1 a2 l0 b0
        have r1 := HG.out.at (List.mem_cons_self ..)
        have l1 := r1.lt
        have a1 := r1.at 1 rfl
        have a2 := r1.at 2 rfl
        clear r1
        have r0 := HG.out.at (List.mem_cons_of_mem _ (List.mem_cons_self ..))
        have l0 := r0.lt
        have b0 := r0.at 0 rfl
        clear r0
        go_wp2_with fail
        refine (read_any HG.out hc HX.out 1 (HZ.out.le (by decide))).mono ?_
        rintro e w3 ⟨rfl, H3⟩
        have HZ3 := Lib.hid (HZ.out.read (c := q.c) (v := kx) (scr := 1))
        generalize readG q.c kx 1 g = X at H3 HE HZ3 ⊢
        obtain ⟨X, g2⟩ := X
        simp only at H3 HE HZ3 ⊢
        clear l1 a1 a2 l0 b0
        have r1 := H3.out.at (List.mem_cons_self ..)
        have l1 := r1.lt
        have a1 := r1.at 1 rfl
        clear r1
        have r0 := H3.out.at (List.mem_cons_of_mem _ (List.mem_cons_self ..))
        have l0 := r0.lt
        have b0 := r0.at 0 rfl
        clear r0
        have H4 := Lib.hid (H3.out.made [.int .i64 X] 3)
        go_wp2_with fail
        refine (write_any H4.out hc HD.out (fun r => if r ≠ X then emitG [⟨15, r, X, 0, 0⟩] else id) 67 #[.pointer (some ⟨w3.heap.size, 0, none⟩), .pointer (some ⟨w.heap.size, 0, none⟩)] (enters_of Tryd.func67 (by kernel_rfl) rfl) (fun r R' w1 hs hr h1 => by
          have h5 : (if r ≠ X then emitG [⟨15, r, X, 0, 0⟩] else id) g2 = if r ≠ X then emitG [⟨15, r, X, 0, 0⟩] g2 else g2 := by split <;> rfl
          rw [h5]
          simpa using dup1_any h1 (hs _ (List.mem_cons_of_mem _ (List.mem_cons_of_mem _ (List.mem_cons_self ..)))) (hs _ (List.mem_cons_self ..)) r (HZ3.out.le (by decide))) (fun r => by
          show SzG ((if r ≠ X then emitG [⟨15, r, X, 0, 0⟩] else id) g2) _
          split
          · exact (HZ3.out.emit _).le (by simp)
          · exact HZ3.out.le (by decide))).mono ?_
        rintro e w5 ⟨rfl, HK⟩
        clear l1 a1 l0 b0
        go_wp2_with fail
        go_end0
        exact ⟨rfl, by rw [HE.out]; exact HK.out.drop.drop.drop⟩))
end Go.Proofs.YtlajdcikhbocdaaDoor
