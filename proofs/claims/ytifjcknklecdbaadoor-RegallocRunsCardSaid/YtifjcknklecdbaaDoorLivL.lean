/- liveness.after and what it calls back, by their contracts. -/
import Derived.Test.YtifjcknklecdbaaDoorLivK
set_option linter.unusedVariables false
set_option linter.unusedSimpArgs false
namespace Go.Proofs.YtifjcknklecdbaaDoor
open Go.RowKit

/-- What Interference holds while the instructions are visited: the rows (color 7), the sets at the blocks' ends (color 2), the function's box and the rows' box. wE: the world in which the function came in; w0: the world in which the visit began. -/
structure AfAt (wE w0 : World) (R n m : Nat) (rv ov : Value) (fb rb : Nat) (F : List Value) (g out : Nat → Nat) (col : Nat → Nat) (w : World) : Prop where
  rows : SetsAt col 7 w rv R m g
  outs : SetsAt col 2 w ov n m out
  fbox : BoxAt col w fb F
  rbox : BoxAt col w rb [rv]
  low : ∀ k, k < wE.heap.size → col k = 0
  bel : Below wE.heap.size wE w
  big : wE.heap.size ≤ w.heap.size
section
variable {wE w0 w w' : World} {R n m : Nat} {rv ov : Value} {fb rb : Nat} {F : List Value} {g out : Nat → Nat} {col : Nat → Nat}
theorem AfAt.below (h : AfAt wE w0 R n m rv ov fb rb F g out col w) (hb : Below w.heap.size w w') : AfAt wE w0 R n m rv ov fb rb F g out col w' :=
  ⟨h.rows.below hb, h.outs.below hb, h.fbox.below hb, h.rbox.below hb, h.low, h.bel.trans (hb.mono h.big), Nat.le_trans h.big hb.size⟩
theorem AfAt.clean (h : AfAt wE w0 R n m rv ov fb rb F g out col w) : AfAt wE w0 R n m rv ov fb rb F g out (paint col w.heap.size 0) w :=
  have hp : ∀ c k, k < w.heap.size → col k = c → paint col w.heap.size 0 k = c := fun c k hk e => by rw [paint_lt hk]; exact e
  ⟨h.rows.mono (hp 7), h.outs.mono (hp 2), h.fbox.clean, h.rbox.clean, low_paint h.low h.big, h.bel, h.big⟩
theorem AfAt.paint0 (h : AfAt wE w0 R n m rv ov fb rb F g out col w) (hb : Below w.heap.size w w') : AfAt wE w0 R n m rv ov fb rb F g out (paint col w.heap.size 0) w' := by
  have h2 := h.clean.below hb
  exact h2
theorem AfAt.tb (h : AfAt wE w0 R n m rv ov fb rb F g out col w) {c : Nat} (hc : c ≠ 0) (ht : Touch col c w w') : Below wE.heap.size wE w' := h.bel.trans (ht.below h.big fun k hk e => hc (by rw [← e]; exact h.low k hk))
theorem AfAt.touch6 (h : AfAt wE w0 R n m rv ov fb rb F g out col w) (ht : Touch col 6 w w') : AfAt wE w0 R n m rv ov fb rb F g out (paint col w.heap.size 6) w' :=
  ⟨h.rows.other ht (by decide), h.outs.other ht (by decide), h.fbox.other ht (by decide), h.rbox.other ht (by decide), low_paint h.low h.big, h.tb (by decide) ht, Nat.le_trans h.big ht.size⟩
theorem AfAt.setRows (h : AfAt wE w0 R n m rv ov fb rb F g out col w) {g' : Nat → Nat} (hn : SetsAt (paint col w.heap.size 7) 7 w' rv R m g') (ht : Touch col 7 w w') : AfAt wE w0 R n m rv ov fb rb F g' out (paint col w.heap.size 7) w' :=
  ⟨hn, h.outs.other ht (by decide), h.fbox.other ht (by decide), h.rbox.other ht (by decide), low_paint h.low h.big, h.tb (by decide) ht, Nat.le_trans h.big ht.size⟩
end

/-- What a visit leaves. -/
def VisitPost (col : Nat → Nat) (w : World) (rv : Value) (R m : Nat) (g : Nat → Nat) (e : Ending) (w' : World) : Prop := e = .returned (.tuple #[]) ∧ SetsAt col 7 w' rv R m g ∧ Touch col 7 w w'
set_option maxHeartbeats 1600000 in
set_option maxRecDepth 100000 in
theorem visit_any (R m : Nat) (nm : ByteArray) (ap : Option Addr) (an ac : Nat) (bv rv : Value) (bs : List IBlk) (fb rb k q : Nat) (v : Value) (x : Nat) (g : Nat → Nat) (col : Nat → Nat) (w : World) (hm1 : m ≤ 1) (hRm : R ≤ 64 * m) (hB : BksAt w bv bs) (hk : k < bs.length) (hq : q < (bs.getD k default).code.length)
    (hi : okIns R ((bs.getD k default).code.getD q default) = true) (hf3 : w.cell? ⟨fb, 3, none⟩ = some bv) (hr0 : w.cell? ⟨rb, 0, none⟩ = some rv) (hR : SetsAt col 7 w rv R m g) (hg : ∀ r, r < R → g r < 2 ^ R) (hV : SetV w m v x) (hx : x < 2 ^ R) :
    Calls Tryd.prog 31 #[.int .i64 k, .int .i64 q, v, .pointer (some ⟨fb, 0, none⟩), .pointer (some ⟨rb, 0, none⟩)] w
      (VisitPost col w rv R m (if hasDef ((bs.getD k default).code.getD q default).op = true then upd g ((bs.getD k default).code.getD q default).dst.toNat (g ((bs.getD k default).code.getD q default).dst.toNat ||| x) else g)) := by
  obtain ⟨mb, ob, cap', cp, cc, rfl, hmb, hin, c0, c1, c2, c3, c4⟩ := hB.at k hk
  obtain ⟨mi, oi, ci', e1, hmi, d0, d1, d2, d3, d4, d5⟩ := hin.at q hq
  injection e1 with e1 e2 e3
  subst e1 e3
  have hkI : (k : Int) < bs.length := by omega
  have hqI : (q : Int) < (bs.getD k default).code.length := by omega
  obtain ⟨⟨op, dst, ix, iy, imm, sym⟩, he⟩ : ∃ y, y = (bs.getD k default).code.getD q default := ⟨_, rfl⟩
  rw [← he] at d0 d1 d2 d3 d4 d5 hi ⊢
  simp only at d0 d1 d2 d3 d4 d5 ⊢
  have hdf := okIns_def hi
  simp only at hdf
  generalize (bs.getD k default).code.length = cl at hqI c0 hin
  have HR := Lib.hid hR
  have HV := Lib.hid hV
  have HG := Lib.hid hg
  clear hB hin he hi c1 c2 c3 c4 hR hV hg hk hq
  obtain ⟨hd, hdd⟩ : ∃ b, b = hasDef op := ⟨_, rfl⟩
  have HDD := Lib.hid hdd
  rw [← hdd]
  cases hd
  · rw [if_neg (by decide)]
    clear hdd hdf
    go_enter Tryd.func31, Tryd.ntmps31
    go_wp2_with fail
    refine (defines_any op dst ix iy imm sym w).mono ?_
    rintro e w1 ⟨rfl, hb1⟩
    rw [← HDD.out]
    have HB1 := Lib.hid hb1
    have hbr : w1.cell? ⟨rb, 0, none⟩ = some rv := by
      rw [← hr0]
      exact hb1.cell (p := ⟨rb, 0, none⟩) (World.block_lt_of_cell? w ⟨rb, 0, none⟩ hr0)
    clear hb1
    go_wp2_with fail
    go_end0
    exact ⟨rfl, HR.out.below HB1.out, Touch.of_below HB1.out⟩
  · rw [if_pos rfl]
    obtain ⟨hd0, hd1⟩ := hdf hdd.symm
    obtain ⟨r, rfl⟩ := Int.eq_ofNat_of_zero_le hd0
    have hrR : r < R := by omega
    rw [Int.toNat_natCast]
    clear hdd hdf hd0 hd1
    go_enter Tryd.func31, Tryd.ntmps31
    go_wp2_with fail
    refine (defines_any op (r : Int) ix iy imm sym w).mono ?_
    rintro e w1 ⟨rfl, hb1⟩
    rw [← HDD.out]
    have HB1 := Lib.hid hb1
    have hbr : w1.cell? ⟨rb, 0, none⟩ = some rv := by
      rw [← hr0]
      exact hb1.cell (p := ⟨rb, 0, none⟩) (World.block_lt_of_cell? w ⟨rb, 0, none⟩ hr0)
    have hR1 := HR.out.below hb1
    obtain ⟨gr, capr, pr, capr', rfl, h1, h2, h3, h4, h5, h6⟩ := hR1.get hrR
    have hrI : (r : Int) < R := by omega
    have HJ := Lib.hid (join_any m (g r) x _ v w1 hm1 (pow_le (HG.out r hrR) hRm) (pow_le hx hRm) h5 (HV.out.below hb1 (Nat.le_refl _)))
    have HR1 := Lib.hid hR1
    have H3 := Lib.hid h3
    clear hb1 hR1 h4 h5 h6
    go_wp2_with fail
    refine HJ.out.mono ?_
    rintro e w2 ⟨rfl, hs2, hg2⟩
    obtain ⟨a1, a2⟩ := HR1.out.inplace hrR rfl H3.out hs2 hg2
    have A1 := Lib.hid a1
    have A2 := Lib.hid ((Touch.of_below HB1.out).trans a2)
    clear hs2 hg2 HJ a1 a2
    go_wp2_with fail
    go_end0
    exact ⟨rfl, A1.out, A2.out⟩
end Go.Proofs.YtifjcknklecdbaaDoor
