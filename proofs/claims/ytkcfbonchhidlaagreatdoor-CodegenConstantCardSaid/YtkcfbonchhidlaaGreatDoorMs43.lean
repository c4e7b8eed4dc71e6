import Derived.Test.YtkcfbonchhidlaaGreatDoorGenK
import Derived.Test.YtkcfbonchhidlaaGreatDoorMs42
import Derived.Test.YtkcfbonchhidlaaGreatDoorMs35
import Derived.Test.YtkcfbonchhidlaaGreatDoorMs37
import Derived.Test.YtkcfbonchhidlaaGreatDoorLivQ
import Derived.Deep.RegionWith
set_option linter.unusedVariables false
set_option linter.unusedSimpArgs false
namespace Go.Proofs.YtkcfbonchhidlaaGreatDoor
open Go.RowKit Go.Maps

set_option maxHeartbeats 3200000 in
set_option maxRecDepth 20000 in
theorem ins2_any {q : GK} {R : List (Nat × List Value)} {g : Gen} {w : World} (h : GenRel q R g w) (hc : CfOk q.c) (dst x y imm : Int) (sym : ByteArray) (hd : okR q.c.P.length dst = true) (hx : okR q.c.P.length x = true) (hz : SzG g 800000) :
    Calls Tryz.prog 22 #[.pointer (some ⟨q.gb, 0, none⟩), .agg #[.int .u8 2, .int .i64 dst, .int .i64 x, .int .i64 y, .int .i64 imm, .string sym]] w (InsPost q R ⟨2, dst, x, y, imm, sym⟩ g) := by
  have HE : Hid (insG q.c ⟨2, dst, x, y, imm, sym⟩ g = insG q.c ⟨2, dst, x, y, imm, sym⟩ g) := (show _ = _ from rfl)
  have hW := (h.made [.pointer (some ⟨q.gb, 0, none⟩)] 91).made [.int .u8 2, .int .i64 dst, .int .i64 x, .int .i64 y, .int .i64 imm, .string sym] 54
  rw [show (w.alloc (.cells ([.pointer (some ⟨q.gb, 0, none⟩)] : List Value).toArray 91)).heap.size = w.heap.size + 1 by simp] at hW
  have HZ := Lib.hid hz
  clear h hz
  go_enter Tryz.func22, Tryz.ntmps22
  go_upto_region 1 with fail
  obtain ⟨w1, hw1⟩ : ∃ W : World, W = (w.alloc (.cells #[.pointer (some ⟨q.gb, 0, none⟩)] 91)).alloc (.cells #[.int .u8 2, .int .i64 dst, .int .i64 x, .int .i64 y, .int .i64 imm, .string sym] 54) := ⟨_, rfl⟩
  rw [← hw1]
  have hW : GenRel q ((w.heap.size + 1, [.int .u8 2, .int .i64 dst, .int .i64 x, .int .i64 y, .int .i64 imm, .string sym]) :: (w.heap.size, [.pointer (some ⟨q.gb, 0, none⟩)]) :: R) g w1 := by rw [hw1]; exact hW
  have HG := Lib.hid hW
  clear hw1 hW
  have ra0 := HG.out.at (List.mem_cons_self ..)
  have la0 := ra0.lt
  have a0_0 := ra0.at 0 rfl
  have a0_1 := ra0.at 1 rfl
  have a0_2 := ra0.at 2 rfl
  have a0_3 := ra0.at 3 rfl
  have a0_4 := ra0.at 4 rfl
  have a0_5 := ra0.at 5 rfl
  clear ra0
  have rb0 := HG.out.at (List.mem_cons_of_mem _ (List.mem_cons_self ..))
  have lb0 := rb0.lt
  have b0_0 := rb0.at 0 rfl
  clear rb0
  go_wp2_with fail
  refine (dup_any HG.out hc 2 dst x y imm sym hd hx (HZ.out.le (by decide))).mono ?_
  rintro e we ⟨rfl, HK⟩
  clear la0 a0_0 a0_1 a0_2 a0_3 a0_4 a0_5 lb0 b0_0
  go_wp2_with fail
  go_end0
  exact ⟨rfl, HK.out.drop.drop⟩

theorem ins_any {q : GK} {R : List (Nat × List Value)} {g : Gen} {w : World} (h : GenRel q R g w) (hc : CfOk q.c) (hF : ∀ s, (q.F s).getD (.int .i64 0) = .int .i64 (q.c.ar s)) {K : Kinds} (i : IIns) (hv : vIns q.c.P.length K i = true) (hs : i.sym.size ≤ maxLen) (hz : SzG g 800000) :
    Calls Tryz.prog 22 #[.pointer (some ⟨q.gb, 0, none⟩), .agg #[.int .u8 i.op, .int .i64 i.dst, .int .i64 i.x, .int .i64 i.y, .int .i64 i.imm, .string i.sym]] w (InsPost q R i g) := by
  obtain ⟨op, dst, x, y, imm, sym⟩ := i
  have hop : op = 1 ∨ op = 2 ∨ op = 3 ∨ op = 4 ∨ op = 5 ∨ op = 6 ∨ op = 7 ∨ op = 8 ∨ op = 9 ∨ op = 10 ∨ op = 11 ∨ op = 12 ∨ op = 13 ∨ op = 14 ∨ op = 15 ∨ op = 16 ∨ (op ≠ 1 ∧ op ≠ 2 ∧ op ≠ 3 ∧ ¬ (op = 4 ∨ op = 6) ∧ ¬ (op = 5 ∨ op = 7) ∧ op ≠ 8 ∧ op ≠ 9 ∧ op ≠ 10 ∧ ¬ (op = 11 ∨ op = 12) ∧ ¬ (op = 13 ∨ op = 14) ∧ op ≠ 15 ∧ op ≠ 16) := by omega
  have hs : sym.size ≤ maxLen := hs
  unfold vIns at hv
  simp only [] at hv ⊢
  rcases hop with rfl | rfl | rfl | rfl | rfl | rfl | rfl | rfl | rfl | rfl | rfl | rfl | rfl | rfl | rfl | rfl | ⟨h1, h2, h3, h4, h5, h8, h9, h10, h11, h13, h15, h16⟩
  all_goals (try simp only [Nat.reduceEqDiff, if_true, if_false, or_false, false_or, or_true, true_or, or_self, Bool.and_eq_true] at hv)
  · have hb := bw_of hv.1.1.1.2
    exact ins1_any h hc dst x y imm sym hv.1.1.1.1 hb hz
  · exact ins2_any h hc dst x y imm sym hv.1.1.1.1 hv.1.1.1.2 hz
  · have hb := bw_of hv.1.2
    exact ins3_any h hc dst x y imm sym hv.1.1.1.1 hv.1.1.1.2 hv.1.1.2 hb hz
  · exact ins4_any h hc dst x y imm sym hv.1.1.1.1 hv.1.1.1.2 hs (hF sym) hz
  · exact ins5_any h hc dst x y imm sym hv.1.1.1.1 hv.1.1.1.2 hs (hF sym) hz
  · exact ins6_any h hc dst x y imm sym hv.1.1.1.1 hv.1.1.1.2 hz
  · exact ins7_any h hc dst x y imm sym hv.1.1.1.1 hv.1.1.1.2 hz
  · exact ins8_any h hc dst x y imm sym hv.1.1.1.1 hz
  · exact ins9_any h hc dst x y imm sym hv.1.1.1.1 hz
  · exact ins10_any h hc dst x y imm sym hv.1.1.1.1 hz
  · exact ins11_any h hc dst x y imm sym hz
  · exact ins12_any h hc dst x y imm sym hz
  · have hb := bw_of hv.1.1.1.1
    exact ins13_any h hc dst x y imm sym (by omega) hz
  · have hb := bw_of hv.1.1.1.1
    exact ins14_any h hc dst x y imm sym (by omega) hz
  · have hb := bw_of hv.1.1.1.2
    exact ins15_any h hc dst x y imm sym hv.1.1.1.1 (by omega) hz
  · have hb := bw_of hv.1.1.1.1
    exact ins16_any h hc dst x y imm sym (by omega) hz
  · rw [if_neg h1, if_neg h2, if_neg h3, if_neg h4, if_neg h5, if_neg h8, if_neg h9, if_neg h10, if_neg h11, if_neg h13, if_neg h15, if_neg h16] at hv
    cases hv
end Go.Proofs.YtkcfbonchhidlaaGreatDoor

set_option linter.unusedVariables false
set_option linter.unusedSimpArgs false
namespace Go.Proofs.YtkcfbonchhidlaaGreatDoor
open Go.RowKit Go.Maps

theorem SzG.add1 {g : Gen} {n : Nat} (h : SzG g n) (x : TI) : SzG (add1 g x) (n + 1) := by
  obtain ⟨i, t⟩ := x
  cases t with
  | p => exact h.emit [i]
  | r nm => exact h.refer i nm
  | b k => exact h.jump i k
theorem SzG.addT : ∀ {l : List TI} {g : Gen} {n : Nat}, SzG g n → SzG (Go.Proofs.YtkcfbonchhidlaaGreatDoor.addT l g) (n + l.length)
  | [], g, n, h => h
  | x :: l, g, n, h => by
    have := (h.add1 x).addT (l := l)
    rw [List.length_cons, show n + (l.length + 1) = n + 1 + l.length by omega]
    exact this
theorem SzG.sts {g : Gen} {n : Nat} (h : SzG g n) (s : List Int) : SzG { g with starts := s } n := h
def arF (A : List Arr) : Nat → ByteArray → Option Value
  | 0 => fun _ => none
  | k + 1 => updF (arF A k) (A.getD k default).1 (.int .i64 (addrG A k))
theorem arF_get (A : List Arr) (s : ByteArray) : ∀ k, (arF A k s).getD (.int .i64 0) = .int .i64 (arG A k s)
  | 0 => rfl
  | k + 1 => by
    show (updF (arF A k) (A.getD k default).1 (.int .i64 (addrG A k)) s).getD _ = .int .i64 (if s = (A.getD k default).1 then addrG A k else arG A k s)
    unfold updF
    split
    · rfl
    · exact arF_get A s k
theorem GenRel.putMap {q : GK} {R : List (Nat × List Value)} {g : Gen} {w w' : World} (h : GenRel q R g w) {F : ByteArray → Option Value} {n : Nat} (hm : MpAt w' q.mb n F) (hg : w.grownBy w' (some q.mb)) : GenRel { q with n := n, F := F } R g w' := by
  obtain ⟨col, cv, rv, sv, bv, h⟩ := h
  have ht : Touch col 2 w w' := Touch.of_grown hg fun k hk => by cases hk; exact h.x.cm
  refine ⟨paint col w.heap.size 2, cv, rv, sv, bv, ⟨hm, by show paint col _ 2 q.mb = 2; rw [paint_lt h.x.mp.lt]; exact h.x.cm, World.rowIs.of_block h.x.pl (ht.block _ h.x.lp (by rw [h.x.cp]; decide)), by show paint col _ 2 q.pg = 0; rw [paint_lt h.x.lp]; exact h.x.cp, Nat.lt_of_lt_of_le h.x.lp ht.size, low_paint h.x.low h.x.big, h.x.bel.trans (ht.below h.x.big fun k hk e => by rw [h.x.low k hk] at e; cases e), Nat.le_trans h.x.big ht.size, fun p hp => ?_⟩, h.code.other ht (by decide), h.refs.other ht (by decide), h.sts.other ht (by decide), h.brs.other ht (by decide), h.box.other ht (by decide)⟩
  obtain ⟨h1, hc⟩ := h.x.rows p hp
  have hb := ht.block p.1 h1.lt (by rw [hc]; decide)
  exact ⟨⟨Nat.lt_of_lt_of_le h1.lt ht.size, fun k v hv => (World.cell?_of_block (a := ⟨p.1, k, none⟩) hb).trans (h1.2 k v hv)⟩, by rw [paint_lt h1.lt]; exact hc⟩
theorem arrV_at : ∀ (l : List Arr) (a : Nat), a < l.length → (arrV l)[a * 2]? = some (.string (l.getD a default).1) ∧ (arrV l)[a * 2 + 1]? = some (.int .i64 (l.getD a default).2)
  | [], a, h => by simp at h
  | x :: l, 0, _ => ⟨rfl, rfl⟩
  | x :: l, a + 1, h => by
    have h2 := arrV_at l a (by simpa using h)
    rw [List.getD_cons_succ]
    refine ⟨?_, ?_⟩
    · rw [← h2.1]
      show ([Value.string x.1, .int .i64 x.2] ++ arrV l)[(a + 1) * 2]? = _
      rw [show (a + 1) * 2 = a * 2 + 2 by omega]; rfl
    · rw [← h2.2]
      show ([Value.string x.1, .int .i64 x.2] ++ arrV l)[(a + 1) * 2 + 1]? = _
      rw [show (a + 1) * 2 + 1 = a * 2 + 1 + 2 by omega]; rfl
theorem ArsAt.of_own {w : World} {v : Value} {l : List Arr} (h : w.ownsRow 0 97 2 v l.length (arrV l)) : ArsAt w v l := by
  have hC : OwnC 97 2 (fun _ => 0) 0 w v l.length (arrV l) := ⟨h, fun _ _ => rfl⟩
  obtain ⟨p, cap, rfl⟩ := hC.shape
  refine ⟨p, cap, rfl, fun k hk => ?_⟩
  obtain ⟨g, c1, e1, h1, _, h2, _⟩ := hC.cell (j := k * 2) (by omega)
  obtain ⟨g', c2, e2, _, _, h3, _⟩ := hC.cell (j := k * 2 + 1) (by omega)
  injection e1 with e1
  injection e2 with e2
  subst e1
  injection e2 with e2
  injection e2 with e2
  subst e2
  obtain ⟨k1, k2⟩ := arrV_at l k hk
  exact ⟨g, 0, rfl, h1, by rw [Nat.zero_add]; exact h2.trans k1, by rw [Nat.zero_add]; exact h3.trans k2⟩
theorem addrG_small {A : List Arr} (h : ∀ k, k < A.length → (A.getD k default).2 ≤ 32) : ∀ k, k ≤ A.length → 0 ≤ addrG A k ∧ addrG A k ≤ (k : Int) * 32
  | 0, _ => by simp [addrG]
  | k + 1, hk => by
    have h1 := addrG_small h k (by omega)
    have h2 := h k (by omega)
    show 0 ≤ addrG A k + max _ 0 ∧ addrG A k + max _ 0 ≤ _
    omega
theorem arG_small {A : List Arr} (h : ∀ k, k < A.length → (A.getD k default).2 ≤ 32) (s : ByteArray) : ∀ k, k ≤ A.length → 0 ≤ arG A k s ∧ arG A k s ≤ (A.length : Int) * 32
  | 0, _ => by simp [arG]; omega
  | k + 1, hk => by
    have h1 := arG_small h s k (by omega)
    have h2 := addrG_small h k (by omega)
    show 0 ≤ (if s = _ then addrG A k else arG A k s) ∧ (if s = _ then addrG A k else arG A k s) ≤ _
    split
    · omega
    · exact h1
def cfgG (A : List Arr) (R : Nat) (P : Nat → Int × Int) : Cfg := ⟨(List.range R).map P, addrG A A.length, arG A A.length⟩
theorem cfg_len (A : List Arr) (R : Nat) (P : Nat → Int × Int) : (cfgG A R P).P.length = R := by simp [cfgG]
theorem cfg_at (A : List Arr) (R : Nat) (P : Nat → Int × Int) {k : Nat} (hk : k < R) : (cfgG A R P).P.getD k (0, 0) = P k := by simp [cfgG, List.getD_eq_getElem?_getD, hk]
theorem cfg_ok {A : List Arr} {R : Nat} {P : Nat → Int × Int} {E : List (List Int)} {n : Int} (hv : VaG E R P n) (hA : A.length ≤ 4) (h : ∀ k, k < A.length → (A.getD k default).2 ≤ 32) : PlOk (cfgG A R P) R ∧ CfOk (cfgG A R P) := by
  have h1 := addrG_small h A.length (Nat.le_refl _)
  have hb := hv.big
  refine ⟨⟨fun v hvv => ?_, by show 0 ≤ addrG A A.length ∧ addrG A A.length ≤ 128; omega, fun s => ?_⟩, ⟨by show 0 ≤ addrG A A.length ∧ addrG A A.length ≤ 1000; omega, fun k hk => ?_⟩⟩
  · have := okR_of hvv
    obtain ⟨k, rfl⟩ := Int.eq_ofNat_of_zero_le this.1
    have hk : k < R := by omega
    have e : placeG (cfgG A R P) (k : Int) = P k := by unfold placeG; rw [Int.toNat_natCast]; exact cfg_at A R P hk
    rw [e]
    rcases hv.kind k hk with h | h
    · exact .inl (by omega)
    · exact .inr (by omega)
  · have := arG_small h s A.length (Nat.le_refl _)
    show 0 ≤ arG A A.length s ∧ arG A A.length s ≤ 128
    omega
  · rw [cfg_len] at hk
    rw [cfg_at A R P hk]
    rcases hv.kind k hk with h | h <;> omega
theorem cfg_pl {A : List Arr} {R : Nat} {P : Nat → Int × Int} {w : World} {g : Nat} (h : PlAt w g R P) : PlAt w g (cfgG A R P).P.length fun k => (cfgG A R P).P.getD k (0, 0) := by
  rw [cfg_len]
  refine World.rowIs.congr h fun k hk => ?_
  unfold plc
  show _ = Value.int .i64 (if k % 2 = 0 then ((cfgG A R P).P.getD (k / 2) (0, 0)).1 else ((cfgG A R P).P.getD (k / 2) (0, 0)).2)
  rw [cfg_at A R P (show k / 2 < R by omega)]
def gIn (c : Cfg) (bs : List IBlk) (g : Gen) (k j : Nat) : Gen := codeG c ((bs.getD k default).code.take j) { blksG c bs k g with starts := (blksG c bs k g).starts ++ [((blksG c bs k g).code.length : Int)] }
theorem gIn_next (c : Cfg) (bs : List IBlk) (g : Gen) (k j : Nat) (hj : j < (bs.getD k default).code.length) : gIn c bs g k (j + 1) = insG c ((bs.getD k default).code.getD j default) (gIn c bs g k j) := by
  have e : (bs.getD k default).code.getD j default = (bs.getD k default).code[j] := by rw [List.getD_eq_getElem?_getD (l := (bs.getD k default).code), List.getElem?_eq_getElem hj]; rfl
  rw [e]
  unfold gIn codeG
  rw [List.take_succ_eq_append_getElem hj, List.foldl_append]; rfl
theorem gIn_end (c : Cfg) (bs : List IBlk) (g : Gen) (k : Nat) : blksG c bs (k + 1) g = endG c (bs.getD k default) ((k : Int) + 1) (gIn c bs g k (bs.getD k default).code.length) := by
  unfold gIn
  rw [List.take_length]; rfl
section
variable {c : Cfg} {R : Int} {K : Kinds} {bs : List IBlk} {n : Nat}
theorem sumC_le (bs : List IBlk) : ∀ d k, sumC bs k ≤ sumC bs (k + d)
  | 0, k => Nat.le_refl _
  | d + 1, k => Nat.le_trans (sumC_le bs d k) (by show _ ≤ sumC bs (k + d) + _; omega)
theorem blks_sz (hp : PlOk c R) (h : ∀ j, j < bs.length → vBlk R K bs.length (bs.getD j default) = true) (hn : n ≤ 64) (hb : bs.length ≤ 20) (ht : sumC bs bs.length ≤ 300) : ∀ k, k ≤ bs.length → SzG (blksG c bs k ⟨spillG c.sp n, [], [], []⟩) (64 + 7 * sumC bs k + 3 * k)
  | 0, _ => ⟨by show (spillG c.sp n).length ≤ _; simp [spillG]; omega, Nat.zero_le _, Nat.zero_le _⟩
  | k + 1, hk => by
    show SzG (blkG c (bs.getD k default) k (blksG c bs k _)) (64 + 7 * (sumC bs k + (bs.getD k default).code.length) + 3 * (k + 1))
    rw [blk_T]
    exact (((blks_sz hp h hn hb ht k (by omega)).sts _).addT).le (by have := (blk_pc hp (h k (by omega)) k).len; omega)
theorem blks_sz2 (hp : PlOk c R) (h : ∀ j, j < bs.length → vBlk R K bs.length (bs.getD j default) = true) (hn : n ≤ 64) (hb : bs.length ≤ 20) (ht : sumC bs bs.length ≤ 300) {k : Nat} (hk : k ≤ bs.length) : SzG (blksG c bs k ⟨spillG c.sp n, [], [], []⟩) 3000 :=
  (blks_sz hp h hn hb ht k hk).le (by have := sumC_le bs (bs.length - k) k; rw [show k + (bs.length - k) = bs.length by omega] at this; omega)
theorem gIn_sz (hp : PlOk c R) (h : ∀ j, j < bs.length → vBlk R K bs.length (bs.getD j default) = true) (hn : n ≤ 64) (hb : bs.length ≤ 20) (ht : sumC bs bs.length ≤ 300) {k : Nat} (hk : k < bs.length) (j : Nat) : SzG (gIn c bs ⟨spillG c.sp n, [], [], []⟩ k j) 6000 := by
  unfold gIn
  rw [code_T]
  have h1 := blks_sz2 hp h hn hb ht (Nat.le_of_lt hk)
  refine ((h1.sts _).addT).le ?_
  have h2 := (vBlk_iff _ _ _ _).1 (h k hk)
  have h3 : ∀ i ∈ (bs.getD k default).code.take j, vIns R K i = true := fun i hi => by
    obtain ⟨m, hm, rfl⟩ := List.mem_iff_getElem.1 (List.mem_of_mem_take hi)
    have := h2.1 m hm
    rwa [List.getD_eq_getElem?_getD, List.getElem?_eq_getElem hm] at this
  have h4 := (code_pc (nb := bs.length) hp _ h3).len
  have h5 : ((bs.getD k default).code.take j).length ≤ sumC bs (k + 1) := by
    show _ ≤ sumC bs k + (bs.getD k default).code.length
    rw [List.length_take]; omega
  have h6 := sumC_le bs (bs.length - (k + 1)) (k + 1)
  rw [show k + 1 + (bs.length - (k + 1)) = bs.length by omega] at h6
  omega
theorem all_res (hn : n ≤ 64) (hp : PlOk c R) {A S : List Arr} (hv : vFun R A S bs = true) (hb : bs.length ≤ 20) (ht : sumC bs bs.length ≤ 300) :
    (∀ j, j < (allG c n bs).brs.length → ∃ a k : Nat, (allG c n bs).brs.getD j (0, 0) = ((a : Int), (k : Int)) ∧ a < (allG c n bs).code.length ∧ k < (allG c n bs).starts.length) ∧ (∀ k, 0 ≤ (allG c n bs).starts.getD k 0 ∧ (allG c n bs).starts.getD k 0 ≤ 1000000) ∧ SzG (allG c n bs) 3000 := by
  obtain ⟨h0, h1, h2, h3, h4, h5⟩ := (vFun_iff R A S bs).1 hv
  have hs := spill_pc (nb := bs.length) hp.sp n hn
  have hg0 : GOk bs.length ⟨spillG c.sp n, [], [], []⟩ := by
    have h : GOk bs.length (addT (pT (spillG c.sp n)) ⟨[], [], [], []⟩) := GOk.addAll ⟨fun i hi => (by cases hi), rfl, fun b hb => (by cases hb), fun j hj => (by cases hj)⟩ hs.all
    rw [← emit_add] at h
    exact h
  have hgok := blks_gok hp h5 hg0 bs.length (Nat.le_refl _)
  have hsl : (allG c n bs).starts = (List.range bs.length).map fun j => (((blksG c bs j ⟨spillG c.sp n, [], [], []⟩).code.length : Nat) : Int) := blks_starts c bs _ _
  refine ⟨fun j hj => ?_, fun k => ?_, blks_sz2 hp h5 hn hb ht (Nat.le_refl _)⟩
  · obtain ⟨a, k, e, ha, hk, _⟩ := hgok.brs ((allG c n bs).brs[j]) (List.getElem_mem hj)
    refine ⟨a, k, ?_, ha, by rw [hsl]; simpa using hk⟩
    rw [List.getD_eq_getElem?_getD, List.getElem?_eq_getElem hj]; exact e
  · rw [hsl]
    by_cases hk : k < bs.length
    · have := (blks_sz2 hp h5 hn hb ht (Nat.le_of_lt hk)).1
      simp [List.getD_eq_getElem?_getD, hk]
      omega
    · simp [List.getD_eq_getElem?_getD, hk]
end
end Go.Proofs.YtkcfbonchhidlaaGreatDoor

set_option linter.unusedVariables false
set_option linter.unusedSimpArgs false
namespace Go.Proofs.YtkcfbonchhidlaaGreatDoor
open Go.RowKit Go.Maps

structure TkOk (w : World) (av bv : Value) (A : List Arr) (bs : List IBlk) : Prop where
  a : ArsAt w av A
  b : BksAt w bv bs
  nm : ∀ k, k < A.length → (A.getD k default).1.size ≤ maxLen
  ins : ∀ k, k < bs.length → ∀ j, j < (bs.getD k default).code.length → ((bs.getD k default).code.getD j default).sym.size ≤ maxLen ∧ ((bs.getD k default).code.getD j default).op < 256
  ex : ∀ k, k < bs.length → -9223372036854775808 ≤ (bs.getD k default).x ∧ (bs.getD k default).x ≤ 9223372036854775807
  la : A.length ≤ 8
  lb : bs.length ≤ 20
  lt : sumC bs bs.length ≤ 300
  tz : TabZ w
theorem mentC_all {P : ByteArray → Prop} (l : List Arr) (c : List IIns) (hl : ∀ a ∈ l, P a.1) (h : ∀ j, j < c.length → P (c.getD j default).sym) : ∀ k, k ≤ c.length → ∀ a ∈ mentC l c k, P a.1
  | 0, _ => hl
  | k + 1, hk => by
    have ih := mentC_all l c hl h k (by omega)
    show ∀ a ∈ mentI (mentC l c k) (c.getD k default), P a.1
    unfold mentI
    split
    · intro a ha
      rcases List.mem_append.1 ha with ha | ha
      · exact ih a ha
      · rw [List.mem_singleton] at ha
        subst ha
        exact h k (by omega)
    · exact ih
theorem mentB_all {P : ByteArray → Prop} (bs : List IBlk) (h : ∀ k, k < bs.length → ∀ j, j < (bs.getD k default).code.length → P ((bs.getD k default).code.getD j default).sym) : ∀ n, n ≤ bs.length → ∀ a ∈ mentB bs n, P a.1
  | 0, _ => fun a ha => by cases ha
  | n + 1, hn => mentC_all _ _ (mentB_all bs h n (by omega)) (h n (by omega)) _ (Nat.le_refl _)
theorem mentB_len (bs : List IBlk) : ∀ n, (mentB bs n).length ≤ sumC bs n
  | 0 => Nat.le_refl _
  | n + 1 => Nat.le_trans (mentC_len _ _ _) (Nat.add_le_add_right (mentB_len bs n) _)
section
variable {w w' : World} {av bv : Value} {A : List Arr} {bs : List IBlk}
theorem TkOk.below (h : TkOk w av bv A bs) (hb : Below w.heap.size w w') : TkOk w' av bv A bs := ⟨h.a.below hb (Nat.le_refl _), h.b.below hb (Nat.le_refl _), h.nm, h.ins, h.ex, h.la, h.lb, h.lt, h.tz.of_below hb⟩
theorem sum_le (bs : List IBlk) {k : Nat} (hk : k ≤ bs.length) : sumC bs k ≤ sumC bs bs.length := by
  have := sumC_le bs (bs.length - k) k
  rwa [show k + (bs.length - k) = bs.length by omega] at this
theorem TkOk.cl (h : TkOk w av bv A bs) {k : Nat} (hk : k < bs.length) : (bs.getD k default).code.length ≤ 300 := by
  have h1 := sum_le bs (show k + 1 ≤ bs.length by omega)
  have h2 := h.lt
  have h3 : sumC bs (k + 1) = sumC bs k + (bs.getD k default).code.length := rfl
  omega
theorem TkOk.fn (h : TkOk w av bv A bs) : FnOk A (mentB bs bs.length) bs := by
  refine ⟨h.nm, fun k hk => ?_, h.ins, h.ex⟩
  refine mentB_all (P := fun s => s.size ≤ maxLen) bs (fun k hk j hj => (h.ins k hk j hj).1) bs.length (Nat.le_refl _) _ ?_
  rw [List.getD_eq_getElem?_getD, List.getElem?_eq_getElem hk]; exact List.getElem_mem hk
theorem TkOk.ment (h : TkOk w av bv A bs) (nm : ByteArray) (R : Int) {ap : Option Addr} {an ac : Nat} :
    Calls Tryz.prog 18 #[.agg #[.string nm, .int .i64 R, .slice ap an ac, bv]] w fun e w' => ∃ v, e = .returned v ∧ ArsAt w' v (mentB bs bs.length) ∧ Below w.heap.size w w' :=
  (ment_any nm R ap an ac bv bs w h.b h.ins (fun k hk => by have := mentB_len bs k; have := sum_le bs hk; have := h.lt; omega) (by have := h.lb; omega) (fun k hk => by have := h.cl hk; omega)).mono fun e w' ⟨v, e1, ho, hb⟩ => ⟨v, e1, ArsAt.of_own ho, hb⟩
theorem TkOk.valid (h : TkOk w av bv A bs) (nm : ByteArray) (R : Int) {sv : Value} (hs : ArsAt w sv (mentB bs bs.length)) :
    Calls Tryz.prog 17 #[.agg #[.string nm, .int .i64 R, av, bv], sv] w fun e w' => e = .returned (.bool (vFun R A (mentB bs bs.length) bs)) ∧ Below w.heap.size w w' :=
  irValid_any nm R av bv sv A _ bs w h.a hs h.b h.fn (by have := h.la; omega) (by have := mentB_len bs bs.length; have := h.lt; omega) (by have := h.lb; omega) (fun k hk => by have := h.cl hk; omega)
end
theorem run_object {fn : Func} {p u : Tmp} (hr : fn.results = #[.cell p 50, .tmp u]) (hag : ∀ w : World, (isAgg 50).run Tryz.prog w = .ok true w) (hsz : ∀ w : World, (sizeOf 50).run Tryz.prog w = .ok 4 w) (tmps : Array Value) (w : World) (b : Nat) (v0 v1 v2 v3 r : Value)
    (hp : tmps.getD p undef = .pointer (some ⟨b, 0, none⟩)) (hu : tmps.getD u undef = r) (h0 : w.cell? ⟨b, 0, none⟩ = some v0) (h1 : w.cell? ⟨b, 1, none⟩ = some v1) (h2 : w.cell? ⟨b, 2, none⟩ = some v2) (h3 : w.cell? ⟨b, 3, none⟩ = some v3) : (results fn tmps).run Tryz.prog w = .ok (.tuple #[.agg #[v0, v1, v2, v3], r]) w := by
  have hl : ∀ j v, [v0, v1, v2, v3][j]? = some v → w.cell? ((⟨b, 0, none⟩ : Addr).add j) = some v := by
    intro j v hj
    match j, hj with
    | 0, hj => obtain rfl : v0 = v := by simpa using hj
               exact h0
    | 1, hj => obtain rfl : v1 = v := by simpa using hj
               exact h1
    | 2, hj => obtain rfl : v2 = v := by simpa using hj
               exact h2
    | 3, hj => obtain rfl : v3 = v := by simpa using hj
               exact h3
    | j + 4, hj => simp at hj
  rw [results_cell_tmp hr, hp, hu]
  simp only [asAddr, loadVar, Sem.run_bind, Sem.run_pure, Result.andThen, hag, hsz, if_true]
  have e := run_loadCells_list (P := Tryz.prog) _ ⟨b, 0, none⟩ [v0, v1, v2, v3] hl
  simp only [List.length_cons, List.length_nil] at e
  simp [e]
end Go.Proofs.YtkcfbonchhidlaaGreatDoor

