import Derived.Test.YtkcfbonchhidlaaGreatDoorMs20
import Derived.Test.YtkcfbonchhidlaaGreatDoorMs23
import Derived.Test.YtkcfbonchhidlaaGreatDoorMs34
set_option linter.unusedVariables false
set_option linter.unusedSimpArgs false
namespace Go.Proofs.YtkcfbonchhidlaaGreatDoor
open Go.RowKit Go.Maps

def giV (i : GI) : List Value := [.int .u8 i.op, .int .i64 i.a, .int .i64 i.b, .int .i64 i.c, .int .i64 i.imm]
def codeV (l : List GI) : List Value := l.flatMap giV
theorem codeV_len (l : List GI) : (codeV l).length = l.length * 5 := by
  induction l with
  | nil => rfl
  | cons a l ih =>
    show (giV a ++ codeV l).length = _
    rw [List.length_append, List.length_cons, ih]
    show 5 + l.length * 5 = _
    omega
theorem codeV_app (l t : List GI) : codeV (l ++ t) = codeV l ++ codeV t := by simp [codeV]
def GsRd (w : World) (v : Value) (l : List GI) : Prop :=
  ∃ p cap, v = .slice p l.length cap ∧ (l = [] ∨ ∃ m off, p = some ⟨m, off, none⟩ ∧ m < w.heap.size ∧ ∀ j u, (codeV l)[j]? = some u → w.cell? ⟨m, off + j, none⟩ = some u)
theorem GsRd.nil (w : World) : GsRd w (.slice none 0 0) [] := ⟨none, 0, rfl, .inl rfl⟩
theorem GsRd.below {B : Nat} {w w' : World} {v : Value} {l : List GI} (h : GsRd w v l) (hb : Below B w w') (hB : w.heap.size ≤ B) : GsRd w' v l := by
  obtain ⟨p, cap, rfl, h⟩ := h
  refine ⟨p, cap, rfl, h.imp id ?_⟩
  rintro ⟨m, off, rfl, hm, hx⟩
  exact ⟨m, off, rfl, Nat.lt_of_lt_of_le hm hb.size, fun j u hj => (hb.cell (p := ⟨m, off + j, none⟩) (Nat.lt_of_lt_of_le hm hB)).trans (hx j u hj)⟩
theorem GsRd.made (w : World) (l : List GI) (cs : Array Value) (t : TypeId) (n : Nat) (h : cs.toList = codeV l) (hn : n = l.length) : GsRd (w.alloc (.cells cs t)) (.slice (some ⟨w.heap.size, 0, none⟩) n n) l := by
  subst hn
  refine ⟨_, _, rfl, .inr ⟨w.heap.size, 0, rfl, by simp, fun j u hj => ?_⟩⟩
  rw [Nat.zero_add]
  unfold World.cell?
  rw [heap_alloc_new w]
  rw [← h] at hj
  simpa using hj
theorem low14 (n : Int) : bits .and .i32 n 16383 = n % 16384 := by
  have h1 : ((BitVec.ofInt 32 n).toNat : Int) = n % 4294967296 := by
    rw [BitVec.toNat_ofInt]
    have := Int.emod_nonneg n (show (4294967296 : Int) ≠ 0 by decide)
    rw [Int.toNat_of_nonneg (by simpa using this)]
    rfl
  have h2 : (BitVec.ofInt 32 (16383 : Int)).toNat = 2 ^ 14 - 1 := by decide
  show IntKind.i32.wrap ((BitVec.ofInt 32 n &&& BitVec.ofInt 32 16383).toNat : Int) = _
  rw [BitVec.toNat_and, h2, Nat.and_two_pow_sub_one_eq_mod]
  have h3 : (((BitVec.ofInt 32 n).toNat % 2 ^ 14 : Nat) : Int) = n % 16384 := by
    have e : (((BitVec.ofInt 32 n).toNat % 2 ^ 14 : Nat) : Int) = ((BitVec.ofInt 32 n).toNat : Int) % 16384 := by omega
    rw [e, h1]; omega
  rw [h3]
  have h4 := Int.emod_nonneg n (show (16384 : Int) ≠ 0 by decide)
  have h5 := Int.emod_lt_of_pos n (show (0 : Int) < 16384 by decide)
  rw [IntKind.wrap_i32]
  omega

set_option maxHeartbeats 1600000 in
set_option maxRecDepth 20000 in
theorem const_any (r n : Int) (w : World) (hn : -2147483648 ≤ n ∧ n ≤ 2147483647) :
    Calls Tryz.prog 5 #[.int .i64 r, .int .i32 n] w fun e w' => ∃ v, e = .returned v ∧ GsRd w' v (constG r n) ∧ Below w.heap.size w w' := by
  by_cases h1 : r < 1
  · have HE := Lib.hid (show constG r n = [] from if_pos (.inl h1))
    go_enter Tryz.func5, Tryz.ntmps5
    go_wp2_with fail
    go_ret
    exact ⟨_, rfl, by rw [HE.out]; exact GsRd.nil _, Below.refl _ _⟩
  · have h1I : ¬ r < 1 := h1
    by_cases h2 : 16 ≤ r
    · have HE := Lib.hid (show constG r n = [] from if_pos (.inr h2))
      go_enter Tryz.func5, Tryz.ntmps5
      go_wp2_with fail
      go_ret
      exact ⟨_, rfl, by rw [HE.out]; exact GsRd.nil _, Below.refl _ _⟩
    · have h2I : ¬ r ≥ 16 := h2
      by_cases h3 : -131072 ≤ n
      · by_cases h4 : n < 131072
        · have HE := Lib.hid (show constG r n = [⟨14, r, 0, 0, n⟩] by unfold constG; rw [if_neg (by omega), if_pos (by omega)])
          go_enter Tryz.func5, Tryz.ntmps5
          go_wp2_with fail
          go_ret
          exact ⟨_, rfl, by rw [HE.out]; exact GsRd.made w _ _ _ 1 rfl rfl, bAlloc (Nat.le_refl _) (Below.refl _ _)⟩
        · have HE := Lib.hid (show constG r n = [⟨14, r, 0, 0, n / 16384⟩, ⟨16, r, r, 0, 14⟩, ⟨17, r, r, 0, n % 16384⟩] by unfold constG; rw [if_neg (by omega), if_neg (by omega)])
          go_enter Tryz.func5, Tryz.ntmps5
          have hb := low14 n
          have hw : wrap64 (n % 16384) = n % 16384 := by unfold wrap64; omega
          go_wp2_with fail
          go_ret
          exact ⟨_, rfl, by rw [HE.out]; exact GsRd.made w _ _ _ 3 (by simp [codeV, giV, hb, hw]) rfl, bAlloc (Nat.le_refl _) (Below.refl _ _)⟩
      · have HE := Lib.hid (show constG r n = [⟨14, r, 0, 0, n / 16384⟩, ⟨16, r, r, 0, 14⟩, ⟨17, r, r, 0, n % 16384⟩] by unfold constG; rw [if_neg (by omega), if_neg (by omega)])
        have hb := low14 n
        have hw : wrap64 (n % 16384) = n % 16384 := by unfold wrap64; omega
        go_enter Tryz.func5, Tryz.ntmps5
        go_wp2_with fail
        go_ret
        exact ⟨_, rfl, by rw [HE.out]; exact GsRd.made w _ _ _ 3 (by simp [codeV, giV, hb, hw]) rfl, bAlloc (Nat.le_refl _) (Below.refl _ _)⟩
end Go.Proofs.YtkcfbonchhidlaaGreatDoor

set_option linter.unusedVariables false
set_option linter.unusedSimpArgs false
namespace Go.Proofs.YtkcfbonchhidlaaGreatDoor
open Go.RowKit Go.Maps

theorem own0_ge {w : World} {B : Nat} {e : TypeId} {size : Nat} {v : Value} {n : Nat} {xs : List Value} (h : w.ownsRow B e size v n xs) {k : Nat} (hk : v.ownBlock = some k) : B ≤ k := by
  rcases h.2 with ⟨rfl, _⟩ | ⟨g', cap, cur, rfl, hb, hc, _⟩
  · cases hk
  · cases hk; exact hb
def addrs (A : List Arr) (k : Nat) : List Int := (List.range k).map (addrG A)
theorem addrs_next (A : List Arr) (k : Nat) : addrs A (k + 1) = addrs A k ++ [addrG A k] := by
  unfold addrs
  rw [List.range_succ, List.map_append]; rfl
theorem addrs_len (A : List Arr) (k : Nat) : (addrs A k).length = k := by simp [addrs]
theorem addrG_bd {A : List Arr} (h : ∀ k, k < A.length → (A.getD k default).2 ≤ 1073741824) : ∀ k, k ≤ A.length → 0 ≤ addrG A k ∧ addrG A k ≤ (k : Int) * 1073741824
  | 0, _ => by simp [addrG]
  | k + 1, hk => by
    have h1 := addrG_bd h k (by omega)
    have h2 := h k (by omega)
    show 0 ≤ addrG A k + max _ 0 ∧ addrG A k + max _ 0 ≤ _
    omega

set_option maxHeartbeats 1600000 in
set_option maxRecDepth 20000 in
theorem layout_any (av : Value) (A : List Arr) (w : World) (hA : ArsAt w av A) (hl : A.length ≤ 1000) (hm : ∀ k, k < A.length → (A.getD k default).2 ≤ 1073741824) (hlo : ∀ k, k < A.length → -9223372036854775808 ≤ (A.getD k default).2) :
    Calls Tryz.prog 20 #[av] w fun e w' => ∃ v, e = .returned (.tuple #[v, .int .i64 (addrG A A.length)]) ∧ w'.ownsRow w.heap.size 3 1 v (addrs A A.length).length ((addrs A A.length).map (Value.int .i64)) ∧ Below w.heap.size w w' := by
  obtain ⟨ap, ac, rfl⟩ := hA.shape
  have HA := Lib.hid hA
  have HM := Lib.hid hm
  have HBD := Lib.hid (addrG_bd hm)
  clear hA hm
  go_enter Tryz.func20, Tryz.ntmps20
  go_wp2_with fail
  go_loopw [4, 5, 10] (fun s4 s5 s10 wx => ∃ k : Nat, s10 = .int .i64 k ∧ s5 = .int .i64 (addrG A k) ∧ k ≤ A.length ∧ Hid (wx.ownsRow w.heap.size 3 1 s4 (addrs A k).length ((addrs A k).map (Value.int .i64))) ∧ Hid (Below w.heap.size w wx)) (fun _ _ s10 _ => A.length - (intOf s10).toNat)
  case atStart => exact ⟨0, rfl, rfl, Nat.zero_le _, World.ownsRow_nil _ _ _ _, Below.refl _ _⟩
  case round =>
    obtain ⟨k, rfl, rfl, hk, HO, HB⟩ := hrel
    obtain ⟨w1, rfl⟩ : ∃ W : World, W = wr := ⟨_, rfl⟩
    have hs1 := HB.out.size
    by_cases hlt : k < A.length
    · have hltI : (k : Int) < A.length := by omega
      obtain ⟨_, _, e1, hen⟩ := HA.out.below HB.out (Nat.le_refl _)
      injection e1 with e1 e2 e3
      subst e1
      obtain ⟨m, off, rfl, hm, n0, n1⟩ := hen k hlt
      clear hen e2 e3
      have h1 := HM.out k hlt
      have h2 := HBD.out k hk
      have h3 := hlo k hlt
      have HNX := Lib.hid (addrs_next A k)
      have HAX := Lib.hid (show addrG A (k + 1) = addrG A k + max (A.getD k default).2 0 from rfl)
      have hal : (addrs A k).length + 1 ≤ 1000000 := by rw [addrs_len]; omega
      generalize A.getD k default = en at n0 n1 h1 h3 HAX
      obtain ⟨s, ln⟩ := en
      simp only at n0 n1 h1 h3 HAX
      generalize addrG A k = x at h2 HNX HAX ⊢
      generalize addrs A k = L at HO HNX hal
      have hwr : IntKind.i64.wrap (x + max ln 0) = x + max ln 0 := IntWalk.i64_in _ (by omega)
      have HOA := Lib.hid (show ∀ o o' : Obj, ((w1.alloc o).alloc o').ownsRow w.heap.size 3 1 _ L.length (L.map (Value.int .i64)) from fun o o' => own0_block HO.out fun b hb => (show Below w1.heap.size w1 ((w1.alloc o).alloc o') from bAlloc (by simp) (bAlloc (Nat.le_refl _) (Below.refl _ _))).block b (own0_lt HO.out hb))
      go_wp2_with (first | (at_builtin; refine wpList_append_one rfl _ _ rfl w.heap.size _ L rfl (HOA.out _ _) (w1.heap.size + 1) 1 x rfl (by simp [go_sem]) hal (by simp; omega) ?_))
      intro p c' w2 hO hgr hd
      have HO2 : Hid (w2.ownsRow w.heap.size 3 1 (.slice p (L.length + 1) c') (L ++ [x]).length ((L ++ [x]).map (Value.int .i64))) := (show World.ownsRow _ _ _ _ _ _ _ by rw [List.length_append, List.map_append]; exact hO)
      have hbe := hgr.block w1.heap.size (by simp; omega) (fun e => by have := own0_lt HO.out e.symm; omega)
      have e0 : w2.cell? ⟨w1.heap.size, 1, none⟩ = some (.int .i64 ln) := (World.cell?_of_block (a := ⟨w1.heap.size, 1, none⟩) hbe).trans (by simp [go_sem])
      have el : w1.heap.size < w2.heap.size := by have := hgr.size; simp at this; omega
      have hB2 : Below w.heap.size w w2 := HB.out.trans ((show Below w.heap.size w1 _ from bAlloc (by simp; omega) (bAlloc (by omega) (Below.refl _ _))).trans ⟨hgr.os, hgr.tape, hgr.output, hgr.size, fun b hb => hgr.block b (by simp; omega) (fun e => by have := own0_ge HO.out e.symm; omega)⟩)
      have HB2 := Lib.hid hB2
      clear hO hgr hd hbe hB2 n0 n1 hm
      go_wp2_with fail
      go_roundw
      case rel => exact ⟨k + 1, by go_num, by rw [HAX.out], by omega, by rw [HNX.out]; exact HO2.out, HB2⟩
      case measure => simp [intOf]; omega
    · have hkn : k = A.length := by omega
      subst hkn
      go_wp2_with fail
      go_ret2
      exact ⟨_, rfl, HO.out, HB.out⟩
end Go.Proofs.YtkcfbonchhidlaaGreatDoor

set_option linter.unusedVariables false
set_option linter.unusedSimpArgs false
namespace Go.Proofs.YtkcfbonchhidlaaGreatDoor
open Go.RowKit Go.Maps

def arrV (l : List Arr) : List Value := l.flatMap fun a => [Value.string a.1, Value.int .i64 a.2]
theorem arrV_push (l : List Arr) (a : Arr) : arrV (l ++ [a]) = arrV l ++ [.string a.1, .int .i64 a.2] := by simp [arrV]
def isS (n : Nat) : Bool := decide (n = 6 ∨ n = 7 ∨ n = 11 ∨ n = 12)
def onL (l : List Arr) : Kinds := fun s => if l.any (fun a => decide (a.1 = s)) then some true else none
theorem onL_push (l : List Arr) (s : ByteArray) (n : Int) : onL (l ++ [(s, n)]) = updK (onL l) s true := by
  funext t
  unfold onL updK
  rw [List.any_append]
  by_cases h : t = s
  · subst h; simp
  · have h2 : ¬ s = t := fun e => h e.symm
    have h3 : ([(s, n)] : List Arr).any (fun a => decide (a.1 = t)) = false := by simp [h2]
    simp only [h3, Bool.or_false, if_neg h]
def mentI (l : List Arr) (i : IIns) : List Arr := if isS i.op = true ∧ (onL l i.sym).isSome = false then l ++ [(i.sym, 1)] else l
def mentC (l : List Arr) (c : List IIns) : Nat → List Arr
  | 0 => l
  | k + 1 => mentI (mentC l c k) (c.getD k default)
def mentB (bs : List IBlk) : Nat → List Arr
  | 0 => []
  | k + 1 => mentC (mentB bs k) (bs.getD k default).code (bs.getD k default).code.length
theorem mentI_len (l : List Arr) (i : IIns) : (mentI l i).length ≤ l.length + 1 := by
  unfold mentI
  split
  · rw [List.length_append]; exact Nat.le_refl _
  · omega
theorem mentC_len (l : List Arr) (c : List IIns) : ∀ k, (mentC l c k).length ≤ l.length + k
  | 0 => Nat.le_refl _
  | k + 1 => Nat.le_trans (mentI_len _ _) (by have := mentC_len l c k; omega)
theorem infoAr : (Tryz.prog.info? 97).map (fun i => (i.zero, i.size, i.bytes)) = some (some (.agg #[.string .empty, .int .i64 0]), 2, 24) := by kernel_rfl

theorem RowC2.grown {w w' : World} {b m : Nat} {l : List Value} (h : RowC2 w b l) (hg : w.grownBy w' (some m)) (hne : b ≠ m) : RowC2 w' b l := by
  have e := hg.block b h.1 (fun e => hne (by injection e))
  refine ⟨Nat.lt_of_lt_of_le h.1 hg.size, fun k v hv => ?_⟩
  have := h.2 k v hv
  simp only [World.cell?] at this ⊢
  rw [e]; exact this

structure MnAt (B : Nat) (W0 : World) (mb n : Nat) (l : List Arr) (col : Nat → Nat) (w : World) (v : Value) : Prop where
  row : OwnC 97 2 col 2 w v l.length (arrV l)
  mp : MpAt w mb n (mapK (onL l))
  cm : col mb = 6
  low : ∀ k, k < B → col k = 0
  bel : Below B W0 w
  big : B ≤ w.heap.size
def MnRel (B : Nat) (W0 : World) (mb n : Nat) (l : List Arr) (v : Value) (w : World) : Prop := ∃ col, MnAt B W0 mb n l col w v
section
variable {B mb n : Nat} {W0 w w' : World} {l : List Arr} {v : Value}
theorem MnRel.keep (h : MnRel B W0 mb n l v w) (hb : Below w.heap.size w w') : MnRel B W0 mb n l v w' := by
  obtain ⟨col, h⟩ := h
  exact ⟨paint col w.heap.size 0, h.row.other (c' := 0) (Touch.of_below hb) (by decide), h.mp.of_block (hb.block _ h.mp.lt), by rw [paint_lt h.mp.lt]; exact h.cm, low_paint h.low h.big, h.bel.trans (hb.mono h.big), Nat.le_trans h.big hb.size⟩
theorem MnRel.bel (h : MnRel B W0 mb n l v w) : Below B W0 w := by
  obtain ⟨col, h⟩ := h
  exact h.bel
theorem MnRel.mp (h : MnRel B W0 mb n l v w) : MpAt w mb n (mapK (onL l)) := by
  obtain ⟨col, h⟩ := h
  exact h.mp
theorem MnRel.own (h : MnRel B W0 mb n l v w) (hb : Below w.heap.size w w') : w'.ownsRow 0 97 2 v l.length (arrV l) := by
  obtain ⟨col, h⟩ := h
  exact own0_block h.row.1 fun b hk => hb.block b (own0_lt h.row.1 hk)
theorem MnRel.own_put (h : MnRel B W0 mb n l v w) {w1 w2 : World} (hg : w.grownBy w1 (some mb)) (hb : Below w1.heap.size w1 w2) : w2.ownsRow 0 97 2 v l.length (arrV l) := by
  obtain ⟨col, h⟩ := h
  have ht : Touch col 6 w w1 := Touch.of_grown hg fun k hk => by cases hk; exact h.cm
  have hr1 := h.row.other ht (by decide)
  exact own0_block hr1.1 fun b hk => hb.block b (own0_lt hr1.1 hk)
theorem MnRel.push (h : MnRel B W0 mb n l v w) {w1 w2 w3 : World} {n' : Nat} {v' : Value} {s : ByteArray} (hm : MpAt w1 mb n' (updF (mapK (onL l)) s (.bool true))) (hg : w.grownBy w1 (some mb)) (hb : Below w1.heap.size w1 w2) (hg2 : w2.grownBy w3 v.ownBlock)
    (hv : w3.ownsRow 0 97 2 v' (l.length + 1) (arrV l ++ [.string s, .int .i64 1])) (hk : v'.ownBlock = v.ownBlock ∨ ∀ k, v'.ownBlock = some k → w2.heap.size ≤ k) : MnRel B W0 mb n' (l ++ [(s, 1)]) v' w3 := by
  obtain ⟨col, h⟩ := h
  have ht : Touch col 6 w w1 := Touch.of_grown hg fun k hk => by cases hk; exact h.cm
  have hr1 := h.row.other ht (by decide)
  obtain ⟨hr3, ht3⟩ := hr1.push hb hg2 hv hk
  have hml := h.mp.lt
  have hml1 : mb < w1.heap.size := Nat.lt_of_lt_of_le hml ht.size
  have hcm : paint col w.heap.size 6 mb = 6 := by rw [paint_lt hml]; exact h.cm
  refine ⟨_, by rw [List.length_append, arrV_push]; exact hr3, ?_, by rw [paint_lt hml1]; exact hcm, low_paint (low_paint h.low h.big) (Nat.le_trans h.big ht.size), h.bel.trans ((ht.below h.big fun k hk e => by rw [h.low k hk] at e; cases e).trans (ht3.below (Nat.le_trans h.big ht.size) fun k hk e => by rw [low_paint h.low h.big k hk] at e; cases e)), Nat.le_trans (Nat.le_trans h.big ht.size) ht3.size⟩
  rw [onL_push, ← mapK_upd]
  exact hm.of_block (ht3.block mb hml1 (by rw [hcm]; decide))
end

set_option maxHeartbeats 12800000 in
set_option maxRecDepth 40000 in
theorem ment_any (nm : ByteArray) (R : Int) (ap : Option Addr) (an ac : Nat) (bv : Value) (bs : List IBlk) (w : World) (hB : BksAt w bv bs) (hok : ∀ k, k < bs.length → ∀ j, j < (bs.getD k default).code.length → ((bs.getD k default).code.getD j default).sym.size ≤ maxLen ∧ ((bs.getD k default).code.getD j default).op < 256) (htot : ∀ k, k ≤ bs.length → (mentB bs k).length ≤ 10000) (hbl : bs.length ≤ 1000) (hcl : ∀ k, k < bs.length → (bs.getD k default).code.length ≤ 1000) :
    Calls Tryz.prog 18 #[.agg #[.string nm, .int .i64 R, .slice ap an ac, bv]] w fun e w' => ∃ v, e = .returned v ∧ w'.ownsRow 0 97 2 v (mentB bs bs.length).length (arrV (mentB bs bs.length)) ∧ Below w.heap.size w w' := by
  obtain ⟨bp, bc, rfl⟩ := hB.shape
  have hmm := @run_makeMap Tryz.prog
  have hb0 : Below w.heap.size w (w.alloc (.cells #[.string nm, .int .i64 R, .slice ap an ac, .slice bp bs.length bc] 61)) := bAlloc (Nat.le_refl _) (Below.refl _ _)
  have HF := Lib.hid (show RowC2 (w.alloc (.cells #[.string nm, .int .i64 R, .slice ap an ac, .slice bp bs.length bc] 61)) w.heap.size [.string nm, .int .i64 R, .slice ap an ac, .slice bp bs.length bc] from RowC2.made w _ 61)
  have HBK := Lib.hid (hB.below hb0 (Nat.le_refl _))
  have HOK := Lib.hid hok
  have HCL := Lib.hid hcl
  have HTO := Lib.hid htot
  have HB0 := Lib.hid hb0
  clear hB hok hcl hb0 htot
  go_enter Tryz.func18, Tryz.ntmps18
  go_upto_region 2 with fail
  generalize w.alloc (.cells #[.string nm, .int .i64 R, .slice ap an ac, .slice bp bs.length bc] 61) = w0 at HBK HB0 HF ⊢
  have f3 := HF.out.at 3 rfl
  have fl := HF.out.lt
  have HV0 := Lib.hid (show MnRel w0.heap.size w0 w0.heap.size 0 [] (.slice none 0 0) (w0.alloc (.map #[] 0)) from ⟨fun k => if k < w0.heap.size then 0 else 6, OwnC.nil _ _ _ _ _, MpAt.made w0, by simp, fun k hk => if_pos hk, bAlloc (Nat.le_refl _) (Below.refl _ _), by simp⟩)
  go_wp2_with fail
  clear f3 fl
  go_loopw [3, 13] (fun s3 s13 wx => ∃ k : Nat, s13 = .int .i64 k ∧ k ≤ bs.length ∧ Hid (∃ n, n ≤ (mentB bs k).length ∧ MnRel w0.heap.size w0 w0.heap.size n (mentB bs k) s3 wx)) (fun _ s13 _ => bs.length - (intOf s13).toNat)
  case atStart => exact ⟨0, rfl, Nat.zero_le _, 0, Nat.zero_le _, HV0.out⟩
  case round =>
    clear HV0
    obtain ⟨k, rfl, hk, HV⟩ := hrel
    obtain ⟨w1, rfl⟩ : ∃ W : World, W = wr := ⟨_, rfl⟩
    obtain ⟨n, hn, hV⟩ := HV.out
    have HV1 := Lib.hid hV
    clear hV HV
    by_cases hlt : k < bs.length
    · skip
      have hltI : (k : Int) < bs.length := by omega
      have hck := HCL.out k hlt
      have HIK := Lib.hid (HOK.out k hlt)
      have hto := HTO.out (k + 1) hlt
      have htk := HTO.out k hk
      have HMB := Lib.hid (show mentB bs (k + 1) = mentC (mentB bs k) (bs.getD k default).code (bs.getD k default).code.length from rfl)
      obtain ⟨_, _, e1, hen⟩ := HBK.out
      injection e1 with e1 e2 e3
      subst e1
      obtain ⟨m, off, cp, cc, rfl, hm, hins, n0, n1, n2, n3, n4⟩ := hen k hlt
      clear hen e2 e3
      rw [← HV1.out.bel.cell (p := ⟨m, off + k * 5, none⟩) hm] at n0
      rw [← HV1.out.bel.cell (p := ⟨m, off + k * 5 + 1, none⟩) hm] at n1
      rw [← HV1.out.bel.cell (p := ⟨m, off + k * 5 + 2, none⟩) hm] at n2
      rw [← HV1.out.bel.cell (p := ⟨m, off + k * 5 + 3, none⟩) hm] at n3
      rw [← HV1.out.bel.cell (p := ⟨m, off + k * 5 + 4, none⟩) hm] at n4
      have hm1 : m < w1.heap.size := Nat.lt_of_lt_of_le hm HV1.out.bel.size
      generalize bs.getD k default = en at n0 n1 n2 n3 n4 hins hck HIK HMB
      obtain ⟨code, kind, x, tg, els⟩ := en
      simp only at n0 n1 n2 n3 n4 hins hck HMB
      generalize mentB bs k = l0 at HV1 HMB htk hn
      have HV2 := Lib.hid (HV1.out.keep (w' := w1.alloc (.cells #[.slice cp code.length cc, .int .u8 kind, .int .i64 x, .int .i64 tg, .int .i64 els] 57)) (bAlloc (Nat.le_refl _) (Below.refl _ _)))
      have HRB : Hid (RowC2 (w1.alloc (.cells #[.slice cp code.length cc, .int .u8 kind, .int .i64 x, .int .i64 tg, .int .i64 els] 57)) w1.heap.size [.slice cp code.length cc, .int .u8 kind, .int .i64 x, .int .i64 tg, .int .i64 els]) := RowC2.made w1 [.slice cp code.length cc, .int .u8 kind, .int .i64 x, .int .i64 tg, .int .i64 els] 57
      have HI1 := Lib.hid hins
      clear hins HV1
      go_upto_region 6 with fail
      generalize w1.alloc (.cells #[.slice cp code.length cc, .int .u8 kind, .int .i64 x, .int .i64 tg, .int .i64 els] 57) = w2 at HV2 HRB ⊢
      clear n0 n1 n2 n3 n4 hm hm1
      have q0 := HRB.out.at 0 rfl
      have ql := HRB.out.lt
      go_wp2_with fail
      clear q0 ql
      go_loopw [3, 20] (fun s3 s20 wx => ∃ j : Nat, s20 = .int .i64 j ∧ j ≤ code.length ∧ Hid (∃ n', n' ≤ (mentC l0 code j).length ∧ MnRel w0.heap.size w0 w0.heap.size n' (mentC l0 code j) s3 wx)) (fun _ s20 _ => code.length - (intOf s20).toNat)
      case atStart => exact ⟨0, rfl, Nat.zero_le _, n, hn, HV2.out⟩
      case round =>
        clear HV2 hn
        obtain ⟨j, rfl, hj, HV⟩ := hrel
        obtain ⟨w3, rfl⟩ : ∃ W : World, W = wr := ⟨_, rfl⟩
        obtain ⟨n1, hn, hV⟩ := HV.out
        have HV3 := Lib.hid hV
        clear hV HV
        by_cases hltj : j < code.length
        · skip
          have hltJ : (j : Int) < code.length := by omega
          obtain ⟨hsy, hop⟩ := HIK.out j hltj
          have hml := mentC_len l0 code j
          have HMI := Lib.hid (show mentC l0 code (j + 1) = mentI (mentC l0 code j) (code.getD j default) from rfl)
          obtain ⟨_, _, e1, hen⟩ := HI1.out.below HV3.out.bel (Nat.le_refl _)
          injection e1 with e1 e2 e3
          subst e1
          obtain ⟨m2, off2, rfl, hm2, n0, n1', n2, n3, n4, n5⟩ := hen j hltj
          clear hen e2 e3
          generalize code.getD j default = ii at n0 n1' n2 n3 n4 n5 hsy hop HMI
          obtain ⟨op, dst, xx, yy, imm, sym⟩ := ii
          simp only at n0 n1' n2 n3 n4 n5 hsy hop
          generalize mentC l0 code j = l1 at HV3 HMI hml hn
          have HV4 := Lib.hid (HV3.out.keep (w' := w3.alloc (.cells #[.int .u8 op, .int .i64 dst, .int .i64 xx, .int .i64 yy, .int .i64 imm, .string sym] 54)) (bAlloc (Nat.le_refl _) (Below.refl _ _)))
          have hl := HV4.out.mp.look (t := 112) (e := 4) Tryz.underlying112 (zeroB _) sym hsy
          rw [(mapK_get (onL l1) sym).1] at hl
          have HON := Lib.hid (show (onL l1 sym).getD false = (onL l1 sym).isSome by unfold onL; split <;> rfl)
          rw [HON.out] at hl
          have HM1 : Hid (isS op = true → (onL l1 sym).isSome = false → mentC l0 code (j + 1) = l1 ++ [(sym, 1)]) := (show _ → _ → _ from fun h1 h2 => by rw [HMI.out]; exact if_pos ⟨h1, h2⟩)
          have HM2 : Hid (isS op = false ∨ (onL l1 sym).isSome = true → mentC l0 code (j + 1) = l1) := (show _ → _ from fun h => by rw [HMI.out]; exact if_neg (fun h2 => by rcases h with h | h; simp_all; simp_all))
          clear HMI HON
          generalize (onL l1 sym).isSome = t at hl HM1 HM2
          rcases (show op = 6 ∨ op = 7 ∨ op = 11 ∨ op = 12 ∨ (op ≠ 6 ∧ op ≠ 7 ∧ op ≠ 11 ∧ op ≠ 12) by omega) with g | g | g | g | ⟨g6, g7, g11, g12⟩
          · cases t
            · skip
              have HME := Lib.hid (HM1.out (by subst g; decide) rfl)
              clear HM1 HM2
              have f6 : ((op : Int) == 6) = true := beq_iff_eq.2 (by omega)
              clear g
              have hmp := HV4.out.mp
              go_wp2_with (first | (at_mapUpdate; refine wpList_put_mp rfl _ _ _ 112 4 rfl Tryz.underlying112 w0.heap.size n1 (mapK (onL l1)) hmp rfl sym rfl hsy (by omega) (.bool true) rfl ?_))
              intro w4 hmp4 hgr4
              have HBB := Lib.hid (show Below w4.heap.size w4 (w4.alloc (.cells #[.string sym, .int .i64 1] 97)) from bAlloc (Nat.le_refl _) (Below.refl _ _))
              have HO := Lib.hid (HV4.out.own_put hgr4 HBB.out)
              have HG := Lib.hid hmp4
              have HGR := Lib.hid hgr4
              have HW := Lib.hid ((RowC2.made w3 [.int .u8 op, .int .i64 dst, .int .i64 xx, .int .i64 yy, .int .i64 imm, .string sym] 54).grown hgr4 (Nat.ne_of_gt HV3.out.mp.lt))
              have q5 := HW.out.at 5 rfl
              have ql := HW.out.lt
              clear hmp4 hgr4 hmp hl
              go_wp2_with (first | (at_builtin; refine wpList_append_els rfl _ _ 59 97 (.agg #[.string .empty, .int .i64 0]) 2 24 rfl Tryz.underlying59 infoAr rfl (by decide) (by decide) u3 l1.length _ rfl HO.out w4.heap.size 1 [.string sym, .int .i64 1] rfl rfl (RowC2.made w4 [.string sym, .int .i64 1] 97).2 (by simp [Value.oneCell']) (by omega) ?_))
              intro pp qq w5 hO hgr hd
              have HK := Lib.hid (HV4.out.push HG.out HGR.out HBB.out hgr hO (hd.imp id fun h b e => by have := h b e; simp at this ⊢; omega))
              clear hO hgr hd HO HG HGR HBB
              go_wp2_with fail
              go_roundw
              case rel => exact ⟨j + 1, by go_num, by omega, n1 + 1, by rw [HME.out, List.length_append]; exact Nat.succ_le_succ hn, by rw [HME.out]; exact HK.out⟩
              case measure => simp [intOf]; omega
            · skip
              have HME := Lib.hid (HM2.out (.inr rfl))
              clear HM1 HM2
              have f6 : ((op : Int) == 6) = true := beq_iff_eq.2 (by omega)
              clear g
              go_wp2_with fail
              go_roundw
              case rel => exact ⟨j + 1, by go_num, by omega, n1, by rw [HME.out]; exact hn, by rw [HME.out]; exact HV4.out⟩
              case measure => simp [intOf]; omega
          · cases t
            · skip
              have HME := Lib.hid (HM1.out (by subst g; decide) rfl)
              clear HM1 HM2
              have f6 : ((op : Int) == 6) = false := beq_eq_false_iff_ne.2 (by omega)
              have f7 : ((op : Int) == 7) = true := beq_iff_eq.2 (by omega)
              clear g
              have hmp := HV4.out.mp
              go_wp2_with (first | (at_mapUpdate; refine wpList_put_mp rfl _ _ _ 112 4 rfl Tryz.underlying112 w0.heap.size n1 (mapK (onL l1)) hmp rfl sym rfl hsy (by omega) (.bool true) rfl ?_))
              intro w4 hmp4 hgr4
              have HBB := Lib.hid (show Below w4.heap.size w4 (w4.alloc (.cells #[.string sym, .int .i64 1] 97)) from bAlloc (Nat.le_refl _) (Below.refl _ _))
              have HO := Lib.hid (HV4.out.own_put hgr4 HBB.out)
              have HG := Lib.hid hmp4
              have HGR := Lib.hid hgr4
              have HW := Lib.hid ((RowC2.made w3 [.int .u8 op, .int .i64 dst, .int .i64 xx, .int .i64 yy, .int .i64 imm, .string sym] 54).grown hgr4 (Nat.ne_of_gt HV3.out.mp.lt))
              have q5 := HW.out.at 5 rfl
              have ql := HW.out.lt
              clear hmp4 hgr4 hmp hl
              go_wp2_with (first | (at_builtin; refine wpList_append_els rfl _ _ 59 97 (.agg #[.string .empty, .int .i64 0]) 2 24 rfl Tryz.underlying59 infoAr rfl (by decide) (by decide) u3 l1.length _ rfl HO.out w4.heap.size 1 [.string sym, .int .i64 1] rfl rfl (RowC2.made w4 [.string sym, .int .i64 1] 97).2 (by simp [Value.oneCell']) (by omega) ?_))
              intro pp qq w5 hO hgr hd
              have HK := Lib.hid (HV4.out.push HG.out HGR.out HBB.out hgr hO (hd.imp id fun h b e => by have := h b e; simp at this ⊢; omega))
              clear hO hgr hd HO HG HGR HBB
              go_wp2_with fail
              go_roundw
              case rel => exact ⟨j + 1, by go_num, by omega, n1 + 1, by rw [HME.out, List.length_append]; exact Nat.succ_le_succ hn, by rw [HME.out]; exact HK.out⟩
              case measure => simp [intOf]; omega
            · skip
              have HME := Lib.hid (HM2.out (.inr rfl))
              clear HM1 HM2
              have f6 : ((op : Int) == 6) = false := beq_eq_false_iff_ne.2 (by omega)
              have f7 : ((op : Int) == 7) = true := beq_iff_eq.2 (by omega)
              clear g
              go_wp2_with fail
              go_roundw
              case rel => exact ⟨j + 1, by go_num, by omega, n1, by rw [HME.out]; exact hn, by rw [HME.out]; exact HV4.out⟩
              case measure => simp [intOf]; omega
          · cases t
            · skip
              have HME := Lib.hid (HM1.out (by subst g; decide) rfl)
              clear HM1 HM2
              have f6 : ((op : Int) == 6) = false := beq_eq_false_iff_ne.2 (by omega)
              have f7 : ((op : Int) == 7) = false := beq_eq_false_iff_ne.2 (by omega)
              have f11 : ((op : Int) == 11) = true := beq_iff_eq.2 (by omega)
              clear g
              have hmp := HV4.out.mp
              go_wp2_with (first | (at_mapUpdate; refine wpList_put_mp rfl _ _ _ 112 4 rfl Tryz.underlying112 w0.heap.size n1 (mapK (onL l1)) hmp rfl sym rfl hsy (by omega) (.bool true) rfl ?_))
              intro w4 hmp4 hgr4
              have HBB := Lib.hid (show Below w4.heap.size w4 (w4.alloc (.cells #[.string sym, .int .i64 1] 97)) from bAlloc (Nat.le_refl _) (Below.refl _ _))
              have HO := Lib.hid (HV4.out.own_put hgr4 HBB.out)
              have HG := Lib.hid hmp4
              have HGR := Lib.hid hgr4
              have HW := Lib.hid ((RowC2.made w3 [.int .u8 op, .int .i64 dst, .int .i64 xx, .int .i64 yy, .int .i64 imm, .string sym] 54).grown hgr4 (Nat.ne_of_gt HV3.out.mp.lt))
              have q5 := HW.out.at 5 rfl
              have ql := HW.out.lt
              clear hmp4 hgr4 hmp hl
              go_wp2_with (first | (at_builtin; refine wpList_append_els rfl _ _ 59 97 (.agg #[.string .empty, .int .i64 0]) 2 24 rfl Tryz.underlying59 infoAr rfl (by decide) (by decide) u3 l1.length _ rfl HO.out w4.heap.size 1 [.string sym, .int .i64 1] rfl rfl (RowC2.made w4 [.string sym, .int .i64 1] 97).2 (by simp [Value.oneCell']) (by omega) ?_))
              intro pp qq w5 hO hgr hd
              have HK := Lib.hid (HV4.out.push HG.out HGR.out HBB.out hgr hO (hd.imp id fun h b e => by have := h b e; simp at this ⊢; omega))
              clear hO hgr hd HO HG HGR HBB
              go_wp2_with fail
              go_roundw
              case rel => exact ⟨j + 1, by go_num, by omega, n1 + 1, by rw [HME.out, List.length_append]; exact Nat.succ_le_succ hn, by rw [HME.out]; exact HK.out⟩
              case measure => simp [intOf]; omega
            · skip
              have HME := Lib.hid (HM2.out (.inr rfl))
              clear HM1 HM2
              have f6 : ((op : Int) == 6) = false := beq_eq_false_iff_ne.2 (by omega)
              have f7 : ((op : Int) == 7) = false := beq_eq_false_iff_ne.2 (by omega)
              have f11 : ((op : Int) == 11) = true := beq_iff_eq.2 (by omega)
              clear g
              go_wp2_with fail
              go_roundw
              case rel => exact ⟨j + 1, by go_num, by omega, n1, by rw [HME.out]; exact hn, by rw [HME.out]; exact HV4.out⟩
              case measure => simp [intOf]; omega
          · cases t
            · skip
              have HME := Lib.hid (HM1.out (by subst g; decide) rfl)
              clear HM1 HM2
              have f6 : ((op : Int) == 6) = false := beq_eq_false_iff_ne.2 (by omega)
              have f7 : ((op : Int) == 7) = false := beq_eq_false_iff_ne.2 (by omega)
              have f11 : ((op : Int) == 11) = false := beq_eq_false_iff_ne.2 (by omega)
              have f12 : ((op : Int) == 12) = true := beq_iff_eq.2 (by omega)
              clear g
              have hmp := HV4.out.mp
              go_wp2_with (first | (at_mapUpdate; refine wpList_put_mp rfl _ _ _ 112 4 rfl Tryz.underlying112 w0.heap.size n1 (mapK (onL l1)) hmp rfl sym rfl hsy (by omega) (.bool true) rfl ?_))
              intro w4 hmp4 hgr4
              have HBB := Lib.hid (show Below w4.heap.size w4 (w4.alloc (.cells #[.string sym, .int .i64 1] 97)) from bAlloc (Nat.le_refl _) (Below.refl _ _))
              have HO := Lib.hid (HV4.out.own_put hgr4 HBB.out)
              have HG := Lib.hid hmp4
              have HGR := Lib.hid hgr4
              have HW := Lib.hid ((RowC2.made w3 [.int .u8 op, .int .i64 dst, .int .i64 xx, .int .i64 yy, .int .i64 imm, .string sym] 54).grown hgr4 (Nat.ne_of_gt HV3.out.mp.lt))
              have q5 := HW.out.at 5 rfl
              have ql := HW.out.lt
              clear hmp4 hgr4 hmp hl
              go_wp2_with (first | (at_builtin; refine wpList_append_els rfl _ _ 59 97 (.agg #[.string .empty, .int .i64 0]) 2 24 rfl Tryz.underlying59 infoAr rfl (by decide) (by decide) u3 l1.length _ rfl HO.out w4.heap.size 1 [.string sym, .int .i64 1] rfl rfl (RowC2.made w4 [.string sym, .int .i64 1] 97).2 (by simp [Value.oneCell']) (by omega) ?_))
              intro pp qq w5 hO hgr hd
              have HK := Lib.hid (HV4.out.push HG.out HGR.out HBB.out hgr hO (hd.imp id fun h b e => by have := h b e; simp at this ⊢; omega))
              clear hO hgr hd HO HG HGR HBB
              go_wp2_with fail
              go_roundw
              case rel => exact ⟨j + 1, by go_num, by omega, n1 + 1, by rw [HME.out, List.length_append]; exact Nat.succ_le_succ hn, by rw [HME.out]; exact HK.out⟩
              case measure => simp [intOf]; omega
            · skip
              have HME := Lib.hid (HM2.out (.inr rfl))
              clear HM1 HM2
              have f6 : ((op : Int) == 6) = false := beq_eq_false_iff_ne.2 (by omega)
              have f7 : ((op : Int) == 7) = false := beq_eq_false_iff_ne.2 (by omega)
              have f11 : ((op : Int) == 11) = false := beq_eq_false_iff_ne.2 (by omega)
              have f12 : ((op : Int) == 12) = true := beq_iff_eq.2 (by omega)
              clear g
              go_wp2_with fail
              go_roundw
              case rel => exact ⟨j + 1, by go_num, by omega, n1, by rw [HME.out]; exact hn, by rw [HME.out]; exact HV4.out⟩
              case measure => simp [intOf]; omega
          · skip
            have HME := Lib.hid (HM2.out (.inl (decide_eq_false (by omega))))
            clear HM1 HM2
            have f6 : ((op : Int) == 6) = false := beq_eq_false_iff_ne.2 (by omega)
            have f7 : ((op : Int) == 7) = false := beq_eq_false_iff_ne.2 (by omega)
            have f11 : ((op : Int) == 11) = false := beq_eq_false_iff_ne.2 (by omega)
            have f12 : ((op : Int) == 12) = false := beq_eq_false_iff_ne.2 (by omega)
            go_wp2_with fail
            go_roundw
            case rel => exact ⟨j + 1, by go_num, by omega, n1, by rw [HME.out]; exact hn, by rw [HME.out]; exact HV4.out⟩
            case measure => simp [intOf]; omega
        · skip
          have hjn : j = code.length := by omega
          subst hjn
          go_wp2_with fail
          go_roundw
          case rel => exact ⟨k + 1, by go_num, by omega, n1, by rw [HMB.out]; exact hn, by rw [HMB.out]; exact HV3.out⟩
          case measure => simp [intOf]; omega
    · skip
      have hkn : k = bs.length := by omega
      subst hkn
      go_wp2_with fail
      go_ret
      exact ⟨_, rfl, HV1.out.own (Below.refl _ _), HB0.out.trans (HV1.out.bel.mono HB0.out.size)⟩
end Go.Proofs.YtkcfbonchhidlaaGreatDoor

