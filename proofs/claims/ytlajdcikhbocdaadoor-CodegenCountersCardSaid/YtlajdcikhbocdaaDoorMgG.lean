import Derived.Test.YtlajdcikhbocdaaDoorMgR
import Derived.Test.YtlajdcikhbocdaaDoorTou
/- codegen.Task in plain words: the code of a function whose virtual registers have places. No walk here. -/
set_option linter.unusedVariables false
set_option linter.unusedSimpArgs false
namespace Go.Proofs.YtlajdcikhbocdaaDoor
open Go.RowKit

/-- A machine instruction. -/
structure GI where
  op : Nat
  a : Int
  b : Int
  c : Int
  imm : Int
instance : Inhabited GI := ⟨⟨0, 0, 0, 0, 0⟩⟩
/-- A reference: where, to which shared object, whether by its lock. -/
structure GR where
  at' : Int
  nm : ByteArray
  lk : Bool
instance : Inhabited GR := ⟨⟨0, ⟨#[]⟩, false⟩⟩
structure Gen where
  code : List GI
  refs : List GR
  starts : List Int
  brs : List (Int × Int)
/-- Where virtual registers lie, the first spill slot, the addresses of the arrays. -/
structure Cfg where
  P : List (Int × Int)
  sp : Int
  ar : ByteArray → Int
def emitG (l : List GI) (g : Gen) : Gen := { g with code := g.code ++ l }
def referG (i : GI) (nm : ByteArray) (g : Gen) : Gen := emitG [i] { g with refs := g.refs ++ [⟨g.code.length, nm, decide (i.op = 28 ∨ i.op = 29)⟩] }
def jumpG (i : GI) (k : Int) (g : Gen) : Gen := emitG [i] { g with brs := g.brs ++ [((g.code.length : Int), k)] }
def placeG (c : Cfg) (v : Int) : Int × Int := c.P.getD v.toNat (0, 0)
def readG (c : Cfg) (v scr : Int) (g : Gen) : Int × Gen :=
  if (placeG c v).1 ≠ 0 then ((placeG c v).1, g) else (scr, emitG [⟨18, scr, 0, 0, c.sp + (placeG c v).2⟩] g)
def writeG (c : Cfg) (v : Int) (set : Int → Gen → Gen) (g : Gen) : Gen :=
  if (placeG c v).1 ≠ 0 then set (placeG c v).1 g else emitG [⟨19, 1, 0, 0, c.sp + (placeG c v).2⟩] (set 1 g)
/-- Instructions that set a register to a constant. -/
def constG (r n : Int) : List GI :=
  if r < 1 ∨ 16 ≤ r then []
  else if -131072 ≤ n ∧ n < 131072 then [⟨14, r, 0, 0, n⟩]
  else [⟨14, r, 0, 0, n / 16384⟩, ⟨16, r, r, 0, 14⟩, ⟨17, r, r, 0, n % 16384⟩]
/-- The operator of kind k on x and y into r. -/
def operG (k : Nat) (r x y : Int) : List GI :=
  if 6 ≤ k ∧ k ≤ 16 then [⟨k - 4, r, x, y, 0⟩]
  else if k = 17 then [⟨12, 15, x, y, 0⟩, ⟨12, r, 15, 0, 0⟩]
  else if k = 18 then [⟨13, r, x, y, 0⟩]
  else if k = 20 then [⟨13, r, y, x, 0⟩]
  else if k = 19 then [⟨13, 15, y, x, 0⟩, ⟨12, r, 15, 0, 0⟩]
  else if k = 21 then [⟨13, 15, x, y, 0⟩, ⟨12, r, 15, 0, 0⟩]
  else if k = 22 then [⟨12, 15, x, 0, 0⟩, ⟨12, 14, y, 0, 0⟩, ⟨8, 15, 15, 14, 0⟩, ⟨12, r, 15, 0, 0⟩]
  else if k = 23 then [⟨8, 15, x, y, 0⟩, ⟨12, 15, 15, 0, 0⟩, ⟨12, r, 15, 0, 0⟩]
  else []
/-- The code of one instruction. -/
def insG (c : Cfg) (i : IIns) (g : Gen) : Gen :=
  if i.op = 1 then writeG c i.dst (fun r => emitG (constG r i.imm)) g
  else if i.op = 2 then
    if placeG c i.dst = placeG c i.x then g
    else let x := readG c i.x 1 g; writeG c i.dst (fun r => if r ≠ x.1 then emitG [⟨15, r, x.1, 0, 0⟩] else id) x.2
  else if i.op = 3 then
    let x := readG c i.x 1 g; let y := readG c i.y 14 x.2; writeG c i.dst (fun r => emitG (operG i.imm.toNat r x.1 y.1)) y.2
  else if i.op = 4 then let x := readG c i.x 1 g; writeG c i.dst (fun r => emitG [⟨18, r, x.1, 0, c.ar i.sym⟩]) x.2
  else if i.op = 6 then let x := readG c i.x 1 g; writeG c i.dst (fun r => referG ⟨20, r, x.1, 0, 0⟩ i.sym) x.2
  else if i.op = 5 ∨ i.op = 7 then
    let x := readG c i.x 1 g; let y := readG c i.y 14 x.2
    if i.op = 5 then emitG [⟨19, y.1, x.1, 0, c.ar i.sym⟩] y.2 else referG ⟨21, y.1, x.1, 0, 0⟩ i.sym y.2
  else if i.op = 8 then let x := readG c i.x 1 g; emitG [⟨25, x.1, 0, 0, i.imm⟩] x.2
  else if i.op = 9 then writeG c i.dst (fun r => emitG [⟨26, r, 0, 0, i.imm⟩]) g
  else if i.op = 10 then let x := readG c i.x 1 g; emitG [⟨27, x.1, 0, 0, i.imm⟩] x.2
  else if i.op = 11 then referG ⟨28, 0, 0, 0, 0⟩ i.sym g
  else if i.op = 12 then referG ⟨29, 0, 0, 0, 0⟩ i.sym g
  else if i.op = 13 then emitG [⟨14, 10 + i.imm, 0, 0, 0⟩] g
  else if i.op = 14 then emitG [⟨15, 10 + i.imm, 10 + i.imm, 0, 1⟩] g
  else if i.op = 15 then writeG c i.dst (fun r => emitG [⟨15, r, 10 + i.imm, 0, 0⟩]) g
  else if i.op = 16 then emitG [⟨25, 10 + i.x, 0, 0, i.imm⟩] g
  else g
/-- The code of the end of a block; next: the block behind it. -/
def endG (c : Cfg) (b : IBlk) (next : Int) (g : Gen) : Gen :=
  if b.kind = 3 then emitG [⟨1, 0, 0, 0, 0⟩] g
  else if b.kind = 2 ∧ b.to ≠ b.els then
    let x := readG c b.x 1 g
    if b.to = next then jumpG ⟨22, x.1, 0, 0, 0⟩ b.els x.2
    else
      let h := jumpG ⟨23, x.1, 0, 0, 0⟩ b.to x.2
      if b.els ≠ next then jumpG ⟨24, 0, 0, 0, 0⟩ b.els h else h
  else if b.to ≠ next then jumpG ⟨24, 0, 0, 0, 0⟩ b.to g
  else g
def codeG (c : Cfg) (l : List IIns) (g : Gen) : Gen := l.foldl (fun g i => insG c i g) g
def blkG (c : Cfg) (b : IBlk) (k : Nat) (g : Gen) : Gen := endG c b ((k : Int) + 1) (codeG c b.code { g with starts := g.starts ++ [(g.code.length : Int)] })
def blksG (c : Cfg) (bs : List IBlk) : Nat → Gen → Gen
  | 0, g => g
  | k + 1, g => blkG c (bs.getD k default) k (blksG c bs k g)
def spillG (sp : Int) (n : Nat) : List GI := (List.range n).map fun (k : Nat) => ⟨19, 0, 0, 0, sp + k⟩
def allG (c : Cfg) (n : Nat) (bs : List IBlk) : Gen := blksG c bs bs.length ⟨spillG c.sp n, [], [], []⟩
/-- The branches' operands. -/
def fixG (starts : List Int) (code : List GI) (b : Int × Int) : List GI :=
  code.set b.1.toNat { code.getD b.1.toNat default with imm := starts.getD b.2.toNat 0 - b.1 - 1 }
def resG (g : Gen) : List GI := g.brs.foldl (fixG g.starts) g.code
/-- Addresses of arrays. -/
def addrG (A : List Arr) : Nat → Int
  | 0 => 0
  | k + 1 => addrG A k + max (A.getD k default).2 0
def arG (A : List Arr) : Nat → ByteArray → Int
  | 0 => fun _ => 0
  | k + 1 => fun s => if s = (A.getD k default).1 then addrG A k else arG A k s
end Go.Proofs.YtlajdcikhbocdaaDoor

/- codegen.Constant and codegen.Layout, by their contracts; slices of machine instructions that can be read. -/
set_option linter.unusedVariables false
set_option linter.unusedSimpArgs false
namespace Go.Proofs.YtlajdcikhbocdaaDoor
open Go.RowKit Go.Maps

def giV (i : GI) : List Value := [.int .u8 i.op, .int .i64 i.a, .int .i64 i.b, .int .i64 i.c, .int .i64 i.imm]
def codeV (l : List GI) : List Value := l.flatMap giV
theorem codeV_len (l : List GI) : (codeV l).length = l.length * 5 := by
  induction l with
  | nil => rfl
  | cons a l ih =>
    show (giV a ++ codeV l).length = _
    rw [List.length_append, List.length_cons, ih]
    show 5 + l.length * 5 = _
    omega
theorem codeV_app (l t : List GI) : codeV (l ++ t) = codeV l ++ codeV t := by simp [codeV]
/-- A slice of machine instructions that can be read: its cells, one after the other. -/
def GsRd (w : World) (v : Value) (l : List GI) : Prop :=
  ∃ p cap, v = .slice p l.length cap ∧ (l = [] ∨ ∃ m off, p = some ⟨m, off, none⟩ ∧ m < w.heap.size ∧ ∀ j u, (codeV l)[j]? = some u → w.cell? ⟨m, off + j, none⟩ = some u)
theorem GsRd.nil (w : World) : GsRd w (.slice none 0 0) [] := ⟨none, 0, rfl, .inl rfl⟩
theorem GsRd.below {B : Nat} {w w' : World} {v : Value} {l : List GI} (h : GsRd w v l) (hb : Below B w w') (hB : w.heap.size ≤ B) : GsRd w' v l := by
  obtain ⟨p, cap, rfl, h⟩ := h
  refine ⟨p, cap, rfl, h.imp id ?_⟩
  rintro ⟨m, off, rfl, hm, hx⟩
  exact ⟨m, off, rfl, Nat.lt_of_lt_of_le hm hb.size, fun j u hj => (hb.cell (p := ⟨m, off + j, none⟩) (Nat.lt_of_lt_of_le hm hB)).trans (hx j u hj)⟩
/-- A row of instructions as it is built. -/
theorem GsRd.made (w : World) (l : List GI) (cs : Array Value) (t : TypeId) (n : Nat) (h : cs.toList = codeV l) (hn : n = l.length) : GsRd (w.alloc (.cells cs t)) (.slice (some ⟨w.heap.size, 0, none⟩) n n) l := by
  subst hn
  refine ⟨_, _, rfl, .inr ⟨w.heap.size, 0, rfl, by simp, fun j u hj => ?_⟩⟩
  rw [Nat.zero_add]
  unfold World.cell?
  rw [heap_alloc_new w]
  rw [← h] at hj
  simpa using hj
/-- The low bits of a number. -/
theorem low14 (n : Int) : bits .and .i32 n 16383 = n % 16384 := by
  have h1 : ((BitVec.ofInt 32 n).toNat : Int) = n % 4294967296 := by
    rw [BitVec.toNat_ofInt]
    have := Int.emod_nonneg n (show (4294967296 : Int) ≠ 0 by decide)
    rw [Int.toNat_of_nonneg (by simpa using this)]
    rfl
  have h2 : (BitVec.ofInt 32 (16383 : Int)).toNat = 2 ^ 14 - 1 := by decide
  show IntKind.i32.wrap ((BitVec.ofInt 32 n &&& BitVec.ofInt 32 16383).toNat : Int) = _
  rw [BitVec.toNat_and, h2, Nat.and_two_pow_sub_one_eq_mod]
  have h3 : (((BitVec.ofInt 32 n).toNat % 2 ^ 14 : Nat) : Int) = n % 16384 := by
    have e : (((BitVec.ofInt 32 n).toNat % 2 ^ 14 : Nat) : Int) = ((BitVec.ofInt 32 n).toNat : Int) % 16384 := by omega
    rw [e, h1]; omega
  rw [h3]
  have h4 := Int.emod_nonneg n (show (16384 : Int) ≠ 0 by decide)
  have h5 := Int.emod_lt_of_pos n (show (0 : Int) < 16384 by decide)
  rw [IntKind.wrap_i32]
  omega

set_option maxHeartbeats 1600000 in
set_option maxRecDepth 20000 in
theorem const_any (r n : Int) (w : World) (hn : -2147483648 ≤ n ∧ n ≤ 2147483647) :
    Calls Tryd.prog 21 #[.int .i64 r, .int .i32 n] w fun e w' => ∃ v, e = .returned v ∧ GsRd w' v (constG r n) ∧ Below w.heap.size w w' := by
  by_cases h1 : r < 1
  · have HE := Lib.hid (show constG r n = [] from if_pos (.inl h1))
    go_enter Tryd.func21, Tryd.ntmps21
    go_wp2_with fail
    go_ret
    exact ⟨_, rfl, by rw [HE.out]; exact GsRd.nil _, Below.refl _ _⟩
  · have h1I : ¬ r < 1 := h1
    by_cases h2 : 16 ≤ r
    · have HE := Lib.hid (show constG r n = [] from if_pos (.inr h2))
      go_enter Tryd.func21, Tryd.ntmps21
      go_wp2_with fail
      go_ret
      exact ⟨_, rfl, by rw [HE.out]; exact GsRd.nil _, Below.refl _ _⟩
    · have h2I : ¬ r ≥ 16 := h2
      by_cases h3 : -131072 ≤ n
      · by_cases h4 : n < 131072
        · have HE := Lib.hid (show constG r n = [⟨14, r, 0, 0, n⟩] by unfold constG; rw [if_neg (by omega), if_pos (by omega)])
          go_enter Tryd.func21, Tryd.ntmps21
          go_wp2_with fail
          go_ret
          exact ⟨_, rfl, by rw [HE.out]; exact GsRd.made w _ _ _ 1 rfl rfl, bAlloc (Nat.le_refl _) (Below.refl _ _)⟩
        · have HE := Lib.hid (show constG r n = [⟨14, r, 0, 0, n / 16384⟩, ⟨16, r, r, 0, 14⟩, ⟨17, r, r, 0, n % 16384⟩] by unfold constG; rw [if_neg (by omega), if_neg (by omega)])
          go_enter Tryd.func21, Tryd.ntmps21
          have hb := low14 n
          have hw : wrap64 (n % 16384) = n % 16384 := by unfold wrap64; omega
          go_wp2_with fail
          go_ret
          exact ⟨_, rfl, by rw [HE.out]; exact GsRd.made w _ _ _ 3 (by simp [codeV, giV, hb, hw]) rfl, bAlloc (Nat.le_refl _) (Below.refl _ _)⟩
      · have HE := Lib.hid (show constG r n = [⟨14, r, 0, 0, n / 16384⟩, ⟨16, r, r, 0, 14⟩, ⟨17, r, r, 0, n % 16384⟩] by unfold constG; rw [if_neg (by omega), if_neg (by omega)])
        have hb := low14 n
        have hw : wrap64 (n % 16384) = n % 16384 := by unfold wrap64; omega
        go_enter Tryd.func21, Tryd.ntmps21
        go_wp2_with fail
        go_ret
        exact ⟨_, rfl, by rw [HE.out]; exact GsRd.made w _ _ _ 3 (by simp [codeV, giV, hb, hw]) rfl, bAlloc (Nat.le_refl _) (Below.refl _ _)⟩
end Go.Proofs.YtlajdcikhbocdaaDoor

/- codegen.Layout, by its contract. -/
set_option linter.unusedVariables false
set_option linter.unusedSimpArgs false
namespace Go.Proofs.YtlajdcikhbocdaaDoor
open Go.RowKit Go.Maps

theorem own0_ge {w : World} {B : Nat} {e : TypeId} {size : Nat} {v : Value} {n : Nat} {xs : List Value} (h : w.ownsRow B e size v n xs) {k : Nat} (hk : v.ownBlock = some k) : B ≤ k := by
  rcases h.2 with ⟨rfl, _⟩ | ⟨g', cap, cur, rfl, hb, hc, _⟩
  · cases hk
  · cases hk; exact hb
/-- The addresses of the first k arrays. -/
def addrs (A : List Arr) (k : Nat) : List Int := (List.range k).map (addrG A)
theorem addrs_next (A : List Arr) (k : Nat) : addrs A (k + 1) = addrs A k ++ [addrG A k] := by
  unfold addrs
  rw [List.range_succ, List.map_append]; rfl
theorem addrs_len (A : List Arr) (k : Nat) : (addrs A k).length = k := by simp [addrs]
theorem addrG_bd {A : List Arr} (h : ∀ k, k < A.length → (A.getD k default).2 ≤ 1073741824) : ∀ k, k ≤ A.length → 0 ≤ addrG A k ∧ addrG A k ≤ (k : Int) * 1073741824
  | 0, _ => by simp [addrG]
  | k + 1, hk => by
    have h1 := addrG_bd h k (by omega)
    have h2 := h k (by omega)
    show 0 ≤ addrG A k + max _ 0 ∧ addrG A k + max _ 0 ≤ _
    omega

set_option maxHeartbeats 1600000 in
set_option maxRecDepth 20000 in
theorem layout_any (av : Value) (A : List Arr) (w : World) (hA : ArsAt w av A) (hl : A.length ≤ 1000) (hm : ∀ k, k < A.length → (A.getD k default).2 ≤ 1073741824) (hlo : ∀ k, k < A.length → -9223372036854775808 ≤ (A.getD k default).2) :
    Calls Tryd.prog 14 #[av] w fun e w' => ∃ v, e = .returned (.tuple #[v, .int .i64 (addrG A A.length)]) ∧ w'.ownsRow w.heap.size 3 1 v (addrs A A.length).length ((addrs A A.length).map (Value.int .i64)) ∧ Below w.heap.size w w' := by
  obtain ⟨ap, ac, rfl⟩ := hA.shape
  have HA := Lib.hid hA
  have HM := Lib.hid hm
  have HBD := Lib.hid (addrG_bd hm)
  clear hA hm
  go_enter Tryd.func14, Tryd.ntmps14
  go_wp2_with fail
  go_loopw [4, 5, 10] (fun s4 s5 s10 wx => ∃ k : Nat, s10 = .int .i64 k ∧ s5 = .int .i64 (addrG A k) ∧ k ≤ A.length ∧ Hid (wx.ownsRow w.heap.size 3 1 s4 (addrs A k).length ((addrs A k).map (Value.int .i64))) ∧ Hid (Below w.heap.size w wx)) (fun _ _ s10 _ => A.length - (intOf s10).toNat)
  case atStart => exact ⟨0, rfl, rfl, Nat.zero_le _, World.ownsRow_nil _ _ _ _, Below.refl _ _⟩
  case round =>
    obtain ⟨k, rfl, rfl, hk, HO, HB⟩ := hrel
    obtain ⟨w1, rfl⟩ : ∃ W : World, W = wr := ⟨_, rfl⟩
    have hs1 := HB.out.size
    by_cases hlt : k < A.length
    · have hltI : (k : Int) < A.length := by omega
      obtain ⟨_, _, e1, hen⟩ := HA.out.below HB.out (Nat.le_refl _)
      injection e1 with e1 e2 e3
      subst e1
      obtain ⟨m, off, rfl, hm, n0, n1⟩ := hen k hlt
      clear hen e2 e3
      have h1 := HM.out k hlt
      have h2 := HBD.out k hk
      have h3 := hlo k hlt
      have HNX := Lib.hid (addrs_next A k)
      have HAX := Lib.hid (show addrG A (k + 1) = addrG A k + max (A.getD k default).2 0 from rfl)
      have hal : (addrs A k).length + 1 ≤ 1000000 := by rw [addrs_len]; omega
      generalize A.getD k default = en at n0 n1 h1 h3 HAX
      obtain ⟨s, ln⟩ := en
      simp only at n0 n1 h1 h3 HAX
      generalize addrG A k = x at h2 HNX HAX ⊢
      generalize addrs A k = L at HO HNX hal
      have hwr : IntKind.i64.wrap (x + max ln 0) = x + max ln 0 := IntWalk.i64_in _ (by omega)
      have HOA := Lib.hid (show ∀ o o' : Obj, ((w1.alloc o).alloc o').ownsRow w.heap.size 3 1 _ L.length (L.map (Value.int .i64)) from fun o o' => own0_block HO.out fun b hb => (show Below w1.heap.size w1 ((w1.alloc o).alloc o') from bAlloc (by simp) (bAlloc (Nat.le_refl _) (Below.refl _ _))).block b (own0_lt HO.out hb))
      go_wp2_with (first | (at_builtin; refine wpList_append_one rfl _ _ rfl w.heap.size _ L rfl (HOA.out _ _) (w1.heap.size + 1) 1 x rfl (by simp [go_sem]) hal (by simp; omega) ?_))
      intro p c' w2 hO hgr hd
      have HO2 : Hid (w2.ownsRow w.heap.size 3 1 (.slice p (L.length + 1) c') (L ++ [x]).length ((L ++ [x]).map (Value.int .i64))) := (show World.ownsRow _ _ _ _ _ _ _ by rw [List.length_append, List.map_append]; exact hO)
      have hbe := hgr.block w1.heap.size (by simp; omega) (fun e => by have := own0_lt HO.out e.symm; omega)
      have e0 : w2.cell? ⟨w1.heap.size, 1, none⟩ = some (.int .i64 ln) := (World.cell?_of_block (a := ⟨w1.heap.size, 1, none⟩) hbe).trans (by simp [go_sem])
      have el : w1.heap.size < w2.heap.size := by have := hgr.size; simp at this; omega
      have hB2 : Below w.heap.size w w2 := HB.out.trans ((show Below w.heap.size w1 _ from bAlloc (by simp; omega) (bAlloc (by omega) (Below.refl _ _))).trans ⟨hgr.os, hgr.tape, hgr.output, hgr.size, fun b hb => hgr.block b (by simp; omega) (fun e => by have := own0_ge HO.out e.symm; omega)⟩)
      have HB2 := Lib.hid hB2
      clear hO hgr hd hbe hB2 n0 n1 hm
      go_wp2_with fail
      go_roundw
      case rel => exact ⟨k + 1, by go_num, by rw [HAX.out], by omega, by rw [HNX.out]; exact HO2.out, HB2⟩
      case measure => simp [intOf]; omega
    · have hkn : k = A.length := by omega
      subst hkn
      go_wp2_with fail
      go_ret2
      exact ⟨_, rfl, HO.out, HB.out⟩
end Go.Proofs.YtlajdcikhbocdaaDoor

