import Derived.Test.YtkcfbonchhidlaaGreatDoorMs00
import Derived.Maps.OwnSet
import Derived.Test.YtkcfbonchhidlaaGreatDoorMs18
set_option linter.unusedVariables false
set_option linter.unusedSimpArgs false
namespace Go.Proofs.YtkcfbonchhidlaaGreatDoor
open Go.RowKit Go.Maps Go.WideMaps

def heldElem (v : Value) : Option (DataW Value × List MemPlace) := some (.held v, [])
def MapAt (w : World) (k : TypeId) (b n : Nat) (D : DataW Value) : Prop := w.ownsMap Tryz.prog k heldElem b n D
theorem MapAt.look {w : World} {k : TypeId} {b n : Nat} {D : DataW Value} {t e : TypeId} {z key : Value} {kl : Lit} (h : MapAt w k b n D) (K : Keyed Tryz.prog k) (ht : Tryz.prog.underlying t = some (.map k e)) (hz : (zeroValue e).run Tryz.prog w = .ok z w) (hkey : keyOf Tryz.prog k key = some kl) :
    ∃ v, (Instr.lookup t (.map (some b)) key false).run Tryz.prog w = .ok v w ∧ DataW.held v = D.atKey kl (.held z) := by
  obtain ⟨es, clock, hb, F, _, rfl⟩ := h
  rcases Maps.fit_look false K ht hz hb F hkey with ⟨hrun, _, hat⟩ | ⟨e0, y, _, _, hrun, hRv, hat, _⟩
  · exact ⟨z, hrun, (hat _).symm⟩
  · refine ⟨e0.val, hrun, ?_⟩
    rw [hat]
    have : y = (.held e0.val, []) := (Option.some.inj hRv).symm
    rw [this]
theorem MapAt.look_at {w : World} {k : TypeId} {b n : Nat} {D : DataW Value} {t e : TypeId} {z key v : Value} {kl : Lit} (h : MapAt w k b n D) (K : Keyed Tryz.prog k) (ht : Tryz.prog.underlying t = some (.map k e)) (hz : (zeroValue e).run Tryz.prog w = .ok z w) (hkey : keyOf Tryz.prog k key = some kl) (hv : D.atKey kl (.held z) = .held v) :
    (Instr.lookup t (.map (some b)) key false).run Tryz.prog w = .ok v w := by
  obtain ⟨u, hu, he⟩ := MapAt.look h K ht hz hkey
  have h2 : u = v := DataW.held.inj (he.trans hv)
  exact h2 ▸ hu
theorem MapAt.below {w w' : World} {k : TypeId} {b n : Nat} {D : DataW Value} (h : MapAt w k b n D) {B : Nat} (hb : Below B w w') (hB : b < B) : MapAt w' k b n D := by
  obtain ⟨es, clock, h1, h2⟩ := h
  exact ⟨es, clock, (hb.block b hB).trans h1, h2⟩
theorem MapAt.lt {w : World} {k : TypeId} {b n : Nat} {D : DataW Value} (h : MapAt w k b n D) : b < w.heap.size := by
  obtain ⟨es, clock, h1, _⟩ := h
  exact (Array.getElem?_eq_some_iff.1 h1).1
theorem MapAt.store {w : World} {k : TypeId} {b n : Nat} {D : DataW Value} {t e : TypeId} {key val : Value} {kl : Lit} (h : MapAt w k b n D) (K : Keyed Tryz.prog k) (ht : Tryz.prog.underlying t = some (.map k e)) (hn : n < 1000) (hkey : keyOf Tryz.prog k key = some kl) :
    ∃ w', (Instr.mapUpdate t (.map (some b)) key val).run Tryz.prog w = .ok () w' ∧ MapAt w' k b (n + 1) (D.put kl (.held val)) ∧ w.grownBy w' (some b) := by
  obtain ⟨w', h1, h2, h3⟩ := World.ownsMap.store h K ht (by unfold maxLen; omega) hkey (d := .held val) (ps := []) rfl
  exact ⟨w', h1, h2, h3.grown⟩
theorem keyS : Keyed Tryz.prog 9 := string_keyed Tryz.underlying9
theorem key_s (s : ByteArray) (h : s.size ≤ maxLen) : keyOf Tryz.prog 9 (.string s) = some (.string s.data.toList) := keyOf_string_mk Tryz.underlying9 h
end Go.Proofs.YtkcfbonchhidlaaGreatDoor

set_option linter.unusedVariables false
set_option linter.unusedSimpArgs false
namespace Go.Proofs.YtkcfbonchhidlaaGreatDoor
open Go.RowKit Go.Maps Go.WideMaps

def keyL (s : ByteArray) : Lit := .string s.data.toList
theorem keyL_inj {a b : ByteArray} (h : keyL a = keyL b) : a = b := by
  obtain ⟨⟨a⟩⟩ := a
  obtain ⟨⟨b⟩⟩ := b
  simp only [keyL, Lit.string.injEq] at h
  subst h; rfl
theorem keyL_is (s : ByteArray) (h : s.size ≤ maxLen) : keyOf Tryz.prog 9 (.string s) = some (keyL s) := key_s s h
def MpAt (w : World) (b n : Nat) (F : ByteArray → Option Value) : Prop :=
  ∃ D : DataW Value, MapAt w 9 b n D ∧ ∀ s, Maps.has D (keyL s) = (F s).isSome ∧ ∀ z, D.atKey (keyL s) (.held z) = .held ((F s).getD z)
def updF (F : ByteArray → Option Value) (s : ByteArray) (v : Value) : ByteArray → Option Value := fun t => if t = s then some v else F t
theorem updF_same (F : ByteArray → Option Value) (s : ByteArray) (v : Value) : updF F s v s = some v := if_pos rfl
theorem updF_ne {F : ByteArray → Option Value} {s t : ByteArray} {v : Value} (h : t ≠ s) : updF F s v t = F t := if_neg h
section
variable {w w' : World} {b n : Nat} {F : ByteArray → Option Value}
theorem MpAt.lt (h : MpAt w b n F) : b < w.heap.size := by
  obtain ⟨D, h1, _⟩ := h
  exact h1.lt
theorem MpAt.of_block (h : MpAt w b n F) (hb : w'.heap[b]? = w.heap[b]?) : MpAt w' b n F := by
  obtain ⟨D, ⟨es, clock, h1, h2⟩, h3⟩ := h
  exact ⟨D, ⟨es, clock, hb.trans h1, h2⟩, h3⟩
theorem MpAt.made (w : World) : MpAt (w.alloc (.map #[] 0)) w.heap.size 0 (fun _ => none) :=
  ⟨.map [], World.ownsMap_made w Tryz.prog 9 heldElem, fun s => ⟨rfl, fun z => rfl⟩⟩
theorem MpAt.look {t e : TypeId} (h : MpAt w b n F) (ht : Tryz.prog.underlying t = some (.map 9 e)) {z : Value} (hz : (zeroValue e).run Tryz.prog w = .ok z w) (s : ByteArray) (hs : s.size ≤ maxLen) :
    (Instr.lookup t (.map (some b)) (.string s) false).run Tryz.prog w = .ok ((F s).getD z) w := by
  obtain ⟨D, h1, h2⟩ := h
  exact h1.look_at keyS ht hz (keyL_is s hs) ((h2 s).2 z)
theorem MpAt.look2 {t e : TypeId} (h : MpAt w b n F) (ht : Tryz.prog.underlying t = some (.map 9 e)) {z : Value} (hz : (zeroValue e).run Tryz.prog w = .ok z w) (s : ByteArray) (hs : s.size ≤ maxLen) :
    (Instr.lookup t (.map (some b)) (.string s) true).run Tryz.prog w = .ok (.tuple #[(F s).getD z, .bool (F s).isSome]) w := by
  obtain ⟨D, h1, h2⟩ := h
  obtain ⟨v, ps, hrun, hv⟩ := World.ownsMap.look_ok h1 keyS ht hz (zd := .held z) (zp := []) rfl (keyL_is s hs)
  have h3 : v = (F s).getD z := by
    have e1 : heldElem v = some (.held v, []) := rfl
    rw [e1] at hv
    simp only [Option.some.injEq, Prod.mk.injEq] at hv
    have e2 := hv.1.trans ((h2 s).2 z)
    exact DataW.held.inj e2
  rw [hrun, h3, (h2 s).1]
theorem MpAt.put {t e : TypeId} (h : MpAt w b n F) (ht : Tryz.prog.underlying t = some (.map 9 e)) (s : ByteArray) (hs : s.size ≤ maxLen) (hn : n < 100000) (v : Value) :
    ∃ w', (Instr.mapUpdate t (.map (some b)) (.string s) v).run Tryz.prog w = .ok () w' ∧ MpAt w' b (n + 1) (updF F s v) ∧ w.grownBy w' (some b) := by
  obtain ⟨D, h1, h2⟩ := h
  obtain ⟨w', hr, h3, h4⟩ := World.ownsMap.store h1 keyS ht (by unfold maxLen; omega) (keyL_is s hs) (d := .held v) (ps := []) rfl
  refine ⟨w', hr, ⟨_, h3, fun x => ?_⟩, h4.grown⟩
  by_cases hx : x = s
  · subst hx
    rw [updF_same]
    exact ⟨has_put_same (World.ownsMap.isMap h1) (keyS.key (keyL_is x hs)) _, fun z => atKey_put_same (World.ownsMap.isMap h1) (keyS.key (keyL_is x hs)) _ _⟩
  · have hne : keyL x ≠ keyL s := fun e => hx (keyL_inj e)
    rw [updF_ne hx, has_put_other hne, (h2 x).1]
    exact ⟨rfl, fun z => by rw [atKey_put_other hne]; exact (h2 x).2 z⟩
end
theorem wpList_put_mp {w : World} {ops : Array Oper} {rest : List Oper} {o : Oper} {a : Act} {Q : Exit → Act → World → Prop} (hg : o.guard = none) (m x u : Operand) (t e : TypeId) (hop : o.op = .mapUpdate t m x u)
    (ht : Tryz.prog.underlying t = some (.map 9 e)) (b n : Nat) (F : ByteArray → Option Value) (h : MpAt w b n F) (hm : a.eval m = .map (some b)) (s : ByteArray) (hx : a.eval x = .string s) (hs : s.size ≤ maxLen) (hn : n < 100000) (v : Value) (hv : a.eval u = v)
    (hK : ∀ w', MpAt w' b (n + 1) (updF F s v) → w.grownBy w' (some b) → wpList Tryz.prog ops Q rest (a.put o.dst undef) w') : wpList Tryz.prog ops Q (o :: rest) a w := by
  refine wpList_plain hg fun K hK' => ?_
  obtain ⟨w', hr, h1, h2⟩ := h.put ht s hs hn v
  unfold Oper.wp
  simp [execOp, hop, hm, hx, hv, hr, Result.andThen]
  exact hK' _ _ (hK w' h1 h2)
end Go.Proofs.YtkcfbonchhidlaaGreatDoor

set_option linter.unusedVariables false
set_option linter.unusedSimpArgs false
namespace Go.Proofs.YtkcfbonchhidlaaGreatDoor
open Go.RowKit

abbrev Arr := ByteArray × Int
def ArsAt (w : World) (v : Value) (l : List Arr) : Prop :=
  ∃ p cap, v = .slice p l.length cap ∧ ∀ k, k < l.length → ∃ m off, p = some ⟨m, off, none⟩ ∧ m < w.heap.size ∧ w.cell? ⟨m, off + k * 2, none⟩ = some (.string (l.getD k default).1) ∧ w.cell? ⟨m, off + k * 2 + 1, none⟩ = some (.int .i64 (l.getD k default).2)
theorem ArsAt.below {B : Nat} {w w' : World} {v : Value} {l : List Arr} (h : ArsAt w v l) (hb : Below B w w') (hB : w.heap.size ≤ B) : ArsAt w' v l := by
  obtain ⟨p, cap, hv, hc⟩ := h
  refine ⟨p, cap, hv, fun k hk => ?_⟩
  obtain ⟨m, off, hp, hm, h0, h1⟩ := hc k hk
  have hlt := Nat.lt_of_lt_of_le hm hB
  exact ⟨m, off, hp, Nat.lt_of_lt_of_le hm hb.size, (hb.cell (p := ⟨m, off + k * 2, none⟩) hlt).trans h0, (hb.cell (p := ⟨m, off + k * 2 + 1, none⟩) hlt).trans h1⟩
theorem ArsAt.shape {w : World} {v : Value} {l : List Arr} (h : ArsAt w v l) : ∃ p cap, v = .slice p l.length cap := by
  obtain ⟨p, cap, hv, _⟩ := h
  exact ⟨p, cap, hv⟩

abbrev Kinds := ByteArray → Option Bool
def updK (F : Kinds) (s : ByteArray) (v : Bool) : Kinds := fun t => if t = s then some v else F t
def mapK (F : Kinds) : ByteArray → Option Value := fun s => (F s).map Value.bool
theorem mapK_upd (F : Kinds) (s : ByteArray) (v : Bool) : updF (mapK F) s (.bool v) = mapK (updK F s v) := by
  funext t
  unfold updF mapK updK
  split <;> rfl
theorem mapK_get (F : Kinds) (s : ByteArray) : (mapK F s).getD (.bool false) = .bool ((F s).getD false) ∧ (mapK F s).isSome = (F s).isSome := by
  unfold mapK
  cases F s <;> exact ⟨rfl, rfl⟩
def kinds (F : Kinds) (l : List Arr) (v : Bool) : Nat → Kinds
  | 0 => F
  | k + 1 => updK (kinds F l v k) (l.getD k default).1 v
def kindA (A : List Arr) (k : Nat) : Kinds := kinds (fun _ => none) A true k
def kindS (A S : List Arr) (k : Nat) : Kinds := kinds (kindA A A.length) S false k
def okA (A : List Arr) (k : Nat) : Bool := !((kindA A k) (A.getD k default).1).isSome && decide (1 ≤ (A.getD k default).2 ∧ (A.getD k default).2 ≤ 32)
def okS (A S : List Arr) (k : Nat) : Bool := !((kindS A S k) (S.getD k default).1).isSome

def bw (n lo hi : Int) : Bool := decide (lo ≤ n ∧ n ≤ hi)
def isz (n : Int) : Bool := decide (n = 0)
def vIns (R : Int) (K : Kinds) (i : IIns) : Bool :=
  let ns := i.sym.toList.isEmpty
  let sy := fun b => (K i.sym).isSome && ((K i.sym).getD false == b)
  if i.op = 1 then okR R i.dst && bw i.imm (-2147483648) 2147483647 && isz i.x && isz i.y && ns
  else if i.op = 2 then okR R i.dst && okR R i.x && isz i.y && isz i.imm && ns
  else if i.op = 3 then okR R i.dst && okR R i.x && okR R i.y && bw i.imm 6 23 && ns
  else if i.op = 4 ∨ i.op = 6 then okR R i.dst && okR R i.x && sy (decide (i.op = 4)) && isz i.y && isz i.imm
  else if i.op = 5 ∨ i.op = 7 then okR R i.x && okR R i.y && sy (decide (i.op = 5)) && isz i.dst && isz i.imm
  else if i.op = 8 then okR R i.x && bw i.imm 1 131071 && isz i.dst && isz i.y && ns
  else if i.op = 9 then okR R i.dst && bw i.imm 0 7 && isz i.x && isz i.y && ns
  else if i.op = 10 then okR R i.x && bw i.imm 0 7 && isz i.dst && isz i.y && ns
  else if i.op = 11 ∨ i.op = 12 then sy false && isz i.dst && isz i.x && isz i.y && isz i.imm
  else if i.op = 13 ∨ i.op = 14 then bw i.imm 0 3 && isz i.dst && isz i.x && isz i.y && ns
  else if i.op = 15 then okR R i.dst && bw i.imm 0 3 && isz i.x && isz i.y && ns
  else if i.op = 16 then bw i.x 0 3 && bw i.imm 1 131071 && isz i.dst && isz i.y && ns
  else false
def vEnd (R : Int) (n : Nat) (b : IBlk) : Bool :=
  if b.kind = 1 then okR n b.tgt && isz b.x && isz b.els
  else if b.kind = 2 then okR R b.x && okR n b.tgt && okR n b.els
  else if b.kind = 3 then isz b.x && isz b.tgt && isz b.els
  else false
def vBlk (R : Int) (K : Kinds) (n : Nat) (b : IBlk) : Bool := b.code.all (vIns R K) && vEnd R n b
def vFun (R : Int) (A S : List Arr) (bs : List IBlk) : Bool :=
  decide (bs ≠ []) && decide (0 ≤ R ∧ R ≤ 10000) && decide (A.length ≤ 4) && (List.range A.length).all (okA A) && (List.range S.length).all (okS A S) && bs.all (vBlk R (kindS A S S.length) bs.length)
end Go.Proofs.YtkcfbonchhidlaaGreatDoor

set_option linter.unusedVariables false
set_option linter.unusedSimpArgs false
namespace Go.Proofs.YtkcfbonchhidlaaGreatDoor
open Go.RowKit

structure GI where
  op : Nat
  a : Int
  b : Int
  c : Int
  imm : Int
instance : Inhabited GI := ⟨⟨0, 0, 0, 0, 0⟩⟩
structure GR where
  at' : Int
  nm : ByteArray
  lk : Bool
instance : Inhabited GR := ⟨⟨0, ⟨#[]⟩, false⟩⟩
structure Gen where
  code : List GI
  refs : List GR
  starts : List Int
  brs : List (Int × Int)
structure Cfg where
  P : List (Int × Int)
  sp : Int
  ar : ByteArray → Int
def emitG (l : List GI) (g : Gen) : Gen := { g with code := g.code ++ l }
def referG (i : GI) (nm : ByteArray) (g : Gen) : Gen := emitG [i] { g with refs := g.refs ++ [⟨g.code.length, nm, decide (i.op = 28 ∨ i.op = 29)⟩] }
def jumpG (i : GI) (k : Int) (g : Gen) : Gen := emitG [i] { g with brs := g.brs ++ [((g.code.length : Int), k)] }
def placeG (c : Cfg) (v : Int) : Int × Int := c.P.getD v.toNat (0, 0)
def readG (c : Cfg) (v scr : Int) (g : Gen) : Int × Gen :=
  if (placeG c v).1 ≠ 0 then ((placeG c v).1, g) else (scr, emitG [⟨18, scr, 0, 0, c.sp + (placeG c v).2⟩] g)
def writeG (c : Cfg) (v : Int) (set : Int → Gen → Gen) (g : Gen) : Gen :=
  if (placeG c v).1 ≠ 0 then set (placeG c v).1 g else emitG [⟨19, 1, 0, 0, c.sp + (placeG c v).2⟩] (set 1 g)
def constG (r n : Int) : List GI :=
  if r < 1 ∨ 16 ≤ r then []
  else if -131072 ≤ n ∧ n < 131072 then [⟨14, r, 0, 0, n⟩]
  else [⟨14, r, 0, 0, n / 16384⟩, ⟨16, r, r, 0, 14⟩, ⟨17, r, r, 0, n % 16384⟩]
def operG (k : Nat) (r x y : Int) : List GI :=
  if 6 ≤ k ∧ k ≤ 16 then [⟨k - 4, r, x, y, 0⟩]
  else if k = 17 then [⟨12, 15, x, y, 0⟩, ⟨12, r, 15, 0, 0⟩]
  else if k = 18 then [⟨13, r, x, y, 0⟩]
  else if k = 20 then [⟨13, r, y, x, 0⟩]
  else if k = 19 then [⟨13, 15, y, x, 0⟩, ⟨12, r, 15, 0, 0⟩]
  else if k = 21 then [⟨13, 15, x, y, 0⟩, ⟨12, r, 15, 0, 0⟩]
  else if k = 22 then [⟨12, 15, x, 0, 0⟩, ⟨12, 14, y, 0, 0⟩, ⟨8, 15, 15, 14, 0⟩, ⟨12, r, 15, 0, 0⟩]
  else if k = 23 then [⟨8, 15, x, y, 0⟩, ⟨12, 15, 15, 0, 0⟩, ⟨12, r, 15, 0, 0⟩]
  else []
def insG (c : Cfg) (i : IIns) (g : Gen) : Gen :=
  if i.op = 1 then writeG c i.dst (fun r => emitG (constG r i.imm)) g
  else if i.op = 2 then
    if placeG c i.dst = placeG c i.x then g
    else let x := readG c i.x 1 g; writeG c i.dst (fun r => if r ≠ x.1 then emitG [⟨15, r, x.1, 0, 0⟩] else id) x.2
  else if i.op = 3 then
    let x := readG c i.x 1 g; let y := readG c i.y 14 x.2; writeG c i.dst (fun r => emitG (operG i.imm.toNat r x.1 y.1)) y.2
  else if i.op = 4 then let x := readG c i.x 1 g; writeG c i.dst (fun r => emitG [⟨18, r, x.1, 0, c.ar i.sym⟩]) x.2
  else if i.op = 6 then let x := readG c i.x 1 g; writeG c i.dst (fun r => referG ⟨20, r, x.1, 0, 0⟩ i.sym) x.2
  else if i.op = 5 ∨ i.op = 7 then
    let x := readG c i.x 1 g; let y := readG c i.y 14 x.2
    if i.op = 5 then emitG [⟨19, y.1, x.1, 0, c.ar i.sym⟩] y.2 else referG ⟨21, y.1, x.1, 0, 0⟩ i.sym y.2
  else if i.op = 8 then let x := readG c i.x 1 g; emitG [⟨25, x.1, 0, 0, i.imm⟩] x.2
  else if i.op = 9 then writeG c i.dst (fun r => emitG [⟨26, r, 0, 0, i.imm⟩]) g
  else if i.op = 10 then let x := readG c i.x 1 g; emitG [⟨27, x.1, 0, 0, i.imm⟩] x.2
  else if i.op = 11 then referG ⟨28, 0, 0, 0, 0⟩ i.sym g
  else if i.op = 12 then referG ⟨29, 0, 0, 0, 0⟩ i.sym g
  else if i.op = 13 then emitG [⟨14, 10 + i.imm, 0, 0, 0⟩] g
  else if i.op = 14 then emitG [⟨15, 10 + i.imm, 10 + i.imm, 0, 1⟩] g
  else if i.op = 15 then writeG c i.dst (fun r => emitG [⟨15, r, 10 + i.imm, 0, 0⟩]) g
  else if i.op = 16 then emitG [⟨25, 10 + i.x, 0, 0, i.imm⟩] g
  else g
def endG (c : Cfg) (b : IBlk) (next : Int) (g : Gen) : Gen :=
  if b.kind = 3 then emitG [⟨1, 0, 0, 0, 0⟩] g
  else if b.kind = 2 ∧ b.tgt ≠ b.els then
    let x := readG c b.x 1 g
    if b.tgt = next then jumpG ⟨22, x.1, 0, 0, 0⟩ b.els x.2
    else
      let h := jumpG ⟨23, x.1, 0, 0, 0⟩ b.tgt x.2
      if b.els ≠ next then jumpG ⟨24, 0, 0, 0, 0⟩ b.els h else h
  else if b.tgt ≠ next then jumpG ⟨24, 0, 0, 0, 0⟩ b.tgt g
  else g
def codeG (c : Cfg) (l : List IIns) (g : Gen) : Gen := l.foldl (fun g i => insG c i g) g
def blkG (c : Cfg) (b : IBlk) (k : Nat) (g : Gen) : Gen := endG c b ((k : Int) + 1) (codeG c b.code { g with starts := g.starts ++ [(g.code.length : Int)] })
def blksG (c : Cfg) (bs : List IBlk) : Nat → Gen → Gen
  | 0, g => g
  | k + 1, g => blkG c (bs.getD k default) k (blksG c bs k g)
def spillG (sp : Int) (n : Nat) : List GI := (List.range n).map fun (k : Nat) => ⟨19, 0, 0, 0, sp + k⟩
def allG (c : Cfg) (n : Nat) (bs : List IBlk) : Gen := blksG c bs bs.length ⟨spillG c.sp n, [], [], []⟩
def fixG (starts : List Int) (code : List GI) (b : Int × Int) : List GI :=
  code.set b.1.toNat { code.getD b.1.toNat default with imm := starts.getD b.2.toNat 0 - b.1 - 1 }
def resG (g : Gen) : List GI := g.brs.foldl (fixG g.starts) g.code
def addrG (A : List Arr) : Nat → Int
  | 0 => 0
  | k + 1 => addrG A k + max (A.getD k default).2 0
def arG (A : List Arr) : Nat → ByteArray → Int
  | 0 => fun _ => 0
  | k + 1 => fun s => if s = (A.getD k default).1 then addrG A k else arG A k s
end Go.Proofs.YtkcfbonchhidlaaGreatDoor

