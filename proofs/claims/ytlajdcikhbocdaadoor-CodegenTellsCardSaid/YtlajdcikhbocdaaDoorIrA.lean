/- ir.Valid in plain words: which functions of the intermediate form are valid for a list of shared objects. No walk here. -/
import Derived.Test.YtlajdcikhbocdaaDoorLivB
import Derived.Test.YtlajdcikhbocdaaDoorMapF
set_option linter.unusedVariables false
set_option linter.unusedSimpArgs false
namespace Go.Proofs.YtlajdcikhbocdaaDoor
open Go.RowKit

/-- An array or a shared object: its name and its length. -/
abbrev Arr := ByteArray × Int
/-- A slice of arrays that can be read. -/
def ArsAt (w : World) (v : Value) (l : List Arr) : Prop :=
  ∃ p cap, v = .slice p l.length cap ∧ ∀ k, k < l.length → ∃ m off, p = some ⟨m, off, none⟩ ∧ m < w.heap.size ∧ w.cell? ⟨m, off + k * 2, none⟩ = some (.string (l.getD k default).1) ∧ w.cell? ⟨m, off + k * 2 + 1, none⟩ = some (.int .i64 (l.getD k default).2)
theorem ArsAt.below {B : Nat} {w w' : World} {v : Value} {l : List Arr} (h : ArsAt w v l) (hb : Below B w w') (hB : w.heap.size ≤ B) : ArsAt w' v l := by
  obtain ⟨p, cap, hv, hc⟩ := h
  refine ⟨p, cap, hv, fun k hk => ?_⟩
  obtain ⟨m, off, hp, hm, h0, h1⟩ := hc k hk
  have hlt := Nat.lt_of_lt_of_le hm hB
  exact ⟨m, off, hp, Nat.lt_of_lt_of_le hm hb.size, (hb.cell (p := ⟨m, off + k * 2, none⟩) hlt).trans h0, (hb.cell (p := ⟨m, off + k * 2 + 1, none⟩) hlt).trans h1⟩
theorem ArsAt.shape {w : World} {v : Value} {l : List Arr} (h : ArsAt w v l) : ∃ p cap, v = .slice p l.length cap := by
  obtain ⟨p, cap, hv, _⟩ := h
  exact ⟨p, cap, hv⟩

/-- What names stand for: true for an array, false for a shared object. -/
abbrev Kinds := ByteArray → Option Bool
def updK (F : Kinds) (s : ByteArray) (v : Bool) : Kinds := fun t => if t = s then some v else F t
def mapK (F : Kinds) : ByteArray → Option Value := fun s => (F s).map Value.bool
theorem mapK_upd (F : Kinds) (s : ByteArray) (v : Bool) : updF (mapK F) s (.bool v) = mapK (updK F s v) := by
  funext t
  unfold updF mapK updK
  split <;> rfl
theorem mapK_none : mapK (fun _ => none) = fun _ => none := rfl
theorem mapK_get (F : Kinds) (s : ByteArray) : (mapK F s).getD (.bool false) = .bool ((F s).getD false) ∧ (mapK F s).isSome = (F s).isSome := by
  unfold mapK
  cases F s <;> exact ⟨rfl, rfl⟩
/-- The kinds behind the first k names of a list. -/
def kinds (F : Kinds) (l : List Arr) (v : Bool) : Nat → Kinds
  | 0 => F
  | k + 1 => updK (kinds F l v k) (l.getD k default).1 v
def kindA (A : List Arr) (k : Nat) : Kinds := kinds (fun _ => none) A true k
def kindS (A S : List Arr) (k : Nat) : Kinds := kinds (kindA A A.length) S false k
def okA (A : List Arr) (k : Nat) : Bool := !((kindA A k) (A.getD k default).1).isSome && decide (1 ≤ (A.getD k default).2 ∧ (A.getD k default).2 ≤ 32)
def okS (A S : List Arr) (k : Nat) : Bool := !((kindS A S k) (S.getD k default).1).isSome

def bw (n lo hi : Int) : Bool := decide (lo ≤ n ∧ n ≤ hi)
def isz (n : Int) : Bool := decide (n = 0)
/-- Whether an instruction is valid. -/
def vIns (R : Int) (K : Kinds) (i : IIns) : Bool :=
  let ns := i.sym.toList.isEmpty
  let sy := fun b => (K i.sym).isSome && ((K i.sym).getD false == b)
  if i.op = 1 then okR R i.dst && bw i.imm (-2147483648) 2147483647 && isz i.x && isz i.y && ns
  else if i.op = 2 then okR R i.dst && okR R i.x && isz i.y && isz i.imm && ns
  else if i.op = 3 then okR R i.dst && okR R i.x && okR R i.y && bw i.imm 6 23 && ns
  else if i.op = 4 ∨ i.op = 6 then okR R i.dst && okR R i.x && sy (decide (i.op = 4)) && isz i.y && isz i.imm
  else if i.op = 5 ∨ i.op = 7 then okR R i.x && okR R i.y && sy (decide (i.op = 5)) && isz i.dst && isz i.imm
  else if i.op = 8 then okR R i.x && bw i.imm 1 131071 && isz i.dst && isz i.y && ns
  else if i.op = 9 then okR R i.dst && bw i.imm 0 7 && isz i.x && isz i.y && ns
  else if i.op = 10 then okR R i.x && bw i.imm 0 7 && isz i.dst && isz i.y && ns
  else if i.op = 11 ∨ i.op = 12 then sy false && isz i.dst && isz i.x && isz i.y && isz i.imm
  else if i.op = 13 ∨ i.op = 14 then bw i.imm 0 3 && isz i.dst && isz i.x && isz i.y && ns
  else if i.op = 15 then okR R i.dst && bw i.imm 0 3 && isz i.x && isz i.y && ns
  else if i.op = 16 then bw i.x 0 3 && bw i.imm 1 131071 && isz i.dst && isz i.y && ns
  else false
/-- Whether the end of a block is valid. -/
def vEnd (R : Int) (n : Nat) (b : IBlk) : Bool :=
  if b.kind = 1 then okR n b.to && isz b.x && isz b.els
  else if b.kind = 2 then okR R b.x && okR n b.to && okR n b.els
  else if b.kind = 3 then isz b.x && isz b.to && isz b.els
  else false
def vBlk (R : Int) (K : Kinds) (n : Nat) (b : IBlk) : Bool := b.code.all (vIns R K) && vEnd R n b
/-- Whether a function is valid. -/
def vFun (R : Int) (A S : List Arr) (bs : List IBlk) : Bool :=
  decide (bs ≠ []) && decide (0 ≤ R ∧ R ≤ 10000) && decide (A.length ≤ 4) && (List.range A.length).all (okA A) && (List.range S.length).all (okS A S) && bs.all (vBlk R (kindS A S S.length) bs.length)
end Go.Proofs.YtlajdcikhbocdaaDoor
