import Derived.Test.YtifjcknklecdbaaDoorMs23
import Derived.Test.YtifjcknklecdbaaDoorLivB
import Derived.Test.YtifjcknklecdbaaDoorMs03
import Derived.Test.YtifjcknklecdbaaDoorMs20
/- Maps with string keys that the call makes, told by a function: what stands at each key. -/
set_option linter.unusedVariables false
set_option linter.unusedSimpArgs false
namespace Go.Proofs.YtifjcknklecdbaaDoor
open Go.RowKit Go.Maps Go.WideMaps

def keyL (s : ByteArray) : Lit := .string s.data.toList
theorem keyL_inj {a b : ByteArray} (h : keyL a = keyL b) : a = b := by
  obtain ⟨⟨a⟩⟩ := a
  obtain ⟨⟨b⟩⟩ := b
  simp only [keyL, Lit.string.injEq] at h
  subst h; rfl
theorem keyL_is (s : ByteArray) (h : s.size ≤ maxLen) : keyOf Tryd.prog 9 (.string s) = some (keyL s) := key_s s h
/-- Block b is a map of at most n entries; at the key s stands F s. -/
def MpAt (w : World) (b n : Nat) (F : ByteArray → Option Value) : Prop :=
  ∃ D : DataW Value, MapAt w 9 b n D ∧ ∀ s, Maps.has D (keyL s) = (F s).isSome ∧ ∀ z, D.atKey (keyL s) (.held z) = .held ((F s).getD z)
def updF (F : ByteArray → Option Value) (s : ByteArray) (v : Value) : ByteArray → Option Value := fun t => if t = s then some v else F t
theorem updF_same (F : ByteArray → Option Value) (s : ByteArray) (v : Value) : updF F s v s = some v := if_pos rfl
theorem updF_ne {F : ByteArray → Option Value} {s t : ByteArray} {v : Value} (h : t ≠ s) : updF F s v t = F t := if_neg h
section
variable {w w' : World} {b n : Nat} {F : ByteArray → Option Value}
theorem MpAt.lt (h : MpAt w b n F) : b < w.heap.size := by
  obtain ⟨D, h1, _⟩ := h
  exact h1.lt
theorem MpAt.of_block (h : MpAt w b n F) (hb : w'.heap[b]? = w.heap[b]?) : MpAt w' b n F := by
  obtain ⟨D, ⟨es, clock, h1, h2⟩, h3⟩ := h
  exact ⟨D, ⟨es, clock, hb.trans h1, h2⟩, h3⟩
theorem MpAt.made (w : World) : MpAt (w.alloc (.map #[] 0)) w.heap.size 0 (fun _ => none) :=
  ⟨.map [], World.ownsMap_made w Tryd.prog 9 heldElem, fun s => ⟨rfl, fun z => rfl⟩⟩
theorem MpAt.look {t e : TypeId} (h : MpAt w b n F) (ht : Tryd.prog.underlying t = some (.map 9 e)) {z : Value} (hz : (zeroValue e).run Tryd.prog w = .ok z w) (s : ByteArray) (hs : s.size ≤ maxLen) :
    (Instr.lookup t (.map (some b)) (.string s) false).run Tryd.prog w = .ok ((F s).getD z) w := by
  obtain ⟨D, h1, h2⟩ := h
  exact h1.look_at keyS ht hz (keyL_is s hs) ((h2 s).2 z)
theorem MpAt.look2 {t e : TypeId} (h : MpAt w b n F) (ht : Tryd.prog.underlying t = some (.map 9 e)) {z : Value} (hz : (zeroValue e).run Tryd.prog w = .ok z w) (s : ByteArray) (hs : s.size ≤ maxLen) :
    (Instr.lookup t (.map (some b)) (.string s) true).run Tryd.prog w = .ok (.tuple #[(F s).getD z, .bool (F s).isSome]) w := by
  obtain ⟨D, h1, h2⟩ := h
  obtain ⟨v, ps, hrun, hv⟩ := World.ownsMap.look_ok h1 keyS ht hz (zd := .held z) (zp := []) rfl (keyL_is s hs)
  have h3 : v = (F s).getD z := by
    have e1 : heldElem v = some (.held v, []) := rfl
    rw [e1] at hv
    simp only [Option.some.injEq, Prod.mk.injEq] at hv
    have e2 := hv.1.trans ((h2 s).2 z)
    exact DataW.held.inj e2
  rw [hrun, h3, (h2 s).1]
theorem MpAt.put {t e : TypeId} (h : MpAt w b n F) (ht : Tryd.prog.underlying t = some (.map 9 e)) (s : ByteArray) (hs : s.size ≤ maxLen) (hn : n < 100000) (v : Value) :
    ∃ w', (Instr.mapUpdate t (.map (some b)) (.string s) v).run Tryd.prog w = .ok () w' ∧ MpAt w' b (n + 1) (updF F s v) ∧ w.grownBy w' (some b) := by
  obtain ⟨D, h1, h2⟩ := h
  obtain ⟨w', hr, h3, h4⟩ := World.ownsMap.store h1 keyS ht (by unfold maxLen; omega) (keyL_is s hs) (d := .held v) (ps := []) rfl
  refine ⟨w', hr, ⟨_, h3, fun x => ?_⟩, h4.grown⟩
  by_cases hx : x = s
  · subst hx
    rw [updF_same]
    exact ⟨has_put_same (World.ownsMap.isMap h1) (keyS.key (keyL_is x hs)) _, fun z => atKey_put_same (World.ownsMap.isMap h1) (keyS.key (keyL_is x hs)) _ _⟩
  · have hne : keyL x ≠ keyL s := fun e => hx (keyL_inj e)
    rw [updF_ne hx, has_put_other hne, (h2 x).1]
    exact ⟨rfl, fun z => by rw [atKey_put_other hne]; exact (h2 x).2 z⟩
end
/-- A store into it, at the operation. -/
theorem wpList_put_mp {w : World} {ops : Array Oper} {rest : List Oper} {o : Oper} {a : Act} {Q : Exit → Act → World → Prop} (hg : o.guard = none) (m x u : Operand) (t e : TypeId) (hop : o.op = .mapUpdate t m x u)
    (ht : Tryd.prog.underlying t = some (.map 9 e)) (b n : Nat) (F : ByteArray → Option Value) (h : MpAt w b n F) (hm : a.eval m = .map (some b)) (s : ByteArray) (hx : a.eval x = .string s) (hs : s.size ≤ maxLen) (hn : n < 100000) (v : Value) (hv : a.eval u = v)
    (hK : ∀ w', MpAt w' b (n + 1) (updF F s v) → w.grownBy w' (some b) → wpList Tryd.prog ops Q rest (a.put o.dst undef) w') : wpList Tryd.prog ops Q (o :: rest) a w := by
  refine wpList_plain hg fun K hK' => ?_
  obtain ⟨w', hr, h1, h2⟩ := h.put ht s hs hn v
  unfold Oper.wp
  simp [execOp, hop, hm, hx, hv, hr, Result.andThen]
  exact hK' _ _ (hK w' h1 h2)
end Go.Proofs.YtifjcknklecdbaaDoor

/- ir.Valid in plain words: which functions of the intermediate form are valid for a list of shared objects. No walk here. -/
set_option linter.unusedVariables false
set_option linter.unusedSimpArgs false
namespace Go.Proofs.YtifjcknklecdbaaDoor
open Go.RowKit

/-- An array or a shared object: its name and its length. -/
abbrev Arr := ByteArray × Int
/-- A slice of arrays that can be read. -/
def ArsAt (w : World) (v : Value) (l : List Arr) : Prop :=
  ∃ p cap, v = .slice p l.length cap ∧ ∀ k, k < l.length → ∃ m off, p = some ⟨m, off, none⟩ ∧ m < w.heap.size ∧ w.cell? ⟨m, off + k * 2, none⟩ = some (.string (l.getD k default).1) ∧ w.cell? ⟨m, off + k * 2 + 1, none⟩ = some (.int .i64 (l.getD k default).2)
theorem ArsAt.below {B : Nat} {w w' : World} {v : Value} {l : List Arr} (h : ArsAt w v l) (hb : Below B w w') (hB : w.heap.size ≤ B) : ArsAt w' v l := by
  obtain ⟨p, cap, hv, hc⟩ := h
  refine ⟨p, cap, hv, fun k hk => ?_⟩
  obtain ⟨m, off, hp, hm, h0, h1⟩ := hc k hk
  have hlt := Nat.lt_of_lt_of_le hm hB
  exact ⟨m, off, hp, Nat.lt_of_lt_of_le hm hb.size, (hb.cell (p := ⟨m, off + k * 2, none⟩) hlt).trans h0, (hb.cell (p := ⟨m, off + k * 2 + 1, none⟩) hlt).trans h1⟩
theorem ArsAt.shape {w : World} {v : Value} {l : List Arr} (h : ArsAt w v l) : ∃ p cap, v = .slice p l.length cap := by
  obtain ⟨p, cap, hv, _⟩ := h
  exact ⟨p, cap, hv⟩

/-- What names stand for: true for an array, false for a shared object. -/
abbrev Kinds := ByteArray → Option Bool
def updK (F : Kinds) (s : ByteArray) (v : Bool) : Kinds := fun t => if t = s then some v else F t
def mapK (F : Kinds) : ByteArray → Option Value := fun s => (F s).map Value.bool
theorem mapK_upd (F : Kinds) (s : ByteArray) (v : Bool) : updF (mapK F) s (.bool v) = mapK (updK F s v) := by
  funext t
  unfold updF mapK updK
  split <;> rfl
theorem mapK_none : mapK (fun _ => none) = fun _ => none := rfl
theorem mapK_get (F : Kinds) (s : ByteArray) : (mapK F s).getD (.bool false) = .bool ((F s).getD false) ∧ (mapK F s).isSome = (F s).isSome := by
  unfold mapK
  cases F s <;> exact ⟨rfl, rfl⟩
/-- The kinds behind the first k names of a list. -/
def kinds (F : Kinds) (l : List Arr) (v : Bool) : Nat → Kinds
  | 0 => F
  | k + 1 => updK (kinds F l v k) (l.getD k default).1 v
def kindA (A : List Arr) (k : Nat) : Kinds := kinds (fun _ => none) A true k
def kindS (A S : List Arr) (k : Nat) : Kinds := kinds (kindA A A.length) S false k
def okA (A : List Arr) (k : Nat) : Bool := !((kindA A k) (A.getD k default).1).isSome && decide (1 ≤ (A.getD k default).2 ∧ (A.getD k default).2 ≤ 32)
def okS (A S : List Arr) (k : Nat) : Bool := !((kindS A S k) (S.getD k default).1).isSome

def bw (n lo hi : Int) : Bool := decide (lo ≤ n ∧ n ≤ hi)
def isz (n : Int) : Bool := decide (n = 0)
/-- Whether an instruction is valid. -/
def vIns (R : Int) (K : Kinds) (i : IIns) : Bool :=
  let ns := i.sym.toList.isEmpty
  let sy := fun b => (K i.sym).isSome && ((K i.sym).getD false == b)
  if i.op = 1 then okR R i.dst && bw i.imm (-2147483648) 2147483647 && isz i.x && isz i.y && ns
  else if i.op = 2 then okR R i.dst && okR R i.x && isz i.y && isz i.imm && ns
  else if i.op = 3 then okR R i.dst && okR R i.x && okR R i.y && bw i.imm 6 23 && ns
  else if i.op = 4 ∨ i.op = 6 then okR R i.dst && okR R i.x && sy (decide (i.op = 4)) && isz i.y && isz i.imm
  else if i.op = 5 ∨ i.op = 7 then okR R i.x && okR R i.y && sy (decide (i.op = 5)) && isz i.dst && isz i.imm
  else if i.op = 8 then okR R i.x && bw i.imm 1 131071 && isz i.dst && isz i.y && ns
  else if i.op = 9 then okR R i.dst && bw i.imm 0 7 && isz i.x && isz i.y && ns
  else if i.op = 10 then okR R i.x && bw i.imm 0 7 && isz i.dst && isz i.y && ns
  else if i.op = 11 ∨ i.op = 12 then sy false && isz i.dst && isz i.x && isz i.y && isz i.imm
  else if i.op = 13 ∨ i.op = 14 then bw i.imm 0 3 && isz i.dst && isz i.x && isz i.y && ns
  else if i.op = 15 then okR R i.dst && bw i.imm 0 3 && isz i.x && isz i.y && ns
  else if i.op = 16 then bw i.x 0 3 && bw i.imm 1 131071 && isz i.dst && isz i.y && ns
  else false
/-- Whether the end of a block is valid. -/
def vEnd (R : Int) (n : Nat) (b : IBlk) : Bool :=
  if b.kind = 1 then okR n b.tgt && isz b.x && isz b.els
  else if b.kind = 2 then okR R b.x && okR n b.tgt && okR n b.els
  else if b.kind = 3 then isz b.x && isz b.tgt && isz b.els
  else false
def vBlk (R : Int) (K : Kinds) (n : Nat) (b : IBlk) : Bool := b.code.all (vIns R K) && vEnd R n b
/-- Whether a function is valid. -/
def vFun (R : Int) (A S : List Arr) (bs : List IBlk) : Bool :=
  decide (bs ≠ []) && decide (0 ≤ R ∧ R ≤ 10000) && decide (A.length ≤ 4) && (List.range A.length).all (okA A) && (List.range S.length).all (okS A S) && bs.all (vBlk R (kindS A S S.length) bs.length)
end Go.Proofs.YtifjcknklecdbaaDoor

/- Running the intermediate form, in plain Lean: a function whose registers are renamed by a valid allocation runs alike. No program here. -/
set_option linter.unusedVariables false
set_option linter.unusedSimpArgs false
namespace Go.Proofs.YtifjcknklecdbaaDoor
open Go.RowKit

theorem map_at {α β : Type} [Inhabited α] [Inhabited β] (f : α → β) (l : List α) {k : Nat} (hk : k < l.length) : (l.map f).getD k default = f (l.getD k default) := by
  rw [List.getD_eq_getElem?_getD, List.getD_eq_getElem?_getD, List.getElem?_map, List.getElem?_eq_getElem hk]
  rfl
theorem mem_at {α : Type} [Inhabited α] (l : List α) {k : Nat} (hk : k < l.length) : l.getD k default ∈ l := by
  rw [List.getD_eq_getElem?_getD, List.getElem?_eq_getElem hk]
  exact List.getElem_mem hk
/-- The state of an execution; arrays and objects by number. -/
structure RS where
  regs : List Int
  ctr : List Int
  mem : Nat → List Int
  lck : Bool
  held : ByteArray
  out : List (Int × Int)
  read : Nat

def RS.get (s : RS) (r : Int) : Int := s.regs.getD r.toNat 0
def RS.set (s : RS) (r v : Int) : RS := { s with regs := s.regs.set r.toNat v }
def RS.cnt (s : RS) (r : Int) : Int := s.ctr.getD r.toNat 0

section
variable (ap : Int → Int → Int → Int × Int) (idx : ByteArray → Nat) (inp : List Int)
/-- An instruction: the error number, or the state behind it. -/
def insR (s : RS) (i : IIns) : Except Int RS :=
  if i.op = 1 then .ok (s.set i.dst (wrap32 i.imm))
  else if i.op = 2 then .ok (s.set i.dst (s.get i.x))
  else if i.op = 3 then (if (ap (IntKind.u8.wrap i.imm) (s.get i.x) (s.get i.y)).2 ≠ 0 then .error (ap (IntKind.u8.wrap i.imm) (s.get i.x) (s.get i.y)).2 else .ok (s.set i.dst (ap (IntKind.u8.wrap i.imm) (s.get i.x) (s.get i.y)).1))
  else if i.op = 4 ∨ i.op = 6 then (if wrap64 (s.get i.x) < 0 ∨ ((s.mem (idx i.sym)).length : Int) ≤ wrap64 (s.get i.x) then .error 10 else .ok (s.set i.dst ((s.mem (idx i.sym)).getD (wrap64 (s.get i.x)).toNat 0)))
  else if i.op = 5 ∨ i.op = 7 then (if wrap64 (s.get i.x) < 0 ∨ ((s.mem (idx i.sym)).length : Int) ≤ wrap64 (s.get i.x) then .error 10 else .ok { s with mem := upd s.mem (idx i.sym) ((s.mem (idx i.sym)).set (wrap64 (s.get i.x)).toNat (s.get i.y)) })
  else if i.op = 8 then (if wrap64 (s.get i.x) < 0 ∨ i.imm ≤ wrap64 (s.get i.x) then .error 11 else .ok s)
  else if i.op = 9 then .ok { s with regs := s.regs.set i.dst.toNat (inp.getD s.read 0), read := s.read + 1 }
  else if i.op = 10 then .ok { s with out := s.out ++ [(i.imm, s.get i.x)] }
  else if i.op = 11 then (if s.lck = true then .error 12 else .ok { s with lck := true, held := i.sym })
  else if i.op = 12 then (if s.lck = false ∨ s.held ≠ i.sym then .error 12 else .ok { s with lck := false, held := ⟨#[]⟩ })
  else if i.op = 13 then .ok { s with ctr := s.ctr.set i.imm.toNat 0 }
  else if i.op = 14 then .ok { s with ctr := s.ctr.set i.imm.toNat (wrap32 (s.cnt i.imm + 1)) }
  else if i.op = 15 then .ok (s.set i.dst (s.cnt i.imm))
  else if i.op = 16 then (if wrap64 (s.cnt i.x) < 0 ∨ i.imm ≤ wrap64 (s.cnt i.x) then .error 11 else .ok s)
  else .ok s
/-- The blocks from instruction k of block a on, with so much fuel left: the state, the fuel that remains, the error number. -/
def runR (bs : List IBlk) : Nat → Nat → Nat → RS → RS × Nat × Int
  | 0, _, _, s => (s, 0, 13)
  | m + 1, a, k, s =>
    if k < (bs.getD a default).code.length then
      match insR ap idx inp s ((bs.getD a default).code.getD k default) with
      | .error e => (s, m + 1, e)
      | .ok s' => runR bs m a (k + 1) s'
    else if (bs.getD a default).kind = 3 then (if s.lck = true then (s, m + 1, 12) else (s, m, 0))
    else if (bs.getD a default).kind = 2 ∧ s.get (bs.getD a default).x = 0 then runR bs m (bs.getD a default).els.toNat 0 s
    else runR bs m (bs.getD a default).tgt.toNat 0 s

/-- An instruction, a block, renamed. -/
def renI (num : Int → Int) (i : IIns) : IIns :=
  { i with dst := if hasDef i.op then num i.dst else i.dst, x := if usesI i = [] then i.x else num i.x, y := if i.op = 3 ∨ i.op = 5 ∨ i.op = 7 then num i.y else i.y }
def renK (num : Int → Int) (b : IBlk) : IBlk := { b with code := b.code.map (renI num), x := if b.kind = 2 then num b.x else b.x }

/-- Two states that agree on the live registers, and on all else. -/
structure Agree (R R' : Nat) (num : Int → Int) (L : Nat) (s t : RS) : Prop where
  reg : ∀ r, r < R → L.testBit r = true → s.regs.getD r 0 = t.regs.getD (num r).toNat 0
  lenS : s.regs.length = R
  lenT : t.regs.length = R'
  ctr : t.ctr = s.ctr
  mem : t.mem = s.mem
  lck : t.lck = s.lck
  held : t.held = s.held
  out : t.out = s.out
  read : t.read = s.read

variable {R R' : Nat} {num : Int → Int} {L : Nat} {s t : RS}
theorem Agree.less {M : Nat} (h : Agree R R' num L s t) (hs : sub M L) : Agree R R' num M s t :=
  ⟨fun r hr hb => h.reg r hr (hs r hb), h.lenS, h.lenT, h.ctr, h.mem, h.lck, h.held, h.out, h.read⟩
theorem Agree.get (h : Agree R R' num L s t) {r : Int} (hr : okR R r = true) (hb : L.testBit r.toNat = true) : t.get (num r) = s.get r := by
  simp only [okR, decide_eq_true_eq] at hr
  have h1 := h.reg r.toNat (by omega) hb
  rw [Int.toNat_of_nonneg hr.1] at h1
  exact h1.symm
/-- The names of the registers that are live with d differ from d's. -/
def Apart (R : Nat) (num : Int → Int) (L : Nat) (d : Int) : Prop := ∀ q : Nat, q < R → L.testBit q = true → (q : Int) ≠ d → (num q).toNat ≠ (num d).toNat
theorem Agree.put {d : Int} (h : Agree R R' num (remB L d.toNat) s t) (hR : R ≤ 64) (hL : L < 2 ^ 64) (hd : okR R d = true) (hd' : 0 ≤ num d ∧ num d < R') (ha : Apart R num L d) (v : Int) : Agree R R' num L (s.set d v) (t.set (num d) v) := by
  simp only [okR, decide_eq_true_eq] at hd
  refine ⟨fun r hr hb => ?_, by simpa [RS.set] using h.lenS, by simpa [RS.set] using h.lenT, h.ctr, h.mem, h.lck, h.held, h.out, h.read⟩
  show (s.regs.set d.toNat v).getD r 0 = (t.regs.set (num d).toNat v).getD (num r).toNat 0
  by_cases e : r = d.toNat
  · subst e
    rw [Int.toNat_of_nonneg hd.1]
    rw [List.getD_eq_getElem?_getD, List.getD_eq_getElem?_getD, List.getElem?_set_self (by rw [h.lenS]; omega), List.getElem?_set_self (by rw [h.lenT]; omega)]
  · have hne : (num r).toNat ≠ (num d).toNat := ha r hr hb (fun e2 => e (by omega))
    rw [List.getD_eq_getElem?_getD, List.getD_eq_getElem?_getD, List.getElem?_set_ne (fun e2 => e e2.symm), List.getElem?_set_ne (fun e2 => hne e2.symm), ← List.getD_eq_getElem?_getD, ← List.getD_eq_getElem?_getD]
    refine h.reg r hr ?_
    rw [remB_bit _ _ _ hL (by omega), hb]
    simpa using fun e2 => e e2.symm
theorem foldl_add_base (l : List Int) : ∀ a : Nat, sub a (l.foldl (fun s r => addB s r.toNat) a) := by
  induction l with
  | nil => exact fun a => sub_refl a
  | cons r l ih => exact fun a => sub_trans (sub_left _ _) (ih _)
theorem foldl_add_has (l : List Int) : ∀ a : Nat, ∀ r ∈ l, (l.foldl (fun s r => addB s r.toNat) a).testBit r.toNat = true := by
  induction l with
  | nil => intro a r hr; cases hr
  | cons q l ih =>
    intro a r hr
    rcases List.mem_cons.1 hr with rfl | hr
    · exact foldl_add_base l _ _ (by rw [addB_bit]; simp)
    · exact ih _ r hr
/-- An instruction runs alike. -/
theorem ins_sim {M : Nat} {i : IIns} (hR : R ≤ 64) (hM : M < 2 ^ 64) (hi : okIns R i = true) (hd : hasDef i.op = true → (0 ≤ num i.dst ∧ num i.dst < R') ∧ Apart R num M i.dst) (h : Agree R R' num (backB i M) s t) :
    (∃ e, insR ap idx inp s i = .error e ∧ insR ap idx inp t (renI num i) = .error e) ∨ ∃ s' t', insR ap idx inp s i = .ok s' ∧ insR ap idx inp t (renI num i) = .ok t' ∧ Agree R R' num M s' t' := by
  have hu : ∀ r ∈ usesI i, t.get (num r) = s.get r := fun r hr => by
    refine h.get ?_ (foldl_add_has _ _ r hr)
    simp only [okIns, Bool.and_eq_true, List.all_eq_true] at hi
    exact hi.1.2 r hr
  have hb := h.less (foldl_add_base (usesI i) _)
  have hp : hasDef i.op = true → ∀ v, Agree R R' num M (s.set i.dst v) (t.set (num i.dst) v) := fun e v => by
    rw [if_pos e] at hb
    refine hb.put hR hM ?_ (hd e).1 (hd e).2 v
    simp only [okIns, Bool.and_eq_true, Bool.or_eq_true, Bool.not_eq_true'] at hi
    rcases hi.2 with h1 | h1
    · rw [e] at h1; cases h1
    · exact h1
  have hk : hasDef i.op = false → Agree R R' num M s t := fun e => by
    rw [e] at hb; exact hb
  have hop : 1 ≤ i.op ∧ i.op ≤ 16 := by
    simp only [okIns, Bool.and_eq_true, decide_eq_true_eq] at hi
    exact hi.1.1
  clear hi hd hb h
  obtain ⟨op, dst, x, y, imm, sym⟩ := i
  have hc : op = 1 ∨ op = 2 ∨ op = 3 ∨ op = 4 ∨ op = 5 ∨ op = 6 ∨ op = 7 ∨ op = 8 ∨ op = 9 ∨ op = 10 ∨ op = 11 ∨ op = 12 ∨ op = 13 ∨ op = 14 ∨ op = 15 ∨ op = 16 := by
    have h1 : 1 ≤ op ∧ op ≤ 16 := hop
    omega
  have X1 : usesI ⟨op, dst, x, y, imm, sym⟩ = [x] → t.get (num x) = s.get x := fun e => hu x (by rw [e]; simp)
  have X2 : usesI ⟨op, dst, x, y, imm, sym⟩ = [x, y] → t.get (num x) = s.get x ∧ t.get (num y) = s.get y := fun e => ⟨hu x (by rw [e]; simp), hu y (by rw [e]; simp)⟩
  clear hu hop
  rcases hc with rfl | rfl | rfl | rfl | rfl | rfl | rfl | rfl | rfl | rfl | rfl | rfl | rfl | rfl | rfl | rfl
  · exact .inr ⟨_, _, rfl, rfl, hp rfl _⟩
  · have e := X1 rfl
    exact .inr ⟨_, _, rfl, rfl, by rw [show t.get (renI num ⟨2, dst, x, y, imm, sym⟩).x = s.get x from e]; exact hp rfl _⟩
  · obtain ⟨e1, e2⟩ := X2 rfl
    have q1 : insR ap idx inp s ⟨3, dst, x, y, imm, sym⟩ = (if (ap (IntKind.u8.wrap imm) (s.get x) (s.get y)).2 ≠ 0 then .error (ap (IntKind.u8.wrap imm) (s.get x) (s.get y)).2 else .ok (s.set dst (ap (IntKind.u8.wrap imm) (s.get x) (s.get y)).1)) := rfl
    have q2 : insR ap idx inp t (renI num ⟨3, dst, x, y, imm, sym⟩) = (if (ap (IntKind.u8.wrap imm) (t.get (num x)) (t.get (num y))).2 ≠ 0 then .error (ap (IntKind.u8.wrap imm) (t.get (num x)) (t.get (num y))).2 else .ok (t.set (num dst) (ap (IntKind.u8.wrap imm) (t.get (num x)) (t.get (num y))).1)) := rfl
    rw [q1, q2, e1, e2]
    split
    · exact .inl ⟨_, rfl, rfl⟩
    · exact .inr ⟨_, _, rfl, rfl, hp rfl _⟩
  · have e1 := X1 rfl
    have q1 : insR ap idx inp s ⟨4, dst, x, y, imm, sym⟩ = (if wrap64 (s.get x) < 0 ∨ ((s.mem (idx sym)).length : Int) ≤ wrap64 (s.get x) then .error 10 else .ok (s.set dst ((s.mem (idx sym)).getD (wrap64 (s.get x)).toNat 0))) := rfl
    have q2 : insR ap idx inp t (renI num ⟨4, dst, x, y, imm, sym⟩) = (if wrap64 (t.get (num x)) < 0 ∨ ((t.mem (idx sym)).length : Int) ≤ wrap64 (t.get (num x)) then .error 10 else .ok (t.set (num dst) ((t.mem (idx sym)).getD (wrap64 (t.get (num x))).toNat 0))) := rfl
    have hm : t.mem = s.mem := (hp rfl 0).mem
    rw [q1, q2, e1, hm]
    split
    · exact .inl ⟨_, rfl, rfl⟩
    · exact .inr ⟨_, _, rfl, rfl, hp rfl _⟩
  · obtain ⟨e1, e2⟩ := X2 rfl
    have h := hk rfl
    have q1 : insR ap idx inp s ⟨5, dst, x, y, imm, sym⟩ = (if wrap64 (s.get x) < 0 ∨ ((s.mem (idx sym)).length : Int) ≤ wrap64 (s.get x) then .error 10 else .ok { s with mem := upd s.mem (idx sym) ((s.mem (idx sym)).set (wrap64 (s.get x)).toNat (s.get y)) }) := rfl
    have q2 : insR ap idx inp t (renI num ⟨5, dst, x, y, imm, sym⟩) = (if wrap64 (t.get (num x)) < 0 ∨ ((t.mem (idx sym)).length : Int) ≤ wrap64 (t.get (num x)) then .error 10 else .ok { t with mem := upd t.mem (idx sym) ((t.mem (idx sym)).set (wrap64 (t.get (num x))).toNat (t.get (num y))) }) := rfl
    rw [q1, q2, e1, e2, h.mem]
    split
    · exact .inl ⟨_, rfl, rfl⟩
    · exact .inr ⟨_, _, rfl, rfl, h.reg, h.lenS, h.lenT, h.ctr, rfl, h.lck, h.held, h.out, h.read⟩
  · have e1 := X1 rfl
    have q1 : insR ap idx inp s ⟨6, dst, x, y, imm, sym⟩ = (if wrap64 (s.get x) < 0 ∨ ((s.mem (idx sym)).length : Int) ≤ wrap64 (s.get x) then .error 10 else .ok (s.set dst ((s.mem (idx sym)).getD (wrap64 (s.get x)).toNat 0))) := rfl
    have q2 : insR ap idx inp t (renI num ⟨6, dst, x, y, imm, sym⟩) = (if wrap64 (t.get (num x)) < 0 ∨ ((t.mem (idx sym)).length : Int) ≤ wrap64 (t.get (num x)) then .error 10 else .ok (t.set (num dst) ((t.mem (idx sym)).getD (wrap64 (t.get (num x))).toNat 0))) := rfl
    have hm : t.mem = s.mem := (hp rfl 0).mem
    rw [q1, q2, e1, hm]
    split
    · exact .inl ⟨_, rfl, rfl⟩
    · exact .inr ⟨_, _, rfl, rfl, hp rfl _⟩
  · obtain ⟨e1, e2⟩ := X2 rfl
    have h := hk rfl
    have q1 : insR ap idx inp s ⟨7, dst, x, y, imm, sym⟩ = (if wrap64 (s.get x) < 0 ∨ ((s.mem (idx sym)).length : Int) ≤ wrap64 (s.get x) then .error 10 else .ok { s with mem := upd s.mem (idx sym) ((s.mem (idx sym)).set (wrap64 (s.get x)).toNat (s.get y)) }) := rfl
    have q2 : insR ap idx inp t (renI num ⟨7, dst, x, y, imm, sym⟩) = (if wrap64 (t.get (num x)) < 0 ∨ ((t.mem (idx sym)).length : Int) ≤ wrap64 (t.get (num x)) then .error 10 else .ok { t with mem := upd t.mem (idx sym) ((t.mem (idx sym)).set (wrap64 (t.get (num x))).toNat (t.get (num y))) }) := rfl
    rw [q1, q2, e1, e2, h.mem]
    split
    · exact .inl ⟨_, rfl, rfl⟩
    · exact .inr ⟨_, _, rfl, rfl, h.reg, h.lenS, h.lenT, h.ctr, rfl, h.lck, h.held, h.out, h.read⟩
  · have e1 := X1 rfl
    have q1 : insR ap idx inp s ⟨8, dst, x, y, imm, sym⟩ = (if wrap64 (s.get x) < 0 ∨ imm ≤ wrap64 (s.get x) then .error 11 else .ok s) := rfl
    have q2 : insR ap idx inp t (renI num ⟨8, dst, x, y, imm, sym⟩) = (if wrap64 (t.get (num x)) < 0 ∨ imm ≤ wrap64 (t.get (num x)) then .error 11 else .ok t) := rfl
    rw [q1, q2, e1]
    split
    · exact .inl ⟨_, rfl, rfl⟩
    · exact .inr ⟨_, _, rfl, rfl, hk rfl⟩
  · have h := hp rfl (inp.getD s.read 0)
    have hrd : t.read = s.read := h.read
    have q2 : insR ap idx inp t (renI num ⟨9, dst, x, y, imm, sym⟩) = .ok { t with regs := t.regs.set (num dst).toNat (inp.getD s.read 0), read := s.read + 1 } := by
      rw [← hrd]
      rfl
    exact .inr ⟨_, _, rfl, q2, h.reg, h.lenS, h.lenT, h.ctr, h.mem, h.lck, h.held, h.out, rfl⟩
  · have e1 := X1 rfl
    have h := hk rfl
    refine .inr ⟨_, _, rfl, rfl, h.reg, h.lenS, h.lenT, h.ctr, h.mem, h.lck, h.held, ?_, h.read⟩
    show t.out ++ [(imm, t.get (num x))] = s.out ++ [(imm, s.get x)]
    rw [h.out, e1]
  · have h := hk rfl
    have q1 : insR ap idx inp s ⟨11, dst, x, y, imm, sym⟩ = (if s.lck = true then .error 12 else .ok { s with lck := true, held := sym }) := rfl
    have q2 : insR ap idx inp t (renI num ⟨11, dst, x, y, imm, sym⟩) = (if t.lck = true then .error 12 else .ok { t with lck := true, held := sym }) := rfl
    rw [q1, q2, h.lck]
    split
    · exact .inl ⟨_, rfl, rfl⟩
    · exact .inr ⟨_, _, rfl, rfl, h.reg, h.lenS, h.lenT, h.ctr, h.mem, rfl, rfl, h.out, h.read⟩
  · have h := hk rfl
    have q1 : insR ap idx inp s ⟨12, dst, x, y, imm, sym⟩ = (if s.lck = false ∨ s.held ≠ sym then .error 12 else .ok { s with lck := false, held := ⟨#[]⟩ }) := rfl
    have q2 : insR ap idx inp t (renI num ⟨12, dst, x, y, imm, sym⟩) = (if t.lck = false ∨ t.held ≠ sym then .error 12 else .ok { t with lck := false, held := ⟨#[]⟩ }) := rfl
    rw [q1, q2, h.lck, h.held]
    split
    · exact .inl ⟨_, rfl, rfl⟩
    · exact .inr ⟨_, _, rfl, rfl, h.reg, h.lenS, h.lenT, h.ctr, h.mem, rfl, rfl, h.out, h.read⟩
  · have h := hk rfl
    refine .inr ⟨_, _, rfl, rfl, h.reg, h.lenS, h.lenT, ?_, h.mem, h.lck, h.held, h.out, h.read⟩
    show t.ctr.set imm.toNat 0 = s.ctr.set imm.toNat 0
    rw [h.ctr]
  · have h := hk rfl
    refine .inr ⟨_, _, rfl, rfl, h.reg, h.lenS, h.lenT, ?_, h.mem, h.lck, h.held, h.out, h.read⟩
    show t.ctr.set imm.toNat (wrap32 (t.ctr.getD imm.toNat 0 + 1)) = s.ctr.set imm.toNat (wrap32 (s.ctr.getD imm.toNat 0 + 1))
    rw [h.ctr]
  · have h := hp rfl (s.cnt imm)
    have hc : t.ctr = s.ctr := h.ctr
    refine .inr ⟨_, _, rfl, rfl, ?_⟩
    rw [show t.cnt (renI num ⟨15, dst, x, y, imm, sym⟩).imm = s.cnt imm by show t.ctr.getD imm.toNat 0 = s.ctr.getD imm.toNat 0; rw [hc]]
    exact h
  · have h := hk rfl
    have q1 : insR ap idx inp s ⟨16, dst, x, y, imm, sym⟩ = (if wrap64 (s.ctr.getD x.toNat 0) < 0 ∨ imm ≤ wrap64 (s.ctr.getD x.toNat 0) then .error 11 else .ok s) := rfl
    have q2 : insR ap idx inp t (renI num ⟨16, dst, x, y, imm, sym⟩) = (if wrap64 (t.ctr.getD x.toNat 0) < 0 ∨ imm ≤ wrap64 (t.ctr.getD x.toNat 0) then .error 11 else .ok t) := rfl
    rw [q1, q2, h.ctr]
    split
    · exact .inl ⟨_, rfl, rfl⟩
    · exact .inr ⟨_, _, rfl, rfl, h⟩

/-- How a run ends: what the law compares. -/
structure SameEnd (p q : RS × Nat × Int) : Prop where
  rem : q.2.1 = p.2.1
  err : q.2.2 = p.2.2
  mem : q.1.mem = p.1.mem
  out : q.1.out = p.1.out
  read : q.1.read = p.1.read
theorem Agree.same (h : Agree R R' num L s t) (m : Nat) (e : Int) : SameEnd (s, m, e) (t, m, e) := ⟨rfl, rfl, h.mem, h.out, h.read⟩
/-- The numbers of the places. -/
def numP (R : Nat) (P : Nat → Int × Int) (r : Int) : Int := if r < 0 ∨ (R : Int) ≤ r then r else if 0 < (P r.toNat).1 then (P r.toNat).1 - 2 else 8 + (P r.toNat).2
theorem numP_in {E : List (List Int)} {P : Nat → Int × Int} {n : Int} (hv : VaG E R P n) {r : Nat} (hr : r < R) : numP R P r = (if 0 < (P r).1 then (P r).1 - 2 else 8 + (P r).2) ∧ 0 ≤ numP R P r ∧ numP R P r < 8 + n := by
  have e : numP R P r = (if 0 < (P r).1 then (P r).1 - 2 else 8 + (P r).2) := by
    unfold numP
    rw [if_neg (by omega), Int.toNat_natCast]
  refine ⟨e, ?_⟩
  rw [e]
  have := hv.pos
  rcases hv.kind r hr with ⟨h1, h2, h3⟩ | ⟨h1, h2, h3⟩
  · rw [if_pos (by omega)]; omega
  · rw [if_neg (by omega)]; omega
theorem numP_ne {E : List (List Int)} {P : Nat → Int × Int} {n : Int} (hv : VaG E R P n) {r q : Nat} (hr : r < R) (hq : (q : Int) ∈ E.getD r []) : q < R ∧ (numP R P q).toNat ≠ (numP R P r).toNat := by
  obtain ⟨k, hk, hkR, hne⟩ := hv.edge r hr _ hq
  have hqk : q = k := by omega
  subst hqk
  refine ⟨hkR, fun e => hne ?_⟩
  obtain ⟨e1, p1, _⟩ := numP_in hv hr
  obtain ⟨e2, p2, _⟩ := numP_in hv hkR
  have e3 : numP R P q = numP R P r := by omega
  rw [e1, e2] at e3
  rcases hv.kind r hr with ⟨a1, a2, a3⟩ | ⟨a1, a2, a3⟩
  · rcases hv.kind q hkR with ⟨b1, b2, b3⟩ | ⟨b1, b2, b3⟩
    · rw [if_pos (by omega), if_pos (by omega)] at e3
      exact Prod.ext (by omega) (by omega)
    · rw [if_neg (by omega), if_pos (by omega)] at e3
      omega
  · rcases hv.kind q hkR with ⟨b1, b2, b3⟩ | ⟨b1, b2, b3⟩
    · rw [if_pos (by omega), if_neg (by omega)] at e3
      omega
    · rw [if_neg (by omega), if_neg (by omega)] at e3
      exact Prod.ext (by omega) (by omega)
/-- The runs end alike. -/
theorem run_sim {bs : List IBlk} {P : Nat → Int × Int} {n : Int} (hw : wfF R bs = true) (hR : R ≤ 64) (hv : VaG (edgesL R bs) R P n) (hR' : 8 + n = R') (hnum : num = numP R P) :
    ∀ (m a k : Nat) (s t : RS), a < bs.length → k ≤ (bs.getD a default).code.length → Agree R R' num (liveB (bs.getD a default) ((solV bs).out a) k) s t → SameEnd (runR ap idx inp bs m a k s) (runR ap idx inp (bs.map (renK num)) m a k t)
  | 0, a, k, s, t, ha, hk, h => h.same 0 13
  | m + 1, a, k, s, t, ha, hk, h => by
    have hg : (bs.map (renK num)).getD a default = renK num (bs.getD a default) := by
      exact map_at _ _ ha
    have hbo := okBlk_at hw ha
    obtain ⟨hIV, hfix⟩ := sol_fix hw
    obtain ⟨hf1, hf2⟩ := hfix a ha
    have hout := hIV.out a ha
    have h64 : ∀ x, x < 2 ^ R → x < 2 ^ 64 := fun x hx => Nat.lt_of_lt_of_le hx (Nat.pow_le_pow_right (by decide) hR)
    unfold runR
    rw [hg]
    by_cases hkl : k < (bs.getD a default).code.length
    · have hkl' : k < (renK num (bs.getD a default)).code.length := by simpa [renK] using hkl
      have hi' : (renK num (bs.getD a default)).code.getD k default = renI num ((bs.getD a default).code.getD k default) := by
        show ((bs.getD a default).code.map (renI num)).getD k default = _
        exact map_at _ _ hkl
      rw [if_pos hkl, if_pos hkl', hi']
      have hok : okIns R ((bs.getD a default).code.getD k default) = true := by
        simp only [okBlk, Bool.and_eq_true, List.all_eq_true] at hbo
        refine hbo.1.1.1 _ ?_
        exact mem_at _ hkl
      rw [liveB_at _ _ hkl] at h
      have hM : liveB (bs.getD a default) ((solV bs).out a) (k + 1) < 2 ^ R := by
        rw [← rowsK_fst _ _ (fun _ => 0)]
        exact (rowsK_lt hbo hout (fun _ _ => Nat.two_pow_pos R) (k + 1)).1
      rcases ins_sim ap idx inp hR (h64 _ hM) hok (fun hd => by
        have hdR : okR R ((bs.getD a default).code.getD k default).dst = true := by
          simp only [okIns, Bool.and_eq_true, Bool.or_eq_true, Bool.not_eq_true'] at hok
          rcases hok.2 with h1 | h1
          · rw [hd] at h1; cases h1
          · exact h1
        simp only [okR, decide_eq_true_eq] at hdR
        obtain ⟨d, hdd⟩ := Int.eq_ofNat_of_zero_le hdR.1
        have hdl : d < R := by omega
        obtain ⟨_, p1, p2⟩ := numP_in hv hdl
        rw [hdd, hnum]
        refine ⟨⟨p1, by omega⟩, fun q hq hqb hne => ?_⟩
        exact (numP_ne hv hdl (edgesL_live hw hR ha hkl hd hdd hdl hqb (by omega))).2) h with ⟨e, h1, h2⟩ | ⟨s', t', h1, h2, h3⟩
      · rw [h1, h2]
        exact h.same _ _
      · rw [h1, h2]
        exact run_sim hw hR hv hR' hnum m a (k + 1) s' t' ha (by omega) h3
    · have hkl' : ¬ k < (renK num (bs.getD a default)).code.length := by simpa [renK] using hkl
      rw [if_neg hkl, if_neg hkl']
      have hke : k = (bs.getD a default).code.length := by omega
      rw [hke, liveB_end] at h
      show SameEnd _ (if (bs.getD a default).kind = 3 then _ else if (bs.getD a default).kind = 2 ∧ t.get (if (bs.getD a default).kind = 2 then num (bs.getD a default).x else (bs.getD a default).x) = 0 then _ else _)
      have hgo : ∀ b : Int, b ∈ succI (bs.getD a default) → SameEnd (runR ap idx inp bs m b.toNat 0 s) (runR ap idx inp (bs.map (renK num)) m b.toNat 0 t) := fun b hb => by
        have hr := succ_ok hbo b hb
        refine run_sim hw hR hv hR' hnum m b.toNat 0 s t (by omega) (Nat.zero_le _) (h.less ?_)
        rw [liveB_zero, ← (hfix b.toNat (by omega)).1]
        refine sub_trans (hf2 b hb) ?_
        unfold lastB
        split
        · exact sub_left _ _
        · exact sub_refl _
      have hkind : (bs.getD a default).kind = 1 ∨ (bs.getD a default).kind = 2 ∨ (bs.getD a default).kind = 3 := by
        simp only [okBlk, Bool.and_eq_true, decide_eq_true_eq] at hbo
        exact hbo.1.1.2
      by_cases h3 : (bs.getD a default).kind = 3
      · rw [if_pos h3, if_pos h3, h.lck]
        split
        · exact h.same _ _
        · exact h.same _ _
      · rw [if_neg h3, if_neg h3]
        by_cases h2 : (bs.getD a default).kind = 2
        · have hx : t.get (num (bs.getD a default).x) = s.get (bs.getD a default).x := by
            refine h.get ?_ ?_
            · simp only [okBlk, Bool.and_eq_true, h2, decide_true, Bool.not_true, Bool.false_or] at hbo
              exact hbo.2
            · unfold lastB
              rw [if_pos h2, addB_bit]
              simp
          rw [if_pos h2, hx]
          by_cases h0 : s.get (bs.getD a default).x = 0
          · rw [if_pos ⟨h2, h0⟩, if_pos ⟨h2, h0⟩]
            refine hgo _ ?_
            unfold succI
            by_cases he : (bs.getD a default).tgt = (bs.getD a default).els
            · rw [if_pos (.inr ⟨h2, he⟩), he]; simp
            · rw [if_neg (by rw [h2]; rintro (h | ⟨_, h⟩); (cases h); exact he h), if_pos h2]; simp
          · rw [if_neg (fun h => h0 h.2), if_neg (fun h => h0 h.2)]
            refine hgo _ ?_
            unfold succI
            by_cases he : (bs.getD a default).tgt = (bs.getD a default).els
            · rw [if_pos (.inr ⟨h2, he⟩)]; simp
            · rw [if_neg (by rw [h2]; rintro (h | ⟨_, h⟩); (cases h); exact he h), if_pos h2]; simp
        · rw [if_neg (fun h => h2 h.1), if_neg (fun h => h2 h.1)]
          refine hgo _ ?_
          unfold succI
          rw [if_pos (.inl (by omega))]; simp
end
end Go.Proofs.YtifjcknklecdbaaDoor

