/- Maps with string keys that the call makes, told by a function: what stands at each key. -/
import Derived.Test.YtpachmkklppmjaaDoorMapV
set_option linter.unusedVariables false
set_option linter.unusedSimpArgs false
namespace Go.Proofs.YtpachmkklppmjaaDoor
open Go.RowKit Go.Maps Go.WideMaps

def keyL (s : ByteArray) : Lit := .string s.data.toList
theorem keyL_inj {a b : ByteArray} (h : keyL a = keyL b) : a = b := by
  obtain ⟨⟨a⟩⟩ := a
  obtain ⟨⟨b⟩⟩ := b
  simp only [keyL, Lit.string.injEq] at h
  subst h; rfl
theorem keyL_is (s : ByteArray) (h : s.size ≤ maxLen) : keyOf Tryd.prog 9 (.string s) = some (keyL s) := key_s s h
/-- Block b is a map of at most n entries; at the key s stands F s. -/
def MpAt (w : World) (b n : Nat) (F : ByteArray → Option Value) : Prop :=
  ∃ D : DataW Value, MapAt w 9 b n D ∧ ∀ s, Maps.has D (keyL s) = (F s).isSome ∧ ∀ z, D.atKey (keyL s) (.held z) = .held ((F s).getD z)
def updF (F : ByteArray → Option Value) (s : ByteArray) (v : Value) : ByteArray → Option Value := fun t => if t = s then some v else F t
theorem updF_same (F : ByteArray → Option Value) (s : ByteArray) (v : Value) : updF F s v s = some v := if_pos rfl
theorem updF_ne {F : ByteArray → Option Value} {s t : ByteArray} {v : Value} (h : t ≠ s) : updF F s v t = F t := if_neg h
section
variable {w w' : World} {b n : Nat} {F : ByteArray → Option Value}
theorem MpAt.lt (h : MpAt w b n F) : b < w.heap.size := by
  obtain ⟨D, h1, _⟩ := h
  exact h1.lt
theorem MpAt.of_block (h : MpAt w b n F) (hb : w'.heap[b]? = w.heap[b]?) : MpAt w' b n F := by
  obtain ⟨D, ⟨es, clock, h1, h2⟩, h3⟩ := h
  exact ⟨D, ⟨es, clock, hb.trans h1, h2⟩, h3⟩
theorem MpAt.made (w : World) : MpAt (w.alloc (.map #[] 0)) w.heap.size 0 (fun _ => none) :=
  ⟨.map [], World.ownsMap_made w Tryd.prog 9 heldElem, fun s => ⟨rfl, fun z => rfl⟩⟩
theorem MpAt.look {t e : TypeId} (h : MpAt w b n F) (ht : Tryd.prog.underlying t = some (.map 9 e)) {z : Value} (hz : (zeroValue e).run Tryd.prog w = .ok z w) (s : ByteArray) (hs : s.size ≤ maxLen) :
    (Instr.lookup t (.map (some b)) (.string s) false).run Tryd.prog w = .ok ((F s).getD z) w := by
  obtain ⟨D, h1, h2⟩ := h
  exact h1.look_at keyS ht hz (keyL_is s hs) ((h2 s).2 z)
theorem MpAt.look2 {t e : TypeId} (h : MpAt w b n F) (ht : Tryd.prog.underlying t = some (.map 9 e)) {z : Value} (hz : (zeroValue e).run Tryd.prog w = .ok z w) (s : ByteArray) (hs : s.size ≤ maxLen) :
    (Instr.lookup t (.map (some b)) (.string s) true).run Tryd.prog w = .ok (.tuple #[(F s).getD z, .bool (F s).isSome]) w := by
  obtain ⟨D, h1, h2⟩ := h
  obtain ⟨v, ps, hrun, hv⟩ := World.ownsMap.look_ok h1 keyS ht hz (zd := .held z) (zp := []) rfl (keyL_is s hs)
  have h3 : v = (F s).getD z := by
    have e1 : heldElem v = some (.held v, []) := rfl
    rw [e1] at hv
    simp only [Option.some.injEq, Prod.mk.injEq] at hv
    have e2 := hv.1.trans ((h2 s).2 z)
    exact DataW.held.inj e2
  rw [hrun, h3, (h2 s).1]
theorem MpAt.put {t e : TypeId} (h : MpAt w b n F) (ht : Tryd.prog.underlying t = some (.map 9 e)) (s : ByteArray) (hs : s.size ≤ maxLen) (hn : n < 100000) (v : Value) :
    ∃ w', (Instr.mapUpdate t (.map (some b)) (.string s) v).run Tryd.prog w = .ok () w' ∧ MpAt w' b (n + 1) (updF F s v) ∧ w.grownBy w' (some b) := by
  obtain ⟨D, h1, h2⟩ := h
  obtain ⟨w', hr, h3, h4⟩ := World.ownsMap.store h1 keyS ht (by unfold maxLen; omega) (keyL_is s hs) (d := .held v) (ps := []) rfl
  refine ⟨w', hr, ⟨_, h3, fun x => ?_⟩, h4.grown⟩
  by_cases hx : x = s
  · subst hx
    rw [updF_same]
    exact ⟨has_put_same (World.ownsMap.isMap h1) (keyS.key (keyL_is x hs)) _, fun z => atKey_put_same (World.ownsMap.isMap h1) (keyS.key (keyL_is x hs)) _ _⟩
  · have hne : keyL x ≠ keyL s := fun e => hx (keyL_inj e)
    rw [updF_ne hx, has_put_other hne, (h2 x).1]
    exact ⟨rfl, fun z => by rw [atKey_put_other hne]; exact (h2 x).2 z⟩
end
/-- A store into it, at the operation. -/
theorem wpList_put_mp {w : World} {ops : Array Oper} {rest : List Oper} {o : Oper} {a : Act} {Q : Exit → Act → World → Prop} (hg : o.guard = none) (m x u : Operand) (t e : TypeId) (hop : o.op = .mapUpdate t m x u)
    (ht : Tryd.prog.underlying t = some (.map 9 e)) (b n : Nat) (F : ByteArray → Option Value) (h : MpAt w b n F) (hm : a.eval m = .map (some b)) (s : ByteArray) (hx : a.eval x = .string s) (hs : s.size ≤ maxLen) (hn : n < 100000) (v : Value) (hv : a.eval u = v)
    (hK : ∀ w', MpAt w' b (n + 1) (updF F s v) → w.grownBy w' (some b) → wpList Tryd.prog ops Q rest (a.put o.dst undef) w') : wpList Tryd.prog ops Q (o :: rest) a w := by
  refine wpList_plain hg fun K hK' => ?_
  obtain ⟨w', hr, h1, h2⟩ := h.put ht s hs hn v
  unfold Oper.wp
  simp [execOp, hop, hm, hx, hv, hr, Result.andThen]
  exact hK' _ _ (hK w' h1 h2)
end Go.Proofs.YtpachmkklppmjaaDoor
