/- Maps that the call makes, whatever their elements are. -/
import Derived.Test.YtpachmkklppmjaaDoorBase
import Derived.Maps.OwnSet
set_option linter.unusedVariables false
set_option linter.unusedSimpArgs false
namespace Go.Proofs.YtpachmkklppmjaaDoor
open Go.RowKit Go.Maps Go.WideMaps

/-- An element as it is. -/
def heldElem (v : Value) : Option (DataW Value × List MemPlace) := some (.held v, [])
/-- Block b is a map with keys of type k that reads as D, its elements as they are. -/
def MapAt (w : World) (k : TypeId) (b n : Nat) (D : DataW Value) : Prop := w.ownsMap Tryd.prog k heldElem b n D
theorem MapAt.look {w : World} {k : TypeId} {b n : Nat} {D : DataW Value} {t e : TypeId} {z key : Value} {kl : Lit} (h : MapAt w k b n D) (K : Keyed Tryd.prog k) (ht : Tryd.prog.underlying t = some (.map k e)) (hz : (zeroValue e).run Tryd.prog w = .ok z w) (hkey : keyOf Tryd.prog k key = some kl) :
    ∃ v, (Instr.lookup t (.map (some b)) key false).run Tryd.prog w = .ok v w ∧ DataW.held v = D.atKey kl (.held z) := by
  obtain ⟨es, clock, hb, F, _, rfl⟩ := h
  rcases Maps.fit_look false K ht hz hb F hkey with ⟨hrun, _, hat⟩ | ⟨e0, y, _, _, hrun, hRv, hat, _⟩
  · exact ⟨z, hrun, (hat _).symm⟩
  · refine ⟨e0.val, hrun, ?_⟩
    rw [hat]
    have : y = (.held e0.val, []) := (Option.some.inj hRv).symm
    rw [this]
/-- .. where the datum says the element. -/
theorem MapAt.look_at {w : World} {k : TypeId} {b n : Nat} {D : DataW Value} {t e : TypeId} {z key v : Value} {kl : Lit} (h : MapAt w k b n D) (K : Keyed Tryd.prog k) (ht : Tryd.prog.underlying t = some (.map k e)) (hz : (zeroValue e).run Tryd.prog w = .ok z w) (hkey : keyOf Tryd.prog k key = some kl) (hv : D.atKey kl (.held z) = .held v) :
    (Instr.lookup t (.map (some b)) key false).run Tryd.prog w = .ok v w := by
  obtain ⟨u, hu, he⟩ := MapAt.look h K ht hz hkey
  have h2 : u = v := DataW.held.inj (he.trans hv)
  exact h2 ▸ hu
theorem MapAt.below {w w' : World} {k : TypeId} {b n : Nat} {D : DataW Value} (h : MapAt w k b n D) {B : Nat} (hb : Below B w w') (hB : b < B) : MapAt w' k b n D := by
  obtain ⟨es, clock, h1, h2⟩ := h
  exact ⟨es, clock, (hb.block b hB).trans h1, h2⟩
theorem MapAt.lt {w : World} {k : TypeId} {b n : Nat} {D : DataW Value} (h : MapAt w k b n D) : b < w.heap.size := by
  obtain ⟨es, clock, h1, _⟩ := h
  exact (Array.getElem?_eq_some_iff.1 h1).1
theorem MapAt.store {w : World} {k : TypeId} {b n : Nat} {D : DataW Value} {t e : TypeId} {key val : Value} {kl : Lit} (h : MapAt w k b n D) (K : Keyed Tryd.prog k) (ht : Tryd.prog.underlying t = some (.map k e)) (hn : n < 1000) (hkey : keyOf Tryd.prog k key = some kl) :
    ∃ w', (Instr.mapUpdate t (.map (some b)) key val).run Tryd.prog w = .ok () w' ∧ MapAt w' k b (n + 1) (D.put kl (.held val)) ∧ w.grownBy w' (some b) := by
  obtain ⟨w', h1, h2, h3⟩ := World.ownsMap.store h K ht (by unfold maxLen; omega) hkey (d := .held val) (ps := []) rfl
  exact ⟨w', h1, h2, h3.grown⟩
theorem keyS : Keyed Tryd.prog 9 := string_keyed Tryd.underlying9
theorem key_s (s : ByteArray) (h : s.size ≤ maxLen) : keyOf Tryd.prog 9 (.string s) = some (.string s.data.toList) := keyOf_string_mk Tryd.underlying9 h
end Go.Proofs.YtpachmkklppmjaaDoor
