import Derived.Test.YtdfofelchjpioaaDoorSlI
import Derived.Test.YtdfofelchjpioaaDoorIsaP
import Derived.Test.YtdfofelchjpioaaDoorMs33
set_option linter.unusedVariables false
set_option linter.unusedSimpArgs false
namespace Go.Proofs.YtdfofelchjpioaaDoor
open Go.RowKit Go.Sort

theorem SlI.mono {B B' : Nat} {w : World} {v : Value} {xs : List Int} (h : SlI B w v xs) (hB : B' ≤ B) : SlI B' w v xs := by
  rcases h with h | ⟨h1, g, cap, h2, h3, h4⟩
  · exact .inl h
  · exact .inr ⟨h1, g, cap, h2, by omega, h4⟩

def fv (a b c : Int) (l : UInt8) : Int := if l = 65 then a else if l = 66 then b else c
end Go.Proofs.YtdfofelchjpioaaDoor

set_option linter.unusedVariables false
set_option linter.unusedSimpArgs false
namespace Go.Proofs.YtdfofelchjpioaaDoor
open Go.RowKit

section
open Go.Lib
end

theorem put_lit (l : List Value) (df : List Deferred) (k : Nat) (v : Value) : Act.put ⟨l.toArray, df⟩ (some k) v = ⟨(l.set k v).toArray, df⟩ := by simp [Act.put]
theorem put_no (a : Act) (v : Value) : a.put none v = a := rfl
structure Tri (W : World) (S : Nat) (dv mv : Value) (s : St) (m : List Int) : Prop where
  st : StAt W S s dv
  d : MemAt W dv s.d
  m : MemAt W mv m
theorem Tri.below {W W' : World} {S : Nat} {dv mv : Value} {s : St} {m : List Int} (h : Tri W S dv mv s m) (hb : Below W.heap.size W W') : Tri W' S dv mv s m := ⟨h.st.below hb h.st.lt, h.d.below hb (Nat.le_refl _), h.m.below hb (Nat.le_refl _)⟩
theorem Tri.kept {W W' : World} {S : Nat} {dv mv : Value} {s : St} {m : List Int} (h : Tri W S dv mv s m) {F : Nat → Prop} (hk : Kept F W W') (hF : ∀ k, OwnF S dv mv k → ¬ F k) (hlt : ∀ k, OwnF S dv mv k → k < W.heap.size) : Tri W' S dv mv s m :=
  ⟨⟨h.st.1, h.st.2.block (hk.block _ (hlt _ (.inl rfl)) (hF _ (.inl rfl)))⟩, h.d.block fun k e => hk.block _ (hlt _ (.inr (.inl e))) (hF _ (.inr (.inl e))), h.m.block fun k e => hk.block _ (hlt _ (.inr (.inr e))) (hF _ (.inr (.inr e)))⟩
end Go.Proofs.YtdfofelchjpioaaDoor

