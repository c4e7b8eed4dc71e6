/- Layer 9: the second listed variable, a state and words that came in, and a world for the witnesses. -/
import Derived.Test.YtlmipchjmgnlfaaDoorFin
import Derived.Test.YtlmipchjmgnlfaaDoorCorAc
import Derived.Test.YtlmipchjmgnlfaaDoorCorAd
set_option linter.unusedVariables false
set_option linter.unusedSimpArgs false
set_option maxRecDepth 20000
namespace Go.Proofs.YtlmipchjmgnlfaaDoor
open Go.Joins Go.ChangeShapes Go.WideShapes Go.ChangeAt Go.RowKit Go.Deep

theorem laidMet_tail {P : Program} {w : World} {x : String × DataW Unit} {rest : List (String × DataW Unit)} (h : laidMet P (x :: rest) w) : laidMet P rest w := by
  obtain ⟨ps, hv, hn, hh⟩ := h
  obtain ⟨nm, d⟩ := x
  obtain ⟨g, t, cs, fuel, p, q, h1, h2, h3, h4, h5, h6⟩ := hv
  subst h6
  exact ⟨q, h5, (List.nodup_append.1 hn).2.1, fun b off hm => hh b off (by simp [hm])⟩

theorem otab_of_laid {w : World} {nm : String} {x : String × DataW Unit} (hg : Tryd.prog.globalNamed nm = some 1) (h : laidMet Tryd.prog [x, (nm, Rows.laid_ontime_core_operators)] w) : OTab w := by
  obtain ⟨et, fr, hc⟩ := cells_of_head (g := 1) (t := 104) 2 hg (by kernel_rfl) (by kernel_rfl) (laidMet_tail h)
  refine ⟨?_, fun i _ => ?_⟩
  · rcases Nat.lt_or_ge 1 w.heap.size with h | h
    · exact h
    · rw [Array.getElem?_eq_none (by omega)] at hc; cases hc
  · unfold World.cell?
    rw [hc]
    simp

section
variable {H : Type} {enc : TypeId × Value → H} {w : World} {held : Bool} {spare : Nat → Bool}
/-- A state that came in. -/
theorem open_st {r : Reach} {b0 : Nat} {v : Value} {d : DataW H} {pl : List MemPlace} (hv : Value.okWide Tryd.prog w r b0 29 v) (h : DataW.Trod enc Tryd.prog w 0 spare held 29 v d pl) :
    ∃ (s : St) (p : Option Addr) (cap : Nat), v = stV s (.slice p s.d.length cap) ∧ s.r.length = 16 ∧ RdAt w (.slice p s.d.length cap) s.d ∧ (∀ j, W32 (s.d.getD j 0)) ∧ (∀ c, Value.slice p s.d.length cap = .slice none 0 c → c = 0) ∧
      (∀ j, W32 (s.r.getD j 0)) ∧ (-9223372036854775808 ≤ s.pc ∧ s.pc ≤ 9223372036854775807) ∧ (-9223372036854775808 ≤ s.held ∧ s.held ≤ 9223372036854775807) := by
  obtain ⟨pc, r0, r1, r2, r3, r4, r5, r6, r7, r8, r9, r10, r11, r12, r13, r14, r15, he, hl, p, cap, dd, h1, h2, h3, h4, h5, h6, h7⟩ := open_state hv h
  exact ⟨⟨pc, [r0, r1, r2, r3, r4, r5, r6, r7, r8, r9, r10, r11, r12, r13, r14, r15], dd, hl, he⟩, p, cap, h1, rfl, h2, h3, h4, h5, h6, h7⟩
/-- A slice of words that came in. -/
theorem open_wds {r : Reach} {b0 : Nat} {v : Value} {d : DataW H} {pl : List MemPlace} (hv : Value.okWide Tryd.prog w r b0 27 v) (h : DataW.Trod enc Tryd.prog w 0 spare held 27 v d pl) :
    ∃ (p : Option Addr) (cap : Nat) (l : List Int), v = .slice p l.length cap ∧ RdAt w (.slice p l.length cap) l ∧ (∀ j, W32 (l.getD j 0)) ∧ (∀ c, Value.slice p l.length cap = .slice none 0 c → c = 0) := by
  obtain ⟨a, n, c, rfl⟩ := okWide_slice Tryd.underlying27 hv
  obtain ⟨fuel, hf⟩ := h
  obtain ⟨p, cap, l, e, h1, h2, h3⟩ := open_words hf
  exact ⟨p, cap, l, (List.cons.inj e).1, h1, h2, h3⟩
end

/-- A block that holds these cells. -/
def layObj (cs : Array Value) : Obj → Obj
  | .cells _ t frozen => .cells cs t frozen
  | o => o
/-- A world for the witnesses: the settled one, the two tables holding what their initialisers lay. -/
noncomputable def laidWorld9 (os : Os) : World :=
  { World.holding Tryd.prog os ⟨#[], #[], []⟩ with heap := ((World.holding Tryd.prog os ⟨#[], #[], []⟩).heap.modify 0 (layObj fcells.toArray)).modify 1 (layObj (flatD 2 (Rows.laid_ontime_core_operators (H := Unit))).toArray) }

end Go.Proofs.YtlmipchjmgnlfaaDoor
