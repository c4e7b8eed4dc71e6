/- Regions whose ways meet again; two copies of a state. -/
import Derived.Test.YtlmipchjmgnlfaaDoorCorBb
import Derived.Deep.RegionHeld
set_option linter.unusedVariables false
set_option linter.unusedSimpArgs false
namespace Go.Proofs.YtlmipchjmgnlfaaDoor
open Go.RowKit

theorem setRow_block (w : World) (g : Nat) (cs : Array Value) {k : Nat} (hk : k ≠ g) : (w.setRow g cs).heap[k]? = w.heap[k]? := by
  simp only [World.setRow, Array.getElem?_modify]
  rw [if_neg (fun e => hk e.symm)]
theorem setRow_size (w : World) (g : Nat) (cs : Array Value) : (w.setRow g cs).heap.size = w.heap.size := by simp [World.setRow]
theorem own_lt {w : World} {base : Nat} {e : TypeId} {size : Nat} {v : Value} {n : Nat} {xs : List Value} (h : w.ownsRow base e size v n xs) {g : Nat} (hg : v.ownBlock = some g) : g < w.heap.size := by
  rcases h.2 with ⟨rfl, _⟩ | ⟨g', cap, cur, rfl, hb, hc, _⟩
  · cases hg
  · cases hg
    exact lt_of_block hc
/-- What two copies leave. -/
structure Two (w0 : World) (s : St) (bx by' : Nat) (xv yv : Value) (W : World) : Prop where
  bel : Below w0.heap.size w0 W
  x : StAt W bx s xv
  y : StAt W by' s yv
  mx : MemAt W xv s.d
  my : MemAt W yv s.d
  lx : w0.heap.size ≤ bx
  ly : w0.heap.size ≤ by'
  ox : ∀ k, xv.ownBlock = some k → w0.heap.size ≤ k ∧ k < W.heap.size ∧ k ≠ bx ∧ k ≠ by' ∧ yv.ownBlock ≠ some k
  oy : ∀ k, yv.ownBlock = some k → w0.heap.size ≤ k ∧ k < W.heap.size ∧ k ≠ bx ∧ k ≠ by' ∧ xv.ownBlock ≠ some k
  ne : bx ≠ by'
def put6 (a : Act) (i1 i2 i3 i4 ix iy : Tmp) (v x y px py : Value) : Act := (((((((a.put (some i1) v).put (some i2) v).put (some i3) x).put (some i4) y).put (some ix) px).put (some iy) py))
theorem two_meet {P : Program} {id : Nat} {ops : Array Oper} {b : Bool} {Q : Exit → Act → World → Prop} {a : Act} {w : World} (w0 : World) (s : St) (dv : Value) (i1 i2 i3 i4 ix iy : Tmp)
    (h1 : (Code.region id ops b).wp P (fun e a' w' => e = .normal ∧ ∃ bx by' px cx py cy, a' = put6 a i1 i2 i3 i4 ix iy (stV s dv) (stV s (.slice px s.d.length cx)) (stV s (.slice py s.d.length cy)) (.pointer (some ⟨bx, 0, none⟩)) (.pointer (some ⟨by', 0, none⟩)) ∧ Two w0 s bx by' (.slice px s.d.length cx) (.slice py s.d.length cy) w') a w)
    (h2 : ∀ bx by' px cx py cy w', Two w0 s bx by' (.slice px s.d.length cx) (.slice py s.d.length cy) w' → Q .normal (put6 a i1 i2 i3 i4 ix iy (stV s dv) (stV s (.slice px s.d.length cx)) (stV s (.slice py s.d.length cy)) (.pointer (some ⟨bx, 0, none⟩)) (.pointer (some ⟨by', 0, none⟩))) w') : (Code.region id ops b).wp P Q a w :=
  Code.wp_mono (fun e a' w' ⟨he, bx, by', px, cx, py, cy, ha, ht⟩ => by subst he; subst ha; exact h2 bx by' px cx py cy w' ht) h1

end Go.Proofs.YtlmipchjmgnlfaaDoor
