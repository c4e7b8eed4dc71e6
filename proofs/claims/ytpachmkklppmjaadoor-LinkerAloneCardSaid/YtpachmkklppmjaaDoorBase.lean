/- Common imports and small lemmas on worlds. -/
import Derived.Test.YtpachmkklppmjaaDoorProg
import Derived.WalkKit
import Derived.Test.YtpachmkklppmjaaDoorShelf
import Derived.Outline
import Derived.BigQuiet
import Derived.BigGuardPart
import Derived.Deep.QuietTactic
import Derived.Deep.DeepFit
import Derived.WalkLawsBesides
import Derived.WalkSpells
import Derived.WalkSmall
import Derived.Lib.Hide
import Derived.Laws.ResultCell
namespace Go.Proofs.YtpachmkklppmjaaDoor
open Go.RowKit

theorem bcell {W w1 : World} (hb : Below W.heap.size W w1) : (∀ b o, b < W.heap.size → w1.cell? ⟨b, o, none⟩ = W.cell? ⟨b, o, none⟩) ∧ (∀ b o, b < W.heap.size → w1.frozen? ⟨b, o, none⟩ = W.frozen? ⟨b, o, none⟩) :=
  ⟨fun b o h => hb.cell (p := ⟨b, o, none⟩) h, fun b o h => hb.frozen (p := ⟨b, o, none⟩) h⟩

/-- Behind a call that began in a later world. -/
theorem below_then {B : Nat} {w W w1 : World} (h : Below B w W) (h1 : Below W.heap.size W w1) (hB : B ≤ W.heap.size) : Below B w w1 := h.trans (h1.mono hB)

/- The steps of a frame, the side condition first. -/
theorem bSet {B : Nat} {a w : World} {p : Addr} {u : Value} (hp : B ≤ p.block) (h : Below B a w) : Below B a (w.setCell p u) := h.setCell hp u
theorem bAlloc {B : Nat} {a w : World} {o : Obj} (hB : B ≤ w.heap.size) (h : Below B a w) : Below B a (w.alloc o) := h.alloc hB o
theorem bThen {B : Nat} {w W w1 : World} (h1 : Below W.heap.size W w1) (hB : B ≤ W.heap.size) (h : Below B w W) : Below B w w1 := h.trans (h1.mono hB)
theorem bDrewN {B : Nat} {a w : World} {n : Nat} (h : Below B a w) : Below B a (w.drewN n) := below_drewN h n

theorem quiet_add_left {P : Program} {f : FuncId} {args : Array Value} {w : World} {a n : Nat} {v : Value}
    (h : Calls P f args (w.drewN (a + n)) fun e w' => e = .returned v ∧ w.drewN (a + n) = w') :
    Calls P f args (w.drewN (a + n)) fun e w'' => e = .returned v ∧ ∃ m, w'' = w.drewN (a + m) :=
  h.mono fun _ _ ⟨he, hm⟩ => ⟨he, n, hm.symm⟩
theorem quiet_left {P : Program} {f : FuncId} {args : Array Value} {w : World} {n : Nat} {v : Value}
    (h : Calls P f args (w.drewN n) fun e w' => e = .returned v ∧ w.drewN n = w') : Calls P f args (w.drewN n) fun e w'' => e = .returned v ∧ ∃ m, w'' = w.drewN m :=
  h.mono fun _ _ ⟨he, hm⟩ => ⟨he, n, hm.symm⟩
theorem results_tmp4 {fn : Func} {t u v x : Tmp} (h : fn.results = #[.tmp t, .tmp u, .tmp v, .tmp x]) (tmps : Array Value) (P : Program) (w : World) :
    (results fn tmps).run P w = .ok (.tuple #[tmps.getD t undef, tmps.getD u undef, tmps.getD v undef, tmps.getD x undef]) w := by simp [results, h]

end Go.Proofs.YtpachmkklppmjaaDoor
