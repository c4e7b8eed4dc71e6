/- How ir.Run's structures begin. No walk here. -/
import Derived.Test.YtifjcknklecdbaaDoorMs32
import Derived.Test.YtifjcknklecdbaaDoorRunJ
set_option linter.unusedVariables false
set_option linter.unusedSimpArgs false
namespace Go.Proofs.YtifjcknklecdbaaDoor
open Go.RowKit Go.Maps

/-- The colors at the beginning: B and on: the registers, the map, the runner's box, the outcome. -/
def colB (B : Nat) (k : Nat) : Nat := if k = B then 3 else if k = B + 1 then 2 else if k = B + 2 then 1 else if k = B + 3 then 8 else 0
def qB (w : World) (R : Nat) (iv : Value) (inp : List Int) (idx : ByteArray → Nat) : RK := ⟨w.heap.size, w, w.heap.size + 2, w.heap.size + 1, 0, R, .slice (some ⟨w.heap.size, 0, none⟩) R R, iv, inp, fun _ => none, 0, fun _ => .slice none 0 0, idx, []⟩
theorem made_own (w : World) (R : Nat) (hR : R ≤ 100000) : (w.alloc (.cells (madeCells #[.int .i32 0] R) 21)).ownsRow w.heap.size 21 1 (.slice (some ⟨w.heap.size, 0, none⟩) R R) R ((List.replicate R (0 : Int)).map (.int .i32)) :=
  ⟨by simp, .inr ⟨w.heap.size, R, madeCells #[.int .i32 0] R, rfl, Nat.le_refl _, heap_alloc_new w _, Nat.le_refl _, by unfold maxLen; omega, by rw [size_madeCells]; simp, by
    apply List.ext_getElem?
    intro i
    by_cases hi : i < R
    · rw [List.getElem?_take, if_pos (by omega)]
      simp [madeCells, hi, Nat.mod_one]
    · rw [List.getElem?_eq_none (by simp [madeCells]; omega), List.getElem?_eq_none (by simp; omega)]⟩⟩
theorem LpRel.begin (w : World) (R : Nat) (hR : R ≤ 100000) (iv : Value) (inp : List Int) (hi : RdI32 w iv inp) (idx : ByteArray → Nat) (mem : Nat → List Int) :
    LpRel (qB w R iv inp idx) [] (w.heap.size + 3) 0 0 (startR R mem) ((((w.alloc (.cells (madeCells #[.int .i32 0] R) 21)).alloc (.map #[] 0)).alloc (.cells #[.slice (some ⟨w.heap.size, 0, none⟩) R R, .int .i32 0, .int .i32 0, .int .i32 0, .int .i32 0, .map (some (w.heap.size + 1)), .bool false, .string ⟨#[]⟩, iv, .slice none 0 0, .int .i64 0] 73)).alloc (.cells #[.slice none 0 0, .slice none 0 0, .slice none 0 0, .int .i64 0, .int .i64 0, .int .i64 0] 39)) := by
  have hown := made_own w R hR
  have hm0 := MpAt.made (w.alloc (.cells (madeCells #[.int .i32 0] R) 21))
  have s1 : (w.alloc (.cells (madeCells #[.int .i32 0] R) 21)).heap.size = w.heap.size + 1 := by simp
  generalize hw1 : w.alloc (.cells (madeCells #[.int .i32 0] R) 21) = w1 at hown hm0 s1 ⊢
  have b1 : Below w.heap.size w w1 := by rw [← hw1]; exact bAlloc (Nat.le_refl _) (Below.refl _ _)
  clear hw1
  have s2 : (w1.alloc (.map #[] 0)).heap.size = w.heap.size + 2 := by simp [s1]
  generalize hw2 : w1.alloc (.map #[] 0) = w2 at hm0 s2 ⊢
  have b2 : Below w1.heap.size w1 w2 := by rw [← hw2]; exact bAlloc (Nat.le_refl _) (Below.refl _ _)
  clear hw2
  have r3 := RowC2.made w2 [.slice (some ⟨w.heap.size, 0, none⟩) R R, .int .i32 0, .int .i32 0, .int .i32 0, .int .i32 0, .map (some (w.heap.size + 1)), .bool false, .string ⟨#[]⟩, iv, .slice none 0 0, .int .i64 0] 73
  have f3 : ∀ k, (w2.alloc (.cells #[.slice (some ⟨w.heap.size, 0, none⟩) R R, .int .i32 0, .int .i32 0, .int .i32 0, .int .i32 0, .map (some (w.heap.size + 1)), .bool false, .string ⟨#[]⟩, iv, .slice none 0 0, .int .i64 0] 73)).frozen? ⟨w2.heap.size, k, none⟩ = false := fun k => by
    unfold World.frozen?
    rw [heap_alloc_new]
    simp only [Nat.not_lt_zero, decide_false, Bool.and_false]
  have s3 : (w2.alloc (.cells #[.slice (some ⟨w.heap.size, 0, none⟩) R R, .int .i32 0, .int .i32 0, .int .i32 0, .int .i32 0, .map (some (w.heap.size + 1)), .bool false, .string ⟨#[]⟩, iv, .slice none 0 0, .int .i64 0] 73)).heap.size = w.heap.size + 3 := by simp [s2]
  generalize hw3 : w2.alloc (.cells #[.slice (some ⟨w.heap.size, 0, none⟩) R R, .int .i32 0, .int .i32 0, .int .i32 0, .int .i32 0, .map (some (w.heap.size + 1)), .bool false, .string ⟨#[]⟩, iv, .slice none 0 0, .int .i64 0] 73 ) = w3 at r3 f3 s3 ⊢
  have b3 : Below w2.heap.size w2 w3 := by rw [← hw3]; exact bAlloc (Nat.le_refl _) (Below.refl _ _)
  clear hw3
  have r4 := RowC2.made w3 [.slice none 0 0, .slice none 0 0, .slice none 0 0, .int .i64 0, .int .i64 0, .int .i64 0] 39
  have f4 : ∀ k, (w3.alloc (.cells #[.slice none 0 0, .slice none 0 0, .slice none 0 0, .int .i64 0, .int .i64 0, .int .i64 0] 39)).frozen? ⟨w3.heap.size, k, none⟩ = false := fun k => by
    unfold World.frozen?
    rw [heap_alloc_new]
    simp only [Nat.not_lt_zero, decide_false, Bool.and_false]
  have s4 : (w3.alloc (.cells #[.slice none 0 0, .slice none 0 0, .slice none 0 0, .int .i64 0, .int .i64 0, .int .i64 0] 39)).heap.size = w.heap.size + 4 := by simp [s3]
  generalize hw4 : w3.alloc (.cells #[.slice none 0 0, .slice none 0 0, .slice none 0 0, .int .i64 0, .int .i64 0, .int .i64 0] 39) = w4 at r4 f4 s4 ⊢
  have b4 : Below w3.heap.size w3 w4 := by rw [← hw4]; exact bAlloc (Nat.le_refl _) (Below.refl _ _)
  clear hw4
  rw [s2] at r3 f3
  rw [s3] at r4 f4
  rw [s1] at hm0
  have b14 : Below w1.heap.size w1 w4 := b2.trans ((b3.mono (by omega)).trans (b4.mono (by omega)))
  have b24 : Below w2.heap.size w2 w4 := b3.trans (b4.mono (by omega))
  have b04 : Below w.heap.size w w4 := b1.trans (b14.mono (by omega))
  refine ⟨colB w.heap.size, .slice none 0 0, .slice none 0 0, .slice none 0 0, ⟨⟨⟨?_, ?_, fun k hk => ?_, b04, by show w.heap.size ≤ _; omega, Nat.le_refl _, hi, fun p hp => (by cases hp), fun b hb => (by cases hb)⟩, ⟨r3.below b4 (by show w.heap.size + 2 < _; omega), fun k => ?_, ?_⟩, ⟨own0_of ((own0_block hown fun k hk => b14.block k (own0_lt hown hk))), fun k hk => ?_⟩, by simp [startR, qB], rfl, fun k hk => absurd hk (Nat.not_lt_zero k), OwnC.nil _ _ _ _ _⟩, rfl, r4, f4, ?_, OwnC.nil _ _ _ _ _, OwnC.nil _ _ _ _ _⟩⟩
  · exact hm0.of_block (b24.block _ (by show w.heap.size + 1 < _; omega))
  · show colB w.heap.size (w.heap.size + 1) = 2
    unfold colB
    rw [if_neg (by omega), if_pos rfl]
  · have hk : k < w.heap.size := hk
    unfold colB
    rw [if_neg (by omega), if_neg (by omega), if_neg (by omega), if_neg (by omega)]
  · exact (World.frozen?_of_block (a := ⟨w.heap.size + 2, k, none⟩) (b4.block _ (by show w.heap.size + 2 < _; omega))).trans (f3 k)
  · show colB w.heap.size (w.heap.size + 2) = 1
    unfold colB
    rw [if_neg (by omega), if_neg (by omega), if_pos rfl]
  · cases hk
    unfold colB
    rw [if_pos rfl]
  · unfold colB
    rw [if_neg (by omega), if_neg (by omega), if_neg (by omega), if_pos rfl]
section
variable {q : RK} {L : List (Nat × List Value)} {ob na no : Nat} {s : RS} {w w' : World}
theorem LpRel.sub {L' : List (Nat × List Value)} (h : LpRel q L ob na no s w) (hs : ∀ p ∈ L', p ∈ L) : LpRel q L' ob na no s w := by
  obtain ⟨col, ov, va, vo, h⟩ := h
  have hr := h.run
  exact ⟨col, ov, va, vo, ⟨⟨⟨hr.x.mp, hr.x.cm, hr.x.low, hr.x.bel, hr.x.big, hr.x.le, hr.x.inn, fun p hp => hr.x.rows p (hs p hp), hr.x.fro⟩, hr.box, hr.regs, hr.lr, hr.lc, hr.mem, hr.out⟩, h.nm, h.row, h.fz, h.cb, h.arr, h.obj⟩⟩
theorem LpRel.drop {p : Nat × List Value} (h : LpRel q (p :: L) ob na no s w) : LpRel q L ob na no s w := h.sub fun p hp => List.mem_cons_of_mem _ hp
theorem LpRel.row (h : LpRel q L ob na no s w) (hb : Below w.heap.size w w') {b : Nat} {cs : List Value} (hr : RowC2 w' b cs) (hB : w.heap.size ≤ b) : LpRel q ((b, cs) :: L) ob na no s w' := by
  obtain ⟨col, ov, va, vo, h⟩ := h
  have hk := h.keep hb
  have hq := hk.run
  refine ⟨_, _, va, vo, ⟨⟨⟨hq.x.mp, hq.x.cm, hq.x.low, hq.x.bel, hq.x.big, hq.x.le, hq.x.inn, fun p hp => ?_, hq.x.fro⟩, hq.box, hq.regs, hq.lr, hq.lc, hq.mem, hq.out⟩, hk.nm, hk.row, hk.fz, hk.cb, hk.arr, hk.obj⟩⟩
  rcases List.mem_cons.1 hp with rfl | hp
  · exact ⟨hr, paint_ge hB⟩
  · exact hq.x.rows p hp
theorem LpRel.made (h : LpRel q L ob na no s w) (cs : List Value) (t : TypeId) : LpRel q ((w.heap.size, cs) :: L) ob na no s (w.alloc (.cells cs.toArray t)) :=
  h.row (bAlloc (Nat.le_refl _) (Below.refl _ _)) (RowC2.made w cs t) (Nat.le_refl _)
theorem LpRel.bel (h : LpRel q L ob na no s w) : Below q.B q.W0 w := by
  obtain ⟨_, _, _, _, h⟩ := h
  exact h.run.x.bel
theorem LpRel.at (h : LpRel q L ob na no s w) {b : Nat} {cs : List Value} (hp : (b, cs) ∈ L) : RowC2 w b cs := by
  obtain ⟨_, _, _, _, h⟩ := h
  exact (h.run.x.rows _ hp).1
end
/-- The contents: the function's own, and behind them the objects'. -/
def memL (ls os : List (List Int)) (na k : Nat) : List Int := if k < na then ls.getD k [] else os.getD (k - na) []
end Go.Proofs.YtifjcknklecdbaaDoor
