/- The small functions of ir and liveness, by their contracts. -/
import Derived.Test.YtifjcknklecdbaaDoorLivB
import Derived.Laws.Bits64b
import Derived.Laws.BitsAllLaws
import Derived.RegionTactic
import Derived.StillTailTactics
import Derived.BigRegion
import Derived.IntWalk
set_option linter.unusedVariables false
set_option linter.unusedSimpArgs false
namespace Go.Proofs.YtifjcknklecdbaaDoor
open Go.RowKit

/-- An instruction as a value. -/
abbrev insV (i : IIns) : Value := .agg #[.int .u8 i.op, .int .i64 i.dst, .int .i64 i.x, .int .i64 i.y, .int .i64 i.imm, .string i.sym]

theorem defines_any (op : Nat) (dst x y imm : Int) (sym : ByteArray) (w : World) :
    Calls Tryd.prog 20 #[.agg #[.int .u8 op, .int .i64 dst, .int .i64 x, .int .i64 y, .int .i64 imm, .string sym]] w fun e w' =>
      e = .returned (.tuple #[.int .i64 (if hasDef op = true then dst else 0), .bool (hasDef op)]) ∧ Below w.heap.size w w' := by
  have hb : Below w.heap.size w (w.alloc (.cells #[.int .u8 op, .int .i64 dst, .int .i64 x, .int .i64 y, .int .i64 imm, .string sym] 59)) := bAlloc (Nat.le_refl _) (Below.refl _ _)
  have HB := Lib.hid hb
  clear hb
  have hc : op = 1 ∨ op = 2 ∨ op = 3 ∨ op = 4 ∨ op = 6 ∨ op = 9 ∨ op = 15 ∨ ¬ (op = 1 ∨ op = 2 ∨ op = 3 ∨ op = 4 ∨ op = 6 ∨ op = 9 ∨ op = 15) := by omega
  rcases hc with rfl | rfl | rfl | rfl | rfl | rfl | rfl | h
  all_goals try (
    go_enter Tryd.func20, Tryd.ntmps20
    go_wp2_with fail
    go_ret2
    exact ⟨rfl, HB.out⟩)
  rw [show hasDef op = false from decide_eq_false h]
  have n1 : ((op : Int) == 1) = false := by simp; omega
  have n2 : ((op : Int) == 2) = false := by simp; omega
  have n3 : ((op : Int) == 3) = false := by simp; omega
  have n4 : ((op : Int) == 4) = false := by simp; omega
  have n6 : ((op : Int) == 6) = false := by simp; omega
  have n9 : ((op : Int) == 9) = false := by simp; omega
  have n15 : ((op : Int) == 15) = false := by simp; omega
  clear h
  go_enter Tryd.func20, Tryd.ntmps20
  go_wp2_with fail
  go_ret2
  exact ⟨rfl, HB.out⟩

theorem rdI_one (w : World) (n : Nat) (a : Int) (hn : w.heap.size = n) : RdI (w.alloc (.cells #[.int .i64 a] 3)) (.slice (some ⟨n, 0, none⟩) 1 1) [a] := by
  subst hn
  refine ⟨_, _, rfl, fun k hk => ⟨w.heap.size, 0, rfl, by simp, ?_⟩⟩
  have : k = 0 := by simpa using hk
  subst this
  have h := heap_alloc_new w (.cells #[.int .i64 a] 3)
  simp only [World.cell?, h]
  rfl
theorem rdI_two (w : World) (n : Nat) (a b : Int) (hn : w.heap.size = n) : RdI (w.alloc (.cells #[.int .i64 a, .int .i64 b] 3)) (.slice (some ⟨n, 0, none⟩) 2 2) [a, b] := by
  subst hn
  refine ⟨_, _, rfl, fun k hk => ⟨w.heap.size, 0, rfl, by simp, ?_⟩⟩
  have hk : k < 2 := by simpa using hk
  have h := heap_alloc_new w (.cells #[.int .i64 a, .int .i64 b] 3)
  have : k = 0 ∨ k = 1 := by omega
  simp only [World.cell?, h]
  rcases this with rfl | rfl <;> rfl
theorem rdI_nil (w : World) : RdI w (.slice none 0 0) [] := ⟨none, 0, rfl, fun k hk => by simp at hk⟩

def Uses (w : World) (l : List Int) (e : Ending) (w' : World) : Prop := ∃ v, e = .returned v ∧ RdI w' v l ∧ (∀ k, v.ownBlock = some k → w.heap.size ≤ k) ∧ Below w.heap.size w w'
set_option maxHeartbeats 1600000 in
theorem uses_any (op : Nat) (dst x y imm : Int) (sym : ByteArray) (w : World) :
    Calls Tryd.prog 21 #[.agg #[.int .u8 op, .int .i64 dst, .int .i64 x, .int .i64 y, .int .i64 imm, .string sym]] w (Uses w (usesI ⟨op, dst, x, y, imm, sym⟩)) := by
  have hb : Below w.heap.size w (w.alloc (.cells #[.int .u8 op, .int .i64 dst, .int .i64 x, .int .i64 y, .int .i64 imm, .string sym] 59)) := bAlloc (Nat.le_refl _) (Below.refl _ _)
  have hs : w.heap.size ≤ (w.alloc (.cells #[.int .u8 op, .int .i64 dst, .int .i64 x, .int .i64 y, .int .i64 imm, .string sym] 59)).heap.size := by simp
  have HB := Lib.hid hb
  have HS := Lib.hid hs
  clear hb hs
  have hc : op = 2 ∨ op = 4 ∨ op = 6 ∨ op = 8 ∨ op = 10 ∨ op = 3 ∨ op = 5 ∨ op = 7 ∨ ¬ (op = 2 ∨ op = 4 ∨ op = 6 ∨ op = 8 ∨ op = 10 ∨ op = 3 ∨ op = 5 ∨ op = 7) := by omega
  have r1 := fun w n => rdI_one w n x
  have r2 := fun w n => rdI_two w n x y
  rcases hc with rfl | rfl | rfl | rfl | rfl | rfl | rfl | rfl | h
  iterate 5 (focus
    go_enter Tryd.func21, Tryd.ntmps21
    go_wp2_with fail
    go_ret
    exact ⟨_, rfl, r1 _ _ (by simp), fun k hk => (by cases hk; first | exact Nat.le_refl _ | (simp; done) | omega), bAlloc HS.out HB.out⟩)
  iterate 3 (focus
    go_enter Tryd.func21, Tryd.ntmps21
    go_wp2_with fail
    go_ret
    exact ⟨_, rfl, r2 _ _ (by simp), fun k hk => (by cases hk; first | exact Nat.le_refl _ | (simp; done) | omega), bAlloc HS.out HB.out⟩)
  have HD : Hid (usesI ⟨op, dst, x, y, imm, sym⟩ = []) := (show usesI _ = [] by unfold usesI; rw [if_neg (by simp; omega), if_neg (by simp; omega)])
  have n2 : ((op : Int) == 2) = false := by simp; omega
  have n4 : ((op : Int) == 4) = false := by simp; omega
  have n6 : ((op : Int) == 6) = false := by simp; omega
  have n8 : ((op : Int) == 8) = false := by simp; omega
  have n10 : ((op : Int) == 10) = false := by simp; omega
  have n3 : ((op : Int) == 3) = false := by simp; omega
  have n5 : ((op : Int) == 5) = false := by simp; omega
  have n7 : ((op : Int) == 7) = false := by simp; omega
  clear h r1 r2
  go_enter Tryd.func21, Tryd.ntmps21
  go_wp2_with fail
  go_ret
  exact ⟨_, rfl, by rw [HD.out]; exact rdI_nil _, fun k hk => (by cases hk), HB.out⟩

set_option maxHeartbeats 1600000 in
theorem succ_any (cp : Option Addr) (cl cc kind : Nat) (code : List IIns) (x tgt els : Int) (w : World) :
    Calls Tryd.prog 44 #[.agg #[.slice cp cl cc, .int .u8 kind, .int .i64 x, .int .i64 tgt, .int .i64 els]] w (Uses w (succI ⟨code, kind, x, tgt, els⟩)) := by
  have hb : Below w.heap.size w (w.alloc (.cells #[.slice cp cl cc, .int .u8 kind, .int .i64 x, .int .i64 tgt, .int .i64 els] 52)) := bAlloc (Nat.le_refl _) (Below.refl _ _)
  have hs : w.heap.size ≤ (w.alloc (.cells #[.slice cp cl cc, .int .u8 kind, .int .i64 x, .int .i64 tgt, .int .i64 els] 52)).heap.size := by simp
  have HB := Lib.hid hb
  have HS := Lib.hid hs
  have r1 := fun w n => rdI_one w n tgt
  have r2 := fun w n => rdI_two w n tgt els
  clear hb hs
  by_cases h1 : kind = 1
  · subst h1
    go_enter Tryd.func44, Tryd.ntmps44
    go_wp2_with fail
    go_ret
    exact ⟨_, rfl, r1 _ _ (by simp), fun k hk => (by cases hk; first | exact Nat.le_refl _ | (simp; done) | omega), bAlloc HS.out HB.out⟩
  · by_cases h2 : kind = 2
    · subst h2
      by_cases h3 : tgt = els
      · subst h3
        have HD : Hid (succI ⟨code, 2, x, tgt, tgt⟩ = [tgt]) := (show succI _ = _ by simp [succI])
        go_enter Tryd.func44, Tryd.ntmps44
        go_wp2_with fail
        go_ret
        exact ⟨_, rfl, by rw [HD.out]; exact r1 _ _ (by simp), fun k hk => (by cases hk; first | exact Nat.le_refl _ | (simp; done) | omega), bAlloc HS.out HB.out⟩
      · have HD : Hid (succI ⟨code, 2, x, tgt, els⟩ = [tgt, els]) := (show succI _ = _ by simp [succI, h3])
        have h3b : (tgt == els) = false := by simpa using h3
        go_enter Tryd.func44, Tryd.ntmps44
        go_wp2_with fail
        go_ret
        exact ⟨_, rfl, by rw [HD.out]; exact r2 _ _ (by simp), fun k hk => (by cases hk; first | exact Nat.le_refl _ | (simp; done) | omega), bAlloc HS.out HB.out⟩
    · have HD : Hid (succI ⟨code, kind, x, tgt, els⟩ = []) := (show succI _ = _ by simp [succI, h1, h2])
      have n1 : ((kind : Int) == 1) = false := by simp; omega
      have n2 : ((kind : Int) == 2) = false := by simp; omega
      clear h1 h2 r1 r2
      go_enter Tryd.func44, Tryd.ntmps44
      go_wp2_with fail
      go_ret
      exact ⟨_, rfl, by rw [HD.out]; exact rdI_nil _, fun k hk => (by cases hk), HB.out⟩

/-! Sets of registers: functions of at most 64 registers. m: how many words a set has, 0 or 1. -/
theorem infoU : (Tryd.prog.info? 107).map (fun i => (i.zero, i.size, i.bytes)) = some (some (.int .u64 0), 1, 8) := by kernel_rfl

def EmptyPost (m : Nat) (w : World) (e : Ending) (w' : World) : Prop := e = .returned (.slice (some ⟨w.heap.size, 0, none⟩) m m) ∧ SetV w' m (.slice (some ⟨w.heap.size, 0, none⟩) m m) 0 ∧ w' = w.alloc (.cells (madeCells #[Value.int .u64 0] m) 107)
theorem empty_made (w : World) (m : Nat) (hm : m ≤ 1) : SetV (w.alloc (.cells (madeCells #[Value.int .u64 0] m) 107)) m (.slice (some ⟨w.heap.size, 0, none⟩) m m) 0 := by
  refine ⟨by simp [setWd], .inr ⟨w.heap.size, m, madeCells #[Value.int .u64 0] m, rfl, Nat.zero_le _, heap_alloc_new w _, Nat.le_refl _, by unfold maxLen; omega, by rw [size_madeCells]; simp, ?_⟩⟩
  apply List.ext_getElem?
  intro i
  by_cases hi : i < m
  · rw [List.getElem?_take, if_pos (by omega)]
    simp [madeCells, setWd, hi, Nat.mod_one]
  · rw [List.getElem?_eq_none (by simp [madeCells]; omega), List.getElem?_eq_none (by simp [setWd]; omega)]
theorem empty_any (R m : Nat) (hR : R ≤ 64) (hm : (R + 63) / 64 = m) (w : World) : Calls Tryd.prog 29 #[.int .i64 R] w (EmptyPost m w) := by
  have hm1 : m ≤ 1 := by omega
  have hq : ((R : Int) + 63) / 64 = (m : Int) := by omega
  have hmk := run_make_row' (P := Tryd.prog) 88 107 (.int .u64 0) 8 Tryd.underlying88 infoU rfl .i64 .i64 m (by omega) (by omega)
  have HM := Lib.hid (empty_made w m hm1)
  clear hm
  go_enter Tryd.func29, Tryd.ntmps29
  go_wp2_with fail
  go_ret
  exact ⟨rfl, HM.out, rfl⟩

theorem tz64_zero (w : World) : Calls Tryd.prog 48 #[.int .u64 0] w fun e w' => e = .returned (.int .i64 64) ∧ w = w' := by
  go_enter Tryd.func48, Tryd.ntmps48
  go_wp2_with fail
  go_ret
  exact ⟨rfl, rfl⟩

end Go.Proofs.YtifjcknklecdbaaDoor
