/- slices.Clone of the example's code. -/
import Derived.Test.YtepldfnplfhncaaDoorLinI
import Derived.Lib.LazyBuf
set_option linter.unusedVariables false
set_option linter.unusedSimpArgs false
namespace Go.Proofs.YtepldfnplfhncaaDoor
open Go.RowKit

theorem infoIns : (Tryd.prog.info? 64).map (fun i => (i.zero, i.size, i.bytes)) = some (some (.agg #[.int .u8 0, .int .i64 0, .int .i64 0, .int .i64 0, .int .i64 0]), 5, 40) := by kernel_rfl
theorem info_parts22 {P : Program} {t : TypeId} {z : Value} {n b : Nat} (h : (P.info? t).map (fun i => (i.zero, i.size, i.bytes)) = some (some z, n, b)) : ∃ i, P.info? t = some i ∧ i.zero = some z ∧ i.size = n ∧ i.bytes = b := by
  obtain ⟨i, hi, he⟩ := Option.map_eq_some_iff.1 h
  simp only [Prod.mk.injEq] at he
  exact ⟨i, hi, he.1, he.2.1, he.2.2⟩

set_option maxHeartbeats 1600000 in
theorem clone_ex (C : Nat) (w : World) (hC : RowC w C [.int .u8 20, .int .i64 2, .int .i64 3, .int .i64 0, .int .i64 1, .int .u8 1, .int .i64 0, .int .i64 0, .int .i64 0, .int .i64 0]) :
    Calls Tryd.prog 31 #[.slice (some ⟨C, 0, none⟩) 2 2] w fun e w' => ∃ g c cur, e = .returned (.slice (some ⟨g, 0, none⟩) 2 c) ∧ w.heap.size ≤ g ∧ w'.heap[g]? = some (.cells cur 64 (0, 0)) ∧ cur.toList.take 10 = [.int .u8 20, .int .i64 2, .int .i64 3, .int .i64 0, .int .i64 1, .int .u8 1, .int .i64 0, .int .i64 0, .int .i64 0, .int .i64 0] ∧ Below w.heap.size w w' := by
  obtain ⟨i0, hi0, hz0, hz1, hz2⟩ := info_parts22 infoIns
  have heq := fun (w : World) => run_eql_slice_nil (P := Tryd.prog) w 48 64 (some ⟨C, 0, none⟩) 2 2 Tryd.underlying48
  have HC := Lib.hid (hC.alloc (.cells #[] 64))
  have HO := Lib.hid (World.ownsRow_made (e := 64) (size := 5) (base := w.heap.size) w #[] 0 (Nat.le_refl _) (Nat.zero_le _) rfl)
  go_enter Tryd.func31, Tryd.ntmps31
  go_wp2_with (first | (at_builtin; refine wpList_append_own _ rfl _ _ 48 rfl w.heap.size 64 i0 (.agg #[.int .u8 0, .int .i64 0, .int .i64 0, .int .i64 0, .int .i64 0]) 5 40 Tryd.underlying48 hi0 hz0 hz1 hz2 rfl (by decide) _ 0 [] rfl HO.out ⟨C, 0, none⟩ 2 2 [.int .u8 20, .int .i64 2, .int .i64 3, .int .i64 0, .int .i64 1, .int .u8 1, .int .i64 0, .int .i64 0, .int .i64 0, .int .i64 0] rfl rfl ?c1 ?c2 ?c3 ?c4 ?c5 ?_))
  case c1 =>
    intro j u hj
    have h1 := HC.out.at j hj
    have e : (⟨C, 0, none⟩ : Addr).add j = ⟨C, j, none⟩ := by unfold Addr.add; split <;> simp_all
    rw [e]; exact h1
  case c2 => decide
  case c3 => unfold maxLen; omega
  case c4 => omega
  case c5 => simp
  intro v' w' hown hg hnil
  have hB : Below w.heap.size w w' := (bAlloc (o := .cells #[] 64) (Nat.le_refl _) (Below.refl _ _)).grown hg (by simp) (fun k hk => by simp [Value.ownBlock] at hk; omega)
  rcases hown.2 with ⟨e, h0⟩ | ⟨g, cap, cur, rfl, hg1, hh, _, _, _, htk⟩
  · exact absurd h0 (by decide)
  · have HH := Lib.hid hh
    have HTK := Lib.hid htk
    have HB := Lib.hid hB
    clear hown hh htk hB hg
    go_wp2_with fail
    go_ret
    exact ⟨g, cap, cur, rfl, hg1, HH.out, HTK.out, HB.out⟩
end Go.Proofs.YtepldfnplfhncaaDoor
