/- core: access, branch, control by their contracts. -/
import Derived.Test.YtpachmkklppmjaaDoorCorA
import Derived.Test.YtpachmkklppmjaaDoorIsaA
set_option linter.unusedVariables false
namespace Go.Proofs.YtpachmkklppmjaaDoor
open Go.RowKit

theorem bBoth {B : Nat} {w X : World} {p : Addr} {v : Value} (h : Below B w X) : Below B (w.setCell p v) (X.setCell p v) := by
  refine ⟨h.os, h.tape, h.output, by simpa [World.setCell] using h.size, fun k hk => ?_⟩
  have := h.block k hk
  simp only [World.setCell, Array.getElem?_modify]
  rw [this]

theorem target_br (n : Nat) (a b c i p : Int) (w : World) (hn : ((n : Int) == 22 || (n : Int) == 23 || (n : Int) == 24) = true) (hp : 0 ≤ p) (hp1 : p ≤ 140737488351232) (hi : -131072 ≤ i) (hi1 : i ≤ 131071) :
    Calls Tryd.prog 24 #[.agg #[.int .u8 n, .int .i64 a, .int .i64 b, .int .i64 c, .int .i64 i], .int .i64 p] w fun e w' => e = .returned (.tuple #[.int .i64 (p + 1 + i), .bool true]) ∧ w.alloc (.cells #[.int .u8 n, .int .i64 a, .int .i64 b, .int .i64 c, .int .i64 i] 51) = w' := by
  go_enter Tryd.func24, Tryd.ntmps24
  go_wp2_with fail
  refine (isBranch_any _ _).mono ?_
  rintro e w' ⟨rfl, rfl⟩
  rw [hn]
  go_wp2_with fail
  go_ret2
  exact ⟨rfl, rfl⟩

set_option maxRecDepth 100000 in
set_option maxHeartbeats 1600000 in
theorem access_load18 (E S m off len cap a b c k : Nat) (i pc nx vb old : Int) (w : World) (hE0 : w.cell? ⟨E, 0, none⟩ = some (.int .u8 18)) (hE1 : w.cell? ⟨E, 1, none⟩ = some (.int .i64 a)) (hE2 : w.cell? ⟨E, 2, none⟩ = some (.int .i64 b)) (hE3 : w.cell? ⟨E, 3, none⟩ = some (.int .i64 c)) (hE4 : w.cell? ⟨E, 4, none⟩ = some (.int .i64 i)) (hE5 : w.cell? ⟨E, 5, none⟩ = some (.int .i64 pc)) (hE6 : w.cell? ⟨E, 6, none⟩ = some (.bool false)) (hE7 : w.cell? ⟨E, 7, none⟩ = some (.int .i64 (-1))) (hE8 : w.cell? ⟨E, 8, none⟩ = some (.int .i32 0)) (hE9 : w.cell? ⟨E, 9, none⟩ = some (.pointer (some ⟨S, 0, none⟩))) (hE10 : w.cell? ⟨E, 10, none⟩ = some (.int .i64 nx)) (hF6 : w.frozen? ⟨E, 6, none⟩ = false) (hF7 : w.frozen? ⟨E, 7, none⟩ = false) (hF8 : w.frozen? ⟨E, 8, none⟩ = false) (hF10 : w.frozen? ⟨E, 10, none⟩ = false)
    (hS : S < E) (hEw : E < w.heap.size) (hm : m < E) (hb : b < 16) (hvb : -2147483648 ≤ vb ∧ vb ≤ 2147483647) (hi : -131072 ≤ i ∧ i ≤ 131071) (hk : vb + i = k) (hkl : k < len)
    (hr : w.cell? ⟨S, 1 + b, none⟩ = some (.int .i32 vb)) (hM : w.cell? ⟨m, off + k, none⟩ = some (.int .i32 old)) :
    Calls Tryd.prog 36 #[.pointer (some ⟨E, 0, none⟩), .slice (some ⟨m, off, none⟩) len cap] w fun e w' => ∃ B, e = .returned (.tuple #[.func (.func 44) #[] #[.pointer (some ⟨B, 0, none⟩), .pointer (some ⟨B + 1, 0, none⟩)], .int .i64 0]) ∧
      w.heap.size ≤ B ∧ B + 1 < w'.heap.size ∧ w'.cell? ⟨B, 0, none⟩ = some (.pointer (some ⟨E, 0, none⟩)) ∧ w'.cell? ⟨B + 1, 0, none⟩ = some (.int .i32 old) ∧ Below w.heap.size (w.setCell ⟨E, 7, none⟩ (.int .i64 k)) w' := by
  have hb2 : (b : Int) < 16 := by omega
  have hk2 : (k : Int) < len := by omega
  obtain ⟨hv1, hv2⟩ := hvb
  obtain ⟨hi1, hi2⟩ := hi
  have hmf : ∀ (fn : Fn) (first cap : Array Value) (w : World), (Instr.makeFunc fn first cap).run Tryd.prog w = .ok (.func fn first cap) w := fun _ _ _ _ => rfl
  go_enter Tryd.func36, Tryd.ntmps36
  go_wp2_with fail
  have szE0 : E < w.heap.size := by omega
  have szE1 : E < w.heap.size + 1 := by omega
  have szE2 : E < w.heap.size + 1 + 1 := by omega
  have szE3 : E < w.heap.size + 1 + 1 + 1 := by omega
  have szE4 : E < w.heap.size + 1 + 1 + 1 + 1 := by omega
  have szS0 : S < w.heap.size := by omega
  have szS1 : S < w.heap.size + 1 := by omega
  have szS2 : S < w.heap.size + 1 + 1 := by omega
  have szS3 : S < w.heap.size + 1 + 1 + 1 := by omega
  have szS4 : S < w.heap.size + 1 + 1 + 1 + 1 := by omega
  have szm0 : m < w.heap.size := by omega
  have szm1 : m < w.heap.size + 1 := by omega
  have szm2 : m < w.heap.size + 1 + 1 := by omega
  have szm3 : m < w.heap.size + 1 + 1 + 1 := by omega
  have szm4 : m < w.heap.size + 1 + 1 + 1 + 1 := by omega
  go_region
  all_goals go_wp2_with fail
  all_goals go_region
  all_goals go_wp2_with (go_at_call 35; refine (set_any _ _ _).mono ?_; rintro e w' ⟨rfl, rfl⟩)
  all_goals go_ret2
  all_goals refine ⟨_, rfl, ?_, ?_, ?_, ?_, ?_⟩
  all_goals first | omega | (simp; done) | (simp; omega) | (simp [go_sem]; done) | (repeat (first | (with_reducible apply bBoth) | (with_reducible exact Below.refl _ _) | (with_reducible apply bDrewN) | (with_reducible apply Below.drew) | ((with_reducible apply bSet); (focus first | (simp; done) | (simp; omega) | omega)) | ((with_reducible apply bAlloc); (focus first | (simp; done) | (simp; omega) | omega))))

set_option maxRecDepth 100000 in
set_option maxHeartbeats 1600000 in
theorem access_load20 (E S m off len cap a b c k : Nat) (i pc nx vb old : Int) (w : World) (hE0 : w.cell? ⟨E, 0, none⟩ = some (.int .u8 20)) (hE1 : w.cell? ⟨E, 1, none⟩ = some (.int .i64 a)) (hE2 : w.cell? ⟨E, 2, none⟩ = some (.int .i64 b)) (hE3 : w.cell? ⟨E, 3, none⟩ = some (.int .i64 c)) (hE4 : w.cell? ⟨E, 4, none⟩ = some (.int .i64 i)) (hE5 : w.cell? ⟨E, 5, none⟩ = some (.int .i64 pc)) (hE6 : w.cell? ⟨E, 6, none⟩ = some (.bool false)) (hE7 : w.cell? ⟨E, 7, none⟩ = some (.int .i64 (-1))) (hE8 : w.cell? ⟨E, 8, none⟩ = some (.int .i32 0)) (hE9 : w.cell? ⟨E, 9, none⟩ = some (.pointer (some ⟨S, 0, none⟩))) (hE10 : w.cell? ⟨E, 10, none⟩ = some (.int .i64 nx)) (hF6 : w.frozen? ⟨E, 6, none⟩ = false) (hF7 : w.frozen? ⟨E, 7, none⟩ = false) (hF8 : w.frozen? ⟨E, 8, none⟩ = false) (hF10 : w.frozen? ⟨E, 10, none⟩ = false)
    (hS : S < E) (hEw : E < w.heap.size) (hm : m < E) (hb : b < 16) (hvb : -2147483648 ≤ vb ∧ vb ≤ 2147483647) (hi : -131072 ≤ i ∧ i ≤ 131071) (hk : vb + i = k) (hkl : k < len)
    (hr : w.cell? ⟨S, 1 + b, none⟩ = some (.int .i32 vb)) (hM : w.cell? ⟨m, off + k, none⟩ = some (.int .i32 old)) :
    Calls Tryd.prog 36 #[.pointer (some ⟨E, 0, none⟩), .slice (some ⟨m, off, none⟩) len cap] w fun e w' => ∃ B, e = .returned (.tuple #[.func (.func 44) #[] #[.pointer (some ⟨B, 0, none⟩), .pointer (some ⟨B + 1, 0, none⟩)], .int .i64 0]) ∧
      w.heap.size ≤ B ∧ B + 1 < w'.heap.size ∧ w'.cell? ⟨B, 0, none⟩ = some (.pointer (some ⟨E, 0, none⟩)) ∧ w'.cell? ⟨B + 1, 0, none⟩ = some (.int .i32 old) ∧ Below w.heap.size (w.setCell ⟨E, 7, none⟩ (.int .i64 k)) w' := by
  have hb2 : (b : Int) < 16 := by omega
  have hk2 : (k : Int) < len := by omega
  obtain ⟨hv1, hv2⟩ := hvb
  obtain ⟨hi1, hi2⟩ := hi
  have hmf : ∀ (fn : Fn) (first cap : Array Value) (w : World), (Instr.makeFunc fn first cap).run Tryd.prog w = .ok (.func fn first cap) w := fun _ _ _ _ => rfl
  go_enter Tryd.func36, Tryd.ntmps36
  go_wp2_with fail
  have szE0 : E < w.heap.size := by omega
  have szE1 : E < w.heap.size + 1 := by omega
  have szE2 : E < w.heap.size + 1 + 1 := by omega
  have szE3 : E < w.heap.size + 1 + 1 + 1 := by omega
  have szE4 : E < w.heap.size + 1 + 1 + 1 + 1 := by omega
  have szS0 : S < w.heap.size := by omega
  have szS1 : S < w.heap.size + 1 := by omega
  have szS2 : S < w.heap.size + 1 + 1 := by omega
  have szS3 : S < w.heap.size + 1 + 1 + 1 := by omega
  have szS4 : S < w.heap.size + 1 + 1 + 1 + 1 := by omega
  have szm0 : m < w.heap.size := by omega
  have szm1 : m < w.heap.size + 1 := by omega
  have szm2 : m < w.heap.size + 1 + 1 := by omega
  have szm3 : m < w.heap.size + 1 + 1 + 1 := by omega
  have szm4 : m < w.heap.size + 1 + 1 + 1 + 1 := by omega
  go_region
  all_goals go_wp2_with fail
  all_goals go_region
  all_goals go_wp2_with (go_at_call 35; refine (set_any _ _ _).mono ?_; rintro e w' ⟨rfl, rfl⟩)
  all_goals go_ret2
  all_goals refine ⟨_, rfl, ?_, ?_, ?_, ?_, ?_⟩
  all_goals first | omega | (simp; done) | (simp; omega) | (simp [go_sem]; done) | (repeat (first | (with_reducible apply bBoth) | (with_reducible exact Below.refl _ _) | (with_reducible apply bDrewN) | (with_reducible apply Below.drew) | ((with_reducible apply bSet); (focus first | (simp; done) | (simp; omega) | omega)) | ((with_reducible apply bAlloc); (focus first | (simp; done) | (simp; omega) | omega))))

set_option maxRecDepth 100000 in
set_option maxHeartbeats 1600000 in
theorem access_store19 (E S m off len cap a b c k : Nat) (i pc nx vb va old : Int) (w : World) (hE0 : w.cell? ⟨E, 0, none⟩ = some (.int .u8 19)) (hE1 : w.cell? ⟨E, 1, none⟩ = some (.int .i64 a)) (hE2 : w.cell? ⟨E, 2, none⟩ = some (.int .i64 b)) (hE3 : w.cell? ⟨E, 3, none⟩ = some (.int .i64 c)) (hE4 : w.cell? ⟨E, 4, none⟩ = some (.int .i64 i)) (hE5 : w.cell? ⟨E, 5, none⟩ = some (.int .i64 pc)) (hE6 : w.cell? ⟨E, 6, none⟩ = some (.bool false)) (hE7 : w.cell? ⟨E, 7, none⟩ = some (.int .i64 (-1))) (hE8 : w.cell? ⟨E, 8, none⟩ = some (.int .i32 0)) (hE9 : w.cell? ⟨E, 9, none⟩ = some (.pointer (some ⟨S, 0, none⟩))) (hE10 : w.cell? ⟨E, 10, none⟩ = some (.int .i64 nx)) (hF6 : w.frozen? ⟨E, 6, none⟩ = false) (hF7 : w.frozen? ⟨E, 7, none⟩ = false) (hF8 : w.frozen? ⟨E, 8, none⟩ = false) (hF10 : w.frozen? ⟨E, 10, none⟩ = false)
    (hS : S < E) (hEw : E < w.heap.size) (hm : m < E) (ha : a < 16) (hb : b < 16) (hvb : -2147483648 ≤ vb ∧ vb ≤ 2147483647) (hi : -131072 ≤ i ∧ i ≤ 131071) (hk : vb + i = k) (hkl : k < len)
    (hr : w.cell? ⟨S, 1 + b, none⟩ = some (.int .i32 vb)) :
    Calls Tryd.prog 36 #[.pointer (some ⟨E, 0, none⟩), .slice (some ⟨m, off, none⟩) len cap] w fun e w' => ∃ S1 S2 S3 S4, e = .returned (.tuple #[.func (.func 45) #[] #[.pointer (some ⟨S1, 0, none⟩), .pointer (some ⟨S2, 0, none⟩), .pointer (some ⟨S3, 0, none⟩), .pointer (some ⟨S4, 0, none⟩)], .int .i64 0]) ∧
      w'.cell? ⟨S1, 0, none⟩ = some (.pointer (some ⟨S, 0, none⟩)) ∧ w'.cell? ⟨S2, 1, none⟩ = some (.int .i64 a) ∧ w'.cell? ⟨S3, 0, none⟩ = some (.slice (some ⟨m, off, none⟩) len cap) ∧ w'.cell? ⟨S4, 0, none⟩ = some (.int .i64 k) ∧
      Below w.heap.size (w.setCell ⟨E, 7, none⟩ (.int .i64 k)) w' := by
  have hb2 : (b : Int) < 16 := by omega
  have hk2 : (k : Int) < len := by omega
  obtain ⟨hv1, hv2⟩ := hvb
  obtain ⟨hi1, hi2⟩ := hi
  have hmf : ∀ (fn : Fn) (first cap : Array Value) (w : World), (Instr.makeFunc fn first cap).run Tryd.prog w = .ok (.func fn first cap) w := fun _ _ _ _ => rfl
  go_enter Tryd.func36, Tryd.ntmps36
  go_wp2_with fail
  have szE0 : E < w.heap.size := by omega
  have szE1 : E < w.heap.size + 1 := by omega
  have szE2 : E < w.heap.size + 1 + 1 := by omega
  have szE3 : E < w.heap.size + 1 + 1 + 1 := by omega
  have szE4 : E < w.heap.size + 1 + 1 + 1 + 1 := by omega
  have szS0 : S < w.heap.size := by omega
  have szS1 : S < w.heap.size + 1 := by omega
  have szS2 : S < w.heap.size + 1 + 1 := by omega
  have szS3 : S < w.heap.size + 1 + 1 + 1 := by omega
  have szS4 : S < w.heap.size + 1 + 1 + 1 + 1 := by omega
  have szm0 : m < w.heap.size := by omega
  have szm1 : m < w.heap.size + 1 := by omega
  have szm2 : m < w.heap.size + 1 + 1 := by omega
  have szm3 : m < w.heap.size + 1 + 1 + 1 := by omega
  have szm4 : m < w.heap.size + 1 + 1 + 1 + 1 := by omega
  go_region
  all_goals go_wp2_with fail
  all_goals go_region
  all_goals go_wp2_with (go_at_call 35; refine (set_any _ _ _).mono ?_; rintro e w' ⟨rfl, rfl⟩)
  all_goals go_ret2
  all_goals refine ⟨_, _, _, _, rfl, ?_, ?_, ?_, ?_, ?_⟩
  all_goals first | omega | (simp; done) | (simp; omega) | (simp [go_sem]; done) | (repeat (first | (with_reducible apply bBoth) | (with_reducible exact Below.refl _ _) | (with_reducible apply bDrewN) | (with_reducible apply Below.drew) | ((with_reducible apply bSet); (focus first | (simp; done) | (simp; omega) | omega)) | ((with_reducible apply bAlloc); (focus first | (simp; done) | (simp; omega) | omega))))

set_option maxRecDepth 100000 in
set_option maxHeartbeats 1600000 in
theorem access_store21 (E S m off len cap a b c k : Nat) (i pc nx vb va old : Int) (w : World) (hE0 : w.cell? ⟨E, 0, none⟩ = some (.int .u8 21)) (hE1 : w.cell? ⟨E, 1, none⟩ = some (.int .i64 a)) (hE2 : w.cell? ⟨E, 2, none⟩ = some (.int .i64 b)) (hE3 : w.cell? ⟨E, 3, none⟩ = some (.int .i64 c)) (hE4 : w.cell? ⟨E, 4, none⟩ = some (.int .i64 i)) (hE5 : w.cell? ⟨E, 5, none⟩ = some (.int .i64 pc)) (hE6 : w.cell? ⟨E, 6, none⟩ = some (.bool false)) (hE7 : w.cell? ⟨E, 7, none⟩ = some (.int .i64 (-1))) (hE8 : w.cell? ⟨E, 8, none⟩ = some (.int .i32 0)) (hE9 : w.cell? ⟨E, 9, none⟩ = some (.pointer (some ⟨S, 0, none⟩))) (hE10 : w.cell? ⟨E, 10, none⟩ = some (.int .i64 nx)) (hF6 : w.frozen? ⟨E, 6, none⟩ = false) (hF7 : w.frozen? ⟨E, 7, none⟩ = false) (hF8 : w.frozen? ⟨E, 8, none⟩ = false) (hF10 : w.frozen? ⟨E, 10, none⟩ = false)
    (hS : S < E) (hEw : E < w.heap.size) (hm : m < E) (ha : a < 16) (hb : b < 16) (hvb : -2147483648 ≤ vb ∧ vb ≤ 2147483647) (hi : -131072 ≤ i ∧ i ≤ 131071) (hk : vb + i = k) (hkl : k < len)
    (hr : w.cell? ⟨S, 1 + b, none⟩ = some (.int .i32 vb)) :
    Calls Tryd.prog 36 #[.pointer (some ⟨E, 0, none⟩), .slice (some ⟨m, off, none⟩) len cap] w fun e w' => ∃ S1 S2 S3 S4, e = .returned (.tuple #[.func (.func 45) #[] #[.pointer (some ⟨S1, 0, none⟩), .pointer (some ⟨S2, 0, none⟩), .pointer (some ⟨S3, 0, none⟩), .pointer (some ⟨S4, 0, none⟩)], .int .i64 0]) ∧
      w'.cell? ⟨S1, 0, none⟩ = some (.pointer (some ⟨S, 0, none⟩)) ∧ w'.cell? ⟨S2, 1, none⟩ = some (.int .i64 a) ∧ w'.cell? ⟨S3, 0, none⟩ = some (.slice (some ⟨m, off, none⟩) len cap) ∧ w'.cell? ⟨S4, 0, none⟩ = some (.int .i64 k) ∧
      Below w.heap.size (w.setCell ⟨E, 7, none⟩ (.int .i64 k)) w' := by
  have hb2 : (b : Int) < 16 := by omega
  have hk2 : (k : Int) < len := by omega
  obtain ⟨hv1, hv2⟩ := hvb
  obtain ⟨hi1, hi2⟩ := hi
  have hmf : ∀ (fn : Fn) (first cap : Array Value) (w : World), (Instr.makeFunc fn first cap).run Tryd.prog w = .ok (.func fn first cap) w := fun _ _ _ _ => rfl
  go_enter Tryd.func36, Tryd.ntmps36
  go_wp2_with fail
  have szE0 : E < w.heap.size := by omega
  have szE1 : E < w.heap.size + 1 := by omega
  have szE2 : E < w.heap.size + 1 + 1 := by omega
  have szE3 : E < w.heap.size + 1 + 1 + 1 := by omega
  have szE4 : E < w.heap.size + 1 + 1 + 1 + 1 := by omega
  have szS0 : S < w.heap.size := by omega
  have szS1 : S < w.heap.size + 1 := by omega
  have szS2 : S < w.heap.size + 1 + 1 := by omega
  have szS3 : S < w.heap.size + 1 + 1 + 1 := by omega
  have szS4 : S < w.heap.size + 1 + 1 + 1 + 1 := by omega
  have szm0 : m < w.heap.size := by omega
  have szm1 : m < w.heap.size + 1 := by omega
  have szm2 : m < w.heap.size + 1 + 1 := by omega
  have szm3 : m < w.heap.size + 1 + 1 + 1 := by omega
  have szm4 : m < w.heap.size + 1 + 1 + 1 + 1 := by omega
  go_region
  all_goals go_wp2_with fail
  all_goals go_region
  all_goals go_wp2_with (go_at_call 35; refine (set_any _ _ _).mono ?_; rintro e w' ⟨rfl, rfl⟩)
  all_goals go_ret2
  all_goals refine ⟨_, _, _, _, rfl, ?_, ?_, ?_, ?_, ?_⟩
  all_goals first | omega | (simp; done) | (simp; omega) | (simp [go_sem]; done) | (repeat (first | (with_reducible apply bBoth) | (with_reducible exact Below.refl _ _) | (with_reducible apply bDrewN) | (with_reducible apply Below.drew) | ((with_reducible apply bSet); (focus first | (simp; done) | (simp; omega) | omega)) | ((with_reducible apply bAlloc); (focus first | (simp; done) | (simp; omega) | omega))))

set_option maxRecDepth 100000 in
set_option maxHeartbeats 1600000 in
theorem access_neg (E S len cap n a b c : Nat) (p : Option Addr) (i pc nx vb : Int) (w : World) (hE0 : w.cell? ⟨E, 0, none⟩ = some (.int .u8 n)) (hE1 : w.cell? ⟨E, 1, none⟩ = some (.int .i64 a)) (hE2 : w.cell? ⟨E, 2, none⟩ = some (.int .i64 b)) (hE3 : w.cell? ⟨E, 3, none⟩ = some (.int .i64 c)) (hE4 : w.cell? ⟨E, 4, none⟩ = some (.int .i64 i)) (hE5 : w.cell? ⟨E, 5, none⟩ = some (.int .i64 pc)) (hE6 : w.cell? ⟨E, 6, none⟩ = some (.bool false)) (hE7 : w.cell? ⟨E, 7, none⟩ = some (.int .i64 (-1))) (hE8 : w.cell? ⟨E, 8, none⟩ = some (.int .i32 0)) (hE9 : w.cell? ⟨E, 9, none⟩ = some (.pointer (some ⟨S, 0, none⟩))) (hE10 : w.cell? ⟨E, 10, none⟩ = some (.int .i64 nx)) (hF6 : w.frozen? ⟨E, 6, none⟩ = false) (hF7 : w.frozen? ⟨E, 7, none⟩ = false) (hF8 : w.frozen? ⟨E, 8, none⟩ = false) (hF10 : w.frozen? ⟨E, 10, none⟩ = false)
    (hS : S < E) (hEw : E < w.heap.size) (hb : b < 16) (hvb : -2147483648 ≤ vb ∧ vb ≤ 2147483647) (hi : -131072 ≤ i ∧ i ≤ 131071) (hk : vb + i < 0)
    (hr : w.cell? ⟨S, 1 + b, none⟩ = some (.int .i32 vb)) :
    Calls Tryd.prog 36 #[.pointer (some ⟨E, 0, none⟩), .slice p len cap] w fun e w' => e = .returned (.tuple #[.nilFunc, .int .i64 10]) ∧ Below w.heap.size w w' := by
  have hb2 : (b : Int) < 16 := by omega
  obtain ⟨hv1, hv2⟩ := hvb
  obtain ⟨hi1, hi2⟩ := hi
  have hmf : ∀ (fn : Fn) (first cap : Array Value) (w : World), (Instr.makeFunc fn first cap).run Tryd.prog w = .ok (.func fn first cap) w := fun _ _ _ _ => rfl
  go_enter Tryd.func36, Tryd.ntmps36
  go_wp2_with fail
  have szE0 : E < w.heap.size := by omega
  have szE1 : E < w.heap.size + 1 := by omega
  have szE2 : E < w.heap.size + 1 + 1 := by omega
  have szE3 : E < w.heap.size + 1 + 1 + 1 := by omega
  have szE4 : E < w.heap.size + 1 + 1 + 1 + 1 := by omega
  have szS0 : S < w.heap.size := by omega
  have szS1 : S < w.heap.size + 1 := by omega
  have szS2 : S < w.heap.size + 1 + 1 := by omega
  have szS3 : S < w.heap.size + 1 + 1 + 1 := by omega
  have szS4 : S < w.heap.size + 1 + 1 + 1 + 1 := by omega
  go_region
  all_goals go_wp2_with fail
  all_goals go_region
  all_goals go_wp2_with fail
  all_goals go_ret2
  all_goals refine ⟨rfl, ?_⟩
  all_goals first | omega | (simp; done) | (simp; omega) | (simp [go_sem]; done) | (repeat (first | (with_reducible apply bBoth) | (with_reducible exact Below.refl _ _) | (with_reducible apply bDrewN) | (with_reducible apply Below.drew) | ((with_reducible apply bSet); (focus first | (simp; done) | (simp; omega) | omega)) | ((with_reducible apply bAlloc); (focus first | (simp; done) | (simp; omega) | omega))))

set_option maxRecDepth 100000 in
set_option maxHeartbeats 1600000 in
theorem access_over (E S len cap n a b c : Nat) (p : Option Addr) (i pc nx vb : Int) (w : World) (hE0 : w.cell? ⟨E, 0, none⟩ = some (.int .u8 n)) (hE1 : w.cell? ⟨E, 1, none⟩ = some (.int .i64 a)) (hE2 : w.cell? ⟨E, 2, none⟩ = some (.int .i64 b)) (hE3 : w.cell? ⟨E, 3, none⟩ = some (.int .i64 c)) (hE4 : w.cell? ⟨E, 4, none⟩ = some (.int .i64 i)) (hE5 : w.cell? ⟨E, 5, none⟩ = some (.int .i64 pc)) (hE6 : w.cell? ⟨E, 6, none⟩ = some (.bool false)) (hE7 : w.cell? ⟨E, 7, none⟩ = some (.int .i64 (-1))) (hE8 : w.cell? ⟨E, 8, none⟩ = some (.int .i32 0)) (hE9 : w.cell? ⟨E, 9, none⟩ = some (.pointer (some ⟨S, 0, none⟩))) (hE10 : w.cell? ⟨E, 10, none⟩ = some (.int .i64 nx)) (hF6 : w.frozen? ⟨E, 6, none⟩ = false) (hF7 : w.frozen? ⟨E, 7, none⟩ = false) (hF8 : w.frozen? ⟨E, 8, none⟩ = false) (hF10 : w.frozen? ⟨E, 10, none⟩ = false)
    (hS : S < E) (hEw : E < w.heap.size) (hb : b < 16) (hvb : -2147483648 ≤ vb ∧ vb ≤ 2147483647) (hi : -131072 ≤ i ∧ i ≤ 131071) (hk0 : 0 ≤ vb + i) (hk : (len : Int) ≤ vb + i)
    (hr : w.cell? ⟨S, 1 + b, none⟩ = some (.int .i32 vb)) :
    Calls Tryd.prog 36 #[.pointer (some ⟨E, 0, none⟩), .slice p len cap] w fun e w' => e = .returned (.tuple #[.nilFunc, .int .i64 10]) ∧ Below w.heap.size w w' := by
  have hb2 : (b : Int) < 16 := by omega
  obtain ⟨hv1, hv2⟩ := hvb
  obtain ⟨hi1, hi2⟩ := hi
  have hmf : ∀ (fn : Fn) (first cap : Array Value) (w : World), (Instr.makeFunc fn first cap).run Tryd.prog w = .ok (.func fn first cap) w := fun _ _ _ _ => rfl
  go_enter Tryd.func36, Tryd.ntmps36
  go_wp2_with fail
  have szE0 : E < w.heap.size := by omega
  have szE1 : E < w.heap.size + 1 := by omega
  have szE2 : E < w.heap.size + 1 + 1 := by omega
  have szE3 : E < w.heap.size + 1 + 1 + 1 := by omega
  have szE4 : E < w.heap.size + 1 + 1 + 1 + 1 := by omega
  have szS0 : S < w.heap.size := by omega
  have szS1 : S < w.heap.size + 1 := by omega
  have szS2 : S < w.heap.size + 1 + 1 := by omega
  have szS3 : S < w.heap.size + 1 + 1 + 1 := by omega
  have szS4 : S < w.heap.size + 1 + 1 + 1 + 1 := by omega
  go_region
  all_goals go_wp2_with fail
  all_goals go_region
  all_goals go_wp2_with fail
  all_goals go_ret2
  all_goals refine ⟨rfl, ?_⟩
  all_goals first | omega | (simp; done) | (simp; omega) | (simp [go_sem]; done) | (repeat (first | (with_reducible apply bBoth) | (with_reducible exact Below.refl _ _) | (with_reducible apply bDrewN) | (with_reducible apply Below.drew) | ((with_reducible apply bSet); (focus first | (simp; done) | (simp; omega) | omega)) | ((with_reducible apply bAlloc); (focus first | (simp; done) | (simp; omega) | omega))))

end Go.Proofs.YtpachmkklppmjaaDoor
