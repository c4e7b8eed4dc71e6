/- core: prepare (ld, lds, st, sts). -/
import Derived.Test.YtpachmkklppmjaaDoorCorC
import Derived.Test.YtpachmkklppmjaaDoorCorD
import Derived.Shelf.Abstract
import Derived.Test.YtpachmkklppmjaaDoorCorE
set_option linter.unusedVariables false
set_option linter.unusedSimpArgs false
namespace Go.Proofs.YtpachmkklppmjaaDoor
open Go.RowKit

theorem prep_store {w EX w' : World} {er : Int} {e : Ending} {S1 S2 S3 S4 m off len cap S a k : Nat} {v old : Int} (hS : S < w.heap.size) (hm : m < w.heap.size) (ha : a < 16) (hk : k < len)
    (he : e = .returned (.tuple #[.func (.func 45) #[] #[.pointer (some ⟨S1, 0, none⟩), .pointer (some ⟨S2, 0, none⟩), .pointer (some ⟨S3, 0, none⟩), .pointer (some ⟨S4, 0, none⟩)], .int .i64 er]))
    (hb : Below w.heap.size EX w') (h1 : w'.cell? ⟨S1, 0, none⟩ = some (.pointer (some ⟨S, 0, none⟩))) (h2 : w'.cell? ⟨S2, 1, none⟩ = some (.int .i64 a)) (h3 : w'.cell? ⟨S3, 0, none⟩ = some (.slice (some ⟨m, off, none⟩) len cap)) (h4 : w'.cell? ⟨S4, 0, none⟩ = some (.int .i64 k))
    (hr : EX.cell? ⟨S, 1 + a, none⟩ = some (.int .i32 v)) (hM : EX.cell? ⟨m, off + k, none⟩ = some (.int .i32 old)) (hf : EX.frozen? ⟨m, off + k, none⟩ = false) : PrepOk w EX (EX.setCell ⟨m, off + k, none⟩ (.int .i32 v)) er e w' := by
  refine ⟨_, _, he, hb, enters_of Tryd.func45 (by kernel_rfl) rfl, ?_⟩
  rw [← hb.cell (p := ⟨S, 1 + a, none⟩) hS] at hr
  rw [← hb.cell (p := ⟨m, off + k, none⟩) hm] at hM
  rw [← hb.frozen (p := ⟨m, off + k, none⟩) hm] at hf
  exact (access1_any S1 S2 S3 S4 S m off len cap a k v old w' ha hk h1 h2 h3 h4 hr hM hf).mono fun e w'' ⟨h1, h2⟩ => by subst h2; exact ⟨h1, (bBoth hb).drew, by simp⟩

set_option maxRecDepth 100000 in
set_option maxHeartbeats 1600000 in
theorem prep_ld (E S a b c m off len cap k : Nat) (i pc nx locks va vb vc old : Int) (mv pv : Value) (w : World) (hE0 : w.cell? ⟨E, 0, none⟩ = some (.int .u8 18)) (hE1 : w.cell? ⟨E, 1, none⟩ = some (.int .i64 a)) (hE2 : w.cell? ⟨E, 2, none⟩ = some (.int .i64 b)) (hE3 : w.cell? ⟨E, 3, none⟩ = some (.int .i64 c)) (hE4 : w.cell? ⟨E, 4, none⟩ = some (.int .i64 i)) (hE5 : w.cell? ⟨E, 5, none⟩ = some (.int .i64 pc)) (hE6 : w.cell? ⟨E, 6, none⟩ = some (.bool false)) (hE7 : w.cell? ⟨E, 7, none⟩ = some (.int .i64 (-1))) (hE8 : w.cell? ⟨E, 8, none⟩ = some (.int .i32 0)) (hE9 : w.cell? ⟨E, 9, none⟩ = some (.pointer (some ⟨S, 0, none⟩))) (hE10 : w.cell? ⟨E, 10, none⟩ = some (.int .i64 nx)) (hF6 : w.frozen? ⟨E, 6, none⟩ = false) (hF7 : w.frozen? ⟨E, 7, none⟩ = false) (hF8 : w.frozen? ⟨E, 8, none⟩ = false) (hF10 : w.frozen? ⟨E, 10, none⟩ = false)
    (hS : S < E) (hEw : E < w.heap.size) (hm : m < E) (ha : a < 16) (hrA : w.cell? ⟨S, 1 + a, none⟩ = some (.int .i32 va)) (hfA : w.frozen? ⟨S, 1 + a, none⟩ = false) (hb : b < 16) (hrB : w.cell? ⟨S, 1 + b, none⟩ = some (.int .i32 vb)) (hvb : -2147483648 ≤ vb) (hvb1 : vb ≤ 2147483647) (hi : -131072 ≤ i) (hi1 : i ≤ 131071) (hk : vb + i = k) (hkl : k < len) (hD : w.cell? ⟨S, 17, none⟩ = some (.slice (some ⟨m, off, none⟩) len cap)) (hM : w.cell? ⟨m, off + k, none⟩ = some (.int .i32 old)) (hMf : w.frozen? ⟨m, off + k, none⟩ = false) :
    Calls Tryd.prog 28 #[.pointer (some ⟨E, 0, none⟩), .int .i64 locks, mv, pv] w (PrepOk w (w.setCell ⟨E, 7, none⟩ (.int .i64 k)) (setW (w.setCell ⟨E, 7, none⟩ (.int .i64 k)) S a old) (0)) := by
  have hmf : ∀ (fn : Fn) (first cap : Array Value) (w : World), (Instr.makeFunc fn first cap).run Tryd.prog w = .ok (.func fn first cap) w := fun _ _ _ _ => rfl
  have hE0w : E < w.heap.size + 1 := by omega
  have hS0w : S < w.heap.size := by omega
  have hS1w : S < w.heap.size + 1 := by omega
  go_enter Tryd.func28, Tryd.ntmps28
  go_wp2_with fail
  go_region
  all_goals have g0 : (w.alloc (.cells #[.int .u8 18, .int .i64 a, .int .i64 b, .int .i64 c, .int .i64 i] 51)).drew.cell? ⟨E, 0, none⟩ = some (.int .u8 18) := by simp [go_sem, *]
  all_goals have g1 : (w.alloc (.cells #[.int .u8 18, .int .i64 a, .int .i64 b, .int .i64 c, .int .i64 i] 51)).drew.cell? ⟨E, 1, none⟩ = some (.int .i64 a) := by simp [go_sem, *]
  all_goals have g2 : (w.alloc (.cells #[.int .u8 18, .int .i64 a, .int .i64 b, .int .i64 c, .int .i64 i] 51)).drew.cell? ⟨E, 2, none⟩ = some (.int .i64 b) := by simp [go_sem, *]
  all_goals have g3 : (w.alloc (.cells #[.int .u8 18, .int .i64 a, .int .i64 b, .int .i64 c, .int .i64 i] 51)).drew.cell? ⟨E, 3, none⟩ = some (.int .i64 c) := by simp [go_sem, *]
  all_goals have g4 : (w.alloc (.cells #[.int .u8 18, .int .i64 a, .int .i64 b, .int .i64 c, .int .i64 i] 51)).drew.cell? ⟨E, 4, none⟩ = some (.int .i64 i) := by simp [go_sem, *]
  all_goals have g5 : (w.alloc (.cells #[.int .u8 18, .int .i64 a, .int .i64 b, .int .i64 c, .int .i64 i] 51)).drew.cell? ⟨E, 5, none⟩ = some (.int .i64 pc) := by simp [go_sem, *]
  all_goals have g6 : (w.alloc (.cells #[.int .u8 18, .int .i64 a, .int .i64 b, .int .i64 c, .int .i64 i] 51)).drew.cell? ⟨E, 6, none⟩ = some (.bool false) := by simp [go_sem, *]
  all_goals have g7 : (w.alloc (.cells #[.int .u8 18, .int .i64 a, .int .i64 b, .int .i64 c, .int .i64 i] 51)).drew.cell? ⟨E, 7, none⟩ = some (.int .i64 (-1)) := by simp [go_sem, *]
  all_goals have g8 : (w.alloc (.cells #[.int .u8 18, .int .i64 a, .int .i64 b, .int .i64 c, .int .i64 i] 51)).drew.cell? ⟨E, 8, none⟩ = some (.int .i32 0) := by simp [go_sem, *]
  all_goals have g9 : (w.alloc (.cells #[.int .u8 18, .int .i64 a, .int .i64 b, .int .i64 c, .int .i64 i] 51)).drew.cell? ⟨E, 9, none⟩ = some (.pointer (some ⟨S, 0, none⟩)) := by simp [go_sem, *]
  all_goals have g10 : (w.alloc (.cells #[.int .u8 18, .int .i64 a, .int .i64 b, .int .i64 c, .int .i64 i] 51)).drew.cell? ⟨E, 10, none⟩ = some (.int .i64 nx) := by simp [go_sem, *]
  all_goals have gf6 : (w.alloc (.cells #[.int .u8 18, .int .i64 a, .int .i64 b, .int .i64 c, .int .i64 i] 51)).drew.frozen? ⟨E, 6, none⟩ = false := by simp [go_sem, *]
  all_goals have gf7 : (w.alloc (.cells #[.int .u8 18, .int .i64 a, .int .i64 b, .int .i64 c, .int .i64 i] 51)).drew.frozen? ⟨E, 7, none⟩ = false := by simp [go_sem, *]
  all_goals have gf8 : (w.alloc (.cells #[.int .u8 18, .int .i64 a, .int .i64 b, .int .i64 c, .int .i64 i] 51)).drew.frozen? ⟨E, 8, none⟩ = false := by simp [go_sem, *]
  all_goals have gf10 : (w.alloc (.cells #[.int .u8 18, .int .i64 a, .int .i64 b, .int .i64 c, .int .i64 i] 51)).drew.frozen? ⟨E, 10, none⟩ = false := by simp [go_sem, *]
  all_goals have gB : (w.alloc (.cells #[.int .u8 18, .int .i64 a, .int .i64 b, .int .i64 c, .int .i64 i] 51)).drew.cell? ⟨S, 1 + b, none⟩ = some (.int .i32 vb) := by simp [go_sem, *]
  all_goals have gM : (w.alloc (.cells #[.int .u8 18, .int .i64 a, .int .i64 b, .int .i64 c, .int .i64 i] 51)).drew.cell? ⟨m, off + k, none⟩ = some (.int .i32 old) := by rw [World.cell?_drew, World.cell?_alloc_past _ _ _ (by first | omega | (show m < w.heap.size; omega))]; exact hM
  all_goals have HK := Lib.hid hk
  all_goals clear hk
  all_goals go_wp2_with fail
  all_goals refine (access_load18 E S m off len cap a b c k i pc nx vb old _ g0 g1 g2 g3 g4 g5 g6 g7 g8 g9 g10 gf6 gf7 gf8 gf10 hS (by simp; omega) hm hb ⟨hvb, hvb1⟩ ⟨hi, hi1⟩ HK.out hkl gB gM).mono ?_
  all_goals rintro e w' ⟨B, rfl, hB1, hB2, hB3, hB4, hbl⟩
  all_goals have hbl2 : Below w.heap.size (w.setCell ⟨E, 7, none⟩ (.int .i64 k)) w' := by (refine Below.trans ?_ (hbl.mono (by simp)); repeat (first | (with_reducible apply bBoth) | (with_reducible exact Below.refl _ _) | (with_reducible apply bDrewN) | (with_reducible apply Below.drew) | ((with_reducible apply bSet); (focus first | (simp; done) | (simp; omega) | omega)) | ((with_reducible apply bAlloc); (focus first | (simp; done) | (simp; omega) | omega))))
  all_goals clear hbl g0 g1 g2 g3 g4 g5 g6 g7 g8 g9 g10 gf6 gf7 gf8 gf10 gB gM
  all_goals go_wp2_with fail
  all_goals go_ret2
  all_goals refine prep_set (B := B) (E := E) (S := S) (a := a) (v := old) (old := va) hEw hS0w ha rfl hbl2 hB3 hB4 ?_ ?_ ?_ ?_
  all_goals first | (simp [go_sem, *]; done)

set_option maxRecDepth 100000 in
set_option maxHeartbeats 1600000 in
theorem prep_ld_neg (E S a b c len cap : Nat) (i pc nx locks va vb vc : Int) (mv pv : Value) (w : World) (p : Option Addr) (hE0 : w.cell? ⟨E, 0, none⟩ = some (.int .u8 18)) (hE1 : w.cell? ⟨E, 1, none⟩ = some (.int .i64 a)) (hE2 : w.cell? ⟨E, 2, none⟩ = some (.int .i64 b)) (hE3 : w.cell? ⟨E, 3, none⟩ = some (.int .i64 c)) (hE4 : w.cell? ⟨E, 4, none⟩ = some (.int .i64 i)) (hE5 : w.cell? ⟨E, 5, none⟩ = some (.int .i64 pc)) (hE6 : w.cell? ⟨E, 6, none⟩ = some (.bool false)) (hE7 : w.cell? ⟨E, 7, none⟩ = some (.int .i64 (-1))) (hE8 : w.cell? ⟨E, 8, none⟩ = some (.int .i32 0)) (hE9 : w.cell? ⟨E, 9, none⟩ = some (.pointer (some ⟨S, 0, none⟩))) (hE10 : w.cell? ⟨E, 10, none⟩ = some (.int .i64 nx)) (hF6 : w.frozen? ⟨E, 6, none⟩ = false) (hF7 : w.frozen? ⟨E, 7, none⟩ = false) (hF8 : w.frozen? ⟨E, 8, none⟩ = false) (hF10 : w.frozen? ⟨E, 10, none⟩ = false)
    (hS : S < E) (hEw : E < w.heap.size) (hb : b < 16) (hrB : w.cell? ⟨S, 1 + b, none⟩ = some (.int .i32 vb)) (hvb : -2147483648 ≤ vb) (hvb1 : vb ≤ 2147483647) (hi : -131072 ≤ i) (hi1 : i ≤ 131071) (hk : vb + i < 0) (hD : w.cell? ⟨S, 17, none⟩ = some (.slice p len cap))  :
    Calls Tryd.prog 28 #[.pointer (some ⟨E, 0, none⟩), .int .i64 locks, mv, pv] w (fun e w' => e = .returned (.tuple #[.nilFunc, .int .i64 10]) ∧ Below w.heap.size w w') := by
  have hmf : ∀ (fn : Fn) (first cap : Array Value) (w : World), (Instr.makeFunc fn first cap).run Tryd.prog w = .ok (.func fn first cap) w := fun _ _ _ _ => rfl
  have hE0w : E < w.heap.size + 1 := by omega
  have hS0w : S < w.heap.size := by omega
  have hS1w : S < w.heap.size + 1 := by omega
  go_enter Tryd.func28, Tryd.ntmps28
  go_wp2_with fail
  go_region
  all_goals have g0 : (w.alloc (.cells #[.int .u8 18, .int .i64 a, .int .i64 b, .int .i64 c, .int .i64 i] 51)).drew.cell? ⟨E, 0, none⟩ = some (.int .u8 18) := by simp [go_sem, *]
  all_goals have g1 : (w.alloc (.cells #[.int .u8 18, .int .i64 a, .int .i64 b, .int .i64 c, .int .i64 i] 51)).drew.cell? ⟨E, 1, none⟩ = some (.int .i64 a) := by simp [go_sem, *]
  all_goals have g2 : (w.alloc (.cells #[.int .u8 18, .int .i64 a, .int .i64 b, .int .i64 c, .int .i64 i] 51)).drew.cell? ⟨E, 2, none⟩ = some (.int .i64 b) := by simp [go_sem, *]
  all_goals have g3 : (w.alloc (.cells #[.int .u8 18, .int .i64 a, .int .i64 b, .int .i64 c, .int .i64 i] 51)).drew.cell? ⟨E, 3, none⟩ = some (.int .i64 c) := by simp [go_sem, *]
  all_goals have g4 : (w.alloc (.cells #[.int .u8 18, .int .i64 a, .int .i64 b, .int .i64 c, .int .i64 i] 51)).drew.cell? ⟨E, 4, none⟩ = some (.int .i64 i) := by simp [go_sem, *]
  all_goals have g5 : (w.alloc (.cells #[.int .u8 18, .int .i64 a, .int .i64 b, .int .i64 c, .int .i64 i] 51)).drew.cell? ⟨E, 5, none⟩ = some (.int .i64 pc) := by simp [go_sem, *]
  all_goals have g6 : (w.alloc (.cells #[.int .u8 18, .int .i64 a, .int .i64 b, .int .i64 c, .int .i64 i] 51)).drew.cell? ⟨E, 6, none⟩ = some (.bool false) := by simp [go_sem, *]
  all_goals have g7 : (w.alloc (.cells #[.int .u8 18, .int .i64 a, .int .i64 b, .int .i64 c, .int .i64 i] 51)).drew.cell? ⟨E, 7, none⟩ = some (.int .i64 (-1)) := by simp [go_sem, *]
  all_goals have g8 : (w.alloc (.cells #[.int .u8 18, .int .i64 a, .int .i64 b, .int .i64 c, .int .i64 i] 51)).drew.cell? ⟨E, 8, none⟩ = some (.int .i32 0) := by simp [go_sem, *]
  all_goals have g9 : (w.alloc (.cells #[.int .u8 18, .int .i64 a, .int .i64 b, .int .i64 c, .int .i64 i] 51)).drew.cell? ⟨E, 9, none⟩ = some (.pointer (some ⟨S, 0, none⟩)) := by simp [go_sem, *]
  all_goals have g10 : (w.alloc (.cells #[.int .u8 18, .int .i64 a, .int .i64 b, .int .i64 c, .int .i64 i] 51)).drew.cell? ⟨E, 10, none⟩ = some (.int .i64 nx) := by simp [go_sem, *]
  all_goals have gf6 : (w.alloc (.cells #[.int .u8 18, .int .i64 a, .int .i64 b, .int .i64 c, .int .i64 i] 51)).drew.frozen? ⟨E, 6, none⟩ = false := by simp [go_sem, *]
  all_goals have gf7 : (w.alloc (.cells #[.int .u8 18, .int .i64 a, .int .i64 b, .int .i64 c, .int .i64 i] 51)).drew.frozen? ⟨E, 7, none⟩ = false := by simp [go_sem, *]
  all_goals have gf8 : (w.alloc (.cells #[.int .u8 18, .int .i64 a, .int .i64 b, .int .i64 c, .int .i64 i] 51)).drew.frozen? ⟨E, 8, none⟩ = false := by simp [go_sem, *]
  all_goals have gf10 : (w.alloc (.cells #[.int .u8 18, .int .i64 a, .int .i64 b, .int .i64 c, .int .i64 i] 51)).drew.frozen? ⟨E, 10, none⟩ = false := by simp [go_sem, *]
  all_goals have gB : (w.alloc (.cells #[.int .u8 18, .int .i64 a, .int .i64 b, .int .i64 c, .int .i64 i] 51)).drew.cell? ⟨S, 1 + b, none⟩ = some (.int .i32 vb) := by simp [go_sem, *]
  all_goals go_wp2_with fail
  all_goals refine (access_neg E S len cap 18 a b c p i pc nx vb _ g0 g1 g2 g3 g4 g5 g6 g7 g8 g9 g10 gf6 gf7 gf8 gf10 hS (by simp; omega) hb ⟨hvb, hvb1⟩ ⟨hi, hi1⟩ hk gB).mono ?_
  all_goals rintro e w' ⟨rfl, hbl⟩
  all_goals have hbl2 : Below w.heap.size w w' := by (refine Below.trans ?_ (hbl.mono (by simp)); repeat (first | (with_reducible apply bBoth) | (with_reducible exact Below.refl _ _) | (with_reducible apply bDrewN) | (with_reducible apply Below.drew) | ((with_reducible apply bSet); (focus first | (simp; done) | (simp; omega) | omega)) | ((with_reducible apply bAlloc); (focus first | (simp; done) | (simp; omega) | omega))))
  all_goals clear hbl g0 g1 g2 g3 g4 g5 g6 g7 g8 g9 g10 gf6 gf7 gf8 gf10 gB
  all_goals go_wp2_with fail
  all_goals go_ret2
  all_goals exact ⟨rfl, hbl2⟩

set_option maxRecDepth 100000 in
set_option maxHeartbeats 1600000 in
theorem prep_ld_over (E S a b c len cap : Nat) (i pc nx locks va vb vc : Int) (mv pv : Value) (w : World) (p : Option Addr) (hE0 : w.cell? ⟨E, 0, none⟩ = some (.int .u8 18)) (hE1 : w.cell? ⟨E, 1, none⟩ = some (.int .i64 a)) (hE2 : w.cell? ⟨E, 2, none⟩ = some (.int .i64 b)) (hE3 : w.cell? ⟨E, 3, none⟩ = some (.int .i64 c)) (hE4 : w.cell? ⟨E, 4, none⟩ = some (.int .i64 i)) (hE5 : w.cell? ⟨E, 5, none⟩ = some (.int .i64 pc)) (hE6 : w.cell? ⟨E, 6, none⟩ = some (.bool false)) (hE7 : w.cell? ⟨E, 7, none⟩ = some (.int .i64 (-1))) (hE8 : w.cell? ⟨E, 8, none⟩ = some (.int .i32 0)) (hE9 : w.cell? ⟨E, 9, none⟩ = some (.pointer (some ⟨S, 0, none⟩))) (hE10 : w.cell? ⟨E, 10, none⟩ = some (.int .i64 nx)) (hF6 : w.frozen? ⟨E, 6, none⟩ = false) (hF7 : w.frozen? ⟨E, 7, none⟩ = false) (hF8 : w.frozen? ⟨E, 8, none⟩ = false) (hF10 : w.frozen? ⟨E, 10, none⟩ = false)
    (hS : S < E) (hEw : E < w.heap.size) (hb : b < 16) (hrB : w.cell? ⟨S, 1 + b, none⟩ = some (.int .i32 vb)) (hvb : -2147483648 ≤ vb) (hvb1 : vb ≤ 2147483647) (hi : -131072 ≤ i) (hi1 : i ≤ 131071) (hk0 : 0 ≤ vb + i) (hk : (len : Int) ≤ vb + i) (hD : w.cell? ⟨S, 17, none⟩ = some (.slice p len cap))  :
    Calls Tryd.prog 28 #[.pointer (some ⟨E, 0, none⟩), .int .i64 locks, mv, pv] w (fun e w' => e = .returned (.tuple #[.nilFunc, .int .i64 10]) ∧ Below w.heap.size w w') := by
  have hmf : ∀ (fn : Fn) (first cap : Array Value) (w : World), (Instr.makeFunc fn first cap).run Tryd.prog w = .ok (.func fn first cap) w := fun _ _ _ _ => rfl
  have hE0w : E < w.heap.size + 1 := by omega
  have hS0w : S < w.heap.size := by omega
  have hS1w : S < w.heap.size + 1 := by omega
  go_enter Tryd.func28, Tryd.ntmps28
  go_wp2_with fail
  go_region
  all_goals have g0 : (w.alloc (.cells #[.int .u8 18, .int .i64 a, .int .i64 b, .int .i64 c, .int .i64 i] 51)).drew.cell? ⟨E, 0, none⟩ = some (.int .u8 18) := by simp [go_sem, *]
  all_goals have g1 : (w.alloc (.cells #[.int .u8 18, .int .i64 a, .int .i64 b, .int .i64 c, .int .i64 i] 51)).drew.cell? ⟨E, 1, none⟩ = some (.int .i64 a) := by simp [go_sem, *]
  all_goals have g2 : (w.alloc (.cells #[.int .u8 18, .int .i64 a, .int .i64 b, .int .i64 c, .int .i64 i] 51)).drew.cell? ⟨E, 2, none⟩ = some (.int .i64 b) := by simp [go_sem, *]
  all_goals have g3 : (w.alloc (.cells #[.int .u8 18, .int .i64 a, .int .i64 b, .int .i64 c, .int .i64 i] 51)).drew.cell? ⟨E, 3, none⟩ = some (.int .i64 c) := by simp [go_sem, *]
  all_goals have g4 : (w.alloc (.cells #[.int .u8 18, .int .i64 a, .int .i64 b, .int .i64 c, .int .i64 i] 51)).drew.cell? ⟨E, 4, none⟩ = some (.int .i64 i) := by simp [go_sem, *]
  all_goals have g5 : (w.alloc (.cells #[.int .u8 18, .int .i64 a, .int .i64 b, .int .i64 c, .int .i64 i] 51)).drew.cell? ⟨E, 5, none⟩ = some (.int .i64 pc) := by simp [go_sem, *]
  all_goals have g6 : (w.alloc (.cells #[.int .u8 18, .int .i64 a, .int .i64 b, .int .i64 c, .int .i64 i] 51)).drew.cell? ⟨E, 6, none⟩ = some (.bool false) := by simp [go_sem, *]
  all_goals have g7 : (w.alloc (.cells #[.int .u8 18, .int .i64 a, .int .i64 b, .int .i64 c, .int .i64 i] 51)).drew.cell? ⟨E, 7, none⟩ = some (.int .i64 (-1)) := by simp [go_sem, *]
  all_goals have g8 : (w.alloc (.cells #[.int .u8 18, .int .i64 a, .int .i64 b, .int .i64 c, .int .i64 i] 51)).drew.cell? ⟨E, 8, none⟩ = some (.int .i32 0) := by simp [go_sem, *]
  all_goals have g9 : (w.alloc (.cells #[.int .u8 18, .int .i64 a, .int .i64 b, .int .i64 c, .int .i64 i] 51)).drew.cell? ⟨E, 9, none⟩ = some (.pointer (some ⟨S, 0, none⟩)) := by simp [go_sem, *]
  all_goals have g10 : (w.alloc (.cells #[.int .u8 18, .int .i64 a, .int .i64 b, .int .i64 c, .int .i64 i] 51)).drew.cell? ⟨E, 10, none⟩ = some (.int .i64 nx) := by simp [go_sem, *]
  all_goals have gf6 : (w.alloc (.cells #[.int .u8 18, .int .i64 a, .int .i64 b, .int .i64 c, .int .i64 i] 51)).drew.frozen? ⟨E, 6, none⟩ = false := by simp [go_sem, *]
  all_goals have gf7 : (w.alloc (.cells #[.int .u8 18, .int .i64 a, .int .i64 b, .int .i64 c, .int .i64 i] 51)).drew.frozen? ⟨E, 7, none⟩ = false := by simp [go_sem, *]
  all_goals have gf8 : (w.alloc (.cells #[.int .u8 18, .int .i64 a, .int .i64 b, .int .i64 c, .int .i64 i] 51)).drew.frozen? ⟨E, 8, none⟩ = false := by simp [go_sem, *]
  all_goals have gf10 : (w.alloc (.cells #[.int .u8 18, .int .i64 a, .int .i64 b, .int .i64 c, .int .i64 i] 51)).drew.frozen? ⟨E, 10, none⟩ = false := by simp [go_sem, *]
  all_goals have gB : (w.alloc (.cells #[.int .u8 18, .int .i64 a, .int .i64 b, .int .i64 c, .int .i64 i] 51)).drew.cell? ⟨S, 1 + b, none⟩ = some (.int .i32 vb) := by simp [go_sem, *]
  all_goals go_wp2_with fail
  all_goals refine (access_over E S len cap 18 a b c p i pc nx vb _ g0 g1 g2 g3 g4 g5 g6 g7 g8 g9 g10 gf6 gf7 gf8 gf10 hS (by simp; omega) hb ⟨hvb, hvb1⟩ ⟨hi, hi1⟩ hk0 hk gB).mono ?_
  all_goals rintro e w' ⟨rfl, hbl⟩
  all_goals have hbl2 : Below w.heap.size w w' := by (refine Below.trans ?_ (hbl.mono (by simp)); repeat (first | (with_reducible apply bBoth) | (with_reducible exact Below.refl _ _) | (with_reducible apply bDrewN) | (with_reducible apply Below.drew) | ((with_reducible apply bSet); (focus first | (simp; done) | (simp; omega) | omega)) | ((with_reducible apply bAlloc); (focus first | (simp; done) | (simp; omega) | omega))))
  all_goals clear hbl g0 g1 g2 g3 g4 g5 g6 g7 g8 g9 g10 gf6 gf7 gf8 gf10 gB
  all_goals go_wp2_with fail
  all_goals go_ret2
  all_goals exact ⟨rfl, hbl2⟩

set_option maxRecDepth 100000 in
set_option maxHeartbeats 1600000 in
theorem prep_lds (E S a b c m off len cap k : Nat) (i pc nx locks va vb vc old : Int) (mv pv : Value) (w : World) (hE0 : w.cell? ⟨E, 0, none⟩ = some (.int .u8 20)) (hE1 : w.cell? ⟨E, 1, none⟩ = some (.int .i64 a)) (hE2 : w.cell? ⟨E, 2, none⟩ = some (.int .i64 b)) (hE3 : w.cell? ⟨E, 3, none⟩ = some (.int .i64 c)) (hE4 : w.cell? ⟨E, 4, none⟩ = some (.int .i64 i)) (hE5 : w.cell? ⟨E, 5, none⟩ = some (.int .i64 pc)) (hE6 : w.cell? ⟨E, 6, none⟩ = some (.bool false)) (hE7 : w.cell? ⟨E, 7, none⟩ = some (.int .i64 (-1))) (hE8 : w.cell? ⟨E, 8, none⟩ = some (.int .i32 0)) (hE9 : w.cell? ⟨E, 9, none⟩ = some (.pointer (some ⟨S, 0, none⟩))) (hE10 : w.cell? ⟨E, 10, none⟩ = some (.int .i64 nx)) (hF6 : w.frozen? ⟨E, 6, none⟩ = false) (hF7 : w.frozen? ⟨E, 7, none⟩ = false) (hF8 : w.frozen? ⟨E, 8, none⟩ = false) (hF10 : w.frozen? ⟨E, 10, none⟩ = false)
    (hS : S < E) (hEw : E < w.heap.size) (hm : m < E) (ha : a < 16) (hrA : w.cell? ⟨S, 1 + a, none⟩ = some (.int .i32 va)) (hfA : w.frozen? ⟨S, 1 + a, none⟩ = false) (hb : b < 16) (hrB : w.cell? ⟨S, 1 + b, none⟩ = some (.int .i32 vb)) (hvb : -2147483648 ≤ vb) (hvb1 : vb ≤ 2147483647) (hi : -131072 ≤ i) (hi1 : i ≤ 131071) (hk : vb + i = k) (hkl : k < len) (hM : w.cell? ⟨m, off + k, none⟩ = some (.int .i32 old)) (hMf : w.frozen? ⟨m, off + k, none⟩ = false) :
    Calls Tryd.prog 28 #[.pointer (some ⟨E, 0, none⟩), .int .i64 locks, .slice (some ⟨m, off, none⟩) len cap, pv] w (PrepOk w (w.setCell ⟨E, 7, none⟩ (.int .i64 k)) (setW (w.setCell ⟨E, 7, none⟩ (.int .i64 k)) S a old) (0)) := by
  have hmf : ∀ (fn : Fn) (first cap : Array Value) (w : World), (Instr.makeFunc fn first cap).run Tryd.prog w = .ok (.func fn first cap) w := fun _ _ _ _ => rfl
  have hE0w : E < w.heap.size + 1 := by omega
  have hS0w : S < w.heap.size := by omega
  have hS1w : S < w.heap.size + 1 := by omega
  go_enter Tryd.func28, Tryd.ntmps28
  go_wp2_with fail
  go_region
  all_goals have g0 : (w.alloc (.cells #[.int .u8 20, .int .i64 a, .int .i64 b, .int .i64 c, .int .i64 i] 51)).drew.cell? ⟨E, 0, none⟩ = some (.int .u8 20) := by simp [go_sem, *]
  all_goals have g1 : (w.alloc (.cells #[.int .u8 20, .int .i64 a, .int .i64 b, .int .i64 c, .int .i64 i] 51)).drew.cell? ⟨E, 1, none⟩ = some (.int .i64 a) := by simp [go_sem, *]
  all_goals have g2 : (w.alloc (.cells #[.int .u8 20, .int .i64 a, .int .i64 b, .int .i64 c, .int .i64 i] 51)).drew.cell? ⟨E, 2, none⟩ = some (.int .i64 b) := by simp [go_sem, *]
  all_goals have g3 : (w.alloc (.cells #[.int .u8 20, .int .i64 a, .int .i64 b, .int .i64 c, .int .i64 i] 51)).drew.cell? ⟨E, 3, none⟩ = some (.int .i64 c) := by simp [go_sem, *]
  all_goals have g4 : (w.alloc (.cells #[.int .u8 20, .int .i64 a, .int .i64 b, .int .i64 c, .int .i64 i] 51)).drew.cell? ⟨E, 4, none⟩ = some (.int .i64 i) := by simp [go_sem, *]
  all_goals have g5 : (w.alloc (.cells #[.int .u8 20, .int .i64 a, .int .i64 b, .int .i64 c, .int .i64 i] 51)).drew.cell? ⟨E, 5, none⟩ = some (.int .i64 pc) := by simp [go_sem, *]
  all_goals have g6 : (w.alloc (.cells #[.int .u8 20, .int .i64 a, .int .i64 b, .int .i64 c, .int .i64 i] 51)).drew.cell? ⟨E, 6, none⟩ = some (.bool false) := by simp [go_sem, *]
  all_goals have g7 : (w.alloc (.cells #[.int .u8 20, .int .i64 a, .int .i64 b, .int .i64 c, .int .i64 i] 51)).drew.cell? ⟨E, 7, none⟩ = some (.int .i64 (-1)) := by simp [go_sem, *]
  all_goals have g8 : (w.alloc (.cells #[.int .u8 20, .int .i64 a, .int .i64 b, .int .i64 c, .int .i64 i] 51)).drew.cell? ⟨E, 8, none⟩ = some (.int .i32 0) := by simp [go_sem, *]
  all_goals have g9 : (w.alloc (.cells #[.int .u8 20, .int .i64 a, .int .i64 b, .int .i64 c, .int .i64 i] 51)).drew.cell? ⟨E, 9, none⟩ = some (.pointer (some ⟨S, 0, none⟩)) := by simp [go_sem, *]
  all_goals have g10 : (w.alloc (.cells #[.int .u8 20, .int .i64 a, .int .i64 b, .int .i64 c, .int .i64 i] 51)).drew.cell? ⟨E, 10, none⟩ = some (.int .i64 nx) := by simp [go_sem, *]
  all_goals have gf6 : (w.alloc (.cells #[.int .u8 20, .int .i64 a, .int .i64 b, .int .i64 c, .int .i64 i] 51)).drew.frozen? ⟨E, 6, none⟩ = false := by simp [go_sem, *]
  all_goals have gf7 : (w.alloc (.cells #[.int .u8 20, .int .i64 a, .int .i64 b, .int .i64 c, .int .i64 i] 51)).drew.frozen? ⟨E, 7, none⟩ = false := by simp [go_sem, *]
  all_goals have gf8 : (w.alloc (.cells #[.int .u8 20, .int .i64 a, .int .i64 b, .int .i64 c, .int .i64 i] 51)).drew.frozen? ⟨E, 8, none⟩ = false := by simp [go_sem, *]
  all_goals have gf10 : (w.alloc (.cells #[.int .u8 20, .int .i64 a, .int .i64 b, .int .i64 c, .int .i64 i] 51)).drew.frozen? ⟨E, 10, none⟩ = false := by simp [go_sem, *]
  all_goals have gB : (w.alloc (.cells #[.int .u8 20, .int .i64 a, .int .i64 b, .int .i64 c, .int .i64 i] 51)).drew.cell? ⟨S, 1 + b, none⟩ = some (.int .i32 vb) := by simp [go_sem, *]
  all_goals have gM : (w.alloc (.cells #[.int .u8 20, .int .i64 a, .int .i64 b, .int .i64 c, .int .i64 i] 51)).drew.cell? ⟨m, off + k, none⟩ = some (.int .i32 old) := by rw [World.cell?_drew, World.cell?_alloc_past _ _ _ (by first | omega | (show m < w.heap.size; omega))]; exact hM
  all_goals have HK := Lib.hid hk
  all_goals clear hk
  all_goals go_wp2_with fail
  all_goals refine (access_load20 E S m off len cap a b c k i pc nx vb old _ g0 g1 g2 g3 g4 g5 g6 g7 g8 g9 g10 gf6 gf7 gf8 gf10 hS (by simp; omega) hm hb ⟨hvb, hvb1⟩ ⟨hi, hi1⟩ HK.out hkl gB gM).mono ?_
  all_goals rintro e w' ⟨B, rfl, hB1, hB2, hB3, hB4, hbl⟩
  all_goals have hbl2 : Below w.heap.size (w.setCell ⟨E, 7, none⟩ (.int .i64 k)) w' := by (refine Below.trans ?_ (hbl.mono (by simp)); repeat (first | (with_reducible apply bBoth) | (with_reducible exact Below.refl _ _) | (with_reducible apply bDrewN) | (with_reducible apply Below.drew) | ((with_reducible apply bSet); (focus first | (simp; done) | (simp; omega) | omega)) | ((with_reducible apply bAlloc); (focus first | (simp; done) | (simp; omega) | omega))))
  all_goals clear hbl g0 g1 g2 g3 g4 g5 g6 g7 g8 g9 g10 gf6 gf7 gf8 gf10 gB gM
  all_goals go_wp2_with fail
  all_goals go_ret2
  all_goals refine prep_set (B := B) (E := E) (S := S) (a := a) (v := old) (old := va) hEw hS0w ha rfl hbl2 hB3 hB4 ?_ ?_ ?_ ?_
  all_goals first | (simp [go_sem, *]; done)

set_option maxRecDepth 100000 in
set_option maxHeartbeats 1600000 in
theorem prep_lds_neg (E S a b c len cap : Nat) (i pc nx locks va vb vc : Int) (mv pv : Value) (w : World) (p : Option Addr) (hE0 : w.cell? ⟨E, 0, none⟩ = some (.int .u8 20)) (hE1 : w.cell? ⟨E, 1, none⟩ = some (.int .i64 a)) (hE2 : w.cell? ⟨E, 2, none⟩ = some (.int .i64 b)) (hE3 : w.cell? ⟨E, 3, none⟩ = some (.int .i64 c)) (hE4 : w.cell? ⟨E, 4, none⟩ = some (.int .i64 i)) (hE5 : w.cell? ⟨E, 5, none⟩ = some (.int .i64 pc)) (hE6 : w.cell? ⟨E, 6, none⟩ = some (.bool false)) (hE7 : w.cell? ⟨E, 7, none⟩ = some (.int .i64 (-1))) (hE8 : w.cell? ⟨E, 8, none⟩ = some (.int .i32 0)) (hE9 : w.cell? ⟨E, 9, none⟩ = some (.pointer (some ⟨S, 0, none⟩))) (hE10 : w.cell? ⟨E, 10, none⟩ = some (.int .i64 nx)) (hF6 : w.frozen? ⟨E, 6, none⟩ = false) (hF7 : w.frozen? ⟨E, 7, none⟩ = false) (hF8 : w.frozen? ⟨E, 8, none⟩ = false) (hF10 : w.frozen? ⟨E, 10, none⟩ = false)
    (hS : S < E) (hEw : E < w.heap.size) (hb : b < 16) (hrB : w.cell? ⟨S, 1 + b, none⟩ = some (.int .i32 vb)) (hvb : -2147483648 ≤ vb) (hvb1 : vb ≤ 2147483647) (hi : -131072 ≤ i) (hi1 : i ≤ 131071) (hk : vb + i < 0)  :
    Calls Tryd.prog 28 #[.pointer (some ⟨E, 0, none⟩), .int .i64 locks, .slice p len cap, pv] w (fun e w' => e = .returned (.tuple #[.nilFunc, .int .i64 10]) ∧ Below w.heap.size w w') := by
  have hmf : ∀ (fn : Fn) (first cap : Array Value) (w : World), (Instr.makeFunc fn first cap).run Tryd.prog w = .ok (.func fn first cap) w := fun _ _ _ _ => rfl
  have hE0w : E < w.heap.size + 1 := by omega
  have hS0w : S < w.heap.size := by omega
  have hS1w : S < w.heap.size + 1 := by omega
  go_enter Tryd.func28, Tryd.ntmps28
  go_wp2_with fail
  go_region
  all_goals have g0 : (w.alloc (.cells #[.int .u8 20, .int .i64 a, .int .i64 b, .int .i64 c, .int .i64 i] 51)).drew.cell? ⟨E, 0, none⟩ = some (.int .u8 20) := by simp [go_sem, *]
  all_goals have g1 : (w.alloc (.cells #[.int .u8 20, .int .i64 a, .int .i64 b, .int .i64 c, .int .i64 i] 51)).drew.cell? ⟨E, 1, none⟩ = some (.int .i64 a) := by simp [go_sem, *]
  all_goals have g2 : (w.alloc (.cells #[.int .u8 20, .int .i64 a, .int .i64 b, .int .i64 c, .int .i64 i] 51)).drew.cell? ⟨E, 2, none⟩ = some (.int .i64 b) := by simp [go_sem, *]
  all_goals have g3 : (w.alloc (.cells #[.int .u8 20, .int .i64 a, .int .i64 b, .int .i64 c, .int .i64 i] 51)).drew.cell? ⟨E, 3, none⟩ = some (.int .i64 c) := by simp [go_sem, *]
  all_goals have g4 : (w.alloc (.cells #[.int .u8 20, .int .i64 a, .int .i64 b, .int .i64 c, .int .i64 i] 51)).drew.cell? ⟨E, 4, none⟩ = some (.int .i64 i) := by simp [go_sem, *]
  all_goals have g5 : (w.alloc (.cells #[.int .u8 20, .int .i64 a, .int .i64 b, .int .i64 c, .int .i64 i] 51)).drew.cell? ⟨E, 5, none⟩ = some (.int .i64 pc) := by simp [go_sem, *]
  all_goals have g6 : (w.alloc (.cells #[.int .u8 20, .int .i64 a, .int .i64 b, .int .i64 c, .int .i64 i] 51)).drew.cell? ⟨E, 6, none⟩ = some (.bool false) := by simp [go_sem, *]
  all_goals have g7 : (w.alloc (.cells #[.int .u8 20, .int .i64 a, .int .i64 b, .int .i64 c, .int .i64 i] 51)).drew.cell? ⟨E, 7, none⟩ = some (.int .i64 (-1)) := by simp [go_sem, *]
  all_goals have g8 : (w.alloc (.cells #[.int .u8 20, .int .i64 a, .int .i64 b, .int .i64 c, .int .i64 i] 51)).drew.cell? ⟨E, 8, none⟩ = some (.int .i32 0) := by simp [go_sem, *]
  all_goals have g9 : (w.alloc (.cells #[.int .u8 20, .int .i64 a, .int .i64 b, .int .i64 c, .int .i64 i] 51)).drew.cell? ⟨E, 9, none⟩ = some (.pointer (some ⟨S, 0, none⟩)) := by simp [go_sem, *]
  all_goals have g10 : (w.alloc (.cells #[.int .u8 20, .int .i64 a, .int .i64 b, .int .i64 c, .int .i64 i] 51)).drew.cell? ⟨E, 10, none⟩ = some (.int .i64 nx) := by simp [go_sem, *]
  all_goals have gf6 : (w.alloc (.cells #[.int .u8 20, .int .i64 a, .int .i64 b, .int .i64 c, .int .i64 i] 51)).drew.frozen? ⟨E, 6, none⟩ = false := by simp [go_sem, *]
  all_goals have gf7 : (w.alloc (.cells #[.int .u8 20, .int .i64 a, .int .i64 b, .int .i64 c, .int .i64 i] 51)).drew.frozen? ⟨E, 7, none⟩ = false := by simp [go_sem, *]
  all_goals have gf8 : (w.alloc (.cells #[.int .u8 20, .int .i64 a, .int .i64 b, .int .i64 c, .int .i64 i] 51)).drew.frozen? ⟨E, 8, none⟩ = false := by simp [go_sem, *]
  all_goals have gf10 : (w.alloc (.cells #[.int .u8 20, .int .i64 a, .int .i64 b, .int .i64 c, .int .i64 i] 51)).drew.frozen? ⟨E, 10, none⟩ = false := by simp [go_sem, *]
  all_goals have gB : (w.alloc (.cells #[.int .u8 20, .int .i64 a, .int .i64 b, .int .i64 c, .int .i64 i] 51)).drew.cell? ⟨S, 1 + b, none⟩ = some (.int .i32 vb) := by simp [go_sem, *]
  all_goals go_wp2_with fail
  all_goals refine (access_neg E S len cap 20 a b c p i pc nx vb _ g0 g1 g2 g3 g4 g5 g6 g7 g8 g9 g10 gf6 gf7 gf8 gf10 hS (by simp; omega) hb ⟨hvb, hvb1⟩ ⟨hi, hi1⟩ hk gB).mono ?_
  all_goals rintro e w' ⟨rfl, hbl⟩
  all_goals have hbl2 : Below w.heap.size w w' := by (refine Below.trans ?_ (hbl.mono (by simp)); repeat (first | (with_reducible apply bBoth) | (with_reducible exact Below.refl _ _) | (with_reducible apply bDrewN) | (with_reducible apply Below.drew) | ((with_reducible apply bSet); (focus first | (simp; done) | (simp; omega) | omega)) | ((with_reducible apply bAlloc); (focus first | (simp; done) | (simp; omega) | omega))))
  all_goals clear hbl g0 g1 g2 g3 g4 g5 g6 g7 g8 g9 g10 gf6 gf7 gf8 gf10 gB
  all_goals go_wp2_with fail
  all_goals go_ret2
  all_goals exact ⟨rfl, hbl2⟩

set_option maxRecDepth 100000 in
set_option maxHeartbeats 1600000 in
theorem prep_lds_over (E S a b c len cap : Nat) (i pc nx locks va vb vc : Int) (mv pv : Value) (w : World) (p : Option Addr) (hE0 : w.cell? ⟨E, 0, none⟩ = some (.int .u8 20)) (hE1 : w.cell? ⟨E, 1, none⟩ = some (.int .i64 a)) (hE2 : w.cell? ⟨E, 2, none⟩ = some (.int .i64 b)) (hE3 : w.cell? ⟨E, 3, none⟩ = some (.int .i64 c)) (hE4 : w.cell? ⟨E, 4, none⟩ = some (.int .i64 i)) (hE5 : w.cell? ⟨E, 5, none⟩ = some (.int .i64 pc)) (hE6 : w.cell? ⟨E, 6, none⟩ = some (.bool false)) (hE7 : w.cell? ⟨E, 7, none⟩ = some (.int .i64 (-1))) (hE8 : w.cell? ⟨E, 8, none⟩ = some (.int .i32 0)) (hE9 : w.cell? ⟨E, 9, none⟩ = some (.pointer (some ⟨S, 0, none⟩))) (hE10 : w.cell? ⟨E, 10, none⟩ = some (.int .i64 nx)) (hF6 : w.frozen? ⟨E, 6, none⟩ = false) (hF7 : w.frozen? ⟨E, 7, none⟩ = false) (hF8 : w.frozen? ⟨E, 8, none⟩ = false) (hF10 : w.frozen? ⟨E, 10, none⟩ = false)
    (hS : S < E) (hEw : E < w.heap.size) (hb : b < 16) (hrB : w.cell? ⟨S, 1 + b, none⟩ = some (.int .i32 vb)) (hvb : -2147483648 ≤ vb) (hvb1 : vb ≤ 2147483647) (hi : -131072 ≤ i) (hi1 : i ≤ 131071) (hk0 : 0 ≤ vb + i) (hk : (len : Int) ≤ vb + i)  :
    Calls Tryd.prog 28 #[.pointer (some ⟨E, 0, none⟩), .int .i64 locks, .slice p len cap, pv] w (fun e w' => e = .returned (.tuple #[.nilFunc, .int .i64 10]) ∧ Below w.heap.size w w') := by
  have hmf : ∀ (fn : Fn) (first cap : Array Value) (w : World), (Instr.makeFunc fn first cap).run Tryd.prog w = .ok (.func fn first cap) w := fun _ _ _ _ => rfl
  have hE0w : E < w.heap.size + 1 := by omega
  have hS0w : S < w.heap.size := by omega
  have hS1w : S < w.heap.size + 1 := by omega
  go_enter Tryd.func28, Tryd.ntmps28
  go_wp2_with fail
  go_region
  all_goals have g0 : (w.alloc (.cells #[.int .u8 20, .int .i64 a, .int .i64 b, .int .i64 c, .int .i64 i] 51)).drew.cell? ⟨E, 0, none⟩ = some (.int .u8 20) := by simp [go_sem, *]
  all_goals have g1 : (w.alloc (.cells #[.int .u8 20, .int .i64 a, .int .i64 b, .int .i64 c, .int .i64 i] 51)).drew.cell? ⟨E, 1, none⟩ = some (.int .i64 a) := by simp [go_sem, *]
  all_goals have g2 : (w.alloc (.cells #[.int .u8 20, .int .i64 a, .int .i64 b, .int .i64 c, .int .i64 i] 51)).drew.cell? ⟨E, 2, none⟩ = some (.int .i64 b) := by simp [go_sem, *]
  all_goals have g3 : (w.alloc (.cells #[.int .u8 20, .int .i64 a, .int .i64 b, .int .i64 c, .int .i64 i] 51)).drew.cell? ⟨E, 3, none⟩ = some (.int .i64 c) := by simp [go_sem, *]
  all_goals have g4 : (w.alloc (.cells #[.int .u8 20, .int .i64 a, .int .i64 b, .int .i64 c, .int .i64 i] 51)).drew.cell? ⟨E, 4, none⟩ = some (.int .i64 i) := by simp [go_sem, *]
  all_goals have g5 : (w.alloc (.cells #[.int .u8 20, .int .i64 a, .int .i64 b, .int .i64 c, .int .i64 i] 51)).drew.cell? ⟨E, 5, none⟩ = some (.int .i64 pc) := by simp [go_sem, *]
  all_goals have g6 : (w.alloc (.cells #[.int .u8 20, .int .i64 a, .int .i64 b, .int .i64 c, .int .i64 i] 51)).drew.cell? ⟨E, 6, none⟩ = some (.bool false) := by simp [go_sem, *]
  all_goals have g7 : (w.alloc (.cells #[.int .u8 20, .int .i64 a, .int .i64 b, .int .i64 c, .int .i64 i] 51)).drew.cell? ⟨E, 7, none⟩ = some (.int .i64 (-1)) := by simp [go_sem, *]
  all_goals have g8 : (w.alloc (.cells #[.int .u8 20, .int .i64 a, .int .i64 b, .int .i64 c, .int .i64 i] 51)).drew.cell? ⟨E, 8, none⟩ = some (.int .i32 0) := by simp [go_sem, *]
  all_goals have g9 : (w.alloc (.cells #[.int .u8 20, .int .i64 a, .int .i64 b, .int .i64 c, .int .i64 i] 51)).drew.cell? ⟨E, 9, none⟩ = some (.pointer (some ⟨S, 0, none⟩)) := by simp [go_sem, *]
  all_goals have g10 : (w.alloc (.cells #[.int .u8 20, .int .i64 a, .int .i64 b, .int .i64 c, .int .i64 i] 51)).drew.cell? ⟨E, 10, none⟩ = some (.int .i64 nx) := by simp [go_sem, *]
  all_goals have gf6 : (w.alloc (.cells #[.int .u8 20, .int .i64 a, .int .i64 b, .int .i64 c, .int .i64 i] 51)).drew.frozen? ⟨E, 6, none⟩ = false := by simp [go_sem, *]
  all_goals have gf7 : (w.alloc (.cells #[.int .u8 20, .int .i64 a, .int .i64 b, .int .i64 c, .int .i64 i] 51)).drew.frozen? ⟨E, 7, none⟩ = false := by simp [go_sem, *]
  all_goals have gf8 : (w.alloc (.cells #[.int .u8 20, .int .i64 a, .int .i64 b, .int .i64 c, .int .i64 i] 51)).drew.frozen? ⟨E, 8, none⟩ = false := by simp [go_sem, *]
  all_goals have gf10 : (w.alloc (.cells #[.int .u8 20, .int .i64 a, .int .i64 b, .int .i64 c, .int .i64 i] 51)).drew.frozen? ⟨E, 10, none⟩ = false := by simp [go_sem, *]
  all_goals have gB : (w.alloc (.cells #[.int .u8 20, .int .i64 a, .int .i64 b, .int .i64 c, .int .i64 i] 51)).drew.cell? ⟨S, 1 + b, none⟩ = some (.int .i32 vb) := by simp [go_sem, *]
  all_goals go_wp2_with fail
  all_goals refine (access_over E S len cap 20 a b c p i pc nx vb _ g0 g1 g2 g3 g4 g5 g6 g7 g8 g9 g10 gf6 gf7 gf8 gf10 hS (by simp; omega) hb ⟨hvb, hvb1⟩ ⟨hi, hi1⟩ hk0 hk gB).mono ?_
  all_goals rintro e w' ⟨rfl, hbl⟩
  all_goals have hbl2 : Below w.heap.size w w' := by (refine Below.trans ?_ (hbl.mono (by simp)); repeat (first | (with_reducible apply bBoth) | (with_reducible exact Below.refl _ _) | (with_reducible apply bDrewN) | (with_reducible apply Below.drew) | ((with_reducible apply bSet); (focus first | (simp; done) | (simp; omega) | omega)) | ((with_reducible apply bAlloc); (focus first | (simp; done) | (simp; omega) | omega))))
  all_goals clear hbl g0 g1 g2 g3 g4 g5 g6 g7 g8 g9 g10 gf6 gf7 gf8 gf10 gB
  all_goals go_wp2_with fail
  all_goals go_ret2
  all_goals exact ⟨rfl, hbl2⟩

set_option maxRecDepth 100000 in
set_option maxHeartbeats 1600000 in
theorem prep_st (E S a b c m off len cap k : Nat) (i pc nx locks va vb vc old : Int) (mv pv : Value) (w : World) (hE0 : w.cell? ⟨E, 0, none⟩ = some (.int .u8 19)) (hE1 : w.cell? ⟨E, 1, none⟩ = some (.int .i64 a)) (hE2 : w.cell? ⟨E, 2, none⟩ = some (.int .i64 b)) (hE3 : w.cell? ⟨E, 3, none⟩ = some (.int .i64 c)) (hE4 : w.cell? ⟨E, 4, none⟩ = some (.int .i64 i)) (hE5 : w.cell? ⟨E, 5, none⟩ = some (.int .i64 pc)) (hE6 : w.cell? ⟨E, 6, none⟩ = some (.bool false)) (hE7 : w.cell? ⟨E, 7, none⟩ = some (.int .i64 (-1))) (hE8 : w.cell? ⟨E, 8, none⟩ = some (.int .i32 0)) (hE9 : w.cell? ⟨E, 9, none⟩ = some (.pointer (some ⟨S, 0, none⟩))) (hE10 : w.cell? ⟨E, 10, none⟩ = some (.int .i64 nx)) (hF6 : w.frozen? ⟨E, 6, none⟩ = false) (hF7 : w.frozen? ⟨E, 7, none⟩ = false) (hF8 : w.frozen? ⟨E, 8, none⟩ = false) (hF10 : w.frozen? ⟨E, 10, none⟩ = false)
    (hS : S < E) (hEw : E < w.heap.size) (hm : m < E) (ha : a < 16) (hrA : w.cell? ⟨S, 1 + a, none⟩ = some (.int .i32 va)) (hfA : w.frozen? ⟨S, 1 + a, none⟩ = false) (hb : b < 16) (hrB : w.cell? ⟨S, 1 + b, none⟩ = some (.int .i32 vb)) (hvb : -2147483648 ≤ vb) (hvb1 : vb ≤ 2147483647) (hi : -131072 ≤ i) (hi1 : i ≤ 131071) (hk : vb + i = k) (hkl : k < len) (hD : w.cell? ⟨S, 17, none⟩ = some (.slice (some ⟨m, off, none⟩) len cap)) (hM : w.cell? ⟨m, off + k, none⟩ = some (.int .i32 old)) (hMf : w.frozen? ⟨m, off + k, none⟩ = false) :
    Calls Tryd.prog 28 #[.pointer (some ⟨E, 0, none⟩), .int .i64 locks, mv, pv] w (PrepOk w (w.setCell ⟨E, 7, none⟩ (.int .i64 k)) ((w.setCell ⟨E, 7, none⟩ (.int .i64 k)).setCell ⟨m, off + k, none⟩ (.int .i32 va)) (0)) := by
  have hmf : ∀ (fn : Fn) (first cap : Array Value) (w : World), (Instr.makeFunc fn first cap).run Tryd.prog w = .ok (.func fn first cap) w := fun _ _ _ _ => rfl
  have hE0w : E < w.heap.size + 1 := by omega
  have hS0w : S < w.heap.size := by omega
  have hS1w : S < w.heap.size + 1 := by omega
  go_enter Tryd.func28, Tryd.ntmps28
  go_wp2_with fail
  go_region
  all_goals have g0 : (w.alloc (.cells #[.int .u8 19, .int .i64 a, .int .i64 b, .int .i64 c, .int .i64 i] 51)).drew.cell? ⟨E, 0, none⟩ = some (.int .u8 19) := by simp [go_sem, *]
  all_goals have g1 : (w.alloc (.cells #[.int .u8 19, .int .i64 a, .int .i64 b, .int .i64 c, .int .i64 i] 51)).drew.cell? ⟨E, 1, none⟩ = some (.int .i64 a) := by simp [go_sem, *]
  all_goals have g2 : (w.alloc (.cells #[.int .u8 19, .int .i64 a, .int .i64 b, .int .i64 c, .int .i64 i] 51)).drew.cell? ⟨E, 2, none⟩ = some (.int .i64 b) := by simp [go_sem, *]
  all_goals have g3 : (w.alloc (.cells #[.int .u8 19, .int .i64 a, .int .i64 b, .int .i64 c, .int .i64 i] 51)).drew.cell? ⟨E, 3, none⟩ = some (.int .i64 c) := by simp [go_sem, *]
  all_goals have g4 : (w.alloc (.cells #[.int .u8 19, .int .i64 a, .int .i64 b, .int .i64 c, .int .i64 i] 51)).drew.cell? ⟨E, 4, none⟩ = some (.int .i64 i) := by simp [go_sem, *]
  all_goals have g5 : (w.alloc (.cells #[.int .u8 19, .int .i64 a, .int .i64 b, .int .i64 c, .int .i64 i] 51)).drew.cell? ⟨E, 5, none⟩ = some (.int .i64 pc) := by simp [go_sem, *]
  all_goals have g6 : (w.alloc (.cells #[.int .u8 19, .int .i64 a, .int .i64 b, .int .i64 c, .int .i64 i] 51)).drew.cell? ⟨E, 6, none⟩ = some (.bool false) := by simp [go_sem, *]
  all_goals have g7 : (w.alloc (.cells #[.int .u8 19, .int .i64 a, .int .i64 b, .int .i64 c, .int .i64 i] 51)).drew.cell? ⟨E, 7, none⟩ = some (.int .i64 (-1)) := by simp [go_sem, *]
  all_goals have g8 : (w.alloc (.cells #[.int .u8 19, .int .i64 a, .int .i64 b, .int .i64 c, .int .i64 i] 51)).drew.cell? ⟨E, 8, none⟩ = some (.int .i32 0) := by simp [go_sem, *]
  all_goals have g9 : (w.alloc (.cells #[.int .u8 19, .int .i64 a, .int .i64 b, .int .i64 c, .int .i64 i] 51)).drew.cell? ⟨E, 9, none⟩ = some (.pointer (some ⟨S, 0, none⟩)) := by simp [go_sem, *]
  all_goals have g10 : (w.alloc (.cells #[.int .u8 19, .int .i64 a, .int .i64 b, .int .i64 c, .int .i64 i] 51)).drew.cell? ⟨E, 10, none⟩ = some (.int .i64 nx) := by simp [go_sem, *]
  all_goals have gf6 : (w.alloc (.cells #[.int .u8 19, .int .i64 a, .int .i64 b, .int .i64 c, .int .i64 i] 51)).drew.frozen? ⟨E, 6, none⟩ = false := by simp [go_sem, *]
  all_goals have gf7 : (w.alloc (.cells #[.int .u8 19, .int .i64 a, .int .i64 b, .int .i64 c, .int .i64 i] 51)).drew.frozen? ⟨E, 7, none⟩ = false := by simp [go_sem, *]
  all_goals have gf8 : (w.alloc (.cells #[.int .u8 19, .int .i64 a, .int .i64 b, .int .i64 c, .int .i64 i] 51)).drew.frozen? ⟨E, 8, none⟩ = false := by simp [go_sem, *]
  all_goals have gf10 : (w.alloc (.cells #[.int .u8 19, .int .i64 a, .int .i64 b, .int .i64 c, .int .i64 i] 51)).drew.frozen? ⟨E, 10, none⟩ = false := by simp [go_sem, *]
  all_goals have gB : (w.alloc (.cells #[.int .u8 19, .int .i64 a, .int .i64 b, .int .i64 c, .int .i64 i] 51)).drew.cell? ⟨S, 1 + b, none⟩ = some (.int .i32 vb) := by simp [go_sem, *]
  all_goals have gM : (w.alloc (.cells #[.int .u8 19, .int .i64 a, .int .i64 b, .int .i64 c, .int .i64 i] 51)).drew.cell? ⟨m, off + k, none⟩ = some (.int .i32 old) := by rw [World.cell?_drew, World.cell?_alloc_past _ _ _ (by first | omega | (show m < w.heap.size; omega))]; exact hM
  all_goals have HK := Lib.hid hk
  all_goals clear hk
  all_goals go_wp2_with fail
  all_goals refine (access_store19 E S m off len cap a b c k i pc nx vb va old _ g0 g1 g2 g3 g4 g5 g6 g7 g8 g9 g10 gf6 gf7 gf8 gf10 hS (by simp; omega) hm ha hb ⟨hvb, hvb1⟩ ⟨hi, hi1⟩ HK.out hkl gB).mono ?_
  all_goals rintro e w' ⟨S1, S2, S3, S4, rfl, h1, h2, h3, h4, hbl⟩
  all_goals have hbl2 : Below w.heap.size (w.setCell ⟨E, 7, none⟩ (.int .i64 k)) w' := by (refine Below.trans ?_ (hbl.mono (by simp)); repeat (first | (with_reducible apply bBoth) | (with_reducible exact Below.refl _ _) | (with_reducible apply bDrewN) | (with_reducible apply Below.drew) | ((with_reducible apply bSet); (focus first | (simp; done) | (simp; omega) | omega)) | ((with_reducible apply bAlloc); (focus first | (simp; done) | (simp; omega) | omega))))
  all_goals clear hbl g0 g1 g2 g3 g4 g5 g6 g7 g8 g9 g10 gf6 gf7 gf8 gf10 gB gM
  all_goals go_wp2_with fail
  all_goals go_ret2
  all_goals refine prep_store (old := old) hS0w (by omega) ha hkl rfl hbl2 h1 h2 h3 h4 ?_ ?_ ?_
  all_goals first | (simp [go_sem, *]; done) | (rw [World.cell?_setCell_other _ _ _ _ (by intro e; injection e with e1 e2; omega)]; exact hM) | (rw [World.frozen?_setCell]; exact hMf)

set_option maxRecDepth 100000 in
set_option maxHeartbeats 1600000 in
theorem prep_st_neg (E S a b c len cap : Nat) (i pc nx locks va vb vc : Int) (mv pv : Value) (w : World) (p : Option Addr) (hE0 : w.cell? ⟨E, 0, none⟩ = some (.int .u8 19)) (hE1 : w.cell? ⟨E, 1, none⟩ = some (.int .i64 a)) (hE2 : w.cell? ⟨E, 2, none⟩ = some (.int .i64 b)) (hE3 : w.cell? ⟨E, 3, none⟩ = some (.int .i64 c)) (hE4 : w.cell? ⟨E, 4, none⟩ = some (.int .i64 i)) (hE5 : w.cell? ⟨E, 5, none⟩ = some (.int .i64 pc)) (hE6 : w.cell? ⟨E, 6, none⟩ = some (.bool false)) (hE7 : w.cell? ⟨E, 7, none⟩ = some (.int .i64 (-1))) (hE8 : w.cell? ⟨E, 8, none⟩ = some (.int .i32 0)) (hE9 : w.cell? ⟨E, 9, none⟩ = some (.pointer (some ⟨S, 0, none⟩))) (hE10 : w.cell? ⟨E, 10, none⟩ = some (.int .i64 nx)) (hF6 : w.frozen? ⟨E, 6, none⟩ = false) (hF7 : w.frozen? ⟨E, 7, none⟩ = false) (hF8 : w.frozen? ⟨E, 8, none⟩ = false) (hF10 : w.frozen? ⟨E, 10, none⟩ = false)
    (hS : S < E) (hEw : E < w.heap.size) (hb : b < 16) (hrB : w.cell? ⟨S, 1 + b, none⟩ = some (.int .i32 vb)) (hvb : -2147483648 ≤ vb) (hvb1 : vb ≤ 2147483647) (hi : -131072 ≤ i) (hi1 : i ≤ 131071) (hk : vb + i < 0) (hD : w.cell? ⟨S, 17, none⟩ = some (.slice p len cap))  :
    Calls Tryd.prog 28 #[.pointer (some ⟨E, 0, none⟩), .int .i64 locks, mv, pv] w (fun e w' => e = .returned (.tuple #[.nilFunc, .int .i64 10]) ∧ Below w.heap.size w w') := by
  have hmf : ∀ (fn : Fn) (first cap : Array Value) (w : World), (Instr.makeFunc fn first cap).run Tryd.prog w = .ok (.func fn first cap) w := fun _ _ _ _ => rfl
  have hE0w : E < w.heap.size + 1 := by omega
  have hS0w : S < w.heap.size := by omega
  have hS1w : S < w.heap.size + 1 := by omega
  go_enter Tryd.func28, Tryd.ntmps28
  go_wp2_with fail
  go_region
  all_goals have g0 : (w.alloc (.cells #[.int .u8 19, .int .i64 a, .int .i64 b, .int .i64 c, .int .i64 i] 51)).drew.cell? ⟨E, 0, none⟩ = some (.int .u8 19) := by simp [go_sem, *]
  all_goals have g1 : (w.alloc (.cells #[.int .u8 19, .int .i64 a, .int .i64 b, .int .i64 c, .int .i64 i] 51)).drew.cell? ⟨E, 1, none⟩ = some (.int .i64 a) := by simp [go_sem, *]
  all_goals have g2 : (w.alloc (.cells #[.int .u8 19, .int .i64 a, .int .i64 b, .int .i64 c, .int .i64 i] 51)).drew.cell? ⟨E, 2, none⟩ = some (.int .i64 b) := by simp [go_sem, *]
  all_goals have g3 : (w.alloc (.cells #[.int .u8 19, .int .i64 a, .int .i64 b, .int .i64 c, .int .i64 i] 51)).drew.cell? ⟨E, 3, none⟩ = some (.int .i64 c) := by simp [go_sem, *]
  all_goals have g4 : (w.alloc (.cells #[.int .u8 19, .int .i64 a, .int .i64 b, .int .i64 c, .int .i64 i] 51)).drew.cell? ⟨E, 4, none⟩ = some (.int .i64 i) := by simp [go_sem, *]
  all_goals have g5 : (w.alloc (.cells #[.int .u8 19, .int .i64 a, .int .i64 b, .int .i64 c, .int .i64 i] 51)).drew.cell? ⟨E, 5, none⟩ = some (.int .i64 pc) := by simp [go_sem, *]
  all_goals have g6 : (w.alloc (.cells #[.int .u8 19, .int .i64 a, .int .i64 b, .int .i64 c, .int .i64 i] 51)).drew.cell? ⟨E, 6, none⟩ = some (.bool false) := by simp [go_sem, *]
  all_goals have g7 : (w.alloc (.cells #[.int .u8 19, .int .i64 a, .int .i64 b, .int .i64 c, .int .i64 i] 51)).drew.cell? ⟨E, 7, none⟩ = some (.int .i64 (-1)) := by simp [go_sem, *]
  all_goals have g8 : (w.alloc (.cells #[.int .u8 19, .int .i64 a, .int .i64 b, .int .i64 c, .int .i64 i] 51)).drew.cell? ⟨E, 8, none⟩ = some (.int .i32 0) := by simp [go_sem, *]
  all_goals have g9 : (w.alloc (.cells #[.int .u8 19, .int .i64 a, .int .i64 b, .int .i64 c, .int .i64 i] 51)).drew.cell? ⟨E, 9, none⟩ = some (.pointer (some ⟨S, 0, none⟩)) := by simp [go_sem, *]
  all_goals have g10 : (w.alloc (.cells #[.int .u8 19, .int .i64 a, .int .i64 b, .int .i64 c, .int .i64 i] 51)).drew.cell? ⟨E, 10, none⟩ = some (.int .i64 nx) := by simp [go_sem, *]
  all_goals have gf6 : (w.alloc (.cells #[.int .u8 19, .int .i64 a, .int .i64 b, .int .i64 c, .int .i64 i] 51)).drew.frozen? ⟨E, 6, none⟩ = false := by simp [go_sem, *]
  all_goals have gf7 : (w.alloc (.cells #[.int .u8 19, .int .i64 a, .int .i64 b, .int .i64 c, .int .i64 i] 51)).drew.frozen? ⟨E, 7, none⟩ = false := by simp [go_sem, *]
  all_goals have gf8 : (w.alloc (.cells #[.int .u8 19, .int .i64 a, .int .i64 b, .int .i64 c, .int .i64 i] 51)).drew.frozen? ⟨E, 8, none⟩ = false := by simp [go_sem, *]
  all_goals have gf10 : (w.alloc (.cells #[.int .u8 19, .int .i64 a, .int .i64 b, .int .i64 c, .int .i64 i] 51)).drew.frozen? ⟨E, 10, none⟩ = false := by simp [go_sem, *]
  all_goals have gB : (w.alloc (.cells #[.int .u8 19, .int .i64 a, .int .i64 b, .int .i64 c, .int .i64 i] 51)).drew.cell? ⟨S, 1 + b, none⟩ = some (.int .i32 vb) := by simp [go_sem, *]
  all_goals go_wp2_with fail
  all_goals refine (access_neg E S len cap 19 a b c p i pc nx vb _ g0 g1 g2 g3 g4 g5 g6 g7 g8 g9 g10 gf6 gf7 gf8 gf10 hS (by simp; omega) hb ⟨hvb, hvb1⟩ ⟨hi, hi1⟩ hk gB).mono ?_
  all_goals rintro e w' ⟨rfl, hbl⟩
  all_goals have hbl2 : Below w.heap.size w w' := by (refine Below.trans ?_ (hbl.mono (by simp)); repeat (first | (with_reducible apply bBoth) | (with_reducible exact Below.refl _ _) | (with_reducible apply bDrewN) | (with_reducible apply Below.drew) | ((with_reducible apply bSet); (focus first | (simp; done) | (simp; omega) | omega)) | ((with_reducible apply bAlloc); (focus first | (simp; done) | (simp; omega) | omega))))
  all_goals clear hbl g0 g1 g2 g3 g4 g5 g6 g7 g8 g9 g10 gf6 gf7 gf8 gf10 gB
  all_goals go_wp2_with fail
  all_goals go_ret2
  all_goals exact ⟨rfl, hbl2⟩

set_option maxRecDepth 100000 in
set_option maxHeartbeats 1600000 in
theorem prep_st_over (E S a b c len cap : Nat) (i pc nx locks va vb vc : Int) (mv pv : Value) (w : World) (p : Option Addr) (hE0 : w.cell? ⟨E, 0, none⟩ = some (.int .u8 19)) (hE1 : w.cell? ⟨E, 1, none⟩ = some (.int .i64 a)) (hE2 : w.cell? ⟨E, 2, none⟩ = some (.int .i64 b)) (hE3 : w.cell? ⟨E, 3, none⟩ = some (.int .i64 c)) (hE4 : w.cell? ⟨E, 4, none⟩ = some (.int .i64 i)) (hE5 : w.cell? ⟨E, 5, none⟩ = some (.int .i64 pc)) (hE6 : w.cell? ⟨E, 6, none⟩ = some (.bool false)) (hE7 : w.cell? ⟨E, 7, none⟩ = some (.int .i64 (-1))) (hE8 : w.cell? ⟨E, 8, none⟩ = some (.int .i32 0)) (hE9 : w.cell? ⟨E, 9, none⟩ = some (.pointer (some ⟨S, 0, none⟩))) (hE10 : w.cell? ⟨E, 10, none⟩ = some (.int .i64 nx)) (hF6 : w.frozen? ⟨E, 6, none⟩ = false) (hF7 : w.frozen? ⟨E, 7, none⟩ = false) (hF8 : w.frozen? ⟨E, 8, none⟩ = false) (hF10 : w.frozen? ⟨E, 10, none⟩ = false)
    (hS : S < E) (hEw : E < w.heap.size) (hb : b < 16) (hrB : w.cell? ⟨S, 1 + b, none⟩ = some (.int .i32 vb)) (hvb : -2147483648 ≤ vb) (hvb1 : vb ≤ 2147483647) (hi : -131072 ≤ i) (hi1 : i ≤ 131071) (hk0 : 0 ≤ vb + i) (hk : (len : Int) ≤ vb + i) (hD : w.cell? ⟨S, 17, none⟩ = some (.slice p len cap))  :
    Calls Tryd.prog 28 #[.pointer (some ⟨E, 0, none⟩), .int .i64 locks, mv, pv] w (fun e w' => e = .returned (.tuple #[.nilFunc, .int .i64 10]) ∧ Below w.heap.size w w') := by
  have hmf : ∀ (fn : Fn) (first cap : Array Value) (w : World), (Instr.makeFunc fn first cap).run Tryd.prog w = .ok (.func fn first cap) w := fun _ _ _ _ => rfl
  have hE0w : E < w.heap.size + 1 := by omega
  have hS0w : S < w.heap.size := by omega
  have hS1w : S < w.heap.size + 1 := by omega
  go_enter Tryd.func28, Tryd.ntmps28
  go_wp2_with fail
  go_region
  all_goals have g0 : (w.alloc (.cells #[.int .u8 19, .int .i64 a, .int .i64 b, .int .i64 c, .int .i64 i] 51)).drew.cell? ⟨E, 0, none⟩ = some (.int .u8 19) := by simp [go_sem, *]
  all_goals have g1 : (w.alloc (.cells #[.int .u8 19, .int .i64 a, .int .i64 b, .int .i64 c, .int .i64 i] 51)).drew.cell? ⟨E, 1, none⟩ = some (.int .i64 a) := by simp [go_sem, *]
  all_goals have g2 : (w.alloc (.cells #[.int .u8 19, .int .i64 a, .int .i64 b, .int .i64 c, .int .i64 i] 51)).drew.cell? ⟨E, 2, none⟩ = some (.int .i64 b) := by simp [go_sem, *]
  all_goals have g3 : (w.alloc (.cells #[.int .u8 19, .int .i64 a, .int .i64 b, .int .i64 c, .int .i64 i] 51)).drew.cell? ⟨E, 3, none⟩ = some (.int .i64 c) := by simp [go_sem, *]
  all_goals have g4 : (w.alloc (.cells #[.int .u8 19, .int .i64 a, .int .i64 b, .int .i64 c, .int .i64 i] 51)).drew.cell? ⟨E, 4, none⟩ = some (.int .i64 i) := by simp [go_sem, *]
  all_goals have g5 : (w.alloc (.cells #[.int .u8 19, .int .i64 a, .int .i64 b, .int .i64 c, .int .i64 i] 51)).drew.cell? ⟨E, 5, none⟩ = some (.int .i64 pc) := by simp [go_sem, *]
  all_goals have g6 : (w.alloc (.cells #[.int .u8 19, .int .i64 a, .int .i64 b, .int .i64 c, .int .i64 i] 51)).drew.cell? ⟨E, 6, none⟩ = some (.bool false) := by simp [go_sem, *]
  all_goals have g7 : (w.alloc (.cells #[.int .u8 19, .int .i64 a, .int .i64 b, .int .i64 c, .int .i64 i] 51)).drew.cell? ⟨E, 7, none⟩ = some (.int .i64 (-1)) := by simp [go_sem, *]
  all_goals have g8 : (w.alloc (.cells #[.int .u8 19, .int .i64 a, .int .i64 b, .int .i64 c, .int .i64 i] 51)).drew.cell? ⟨E, 8, none⟩ = some (.int .i32 0) := by simp [go_sem, *]
  all_goals have g9 : (w.alloc (.cells #[.int .u8 19, .int .i64 a, .int .i64 b, .int .i64 c, .int .i64 i] 51)).drew.cell? ⟨E, 9, none⟩ = some (.pointer (some ⟨S, 0, none⟩)) := by simp [go_sem, *]
  all_goals have g10 : (w.alloc (.cells #[.int .u8 19, .int .i64 a, .int .i64 b, .int .i64 c, .int .i64 i] 51)).drew.cell? ⟨E, 10, none⟩ = some (.int .i64 nx) := by simp [go_sem, *]
  all_goals have gf6 : (w.alloc (.cells #[.int .u8 19, .int .i64 a, .int .i64 b, .int .i64 c, .int .i64 i] 51)).drew.frozen? ⟨E, 6, none⟩ = false := by simp [go_sem, *]
  all_goals have gf7 : (w.alloc (.cells #[.int .u8 19, .int .i64 a, .int .i64 b, .int .i64 c, .int .i64 i] 51)).drew.frozen? ⟨E, 7, none⟩ = false := by simp [go_sem, *]
  all_goals have gf8 : (w.alloc (.cells #[.int .u8 19, .int .i64 a, .int .i64 b, .int .i64 c, .int .i64 i] 51)).drew.frozen? ⟨E, 8, none⟩ = false := by simp [go_sem, *]
  all_goals have gf10 : (w.alloc (.cells #[.int .u8 19, .int .i64 a, .int .i64 b, .int .i64 c, .int .i64 i] 51)).drew.frozen? ⟨E, 10, none⟩ = false := by simp [go_sem, *]
  all_goals have gB : (w.alloc (.cells #[.int .u8 19, .int .i64 a, .int .i64 b, .int .i64 c, .int .i64 i] 51)).drew.cell? ⟨S, 1 + b, none⟩ = some (.int .i32 vb) := by simp [go_sem, *]
  all_goals go_wp2_with fail
  all_goals refine (access_over E S len cap 19 a b c p i pc nx vb _ g0 g1 g2 g3 g4 g5 g6 g7 g8 g9 g10 gf6 gf7 gf8 gf10 hS (by simp; omega) hb ⟨hvb, hvb1⟩ ⟨hi, hi1⟩ hk0 hk gB).mono ?_
  all_goals rintro e w' ⟨rfl, hbl⟩
  all_goals have hbl2 : Below w.heap.size w w' := by (refine Below.trans ?_ (hbl.mono (by simp)); repeat (first | (with_reducible apply bBoth) | (with_reducible exact Below.refl _ _) | (with_reducible apply bDrewN) | (with_reducible apply Below.drew) | ((with_reducible apply bSet); (focus first | (simp; done) | (simp; omega) | omega)) | ((with_reducible apply bAlloc); (focus first | (simp; done) | (simp; omega) | omega))))
  all_goals clear hbl g0 g1 g2 g3 g4 g5 g6 g7 g8 g9 g10 gf6 gf7 gf8 gf10 gB
  all_goals go_wp2_with fail
  all_goals go_ret2
  all_goals exact ⟨rfl, hbl2⟩

set_option maxRecDepth 100000 in
set_option maxHeartbeats 1600000 in
theorem prep_sts (E S a b c m off len cap k : Nat) (i pc nx locks va vb vc old : Int) (mv pv : Value) (w : World) (hE0 : w.cell? ⟨E, 0, none⟩ = some (.int .u8 21)) (hE1 : w.cell? ⟨E, 1, none⟩ = some (.int .i64 a)) (hE2 : w.cell? ⟨E, 2, none⟩ = some (.int .i64 b)) (hE3 : w.cell? ⟨E, 3, none⟩ = some (.int .i64 c)) (hE4 : w.cell? ⟨E, 4, none⟩ = some (.int .i64 i)) (hE5 : w.cell? ⟨E, 5, none⟩ = some (.int .i64 pc)) (hE6 : w.cell? ⟨E, 6, none⟩ = some (.bool false)) (hE7 : w.cell? ⟨E, 7, none⟩ = some (.int .i64 (-1))) (hE8 : w.cell? ⟨E, 8, none⟩ = some (.int .i32 0)) (hE9 : w.cell? ⟨E, 9, none⟩ = some (.pointer (some ⟨S, 0, none⟩))) (hE10 : w.cell? ⟨E, 10, none⟩ = some (.int .i64 nx)) (hF6 : w.frozen? ⟨E, 6, none⟩ = false) (hF7 : w.frozen? ⟨E, 7, none⟩ = false) (hF8 : w.frozen? ⟨E, 8, none⟩ = false) (hF10 : w.frozen? ⟨E, 10, none⟩ = false)
    (hS : S < E) (hEw : E < w.heap.size) (hm : m < E) (ha : a < 16) (hrA : w.cell? ⟨S, 1 + a, none⟩ = some (.int .i32 va)) (hfA : w.frozen? ⟨S, 1 + a, none⟩ = false) (hb : b < 16) (hrB : w.cell? ⟨S, 1 + b, none⟩ = some (.int .i32 vb)) (hvb : -2147483648 ≤ vb) (hvb1 : vb ≤ 2147483647) (hi : -131072 ≤ i) (hi1 : i ≤ 131071) (hk : vb + i = k) (hkl : k < len) (hM : w.cell? ⟨m, off + k, none⟩ = some (.int .i32 old)) (hMf : w.frozen? ⟨m, off + k, none⟩ = false) :
    Calls Tryd.prog 28 #[.pointer (some ⟨E, 0, none⟩), .int .i64 locks, .slice (some ⟨m, off, none⟩) len cap, pv] w (PrepOk w (w.setCell ⟨E, 7, none⟩ (.int .i64 k)) ((w.setCell ⟨E, 7, none⟩ (.int .i64 k)).setCell ⟨m, off + k, none⟩ (.int .i32 va)) (0)) := by
  have hmf : ∀ (fn : Fn) (first cap : Array Value) (w : World), (Instr.makeFunc fn first cap).run Tryd.prog w = .ok (.func fn first cap) w := fun _ _ _ _ => rfl
  have hE0w : E < w.heap.size + 1 := by omega
  have hS0w : S < w.heap.size := by omega
  have hS1w : S < w.heap.size + 1 := by omega
  go_enter Tryd.func28, Tryd.ntmps28
  go_wp2_with fail
  go_region
  all_goals have g0 : (w.alloc (.cells #[.int .u8 21, .int .i64 a, .int .i64 b, .int .i64 c, .int .i64 i] 51)).drew.cell? ⟨E, 0, none⟩ = some (.int .u8 21) := by simp [go_sem, *]
  all_goals have g1 : (w.alloc (.cells #[.int .u8 21, .int .i64 a, .int .i64 b, .int .i64 c, .int .i64 i] 51)).drew.cell? ⟨E, 1, none⟩ = some (.int .i64 a) := by simp [go_sem, *]
  all_goals have g2 : (w.alloc (.cells #[.int .u8 21, .int .i64 a, .int .i64 b, .int .i64 c, .int .i64 i] 51)).drew.cell? ⟨E, 2, none⟩ = some (.int .i64 b) := by simp [go_sem, *]
  all_goals have g3 : (w.alloc (.cells #[.int .u8 21, .int .i64 a, .int .i64 b, .int .i64 c, .int .i64 i] 51)).drew.cell? ⟨E, 3, none⟩ = some (.int .i64 c) := by simp [go_sem, *]
  all_goals have g4 : (w.alloc (.cells #[.int .u8 21, .int .i64 a, .int .i64 b, .int .i64 c, .int .i64 i] 51)).drew.cell? ⟨E, 4, none⟩ = some (.int .i64 i) := by simp [go_sem, *]
  all_goals have g5 : (w.alloc (.cells #[.int .u8 21, .int .i64 a, .int .i64 b, .int .i64 c, .int .i64 i] 51)).drew.cell? ⟨E, 5, none⟩ = some (.int .i64 pc) := by simp [go_sem, *]
  all_goals have g6 : (w.alloc (.cells #[.int .u8 21, .int .i64 a, .int .i64 b, .int .i64 c, .int .i64 i] 51)).drew.cell? ⟨E, 6, none⟩ = some (.bool false) := by simp [go_sem, *]
  all_goals have g7 : (w.alloc (.cells #[.int .u8 21, .int .i64 a, .int .i64 b, .int .i64 c, .int .i64 i] 51)).drew.cell? ⟨E, 7, none⟩ = some (.int .i64 (-1)) := by simp [go_sem, *]
  all_goals have g8 : (w.alloc (.cells #[.int .u8 21, .int .i64 a, .int .i64 b, .int .i64 c, .int .i64 i] 51)).drew.cell? ⟨E, 8, none⟩ = some (.int .i32 0) := by simp [go_sem, *]
  all_goals have g9 : (w.alloc (.cells #[.int .u8 21, .int .i64 a, .int .i64 b, .int .i64 c, .int .i64 i] 51)).drew.cell? ⟨E, 9, none⟩ = some (.pointer (some ⟨S, 0, none⟩)) := by simp [go_sem, *]
  all_goals have g10 : (w.alloc (.cells #[.int .u8 21, .int .i64 a, .int .i64 b, .int .i64 c, .int .i64 i] 51)).drew.cell? ⟨E, 10, none⟩ = some (.int .i64 nx) := by simp [go_sem, *]
  all_goals have gf6 : (w.alloc (.cells #[.int .u8 21, .int .i64 a, .int .i64 b, .int .i64 c, .int .i64 i] 51)).drew.frozen? ⟨E, 6, none⟩ = false := by simp [go_sem, *]
  all_goals have gf7 : (w.alloc (.cells #[.int .u8 21, .int .i64 a, .int .i64 b, .int .i64 c, .int .i64 i] 51)).drew.frozen? ⟨E, 7, none⟩ = false := by simp [go_sem, *]
  all_goals have gf8 : (w.alloc (.cells #[.int .u8 21, .int .i64 a, .int .i64 b, .int .i64 c, .int .i64 i] 51)).drew.frozen? ⟨E, 8, none⟩ = false := by simp [go_sem, *]
  all_goals have gf10 : (w.alloc (.cells #[.int .u8 21, .int .i64 a, .int .i64 b, .int .i64 c, .int .i64 i] 51)).drew.frozen? ⟨E, 10, none⟩ = false := by simp [go_sem, *]
  all_goals have gB : (w.alloc (.cells #[.int .u8 21, .int .i64 a, .int .i64 b, .int .i64 c, .int .i64 i] 51)).drew.cell? ⟨S, 1 + b, none⟩ = some (.int .i32 vb) := by simp [go_sem, *]
  all_goals have gM : (w.alloc (.cells #[.int .u8 21, .int .i64 a, .int .i64 b, .int .i64 c, .int .i64 i] 51)).drew.cell? ⟨m, off + k, none⟩ = some (.int .i32 old) := by rw [World.cell?_drew, World.cell?_alloc_past _ _ _ (by first | omega | (show m < w.heap.size; omega))]; exact hM
  all_goals have HK := Lib.hid hk
  all_goals clear hk
  all_goals go_wp2_with fail
  all_goals refine (access_store21 E S m off len cap a b c k i pc nx vb va old _ g0 g1 g2 g3 g4 g5 g6 g7 g8 g9 g10 gf6 gf7 gf8 gf10 hS (by simp; omega) hm ha hb ⟨hvb, hvb1⟩ ⟨hi, hi1⟩ HK.out hkl gB).mono ?_
  all_goals rintro e w' ⟨S1, S2, S3, S4, rfl, h1, h2, h3, h4, hbl⟩
  all_goals have hbl2 : Below w.heap.size (w.setCell ⟨E, 7, none⟩ (.int .i64 k)) w' := by (refine Below.trans ?_ (hbl.mono (by simp)); repeat (first | (with_reducible apply bBoth) | (with_reducible exact Below.refl _ _) | (with_reducible apply bDrewN) | (with_reducible apply Below.drew) | ((with_reducible apply bSet); (focus first | (simp; done) | (simp; omega) | omega)) | ((with_reducible apply bAlloc); (focus first | (simp; done) | (simp; omega) | omega))))
  all_goals clear hbl g0 g1 g2 g3 g4 g5 g6 g7 g8 g9 g10 gf6 gf7 gf8 gf10 gB gM
  all_goals go_wp2_with fail
  all_goals go_ret2
  all_goals refine prep_store (old := old) hS0w (by omega) ha hkl rfl hbl2 h1 h2 h3 h4 ?_ ?_ ?_
  all_goals first | (simp [go_sem, *]; done) | (rw [World.cell?_setCell_other _ _ _ _ (by intro e; injection e with e1 e2; omega)]; exact hM) | (rw [World.frozen?_setCell]; exact hMf)

set_option maxRecDepth 100000 in
set_option maxHeartbeats 1600000 in
theorem prep_sts_neg (E S a b c len cap : Nat) (i pc nx locks va vb vc : Int) (mv pv : Value) (w : World) (p : Option Addr) (hE0 : w.cell? ⟨E, 0, none⟩ = some (.int .u8 21)) (hE1 : w.cell? ⟨E, 1, none⟩ = some (.int .i64 a)) (hE2 : w.cell? ⟨E, 2, none⟩ = some (.int .i64 b)) (hE3 : w.cell? ⟨E, 3, none⟩ = some (.int .i64 c)) (hE4 : w.cell? ⟨E, 4, none⟩ = some (.int .i64 i)) (hE5 : w.cell? ⟨E, 5, none⟩ = some (.int .i64 pc)) (hE6 : w.cell? ⟨E, 6, none⟩ = some (.bool false)) (hE7 : w.cell? ⟨E, 7, none⟩ = some (.int .i64 (-1))) (hE8 : w.cell? ⟨E, 8, none⟩ = some (.int .i32 0)) (hE9 : w.cell? ⟨E, 9, none⟩ = some (.pointer (some ⟨S, 0, none⟩))) (hE10 : w.cell? ⟨E, 10, none⟩ = some (.int .i64 nx)) (hF6 : w.frozen? ⟨E, 6, none⟩ = false) (hF7 : w.frozen? ⟨E, 7, none⟩ = false) (hF8 : w.frozen? ⟨E, 8, none⟩ = false) (hF10 : w.frozen? ⟨E, 10, none⟩ = false)
    (hS : S < E) (hEw : E < w.heap.size) (hb : b < 16) (hrB : w.cell? ⟨S, 1 + b, none⟩ = some (.int .i32 vb)) (hvb : -2147483648 ≤ vb) (hvb1 : vb ≤ 2147483647) (hi : -131072 ≤ i) (hi1 : i ≤ 131071) (hk : vb + i < 0)  :
    Calls Tryd.prog 28 #[.pointer (some ⟨E, 0, none⟩), .int .i64 locks, .slice p len cap, pv] w (fun e w' => e = .returned (.tuple #[.nilFunc, .int .i64 10]) ∧ Below w.heap.size w w') := by
  have hmf : ∀ (fn : Fn) (first cap : Array Value) (w : World), (Instr.makeFunc fn first cap).run Tryd.prog w = .ok (.func fn first cap) w := fun _ _ _ _ => rfl
  have hE0w : E < w.heap.size + 1 := by omega
  have hS0w : S < w.heap.size := by omega
  have hS1w : S < w.heap.size + 1 := by omega
  go_enter Tryd.func28, Tryd.ntmps28
  go_wp2_with fail
  go_region
  all_goals have g0 : (w.alloc (.cells #[.int .u8 21, .int .i64 a, .int .i64 b, .int .i64 c, .int .i64 i] 51)).drew.cell? ⟨E, 0, none⟩ = some (.int .u8 21) := by simp [go_sem, *]
  all_goals have g1 : (w.alloc (.cells #[.int .u8 21, .int .i64 a, .int .i64 b, .int .i64 c, .int .i64 i] 51)).drew.cell? ⟨E, 1, none⟩ = some (.int .i64 a) := by simp [go_sem, *]
  all_goals have g2 : (w.alloc (.cells #[.int .u8 21, .int .i64 a, .int .i64 b, .int .i64 c, .int .i64 i] 51)).drew.cell? ⟨E, 2, none⟩ = some (.int .i64 b) := by simp [go_sem, *]
  all_goals have g3 : (w.alloc (.cells #[.int .u8 21, .int .i64 a, .int .i64 b, .int .i64 c, .int .i64 i] 51)).drew.cell? ⟨E, 3, none⟩ = some (.int .i64 c) := by simp [go_sem, *]
  all_goals have g4 : (w.alloc (.cells #[.int .u8 21, .int .i64 a, .int .i64 b, .int .i64 c, .int .i64 i] 51)).drew.cell? ⟨E, 4, none⟩ = some (.int .i64 i) := by simp [go_sem, *]
  all_goals have g5 : (w.alloc (.cells #[.int .u8 21, .int .i64 a, .int .i64 b, .int .i64 c, .int .i64 i] 51)).drew.cell? ⟨E, 5, none⟩ = some (.int .i64 pc) := by simp [go_sem, *]
  all_goals have g6 : (w.alloc (.cells #[.int .u8 21, .int .i64 a, .int .i64 b, .int .i64 c, .int .i64 i] 51)).drew.cell? ⟨E, 6, none⟩ = some (.bool false) := by simp [go_sem, *]
  all_goals have g7 : (w.alloc (.cells #[.int .u8 21, .int .i64 a, .int .i64 b, .int .i64 c, .int .i64 i] 51)).drew.cell? ⟨E, 7, none⟩ = some (.int .i64 (-1)) := by simp [go_sem, *]
  all_goals have g8 : (w.alloc (.cells #[.int .u8 21, .int .i64 a, .int .i64 b, .int .i64 c, .int .i64 i] 51)).drew.cell? ⟨E, 8, none⟩ = some (.int .i32 0) := by simp [go_sem, *]
  all_goals have g9 : (w.alloc (.cells #[.int .u8 21, .int .i64 a, .int .i64 b, .int .i64 c, .int .i64 i] 51)).drew.cell? ⟨E, 9, none⟩ = some (.pointer (some ⟨S, 0, none⟩)) := by simp [go_sem, *]
  all_goals have g10 : (w.alloc (.cells #[.int .u8 21, .int .i64 a, .int .i64 b, .int .i64 c, .int .i64 i] 51)).drew.cell? ⟨E, 10, none⟩ = some (.int .i64 nx) := by simp [go_sem, *]
  all_goals have gf6 : (w.alloc (.cells #[.int .u8 21, .int .i64 a, .int .i64 b, .int .i64 c, .int .i64 i] 51)).drew.frozen? ⟨E, 6, none⟩ = false := by simp [go_sem, *]
  all_goals have gf7 : (w.alloc (.cells #[.int .u8 21, .int .i64 a, .int .i64 b, .int .i64 c, .int .i64 i] 51)).drew.frozen? ⟨E, 7, none⟩ = false := by simp [go_sem, *]
  all_goals have gf8 : (w.alloc (.cells #[.int .u8 21, .int .i64 a, .int .i64 b, .int .i64 c, .int .i64 i] 51)).drew.frozen? ⟨E, 8, none⟩ = false := by simp [go_sem, *]
  all_goals have gf10 : (w.alloc (.cells #[.int .u8 21, .int .i64 a, .int .i64 b, .int .i64 c, .int .i64 i] 51)).drew.frozen? ⟨E, 10, none⟩ = false := by simp [go_sem, *]
  all_goals have gB : (w.alloc (.cells #[.int .u8 21, .int .i64 a, .int .i64 b, .int .i64 c, .int .i64 i] 51)).drew.cell? ⟨S, 1 + b, none⟩ = some (.int .i32 vb) := by simp [go_sem, *]
  all_goals go_wp2_with fail
  all_goals refine (access_neg E S len cap 21 a b c p i pc nx vb _ g0 g1 g2 g3 g4 g5 g6 g7 g8 g9 g10 gf6 gf7 gf8 gf10 hS (by simp; omega) hb ⟨hvb, hvb1⟩ ⟨hi, hi1⟩ hk gB).mono ?_
  all_goals rintro e w' ⟨rfl, hbl⟩
  all_goals have hbl2 : Below w.heap.size w w' := by (refine Below.trans ?_ (hbl.mono (by simp)); repeat (first | (with_reducible apply bBoth) | (with_reducible exact Below.refl _ _) | (with_reducible apply bDrewN) | (with_reducible apply Below.drew) | ((with_reducible apply bSet); (focus first | (simp; done) | (simp; omega) | omega)) | ((with_reducible apply bAlloc); (focus first | (simp; done) | (simp; omega) | omega))))
  all_goals clear hbl g0 g1 g2 g3 g4 g5 g6 g7 g8 g9 g10 gf6 gf7 gf8 gf10 gB
  all_goals go_wp2_with fail
  all_goals go_ret2
  all_goals exact ⟨rfl, hbl2⟩

set_option maxRecDepth 100000 in
set_option maxHeartbeats 1600000 in
theorem prep_sts_over (E S a b c len cap : Nat) (i pc nx locks va vb vc : Int) (mv pv : Value) (w : World) (p : Option Addr) (hE0 : w.cell? ⟨E, 0, none⟩ = some (.int .u8 21)) (hE1 : w.cell? ⟨E, 1, none⟩ = some (.int .i64 a)) (hE2 : w.cell? ⟨E, 2, none⟩ = some (.int .i64 b)) (hE3 : w.cell? ⟨E, 3, none⟩ = some (.int .i64 c)) (hE4 : w.cell? ⟨E, 4, none⟩ = some (.int .i64 i)) (hE5 : w.cell? ⟨E, 5, none⟩ = some (.int .i64 pc)) (hE6 : w.cell? ⟨E, 6, none⟩ = some (.bool false)) (hE7 : w.cell? ⟨E, 7, none⟩ = some (.int .i64 (-1))) (hE8 : w.cell? ⟨E, 8, none⟩ = some (.int .i32 0)) (hE9 : w.cell? ⟨E, 9, none⟩ = some (.pointer (some ⟨S, 0, none⟩))) (hE10 : w.cell? ⟨E, 10, none⟩ = some (.int .i64 nx)) (hF6 : w.frozen? ⟨E, 6, none⟩ = false) (hF7 : w.frozen? ⟨E, 7, none⟩ = false) (hF8 : w.frozen? ⟨E, 8, none⟩ = false) (hF10 : w.frozen? ⟨E, 10, none⟩ = false)
    (hS : S < E) (hEw : E < w.heap.size) (hb : b < 16) (hrB : w.cell? ⟨S, 1 + b, none⟩ = some (.int .i32 vb)) (hvb : -2147483648 ≤ vb) (hvb1 : vb ≤ 2147483647) (hi : -131072 ≤ i) (hi1 : i ≤ 131071) (hk0 : 0 ≤ vb + i) (hk : (len : Int) ≤ vb + i)  :
    Calls Tryd.prog 28 #[.pointer (some ⟨E, 0, none⟩), .int .i64 locks, .slice p len cap, pv] w (fun e w' => e = .returned (.tuple #[.nilFunc, .int .i64 10]) ∧ Below w.heap.size w w') := by
  have hmf : ∀ (fn : Fn) (first cap : Array Value) (w : World), (Instr.makeFunc fn first cap).run Tryd.prog w = .ok (.func fn first cap) w := fun _ _ _ _ => rfl
  have hE0w : E < w.heap.size + 1 := by omega
  have hS0w : S < w.heap.size := by omega
  have hS1w : S < w.heap.size + 1 := by omega
  go_enter Tryd.func28, Tryd.ntmps28
  go_wp2_with fail
  go_region
  all_goals have g0 : (w.alloc (.cells #[.int .u8 21, .int .i64 a, .int .i64 b, .int .i64 c, .int .i64 i] 51)).drew.cell? ⟨E, 0, none⟩ = some (.int .u8 21) := by simp [go_sem, *]
  all_goals have g1 : (w.alloc (.cells #[.int .u8 21, .int .i64 a, .int .i64 b, .int .i64 c, .int .i64 i] 51)).drew.cell? ⟨E, 1, none⟩ = some (.int .i64 a) := by simp [go_sem, *]
  all_goals have g2 : (w.alloc (.cells #[.int .u8 21, .int .i64 a, .int .i64 b, .int .i64 c, .int .i64 i] 51)).drew.cell? ⟨E, 2, none⟩ = some (.int .i64 b) := by simp [go_sem, *]
  all_goals have g3 : (w.alloc (.cells #[.int .u8 21, .int .i64 a, .int .i64 b, .int .i64 c, .int .i64 i] 51)).drew.cell? ⟨E, 3, none⟩ = some (.int .i64 c) := by simp [go_sem, *]
  all_goals have g4 : (w.alloc (.cells #[.int .u8 21, .int .i64 a, .int .i64 b, .int .i64 c, .int .i64 i] 51)).drew.cell? ⟨E, 4, none⟩ = some (.int .i64 i) := by simp [go_sem, *]
  all_goals have g5 : (w.alloc (.cells #[.int .u8 21, .int .i64 a, .int .i64 b, .int .i64 c, .int .i64 i] 51)).drew.cell? ⟨E, 5, none⟩ = some (.int .i64 pc) := by simp [go_sem, *]
  all_goals have g6 : (w.alloc (.cells #[.int .u8 21, .int .i64 a, .int .i64 b, .int .i64 c, .int .i64 i] 51)).drew.cell? ⟨E, 6, none⟩ = some (.bool false) := by simp [go_sem, *]
  all_goals have g7 : (w.alloc (.cells #[.int .u8 21, .int .i64 a, .int .i64 b, .int .i64 c, .int .i64 i] 51)).drew.cell? ⟨E, 7, none⟩ = some (.int .i64 (-1)) := by simp [go_sem, *]
  all_goals have g8 : (w.alloc (.cells #[.int .u8 21, .int .i64 a, .int .i64 b, .int .i64 c, .int .i64 i] 51)).drew.cell? ⟨E, 8, none⟩ = some (.int .i32 0) := by simp [go_sem, *]
  all_goals have g9 : (w.alloc (.cells #[.int .u8 21, .int .i64 a, .int .i64 b, .int .i64 c, .int .i64 i] 51)).drew.cell? ⟨E, 9, none⟩ = some (.pointer (some ⟨S, 0, none⟩)) := by simp [go_sem, *]
  all_goals have g10 : (w.alloc (.cells #[.int .u8 21, .int .i64 a, .int .i64 b, .int .i64 c, .int .i64 i] 51)).drew.cell? ⟨E, 10, none⟩ = some (.int .i64 nx) := by simp [go_sem, *]
  all_goals have gf6 : (w.alloc (.cells #[.int .u8 21, .int .i64 a, .int .i64 b, .int .i64 c, .int .i64 i] 51)).drew.frozen? ⟨E, 6, none⟩ = false := by simp [go_sem, *]
  all_goals have gf7 : (w.alloc (.cells #[.int .u8 21, .int .i64 a, .int .i64 b, .int .i64 c, .int .i64 i] 51)).drew.frozen? ⟨E, 7, none⟩ = false := by simp [go_sem, *]
  all_goals have gf8 : (w.alloc (.cells #[.int .u8 21, .int .i64 a, .int .i64 b, .int .i64 c, .int .i64 i] 51)).drew.frozen? ⟨E, 8, none⟩ = false := by simp [go_sem, *]
  all_goals have gf10 : (w.alloc (.cells #[.int .u8 21, .int .i64 a, .int .i64 b, .int .i64 c, .int .i64 i] 51)).drew.frozen? ⟨E, 10, none⟩ = false := by simp [go_sem, *]
  all_goals have gB : (w.alloc (.cells #[.int .u8 21, .int .i64 a, .int .i64 b, .int .i64 c, .int .i64 i] 51)).drew.cell? ⟨S, 1 + b, none⟩ = some (.int .i32 vb) := by simp [go_sem, *]
  all_goals go_wp2_with fail
  all_goals refine (access_over E S len cap 21 a b c p i pc nx vb _ g0 g1 g2 g3 g4 g5 g6 g7 g8 g9 g10 gf6 gf7 gf8 gf10 hS (by simp; omega) hb ⟨hvb, hvb1⟩ ⟨hi, hi1⟩ hk0 hk gB).mono ?_
  all_goals rintro e w' ⟨rfl, hbl⟩
  all_goals have hbl2 : Below w.heap.size w w' := by (refine Below.trans ?_ (hbl.mono (by simp)); repeat (first | (with_reducible apply bBoth) | (with_reducible exact Below.refl _ _) | (with_reducible apply bDrewN) | (with_reducible apply Below.drew) | ((with_reducible apply bSet); (focus first | (simp; done) | (simp; omega) | omega)) | ((with_reducible apply bAlloc); (focus first | (simp; done) | (simp; omega) | omega))))
  all_goals clear hbl g0 g1 g2 g3 g4 g5 g6 g7 g8 g9 g10 gf6 gf7 gf8 gf10 gB
  all_goals go_wp2_with fail
  all_goals go_ret2
  all_goals exact ⟨rfl, hbl2⟩

end Go.Proofs.YtpachmkklppmjaaDoor
