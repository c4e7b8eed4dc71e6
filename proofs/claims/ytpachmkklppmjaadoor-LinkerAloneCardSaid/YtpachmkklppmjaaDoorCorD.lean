/- core: word.Apply at the opcodes' operators, core.Fits. -/
import Derived.Test.YtpachmkklppmjaaDoorBase
import Derived.Test.YtpachmkklppmjaaDoorLaid
import Derived.Test.YtpachmkklppmjaaDoorRows
set_option linter.unusedVariables false
namespace Go.Proofs.YtpachmkklppmjaaDoor
open Go.RowKit

/-- The operator of an opcode from 2 to 13. -/
def ariOp (n : Nat) : Nat := if n = 13 then 18 else n + 4
/-- What an operation gives, its divisor not 0. -/
def ariV0 (n : Nat) (x y : Int) : Int :=
  if n = 2 then wrap32 (x + y) else if n = 3 then wrap32 (x - y) else if n = 4 then wrap32 (x * y) else if n = 5 then wrap32 (x.tdiv y) else if n = 6 then x.tmod y else
  if n = 7 then bits .and .i32 x y else if n = 8 then bits .or .i32 x y else if n = 9 then bits .xor .i32 x y else if n = 10 then wrap32 (x * 2 ^ (y % 32).toNat) else
  if n = 11 then x / 2 ^ (y % 32).toNat else if n = 12 then (if x = y then 1 else 0) else (if x < y then 1 else 0)
/-- The error number: division by 0. -/
def ariE (n : Nat) (y : Int) : Int := if (n = 5 ∨ n = 6) ∧ y = 0 then 9 else 0
def ariV (n : Nat) (x y : Int) : Int := if (n = 5 ∨ n = 6) ∧ y = 0 then 0 else ariV0 n x y

theorem ret_i32_err {x y p q : Int} (h : x = y) (h2 : p = q) : Ending.returned (.tuple #[.int .i32 x, .int .i64 p]) = .returned (.tuple #[.int .i32 y, .int .i64 q]) := by rw [h, h2]

theorem apply2 (x y : Int) (w : World) (hx0 : -2147483648 ≤ x) (hx1 : x ≤ 2147483647) (hy0 : -2147483648 ≤ y) (hy1 : y ≤ 2147483647) : Calls Tryd.prog 39 #[.int .u8 6, .int .i32 x, .int .i32 y] w fun e w' => e = .returned (.tuple #[.int .i32 (ariV 2 x y), .int .i64 (ariE 2 y)]) ∧ w = w' := by
  go_enter Tryd.func39, Tryd.ntmps39
  go_wp2
  go_ret2
  refine ⟨ret_i32_err ?_ ?_, rfl⟩
  all_goals simp_all [ariV, ariV0, ariE, go_sem]

theorem apply3 (x y : Int) (w : World) (hx0 : -2147483648 ≤ x) (hx1 : x ≤ 2147483647) (hy0 : -2147483648 ≤ y) (hy1 : y ≤ 2147483647) : Calls Tryd.prog 39 #[.int .u8 7, .int .i32 x, .int .i32 y] w fun e w' => e = .returned (.tuple #[.int .i32 (ariV 3 x y), .int .i64 (ariE 3 y)]) ∧ w = w' := by
  go_enter Tryd.func39, Tryd.ntmps39
  go_wp2
  go_ret2
  refine ⟨ret_i32_err ?_ ?_, rfl⟩
  all_goals simp_all [ariV, ariV0, ariE, go_sem]

theorem apply4 (x y : Int) (w : World) (hx0 : -2147483648 ≤ x) (hx1 : x ≤ 2147483647) (hy0 : -2147483648 ≤ y) (hy1 : y ≤ 2147483647) : Calls Tryd.prog 39 #[.int .u8 8, .int .i32 x, .int .i32 y] w fun e w' => e = .returned (.tuple #[.int .i32 (ariV 4 x y), .int .i64 (ariE 4 y)]) ∧ w = w' := by
  go_enter Tryd.func39, Tryd.ntmps39
  go_wp2
  go_ret2
  refine ⟨ret_i32_err ?_ ?_, rfl⟩
  all_goals simp_all [ariV, ariV0, ariE, go_sem]

theorem apply5 (x y : Int) (w : World) (hx0 : -2147483648 ≤ x) (hx1 : x ≤ 2147483647) (hy0 : -2147483648 ≤ y) (hy1 : y ≤ 2147483647) (hz : (y == 0) = false) (hz' : y ≠ 0) : Calls Tryd.prog 39 #[.int .u8 9, .int .i32 x, .int .i32 y] w fun e w' => e = .returned (.tuple #[.int .i32 (ariV 5 x y), .int .i64 (ariE 5 y)]) ∧ w = w' := by
  go_enter Tryd.func39, Tryd.ntmps39
  go_wp2
  go_ret2
  refine ⟨ret_i32_err ?_ ?_, rfl⟩
  all_goals simp_all [ariV, ariV0, ariE, go_sem]

theorem apply5z (x : Int) (w : World) : Calls Tryd.prog 39 #[.int .u8 9, .int .i32 x, .int .i32 0] w fun e w' => e = .returned (.tuple #[.int .i32 (ariV 5 x 0), .int .i64 (ariE 5 0)]) ∧ w = w' := by
  go_enter Tryd.func39, Tryd.ntmps39
  go_wp2
  go_ret2
  exact ⟨rfl, rfl⟩

theorem apply6 (x y : Int) (w : World) (hx0 : -2147483648 ≤ x) (hx1 : x ≤ 2147483647) (hy0 : -2147483648 ≤ y) (hy1 : y ≤ 2147483647) (hz : (y == 0) = false) (hz' : y ≠ 0) : Calls Tryd.prog 39 #[.int .u8 10, .int .i32 x, .int .i32 y] w fun e w' => e = .returned (.tuple #[.int .i32 (ariV 6 x y), .int .i64 (ariE 6 y)]) ∧ w = w' := by
  go_enter Tryd.func39, Tryd.ntmps39
  go_wp2
  go_ret2
  refine ⟨ret_i32_err ?_ ?_, rfl⟩
  all_goals simp_all [ariV, ariV0, ariE, go_sem]

theorem apply6z (x : Int) (w : World) : Calls Tryd.prog 39 #[.int .u8 10, .int .i32 x, .int .i32 0] w fun e w' => e = .returned (.tuple #[.int .i32 (ariV 6 x 0), .int .i64 (ariE 6 0)]) ∧ w = w' := by
  go_enter Tryd.func39, Tryd.ntmps39
  go_wp2
  go_ret2
  exact ⟨rfl, rfl⟩

theorem apply7 (x y : Int) (w : World) (hx0 : -2147483648 ≤ x) (hx1 : x ≤ 2147483647) (hy0 : -2147483648 ≤ y) (hy1 : y ≤ 2147483647) : Calls Tryd.prog 39 #[.int .u8 11, .int .i32 x, .int .i32 y] w fun e w' => e = .returned (.tuple #[.int .i32 (ariV 7 x y), .int .i64 (ariE 7 y)]) ∧ w = w' := by
  go_enter Tryd.func39, Tryd.ntmps39
  go_wp2
  go_ret2
  refine ⟨ret_i32_err ?_ ?_, rfl⟩
  all_goals simp_all [ariV, ariV0, ariE, go_sem]

theorem apply8 (x y : Int) (w : World) (hx0 : -2147483648 ≤ x) (hx1 : x ≤ 2147483647) (hy0 : -2147483648 ≤ y) (hy1 : y ≤ 2147483647) : Calls Tryd.prog 39 #[.int .u8 12, .int .i32 x, .int .i32 y] w fun e w' => e = .returned (.tuple #[.int .i32 (ariV 8 x y), .int .i64 (ariE 8 y)]) ∧ w = w' := by
  go_enter Tryd.func39, Tryd.ntmps39
  go_wp2
  go_ret2
  refine ⟨ret_i32_err ?_ ?_, rfl⟩
  all_goals simp_all [ariV, ariV0, ariE, go_sem]

theorem apply9 (x y : Int) (w : World) (hx0 : -2147483648 ≤ x) (hx1 : x ≤ 2147483647) (hy0 : -2147483648 ≤ y) (hy1 : y ≤ 2147483647) : Calls Tryd.prog 39 #[.int .u8 13, .int .i32 x, .int .i32 y] w fun e w' => e = .returned (.tuple #[.int .i32 (ariV 9 x y), .int .i64 (ariE 9 y)]) ∧ w = w' := by
  go_enter Tryd.func39, Tryd.ntmps39
  go_wp2
  go_ret2
  refine ⟨ret_i32_err ?_ ?_, rfl⟩
  all_goals simp_all [ariV, ariV0, ariE, go_sem]

theorem apply10 (x y : Int) (w : World) (hx0 : -2147483648 ≤ x) (hx1 : x ≤ 2147483647) (hy0 : -2147483648 ≤ y) (hy1 : y ≤ 2147483647) : Calls Tryd.prog 39 #[.int .u8 14, .int .i32 x, .int .i32 y] w fun e w' => e = .returned (.tuple #[.int .i32 (ariV 10 x y), .int .i64 (ariE 10 y)]) ∧ w = w' := by
  go_enter Tryd.func39, Tryd.ntmps39
  go_wp2
  go_ret2
  refine ⟨ret_i32_err ?_ ?_, rfl⟩
  all_goals simp_all [ariV, ariV0, ariE, go_sem]

theorem apply11 (x y : Int) (w : World) (hx0 : -2147483648 ≤ x) (hx1 : x ≤ 2147483647) (hy0 : -2147483648 ≤ y) (hy1 : y ≤ 2147483647) : Calls Tryd.prog 39 #[.int .u8 15, .int .i32 x, .int .i32 y] w fun e w' => e = .returned (.tuple #[.int .i32 (ariV 11 x y), .int .i64 (ariE 11 y)]) ∧ w = w' := by
  go_enter Tryd.func39, Tryd.ntmps39
  go_wp2
  go_ret2
  refine ⟨ret_i32_err ?_ ?_, rfl⟩
  all_goals simp_all [ariV, ariV0, ariE, go_sem]

theorem apply12 (x y : Int) (w : World) (hx0 : -2147483648 ≤ x) (hx1 : x ≤ 2147483647) (hy0 : -2147483648 ≤ y) (hy1 : y ≤ 2147483647) : Calls Tryd.prog 39 #[.int .u8 16, .int .i32 x, .int .i32 y] w fun e w' => e = .returned (.tuple #[.int .i32 (ariV 12 x y), .int .i64 (ariE 12 y)]) ∧ w = w' := by
  go_enter Tryd.func39, Tryd.ntmps39
  go_wp2_with go_in
  all_goals go_ret2
  all_goals refine ⟨ret_i32_err ?_ ?_, rfl⟩
  all_goals simp_all [ariV, ariV0, ariE, go_sem]

theorem apply13 (x y : Int) (w : World) (hx0 : -2147483648 ≤ x) (hx1 : x ≤ 2147483647) (hy0 : -2147483648 ≤ y) (hy1 : y ≤ 2147483647) : Calls Tryd.prog 39 #[.int .u8 18, .int .i32 x, .int .i32 y] w fun e w' => e = .returned (.tuple #[.int .i32 (ariV 13 x y), .int .i64 (ariE 13 y)]) ∧ w = w' := by
  go_enter Tryd.func39, Tryd.ntmps39
  go_wp2_with go_in
  all_goals go_ret2
  all_goals refine ⟨ret_i32_err ?_ ?_, rfl⟩
  all_goals simp_all [ariV, ariV0, ariE, go_sem]

theorem apply_any (n : Nat) (x y : Int) (w : World) (hn : 2 ≤ n) (hn' : n < 14) (hx0 : -2147483648 ≤ x) (hx1 : x ≤ 2147483647) (hy0 : -2147483648 ≤ y) (hy1 : y ≤ 2147483647) :
    Calls Tryd.prog 39 #[.int .u8 (ariOp n), .int .i32 x, .int .i32 y] w fun e w' => e = .returned (.tuple #[.int .i32 (ariV n x y), .int .i64 (ariE n y)]) ∧ w = w' := by
  match n, hn, hn' with
  | 2, _, _ => exact apply2 x y w hx0 hx1 hy0 hy1
  | 3, _, _ => exact apply3 x y w hx0 hx1 hy0 hy1
  | 4, _, _ => exact apply4 x y w hx0 hx1 hy0 hy1
  | 5, _, _ =>
    by_cases hz : y = 0
    · subst hz; exact apply5z x w
    · exact apply5 x y w hx0 hx1 hy0 hy1 (by simpa using hz) hz
  | 6, _, _ =>
    by_cases hz : y = 0
    · subst hz; exact apply6z x w
    · exact apply6 x y w hx0 hx1 hy0 hy1 (by simpa using hz) hz
  | 7, _, _ => exact apply7 x y w hx0 hx1 hy0 hy1
  | 8, _, _ => exact apply8 x y w hx0 hx1 hy0 hy1
  | 9, _, _ => exact apply9 x y w hx0 hx1 hy0 hy1
  | 10, _, _ => exact apply10 x y w hx0 hx1 hy0 hy1
  | 11, _, _ => exact apply11 x y w hx0 hx1 hy0 hy1
  | 12, _, _ => exact apply12 x y w hx0 hx1 hy0 hy1
  | 13, _, _ => exact apply13 x y w hx0 hx1 hy0 hy1

/-- The table of operators lies in the world. -/
def OTab (w : World) : Prop := 1 < w.heap.size ∧ ∀ i, i < 30 → w.cell? ⟨1, i, none⟩ = (flatD 2 (Rows.laid_ontime_core_operators (H := Unit)))[i]?
theorem OTab.below {B : Nat} {w w' : World} (h : OTab w) (hb : Below B w w') (hB : 1 < B) : OTab w' :=
  ⟨Nat.lt_of_lt_of_le h.1 hb.size, fun i hi => by rw [hb.cell (p := ⟨1, i, none⟩) hB]; exact h.2 i hi⟩
theorem OTab.of_below {w w' : World} (h : OTab w) (hb : Below w.heap.size w w') : OTab w' := h.below hb h.1
theorem OTab.at {w : World} (h : OTab w) (n : Nat) (hn : 2 ≤ n) (hn' : n < 14) : w.cell? ⟨1, n, none⟩ = some (.int .u8 (ariOp n)) := by
  rw [h.2 n (by omega)]
  match n, hn, hn' with
  | 2, _, _ => rfl
  | 3, _, _ => rfl
  | 4, _, _ => rfl
  | 5, _, _ => rfl
  | 6, _, _ => rfl
  | 7, _, _ => rfl
  | 8, _, _ => rfl
  | 9, _, _ => rfl
  | 10, _, _ => rfl
  | 11, _, _ => rfl
  | 12, _, _ => rfl
  | 13, _, _ => rfl

/-- Whether a state fits. -/
def fitB (t nE dat dl r0 held lk : Int) : Bool := decide (0 ≤ t) && (decide (t < nE) && (decide (dl = dat) && (decide (r0 = 0) && (decide (-1 ≤ held) && (decide (held < 0) || decide (held < lk))))))

set_option maxRecDepth 100000 in
set_option maxHeartbeats 1600000 in
theorem fits_neg (cv : Value) (ep dp : Option Addr) (S nE ecap dl dcap : Nat) (sh lk dat r0 held t : Int) (w : World) (hS : S < w.heap.size) (hD : w.cell? ⟨S, 17, none⟩ = some (.slice dp dl dcap)) (hR : w.cell? ⟨S, 1, none⟩ = some (.int .i32 r0)) (hH : w.cell? ⟨S, 19, none⟩ = some (.int .i64 held)) (h : t < 0) (h' : decide (0 ≤ t) = false) :
    Calls Tryd.prog 22 #[.agg #[cv, .slice ep nE ecap, .int .i64 sh, .int .i64 lk], .int .i64 t, .pointer (some ⟨S, 0, none⟩)] w fun e w' => e = .returned (.bool false) ∧ Below w.heap.size w w' := by
  go_enter Tryd.func22, Tryd.ntmps22
  go_wp2_with fail
  go_quiet (fail)
  go_wp2_with fail
  go_ret
  refine ⟨rfl, ?_⟩
  repeat (first | (with_reducible exact Below.refl _ _) | (with_reducible apply bDrewN) | (with_reducible apply Below.drew) | ((with_reducible apply bSet); (focus first | (simp; done) | (simp; omega) | omega)) | ((with_reducible apply bAlloc); (focus first | (simp; done) | (simp; omega) | omega)))

set_option maxRecDepth 100000 in
set_option maxHeartbeats 1600000 in
theorem fits_over (cv : Value) (ep dp : Option Addr) (S nE ecap dl dcap : Nat) (sh lk dat r0 held t : Int) (w : World) (hS : S < w.heap.size) (hD : w.cell? ⟨S, 17, none⟩ = some (.slice dp dl dcap)) (hR : w.cell? ⟨S, 1, none⟩ = some (.int .i32 r0)) (hH : w.cell? ⟨S, 19, none⟩ = some (.int .i64 held)) (h0 : 0 ≤ t) (h : (nE : Int) ≤ t) (h' : decide (t < (nE : Int)) = false) :
    Calls Tryd.prog 22 #[.agg #[cv, .slice ep nE ecap, .int .i64 sh, .int .i64 lk], .int .i64 t, .pointer (some ⟨S, 0, none⟩)] w fun e w' => e = .returned (.bool false) ∧ Below w.heap.size w w' := by
  go_enter Tryd.func22, Tryd.ntmps22
  go_wp2_with fail
  go_quiet (fail)
  go_wp2_with fail
  go_ret
  refine ⟨rfl, ?_⟩
  repeat (first | (with_reducible exact Below.refl _ _) | (with_reducible apply bDrewN) | (with_reducible apply Below.drew) | ((with_reducible apply bSet); (focus first | (simp; done) | (simp; omega) | omega)) | ((with_reducible apply bAlloc); (focus first | (simp; done) | (simp; omega) | omega)))

set_option maxRecDepth 100000 in
set_option maxHeartbeats 1600000 in
theorem fits_len (cv : Value) (ep dp : Option Addr) (S nE ecap dl dcap eb eo t : Nat) (sh lk dat r0 held : Int) (w : World) (heb : eb < w.heap.size) (het : w.cell? ⟨eb, eo + t * 4 + 3, none⟩ = some (.int .i64 dat)) (hS : S < w.heap.size) (hD : w.cell? ⟨S, 17, none⟩ = some (.slice dp dl dcap)) (hR : w.cell? ⟨S, 1, none⟩ = some (.int .i32 r0)) (hH : w.cell? ⟨S, 19, none⟩ = some (.int .i64 held)) (ht : t < nE) (htI : (t : Int) < nE) (htd : decide (t < nE) = true) (h : ((dl : Int) == dat) = false) :
    Calls Tryd.prog 22 #[.agg #[cv, (.slice (some ⟨eb, eo, none⟩) nE ecap), .int .i64 sh, .int .i64 lk], (.int .i64 (t : Nat)), .pointer (some ⟨S, 0, none⟩)] w fun e w' => e = .returned (.bool false) ∧ Below w.heap.size w w' := by
  go_enter Tryd.func22, Tryd.ntmps22
  go_wp2_with fail
  go_quiet (fail)
  go_wp2_with fail
  go_ret
  refine ⟨rfl, ?_⟩
  repeat (first | (with_reducible exact Below.refl _ _) | (with_reducible apply bDrewN) | (with_reducible apply Below.drew) | ((with_reducible apply bSet); (focus first | (simp; done) | (simp; omega) | omega)) | ((with_reducible apply bAlloc); (focus first | (simp; done) | (simp; omega) | omega)))

set_option maxRecDepth 100000 in
set_option maxHeartbeats 1600000 in
theorem fits_r0 (cv : Value) (ep dp : Option Addr) (S nE ecap dl dcap eb eo t : Nat) (sh lk dat r0 held : Int) (w : World) (heb : eb < w.heap.size) (het : w.cell? ⟨eb, eo + t * 4 + 3, none⟩ = some (.int .i64 dl)) (hS : S < w.heap.size) (hD : w.cell? ⟨S, 17, none⟩ = some (.slice dp dl dcap)) (hR : w.cell? ⟨S, 1, none⟩ = some (.int .i32 r0)) (hH : w.cell? ⟨S, 19, none⟩ = some (.int .i64 held)) (ht : t < nE) (htI : (t : Int) < nE) (htd : decide (t < nE) = true) (h : (r0 == 0) = false) :
    Calls Tryd.prog 22 #[.agg #[cv, (.slice (some ⟨eb, eo, none⟩) nE ecap), .int .i64 sh, .int .i64 lk], (.int .i64 (t : Nat)), .pointer (some ⟨S, 0, none⟩)] w fun e w' => e = .returned (.bool false) ∧ Below w.heap.size w w' := by
  go_enter Tryd.func22, Tryd.ntmps22
  go_wp2_with fail
  go_quiet (fail)
  go_wp2_with fail
  go_ret
  refine ⟨rfl, ?_⟩
  repeat (first | (with_reducible exact Below.refl _ _) | (with_reducible apply bDrewN) | (with_reducible apply Below.drew) | ((with_reducible apply bSet); (focus first | (simp; done) | (simp; omega) | omega)) | ((with_reducible apply bAlloc); (focus first | (simp; done) | (simp; omega) | omega)))

set_option maxRecDepth 100000 in
set_option maxHeartbeats 1600000 in
theorem fits_held (cv : Value) (ep dp : Option Addr) (S nE ecap dl dcap eb eo t : Nat) (sh lk dat r0 held : Int) (w : World) (heb : eb < w.heap.size) (het : w.cell? ⟨eb, eo + t * 4 + 3, none⟩ = some (.int .i64 dl)) (hS : S < w.heap.size) (hD : w.cell? ⟨S, 17, none⟩ = some (.slice dp dl dcap)) (hR : w.cell? ⟨S, 1, none⟩ = some (.int .i32 0)) (hH : w.cell? ⟨S, 19, none⟩ = some (.int .i64 held)) (ht : t < nE) (htI : (t : Int) < nE) (htd : decide (t < nE) = true) (h : held < -1) (h' : decide (-1 ≤ held) = false) :
    Calls Tryd.prog 22 #[.agg #[cv, (.slice (some ⟨eb, eo, none⟩) nE ecap), .int .i64 sh, .int .i64 lk], (.int .i64 (t : Nat)), .pointer (some ⟨S, 0, none⟩)] w fun e w' => e = .returned (.bool false) ∧ Below w.heap.size w w' := by
  go_enter Tryd.func22, Tryd.ntmps22
  go_wp2_with fail
  go_quiet (fail)
  go_wp2_with fail
  go_ret
  refine ⟨rfl, ?_⟩
  repeat (first | (with_reducible exact Below.refl _ _) | (with_reducible apply bDrewN) | (with_reducible apply Below.drew) | ((with_reducible apply bSet); (focus first | (simp; done) | (simp; omega) | omega)) | ((with_reducible apply bAlloc); (focus first | (simp; done) | (simp; omega) | omega)))

set_option maxRecDepth 100000 in
set_option maxHeartbeats 1600000 in
theorem fits_ok1 (cv : Value) (ep dp : Option Addr) (S nE ecap dl dcap eb eo t : Nat) (sh lk dat r0 held : Int) (w : World) (heb : eb < w.heap.size) (het : w.cell? ⟨eb, eo + t * 4 + 3, none⟩ = some (.int .i64 dl)) (hS : S < w.heap.size) (hD : w.cell? ⟨S, 17, none⟩ = some (.slice dp dl dcap)) (hR : w.cell? ⟨S, 1, none⟩ = some (.int .i32 0)) (hH : w.cell? ⟨S, 19, none⟩ = some (.int .i64 (-1))) (ht : t < nE) (htI : (t : Int) < nE) (htd : decide (t < nE) = true)  :
    Calls Tryd.prog 22 #[.agg #[cv, (.slice (some ⟨eb, eo, none⟩) nE ecap), .int .i64 sh, .int .i64 lk], (.int .i64 (t : Nat)), .pointer (some ⟨S, 0, none⟩)] w fun e w' => e = .returned (.bool true) ∧ Below w.heap.size w w' := by
  go_enter Tryd.func22, Tryd.ntmps22
  go_wp2_with fail
  go_quiet (fail)
  go_wp2_with fail
  go_ret
  refine ⟨rfl, ?_⟩
  repeat (first | (with_reducible exact Below.refl _ _) | (with_reducible apply bDrewN) | (with_reducible apply Below.drew) | ((with_reducible apply bSet); (focus first | (simp; done) | (simp; omega) | omega)) | ((with_reducible apply bAlloc); (focus first | (simp; done) | (simp; omega) | omega)))

set_option maxRecDepth 100000 in
set_option maxHeartbeats 1600000 in
theorem fits_ok2 (cv : Value) (ep dp : Option Addr) (S nE ecap dl dcap eb eo t : Nat) (sh lk dat r0 held : Int) (w : World) (heb : eb < w.heap.size) (het : w.cell? ⟨eb, eo + t * 4 + 3, none⟩ = some (.int .i64 dl)) (hS : S < w.heap.size) (hD : w.cell? ⟨S, 17, none⟩ = some (.slice dp dl dcap)) (hR : w.cell? ⟨S, 1, none⟩ = some (.int .i32 0)) (hH : w.cell? ⟨S, 19, none⟩ = some (.int .i64 held)) (ht : t < nE) (htI : (t : Int) < nE) (htd : decide (t < nE) = true) (h0 : 0 ≤ held) (h0' : decide (held < 0) = false) (h1 : -1 ≤ held) (h2 : held < lk) (h2' : decide (held < lk) = true) :
    Calls Tryd.prog 22 #[.agg #[cv, (.slice (some ⟨eb, eo, none⟩) nE ecap), .int .i64 sh, .int .i64 lk], (.int .i64 (t : Nat)), .pointer (some ⟨S, 0, none⟩)] w fun e w' => e = .returned (.bool true) ∧ Below w.heap.size w w' := by
  go_enter Tryd.func22, Tryd.ntmps22
  go_wp2_with fail
  go_quiet (fail)
  go_wp2_with fail
  go_ret
  refine ⟨rfl, ?_⟩
  repeat (first | (with_reducible exact Below.refl _ _) | (with_reducible apply bDrewN) | (with_reducible apply Below.drew) | ((with_reducible apply bSet); (focus first | (simp; done) | (simp; omega) | omega)) | ((with_reducible apply bAlloc); (focus first | (simp; done) | (simp; omega) | omega)))

set_option maxRecDepth 100000 in
set_option maxHeartbeats 1600000 in
theorem fits_locks (cv : Value) (ep dp : Option Addr) (S nE ecap dl dcap eb eo t : Nat) (sh lk dat r0 held : Int) (w : World) (heb : eb < w.heap.size) (het : w.cell? ⟨eb, eo + t * 4 + 3, none⟩ = some (.int .i64 dl)) (hS : S < w.heap.size) (hD : w.cell? ⟨S, 17, none⟩ = some (.slice dp dl dcap)) (hR : w.cell? ⟨S, 1, none⟩ = some (.int .i32 0)) (hH : w.cell? ⟨S, 19, none⟩ = some (.int .i64 held)) (ht : t < nE) (htI : (t : Int) < nE) (htd : decide (t < nE) = true) (h0 : 0 ≤ held) (h0' : decide (held < 0) = false) (h1 : -1 ≤ held) (h2 : lk ≤ held) (h2' : decide (held < lk) = false) :
    Calls Tryd.prog 22 #[.agg #[cv, (.slice (some ⟨eb, eo, none⟩) nE ecap), .int .i64 sh, .int .i64 lk], (.int .i64 (t : Nat)), .pointer (some ⟨S, 0, none⟩)] w fun e w' => e = .returned (.bool false) ∧ Below w.heap.size w w' := by
  go_enter Tryd.func22, Tryd.ntmps22
  go_wp2_with fail
  go_quiet (fail)
  go_wp2_with fail
  go_ret
  refine ⟨rfl, ?_⟩
  repeat (first | (with_reducible exact Below.refl _ _) | (with_reducible apply bDrewN) | (with_reducible apply Below.drew) | ((with_reducible apply bSet); (focus first | (simp; done) | (simp; omega) | omega)) | ((with_reducible apply bAlloc); (focus first | (simp; done) | (simp; omega) | omega)))

theorem fits_nil (cv ev : Value) (sh lk t : Int) (w : World) :
    Calls Tryd.prog 22 #[.agg #[cv, ev, .int .i64 sh, .int .i64 lk], .int .i64 t, .pointer none] w fun e w' => e = .returned (.bool false) ∧ Below w.heap.size w w' := by
  go_enter Tryd.func22, Tryd.ntmps22
  go_wp2_with fail
  go_quiet (fail)
  go_wp2_with fail
  go_ret
  refine ⟨rfl, ?_⟩
  repeat (first | (with_reducible exact Below.refl _ _) | (with_reducible apply bDrewN) | (with_reducible apply Below.drew) | ((with_reducible apply bSet); (focus first | (simp; done) | (simp; omega) | omega)) | ((with_reducible apply bAlloc); (focus first | (simp; done) | (simp; omega) | omega)))

end Go.Proofs.YtpachmkklppmjaaDoor
