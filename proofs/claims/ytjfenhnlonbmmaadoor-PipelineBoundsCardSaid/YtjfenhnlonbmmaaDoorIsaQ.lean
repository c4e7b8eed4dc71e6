/- Contracts of the reference's Reads and Writes. -/
import Derived.Test.YtjfenhnlonbmmaaDoorIsaO
import Derived.Test.YtjfenhnlonbmmaaDoorIsaH
set_option linter.unusedVariables false
set_option linter.unusedSimpArgs false
namespace Go.Proofs.YtjfenhnlonbmmaaDoor
open Go.RowKit Go.Sort

theorem two_alloc (w : World) (o1 o2 : Obj) : ((w.alloc o1).alloc o2).heap[w.heap.size + 1]? = some o2 := by
  show ((w.heap.push o1).push o2)[w.heap.size + 1]? = some o2
  rw [Array.getElem?_push]
  simp

/-- Whether the reference takes a register for one that is read. -/
def rP (ra ub uc : Bool) (a b c r : Int) : Bool := ra && a == r || ub && b == r || uc && c == r
def rL (ra ub uc : Bool) (a b c : Int) : Nat → List Int
  | 0 => []
  | k + 1 => rL ra ub uc a b c k ++ if rP ra ub uc a b c (k + 1) then [((k : Nat) : Int) + 1] else []
theorem rL_le (ra ub uc : Bool) (a b c : Int) : ∀ k, (rL ra ub uc a b c k).length ≤ k
  | 0 => by simp [rL]
  | k + 1 => by
    have := rL_le ra ub uc a b c k
    unfold rL
    split <;> simp <;> omega
theorem rL_yes {ra ub uc : Bool} {a b c : Int} {k : Nat} (h : rP ra ub uc a b c (k + 1) = true) : rL ra ub uc a b c (k + 1) = rL ra ub uc a b c k ++ [((k : Nat) : Int) + 1] := by
  conv => lhs; unfold rL
  rw [if_pos h]
theorem rL_no {ra ub uc : Bool} {a b c : Int} {k : Nat} (h : rP ra ub uc a b c (k + 1) = false) : rL ra ub uc a b c (k + 1) = rL ra ub uc a b c k := by
  conv => lhs; unfold rL
  rw [if_neg (by simp [h])]; simp

theorem own_yes {ra ub uc : Bool} {a b c : Int} {k B : Nat} {w : World} {v : Value} (h : rP ra ub uc a b c ((k : Int) + 1) = true)
    (own : w.ownsRow B 3 1 v ((rL ra ub uc a b c k).length + 1) ((rL ra ub uc a b c k).map (Value.int .i64) ++ [.int .i64 ((k : Int) + 1)])) : w.ownsRow B 3 1 v (rL ra ub uc a b c (k + 1)).length ((rL ra ub uc a b c (k + 1)).map (Value.int .i64)) := by
  rw [rL_yes h]; simpa using own
theorem own_no {ra ub uc : Bool} {a b c : Int} {k B : Nat} {w : World} {v : Value} (h : rP ra ub uc a b c ((k : Int) + 1) = false)
    (own : w.ownsRow B 3 1 v (rL ra ub uc a b c k).length ((rL ra ub uc a b c k).map (Value.int .i64))) : w.ownsRow B 3 1 v (rL ra ub uc a b c (k + 1)).length ((rL ra ub uc a b c (k + 1)).map (Value.int .i64)) := by
  rw [rL_no h]; exact own

theorem SlI.of_own {B : Nat} {w : World} {v : Value} {xs : List Int} (h : w.ownsRow B 3 1 v xs.length (xs.map (Value.int .i64))) : SlI B w v xs := by
  rcases h.2 with ⟨rfl, hn⟩ | ⟨g, cap, cur, rfl, hg, hh, hnc, hcap, hcs, htk⟩
  · exact .inl ⟨List.length_eq_zero_iff.1 hn, _, _, rfl⟩
  · by_cases hx : xs = []
    · exact .inl ⟨hx, _, _, by rw [hx]; rfl⟩
    · refine .inr ⟨hx, g, cap, rfl, hg, (Array.getElem?_eq_some_iff.1 hh).1, fun j hj => ?_⟩
      have h1 : (cur.toList.take (xs.length * 1))[j]? = (xs.map (Value.int .i64))[j]? := by rw [htk]
      rw [Nat.mul_one, List.getElem?_take, if_pos hj] at h1
      simp only [World.cell?, hh, Option.isSome_none, Bool.false_eq_true, if_false]
      rw [← Array.getElem?_toList, h1]
      simp [List.getElem?_eq_getElem hj, List.getD_eq_getElem?_getD]

theorem rreads_no (n : Nat) (a b c i : Int) (w : World) (hv : vld n a b c i = false) :
    Calls Tryd.prog 30 #[.agg #[.int .u8 n, .int .i64 a, .int .i64 b, .int .i64 c, .int .i64 i]] w fun e w' => (∃ v, e = .returned v ∧ SlI w.heap.size w' v []) ∧ Below w.heap.size w w' := by
  go_enter Tryd.func30, Tryd.ntmps30
  go_wp2_with fail
  refine (refValid_any n a b c i _).mono ?_
  rintro e w1 ⟨rfl, hb1⟩
  have sz1_0 : w.heap.size < w1.heap.size := by have h := hb1.size; first | (simp at h; omega) | omega
  have c1_0_0 : w1.cell? ⟨w.heap.size, 0, none⟩ = some (.int .u8 n) := by rw [hb1.cell (p := ⟨w.heap.size, 0, none⟩) (by first | (simp; done) | (simp; omega) | omega)]; first | assumption | (simp [go_sem]; done) | (simp [go_sem, *]; done)
  have c1_0_1 : w1.cell? ⟨w.heap.size, 1, none⟩ = some (.int .i64 a) := by rw [hb1.cell (p := ⟨w.heap.size, 1, none⟩) (by first | (simp; done) | (simp; omega) | omega)]; first | assumption | (simp [go_sem]; done) | (simp [go_sem, *]; done)
  have c1_0_2 : w1.cell? ⟨w.heap.size, 2, none⟩ = some (.int .i64 b) := by rw [hb1.cell (p := ⟨w.heap.size, 2, none⟩) (by first | (simp; done) | (simp; omega) | omega)]; first | assumption | (simp [go_sem]; done) | (simp [go_sem, *]; done)
  have c1_0_3 : w1.cell? ⟨w.heap.size, 3, none⟩ = some (.int .i64 c) := by rw [hb1.cell (p := ⟨w.heap.size, 3, none⟩) (by first | (simp; done) | (simp; omega) | omega)]; first | assumption | (simp [go_sem]; done) | (simp [go_sem, *]; done)
  have c1_0_4 : w1.cell? ⟨w.heap.size, 4, none⟩ = some (.int .i64 i) := by rw [hb1.cell (p := ⟨w.heap.size, 4, none⟩) (by first | (simp; done) | (simp; omega) | omega)]; first | assumption | (simp [go_sem]; done) | (simp [go_sem, *]; done)
  have HB1 : Below w.heap.size w w1 := by
    repeat (first | (with_reducible exact Below.refl _ _) | (with_reducible apply bDrewN) | (with_reducible apply Below.drew) | ((with_reducible apply bThen hb1); (focus first | (simp; done) | (simp; omega) | omega)) | ((with_reducible apply bSet); (focus first | (simp; done) | (simp; omega) | omega)) | ((with_reducible apply bAlloc); (focus first | (simp; done) | (simp; omega) | omega)))
  have hsz1 := HB1.size
  clear hb1 
  go_wp2_with fail
  go_ret
  refine ⟨⟨_, rfl, .inl ⟨rfl, _, _, rfl⟩⟩, ?_⟩
  repeat (first | (with_reducible exact Below.refl _ _) | (with_reducible apply bDrewN) | (with_reducible apply Below.drew) | (with_reducible exact HB1) | ((with_reducible apply bSet); (focus first | (simp; done) | (simp; omega) | omega)) | ((with_reducible apply bAlloc); (focus first | (simp; done) | (simp; omega) | omega)))

set_option maxHeartbeats 1600000 in
theorem rreads_n (n : Nat) (a b c i : Int) (w : World) (hn : n < 30) (hv : vld n a b c i = true) (hs : rfS n = ⟨#[]⟩) (h19 : ((n : Int) == 19) = false) (h21 : ((n : Int) == 21) = false) (h22 : ((n : Int) == 22) = false) (h23 : ((n : Int) == 23) = false) (h25 : ((n : Int) == 25) = false) (h27 : ((n : Int) == 27) = false) :
    Calls Tryd.prog 30 #[.agg #[.int .u8 n, .int .i64 a, .int .i64 b, .int .i64 c, .int .i64 i]] w (RdPost w (rL false false false a b c 15)) := by
  obtain ⟨i0, hi, hz0, hz1, hz2⟩ := info_parts info_int
  go_enter Tryd.func30, Tryd.ntmps30
  go_wp2_with fail
  refine (refValid_any n a b c i _).mono ?_
  rintro e w1 ⟨rfl, hb1⟩
  have sz1_0 : w.heap.size < w1.heap.size := by have h := hb1.size; first | (simp at h; omega) | omega
  have c1_0_0 : w1.cell? ⟨w.heap.size, 0, none⟩ = some (.int .u8 n) := by rw [hb1.cell (p := ⟨w.heap.size, 0, none⟩) (by first | (simp; done) | (simp; omega) | omega)]; first | assumption | (simp [go_sem]; done) | (simp [go_sem, *]; done)
  have c1_0_1 : w1.cell? ⟨w.heap.size, 1, none⟩ = some (.int .i64 a) := by rw [hb1.cell (p := ⟨w.heap.size, 1, none⟩) (by first | (simp; done) | (simp; omega) | omega)]; first | assumption | (simp [go_sem]; done) | (simp [go_sem, *]; done)
  have c1_0_2 : w1.cell? ⟨w.heap.size, 2, none⟩ = some (.int .i64 b) := by rw [hb1.cell (p := ⟨w.heap.size, 2, none⟩) (by first | (simp; done) | (simp; omega) | omega)]; first | assumption | (simp [go_sem]; done) | (simp [go_sem, *]; done)
  have c1_0_3 : w1.cell? ⟨w.heap.size, 3, none⟩ = some (.int .i64 c) := by rw [hb1.cell (p := ⟨w.heap.size, 3, none⟩) (by first | (simp; done) | (simp; omega) | omega)]; first | assumption | (simp [go_sem]; done) | (simp [go_sem, *]; done)
  have c1_0_4 : w1.cell? ⟨w.heap.size, 4, none⟩ = some (.int .i64 i) := by rw [hb1.cell (p := ⟨w.heap.size, 4, none⟩) (by first | (simp; done) | (simp; omega) | omega)]; first | assumption | (simp [go_sem]; done) | (simp [go_sem, *]; done)
  have HB1 : Below w.heap.size w w1 := by
    repeat (first | (with_reducible exact Below.refl _ _) | (with_reducible apply bDrewN) | (with_reducible apply Below.drew) | ((with_reducible apply bThen hb1); (focus first | (simp; done) | (simp; omega) | omega)) | ((with_reducible apply bSet); (focus first | (simp; done) | (simp; omega) | omega)) | ((with_reducible apply bAlloc); (focus first | (simp; done) | (simp; omega) | omega)))
  have hsz1 := HB1.size
  have own0 : w1.ownsRow (w.heap.size + 1) 3 1 (.slice (some ⟨w.heap.size + 1, 0, none⟩) 0 0) 0 [] := ⟨rfl, .inr ⟨_, 0, #[], rfl, by omega, by rw [hb1.block _ (by simp)]; exact two_alloc _ _ _, by omega, by unfold maxLen; omega, rfl, rfl⟩⟩
  clear hb1 
  go_wp2_with fail
  refine (format_any n _ hn).mono ?_
  rintro e w' ⟨rfl, rfl⟩
  go_wp2_with fail
  go_loopw [3, 9] (fun v r wr => ∃ k : Nat, k ≤ 15 ∧ r = .int .i64 (k + 1) ∧ wr.ownsRow (w.heap.size + 1) 3 1 v (rL false false false a b c k).length ((rL false false false a b c k).map (Value.int .i64)) ∧ Below w.heap.size w wr ∧ w.heap.size < wr.heap.size ∧ wr.cell? ⟨w.heap.size, 0, none⟩ = some (.int .u8 n) ∧ wr.cell? ⟨w.heap.size, 1, none⟩ = some (.int .i64 a) ∧ wr.cell? ⟨w.heap.size, 2, none⟩ = some (.int .i64 b) ∧ wr.cell? ⟨w.heap.size, 3, none⟩ = some (.int .i64 c) ∧ wr.cell? ⟨w.heap.size, 4, none⟩ = some (.int .i64 i)) (fun _ r _ => 16 - (intOf r).toNat)
  case atStart => exact ⟨0, by omega, rfl, own0, HB1, sz1_0, c1_0_0, c1_0_1, c1_0_2, c1_0_3, c1_0_4⟩
  case round =>
    obtain ⟨k, hk, rfl, own, HB, hsz, b0, b1, b2, b3, b4⟩ := hrel
    have hll := rL_le false false false a b c k
    by_cases hlt : k < 15
    · have hp : rP false false false a b c ((k : Int) + 1) = false := by simp [rP]
      have HP := Lib.hid hp
      clear hp
      have own2 := Lib.hid (own_no HP.out own)
      go_wp2_with fail
      go_roundw
      case rel => exact ⟨k + 1, by omega, by go_num, own2.out, HB, hsz, b0, b1, b2, b3, b4⟩
      case measure => simp [intOf]; omega
    · go_wp2_with fail
      go_ret
      obtain rfl : k = 15 := by omega
      exact ⟨_, rfl, SlI.mono (SlI.of_own own) (by omega), HB⟩

set_option maxHeartbeats 1600000 in
theorem rreads_abc (n : Nat) (a b c i : Int) (w : World) (hn : n < 30) (hv : vld n a b c i = true) (hs : rfS n = ⟨#[65, 66, 67]⟩) (h19 : ((n : Int) == 19) = false) (h21 : ((n : Int) == 21) = false) (h22 : ((n : Int) == 22) = false) (h23 : ((n : Int) == 23) = false) (h25 : ((n : Int) == 25) = false) (h27 : ((n : Int) == 27) = false) :
    Calls Tryd.prog 30 #[.agg #[.int .u8 n, .int .i64 a, .int .i64 b, .int .i64 c, .int .i64 i]] w (RdPost w (rL false true true a b c 15)) := by
  obtain ⟨i0, hi, hz0, hz1, hz2⟩ := info_parts info_int
  go_enter Tryd.func30, Tryd.ntmps30
  go_wp2_with fail
  refine (refValid_any n a b c i _).mono ?_
  rintro e w1 ⟨rfl, hb1⟩
  have sz1_0 : w.heap.size < w1.heap.size := by have h := hb1.size; first | (simp at h; omega) | omega
  have c1_0_0 : w1.cell? ⟨w.heap.size, 0, none⟩ = some (.int .u8 n) := by rw [hb1.cell (p := ⟨w.heap.size, 0, none⟩) (by first | (simp; done) | (simp; omega) | omega)]; first | assumption | (simp [go_sem]; done) | (simp [go_sem, *]; done)
  have c1_0_1 : w1.cell? ⟨w.heap.size, 1, none⟩ = some (.int .i64 a) := by rw [hb1.cell (p := ⟨w.heap.size, 1, none⟩) (by first | (simp; done) | (simp; omega) | omega)]; first | assumption | (simp [go_sem]; done) | (simp [go_sem, *]; done)
  have c1_0_2 : w1.cell? ⟨w.heap.size, 2, none⟩ = some (.int .i64 b) := by rw [hb1.cell (p := ⟨w.heap.size, 2, none⟩) (by first | (simp; done) | (simp; omega) | omega)]; first | assumption | (simp [go_sem]; done) | (simp [go_sem, *]; done)
  have c1_0_3 : w1.cell? ⟨w.heap.size, 3, none⟩ = some (.int .i64 c) := by rw [hb1.cell (p := ⟨w.heap.size, 3, none⟩) (by first | (simp; done) | (simp; omega) | omega)]; first | assumption | (simp [go_sem]; done) | (simp [go_sem, *]; done)
  have c1_0_4 : w1.cell? ⟨w.heap.size, 4, none⟩ = some (.int .i64 i) := by rw [hb1.cell (p := ⟨w.heap.size, 4, none⟩) (by first | (simp; done) | (simp; omega) | omega)]; first | assumption | (simp [go_sem]; done) | (simp [go_sem, *]; done)
  have HB1 : Below w.heap.size w w1 := by
    repeat (first | (with_reducible exact Below.refl _ _) | (with_reducible apply bDrewN) | (with_reducible apply Below.drew) | ((with_reducible apply bThen hb1); (focus first | (simp; done) | (simp; omega) | omega)) | ((with_reducible apply bSet); (focus first | (simp; done) | (simp; omega) | omega)) | ((with_reducible apply bAlloc); (focus first | (simp; done) | (simp; omega) | omega)))
  have hsz1 := HB1.size
  have own0 : w1.ownsRow (w.heap.size + 1) 3 1 (.slice (some ⟨w.heap.size + 1, 0, none⟩) 0 0) 0 [] := ⟨rfl, .inr ⟨_, 0, #[], rfl, by omega, by rw [hb1.block _ (by simp)]; exact two_alloc _ _ _, by omega, by unfold maxLen; omega, rfl, rfl⟩⟩
  clear hb1 
  go_wp2_with fail
  refine (format_any n _ hn).mono ?_
  rintro e w' ⟨rfl, rfl⟩
  go_wp2_with fail
  go_loopw [3, 9] (fun v r wr => ∃ k : Nat, k ≤ 15 ∧ r = .int .i64 (k + 1) ∧ wr.ownsRow (w.heap.size + 1) 3 1 v (rL false true true a b c k).length ((rL false true true a b c k).map (Value.int .i64)) ∧ Below w.heap.size w wr ∧ w.heap.size < wr.heap.size ∧ wr.cell? ⟨w.heap.size, 0, none⟩ = some (.int .u8 n) ∧ wr.cell? ⟨w.heap.size, 1, none⟩ = some (.int .i64 a) ∧ wr.cell? ⟨w.heap.size, 2, none⟩ = some (.int .i64 b) ∧ wr.cell? ⟨w.heap.size, 3, none⟩ = some (.int .i64 c) ∧ wr.cell? ⟨w.heap.size, 4, none⟩ = some (.int .i64 i)) (fun _ r _ => 16 - (intOf r).toNat)
  case atStart => exact ⟨0, by omega, rfl, own0, HB1, sz1_0, c1_0_0, c1_0_1, c1_0_2, c1_0_3, c1_0_4⟩
  case round =>
    obtain ⟨k, hk, rfl, own, HB, hsz, b0, b1, b2, b3, b4⟩ := hrel
    have hll := rL_le false true true a b c k
    by_cases hlt : k < 15
    · cases tb : (b == (k : Int) + 1) <;> cases tc : (c == (k : Int) + 1)
      · have hp : rP false true true a b c ((k : Int) + 1) = false := by simp [rP, tb, tc]
        have HP := Lib.hid hp
        clear hp
        have own2 := Lib.hid (own_no HP.out own)
        go_wp2_with fail
        go_roundw
        case rel => exact ⟨k + 1, by omega, by go_num, own2.out, HB, hsz, b0, b1, b2, b3, b4⟩
        case measure => simp [intOf]; omega
      · have hp : rP false true true a b c ((k : Int) + 1) = true := by simp [rP, tb, tc]
        have HP := Lib.hid hp
        clear hp
        go_wp2_with (at_builtin; refine wpList_append_own _ rfl _ _ 45 rfl (w.heap.size + 1) 3 i0 (.int .i64 0) 1 8 Tryd.underlying45 hi hz0 hz1 hz2 rfl (by decide) _ _ _ rfl (own.alloc _) ⟨wr.heap.size, 0, none⟩ 1 1 [.int .i64 (k + 1)] rfl rfl ?_ ?_ ?_ ?_ ?_ ?_)
        · intro j u hj; have : j = 0 := by (cases j with | zero => rfl | succ j => simp at hj)
          subst this; simp at hj; subst hj; simp [Addr.add, go_sem]
        · simp [Value.oneCell']
        · unfold maxLen; omega
        · omega
        · simp; omega
        intro v1 u1 own1 gr1 _
        have own2 := Lib.hid (own_yes HP.out own1)
        have HU := Lib.hid ((show Below w.heap.size w (wr.alloc _) from by repeat (first | (with_reducible exact Below.refl _ _) | (with_reducible apply bDrewN) | (with_reducible apply Below.drew) | (with_reducible exact HB) | ((with_reducible apply bSet); (focus first | (simp; done) | (simp; omega) | omega)) | ((with_reducible apply bAlloc); (focus first | (simp; done) | (simp; omega) | omega)))).grown gr1 (by simp; omega) (fun k hk => by rcases own.2 with ⟨h, _⟩ | ⟨g, _, _, h, hg, _⟩ <;> (rw [h] at hk; simp [Value.ownBlock] at hk); omega))
        have d0 : u1.cell? ⟨w.heap.size, 0, none⟩ = some (.int .u8 n) := by rw [World.cell?_of_block (a := ⟨w.heap.size, 0, none⟩) (gr1.block w.heap.size (by simp; omega) (row_ne_low own (by omega)))]; simp [go_sem, *]
        have d1 : u1.cell? ⟨w.heap.size, 1, none⟩ = some (.int .i64 a) := by rw [World.cell?_of_block (a := ⟨w.heap.size, 1, none⟩) (gr1.block w.heap.size (by simp; omega) (row_ne_low own (by omega)))]; simp [go_sem, *]
        have d2 : u1.cell? ⟨w.heap.size, 2, none⟩ = some (.int .i64 b) := by rw [World.cell?_of_block (a := ⟨w.heap.size, 2, none⟩) (gr1.block w.heap.size (by simp; omega) (row_ne_low own (by omega)))]; simp [go_sem, *]
        have d3 : u1.cell? ⟨w.heap.size, 3, none⟩ = some (.int .i64 c) := by rw [World.cell?_of_block (a := ⟨w.heap.size, 3, none⟩) (gr1.block w.heap.size (by simp; omega) (row_ne_low own (by omega)))]; simp [go_sem, *]
        have d4 : u1.cell? ⟨w.heap.size, 4, none⟩ = some (.int .i64 i) := by rw [World.cell?_of_block (a := ⟨w.heap.size, 4, none⟩) (gr1.block w.heap.size (by simp; omega) (row_ne_low own (by omega)))]; simp [go_sem, *]
        have e0 : w.heap.size < u1.heap.size := by have := gr1.size; simp at this; omega
        clear gr1 own1 own b0 b1 b2 b3 b4 HB hsz
        go_wp2_with fail
        go_roundw
        case rel => exact ⟨k + 1, by omega, by go_num, own2.out, HU.out, e0, d0, d1, d2, d3, d4⟩
        case measure => simp [intOf]; omega
      · have hp : rP false true true a b c ((k : Int) + 1) = true := by simp [rP, tb, tc]
        have HP := Lib.hid hp
        clear hp
        go_wp2_with (at_builtin; refine wpList_append_own _ rfl _ _ 45 rfl (w.heap.size + 1) 3 i0 (.int .i64 0) 1 8 Tryd.underlying45 hi hz0 hz1 hz2 rfl (by decide) _ _ _ rfl (own.alloc _) ⟨wr.heap.size, 0, none⟩ 1 1 [.int .i64 (k + 1)] rfl rfl ?_ ?_ ?_ ?_ ?_ ?_)
        · intro j u hj; have : j = 0 := by (cases j with | zero => rfl | succ j => simp at hj)
          subst this; simp at hj; subst hj; simp [Addr.add, go_sem]
        · simp [Value.oneCell']
        · unfold maxLen; omega
        · omega
        · simp; omega
        intro v1 u1 own1 gr1 _
        have own2 := Lib.hid (own_yes HP.out own1)
        have HU := Lib.hid ((show Below w.heap.size w (wr.alloc _) from by repeat (first | (with_reducible exact Below.refl _ _) | (with_reducible apply bDrewN) | (with_reducible apply Below.drew) | (with_reducible exact HB) | ((with_reducible apply bSet); (focus first | (simp; done) | (simp; omega) | omega)) | ((with_reducible apply bAlloc); (focus first | (simp; done) | (simp; omega) | omega)))).grown gr1 (by simp; omega) (fun k hk => by rcases own.2 with ⟨h, _⟩ | ⟨g, _, _, h, hg, _⟩ <;> (rw [h] at hk; simp [Value.ownBlock] at hk); omega))
        have d0 : u1.cell? ⟨w.heap.size, 0, none⟩ = some (.int .u8 n) := by rw [World.cell?_of_block (a := ⟨w.heap.size, 0, none⟩) (gr1.block w.heap.size (by simp; omega) (row_ne_low own (by omega)))]; simp [go_sem, *]
        have d1 : u1.cell? ⟨w.heap.size, 1, none⟩ = some (.int .i64 a) := by rw [World.cell?_of_block (a := ⟨w.heap.size, 1, none⟩) (gr1.block w.heap.size (by simp; omega) (row_ne_low own (by omega)))]; simp [go_sem, *]
        have d2 : u1.cell? ⟨w.heap.size, 2, none⟩ = some (.int .i64 b) := by rw [World.cell?_of_block (a := ⟨w.heap.size, 2, none⟩) (gr1.block w.heap.size (by simp; omega) (row_ne_low own (by omega)))]; simp [go_sem, *]
        have d3 : u1.cell? ⟨w.heap.size, 3, none⟩ = some (.int .i64 c) := by rw [World.cell?_of_block (a := ⟨w.heap.size, 3, none⟩) (gr1.block w.heap.size (by simp; omega) (row_ne_low own (by omega)))]; simp [go_sem, *]
        have d4 : u1.cell? ⟨w.heap.size, 4, none⟩ = some (.int .i64 i) := by rw [World.cell?_of_block (a := ⟨w.heap.size, 4, none⟩) (gr1.block w.heap.size (by simp; omega) (row_ne_low own (by omega)))]; simp [go_sem, *]
        have e0 : w.heap.size < u1.heap.size := by have := gr1.size; simp at this; omega
        clear gr1 own1 own b0 b1 b2 b3 b4 HB hsz
        go_wp2_with fail
        go_roundw
        case rel => exact ⟨k + 1, by omega, by go_num, own2.out, HU.out, e0, d0, d1, d2, d3, d4⟩
        case measure => simp [intOf]; omega
      · have hp : rP false true true a b c ((k : Int) + 1) = true := by simp [rP, tb, tc]
        have HP := Lib.hid hp
        clear hp
        go_wp2_with (at_builtin; refine wpList_append_own _ rfl _ _ 45 rfl (w.heap.size + 1) 3 i0 (.int .i64 0) 1 8 Tryd.underlying45 hi hz0 hz1 hz2 rfl (by decide) _ _ _ rfl (own.alloc _) ⟨wr.heap.size, 0, none⟩ 1 1 [.int .i64 (k + 1)] rfl rfl ?_ ?_ ?_ ?_ ?_ ?_)
        · intro j u hj; have : j = 0 := by (cases j with | zero => rfl | succ j => simp at hj)
          subst this; simp at hj; subst hj; simp [Addr.add, go_sem]
        · simp [Value.oneCell']
        · unfold maxLen; omega
        · omega
        · simp; omega
        intro v1 u1 own1 gr1 _
        have own2 := Lib.hid (own_yes HP.out own1)
        have HU := Lib.hid ((show Below w.heap.size w (wr.alloc _) from by repeat (first | (with_reducible exact Below.refl _ _) | (with_reducible apply bDrewN) | (with_reducible apply Below.drew) | (with_reducible exact HB) | ((with_reducible apply bSet); (focus first | (simp; done) | (simp; omega) | omega)) | ((with_reducible apply bAlloc); (focus first | (simp; done) | (simp; omega) | omega)))).grown gr1 (by simp; omega) (fun k hk => by rcases own.2 with ⟨h, _⟩ | ⟨g, _, _, h, hg, _⟩ <;> (rw [h] at hk; simp [Value.ownBlock] at hk); omega))
        have d0 : u1.cell? ⟨w.heap.size, 0, none⟩ = some (.int .u8 n) := by rw [World.cell?_of_block (a := ⟨w.heap.size, 0, none⟩) (gr1.block w.heap.size (by simp; omega) (row_ne_low own (by omega)))]; simp [go_sem, *]
        have d1 : u1.cell? ⟨w.heap.size, 1, none⟩ = some (.int .i64 a) := by rw [World.cell?_of_block (a := ⟨w.heap.size, 1, none⟩) (gr1.block w.heap.size (by simp; omega) (row_ne_low own (by omega)))]; simp [go_sem, *]
        have d2 : u1.cell? ⟨w.heap.size, 2, none⟩ = some (.int .i64 b) := by rw [World.cell?_of_block (a := ⟨w.heap.size, 2, none⟩) (gr1.block w.heap.size (by simp; omega) (row_ne_low own (by omega)))]; simp [go_sem, *]
        have d3 : u1.cell? ⟨w.heap.size, 3, none⟩ = some (.int .i64 c) := by rw [World.cell?_of_block (a := ⟨w.heap.size, 3, none⟩) (gr1.block w.heap.size (by simp; omega) (row_ne_low own (by omega)))]; simp [go_sem, *]
        have d4 : u1.cell? ⟨w.heap.size, 4, none⟩ = some (.int .i64 i) := by rw [World.cell?_of_block (a := ⟨w.heap.size, 4, none⟩) (gr1.block w.heap.size (by simp; omega) (row_ne_low own (by omega)))]; simp [go_sem, *]
        have e0 : w.heap.size < u1.heap.size := by have := gr1.size; simp at this; omega
        clear gr1 own1 own b0 b1 b2 b3 b4 HB hsz
        go_wp2_with fail
        go_roundw
        case rel => exact ⟨k + 1, by omega, by go_num, own2.out, HU.out, e0, d0, d1, d2, d3, d4⟩
        case measure => simp [intOf]; omega
    · go_wp2_with fail
      go_ret
      obtain rfl : k = 15 := by omega
      exact ⟨_, rfl, SlI.mono (SlI.of_own own) (by omega), HB⟩

set_option maxHeartbeats 1600000 in
theorem rreads_a (n : Nat) (a b c i : Int) (w : World) (hn : n < 30) (hv : vld n a b c i = true) (hs : rfS n = ⟨#[65]⟩) (h19 : ((n : Int) == 19) = false) (h21 : ((n : Int) == 21) = false) (h22 : ((n : Int) == 22) = false) (h23 : ((n : Int) == 23) = false) (h25 : ((n : Int) == 25) = false) (h27 : ((n : Int) == 27) = false) :
    Calls Tryd.prog 30 #[.agg #[.int .u8 n, .int .i64 a, .int .i64 b, .int .i64 c, .int .i64 i]] w (RdPost w (rL false false false a b c 15)) := by
  obtain ⟨i0, hi, hz0, hz1, hz2⟩ := info_parts info_int
  go_enter Tryd.func30, Tryd.ntmps30
  go_wp2_with fail
  refine (refValid_any n a b c i _).mono ?_
  rintro e w1 ⟨rfl, hb1⟩
  have sz1_0 : w.heap.size < w1.heap.size := by have h := hb1.size; first | (simp at h; omega) | omega
  have c1_0_0 : w1.cell? ⟨w.heap.size, 0, none⟩ = some (.int .u8 n) := by rw [hb1.cell (p := ⟨w.heap.size, 0, none⟩) (by first | (simp; done) | (simp; omega) | omega)]; first | assumption | (simp [go_sem]; done) | (simp [go_sem, *]; done)
  have c1_0_1 : w1.cell? ⟨w.heap.size, 1, none⟩ = some (.int .i64 a) := by rw [hb1.cell (p := ⟨w.heap.size, 1, none⟩) (by first | (simp; done) | (simp; omega) | omega)]; first | assumption | (simp [go_sem]; done) | (simp [go_sem, *]; done)
  have c1_0_2 : w1.cell? ⟨w.heap.size, 2, none⟩ = some (.int .i64 b) := by rw [hb1.cell (p := ⟨w.heap.size, 2, none⟩) (by first | (simp; done) | (simp; omega) | omega)]; first | assumption | (simp [go_sem]; done) | (simp [go_sem, *]; done)
  have c1_0_3 : w1.cell? ⟨w.heap.size, 3, none⟩ = some (.int .i64 c) := by rw [hb1.cell (p := ⟨w.heap.size, 3, none⟩) (by first | (simp; done) | (simp; omega) | omega)]; first | assumption | (simp [go_sem]; done) | (simp [go_sem, *]; done)
  have c1_0_4 : w1.cell? ⟨w.heap.size, 4, none⟩ = some (.int .i64 i) := by rw [hb1.cell (p := ⟨w.heap.size, 4, none⟩) (by first | (simp; done) | (simp; omega) | omega)]; first | assumption | (simp [go_sem]; done) | (simp [go_sem, *]; done)
  have HB1 : Below w.heap.size w w1 := by
    repeat (first | (with_reducible exact Below.refl _ _) | (with_reducible apply bDrewN) | (with_reducible apply Below.drew) | ((with_reducible apply bThen hb1); (focus first | (simp; done) | (simp; omega) | omega)) | ((with_reducible apply bSet); (focus first | (simp; done) | (simp; omega) | omega)) | ((with_reducible apply bAlloc); (focus first | (simp; done) | (simp; omega) | omega)))
  have hsz1 := HB1.size
  have own0 : w1.ownsRow (w.heap.size + 1) 3 1 (.slice (some ⟨w.heap.size + 1, 0, none⟩) 0 0) 0 [] := ⟨rfl, .inr ⟨_, 0, #[], rfl, by omega, by rw [hb1.block _ (by simp)]; exact two_alloc _ _ _, by omega, by unfold maxLen; omega, rfl, rfl⟩⟩
  clear hb1 
  go_wp2_with fail
  refine (format_any n _ hn).mono ?_
  rintro e w' ⟨rfl, rfl⟩
  go_wp2_with fail
  go_loopw [3, 9] (fun v r wr => ∃ k : Nat, k ≤ 15 ∧ r = .int .i64 (k + 1) ∧ wr.ownsRow (w.heap.size + 1) 3 1 v (rL false false false a b c k).length ((rL false false false a b c k).map (Value.int .i64)) ∧ Below w.heap.size w wr ∧ w.heap.size < wr.heap.size ∧ wr.cell? ⟨w.heap.size, 0, none⟩ = some (.int .u8 n) ∧ wr.cell? ⟨w.heap.size, 1, none⟩ = some (.int .i64 a) ∧ wr.cell? ⟨w.heap.size, 2, none⟩ = some (.int .i64 b) ∧ wr.cell? ⟨w.heap.size, 3, none⟩ = some (.int .i64 c) ∧ wr.cell? ⟨w.heap.size, 4, none⟩ = some (.int .i64 i)) (fun _ r _ => 16 - (intOf r).toNat)
  case atStart => exact ⟨0, by omega, rfl, own0, HB1, sz1_0, c1_0_0, c1_0_1, c1_0_2, c1_0_3, c1_0_4⟩
  case round =>
    obtain ⟨k, hk, rfl, own, HB, hsz, b0, b1, b2, b3, b4⟩ := hrel
    have hll := rL_le false false false a b c k
    by_cases hlt : k < 15
    · have hp : rP false false false a b c ((k : Int) + 1) = false := by simp [rP]
      have HP := Lib.hid hp
      clear hp
      have own2 := Lib.hid (own_no HP.out own)
      go_wp2_with fail
      go_roundw
      case rel => exact ⟨k + 1, by omega, by go_num, own2.out, HB, hsz, b0, b1, b2, b3, b4⟩
      case measure => simp [intOf]; omega
    · go_wp2_with fail
      go_ret
      obtain rfl : k = 15 := by omega
      exact ⟨_, rfl, SlI.mono (SlI.of_own own) (by omega), HB⟩

set_option maxHeartbeats 1600000 in
theorem rreads_ab (n : Nat) (a b c i : Int) (w : World) (hn : n < 30) (hv : vld n a b c i = true) (hs : rfS n = ⟨#[65, 66]⟩) (h19 : ((n : Int) == 19) = false) (h21 : ((n : Int) == 21) = false) (h22 : ((n : Int) == 22) = false) (h23 : ((n : Int) == 23) = false) (h25 : ((n : Int) == 25) = false) (h27 : ((n : Int) == 27) = false) :
    Calls Tryd.prog 30 #[.agg #[.int .u8 n, .int .i64 a, .int .i64 b, .int .i64 c, .int .i64 i]] w (RdPost w (rL false true false a b c 15)) := by
  obtain ⟨i0, hi, hz0, hz1, hz2⟩ := info_parts info_int
  go_enter Tryd.func30, Tryd.ntmps30
  go_wp2_with fail
  refine (refValid_any n a b c i _).mono ?_
  rintro e w1 ⟨rfl, hb1⟩
  have sz1_0 : w.heap.size < w1.heap.size := by have h := hb1.size; first | (simp at h; omega) | omega
  have c1_0_0 : w1.cell? ⟨w.heap.size, 0, none⟩ = some (.int .u8 n) := by rw [hb1.cell (p := ⟨w.heap.size, 0, none⟩) (by first | (simp; done) | (simp; omega) | omega)]; first | assumption | (simp [go_sem]; done) | (simp [go_sem, *]; done)
  have c1_0_1 : w1.cell? ⟨w.heap.size, 1, none⟩ = some (.int .i64 a) := by rw [hb1.cell (p := ⟨w.heap.size, 1, none⟩) (by first | (simp; done) | (simp; omega) | omega)]; first | assumption | (simp [go_sem]; done) | (simp [go_sem, *]; done)
  have c1_0_2 : w1.cell? ⟨w.heap.size, 2, none⟩ = some (.int .i64 b) := by rw [hb1.cell (p := ⟨w.heap.size, 2, none⟩) (by first | (simp; done) | (simp; omega) | omega)]; first | assumption | (simp [go_sem]; done) | (simp [go_sem, *]; done)
  have c1_0_3 : w1.cell? ⟨w.heap.size, 3, none⟩ = some (.int .i64 c) := by rw [hb1.cell (p := ⟨w.heap.size, 3, none⟩) (by first | (simp; done) | (simp; omega) | omega)]; first | assumption | (simp [go_sem]; done) | (simp [go_sem, *]; done)
  have c1_0_4 : w1.cell? ⟨w.heap.size, 4, none⟩ = some (.int .i64 i) := by rw [hb1.cell (p := ⟨w.heap.size, 4, none⟩) (by first | (simp; done) | (simp; omega) | omega)]; first | assumption | (simp [go_sem]; done) | (simp [go_sem, *]; done)
  have HB1 : Below w.heap.size w w1 := by
    repeat (first | (with_reducible exact Below.refl _ _) | (with_reducible apply bDrewN) | (with_reducible apply Below.drew) | ((with_reducible apply bThen hb1); (focus first | (simp; done) | (simp; omega) | omega)) | ((with_reducible apply bSet); (focus first | (simp; done) | (simp; omega) | omega)) | ((with_reducible apply bAlloc); (focus first | (simp; done) | (simp; omega) | omega)))
  have hsz1 := HB1.size
  have own0 : w1.ownsRow (w.heap.size + 1) 3 1 (.slice (some ⟨w.heap.size + 1, 0, none⟩) 0 0) 0 [] := ⟨rfl, .inr ⟨_, 0, #[], rfl, by omega, by rw [hb1.block _ (by simp)]; exact two_alloc _ _ _, by omega, by unfold maxLen; omega, rfl, rfl⟩⟩
  clear hb1 
  go_wp2_with fail
  refine (format_any n _ hn).mono ?_
  rintro e w' ⟨rfl, rfl⟩
  go_wp2_with fail
  go_loopw [3, 9] (fun v r wr => ∃ k : Nat, k ≤ 15 ∧ r = .int .i64 (k + 1) ∧ wr.ownsRow (w.heap.size + 1) 3 1 v (rL false true false a b c k).length ((rL false true false a b c k).map (Value.int .i64)) ∧ Below w.heap.size w wr ∧ w.heap.size < wr.heap.size ∧ wr.cell? ⟨w.heap.size, 0, none⟩ = some (.int .u8 n) ∧ wr.cell? ⟨w.heap.size, 1, none⟩ = some (.int .i64 a) ∧ wr.cell? ⟨w.heap.size, 2, none⟩ = some (.int .i64 b) ∧ wr.cell? ⟨w.heap.size, 3, none⟩ = some (.int .i64 c) ∧ wr.cell? ⟨w.heap.size, 4, none⟩ = some (.int .i64 i)) (fun _ r _ => 16 - (intOf r).toNat)
  case atStart => exact ⟨0, by omega, rfl, own0, HB1, sz1_0, c1_0_0, c1_0_1, c1_0_2, c1_0_3, c1_0_4⟩
  case round =>
    obtain ⟨k, hk, rfl, own, HB, hsz, b0, b1, b2, b3, b4⟩ := hrel
    have hll := rL_le false true false a b c k
    by_cases hlt : k < 15
    · cases tb : (b == (k : Int) + 1)
      · have hp : rP false true false a b c ((k : Int) + 1) = false := by simp [rP, tb]
        have HP := Lib.hid hp
        clear hp
        have own2 := Lib.hid (own_no HP.out own)
        go_wp2_with fail
        go_roundw
        case rel => exact ⟨k + 1, by omega, by go_num, own2.out, HB, hsz, b0, b1, b2, b3, b4⟩
        case measure => simp [intOf]; omega
      · have hp : rP false true false a b c ((k : Int) + 1) = true := by simp [rP, tb]
        have HP := Lib.hid hp
        clear hp
        go_wp2_with (at_builtin; refine wpList_append_own _ rfl _ _ 45 rfl (w.heap.size + 1) 3 i0 (.int .i64 0) 1 8 Tryd.underlying45 hi hz0 hz1 hz2 rfl (by decide) _ _ _ rfl (own.alloc _) ⟨wr.heap.size, 0, none⟩ 1 1 [.int .i64 (k + 1)] rfl rfl ?_ ?_ ?_ ?_ ?_ ?_)
        · intro j u hj; have : j = 0 := by (cases j with | zero => rfl | succ j => simp at hj)
          subst this; simp at hj; subst hj; simp [Addr.add, go_sem]
        · simp [Value.oneCell']
        · unfold maxLen; omega
        · omega
        · simp; omega
        intro v1 u1 own1 gr1 _
        have own2 := Lib.hid (own_yes HP.out own1)
        have HU := Lib.hid ((show Below w.heap.size w (wr.alloc _) from by repeat (first | (with_reducible exact Below.refl _ _) | (with_reducible apply bDrewN) | (with_reducible apply Below.drew) | (with_reducible exact HB) | ((with_reducible apply bSet); (focus first | (simp; done) | (simp; omega) | omega)) | ((with_reducible apply bAlloc); (focus first | (simp; done) | (simp; omega) | omega)))).grown gr1 (by simp; omega) (fun k hk => by rcases own.2 with ⟨h, _⟩ | ⟨g, _, _, h, hg, _⟩ <;> (rw [h] at hk; simp [Value.ownBlock] at hk); omega))
        have d0 : u1.cell? ⟨w.heap.size, 0, none⟩ = some (.int .u8 n) := by rw [World.cell?_of_block (a := ⟨w.heap.size, 0, none⟩) (gr1.block w.heap.size (by simp; omega) (row_ne_low own (by omega)))]; simp [go_sem, *]
        have d1 : u1.cell? ⟨w.heap.size, 1, none⟩ = some (.int .i64 a) := by rw [World.cell?_of_block (a := ⟨w.heap.size, 1, none⟩) (gr1.block w.heap.size (by simp; omega) (row_ne_low own (by omega)))]; simp [go_sem, *]
        have d2 : u1.cell? ⟨w.heap.size, 2, none⟩ = some (.int .i64 b) := by rw [World.cell?_of_block (a := ⟨w.heap.size, 2, none⟩) (gr1.block w.heap.size (by simp; omega) (row_ne_low own (by omega)))]; simp [go_sem, *]
        have d3 : u1.cell? ⟨w.heap.size, 3, none⟩ = some (.int .i64 c) := by rw [World.cell?_of_block (a := ⟨w.heap.size, 3, none⟩) (gr1.block w.heap.size (by simp; omega) (row_ne_low own (by omega)))]; simp [go_sem, *]
        have d4 : u1.cell? ⟨w.heap.size, 4, none⟩ = some (.int .i64 i) := by rw [World.cell?_of_block (a := ⟨w.heap.size, 4, none⟩) (gr1.block w.heap.size (by simp; omega) (row_ne_low own (by omega)))]; simp [go_sem, *]
        have e0 : w.heap.size < u1.heap.size := by have := gr1.size; simp at this; omega
        clear gr1 own1 own b0 b1 b2 b3 b4 HB hsz
        go_wp2_with fail
        go_roundw
        case rel => exact ⟨k + 1, by omega, by go_num, own2.out, HU.out, e0, d0, d1, d2, d3, d4⟩
        case measure => simp [intOf]; omega
    · go_wp2_with fail
      go_ret
      obtain rfl : k = 15 := by omega
      exact ⟨_, rfl, SlI.mono (SlI.of_own own) (by omega), HB⟩

set_option maxHeartbeats 1600000 in
theorem rreads_rab19 (n : Nat) (a b c i : Int) (w : World) (hn : n < 30) (hv : vld n a b c i = true) (hs : rfS n = ⟨#[65, 66]⟩) (h19 : ((n : Int) == 19) = true) :
    Calls Tryd.prog 30 #[.agg #[.int .u8 n, .int .i64 a, .int .i64 b, .int .i64 c, .int .i64 i]] w (RdPost w (rL true true false a b c 15)) := by
  obtain ⟨i0, hi, hz0, hz1, hz2⟩ := info_parts info_int
  go_enter Tryd.func30, Tryd.ntmps30
  go_wp2_with fail
  refine (refValid_any n a b c i _).mono ?_
  rintro e w1 ⟨rfl, hb1⟩
  have sz1_0 : w.heap.size < w1.heap.size := by have h := hb1.size; first | (simp at h; omega) | omega
  have c1_0_0 : w1.cell? ⟨w.heap.size, 0, none⟩ = some (.int .u8 n) := by rw [hb1.cell (p := ⟨w.heap.size, 0, none⟩) (by first | (simp; done) | (simp; omega) | omega)]; first | assumption | (simp [go_sem]; done) | (simp [go_sem, *]; done)
  have c1_0_1 : w1.cell? ⟨w.heap.size, 1, none⟩ = some (.int .i64 a) := by rw [hb1.cell (p := ⟨w.heap.size, 1, none⟩) (by first | (simp; done) | (simp; omega) | omega)]; first | assumption | (simp [go_sem]; done) | (simp [go_sem, *]; done)
  have c1_0_2 : w1.cell? ⟨w.heap.size, 2, none⟩ = some (.int .i64 b) := by rw [hb1.cell (p := ⟨w.heap.size, 2, none⟩) (by first | (simp; done) | (simp; omega) | omega)]; first | assumption | (simp [go_sem]; done) | (simp [go_sem, *]; done)
  have c1_0_3 : w1.cell? ⟨w.heap.size, 3, none⟩ = some (.int .i64 c) := by rw [hb1.cell (p := ⟨w.heap.size, 3, none⟩) (by first | (simp; done) | (simp; omega) | omega)]; first | assumption | (simp [go_sem]; done) | (simp [go_sem, *]; done)
  have c1_0_4 : w1.cell? ⟨w.heap.size, 4, none⟩ = some (.int .i64 i) := by rw [hb1.cell (p := ⟨w.heap.size, 4, none⟩) (by first | (simp; done) | (simp; omega) | omega)]; first | assumption | (simp [go_sem]; done) | (simp [go_sem, *]; done)
  have HB1 : Below w.heap.size w w1 := by
    repeat (first | (with_reducible exact Below.refl _ _) | (with_reducible apply bDrewN) | (with_reducible apply Below.drew) | ((with_reducible apply bThen hb1); (focus first | (simp; done) | (simp; omega) | omega)) | ((with_reducible apply bSet); (focus first | (simp; done) | (simp; omega) | omega)) | ((with_reducible apply bAlloc); (focus first | (simp; done) | (simp; omega) | omega)))
  have hsz1 := HB1.size
  have own0 : w1.ownsRow (w.heap.size + 1) 3 1 (.slice (some ⟨w.heap.size + 1, 0, none⟩) 0 0) 0 [] := ⟨rfl, .inr ⟨_, 0, #[], rfl, by omega, by rw [hb1.block _ (by simp)]; exact two_alloc _ _ _, by omega, by unfold maxLen; omega, rfl, rfl⟩⟩
  clear hb1 
  go_wp2_with fail
  refine (format_any n _ hn).mono ?_
  rintro e w' ⟨rfl, rfl⟩
  go_wp2_with fail
  go_loopw [3, 9] (fun v r wr => ∃ k : Nat, k ≤ 15 ∧ r = .int .i64 (k + 1) ∧ wr.ownsRow (w.heap.size + 1) 3 1 v (rL true true false a b c k).length ((rL true true false a b c k).map (Value.int .i64)) ∧ Below w.heap.size w wr ∧ w.heap.size < wr.heap.size ∧ wr.cell? ⟨w.heap.size, 0, none⟩ = some (.int .u8 n) ∧ wr.cell? ⟨w.heap.size, 1, none⟩ = some (.int .i64 a) ∧ wr.cell? ⟨w.heap.size, 2, none⟩ = some (.int .i64 b) ∧ wr.cell? ⟨w.heap.size, 3, none⟩ = some (.int .i64 c) ∧ wr.cell? ⟨w.heap.size, 4, none⟩ = some (.int .i64 i)) (fun _ r _ => 16 - (intOf r).toNat)
  case atStart => exact ⟨0, by omega, rfl, own0, HB1, sz1_0, c1_0_0, c1_0_1, c1_0_2, c1_0_3, c1_0_4⟩
  case round =>
    obtain ⟨k, hk, rfl, own, HB, hsz, b0, b1, b2, b3, b4⟩ := hrel
    have hll := rL_le true true false a b c k
    by_cases hlt : k < 15
    · cases ta : (a == (k : Int) + 1) <;> cases tb : (b == (k : Int) + 1)
      · have hp : rP true true false a b c ((k : Int) + 1) = false := by simp [rP, ta, tb]
        have HP := Lib.hid hp
        clear hp
        have own2 := Lib.hid (own_no HP.out own)
        go_wp2_with fail
        go_roundw
        case rel => exact ⟨k + 1, by omega, by go_num, own2.out, HB, hsz, b0, b1, b2, b3, b4⟩
        case measure => simp [intOf]; omega
      · have hp : rP true true false a b c ((k : Int) + 1) = true := by simp [rP, ta, tb]
        have HP := Lib.hid hp
        clear hp
        go_wp2_with (at_builtin; refine wpList_append_own _ rfl _ _ 45 rfl (w.heap.size + 1) 3 i0 (.int .i64 0) 1 8 Tryd.underlying45 hi hz0 hz1 hz2 rfl (by decide) _ _ _ rfl (own.alloc _) ⟨wr.heap.size, 0, none⟩ 1 1 [.int .i64 (k + 1)] rfl rfl ?_ ?_ ?_ ?_ ?_ ?_)
        · intro j u hj; have : j = 0 := by (cases j with | zero => rfl | succ j => simp at hj)
          subst this; simp at hj; subst hj; simp [Addr.add, go_sem]
        · simp [Value.oneCell']
        · unfold maxLen; omega
        · omega
        · simp; omega
        intro v1 u1 own1 gr1 _
        have own2 := Lib.hid (own_yes HP.out own1)
        have HU := Lib.hid ((show Below w.heap.size w (wr.alloc _) from by repeat (first | (with_reducible exact Below.refl _ _) | (with_reducible apply bDrewN) | (with_reducible apply Below.drew) | (with_reducible exact HB) | ((with_reducible apply bSet); (focus first | (simp; done) | (simp; omega) | omega)) | ((with_reducible apply bAlloc); (focus first | (simp; done) | (simp; omega) | omega)))).grown gr1 (by simp; omega) (fun k hk => by rcases own.2 with ⟨h, _⟩ | ⟨g, _, _, h, hg, _⟩ <;> (rw [h] at hk; simp [Value.ownBlock] at hk); omega))
        have d0 : u1.cell? ⟨w.heap.size, 0, none⟩ = some (.int .u8 n) := by rw [World.cell?_of_block (a := ⟨w.heap.size, 0, none⟩) (gr1.block w.heap.size (by simp; omega) (row_ne_low own (by omega)))]; simp [go_sem, *]
        have d1 : u1.cell? ⟨w.heap.size, 1, none⟩ = some (.int .i64 a) := by rw [World.cell?_of_block (a := ⟨w.heap.size, 1, none⟩) (gr1.block w.heap.size (by simp; omega) (row_ne_low own (by omega)))]; simp [go_sem, *]
        have d2 : u1.cell? ⟨w.heap.size, 2, none⟩ = some (.int .i64 b) := by rw [World.cell?_of_block (a := ⟨w.heap.size, 2, none⟩) (gr1.block w.heap.size (by simp; omega) (row_ne_low own (by omega)))]; simp [go_sem, *]
        have d3 : u1.cell? ⟨w.heap.size, 3, none⟩ = some (.int .i64 c) := by rw [World.cell?_of_block (a := ⟨w.heap.size, 3, none⟩) (gr1.block w.heap.size (by simp; omega) (row_ne_low own (by omega)))]; simp [go_sem, *]
        have d4 : u1.cell? ⟨w.heap.size, 4, none⟩ = some (.int .i64 i) := by rw [World.cell?_of_block (a := ⟨w.heap.size, 4, none⟩) (gr1.block w.heap.size (by simp; omega) (row_ne_low own (by omega)))]; simp [go_sem, *]
        have e0 : w.heap.size < u1.heap.size := by have := gr1.size; simp at this; omega
        clear gr1 own1 own b0 b1 b2 b3 b4 HB hsz
        go_wp2_with fail
        go_roundw
        case rel => exact ⟨k + 1, by omega, by go_num, own2.out, HU.out, e0, d0, d1, d2, d3, d4⟩
        case measure => simp [intOf]; omega
      · have hp : rP true true false a b c ((k : Int) + 1) = true := by simp [rP, ta, tb]
        have HP := Lib.hid hp
        clear hp
        go_wp2_with (at_builtin; refine wpList_append_own _ rfl _ _ 45 rfl (w.heap.size + 1) 3 i0 (.int .i64 0) 1 8 Tryd.underlying45 hi hz0 hz1 hz2 rfl (by decide) _ _ _ rfl (own.alloc _) ⟨wr.heap.size, 0, none⟩ 1 1 [.int .i64 (k + 1)] rfl rfl ?_ ?_ ?_ ?_ ?_ ?_)
        · intro j u hj; have : j = 0 := by (cases j with | zero => rfl | succ j => simp at hj)
          subst this; simp at hj; subst hj; simp [Addr.add, go_sem]
        · simp [Value.oneCell']
        · unfold maxLen; omega
        · omega
        · simp; omega
        intro v1 u1 own1 gr1 _
        have own2 := Lib.hid (own_yes HP.out own1)
        have HU := Lib.hid ((show Below w.heap.size w (wr.alloc _) from by repeat (first | (with_reducible exact Below.refl _ _) | (with_reducible apply bDrewN) | (with_reducible apply Below.drew) | (with_reducible exact HB) | ((with_reducible apply bSet); (focus first | (simp; done) | (simp; omega) | omega)) | ((with_reducible apply bAlloc); (focus first | (simp; done) | (simp; omega) | omega)))).grown gr1 (by simp; omega) (fun k hk => by rcases own.2 with ⟨h, _⟩ | ⟨g, _, _, h, hg, _⟩ <;> (rw [h] at hk; simp [Value.ownBlock] at hk); omega))
        have d0 : u1.cell? ⟨w.heap.size, 0, none⟩ = some (.int .u8 n) := by rw [World.cell?_of_block (a := ⟨w.heap.size, 0, none⟩) (gr1.block w.heap.size (by simp; omega) (row_ne_low own (by omega)))]; simp [go_sem, *]
        have d1 : u1.cell? ⟨w.heap.size, 1, none⟩ = some (.int .i64 a) := by rw [World.cell?_of_block (a := ⟨w.heap.size, 1, none⟩) (gr1.block w.heap.size (by simp; omega) (row_ne_low own (by omega)))]; simp [go_sem, *]
        have d2 : u1.cell? ⟨w.heap.size, 2, none⟩ = some (.int .i64 b) := by rw [World.cell?_of_block (a := ⟨w.heap.size, 2, none⟩) (gr1.block w.heap.size (by simp; omega) (row_ne_low own (by omega)))]; simp [go_sem, *]
        have d3 : u1.cell? ⟨w.heap.size, 3, none⟩ = some (.int .i64 c) := by rw [World.cell?_of_block (a := ⟨w.heap.size, 3, none⟩) (gr1.block w.heap.size (by simp; omega) (row_ne_low own (by omega)))]; simp [go_sem, *]
        have d4 : u1.cell? ⟨w.heap.size, 4, none⟩ = some (.int .i64 i) := by rw [World.cell?_of_block (a := ⟨w.heap.size, 4, none⟩) (gr1.block w.heap.size (by simp; omega) (row_ne_low own (by omega)))]; simp [go_sem, *]
        have e0 : w.heap.size < u1.heap.size := by have := gr1.size; simp at this; omega
        clear gr1 own1 own b0 b1 b2 b3 b4 HB hsz
        go_wp2_with fail
        go_roundw
        case rel => exact ⟨k + 1, by omega, by go_num, own2.out, HU.out, e0, d0, d1, d2, d3, d4⟩
        case measure => simp [intOf]; omega
      · have hp : rP true true false a b c ((k : Int) + 1) = true := by simp [rP, ta, tb]
        have HP := Lib.hid hp
        clear hp
        go_wp2_with (at_builtin; refine wpList_append_own _ rfl _ _ 45 rfl (w.heap.size + 1) 3 i0 (.int .i64 0) 1 8 Tryd.underlying45 hi hz0 hz1 hz2 rfl (by decide) _ _ _ rfl (own.alloc _) ⟨wr.heap.size, 0, none⟩ 1 1 [.int .i64 (k + 1)] rfl rfl ?_ ?_ ?_ ?_ ?_ ?_)
        · intro j u hj; have : j = 0 := by (cases j with | zero => rfl | succ j => simp at hj)
          subst this; simp at hj; subst hj; simp [Addr.add, go_sem]
        · simp [Value.oneCell']
        · unfold maxLen; omega
        · omega
        · simp; omega
        intro v1 u1 own1 gr1 _
        have own2 := Lib.hid (own_yes HP.out own1)
        have HU := Lib.hid ((show Below w.heap.size w (wr.alloc _) from by repeat (first | (with_reducible exact Below.refl _ _) | (with_reducible apply bDrewN) | (with_reducible apply Below.drew) | (with_reducible exact HB) | ((with_reducible apply bSet); (focus first | (simp; done) | (simp; omega) | omega)) | ((with_reducible apply bAlloc); (focus first | (simp; done) | (simp; omega) | omega)))).grown gr1 (by simp; omega) (fun k hk => by rcases own.2 with ⟨h, _⟩ | ⟨g, _, _, h, hg, _⟩ <;> (rw [h] at hk; simp [Value.ownBlock] at hk); omega))
        have d0 : u1.cell? ⟨w.heap.size, 0, none⟩ = some (.int .u8 n) := by rw [World.cell?_of_block (a := ⟨w.heap.size, 0, none⟩) (gr1.block w.heap.size (by simp; omega) (row_ne_low own (by omega)))]; simp [go_sem, *]
        have d1 : u1.cell? ⟨w.heap.size, 1, none⟩ = some (.int .i64 a) := by rw [World.cell?_of_block (a := ⟨w.heap.size, 1, none⟩) (gr1.block w.heap.size (by simp; omega) (row_ne_low own (by omega)))]; simp [go_sem, *]
        have d2 : u1.cell? ⟨w.heap.size, 2, none⟩ = some (.int .i64 b) := by rw [World.cell?_of_block (a := ⟨w.heap.size, 2, none⟩) (gr1.block w.heap.size (by simp; omega) (row_ne_low own (by omega)))]; simp [go_sem, *]
        have d3 : u1.cell? ⟨w.heap.size, 3, none⟩ = some (.int .i64 c) := by rw [World.cell?_of_block (a := ⟨w.heap.size, 3, none⟩) (gr1.block w.heap.size (by simp; omega) (row_ne_low own (by omega)))]; simp [go_sem, *]
        have d4 : u1.cell? ⟨w.heap.size, 4, none⟩ = some (.int .i64 i) := by rw [World.cell?_of_block (a := ⟨w.heap.size, 4, none⟩) (gr1.block w.heap.size (by simp; omega) (row_ne_low own (by omega)))]; simp [go_sem, *]
        have e0 : w.heap.size < u1.heap.size := by have := gr1.size; simp at this; omega
        clear gr1 own1 own b0 b1 b2 b3 b4 HB hsz
        go_wp2_with fail
        go_roundw
        case rel => exact ⟨k + 1, by omega, by go_num, own2.out, HU.out, e0, d0, d1, d2, d3, d4⟩
        case measure => simp [intOf]; omega
    · go_wp2_with fail
      go_ret
      obtain rfl : k = 15 := by omega
      exact ⟨_, rfl, SlI.mono (SlI.of_own own) (by omega), HB⟩

set_option maxHeartbeats 1600000 in
theorem rreads_rab21 (n : Nat) (a b c i : Int) (w : World) (hn : n < 30) (hv : vld n a b c i = true) (hs : rfS n = ⟨#[65, 66]⟩) (h19 : ((n : Int) == 19) = false) (h21 : ((n : Int) == 21) = true) :
    Calls Tryd.prog 30 #[.agg #[.int .u8 n, .int .i64 a, .int .i64 b, .int .i64 c, .int .i64 i]] w (RdPost w (rL true true false a b c 15)) := by
  obtain ⟨i0, hi, hz0, hz1, hz2⟩ := info_parts info_int
  go_enter Tryd.func30, Tryd.ntmps30
  go_wp2_with fail
  refine (refValid_any n a b c i _).mono ?_
  rintro e w1 ⟨rfl, hb1⟩
  have sz1_0 : w.heap.size < w1.heap.size := by have h := hb1.size; first | (simp at h; omega) | omega
  have c1_0_0 : w1.cell? ⟨w.heap.size, 0, none⟩ = some (.int .u8 n) := by rw [hb1.cell (p := ⟨w.heap.size, 0, none⟩) (by first | (simp; done) | (simp; omega) | omega)]; first | assumption | (simp [go_sem]; done) | (simp [go_sem, *]; done)
  have c1_0_1 : w1.cell? ⟨w.heap.size, 1, none⟩ = some (.int .i64 a) := by rw [hb1.cell (p := ⟨w.heap.size, 1, none⟩) (by first | (simp; done) | (simp; omega) | omega)]; first | assumption | (simp [go_sem]; done) | (simp [go_sem, *]; done)
  have c1_0_2 : w1.cell? ⟨w.heap.size, 2, none⟩ = some (.int .i64 b) := by rw [hb1.cell (p := ⟨w.heap.size, 2, none⟩) (by first | (simp; done) | (simp; omega) | omega)]; first | assumption | (simp [go_sem]; done) | (simp [go_sem, *]; done)
  have c1_0_3 : w1.cell? ⟨w.heap.size, 3, none⟩ = some (.int .i64 c) := by rw [hb1.cell (p := ⟨w.heap.size, 3, none⟩) (by first | (simp; done) | (simp; omega) | omega)]; first | assumption | (simp [go_sem]; done) | (simp [go_sem, *]; done)
  have c1_0_4 : w1.cell? ⟨w.heap.size, 4, none⟩ = some (.int .i64 i) := by rw [hb1.cell (p := ⟨w.heap.size, 4, none⟩) (by first | (simp; done) | (simp; omega) | omega)]; first | assumption | (simp [go_sem]; done) | (simp [go_sem, *]; done)
  have HB1 : Below w.heap.size w w1 := by
    repeat (first | (with_reducible exact Below.refl _ _) | (with_reducible apply bDrewN) | (with_reducible apply Below.drew) | ((with_reducible apply bThen hb1); (focus first | (simp; done) | (simp; omega) | omega)) | ((with_reducible apply bSet); (focus first | (simp; done) | (simp; omega) | omega)) | ((with_reducible apply bAlloc); (focus first | (simp; done) | (simp; omega) | omega)))
  have hsz1 := HB1.size
  have own0 : w1.ownsRow (w.heap.size + 1) 3 1 (.slice (some ⟨w.heap.size + 1, 0, none⟩) 0 0) 0 [] := ⟨rfl, .inr ⟨_, 0, #[], rfl, by omega, by rw [hb1.block _ (by simp)]; exact two_alloc _ _ _, by omega, by unfold maxLen; omega, rfl, rfl⟩⟩
  clear hb1 
  go_wp2_with fail
  refine (format_any n _ hn).mono ?_
  rintro e w' ⟨rfl, rfl⟩
  go_wp2_with fail
  go_loopw [3, 9] (fun v r wr => ∃ k : Nat, k ≤ 15 ∧ r = .int .i64 (k + 1) ∧ wr.ownsRow (w.heap.size + 1) 3 1 v (rL true true false a b c k).length ((rL true true false a b c k).map (Value.int .i64)) ∧ Below w.heap.size w wr ∧ w.heap.size < wr.heap.size ∧ wr.cell? ⟨w.heap.size, 0, none⟩ = some (.int .u8 n) ∧ wr.cell? ⟨w.heap.size, 1, none⟩ = some (.int .i64 a) ∧ wr.cell? ⟨w.heap.size, 2, none⟩ = some (.int .i64 b) ∧ wr.cell? ⟨w.heap.size, 3, none⟩ = some (.int .i64 c) ∧ wr.cell? ⟨w.heap.size, 4, none⟩ = some (.int .i64 i)) (fun _ r _ => 16 - (intOf r).toNat)
  case atStart => exact ⟨0, by omega, rfl, own0, HB1, sz1_0, c1_0_0, c1_0_1, c1_0_2, c1_0_3, c1_0_4⟩
  case round =>
    obtain ⟨k, hk, rfl, own, HB, hsz, b0, b1, b2, b3, b4⟩ := hrel
    have hll := rL_le true true false a b c k
    by_cases hlt : k < 15
    · cases ta : (a == (k : Int) + 1) <;> cases tb : (b == (k : Int) + 1)
      · have hp : rP true true false a b c ((k : Int) + 1) = false := by simp [rP, ta, tb]
        have HP := Lib.hid hp
        clear hp
        have own2 := Lib.hid (own_no HP.out own)
        go_wp2_with fail
        go_roundw
        case rel => exact ⟨k + 1, by omega, by go_num, own2.out, HB, hsz, b0, b1, b2, b3, b4⟩
        case measure => simp [intOf]; omega
      · have hp : rP true true false a b c ((k : Int) + 1) = true := by simp [rP, ta, tb]
        have HP := Lib.hid hp
        clear hp
        go_wp2_with (at_builtin; refine wpList_append_own _ rfl _ _ 45 rfl (w.heap.size + 1) 3 i0 (.int .i64 0) 1 8 Tryd.underlying45 hi hz0 hz1 hz2 rfl (by decide) _ _ _ rfl (own.alloc _) ⟨wr.heap.size, 0, none⟩ 1 1 [.int .i64 (k + 1)] rfl rfl ?_ ?_ ?_ ?_ ?_ ?_)
        · intro j u hj; have : j = 0 := by (cases j with | zero => rfl | succ j => simp at hj)
          subst this; simp at hj; subst hj; simp [Addr.add, go_sem]
        · simp [Value.oneCell']
        · unfold maxLen; omega
        · omega
        · simp; omega
        intro v1 u1 own1 gr1 _
        have own2 := Lib.hid (own_yes HP.out own1)
        have HU := Lib.hid ((show Below w.heap.size w (wr.alloc _) from by repeat (first | (with_reducible exact Below.refl _ _) | (with_reducible apply bDrewN) | (with_reducible apply Below.drew) | (with_reducible exact HB) | ((with_reducible apply bSet); (focus first | (simp; done) | (simp; omega) | omega)) | ((with_reducible apply bAlloc); (focus first | (simp; done) | (simp; omega) | omega)))).grown gr1 (by simp; omega) (fun k hk => by rcases own.2 with ⟨h, _⟩ | ⟨g, _, _, h, hg, _⟩ <;> (rw [h] at hk; simp [Value.ownBlock] at hk); omega))
        have d0 : u1.cell? ⟨w.heap.size, 0, none⟩ = some (.int .u8 n) := by rw [World.cell?_of_block (a := ⟨w.heap.size, 0, none⟩) (gr1.block w.heap.size (by simp; omega) (row_ne_low own (by omega)))]; simp [go_sem, *]
        have d1 : u1.cell? ⟨w.heap.size, 1, none⟩ = some (.int .i64 a) := by rw [World.cell?_of_block (a := ⟨w.heap.size, 1, none⟩) (gr1.block w.heap.size (by simp; omega) (row_ne_low own (by omega)))]; simp [go_sem, *]
        have d2 : u1.cell? ⟨w.heap.size, 2, none⟩ = some (.int .i64 b) := by rw [World.cell?_of_block (a := ⟨w.heap.size, 2, none⟩) (gr1.block w.heap.size (by simp; omega) (row_ne_low own (by omega)))]; simp [go_sem, *]
        have d3 : u1.cell? ⟨w.heap.size, 3, none⟩ = some (.int .i64 c) := by rw [World.cell?_of_block (a := ⟨w.heap.size, 3, none⟩) (gr1.block w.heap.size (by simp; omega) (row_ne_low own (by omega)))]; simp [go_sem, *]
        have d4 : u1.cell? ⟨w.heap.size, 4, none⟩ = some (.int .i64 i) := by rw [World.cell?_of_block (a := ⟨w.heap.size, 4, none⟩) (gr1.block w.heap.size (by simp; omega) (row_ne_low own (by omega)))]; simp [go_sem, *]
        have e0 : w.heap.size < u1.heap.size := by have := gr1.size; simp at this; omega
        clear gr1 own1 own b0 b1 b2 b3 b4 HB hsz
        go_wp2_with fail
        go_roundw
        case rel => exact ⟨k + 1, by omega, by go_num, own2.out, HU.out, e0, d0, d1, d2, d3, d4⟩
        case measure => simp [intOf]; omega
      · have hp : rP true true false a b c ((k : Int) + 1) = true := by simp [rP, ta, tb]
        have HP := Lib.hid hp
        clear hp
        go_wp2_with (at_builtin; refine wpList_append_own _ rfl _ _ 45 rfl (w.heap.size + 1) 3 i0 (.int .i64 0) 1 8 Tryd.underlying45 hi hz0 hz1 hz2 rfl (by decide) _ _ _ rfl (own.alloc _) ⟨wr.heap.size, 0, none⟩ 1 1 [.int .i64 (k + 1)] rfl rfl ?_ ?_ ?_ ?_ ?_ ?_)
        · intro j u hj; have : j = 0 := by (cases j with | zero => rfl | succ j => simp at hj)
          subst this; simp at hj; subst hj; simp [Addr.add, go_sem]
        · simp [Value.oneCell']
        · unfold maxLen; omega
        · omega
        · simp; omega
        intro v1 u1 own1 gr1 _
        have own2 := Lib.hid (own_yes HP.out own1)
        have HU := Lib.hid ((show Below w.heap.size w (wr.alloc _) from by repeat (first | (with_reducible exact Below.refl _ _) | (with_reducible apply bDrewN) | (with_reducible apply Below.drew) | (with_reducible exact HB) | ((with_reducible apply bSet); (focus first | (simp; done) | (simp; omega) | omega)) | ((with_reducible apply bAlloc); (focus first | (simp; done) | (simp; omega) | omega)))).grown gr1 (by simp; omega) (fun k hk => by rcases own.2 with ⟨h, _⟩ | ⟨g, _, _, h, hg, _⟩ <;> (rw [h] at hk; simp [Value.ownBlock] at hk); omega))
        have d0 : u1.cell? ⟨w.heap.size, 0, none⟩ = some (.int .u8 n) := by rw [World.cell?_of_block (a := ⟨w.heap.size, 0, none⟩) (gr1.block w.heap.size (by simp; omega) (row_ne_low own (by omega)))]; simp [go_sem, *]
        have d1 : u1.cell? ⟨w.heap.size, 1, none⟩ = some (.int .i64 a) := by rw [World.cell?_of_block (a := ⟨w.heap.size, 1, none⟩) (gr1.block w.heap.size (by simp; omega) (row_ne_low own (by omega)))]; simp [go_sem, *]
        have d2 : u1.cell? ⟨w.heap.size, 2, none⟩ = some (.int .i64 b) := by rw [World.cell?_of_block (a := ⟨w.heap.size, 2, none⟩) (gr1.block w.heap.size (by simp; omega) (row_ne_low own (by omega)))]; simp [go_sem, *]
        have d3 : u1.cell? ⟨w.heap.size, 3, none⟩ = some (.int .i64 c) := by rw [World.cell?_of_block (a := ⟨w.heap.size, 3, none⟩) (gr1.block w.heap.size (by simp; omega) (row_ne_low own (by omega)))]; simp [go_sem, *]
        have d4 : u1.cell? ⟨w.heap.size, 4, none⟩ = some (.int .i64 i) := by rw [World.cell?_of_block (a := ⟨w.heap.size, 4, none⟩) (gr1.block w.heap.size (by simp; omega) (row_ne_low own (by omega)))]; simp [go_sem, *]
        have e0 : w.heap.size < u1.heap.size := by have := gr1.size; simp at this; omega
        clear gr1 own1 own b0 b1 b2 b3 b4 HB hsz
        go_wp2_with fail
        go_roundw
        case rel => exact ⟨k + 1, by omega, by go_num, own2.out, HU.out, e0, d0, d1, d2, d3, d4⟩
        case measure => simp [intOf]; omega
      · have hp : rP true true false a b c ((k : Int) + 1) = true := by simp [rP, ta, tb]
        have HP := Lib.hid hp
        clear hp
        go_wp2_with (at_builtin; refine wpList_append_own _ rfl _ _ 45 rfl (w.heap.size + 1) 3 i0 (.int .i64 0) 1 8 Tryd.underlying45 hi hz0 hz1 hz2 rfl (by decide) _ _ _ rfl (own.alloc _) ⟨wr.heap.size, 0, none⟩ 1 1 [.int .i64 (k + 1)] rfl rfl ?_ ?_ ?_ ?_ ?_ ?_)
        · intro j u hj; have : j = 0 := by (cases j with | zero => rfl | succ j => simp at hj)
          subst this; simp at hj; subst hj; simp [Addr.add, go_sem]
        · simp [Value.oneCell']
        · unfold maxLen; omega
        · omega
        · simp; omega
        intro v1 u1 own1 gr1 _
        have own2 := Lib.hid (own_yes HP.out own1)
        have HU := Lib.hid ((show Below w.heap.size w (wr.alloc _) from by repeat (first | (with_reducible exact Below.refl _ _) | (with_reducible apply bDrewN) | (with_reducible apply Below.drew) | (with_reducible exact HB) | ((with_reducible apply bSet); (focus first | (simp; done) | (simp; omega) | omega)) | ((with_reducible apply bAlloc); (focus first | (simp; done) | (simp; omega) | omega)))).grown gr1 (by simp; omega) (fun k hk => by rcases own.2 with ⟨h, _⟩ | ⟨g, _, _, h, hg, _⟩ <;> (rw [h] at hk; simp [Value.ownBlock] at hk); omega))
        have d0 : u1.cell? ⟨w.heap.size, 0, none⟩ = some (.int .u8 n) := by rw [World.cell?_of_block (a := ⟨w.heap.size, 0, none⟩) (gr1.block w.heap.size (by simp; omega) (row_ne_low own (by omega)))]; simp [go_sem, *]
        have d1 : u1.cell? ⟨w.heap.size, 1, none⟩ = some (.int .i64 a) := by rw [World.cell?_of_block (a := ⟨w.heap.size, 1, none⟩) (gr1.block w.heap.size (by simp; omega) (row_ne_low own (by omega)))]; simp [go_sem, *]
        have d2 : u1.cell? ⟨w.heap.size, 2, none⟩ = some (.int .i64 b) := by rw [World.cell?_of_block (a := ⟨w.heap.size, 2, none⟩) (gr1.block w.heap.size (by simp; omega) (row_ne_low own (by omega)))]; simp [go_sem, *]
        have d3 : u1.cell? ⟨w.heap.size, 3, none⟩ = some (.int .i64 c) := by rw [World.cell?_of_block (a := ⟨w.heap.size, 3, none⟩) (gr1.block w.heap.size (by simp; omega) (row_ne_low own (by omega)))]; simp [go_sem, *]
        have d4 : u1.cell? ⟨w.heap.size, 4, none⟩ = some (.int .i64 i) := by rw [World.cell?_of_block (a := ⟨w.heap.size, 4, none⟩) (gr1.block w.heap.size (by simp; omega) (row_ne_low own (by omega)))]; simp [go_sem, *]
        have e0 : w.heap.size < u1.heap.size := by have := gr1.size; simp at this; omega
        clear gr1 own1 own b0 b1 b2 b3 b4 HB hsz
        go_wp2_with fail
        go_roundw
        case rel => exact ⟨k + 1, by omega, by go_num, own2.out, HU.out, e0, d0, d1, d2, d3, d4⟩
        case measure => simp [intOf]; omega
    · go_wp2_with fail
      go_ret
      obtain rfl : k = 15 := by omega
      exact ⟨_, rfl, SlI.mono (SlI.of_own own) (by omega), HB⟩

set_option maxHeartbeats 1600000 in
theorem rreads_ra22 (n : Nat) (a b c i : Int) (w : World) (hn : n < 30) (hv : vld n a b c i = true) (hs : rfS n = ⟨#[65]⟩) (h19 : ((n : Int) == 19) = false) (h21 : ((n : Int) == 21) = false) (h22 : ((n : Int) == 22) = true) :
    Calls Tryd.prog 30 #[.agg #[.int .u8 n, .int .i64 a, .int .i64 b, .int .i64 c, .int .i64 i]] w (RdPost w (rL true false false a b c 15)) := by
  obtain ⟨i0, hi, hz0, hz1, hz2⟩ := info_parts info_int
  go_enter Tryd.func30, Tryd.ntmps30
  go_wp2_with fail
  refine (refValid_any n a b c i _).mono ?_
  rintro e w1 ⟨rfl, hb1⟩
  have sz1_0 : w.heap.size < w1.heap.size := by have h := hb1.size; first | (simp at h; omega) | omega
  have c1_0_0 : w1.cell? ⟨w.heap.size, 0, none⟩ = some (.int .u8 n) := by rw [hb1.cell (p := ⟨w.heap.size, 0, none⟩) (by first | (simp; done) | (simp; omega) | omega)]; first | assumption | (simp [go_sem]; done) | (simp [go_sem, *]; done)
  have c1_0_1 : w1.cell? ⟨w.heap.size, 1, none⟩ = some (.int .i64 a) := by rw [hb1.cell (p := ⟨w.heap.size, 1, none⟩) (by first | (simp; done) | (simp; omega) | omega)]; first | assumption | (simp [go_sem]; done) | (simp [go_sem, *]; done)
  have c1_0_2 : w1.cell? ⟨w.heap.size, 2, none⟩ = some (.int .i64 b) := by rw [hb1.cell (p := ⟨w.heap.size, 2, none⟩) (by first | (simp; done) | (simp; omega) | omega)]; first | assumption | (simp [go_sem]; done) | (simp [go_sem, *]; done)
  have c1_0_3 : w1.cell? ⟨w.heap.size, 3, none⟩ = some (.int .i64 c) := by rw [hb1.cell (p := ⟨w.heap.size, 3, none⟩) (by first | (simp; done) | (simp; omega) | omega)]; first | assumption | (simp [go_sem]; done) | (simp [go_sem, *]; done)
  have c1_0_4 : w1.cell? ⟨w.heap.size, 4, none⟩ = some (.int .i64 i) := by rw [hb1.cell (p := ⟨w.heap.size, 4, none⟩) (by first | (simp; done) | (simp; omega) | omega)]; first | assumption | (simp [go_sem]; done) | (simp [go_sem, *]; done)
  have HB1 : Below w.heap.size w w1 := by
    repeat (first | (with_reducible exact Below.refl _ _) | (with_reducible apply bDrewN) | (with_reducible apply Below.drew) | ((with_reducible apply bThen hb1); (focus first | (simp; done) | (simp; omega) | omega)) | ((with_reducible apply bSet); (focus first | (simp; done) | (simp; omega) | omega)) | ((with_reducible apply bAlloc); (focus first | (simp; done) | (simp; omega) | omega)))
  have hsz1 := HB1.size
  have own0 : w1.ownsRow (w.heap.size + 1) 3 1 (.slice (some ⟨w.heap.size + 1, 0, none⟩) 0 0) 0 [] := ⟨rfl, .inr ⟨_, 0, #[], rfl, by omega, by rw [hb1.block _ (by simp)]; exact two_alloc _ _ _, by omega, by unfold maxLen; omega, rfl, rfl⟩⟩
  clear hb1 
  go_wp2_with fail
  refine (format_any n _ hn).mono ?_
  rintro e w' ⟨rfl, rfl⟩
  go_wp2_with fail
  go_loopw [3, 9] (fun v r wr => ∃ k : Nat, k ≤ 15 ∧ r = .int .i64 (k + 1) ∧ wr.ownsRow (w.heap.size + 1) 3 1 v (rL true false false a b c k).length ((rL true false false a b c k).map (Value.int .i64)) ∧ Below w.heap.size w wr ∧ w.heap.size < wr.heap.size ∧ wr.cell? ⟨w.heap.size, 0, none⟩ = some (.int .u8 n) ∧ wr.cell? ⟨w.heap.size, 1, none⟩ = some (.int .i64 a) ∧ wr.cell? ⟨w.heap.size, 2, none⟩ = some (.int .i64 b) ∧ wr.cell? ⟨w.heap.size, 3, none⟩ = some (.int .i64 c) ∧ wr.cell? ⟨w.heap.size, 4, none⟩ = some (.int .i64 i)) (fun _ r _ => 16 - (intOf r).toNat)
  case atStart => exact ⟨0, by omega, rfl, own0, HB1, sz1_0, c1_0_0, c1_0_1, c1_0_2, c1_0_3, c1_0_4⟩
  case round =>
    obtain ⟨k, hk, rfl, own, HB, hsz, b0, b1, b2, b3, b4⟩ := hrel
    have hll := rL_le true false false a b c k
    by_cases hlt : k < 15
    · cases ta : (a == (k : Int) + 1)
      · have hp : rP true false false a b c ((k : Int) + 1) = false := by simp [rP, ta]
        have HP := Lib.hid hp
        clear hp
        have own2 := Lib.hid (own_no HP.out own)
        go_wp2_with fail
        go_roundw
        case rel => exact ⟨k + 1, by omega, by go_num, own2.out, HB, hsz, b0, b1, b2, b3, b4⟩
        case measure => simp [intOf]; omega
      · have hp : rP true false false a b c ((k : Int) + 1) = true := by simp [rP, ta]
        have HP := Lib.hid hp
        clear hp
        go_wp2_with (at_builtin; refine wpList_append_own _ rfl _ _ 45 rfl (w.heap.size + 1) 3 i0 (.int .i64 0) 1 8 Tryd.underlying45 hi hz0 hz1 hz2 rfl (by decide) _ _ _ rfl (own.alloc _) ⟨wr.heap.size, 0, none⟩ 1 1 [.int .i64 (k + 1)] rfl rfl ?_ ?_ ?_ ?_ ?_ ?_)
        · intro j u hj; have : j = 0 := by (cases j with | zero => rfl | succ j => simp at hj)
          subst this; simp at hj; subst hj; simp [Addr.add, go_sem]
        · simp [Value.oneCell']
        · unfold maxLen; omega
        · omega
        · simp; omega
        intro v1 u1 own1 gr1 _
        have own2 := Lib.hid (own_yes HP.out own1)
        have HU := Lib.hid ((show Below w.heap.size w (wr.alloc _) from by repeat (first | (with_reducible exact Below.refl _ _) | (with_reducible apply bDrewN) | (with_reducible apply Below.drew) | (with_reducible exact HB) | ((with_reducible apply bSet); (focus first | (simp; done) | (simp; omega) | omega)) | ((with_reducible apply bAlloc); (focus first | (simp; done) | (simp; omega) | omega)))).grown gr1 (by simp; omega) (fun k hk => by rcases own.2 with ⟨h, _⟩ | ⟨g, _, _, h, hg, _⟩ <;> (rw [h] at hk; simp [Value.ownBlock] at hk); omega))
        have d0 : u1.cell? ⟨w.heap.size, 0, none⟩ = some (.int .u8 n) := by rw [World.cell?_of_block (a := ⟨w.heap.size, 0, none⟩) (gr1.block w.heap.size (by simp; omega) (row_ne_low own (by omega)))]; simp [go_sem, *]
        have d1 : u1.cell? ⟨w.heap.size, 1, none⟩ = some (.int .i64 a) := by rw [World.cell?_of_block (a := ⟨w.heap.size, 1, none⟩) (gr1.block w.heap.size (by simp; omega) (row_ne_low own (by omega)))]; simp [go_sem, *]
        have d2 : u1.cell? ⟨w.heap.size, 2, none⟩ = some (.int .i64 b) := by rw [World.cell?_of_block (a := ⟨w.heap.size, 2, none⟩) (gr1.block w.heap.size (by simp; omega) (row_ne_low own (by omega)))]; simp [go_sem, *]
        have d3 : u1.cell? ⟨w.heap.size, 3, none⟩ = some (.int .i64 c) := by rw [World.cell?_of_block (a := ⟨w.heap.size, 3, none⟩) (gr1.block w.heap.size (by simp; omega) (row_ne_low own (by omega)))]; simp [go_sem, *]
        have d4 : u1.cell? ⟨w.heap.size, 4, none⟩ = some (.int .i64 i) := by rw [World.cell?_of_block (a := ⟨w.heap.size, 4, none⟩) (gr1.block w.heap.size (by simp; omega) (row_ne_low own (by omega)))]; simp [go_sem, *]
        have e0 : w.heap.size < u1.heap.size := by have := gr1.size; simp at this; omega
        clear gr1 own1 own b0 b1 b2 b3 b4 HB hsz
        go_wp2_with fail
        go_roundw
        case rel => exact ⟨k + 1, by omega, by go_num, own2.out, HU.out, e0, d0, d1, d2, d3, d4⟩
        case measure => simp [intOf]; omega
    · go_wp2_with fail
      go_ret
      obtain rfl : k = 15 := by omega
      exact ⟨_, rfl, SlI.mono (SlI.of_own own) (by omega), HB⟩

set_option maxHeartbeats 1600000 in
theorem rreads_ra23 (n : Nat) (a b c i : Int) (w : World) (hn : n < 30) (hv : vld n a b c i = true) (hs : rfS n = ⟨#[65]⟩) (h19 : ((n : Int) == 19) = false) (h21 : ((n : Int) == 21) = false) (h22 : ((n : Int) == 22) = false) (h23 : ((n : Int) == 23) = true) :
    Calls Tryd.prog 30 #[.agg #[.int .u8 n, .int .i64 a, .int .i64 b, .int .i64 c, .int .i64 i]] w (RdPost w (rL true false false a b c 15)) := by
  obtain ⟨i0, hi, hz0, hz1, hz2⟩ := info_parts info_int
  go_enter Tryd.func30, Tryd.ntmps30
  go_wp2_with fail
  refine (refValid_any n a b c i _).mono ?_
  rintro e w1 ⟨rfl, hb1⟩
  have sz1_0 : w.heap.size < w1.heap.size := by have h := hb1.size; first | (simp at h; omega) | omega
  have c1_0_0 : w1.cell? ⟨w.heap.size, 0, none⟩ = some (.int .u8 n) := by rw [hb1.cell (p := ⟨w.heap.size, 0, none⟩) (by first | (simp; done) | (simp; omega) | omega)]; first | assumption | (simp [go_sem]; done) | (simp [go_sem, *]; done)
  have c1_0_1 : w1.cell? ⟨w.heap.size, 1, none⟩ = some (.int .i64 a) := by rw [hb1.cell (p := ⟨w.heap.size, 1, none⟩) (by first | (simp; done) | (simp; omega) | omega)]; first | assumption | (simp [go_sem]; done) | (simp [go_sem, *]; done)
  have c1_0_2 : w1.cell? ⟨w.heap.size, 2, none⟩ = some (.int .i64 b) := by rw [hb1.cell (p := ⟨w.heap.size, 2, none⟩) (by first | (simp; done) | (simp; omega) | omega)]; first | assumption | (simp [go_sem]; done) | (simp [go_sem, *]; done)
  have c1_0_3 : w1.cell? ⟨w.heap.size, 3, none⟩ = some (.int .i64 c) := by rw [hb1.cell (p := ⟨w.heap.size, 3, none⟩) (by first | (simp; done) | (simp; omega) | omega)]; first | assumption | (simp [go_sem]; done) | (simp [go_sem, *]; done)
  have c1_0_4 : w1.cell? ⟨w.heap.size, 4, none⟩ = some (.int .i64 i) := by rw [hb1.cell (p := ⟨w.heap.size, 4, none⟩) (by first | (simp; done) | (simp; omega) | omega)]; first | assumption | (simp [go_sem]; done) | (simp [go_sem, *]; done)
  have HB1 : Below w.heap.size w w1 := by
    repeat (first | (with_reducible exact Below.refl _ _) | (with_reducible apply bDrewN) | (with_reducible apply Below.drew) | ((with_reducible apply bThen hb1); (focus first | (simp; done) | (simp; omega) | omega)) | ((with_reducible apply bSet); (focus first | (simp; done) | (simp; omega) | omega)) | ((with_reducible apply bAlloc); (focus first | (simp; done) | (simp; omega) | omega)))
  have hsz1 := HB1.size
  have own0 : w1.ownsRow (w.heap.size + 1) 3 1 (.slice (some ⟨w.heap.size + 1, 0, none⟩) 0 0) 0 [] := ⟨rfl, .inr ⟨_, 0, #[], rfl, by omega, by rw [hb1.block _ (by simp)]; exact two_alloc _ _ _, by omega, by unfold maxLen; omega, rfl, rfl⟩⟩
  clear hb1 
  go_wp2_with fail
  refine (format_any n _ hn).mono ?_
  rintro e w' ⟨rfl, rfl⟩
  go_wp2_with fail
  go_loopw [3, 9] (fun v r wr => ∃ k : Nat, k ≤ 15 ∧ r = .int .i64 (k + 1) ∧ wr.ownsRow (w.heap.size + 1) 3 1 v (rL true false false a b c k).length ((rL true false false a b c k).map (Value.int .i64)) ∧ Below w.heap.size w wr ∧ w.heap.size < wr.heap.size ∧ wr.cell? ⟨w.heap.size, 0, none⟩ = some (.int .u8 n) ∧ wr.cell? ⟨w.heap.size, 1, none⟩ = some (.int .i64 a) ∧ wr.cell? ⟨w.heap.size, 2, none⟩ = some (.int .i64 b) ∧ wr.cell? ⟨w.heap.size, 3, none⟩ = some (.int .i64 c) ∧ wr.cell? ⟨w.heap.size, 4, none⟩ = some (.int .i64 i)) (fun _ r _ => 16 - (intOf r).toNat)
  case atStart => exact ⟨0, by omega, rfl, own0, HB1, sz1_0, c1_0_0, c1_0_1, c1_0_2, c1_0_3, c1_0_4⟩
  case round =>
    obtain ⟨k, hk, rfl, own, HB, hsz, b0, b1, b2, b3, b4⟩ := hrel
    have hll := rL_le true false false a b c k
    by_cases hlt : k < 15
    · cases ta : (a == (k : Int) + 1)
      · have hp : rP true false false a b c ((k : Int) + 1) = false := by simp [rP, ta]
        have HP := Lib.hid hp
        clear hp
        have own2 := Lib.hid (own_no HP.out own)
        go_wp2_with fail
        go_roundw
        case rel => exact ⟨k + 1, by omega, by go_num, own2.out, HB, hsz, b0, b1, b2, b3, b4⟩
        case measure => simp [intOf]; omega
      · have hp : rP true false false a b c ((k : Int) + 1) = true := by simp [rP, ta]
        have HP := Lib.hid hp
        clear hp
        go_wp2_with (at_builtin; refine wpList_append_own _ rfl _ _ 45 rfl (w.heap.size + 1) 3 i0 (.int .i64 0) 1 8 Tryd.underlying45 hi hz0 hz1 hz2 rfl (by decide) _ _ _ rfl (own.alloc _) ⟨wr.heap.size, 0, none⟩ 1 1 [.int .i64 (k + 1)] rfl rfl ?_ ?_ ?_ ?_ ?_ ?_)
        · intro j u hj; have : j = 0 := by (cases j with | zero => rfl | succ j => simp at hj)
          subst this; simp at hj; subst hj; simp [Addr.add, go_sem]
        · simp [Value.oneCell']
        · unfold maxLen; omega
        · omega
        · simp; omega
        intro v1 u1 own1 gr1 _
        have own2 := Lib.hid (own_yes HP.out own1)
        have HU := Lib.hid ((show Below w.heap.size w (wr.alloc _) from by repeat (first | (with_reducible exact Below.refl _ _) | (with_reducible apply bDrewN) | (with_reducible apply Below.drew) | (with_reducible exact HB) | ((with_reducible apply bSet); (focus first | (simp; done) | (simp; omega) | omega)) | ((with_reducible apply bAlloc); (focus first | (simp; done) | (simp; omega) | omega)))).grown gr1 (by simp; omega) (fun k hk => by rcases own.2 with ⟨h, _⟩ | ⟨g, _, _, h, hg, _⟩ <;> (rw [h] at hk; simp [Value.ownBlock] at hk); omega))
        have d0 : u1.cell? ⟨w.heap.size, 0, none⟩ = some (.int .u8 n) := by rw [World.cell?_of_block (a := ⟨w.heap.size, 0, none⟩) (gr1.block w.heap.size (by simp; omega) (row_ne_low own (by omega)))]; simp [go_sem, *]
        have d1 : u1.cell? ⟨w.heap.size, 1, none⟩ = some (.int .i64 a) := by rw [World.cell?_of_block (a := ⟨w.heap.size, 1, none⟩) (gr1.block w.heap.size (by simp; omega) (row_ne_low own (by omega)))]; simp [go_sem, *]
        have d2 : u1.cell? ⟨w.heap.size, 2, none⟩ = some (.int .i64 b) := by rw [World.cell?_of_block (a := ⟨w.heap.size, 2, none⟩) (gr1.block w.heap.size (by simp; omega) (row_ne_low own (by omega)))]; simp [go_sem, *]
        have d3 : u1.cell? ⟨w.heap.size, 3, none⟩ = some (.int .i64 c) := by rw [World.cell?_of_block (a := ⟨w.heap.size, 3, none⟩) (gr1.block w.heap.size (by simp; omega) (row_ne_low own (by omega)))]; simp [go_sem, *]
        have d4 : u1.cell? ⟨w.heap.size, 4, none⟩ = some (.int .i64 i) := by rw [World.cell?_of_block (a := ⟨w.heap.size, 4, none⟩) (gr1.block w.heap.size (by simp; omega) (row_ne_low own (by omega)))]; simp [go_sem, *]
        have e0 : w.heap.size < u1.heap.size := by have := gr1.size; simp at this; omega
        clear gr1 own1 own b0 b1 b2 b3 b4 HB hsz
        go_wp2_with fail
        go_roundw
        case rel => exact ⟨k + 1, by omega, by go_num, own2.out, HU.out, e0, d0, d1, d2, d3, d4⟩
        case measure => simp [intOf]; omega
    · go_wp2_with fail
      go_ret
      obtain rfl : k = 15 := by omega
      exact ⟨_, rfl, SlI.mono (SlI.of_own own) (by omega), HB⟩

set_option maxHeartbeats 1600000 in
theorem rreads_ra25 (n : Nat) (a b c i : Int) (w : World) (hn : n < 30) (hv : vld n a b c i = true) (hs : rfS n = ⟨#[65]⟩) (h19 : ((n : Int) == 19) = false) (h21 : ((n : Int) == 21) = false) (h22 : ((n : Int) == 22) = false) (h23 : ((n : Int) == 23) = false) (h25 : ((n : Int) == 25) = true) :
    Calls Tryd.prog 30 #[.agg #[.int .u8 n, .int .i64 a, .int .i64 b, .int .i64 c, .int .i64 i]] w (RdPost w (rL true false false a b c 15)) := by
  obtain ⟨i0, hi, hz0, hz1, hz2⟩ := info_parts info_int
  go_enter Tryd.func30, Tryd.ntmps30
  go_wp2_with fail
  refine (refValid_any n a b c i _).mono ?_
  rintro e w1 ⟨rfl, hb1⟩
  have sz1_0 : w.heap.size < w1.heap.size := by have h := hb1.size; first | (simp at h; omega) | omega
  have c1_0_0 : w1.cell? ⟨w.heap.size, 0, none⟩ = some (.int .u8 n) := by rw [hb1.cell (p := ⟨w.heap.size, 0, none⟩) (by first | (simp; done) | (simp; omega) | omega)]; first | assumption | (simp [go_sem]; done) | (simp [go_sem, *]; done)
  have c1_0_1 : w1.cell? ⟨w.heap.size, 1, none⟩ = some (.int .i64 a) := by rw [hb1.cell (p := ⟨w.heap.size, 1, none⟩) (by first | (simp; done) | (simp; omega) | omega)]; first | assumption | (simp [go_sem]; done) | (simp [go_sem, *]; done)
  have c1_0_2 : w1.cell? ⟨w.heap.size, 2, none⟩ = some (.int .i64 b) := by rw [hb1.cell (p := ⟨w.heap.size, 2, none⟩) (by first | (simp; done) | (simp; omega) | omega)]; first | assumption | (simp [go_sem]; done) | (simp [go_sem, *]; done)
  have c1_0_3 : w1.cell? ⟨w.heap.size, 3, none⟩ = some (.int .i64 c) := by rw [hb1.cell (p := ⟨w.heap.size, 3, none⟩) (by first | (simp; done) | (simp; omega) | omega)]; first | assumption | (simp [go_sem]; done) | (simp [go_sem, *]; done)
  have c1_0_4 : w1.cell? ⟨w.heap.size, 4, none⟩ = some (.int .i64 i) := by rw [hb1.cell (p := ⟨w.heap.size, 4, none⟩) (by first | (simp; done) | (simp; omega) | omega)]; first | assumption | (simp [go_sem]; done) | (simp [go_sem, *]; done)
  have HB1 : Below w.heap.size w w1 := by
    repeat (first | (with_reducible exact Below.refl _ _) | (with_reducible apply bDrewN) | (with_reducible apply Below.drew) | ((with_reducible apply bThen hb1); (focus first | (simp; done) | (simp; omega) | omega)) | ((with_reducible apply bSet); (focus first | (simp; done) | (simp; omega) | omega)) | ((with_reducible apply bAlloc); (focus first | (simp; done) | (simp; omega) | omega)))
  have hsz1 := HB1.size
  have own0 : w1.ownsRow (w.heap.size + 1) 3 1 (.slice (some ⟨w.heap.size + 1, 0, none⟩) 0 0) 0 [] := ⟨rfl, .inr ⟨_, 0, #[], rfl, by omega, by rw [hb1.block _ (by simp)]; exact two_alloc _ _ _, by omega, by unfold maxLen; omega, rfl, rfl⟩⟩
  clear hb1 
  go_wp2_with fail
  refine (format_any n _ hn).mono ?_
  rintro e w' ⟨rfl, rfl⟩
  go_wp2_with fail
  go_loopw [3, 9] (fun v r wr => ∃ k : Nat, k ≤ 15 ∧ r = .int .i64 (k + 1) ∧ wr.ownsRow (w.heap.size + 1) 3 1 v (rL true false false a b c k).length ((rL true false false a b c k).map (Value.int .i64)) ∧ Below w.heap.size w wr ∧ w.heap.size < wr.heap.size ∧ wr.cell? ⟨w.heap.size, 0, none⟩ = some (.int .u8 n) ∧ wr.cell? ⟨w.heap.size, 1, none⟩ = some (.int .i64 a) ∧ wr.cell? ⟨w.heap.size, 2, none⟩ = some (.int .i64 b) ∧ wr.cell? ⟨w.heap.size, 3, none⟩ = some (.int .i64 c) ∧ wr.cell? ⟨w.heap.size, 4, none⟩ = some (.int .i64 i)) (fun _ r _ => 16 - (intOf r).toNat)
  case atStart => exact ⟨0, by omega, rfl, own0, HB1, sz1_0, c1_0_0, c1_0_1, c1_0_2, c1_0_3, c1_0_4⟩
  case round =>
    obtain ⟨k, hk, rfl, own, HB, hsz, b0, b1, b2, b3, b4⟩ := hrel
    have hll := rL_le true false false a b c k
    by_cases hlt : k < 15
    · cases ta : (a == (k : Int) + 1)
      · have hp : rP true false false a b c ((k : Int) + 1) = false := by simp [rP, ta]
        have HP := Lib.hid hp
        clear hp
        have own2 := Lib.hid (own_no HP.out own)
        go_wp2_with fail
        go_roundw
        case rel => exact ⟨k + 1, by omega, by go_num, own2.out, HB, hsz, b0, b1, b2, b3, b4⟩
        case measure => simp [intOf]; omega
      · have hp : rP true false false a b c ((k : Int) + 1) = true := by simp [rP, ta]
        have HP := Lib.hid hp
        clear hp
        go_wp2_with (at_builtin; refine wpList_append_own _ rfl _ _ 45 rfl (w.heap.size + 1) 3 i0 (.int .i64 0) 1 8 Tryd.underlying45 hi hz0 hz1 hz2 rfl (by decide) _ _ _ rfl (own.alloc _) ⟨wr.heap.size, 0, none⟩ 1 1 [.int .i64 (k + 1)] rfl rfl ?_ ?_ ?_ ?_ ?_ ?_)
        · intro j u hj; have : j = 0 := by (cases j with | zero => rfl | succ j => simp at hj)
          subst this; simp at hj; subst hj; simp [Addr.add, go_sem]
        · simp [Value.oneCell']
        · unfold maxLen; omega
        · omega
        · simp; omega
        intro v1 u1 own1 gr1 _
        have own2 := Lib.hid (own_yes HP.out own1)
        have HU := Lib.hid ((show Below w.heap.size w (wr.alloc _) from by repeat (first | (with_reducible exact Below.refl _ _) | (with_reducible apply bDrewN) | (with_reducible apply Below.drew) | (with_reducible exact HB) | ((with_reducible apply bSet); (focus first | (simp; done) | (simp; omega) | omega)) | ((with_reducible apply bAlloc); (focus first | (simp; done) | (simp; omega) | omega)))).grown gr1 (by simp; omega) (fun k hk => by rcases own.2 with ⟨h, _⟩ | ⟨g, _, _, h, hg, _⟩ <;> (rw [h] at hk; simp [Value.ownBlock] at hk); omega))
        have d0 : u1.cell? ⟨w.heap.size, 0, none⟩ = some (.int .u8 n) := by rw [World.cell?_of_block (a := ⟨w.heap.size, 0, none⟩) (gr1.block w.heap.size (by simp; omega) (row_ne_low own (by omega)))]; simp [go_sem, *]
        have d1 : u1.cell? ⟨w.heap.size, 1, none⟩ = some (.int .i64 a) := by rw [World.cell?_of_block (a := ⟨w.heap.size, 1, none⟩) (gr1.block w.heap.size (by simp; omega) (row_ne_low own (by omega)))]; simp [go_sem, *]
        have d2 : u1.cell? ⟨w.heap.size, 2, none⟩ = some (.int .i64 b) := by rw [World.cell?_of_block (a := ⟨w.heap.size, 2, none⟩) (gr1.block w.heap.size (by simp; omega) (row_ne_low own (by omega)))]; simp [go_sem, *]
        have d3 : u1.cell? ⟨w.heap.size, 3, none⟩ = some (.int .i64 c) := by rw [World.cell?_of_block (a := ⟨w.heap.size, 3, none⟩) (gr1.block w.heap.size (by simp; omega) (row_ne_low own (by omega)))]; simp [go_sem, *]
        have d4 : u1.cell? ⟨w.heap.size, 4, none⟩ = some (.int .i64 i) := by rw [World.cell?_of_block (a := ⟨w.heap.size, 4, none⟩) (gr1.block w.heap.size (by simp; omega) (row_ne_low own (by omega)))]; simp [go_sem, *]
        have e0 : w.heap.size < u1.heap.size := by have := gr1.size; simp at this; omega
        clear gr1 own1 own b0 b1 b2 b3 b4 HB hsz
        go_wp2_with fail
        go_roundw
        case rel => exact ⟨k + 1, by omega, by go_num, own2.out, HU.out, e0, d0, d1, d2, d3, d4⟩
        case measure => simp [intOf]; omega
    · go_wp2_with fail
      go_ret
      obtain rfl : k = 15 := by omega
      exact ⟨_, rfl, SlI.mono (SlI.of_own own) (by omega), HB⟩

set_option maxHeartbeats 1600000 in
theorem rreads_ra27 (n : Nat) (a b c i : Int) (w : World) (hn : n < 30) (hv : vld n a b c i = true) (hs : rfS n = ⟨#[65]⟩) (h19 : ((n : Int) == 19) = false) (h21 : ((n : Int) == 21) = false) (h22 : ((n : Int) == 22) = false) (h23 : ((n : Int) == 23) = false) (h25 : ((n : Int) == 25) = false) (h27 : ((n : Int) == 27) = true) :
    Calls Tryd.prog 30 #[.agg #[.int .u8 n, .int .i64 a, .int .i64 b, .int .i64 c, .int .i64 i]] w (RdPost w (rL true false false a b c 15)) := by
  obtain ⟨i0, hi, hz0, hz1, hz2⟩ := info_parts info_int
  go_enter Tryd.func30, Tryd.ntmps30
  go_wp2_with fail
  refine (refValid_any n a b c i _).mono ?_
  rintro e w1 ⟨rfl, hb1⟩
  have sz1_0 : w.heap.size < w1.heap.size := by have h := hb1.size; first | (simp at h; omega) | omega
  have c1_0_0 : w1.cell? ⟨w.heap.size, 0, none⟩ = some (.int .u8 n) := by rw [hb1.cell (p := ⟨w.heap.size, 0, none⟩) (by first | (simp; done) | (simp; omega) | omega)]; first | assumption | (simp [go_sem]; done) | (simp [go_sem, *]; done)
  have c1_0_1 : w1.cell? ⟨w.heap.size, 1, none⟩ = some (.int .i64 a) := by rw [hb1.cell (p := ⟨w.heap.size, 1, none⟩) (by first | (simp; done) | (simp; omega) | omega)]; first | assumption | (simp [go_sem]; done) | (simp [go_sem, *]; done)
  have c1_0_2 : w1.cell? ⟨w.heap.size, 2, none⟩ = some (.int .i64 b) := by rw [hb1.cell (p := ⟨w.heap.size, 2, none⟩) (by first | (simp; done) | (simp; omega) | omega)]; first | assumption | (simp [go_sem]; done) | (simp [go_sem, *]; done)
  have c1_0_3 : w1.cell? ⟨w.heap.size, 3, none⟩ = some (.int .i64 c) := by rw [hb1.cell (p := ⟨w.heap.size, 3, none⟩) (by first | (simp; done) | (simp; omega) | omega)]; first | assumption | (simp [go_sem]; done) | (simp [go_sem, *]; done)
  have c1_0_4 : w1.cell? ⟨w.heap.size, 4, none⟩ = some (.int .i64 i) := by rw [hb1.cell (p := ⟨w.heap.size, 4, none⟩) (by first | (simp; done) | (simp; omega) | omega)]; first | assumption | (simp [go_sem]; done) | (simp [go_sem, *]; done)
  have HB1 : Below w.heap.size w w1 := by
    repeat (first | (with_reducible exact Below.refl _ _) | (with_reducible apply bDrewN) | (with_reducible apply Below.drew) | ((with_reducible apply bThen hb1); (focus first | (simp; done) | (simp; omega) | omega)) | ((with_reducible apply bSet); (focus first | (simp; done) | (simp; omega) | omega)) | ((with_reducible apply bAlloc); (focus first | (simp; done) | (simp; omega) | omega)))
  have hsz1 := HB1.size
  have own0 : w1.ownsRow (w.heap.size + 1) 3 1 (.slice (some ⟨w.heap.size + 1, 0, none⟩) 0 0) 0 [] := ⟨rfl, .inr ⟨_, 0, #[], rfl, by omega, by rw [hb1.block _ (by simp)]; exact two_alloc _ _ _, by omega, by unfold maxLen; omega, rfl, rfl⟩⟩
  clear hb1 
  go_wp2_with fail
  refine (format_any n _ hn).mono ?_
  rintro e w' ⟨rfl, rfl⟩
  go_wp2_with fail
  go_loopw [3, 9] (fun v r wr => ∃ k : Nat, k ≤ 15 ∧ r = .int .i64 (k + 1) ∧ wr.ownsRow (w.heap.size + 1) 3 1 v (rL true false false a b c k).length ((rL true false false a b c k).map (Value.int .i64)) ∧ Below w.heap.size w wr ∧ w.heap.size < wr.heap.size ∧ wr.cell? ⟨w.heap.size, 0, none⟩ = some (.int .u8 n) ∧ wr.cell? ⟨w.heap.size, 1, none⟩ = some (.int .i64 a) ∧ wr.cell? ⟨w.heap.size, 2, none⟩ = some (.int .i64 b) ∧ wr.cell? ⟨w.heap.size, 3, none⟩ = some (.int .i64 c) ∧ wr.cell? ⟨w.heap.size, 4, none⟩ = some (.int .i64 i)) (fun _ r _ => 16 - (intOf r).toNat)
  case atStart => exact ⟨0, by omega, rfl, own0, HB1, sz1_0, c1_0_0, c1_0_1, c1_0_2, c1_0_3, c1_0_4⟩
  case round =>
    obtain ⟨k, hk, rfl, own, HB, hsz, b0, b1, b2, b3, b4⟩ := hrel
    have hll := rL_le true false false a b c k
    by_cases hlt : k < 15
    · cases ta : (a == (k : Int) + 1)
      · have hp : rP true false false a b c ((k : Int) + 1) = false := by simp [rP, ta]
        have HP := Lib.hid hp
        clear hp
        have own2 := Lib.hid (own_no HP.out own)
        go_wp2_with fail
        go_roundw
        case rel => exact ⟨k + 1, by omega, by go_num, own2.out, HB, hsz, b0, b1, b2, b3, b4⟩
        case measure => simp [intOf]; omega
      · have hp : rP true false false a b c ((k : Int) + 1) = true := by simp [rP, ta]
        have HP := Lib.hid hp
        clear hp
        go_wp2_with (at_builtin; refine wpList_append_own _ rfl _ _ 45 rfl (w.heap.size + 1) 3 i0 (.int .i64 0) 1 8 Tryd.underlying45 hi hz0 hz1 hz2 rfl (by decide) _ _ _ rfl (own.alloc _) ⟨wr.heap.size, 0, none⟩ 1 1 [.int .i64 (k + 1)] rfl rfl ?_ ?_ ?_ ?_ ?_ ?_)
        · intro j u hj; have : j = 0 := by (cases j with | zero => rfl | succ j => simp at hj)
          subst this; simp at hj; subst hj; simp [Addr.add, go_sem]
        · simp [Value.oneCell']
        · unfold maxLen; omega
        · omega
        · simp; omega
        intro v1 u1 own1 gr1 _
        have own2 := Lib.hid (own_yes HP.out own1)
        have HU := Lib.hid ((show Below w.heap.size w (wr.alloc _) from by repeat (first | (with_reducible exact Below.refl _ _) | (with_reducible apply bDrewN) | (with_reducible apply Below.drew) | (with_reducible exact HB) | ((with_reducible apply bSet); (focus first | (simp; done) | (simp; omega) | omega)) | ((with_reducible apply bAlloc); (focus first | (simp; done) | (simp; omega) | omega)))).grown gr1 (by simp; omega) (fun k hk => by rcases own.2 with ⟨h, _⟩ | ⟨g, _, _, h, hg, _⟩ <;> (rw [h] at hk; simp [Value.ownBlock] at hk); omega))
        have d0 : u1.cell? ⟨w.heap.size, 0, none⟩ = some (.int .u8 n) := by rw [World.cell?_of_block (a := ⟨w.heap.size, 0, none⟩) (gr1.block w.heap.size (by simp; omega) (row_ne_low own (by omega)))]; simp [go_sem, *]
        have d1 : u1.cell? ⟨w.heap.size, 1, none⟩ = some (.int .i64 a) := by rw [World.cell?_of_block (a := ⟨w.heap.size, 1, none⟩) (gr1.block w.heap.size (by simp; omega) (row_ne_low own (by omega)))]; simp [go_sem, *]
        have d2 : u1.cell? ⟨w.heap.size, 2, none⟩ = some (.int .i64 b) := by rw [World.cell?_of_block (a := ⟨w.heap.size, 2, none⟩) (gr1.block w.heap.size (by simp; omega) (row_ne_low own (by omega)))]; simp [go_sem, *]
        have d3 : u1.cell? ⟨w.heap.size, 3, none⟩ = some (.int .i64 c) := by rw [World.cell?_of_block (a := ⟨w.heap.size, 3, none⟩) (gr1.block w.heap.size (by simp; omega) (row_ne_low own (by omega)))]; simp [go_sem, *]
        have d4 : u1.cell? ⟨w.heap.size, 4, none⟩ = some (.int .i64 i) := by rw [World.cell?_of_block (a := ⟨w.heap.size, 4, none⟩) (gr1.block w.heap.size (by simp; omega) (row_ne_low own (by omega)))]; simp [go_sem, *]
        have e0 : w.heap.size < u1.heap.size := by have := gr1.size; simp at this; omega
        clear gr1 own1 own b0 b1 b2 b3 b4 HB hsz
        go_wp2_with fail
        go_roundw
        case rel => exact ⟨k + 1, by omega, by go_num, own2.out, HU.out, e0, d0, d1, d2, d3, d4⟩
        case measure => simp [intOf]; omega
    · go_wp2_with fail
      go_ret
      obtain rfl : k = 15 := by omega
      exact ⟨_, rfl, SlI.mono (SlI.of_own own) (by omega), HB⟩

/-- The opcodes whose register A is read. -/
def rA (n : Nat) : Bool := n == 19 || n == 21 || n == 22 || n == 23 || n == 25 || n == 27
def rrl (n : Nat) (a b c i : Int) : List Int := if vld n a b c i then rL (rA n) (uB n) (uC n) a b c 15 else []

theorem rreads_any (n : Nat) (a b c i : Int) (w : World) : Calls Tryd.prog 30 #[.agg #[.int .u8 n, .int .i64 a, .int .i64 b, .int .i64 c, .int .i64 i]] w (RdPost w (rrl n a b c i)) := by
  cases hv : vld n a b c i
  · refine (rreads_no n a b c i w hv).mono ?_
    rintro e w' ⟨⟨v, rfl, hs⟩, hb⟩
    exact ⟨_, rfl, by simpa [rrl, hv] using hs, hb⟩
  · have hn := (vld_bd hv).1
    unfold rrl
    rw [if_pos hv]
    by_cases h19 : n = 19
    · subst h19; exact rreads_rab19 19 a b c i w hn hv rfl rfl
    by_cases h21 : n = 21
    · subst h21; exact rreads_rab21 21 a b c i w hn hv rfl rfl rfl
    by_cases h22 : n = 22
    · subst h22; exact rreads_ra22 22 a b c i w hn hv rfl rfl rfl rfl
    by_cases h23 : n = 23
    · subst h23; exact rreads_ra23 23 a b c i w hn hv rfl rfl rfl rfl rfl
    by_cases h25 : n = 25
    · subst h25; exact rreads_ra25 25 a b c i w hn hv rfl rfl rfl rfl rfl rfl
    by_cases h27 : n = 27
    · subst h27; exact rreads_ra27 27 a b c i w hn hv rfl rfl rfl rfl rfl rfl rfl
    have hr : rA n = false := by simp [rA, h19, h21, h22, h23, h25, h27]
    have g19 : ((n : Int) == 19) = false := by simp; omega
    have g21 : ((n : Int) == 21) = false := by simp; omega
    have g22 : ((n : Int) == 22) = false := by simp; omega
    have g23 : ((n : Int) == 23) = false := by simp; omega
    have g25 : ((n : Int) == 25) = false := by simp; omega
    have g27 : ((n : Int) == 27) = false := by simp; omega
    rw [hr]
    rcases shape n hn with ⟨h, h1, h2, h3, h4⟩ | ⟨h, h1, h2, h3, h4⟩ | ⟨h, h1, h2, h3, h4⟩ | ⟨h, h1, h2, h3, h4⟩ | ⟨h, h1, h2, h3, h4⟩
    all_goals rw [h2, h3]
    · exact rreads_n n a b c i w hn hv (by simp [rfS, h1, h2, h3]) g19 g21 g22 g23 g25 g27
    · exact rreads_abc n a b c i w hn hv (by simp [rfS, h1, h2, h3]) g19 g21 g22 g23 g25 g27
    · exact rreads_a n a b c i w hn hv (by simp [rfS, h1, h2, h3]) g19 g21 g22 g23 g25 g27
    · exact rreads_ab n a b c i w hn hv (by simp [rfS, h1, h2, h3]) g19 g21 g22 g23 g25 g27
    · exact rreads_n n a b c i w hn hv (by simp [rfS, h1, h2, h3]) g19 g21 g22 g23 g25 g27

theorem fwr_eq : ∀ (n : Nat), n < 30 → fwr n = (decide (2 ≤ n) && decide (n ≤ 18) || n == 20 || n == 26) := by
  intro n hn
  have h : ∀ k : Fin 30, fwr k = (decide (2 ≤ k.val) && decide (k.val ≤ 18) || k.val == 20 || k.val == 26) := by decide
  exact h ⟨n, hn⟩
theorem ret_int {k : IntKind} {a b : Int} (h : a = b) : Ending.returned (.int k a) = .returned (.int k b) := by rw [h]

set_option maxHeartbeats 800000 in
theorem rwrites_any (n : Nat) (a b c i : Int) (w : World) :
    Calls Tryd.prog 28 #[.agg #[.int .u8 n, .int .i64 a, .int .i64 b, .int .i64 c, .int .i64 i]] w fun e w' => e = .returned (.int .i64 (wrR n a b c i)) ∧ Below w.heap.size w w' := by
  cases hv : vld n a b c i
  · have e : wrR n a b c i = 0 := by simp [wrR, hv]
    rw [e]
    go_enter Tryd.func28, Tryd.ntmps28
    go_wp2_with fail
    refine (refValid_any n a b c i _).mono ?_
    rintro e w1 ⟨rfl, hb1⟩
    have sz1_0 : w.heap.size < w1.heap.size := by have h := hb1.size; first | (simp at h; omega) | omega
    have c1_0_0 : w1.cell? ⟨w.heap.size, 0, none⟩ = some (.int .u8 n) := by rw [hb1.cell (p := ⟨w.heap.size, 0, none⟩) (by first | (simp; done) | (simp; omega) | omega)]; first | assumption | (simp [go_sem]; done) | (simp [go_sem, *]; done)
    have c1_0_1 : w1.cell? ⟨w.heap.size, 1, none⟩ = some (.int .i64 a) := by rw [hb1.cell (p := ⟨w.heap.size, 1, none⟩) (by first | (simp; done) | (simp; omega) | omega)]; first | assumption | (simp [go_sem]; done) | (simp [go_sem, *]; done)
    have c1_0_2 : w1.cell? ⟨w.heap.size, 2, none⟩ = some (.int .i64 b) := by rw [hb1.cell (p := ⟨w.heap.size, 2, none⟩) (by first | (simp; done) | (simp; omega) | omega)]; first | assumption | (simp [go_sem]; done) | (simp [go_sem, *]; done)
    have c1_0_3 : w1.cell? ⟨w.heap.size, 3, none⟩ = some (.int .i64 c) := by rw [hb1.cell (p := ⟨w.heap.size, 3, none⟩) (by first | (simp; done) | (simp; omega) | omega)]; first | assumption | (simp [go_sem]; done) | (simp [go_sem, *]; done)
    have c1_0_4 : w1.cell? ⟨w.heap.size, 4, none⟩ = some (.int .i64 i) := by rw [hb1.cell (p := ⟨w.heap.size, 4, none⟩) (by first | (simp; done) | (simp; omega) | omega)]; first | assumption | (simp [go_sem]; done) | (simp [go_sem, *]; done)
    have HB1 : Below w.heap.size w w1 := by
      repeat (first | (with_reducible exact Below.refl _ _) | (with_reducible apply bDrewN) | (with_reducible apply Below.drew) | ((with_reducible apply bThen hb1); (focus first | (simp; done) | (simp; omega) | omega)) | ((with_reducible apply bSet); (focus first | (simp; done) | (simp; omega) | omega)) | ((with_reducible apply bAlloc); (focus first | (simp; done) | (simp; omega) | omega)))
    have hsz1 := HB1.size
    clear hb1 
    go_wp2_with fail
    go_ret
    refine ⟨rfl, ?_⟩
    (repeat (first | (with_reducible exact Below.refl _ _) | (with_reducible apply bDrewN) | (with_reducible apply Below.drew) | (with_reducible exact HB1) | ((with_reducible apply bSet); (focus first | (simp; done) | (simp; omega) | omega)) | ((with_reducible apply bAlloc); (focus first | (simp; done) | (simp; omega) | omega))))
  · have hn := (vld_bd hv).1
    have hw := fwr_eq n hn
    have E : wrR n a b c i = if (decide (2 ≤ n) && decide (n ≤ 18) || n == 20 || n == 26) then a else 0 := by simp [wrR, hv, hw]
    have EH := Lib.hid E
    clear E hw
    have hn2 : (n : Int) < 30 := by omega
    cases g20 : ((n : Int) == 20) <;> cases g26 : ((n : Int) == 26)
    all_goals
      have k20 : n = 20 ↔ ((n : Int) == 20) = true := by simp; omega
      have k26 : n = 26 ↔ ((n : Int) == 26) = true := by simp; omega
      rw [g20] at k20
      rw [g26] at k26
      have K := Lib.hid (And.intro k20 k26)
      clear k20 k26
      go_enter Tryd.func28, Tryd.ntmps28
      go_wp2_with fail
      refine (refValid_any n a b c i _).mono ?_
      rintro e w1 ⟨rfl, hb1⟩
      have sz1_0 : w.heap.size < w1.heap.size := by have h := hb1.size; first | (simp at h; omega) | omega
      have c1_0_0 : w1.cell? ⟨w.heap.size, 0, none⟩ = some (.int .u8 n) := by rw [hb1.cell (p := ⟨w.heap.size, 0, none⟩) (by first | (simp; done) | (simp; omega) | omega)]; first | assumption | (simp [go_sem]; done) | (simp [go_sem, *]; done)
      have c1_0_1 : w1.cell? ⟨w.heap.size, 1, none⟩ = some (.int .i64 a) := by rw [hb1.cell (p := ⟨w.heap.size, 1, none⟩) (by first | (simp; done) | (simp; omega) | omega)]; first | assumption | (simp [go_sem]; done) | (simp [go_sem, *]; done)
      have c1_0_2 : w1.cell? ⟨w.heap.size, 2, none⟩ = some (.int .i64 b) := by rw [hb1.cell (p := ⟨w.heap.size, 2, none⟩) (by first | (simp; done) | (simp; omega) | omega)]; first | assumption | (simp [go_sem]; done) | (simp [go_sem, *]; done)
      have c1_0_3 : w1.cell? ⟨w.heap.size, 3, none⟩ = some (.int .i64 c) := by rw [hb1.cell (p := ⟨w.heap.size, 3, none⟩) (by first | (simp; done) | (simp; omega) | omega)]; first | assumption | (simp [go_sem]; done) | (simp [go_sem, *]; done)
      have c1_0_4 : w1.cell? ⟨w.heap.size, 4, none⟩ = some (.int .i64 i) := by rw [hb1.cell (p := ⟨w.heap.size, 4, none⟩) (by first | (simp; done) | (simp; omega) | omega)]; first | assumption | (simp [go_sem]; done) | (simp [go_sem, *]; done)
      have HB1 : Below w.heap.size w w1 := by
        repeat (first | (with_reducible exact Below.refl _ _) | (with_reducible apply bDrewN) | (with_reducible apply Below.drew) | ((with_reducible apply bThen hb1); (focus first | (simp; done) | (simp; omega) | omega)) | ((with_reducible apply bSet); (focus first | (simp; done) | (simp; omega) | omega)) | ((with_reducible apply bAlloc); (focus first | (simp; done) | (simp; omega) | omega)))
      have hsz1 := HB1.size
      clear hb1 
      go_wp2_with fail
      all_goals have KK := K.out
      all_goals simp only [Bool.false_eq_true, iff_false, iff_true] at KK
      all_goals go_ret
      all_goals refine ⟨ret_int ?_, by repeat (first | (with_reducible exact Below.refl _ _) | (with_reducible apply bDrewN) | (with_reducible apply Below.drew) | (with_reducible exact HB1) | ((with_reducible apply bSet); (focus first | (simp; done) | (simp; omega) | omega)) | ((with_reducible apply bAlloc); (focus first | (simp; done) | (simp; omega) | omega)))⟩
      all_goals rw [EH.out]
      all_goals first | (rw [if_pos (by simp; omega)]; done) | (rw [if_neg (by simp; omega)]; done) | (rw [if_pos (by simp; omega)]) | (rw [if_neg (by simp; omega)])

end Go.Proofs.YtjfenhnlonbmmaaDoor
