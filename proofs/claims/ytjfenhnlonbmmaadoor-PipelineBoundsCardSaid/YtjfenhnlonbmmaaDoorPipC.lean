/- Layer 8: Sequence and its reference over a list of instructions. -/
import Derived.Test.YtjfenhnlonbmmaaDoorPipB
import Derived.IntWalk
set_option linter.unusedVariables false
set_option linter.unusedSimpArgs false
namespace Go.Proofs.YtjfenhnlonbmmaaDoor
open Go.RowKit Go.Sort

structure Ins where
  n : Nat
  a : Int
  b : Int
  c : Int
  i : Int
instance : Inhabited Ins := ⟨⟨0, 0, 0, 0, 0⟩⟩

/-- The cells of the k-th instruction of a list that begins at ⟨lb, lo⟩. -/
def InsCells (w : World) (lb lo k : Nat) (x : Ins) : Prop :=
  w.cell? ⟨lb, lo + k * 5, none⟩ = some (.int .u8 x.n) ∧ w.cell? ⟨lb, lo + k * 5 + 1, none⟩ = some (.int .i64 x.a) ∧ w.cell? ⟨lb, lo + k * 5 + 2, none⟩ = some (.int .i64 x.b) ∧
  w.cell? ⟨lb, lo + k * 5 + 3, none⟩ = some (.int .i64 x.c) ∧ w.cell? ⟨lb, lo + k * 5 + 4, none⟩ = some (.int .i64 x.i)
/-- A slice that reads as these instructions. -/
def InsAt (w : World) (v : Value) (l : List Ins) : Prop :=
  ∃ p cap, v = .slice p l.length cap ∧ (l = [] ∨ ∃ lb lo, p = some ⟨lb, lo, none⟩ ∧ lb < w.heap.size ∧ ∀ k, k < l.length → InsCells w lb lo k (l.getD k default))
theorem InsCells.below {B : Nat} {w w' : World} {lb lo k : Nat} {x : Ins} (h : InsCells w lb lo k x) (hb : Below B w w') (hB : lb < B) : InsCells w' lb lo k x := by
  obtain ⟨h0, h1, h2, h3, h4⟩ := h
  exact ⟨(hb.cell (p := ⟨lb, lo + k * 5, none⟩) hB).trans h0, (hb.cell (p := ⟨lb, lo + k * 5 + 1, none⟩) hB).trans h1, (hb.cell (p := ⟨lb, lo + k * 5 + 2, none⟩) hB).trans h2, (hb.cell (p := ⟨lb, lo + k * 5 + 3, none⟩) hB).trans h3, (hb.cell (p := ⟨lb, lo + k * 5 + 4, none⟩) hB).trans h4⟩
theorem InsAt.below {B : Nat} {w w' : World} {v : Value} {l : List Ins} (h : InsAt w v l) (hb : Below B w w') (hB : w.heap.size ≤ B) : InsAt w' v l := by
  obtain ⟨p, cap, rfl, h⟩ := h
  refine ⟨p, cap, rfl, ?_⟩
  rcases h with h | ⟨lb, lo, rfl, hlb, h⟩
  · exact .inl h
  · exact .inr ⟨lb, lo, rfl, Nat.lt_of_lt_of_le hlb hb.size, fun k hk => (h k hk).below hb (Nat.lt_of_lt_of_le hlb hB)⟩

def nxI (x : Ins) : Int := nxt x.n x.a x.b x.c x.i
def cyI (m d t h s : Int) (x : Ins) : Int := cyc m d t h s x.n x.a x.b x.c x.i false
/-- The time of a sequence. -/
def sqT (m d t h : Int) : Int → List Ins → Int
  | _, [] => 0
  | s, x :: l => cyI m d t h s x + sqT m d t h (nxI x) l
/-- The state after a sequence. -/
def sqS : Int → List Ins → Int
  | s, [] => s
  | _, x :: l => sqS (nxI x) l
theorem sqS_append (s : Int) (l l' : List Ins) : sqS s (l ++ l') = sqS (sqS s l) l' := by
  induction l generalizing s with
  | nil => rfl
  | cons x l ih => exact ih _
theorem sqT_append (m d t h s : Int) (l l' : List Ins) : sqT m d t h s (l ++ l') = sqT m d t h s l + sqT m d t h (sqS s l) l' := by
  induction l generalizing s with
  | nil => simp [sqT, sqS]
  | cons x l ih => simp only [List.cons_append, sqT, sqS]; rw [ih]; omega
theorem take_one {l : List Ins} {k : Nat} (hk : k < l.length) : l.take (k + 1) = l.take k ++ [l.getD k default] := by
  rw [List.take_add_one, List.getElem?_eq_getElem hk, List.getD_eq_getElem?_getD, List.getElem?_eq_getElem hk]; rfl
theorem sqS_take {l : List Ins} {k : Nat} (hk : k < l.length) (s : Int) {x : Ins} (hx : l.getD k default = x) : sqS s (l.take (k + 1)) = nxI x := by
  rw [take_one hk, sqS_append, hx]; rfl
theorem sqT_take (m d t h : Int) {l : List Ins} {k : Nat} (hk : k < l.length) (s : Int) {x : Ins} (hx : l.getD k default = x) : sqT m d t h s (l.take (k + 1)) = sqT m d t h s (l.take k) + cyI m d t h (sqS s (l.take k)) x := by
  rw [take_one hk, sqT_append, hx]; simp [sqT]
theorem cyI_bd {m d t h : Int} (hm : 0 ≤ m ∧ m ≤ 1000) (hd : 0 ≤ d ∧ d ≤ 1000) (ht : 0 ≤ t ∧ t ≤ 1000) (hh : 0 ≤ h ∧ h ≤ 1000) (s : Int) (x : Ins) : 1 ≤ cyI m d t h s x ∧ cyI m d t h s x ≤ 2001 := by
  have := lst_bd x.n hm hd
  unfold cyI cyc
  split <;> simp <;> omega

set_option maxHeartbeats 3200000 in
theorem seq_any (m d t h s : Int) (v : Value) (l : List Ins) (w : World) (hT : Tab w) (hv : InsAt w v l) (hl : l.length ≤ 40) (hm : 0 ≤ m ∧ m ≤ 1000) (hd : 0 ≤ d ∧ d ≤ 1000) (ht : 0 ≤ t ∧ t ≤ 1000) (hh : 0 ≤ h ∧ h ≤ 1000) :
    Calls Tryd.prog 18 #[.agg #[.int .i64 m, .int .i64 d, .int .i64 t, .int .i64 h], .int .i64 s, v] w fun e w' => e = .returned (.tuple #[.int .i64 (sqT m d t h s l), .int .i64 (sqS s l)]) ∧ Below w.heap.size w w' := by
  obtain ⟨p, cap, rfl, hp⟩ := hv
  have HP := Lib.hid hp
  clear hp
  have hz := hT.size
  go_enter Tryd.func18, Tryd.ntmps18
  go_wp2_with fail
  go_loopw [1, 8, 13] (fun sv tv r wr => ∃ (k : Nat) (S Q : Int), k ≤ l.length ∧ sv = .int .i64 S ∧ tv = .int .i64 Q ∧ r = .int .i64 k ∧ Hid (S = sqS s (l.take k)) ∧ Hid (Q = sqT m d t h s (l.take k)) ∧ 0 ≤ Q ∧ Q ≤ 2001 * k ∧ Below w.heap.size w wr ∧ w.heap.size < wr.heap.size ∧
    wr.cell? ⟨w.heap.size, 0, none⟩ = some (.int .i64 m) ∧ wr.cell? ⟨w.heap.size, 1, none⟩ = some (.int .i64 d) ∧ wr.cell? ⟨w.heap.size, 2, none⟩ = some (.int .i64 t) ∧ wr.cell? ⟨w.heap.size, 3, none⟩ = some (.int .i64 h)) (fun _ _ r _ => l.length - (intOf r).toNat)
  case atStart => exact ⟨0, s, 0, by omega, rfl, rfl, rfl, rfl, rfl, by omega, by omega, bAlloc (Nat.le_refl _) (Below.refl _ _), by simp, by simp [go_sem], by simp [go_sem], by simp [go_sem], by simp [go_sem]⟩
  case round =>
    obtain ⟨k, S, Q, hk, rfl, rfl, rfl, hS, hQ, hQ0, hQ1, HB0, sz0, c0_0, c0_1, c0_2, c0_3⟩ := hrel
    have hT0 : Tab wr := Tab.of_below hT HB0
    by_cases hlt : k < l.length
    · have hkI : (k : Int) < l.length := by omega
      have hP := HP.out
      rcases hP with rfl | ⟨lb, lo, rfl, hlb, hP⟩
      · simp at hlt
      have hI := (hP k hlt).below HB0 hlb
      clear hP
      have hlb' : lb < wr.heap.size := Nat.lt_of_lt_of_le hlb HB0.size
      generalize hx : l.getD k default = x at hI
      have HX := Lib.hid hx
      clear hx
      obtain ⟨n, a, b, c, i⟩ := x
      obtain ⟨i0, i1, i2, i3, i4⟩ := hI
      simp only at i0 i1 i2 i3 i4
      have hcb := cyI_bd hm hd ht hh S ⟨n, a, b, c, i⟩
      have hwr : IntKind.i64.wrap (Q + cyI m d t h S ⟨n, a, b, c, i⟩) = Q + cyI m d t h S ⟨n, a, b, c, i⟩ := IntWalk.i64_in _ (by omega)
      have HCY := Lib.hid (fun (w : World) (hT : Tab w) => cycles_any m d t h S n a b c i false w hT hm hd ht hh)
      rw [show cyc m d t h S n a b c i false = cyI m d t h S ⟨n, a, b, c, i⟩ from rfl] at HCY
      generalize hy : cyI m d t h S ⟨n, a, b, c, i⟩ = y at *
      have HY := Lib.hid hy
      clear hy
      go_wp2_with fail
      refine (HCY.out _ (Tab.of_below hT0 (by repeat (first | (with_reducible exact Below.refl _ _) | (with_reducible apply bDrewN) | (with_reducible apply Below.drew) | ((with_reducible apply bSet); (focus first | (simp; done) | (simp; omega) | omega)) | ((with_reducible apply bAlloc); (focus first | (simp; done) | (simp; omega) | omega)))))).mono ?_
      rintro e w1 ⟨rfl, hb1⟩
      have hT1 : Tab w1 := Tab.of_below (Tab.of_below hT0 (by repeat (first | (with_reducible exact Below.refl _ _) | (with_reducible apply bDrewN) | (with_reducible apply Below.drew) | ((with_reducible apply bSet); (focus first | (simp; done) | (simp; omega) | omega)) | ((with_reducible apply bAlloc); (focus first | (simp; done) | (simp; omega) | omega))))) hb1
      have sz1_0 : w.heap.size < w1.heap.size := by have h := hb1.size; first | (simp at h; omega) | omega
      have c1_0_0 : w1.cell? ⟨w.heap.size, 0, none⟩ = some (.int .i64 m) := by rw [hb1.cell (p := ⟨w.heap.size, 0, none⟩) (by first | (simp; done) | (simp; omega) | omega)]; first | assumption | (simp [go_sem]; done) | (simp [go_sem, *]; done)
      have c1_0_1 : w1.cell? ⟨w.heap.size, 1, none⟩ = some (.int .i64 d) := by rw [hb1.cell (p := ⟨w.heap.size, 1, none⟩) (by first | (simp; done) | (simp; omega) | omega)]; first | assumption | (simp [go_sem]; done) | (simp [go_sem, *]; done)
      have c1_0_2 : w1.cell? ⟨w.heap.size, 2, none⟩ = some (.int .i64 t) := by rw [hb1.cell (p := ⟨w.heap.size, 2, none⟩) (by first | (simp; done) | (simp; omega) | omega)]; first | assumption | (simp [go_sem]; done) | (simp [go_sem, *]; done)
      have c1_0_3 : w1.cell? ⟨w.heap.size, 3, none⟩ = some (.int .i64 h) := by rw [hb1.cell (p := ⟨w.heap.size, 3, none⟩) (by first | (simp; done) | (simp; omega) | omega)]; first | assumption | (simp [go_sem]; done) | (simp [go_sem, *]; done)
      have sz1_1 : wr.heap.size < w1.heap.size := by have h := hb1.size; first | (simp at h; omega) | omega
      have c1_1_0 : w1.cell? ⟨wr.heap.size, 0, none⟩ = some (.int .u8 n) := by rw [hb1.cell (p := ⟨wr.heap.size, 0, none⟩) (by first | (simp; done) | (simp; omega) | omega)]; first | assumption | (simp [go_sem]; done) | (simp [go_sem, *]; done)
      have c1_1_1 : w1.cell? ⟨wr.heap.size, 1, none⟩ = some (.int .i64 a) := by rw [hb1.cell (p := ⟨wr.heap.size, 1, none⟩) (by first | (simp; done) | (simp; omega) | omega)]; first | assumption | (simp [go_sem]; done) | (simp [go_sem, *]; done)
      have c1_1_2 : w1.cell? ⟨wr.heap.size, 2, none⟩ = some (.int .i64 b) := by rw [hb1.cell (p := ⟨wr.heap.size, 2, none⟩) (by first | (simp; done) | (simp; omega) | omega)]; first | assumption | (simp [go_sem]; done) | (simp [go_sem, *]; done)
      have c1_1_3 : w1.cell? ⟨wr.heap.size, 3, none⟩ = some (.int .i64 c) := by rw [hb1.cell (p := ⟨wr.heap.size, 3, none⟩) (by first | (simp; done) | (simp; omega) | omega)]; first | assumption | (simp [go_sem]; done) | (simp [go_sem, *]; done)
      have c1_1_4 : w1.cell? ⟨wr.heap.size, 4, none⟩ = some (.int .i64 i) := by rw [hb1.cell (p := ⟨wr.heap.size, 4, none⟩) (by first | (simp; done) | (simp; omega) | omega)]; first | assumption | (simp [go_sem]; done) | (simp [go_sem, *]; done)
      have HB1 : Below w.heap.size w w1 := by
        repeat (first | (with_reducible exact Below.refl _ _) | (with_reducible apply bDrewN) | (with_reducible apply Below.drew) | (with_reducible exact HB0) | ((with_reducible apply bThen hb1); (focus first | (simp; done) | (simp; omega) | omega)) | ((with_reducible apply bSet); (focus first | (simp; done) | (simp; omega) | omega)) | ((with_reducible apply bAlloc); (focus first | (simp; done) | (simp; omega) | omega)))
      have hsz1 := HB1.size
      clear hb1 sz0 c0_0 c0_1 c0_2 c0_3
      go_wp2_with fail
      refine (next_any n a b c i _ (Tab.of_below hT1 (by repeat (first | (with_reducible exact Below.refl _ _) | (with_reducible apply bDrewN) | (with_reducible apply Below.drew) | ((with_reducible apply bSet); (focus first | (simp; done) | (simp; omega) | omega)) | ((with_reducible apply bAlloc); (focus first | (simp; done) | (simp; omega) | omega)))))).mono ?_
      rintro e w2 ⟨rfl, hb2⟩
      have hT2 : Tab w2 := Tab.of_below (Tab.of_below hT1 (by repeat (first | (with_reducible exact Below.refl _ _) | (with_reducible apply bDrewN) | (with_reducible apply Below.drew) | ((with_reducible apply bSet); (focus first | (simp; done) | (simp; omega) | omega)) | ((with_reducible apply bAlloc); (focus first | (simp; done) | (simp; omega) | omega))))) hb2
      have sz2_0 : w.heap.size < w2.heap.size := by have h := hb2.size; first | (simp at h; omega) | omega
      have c2_0_0 : w2.cell? ⟨w.heap.size, 0, none⟩ = some (.int .i64 m) := by rw [hb2.cell (p := ⟨w.heap.size, 0, none⟩) (by first | (simp; done) | (simp; omega) | omega)]; first | assumption | (simp [go_sem]; done) | (simp [go_sem, *]; done)
      have c2_0_1 : w2.cell? ⟨w.heap.size, 1, none⟩ = some (.int .i64 d) := by rw [hb2.cell (p := ⟨w.heap.size, 1, none⟩) (by first | (simp; done) | (simp; omega) | omega)]; first | assumption | (simp [go_sem]; done) | (simp [go_sem, *]; done)
      have c2_0_2 : w2.cell? ⟨w.heap.size, 2, none⟩ = some (.int .i64 t) := by rw [hb2.cell (p := ⟨w.heap.size, 2, none⟩) (by first | (simp; done) | (simp; omega) | omega)]; first | assumption | (simp [go_sem]; done) | (simp [go_sem, *]; done)
      have c2_0_3 : w2.cell? ⟨w.heap.size, 3, none⟩ = some (.int .i64 h) := by rw [hb2.cell (p := ⟨w.heap.size, 3, none⟩) (by first | (simp; done) | (simp; omega) | omega)]; first | assumption | (simp [go_sem]; done) | (simp [go_sem, *]; done)
      have sz2_1 : wr.heap.size < w2.heap.size := by have h := hb2.size; first | (simp at h; omega) | omega
      have c2_1_0 : w2.cell? ⟨wr.heap.size, 0, none⟩ = some (.int .u8 n) := by rw [hb2.cell (p := ⟨wr.heap.size, 0, none⟩) (by first | (simp; done) | (simp; omega) | omega)]; first | assumption | (simp [go_sem]; done) | (simp [go_sem, *]; done)
      have c2_1_1 : w2.cell? ⟨wr.heap.size, 1, none⟩ = some (.int .i64 a) := by rw [hb2.cell (p := ⟨wr.heap.size, 1, none⟩) (by first | (simp; done) | (simp; omega) | omega)]; first | assumption | (simp [go_sem]; done) | (simp [go_sem, *]; done)
      have c2_1_2 : w2.cell? ⟨wr.heap.size, 2, none⟩ = some (.int .i64 b) := by rw [hb2.cell (p := ⟨wr.heap.size, 2, none⟩) (by first | (simp; done) | (simp; omega) | omega)]; first | assumption | (simp [go_sem]; done) | (simp [go_sem, *]; done)
      have c2_1_3 : w2.cell? ⟨wr.heap.size, 3, none⟩ = some (.int .i64 c) := by rw [hb2.cell (p := ⟨wr.heap.size, 3, none⟩) (by first | (simp; done) | (simp; omega) | omega)]; first | assumption | (simp [go_sem]; done) | (simp [go_sem, *]; done)
      have c2_1_4 : w2.cell? ⟨wr.heap.size, 4, none⟩ = some (.int .i64 i) := by rw [hb2.cell (p := ⟨wr.heap.size, 4, none⟩) (by first | (simp; done) | (simp; omega) | omega)]; first | assumption | (simp [go_sem]; done) | (simp [go_sem, *]; done)
      have HB2 : Below w.heap.size w w2 := by
        repeat (first | (with_reducible exact Below.refl _ _) | (with_reducible apply bDrewN) | (with_reducible apply Below.drew) | (with_reducible exact HB1) | ((with_reducible apply bThen hb2); (focus first | (simp; done) | (simp; omega) | omega)) | ((with_reducible apply bSet); (focus first | (simp; done) | (simp; omega) | omega)) | ((with_reducible apply bAlloc); (focus first | (simp; done) | (simp; omega) | omega)))
      have hsz2 := HB2.size
      clear hb2 sz1_0 c1_0_0 c1_0_1 c1_0_2 c1_0_3 sz1_1 c1_1_0 c1_1_1 c1_1_2 c1_1_3 c1_1_4 hsz1
      go_wp2_with fail
      go_roundw
      case rel =>
        refine ⟨k + 1, _, _, by omega, rfl, rfl, by go_num, ?_, ?_, ?_, ?_, ?_, ?_, ?_, ?_, ?_, ?_⟩
        · exact (sqS_take hlt s HX.out).symm
        · show _ = _
          rw [sqT_take m d t h hlt s HX.out, ← Hid.out hS, ← Hid.out hQ, HY.out]
        · omega
        · omega
        · (repeat (first | (with_reducible exact Below.refl _ _) | (with_reducible apply bDrewN) | (with_reducible apply Below.drew) | (with_reducible exact HB2) | ((with_reducible apply bSet); (focus first | (simp; done) | (simp; omega) | omega)) | ((with_reducible apply bAlloc); (focus first | (simp; done) | (simp; omega) | omega))))
        all_goals first | assumption | (simp; omega) | (simp [go_sem, *]; done)
      case measure => simp [intOf]; omega
    · skip
      have hkI : ¬ (k : Int) < l.length := by omega
      go_wp2_with fail
      go_ret2
      refine ⟨by (have e1 := Hid.out hS; have e2 := Hid.out hQ; rw [List.take_of_length_le (by omega)] at e1 e2; subst e1 e2; rfl), ?_⟩
      (repeat (first | (with_reducible exact Below.refl _ _) | (with_reducible apply bDrewN) | (with_reducible apply Below.drew) | (with_reducible exact HB0) | ((with_reducible apply bSet); (focus first | (simp; done) | (simp; omega) | omega)) | ((with_reducible apply bAlloc); (focus first | (simp; done) | (simp; omega) | omega))))

end Go.Proofs.YtjfenhnlonbmmaaDoor
