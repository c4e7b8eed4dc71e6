/- Layer 8: the law PipelineBounds. -/
import Derived.Test.YtjfenhnlonbmmaaDoorPipP
set_option linter.unusedVariables false
set_option linter.unusedSimpArgs false
namespace Go.Proofs.YtjfenhnlonbmmaaDoor
open Go.RowKit Go.Sort

theorem mst_bd {m d t h : Int} (hm : 0 ≤ m ∧ m ≤ 1000) (hd : 0 ≤ d ∧ d ≤ 1000) (ht : 0 ≤ t ∧ t ≤ 1000) (hh : 0 ≤ h ∧ h ≤ 1000) (x : Ins) : 1 ≤ mst m d t h x.n x.a x.b x.c x.i ∧ mst m d t h x.n x.a x.b x.c x.i ≤ 3001 := by
  have := lst_bd x.n hm hd
  unfold mst
  split <;> split <;> omega
def loL (m d : Int) : List Ins → Int
  | [] => 0
  | x :: l => lst m d x.n + loL m d l
def hiL (m d t h : Int) : List Ins → Int
  | [] => 0
  | x :: l => mst m d t h x.n x.a x.b x.c x.i + hiL m d t h l
theorem loL_append (m d : Int) (l l' : List Ins) : loL m d (l ++ l') = loL m d l + loL m d l' := by
  induction l with
  | nil => simp [loL]
  | cons x l ih => simp only [List.cons_append, loL]; rw [ih]; omega
theorem hiL_append (m d t h : Int) (l l' : List Ins) : hiL m d t h (l ++ l') = hiL m d t h l + hiL m d t h l' := by
  induction l with
  | nil => simp [hiL]
  | cons x l ih => simp only [List.cons_append, hiL]; rw [ih]; omega
theorem loL_take (m d : Int) {l : List Ins} {k : Nat} (hk : k < l.length) {x : Ins} (hx : l.getD k default = x) : loL m d (l.take (k + 1)) = loL m d (l.take k) + lst m d x.n := by
  rw [take_one hk, loL_append, hx]; simp [loL]
theorem hiL_take (m d t h : Int) {l : List Ins} {k : Nat} (hk : k < l.length) {x : Ins} (hx : l.getD k default = x) : hiL m d t h (l.take (k + 1)) = hiL m d t h (l.take k) + mst m d t h x.n x.a x.b x.c x.i := by
  rw [take_one hk, hiL_append, hx]; simp [hiL]
theorem hzd_some {s : Int} {n : Nat} {a b c i : Int} (h : hzd s n a b c i = true) : (rrl n a b c i).length > 0 := by
  unfold hzd at h
  generalize rrl n a b c i = r at *
  cases r with
  | nil => simp at h
  | cons x r => simp
theorem cy_lo {m d t h : Int} (hm : 0 ≤ m ∧ m ≤ 1000) (hd : 0 ≤ d ∧ d ≤ 1000) (ht : 0 ≤ t ∧ t ≤ 1000) (hh : 0 ≤ h ∧ h ≤ 1000) (s : Int) (n : Nat) (a b c i : Int) (tk : Bool) : lst m d n ≤ cyc m d t h s n a b c i tk := by
  unfold cyc
  split <;> split <;> omega
theorem cy_hi {m d t h : Int} (hm : 0 ≤ m ∧ m ≤ 1000) (hd : 0 ≤ d ∧ d ≤ 1000) (ht : 0 ≤ t ∧ t ≤ 1000) (hh : 0 ≤ h ∧ h ≤ 1000) (s : Int) (n : Nat) (a b c i : Int) (tk : Bool) : cyc m d t h s n a b c i tk ≤ mst m d t h n a b c i := by
  unfold cyc mst
  have h1 : (if hzd s n a b c i then h else 0) ≤ (if (rrl n a b c i).length > 0 then h else 0) := by
    by_cases e : hzd s n a b c i = true
    · rw [if_pos e, if_pos (hzd_some e)]
      exact Int.le_refl _
    · rw [if_neg e]
      split <;> omega
  have h2 : (if (tk && brn n) = true then t else 0) ≤ (if brn n = true then t else 0) := by
    cases tk <;> cases brn n <;> simp <;> omega
  omega
theorem sq_lohi {m d t h : Int} (hm : 0 ≤ m ∧ m ≤ 1000) (hd : 0 ≤ d ∧ d ≤ 1000) (ht : 0 ≤ t ∧ t ≤ 1000) (hh : 0 ≤ h ∧ h ≤ 1000) : ∀ (s : Int) (l : List Ins), loL m d l ≤ sqT m d t h s l ∧ sqT m d t h s l ≤ hiL m d t h l
  | s, [] => by simp [loL, sqT, hiL]
  | s, x :: l => by
    have h1 := cy_lo hm hd ht hh s x.n x.a x.b x.c x.i false
    have h2 := cy_hi hm hd ht hh s x.n x.a x.b x.c x.i false
    have h3 := sq_lohi hm hd ht hh (nxI x) l
    simp only [loL, sqT, hiL, cyI]
    omega

set_option maxHeartbeats 3200000 in
theorem bounds_any (m d t h s : Int) (v : Value) (l : List Ins) (w : World) (hT : Tab w) (hv : InsAt w v l) :
    Calls Tryd.prog 10 #[.agg #[.int .i64 m, .int .i64 d, .int .i64 t, .int .i64 h], .int .i64 s, v] w fun e w' => e = .returned (.bool true) ∧ Below w.heap.size w w' := by
  obtain ⟨p, cap, rfl, hp⟩ := hv
  have HP := Lib.hid hp
  clear hp
  have HV := Lib.hid (fun (w : World) => validT_any m d t h w)
  cases hok : okT m d t h
  · rw [hok] at HV
    have hz := hT.size
    go_enter Tryd.func10, Tryd.ntmps10
    go_wp2_with fail
    refine (awake8_any _ (Tab.of_below hT (by repeat (first | (with_reducible exact Below.refl _ _) | (with_reducible apply bDrewN) | (with_reducible apply Below.drew) | ((with_reducible apply bSet); (focus first | (simp; done) | (simp; omega) | omega)) | ((with_reducible apply bAlloc); (focus first | (simp; done) | (simp; omega) | omega)))))).mono ?_
    rintro e w1 ⟨rfl, hb1⟩
    have hT1 : Tab w1 := Tab.of_below (Tab.of_below hT (by repeat (first | (with_reducible exact Below.refl _ _) | (with_reducible apply bDrewN) | (with_reducible apply Below.drew) | ((with_reducible apply bSet); (focus first | (simp; done) | (simp; omega) | omega)) | ((with_reducible apply bAlloc); (focus first | (simp; done) | (simp; omega) | omega))))) hb1
    have sz1_0 : w.heap.size < w1.heap.size := by have h := hb1.size; first | (simp at h; omega) | omega
    have c1_0_0 : w1.cell? ⟨w.heap.size, 0, none⟩ = some (.int .i64 m) := by rw [hb1.cell (p := ⟨w.heap.size, 0, none⟩) (by first | (simp; done) | (simp; omega) | omega)]; first | assumption | (simp [go_sem]; done) | (simp [go_sem, *]; done)
    have c1_0_1 : w1.cell? ⟨w.heap.size, 1, none⟩ = some (.int .i64 d) := by rw [hb1.cell (p := ⟨w.heap.size, 1, none⟩) (by first | (simp; done) | (simp; omega) | omega)]; first | assumption | (simp [go_sem]; done) | (simp [go_sem, *]; done)
    have c1_0_2 : w1.cell? ⟨w.heap.size, 2, none⟩ = some (.int .i64 t) := by rw [hb1.cell (p := ⟨w.heap.size, 2, none⟩) (by first | (simp; done) | (simp; omega) | omega)]; first | assumption | (simp [go_sem]; done) | (simp [go_sem, *]; done)
    have c1_0_3 : w1.cell? ⟨w.heap.size, 3, none⟩ = some (.int .i64 h) := by rw [hb1.cell (p := ⟨w.heap.size, 3, none⟩) (by first | (simp; done) | (simp; omega) | omega)]; first | assumption | (simp [go_sem]; done) | (simp [go_sem, *]; done)
    have HB1 : Below w.heap.size w w1 := by
      repeat (first | (with_reducible exact Below.refl _ _) | (with_reducible apply bDrewN) | (with_reducible apply Below.drew) | ((with_reducible apply bThen hb1); (focus first | (simp; done) | (simp; omega) | omega)) | ((with_reducible apply bSet); (focus first | (simp; done) | (simp; omega) | omega)) | ((with_reducible apply bAlloc); (focus first | (simp; done) | (simp; omega) | omega)))
    have hsz1 := HB1.size
    clear hb1 
    go_wp2_with fail
    refine (HV.out _).mono ?_
    rintro e w2 ⟨rfl, hb2⟩
    have hT2 : Tab w2 := Tab.of_below (Tab.of_below hT1 (by repeat (first | (with_reducible exact Below.refl _ _) | (with_reducible apply bDrewN) | (with_reducible apply Below.drew) | ((with_reducible apply bSet); (focus first | (simp; done) | (simp; omega) | omega)) | ((with_reducible apply bAlloc); (focus first | (simp; done) | (simp; omega) | omega))))) hb2
    have sz2_0 : w.heap.size < w2.heap.size := by have h := hb2.size; first | (simp at h; omega) | omega
    have c2_0_0 : w2.cell? ⟨w.heap.size, 0, none⟩ = some (.int .i64 m) := by rw [hb2.cell (p := ⟨w.heap.size, 0, none⟩) (by first | (simp; done) | (simp; omega) | omega)]; first | assumption | (simp [go_sem]; done) | (simp [go_sem, *]; done)
    have c2_0_1 : w2.cell? ⟨w.heap.size, 1, none⟩ = some (.int .i64 d) := by rw [hb2.cell (p := ⟨w.heap.size, 1, none⟩) (by first | (simp; done) | (simp; omega) | omega)]; first | assumption | (simp [go_sem]; done) | (simp [go_sem, *]; done)
    have c2_0_2 : w2.cell? ⟨w.heap.size, 2, none⟩ = some (.int .i64 t) := by rw [hb2.cell (p := ⟨w.heap.size, 2, none⟩) (by first | (simp; done) | (simp; omega) | omega)]; first | assumption | (simp [go_sem]; done) | (simp [go_sem, *]; done)
    have c2_0_3 : w2.cell? ⟨w.heap.size, 3, none⟩ = some (.int .i64 h) := by rw [hb2.cell (p := ⟨w.heap.size, 3, none⟩) (by first | (simp; done) | (simp; omega) | omega)]; first | assumption | (simp [go_sem]; done) | (simp [go_sem, *]; done)
    have HB2 : Below w.heap.size w w2 := by
      repeat (first | (with_reducible exact Below.refl _ _) | (with_reducible apply bDrewN) | (with_reducible apply Below.drew) | (with_reducible exact HB1) | ((with_reducible apply bThen hb2); (focus first | (simp; done) | (simp; omega) | omega)) | ((with_reducible apply bSet); (focus first | (simp; done) | (simp; omega) | omega)) | ((with_reducible apply bAlloc); (focus first | (simp; done) | (simp; omega) | omega)))
    have hsz2 := HB2.size
    clear hb2 sz1_0 c1_0_0 c1_0_1 c1_0_2 c1_0_3 hsz1
    go_wp2_with fail
    go_ret
    refine ⟨rfl, ?_⟩
    (repeat (first | (with_reducible exact Below.refl _ _) | (with_reducible apply bDrewN) | (with_reducible apply Below.drew) | (with_reducible exact HB2) | ((with_reducible apply bSet); (focus first | (simp; done) | (simp; omega) | omega)) | ((with_reducible apply bAlloc); (focus first | (simp; done) | (simp; omega) | omega))))
  · rw [hok] at HV
    obtain ⟨hm, hd, ht, hh⟩ := okT_bd hok
    clear hok
    by_cases hl : l.length ≤ 40
    · have hlI : ¬ (40 : Int) < l.length := by omega
      have hz := hT.size
      go_enter Tryd.func10, Tryd.ntmps10
      go_wp2_with fail
      refine (awake8_any _ (Tab.of_below hT (by repeat (first | (with_reducible exact Below.refl _ _) | (with_reducible apply bDrewN) | (with_reducible apply Below.drew) | ((with_reducible apply bSet); (focus first | (simp; done) | (simp; omega) | omega)) | ((with_reducible apply bAlloc); (focus first | (simp; done) | (simp; omega) | omega)))))).mono ?_
      rintro e w1 ⟨rfl, hb1⟩
      have hT1 : Tab w1 := Tab.of_below (Tab.of_below hT (by repeat (first | (with_reducible exact Below.refl _ _) | (with_reducible apply bDrewN) | (with_reducible apply Below.drew) | ((with_reducible apply bSet); (focus first | (simp; done) | (simp; omega) | omega)) | ((with_reducible apply bAlloc); (focus first | (simp; done) | (simp; omega) | omega))))) hb1
      have sz1_0 : w.heap.size < w1.heap.size := by have h := hb1.size; first | (simp at h; omega) | omega
      have c1_0_0 : w1.cell? ⟨w.heap.size, 0, none⟩ = some (.int .i64 m) := by rw [hb1.cell (p := ⟨w.heap.size, 0, none⟩) (by first | (simp; done) | (simp; omega) | omega)]; first | assumption | (simp [go_sem]; done) | (simp [go_sem, *]; done)
      have c1_0_1 : w1.cell? ⟨w.heap.size, 1, none⟩ = some (.int .i64 d) := by rw [hb1.cell (p := ⟨w.heap.size, 1, none⟩) (by first | (simp; done) | (simp; omega) | omega)]; first | assumption | (simp [go_sem]; done) | (simp [go_sem, *]; done)
      have c1_0_2 : w1.cell? ⟨w.heap.size, 2, none⟩ = some (.int .i64 t) := by rw [hb1.cell (p := ⟨w.heap.size, 2, none⟩) (by first | (simp; done) | (simp; omega) | omega)]; first | assumption | (simp [go_sem]; done) | (simp [go_sem, *]; done)
      have c1_0_3 : w1.cell? ⟨w.heap.size, 3, none⟩ = some (.int .i64 h) := by rw [hb1.cell (p := ⟨w.heap.size, 3, none⟩) (by first | (simp; done) | (simp; omega) | omega)]; first | assumption | (simp [go_sem]; done) | (simp [go_sem, *]; done)
      have HB1 : Below w.heap.size w w1 := by
        repeat (first | (with_reducible exact Below.refl _ _) | (with_reducible apply bDrewN) | (with_reducible apply Below.drew) | ((with_reducible apply bThen hb1); (focus first | (simp; done) | (simp; omega) | omega)) | ((with_reducible apply bSet); (focus first | (simp; done) | (simp; omega) | omega)) | ((with_reducible apply bAlloc); (focus first | (simp; done) | (simp; omega) | omega)))
      have hsz1 := HB1.size
      clear hb1 
      go_wp2_with fail
      refine (HV.out _).mono ?_
      rintro e w2 ⟨rfl, hb2⟩
      have hT2 : Tab w2 := Tab.of_below (Tab.of_below hT1 (by repeat (first | (with_reducible exact Below.refl _ _) | (with_reducible apply bDrewN) | (with_reducible apply Below.drew) | ((with_reducible apply bSet); (focus first | (simp; done) | (simp; omega) | omega)) | ((with_reducible apply bAlloc); (focus first | (simp; done) | (simp; omega) | omega))))) hb2
      have sz2_0 : w.heap.size < w2.heap.size := by have h := hb2.size; first | (simp at h; omega) | omega
      have c2_0_0 : w2.cell? ⟨w.heap.size, 0, none⟩ = some (.int .i64 m) := by rw [hb2.cell (p := ⟨w.heap.size, 0, none⟩) (by first | (simp; done) | (simp; omega) | omega)]; first | assumption | (simp [go_sem]; done) | (simp [go_sem, *]; done)
      have c2_0_1 : w2.cell? ⟨w.heap.size, 1, none⟩ = some (.int .i64 d) := by rw [hb2.cell (p := ⟨w.heap.size, 1, none⟩) (by first | (simp; done) | (simp; omega) | omega)]; first | assumption | (simp [go_sem]; done) | (simp [go_sem, *]; done)
      have c2_0_2 : w2.cell? ⟨w.heap.size, 2, none⟩ = some (.int .i64 t) := by rw [hb2.cell (p := ⟨w.heap.size, 2, none⟩) (by first | (simp; done) | (simp; omega) | omega)]; first | assumption | (simp [go_sem]; done) | (simp [go_sem, *]; done)
      have c2_0_3 : w2.cell? ⟨w.heap.size, 3, none⟩ = some (.int .i64 h) := by rw [hb2.cell (p := ⟨w.heap.size, 3, none⟩) (by first | (simp; done) | (simp; omega) | omega)]; first | assumption | (simp [go_sem]; done) | (simp [go_sem, *]; done)
      have HB2 : Below w.heap.size w w2 := by
        repeat (first | (with_reducible exact Below.refl _ _) | (with_reducible apply bDrewN) | (with_reducible apply Below.drew) | (with_reducible exact HB1) | ((with_reducible apply bThen hb2); (focus first | (simp; done) | (simp; omega) | omega)) | ((with_reducible apply bSet); (focus first | (simp; done) | (simp; omega) | omega)) | ((with_reducible apply bAlloc); (focus first | (simp; done) | (simp; omega) | omega)))
      have hsz2 := HB2.size
      clear hb2 sz1_0 c1_0_0 c1_0_1 c1_0_2 c1_0_3 hsz1
      have S1 := Lib.hid (fun (w : World) (hT : Tab w) (hv : InsAt w (.slice p l.length cap) l) => seq_any m d t h s _ l w hT hv hl hm hd ht hh)
      have hlh := sq_lohi hm hd ht hh s l
      have hq1 := sqT_bd hm hd ht hh s l
      generalize sqT m d t h s l = A at *
      generalize sqS s l = X at *
      have HLH := Lib.hid hlh
      clear hlh
      go_wp2_with fail
      go_loopw [7, 8, 25] (fun tv sv r wr => ∃ (k : Nat) (S Q : Int), k ≤ l.length ∧ sv = .int .i64 S ∧ tv = .int .i64 Q ∧ r = .int .i64 k ∧ Hid (S = hiL m d t h (l.take k)) ∧ Hid (Q = loL m d (l.take k)) ∧ 0 ≤ Q ∧ Q ≤ 1001 * k ∧ 0 ≤ S ∧ S ≤ 3001 * k ∧ Below w.heap.size w wr ∧ w.heap.size < wr.heap.size ∧ wr.cell? ⟨w.heap.size, 0, none⟩ = some (.int .i64 m) ∧ wr.cell? ⟨w.heap.size, 1, none⟩ = some (.int .i64 d) ∧ wr.cell? ⟨w.heap.size, 2, none⟩ = some (.int .i64 t) ∧ wr.cell? ⟨w.heap.size, 3, none⟩ = some (.int .i64 h)) (fun _ _ r _ => l.length - (intOf r).toNat)
      case atStart => exact ⟨0, 0, 0, by omega, rfl, rfl, rfl, rfl, rfl, by omega, by omega, by omega, by omega, HB2, by assumption, by assumption, by assumption, by assumption, by assumption⟩
      case round =>
        clear sz2_0 c2_0_0 c2_0_1 c2_0_2 c2_0_3 hsz2
        obtain ⟨k, S, Q, hk, rfl, rfl, rfl, hS, hQ, hQ0, hQ1, hS0, hS1, HB0, sz0, c0_0, c0_1, c0_2, c0_3⟩ := hrel
        have hT0 : Tab wr := Tab.of_below hT HB0
        by_cases hlt : k < l.length
        · have hkI : (k : Int) < l.length := by omega
          have hP := HP.out
          rcases hP with rfl | ⟨lb, lo, rfl, hlb, hP⟩
          · simp at hlt
          have hI := (hP k hlt).below HB0 hlb
          clear hP
          have hlb' : lb < wr.heap.size := Nat.lt_of_lt_of_le hlb HB0.size
          generalize hx : l.getD k default = x at hI
          have HX := Lib.hid hx
          clear hx
          obtain ⟨n, a, b, c, i⟩ := x
          obtain ⟨i0, i1, i2, i3, i4⟩ := hI
          simp only at i0 i1 i2 i3 i4
          have hcb := lst_bd n hm hd
          have hcm := mst_bd hm hd ht hh ⟨n, a, b, c, i⟩
          simp only at hcm
          have hwr : IntKind.i64.wrap (Q + lst m d n) = Q + lst m d n := IntWalk.i64_in _ (by omega)
          have hws : IntKind.i64.wrap (S + mst m d t h n a b c i) = S + mst m d t h n a b c i := IntWalk.i64_in _ (by omega)
          have HL := Lib.hid (fun (w : World) => least_any m d t h n a b c i w hm hd)
          have HM := Lib.hid (fun (w : World) (hT : Tab w) => most_any m d t h n a b c i w hT hm hd ht hh)
          generalize hy : lst m d n = y at *
          generalize hu : mst m d t h n a b c i = u at *
          have HY := Lib.hid hy
          have HU := Lib.hid hu
          clear hy hu
          go_wp2_with fail
          refine (HL.out _).mono ?_
          rintro e w11 ⟨rfl, hb11⟩
          have hT11 : Tab w11 := Tab.of_below (Tab.of_below hT0 (by repeat (first | (with_reducible exact Below.refl _ _) | (with_reducible apply bDrewN) | (with_reducible apply Below.drew) | ((with_reducible apply bSet); (focus first | (simp; done) | (simp; omega) | omega)) | ((with_reducible apply bAlloc); (focus first | (simp; done) | (simp; omega) | omega))))) hb11
          have sz11_0 : w.heap.size < w11.heap.size := by have h := hb11.size; first | (simp at h; omega) | omega
          have c11_0_0 : w11.cell? ⟨w.heap.size, 0, none⟩ = some (.int .i64 m) := by rw [hb11.cell (p := ⟨w.heap.size, 0, none⟩) (by first | (simp; done) | (simp; omega) | omega)]; first | assumption | (simp [go_sem]; done) | (simp [go_sem, *]; done)
          have c11_0_1 : w11.cell? ⟨w.heap.size, 1, none⟩ = some (.int .i64 d) := by rw [hb11.cell (p := ⟨w.heap.size, 1, none⟩) (by first | (simp; done) | (simp; omega) | omega)]; first | assumption | (simp [go_sem]; done) | (simp [go_sem, *]; done)
          have c11_0_2 : w11.cell? ⟨w.heap.size, 2, none⟩ = some (.int .i64 t) := by rw [hb11.cell (p := ⟨w.heap.size, 2, none⟩) (by first | (simp; done) | (simp; omega) | omega)]; first | assumption | (simp [go_sem]; done) | (simp [go_sem, *]; done)
          have c11_0_3 : w11.cell? ⟨w.heap.size, 3, none⟩ = some (.int .i64 h) := by rw [hb11.cell (p := ⟨w.heap.size, 3, none⟩) (by first | (simp; done) | (simp; omega) | omega)]; first | assumption | (simp [go_sem]; done) | (simp [go_sem, *]; done)
          have sz11_1 : wr.heap.size < w11.heap.size := by have h := hb11.size; first | (simp at h; omega) | omega
          have c11_1_0 : w11.cell? ⟨wr.heap.size, 0, none⟩ = some (.int .u8 n) := by rw [hb11.cell (p := ⟨wr.heap.size, 0, none⟩) (by first | (simp; done) | (simp; omega) | omega)]; first | assumption | (simp [go_sem]; done) | (simp [go_sem, *]; done)
          have c11_1_1 : w11.cell? ⟨wr.heap.size, 1, none⟩ = some (.int .i64 a) := by rw [hb11.cell (p := ⟨wr.heap.size, 1, none⟩) (by first | (simp; done) | (simp; omega) | omega)]; first | assumption | (simp [go_sem]; done) | (simp [go_sem, *]; done)
          have c11_1_2 : w11.cell? ⟨wr.heap.size, 2, none⟩ = some (.int .i64 b) := by rw [hb11.cell (p := ⟨wr.heap.size, 2, none⟩) (by first | (simp; done) | (simp; omega) | omega)]; first | assumption | (simp [go_sem]; done) | (simp [go_sem, *]; done)
          have c11_1_3 : w11.cell? ⟨wr.heap.size, 3, none⟩ = some (.int .i64 c) := by rw [hb11.cell (p := ⟨wr.heap.size, 3, none⟩) (by first | (simp; done) | (simp; omega) | omega)]; first | assumption | (simp [go_sem]; done) | (simp [go_sem, *]; done)
          have c11_1_4 : w11.cell? ⟨wr.heap.size, 4, none⟩ = some (.int .i64 i) := by rw [hb11.cell (p := ⟨wr.heap.size, 4, none⟩) (by first | (simp; done) | (simp; omega) | omega)]; first | assumption | (simp [go_sem]; done) | (simp [go_sem, *]; done)
          have HB11 : Below w.heap.size w w11 := by
            repeat (first | (with_reducible exact Below.refl _ _) | (with_reducible apply bDrewN) | (with_reducible apply Below.drew) | (with_reducible exact HB0) | ((with_reducible apply bThen hb11); (focus first | (simp; done) | (simp; omega) | omega)) | ((with_reducible apply bSet); (focus first | (simp; done) | (simp; omega) | omega)) | ((with_reducible apply bAlloc); (focus first | (simp; done) | (simp; omega) | omega)))
          have hsz11 := HB11.size
          clear hb11 sz0 c0_0 c0_1 c0_2 c0_3
          go_wp2_with fail
          refine (HM.out _ (Tab.of_below hT11 (by repeat (first | (with_reducible exact Below.refl _ _) | (with_reducible apply bDrewN) | (with_reducible apply Below.drew) | ((with_reducible apply bSet); (focus first | (simp; done) | (simp; omega) | omega)) | ((with_reducible apply bAlloc); (focus first | (simp; done) | (simp; omega) | omega)))))).mono ?_
          rintro e w12 ⟨rfl, hb12⟩
          have hT12 : Tab w12 := Tab.of_below (Tab.of_below hT11 (by repeat (first | (with_reducible exact Below.refl _ _) | (with_reducible apply bDrewN) | (with_reducible apply Below.drew) | ((with_reducible apply bSet); (focus first | (simp; done) | (simp; omega) | omega)) | ((with_reducible apply bAlloc); (focus first | (simp; done) | (simp; omega) | omega))))) hb12
          have sz12_0 : w.heap.size < w12.heap.size := by have h := hb12.size; first | (simp at h; omega) | omega
          have c12_0_0 : w12.cell? ⟨w.heap.size, 0, none⟩ = some (.int .i64 m) := by rw [hb12.cell (p := ⟨w.heap.size, 0, none⟩) (by first | (simp; done) | (simp; omega) | omega)]; first | assumption | (simp [go_sem]; done) | (simp [go_sem, *]; done)
          have c12_0_1 : w12.cell? ⟨w.heap.size, 1, none⟩ = some (.int .i64 d) := by rw [hb12.cell (p := ⟨w.heap.size, 1, none⟩) (by first | (simp; done) | (simp; omega) | omega)]; first | assumption | (simp [go_sem]; done) | (simp [go_sem, *]; done)
          have c12_0_2 : w12.cell? ⟨w.heap.size, 2, none⟩ = some (.int .i64 t) := by rw [hb12.cell (p := ⟨w.heap.size, 2, none⟩) (by first | (simp; done) | (simp; omega) | omega)]; first | assumption | (simp [go_sem]; done) | (simp [go_sem, *]; done)
          have c12_0_3 : w12.cell? ⟨w.heap.size, 3, none⟩ = some (.int .i64 h) := by rw [hb12.cell (p := ⟨w.heap.size, 3, none⟩) (by first | (simp; done) | (simp; omega) | omega)]; first | assumption | (simp [go_sem]; done) | (simp [go_sem, *]; done)
          have sz12_1 : wr.heap.size < w12.heap.size := by have h := hb12.size; first | (simp at h; omega) | omega
          have c12_1_0 : w12.cell? ⟨wr.heap.size, 0, none⟩ = some (.int .u8 n) := by rw [hb12.cell (p := ⟨wr.heap.size, 0, none⟩) (by first | (simp; done) | (simp; omega) | omega)]; first | assumption | (simp [go_sem]; done) | (simp [go_sem, *]; done)
          have c12_1_1 : w12.cell? ⟨wr.heap.size, 1, none⟩ = some (.int .i64 a) := by rw [hb12.cell (p := ⟨wr.heap.size, 1, none⟩) (by first | (simp; done) | (simp; omega) | omega)]; first | assumption | (simp [go_sem]; done) | (simp [go_sem, *]; done)
          have c12_1_2 : w12.cell? ⟨wr.heap.size, 2, none⟩ = some (.int .i64 b) := by rw [hb12.cell (p := ⟨wr.heap.size, 2, none⟩) (by first | (simp; done) | (simp; omega) | omega)]; first | assumption | (simp [go_sem]; done) | (simp [go_sem, *]; done)
          have c12_1_3 : w12.cell? ⟨wr.heap.size, 3, none⟩ = some (.int .i64 c) := by rw [hb12.cell (p := ⟨wr.heap.size, 3, none⟩) (by first | (simp; done) | (simp; omega) | omega)]; first | assumption | (simp [go_sem]; done) | (simp [go_sem, *]; done)
          have c12_1_4 : w12.cell? ⟨wr.heap.size, 4, none⟩ = some (.int .i64 i) := by rw [hb12.cell (p := ⟨wr.heap.size, 4, none⟩) (by first | (simp; done) | (simp; omega) | omega)]; first | assumption | (simp [go_sem]; done) | (simp [go_sem, *]; done)
          have HB12 : Below w.heap.size w w12 := by
            repeat (first | (with_reducible exact Below.refl _ _) | (with_reducible apply bDrewN) | (with_reducible apply Below.drew) | (with_reducible exact HB11) | ((with_reducible apply bThen hb12); (focus first | (simp; done) | (simp; omega) | omega)) | ((with_reducible apply bSet); (focus first | (simp; done) | (simp; omega) | omega)) | ((with_reducible apply bAlloc); (focus first | (simp; done) | (simp; omega) | omega)))
          have hsz12 := HB12.size
          clear hb12 sz11_0 c11_0_0 c11_0_1 c11_0_2 c11_0_3 sz11_1 c11_1_0 c11_1_1 c11_1_2 c11_1_3 c11_1_4 hsz11
          go_wp2_with fail
          go_roundw
          case rel =>
            refine ⟨k + 1, _, _, by omega, rfl, rfl, by go_num, ?_, ?_, ?_, ?_, ?_, ?_, ?_, ?_, ?_, ?_, ?_, ?_⟩
            · show _ = _
              rw [hiL_take m d t h hlt HX.out, ← Hid.out hS, HU.out]
            · show _ = _
              rw [loL_take m d hlt HX.out, ← Hid.out hQ, HY.out]
            · omega
            · omega
            · omega
            · omega
            · (repeat (first | (with_reducible exact Below.refl _ _) | (with_reducible apply bDrewN) | (with_reducible apply Below.drew) | (with_reducible exact HB12) | ((with_reducible apply bSet); (focus first | (simp; done) | (simp; omega) | omega)) | ((with_reducible apply bAlloc); (focus first | (simp; done) | (simp; omega) | omega))))
            all_goals first | assumption | (simp; omega) | (simp [go_sem, *]; done)
          case measure => simp [intOf]; omega
        · skip
          have hkI : ¬ (k : Int) < l.length := by omega
          have e1 := Hid.out hS
          have e2 := Hid.out hQ
          rw [List.take_of_length_le (by omega)] at e1 e2
          have hlh := HLH.out
          rw [← e1, ← e2] at hlh
          obtain ⟨hl1, hl2⟩ := hlh
          clear hS hQ e1 e2 HLH
          go_wp2_with fail
          refine (S1.out _ (Tab.of_below hT0 (by repeat (first | (with_reducible exact Below.refl _ _) | (with_reducible apply bDrewN) | (with_reducible apply Below.drew) | ((with_reducible apply bSet); (focus first | (simp; done) | (simp; omega) | omega)) | ((with_reducible apply bAlloc); (focus first | (simp; done) | (simp; omega) | omega))))) (InsAt.below (v := .slice p l.length cap) (l := l) ⟨_, _, rfl, HP.out⟩ (show Below w.heap.size w _ from by repeat (first | (with_reducible exact Below.refl _ _) | (with_reducible apply bDrewN) | (with_reducible apply Below.drew) | (with_reducible exact HB0) | ((with_reducible apply bSet); (focus first | (simp; done) | (simp; omega) | omega)) | ((with_reducible apply bAlloc); (focus first | (simp; done) | (simp; omega) | omega)))) (Nat.le_refl _))).mono ?_
          rintro e w11 ⟨rfl, hb11⟩
          have hT11 : Tab w11 := Tab.of_below (Tab.of_below hT0 (by repeat (first | (with_reducible exact Below.refl _ _) | (with_reducible apply bDrewN) | (with_reducible apply Below.drew) | ((with_reducible apply bSet); (focus first | (simp; done) | (simp; omega) | omega)) | ((with_reducible apply bAlloc); (focus first | (simp; done) | (simp; omega) | omega))))) hb11
          have HB11 : Below w.heap.size w w11 := by
            repeat (first | (with_reducible exact Below.refl _ _) | (with_reducible apply bDrewN) | (with_reducible apply Below.drew) | (with_reducible exact HB0) | ((with_reducible apply bThen hb11); (focus first | (simp; done) | (simp; omega) | omega)) | ((with_reducible apply bSet); (focus first | (simp; done) | (simp; omega) | omega)) | ((with_reducible apply bAlloc); (focus first | (simp; done) | (simp; omega) | omega)))
          have hsz11 := HB11.size
          clear hb11 sz0 c0_0 c0_1 c0_2 c0_3
          go_wp2_with fail
          go_ret
          refine ⟨by simp [*], ?_⟩
          (repeat (first | (with_reducible exact Below.refl _ _) | (with_reducible apply bDrewN) | (with_reducible apply Below.drew) | (with_reducible exact HB11) | ((with_reducible apply bSet); (focus first | (simp; done) | (simp; omega) | omega)) | ((with_reducible apply bAlloc); (focus first | (simp; done) | (simp; omega) | omega))))
    · have hlI : (40 : Int) < l.length := by omega
      have hz := hT.size
      go_enter Tryd.func10, Tryd.ntmps10
      go_wp2_with fail
      refine (awake8_any _ (Tab.of_below hT (by repeat (first | (with_reducible exact Below.refl _ _) | (with_reducible apply bDrewN) | (with_reducible apply Below.drew) | ((with_reducible apply bSet); (focus first | (simp; done) | (simp; omega) | omega)) | ((with_reducible apply bAlloc); (focus first | (simp; done) | (simp; omega) | omega)))))).mono ?_
      rintro e w1 ⟨rfl, hb1⟩
      have hT1 : Tab w1 := Tab.of_below (Tab.of_below hT (by repeat (first | (with_reducible exact Below.refl _ _) | (with_reducible apply bDrewN) | (with_reducible apply Below.drew) | ((with_reducible apply bSet); (focus first | (simp; done) | (simp; omega) | omega)) | ((with_reducible apply bAlloc); (focus first | (simp; done) | (simp; omega) | omega))))) hb1
      have sz1_0 : w.heap.size < w1.heap.size := by have h := hb1.size; first | (simp at h; omega) | omega
      have c1_0_0 : w1.cell? ⟨w.heap.size, 0, none⟩ = some (.int .i64 m) := by rw [hb1.cell (p := ⟨w.heap.size, 0, none⟩) (by first | (simp; done) | (simp; omega) | omega)]; first | assumption | (simp [go_sem]; done) | (simp [go_sem, *]; done)
      have c1_0_1 : w1.cell? ⟨w.heap.size, 1, none⟩ = some (.int .i64 d) := by rw [hb1.cell (p := ⟨w.heap.size, 1, none⟩) (by first | (simp; done) | (simp; omega) | omega)]; first | assumption | (simp [go_sem]; done) | (simp [go_sem, *]; done)
      have c1_0_2 : w1.cell? ⟨w.heap.size, 2, none⟩ = some (.int .i64 t) := by rw [hb1.cell (p := ⟨w.heap.size, 2, none⟩) (by first | (simp; done) | (simp; omega) | omega)]; first | assumption | (simp [go_sem]; done) | (simp [go_sem, *]; done)
      have c1_0_3 : w1.cell? ⟨w.heap.size, 3, none⟩ = some (.int .i64 h) := by rw [hb1.cell (p := ⟨w.heap.size, 3, none⟩) (by first | (simp; done) | (simp; omega) | omega)]; first | assumption | (simp [go_sem]; done) | (simp [go_sem, *]; done)
      have HB1 : Below w.heap.size w w1 := by
        repeat (first | (with_reducible exact Below.refl _ _) | (with_reducible apply bDrewN) | (with_reducible apply Below.drew) | ((with_reducible apply bThen hb1); (focus first | (simp; done) | (simp; omega) | omega)) | ((with_reducible apply bSet); (focus first | (simp; done) | (simp; omega) | omega)) | ((with_reducible apply bAlloc); (focus first | (simp; done) | (simp; omega) | omega)))
      have hsz1 := HB1.size
      clear hb1 
      go_wp2_with fail
      refine (HV.out _).mono ?_
      rintro e w2 ⟨rfl, hb2⟩
      have hT2 : Tab w2 := Tab.of_below (Tab.of_below hT1 (by repeat (first | (with_reducible exact Below.refl _ _) | (with_reducible apply bDrewN) | (with_reducible apply Below.drew) | ((with_reducible apply bSet); (focus first | (simp; done) | (simp; omega) | omega)) | ((with_reducible apply bAlloc); (focus first | (simp; done) | (simp; omega) | omega))))) hb2
      have sz2_0 : w.heap.size < w2.heap.size := by have h := hb2.size; first | (simp at h; omega) | omega
      have c2_0_0 : w2.cell? ⟨w.heap.size, 0, none⟩ = some (.int .i64 m) := by rw [hb2.cell (p := ⟨w.heap.size, 0, none⟩) (by first | (simp; done) | (simp; omega) | omega)]; first | assumption | (simp [go_sem]; done) | (simp [go_sem, *]; done)
      have c2_0_1 : w2.cell? ⟨w.heap.size, 1, none⟩ = some (.int .i64 d) := by rw [hb2.cell (p := ⟨w.heap.size, 1, none⟩) (by first | (simp; done) | (simp; omega) | omega)]; first | assumption | (simp [go_sem]; done) | (simp [go_sem, *]; done)
      have c2_0_2 : w2.cell? ⟨w.heap.size, 2, none⟩ = some (.int .i64 t) := by rw [hb2.cell (p := ⟨w.heap.size, 2, none⟩) (by first | (simp; done) | (simp; omega) | omega)]; first | assumption | (simp [go_sem]; done) | (simp [go_sem, *]; done)
      have c2_0_3 : w2.cell? ⟨w.heap.size, 3, none⟩ = some (.int .i64 h) := by rw [hb2.cell (p := ⟨w.heap.size, 3, none⟩) (by first | (simp; done) | (simp; omega) | omega)]; first | assumption | (simp [go_sem]; done) | (simp [go_sem, *]; done)
      have HB2 : Below w.heap.size w w2 := by
        repeat (first | (with_reducible exact Below.refl _ _) | (with_reducible apply bDrewN) | (with_reducible apply Below.drew) | (with_reducible exact HB1) | ((with_reducible apply bThen hb2); (focus first | (simp; done) | (simp; omega) | omega)) | ((with_reducible apply bSet); (focus first | (simp; done) | (simp; omega) | omega)) | ((with_reducible apply bAlloc); (focus first | (simp; done) | (simp; omega) | omega)))
      have hsz2 := HB2.size
      clear hb2 sz1_0 c1_0_0 c1_0_1 c1_0_2 c1_0_3 hsz1
      go_wp2_with fail
      go_ret
      refine ⟨rfl, ?_⟩
      (repeat (first | (with_reducible exact Below.refl _ _) | (with_reducible apply bDrewN) | (with_reducible apply Below.drew) | (with_reducible exact HB2) | ((with_reducible apply bSet); (focus first | (simp; done) | (simp; omega) | omega)) | ((with_reducible apply bAlloc); (focus first | (simp; done) | (simp; omega) | omega))))

end Go.Proofs.YtjfenhnlonbmmaaDoor
