/- core.Step over what prepare leaves. -/
import Derived.Test.YtpachmkklppmjaaDoorCorE
import Derived.Test.YtpachmkklppmjaaDoorIsaC
import Derived.Test.YtpachmkklppmjaaDoorIsaP
import Derived.Deep.DeepCutAuto
set_option linter.unusedVariables false
set_option linter.unusedSimpArgs false
namespace Go.Proofs.YtpachmkklppmjaaDoor
open Go.RowKit

/-- The execution of an instruction, as Step lays it. -/
structure ExAt (w : World) (E n a b c : Nat) (i : Int) (pc : Nat) (S : Nat) : Prop where
  e0 : w.cell? ⟨E, 0, none⟩ = some (.int .u8 n)
  e1 : w.cell? ⟨E, 1, none⟩ = some (.int .i64 a)
  e2 : w.cell? ⟨E, 2, none⟩ = some (.int .i64 b)
  e3 : w.cell? ⟨E, 3, none⟩ = some (.int .i64 c)
  e4 : w.cell? ⟨E, 4, none⟩ = some (.int .i64 i)
  e5 : w.cell? ⟨E, 5, none⟩ = some (.int .i64 pc)
  e6 : w.cell? ⟨E, 6, none⟩ = some (.bool false)
  e7 : w.cell? ⟨E, 7, none⟩ = some (.int .i64 (-1))
  e8 : w.cell? ⟨E, 8, none⟩ = some (.int .i32 0)
  e9 : w.cell? ⟨E, 9, none⟩ = some (.pointer (some ⟨S, 0, none⟩))
  e10 : w.cell? ⟨E, 10, none⟩ = some (.int .i64 (pc + 1))
  f6 : w.frozen? ⟨E, 6, none⟩ = false
  f7 : w.frozen? ⟨E, 7, none⟩ = false
  f8 : w.frozen? ⟨E, 8, none⟩ = false
  f10 : w.frozen? ⟨E, 10, none⟩ = false

/-- What the decoding leaves: the instruction in a block of its own. -/
structure DecAt (w wx : World) (A n a b c : Nat) (i : Int) : Prop where
  below : Below w.heap.size w wx
  ge : w.heap.size ≤ A
  lt : A < wx.heap.size
  e0 : wx.cell? ⟨A, 0, none⟩ = some (.int .u8 n)
  e1 : wx.cell? ⟨A, 1, none⟩ = some (.int .i64 a)
  e2 : wx.cell? ⟨A, 2, none⟩ = some (.int .i64 b)
  e3 : wx.cell? ⟨A, 3, none⟩ = some (.int .i64 c)
  e4 : wx.cell? ⟨A, 4, none⟩ = some (.int .i64 i)

/-- What holds of the execution behind the commit. -/
structure ExDone (w : World) (E n a b c : Nat) (i : Int) (pc : Nat) (tk : Bool) (ad vl nx : Int) : Prop where
  e0 : w.cell? ⟨E, 0, none⟩ = some (.int .u8 n)
  e1 : w.cell? ⟨E, 1, none⟩ = some (.int .i64 a)
  e2 : w.cell? ⟨E, 2, none⟩ = some (.int .i64 b)
  e3 : w.cell? ⟨E, 3, none⟩ = some (.int .i64 c)
  e4 : w.cell? ⟨E, 4, none⟩ = some (.int .i64 i)
  e5 : w.cell? ⟨E, 5, none⟩ = some (.int .i64 pc)
  e6 : w.cell? ⟨E, 6, none⟩ = some (.bool tk)
  e7 : w.cell? ⟨E, 7, none⟩ = some (.int .i64 ad)
  e8 : w.cell? ⟨E, 8, none⟩ = some (.int .i32 vl)
  e10 : w.cell? ⟨E, 10, none⟩ = some (.int .i64 nx)

theorem decAt_new {w2 w3 : World} {n a b c : Nat} {i : Int} (hb : Below w2.heap.size w2 w3) : DecAt w2 (w3.alloc (.cells #[.int .u8 n, .int .i64 a, .int .i64 b, .int .i64 c, .int .i64 i] 51)) w3.heap.size n a b c i :=
  ⟨bAlloc hb.size hb, hb.size, by simp, by simp [go_sem], by simp [go_sem], by simp [go_sem], by simp [go_sem], by simp [go_sem]⟩
theorem decAt_old {w2 w3 : World} {n a b c : Nat} {i : Int} (hb : Below w2.heap.size w2 w3) (hs : w2.heap.size < w3.heap.size) (q0 : w3.cell? ⟨w2.heap.size, 0, none⟩ = some (.int .u8 0)) (q1 : w3.cell? ⟨w2.heap.size, 1, none⟩ = some (.int .i64 0)) (q2 : w3.cell? ⟨w2.heap.size, 2, none⟩ = some (.int .i64 0)) (q3 : w3.cell? ⟨w2.heap.size, 3, none⟩ = some (.int .i64 0)) (q4 : w3.cell? ⟨w2.heap.size, 4, none⟩ = some (.int .i64 0)) :
    DecAt w2 (((((w3.setCell ⟨w2.heap.size, 0, none⟩ (.int .u8 n)).setCell ⟨w2.heap.size, 1, none⟩ (.int .i64 a)).setCell ⟨w2.heap.size, 2, none⟩ (.int .i64 b)).setCell ⟨w2.heap.size, 3, none⟩ (.int .i64 c)).setCell ⟨w2.heap.size, 4, none⟩ (.int .i64 i)) w2.heap.size n a b c i :=
  ⟨bSet (Nat.le_refl _) (bSet (Nat.le_refl _) (bSet (Nat.le_refl _) (bSet (Nat.le_refl _) (bSet (Nat.le_refl _) hb)))), Nat.le_refl _, by simpa [go_sem] using hs, by simp [go_sem, q0], by simp [go_sem, q1], by simp [go_sem, q2], by simp [go_sem, q3], by simp [go_sem, q4]⟩

/-- A result that is a struct of 9 cells, stored whole just before the return. -/
theorem run_result9 {P : Program} {fn : Func} {p u : Tmp} {ty : TypeId} (hr : fn.results = #[.cell p ty, .tmp u]) (hag : ∀ w : World, (isAgg ty).run P w = .ok true w) (hsz : ∀ w : World, (sizeOf ty).run P w = .ok 9 w)
    {tmps : Array Value} {w1 : World} {B : Nat} (v0 v1 v2 v3 v4 v5 v6 v7 v8 r : Value) (hp : tmps.getD p undef = .pointer (some ⟨B, 0, none⟩)) (hu : tmps.getD u undef = r)
    (h0 : w1.cell? ⟨B, 0, none⟩ ≠ none) (h1 : w1.cell? ⟨B, 1, none⟩ ≠ none) (h2 : w1.cell? ⟨B, 2, none⟩ ≠ none) (h3 : w1.cell? ⟨B, 3, none⟩ ≠ none) (h4 : w1.cell? ⟨B, 4, none⟩ ≠ none) (h5 : w1.cell? ⟨B, 5, none⟩ ≠ none) (h6 : w1.cell? ⟨B, 6, none⟩ ≠ none) (h7 : w1.cell? ⟨B, 7, none⟩ ≠ none) (h8 : w1.cell? ⟨B, 8, none⟩ ≠ none) :
    (results fn tmps).run P (((((((((w1.setCell ⟨B, 0, none⟩ v0).setCell ⟨B, 1, none⟩ v1).setCell ⟨B, 2, none⟩ v2).setCell ⟨B, 3, none⟩ v3).setCell ⟨B, 4, none⟩ v4).setCell ⟨B, 5, none⟩ v5).setCell ⟨B, 6, none⟩ v6).setCell ⟨B, 7, none⟩ v7).setCell ⟨B, 8, none⟩ v8) = .ok (.tuple #[.agg #[v0, v1, v2, v3, v4, v5, v6, v7, v8], r]) (((((((((w1.setCell ⟨B, 0, none⟩ v0).setCell ⟨B, 1, none⟩ v1).setCell ⟨B, 2, none⟩ v2).setCell ⟨B, 3, none⟩ v3).setCell ⟨B, 4, none⟩ v4).setCell ⟨B, 5, none⟩ v5).setCell ⟨B, 6, none⟩ v6).setCell ⟨B, 7, none⟩ v7).setCell ⟨B, 8, none⟩ v8) := by
  have s : ∀ (w : World) (i j : Nat) (x : Value), i ≠ j → (w.setCell ⟨B, i, none⟩ x).cell? ⟨B, j, none⟩ = w.cell? ⟨B, j, none⟩ := fun w i j x hij => World.cell?_setCell_other _ _ _ _ (by intro e; injection e with _ e2; exact hij e2)
  have t : ∀ (w : World) (i : Nat) (x : Value), w.cell? ⟨B, i, none⟩ ≠ none → (w.setCell ⟨B, i, none⟩ x).cell? ⟨B, i, none⟩ = some x := fun w i x h => by
    obtain ⟨y, hy⟩ := Option.ne_none_iff_exists'.1 h
    exact World.cell?_setCell_same _ _ _ hy
  have hl : ∀ (j : Nat) (v : Value), [v0, v1, v2, v3, v4, v5, v6, v7, v8][j]? = some v → (((((((((w1.setCell ⟨B, 0, none⟩ v0).setCell ⟨B, 1, none⟩ v1).setCell ⟨B, 2, none⟩ v2).setCell ⟨B, 3, none⟩ v3).setCell ⟨B, 4, none⟩ v4).setCell ⟨B, 5, none⟩ v5).setCell ⟨B, 6, none⟩ v6).setCell ⟨B, 7, none⟩ v7).setCell ⟨B, 8, none⟩ v8).cell? ((⟨B, 0, none⟩ : Addr).add j) = some v := by
    intro j v hj
    match j, hj with
    | 0, hj => obtain rfl : v0 = v := by simpa using hj
               show World.cell? _ ⟨B, 0, none⟩ = _
               rw [s _ 8 0 _ (by omega), s _ 7 0 _ (by omega), s _ 6 0 _ (by omega), s _ 5 0 _ (by omega), s _ 4 0 _ (by omega), s _ 3 0 _ (by omega), s _ 2 0 _ (by omega), s _ 1 0 _ (by omega), t _ 0 _ h0]
    | 1, hj => obtain rfl : v1 = v := by simpa using hj
               show World.cell? _ ⟨B, 1, none⟩ = _
               rw [s _ 8 1 _ (by omega), s _ 7 1 _ (by omega), s _ 6 1 _ (by omega), s _ 5 1 _ (by omega), s _ 4 1 _ (by omega), s _ 3 1 _ (by omega), s _ 2 1 _ (by omega), t _ 1 _ (by rw [s _ 0 1 _ (by omega)]; exact h1)]
    | 2, hj => obtain rfl : v2 = v := by simpa using hj
               show World.cell? _ ⟨B, 2, none⟩ = _
               rw [s _ 8 2 _ (by omega), s _ 7 2 _ (by omega), s _ 6 2 _ (by omega), s _ 5 2 _ (by omega), s _ 4 2 _ (by omega), s _ 3 2 _ (by omega), t _ 2 _ (by rw [s _ 1 2 _ (by omega), s _ 0 2 _ (by omega)]; exact h2)]
    | 3, hj => obtain rfl : v3 = v := by simpa using hj
               show World.cell? _ ⟨B, 3, none⟩ = _
               rw [s _ 8 3 _ (by omega), s _ 7 3 _ (by omega), s _ 6 3 _ (by omega), s _ 5 3 _ (by omega), s _ 4 3 _ (by omega), t _ 3 _ (by rw [s _ 2 3 _ (by omega), s _ 1 3 _ (by omega), s _ 0 3 _ (by omega)]; exact h3)]
    | 4, hj => obtain rfl : v4 = v := by simpa using hj
               show World.cell? _ ⟨B, 4, none⟩ = _
               rw [s _ 8 4 _ (by omega), s _ 7 4 _ (by omega), s _ 6 4 _ (by omega), s _ 5 4 _ (by omega), t _ 4 _ (by rw [s _ 3 4 _ (by omega), s _ 2 4 _ (by omega), s _ 1 4 _ (by omega), s _ 0 4 _ (by omega)]; exact h4)]
    | 5, hj => obtain rfl : v5 = v := by simpa using hj
               show World.cell? _ ⟨B, 5, none⟩ = _
               rw [s _ 8 5 _ (by omega), s _ 7 5 _ (by omega), s _ 6 5 _ (by omega), t _ 5 _ (by rw [s _ 4 5 _ (by omega), s _ 3 5 _ (by omega), s _ 2 5 _ (by omega), s _ 1 5 _ (by omega), s _ 0 5 _ (by omega)]; exact h5)]
    | 6, hj => obtain rfl : v6 = v := by simpa using hj
               show World.cell? _ ⟨B, 6, none⟩ = _
               rw [s _ 8 6 _ (by omega), s _ 7 6 _ (by omega), t _ 6 _ (by rw [s _ 5 6 _ (by omega), s _ 4 6 _ (by omega), s _ 3 6 _ (by omega), s _ 2 6 _ (by omega), s _ 1 6 _ (by omega), s _ 0 6 _ (by omega)]; exact h6)]
    | 7, hj => obtain rfl : v7 = v := by simpa using hj
               show World.cell? _ ⟨B, 7, none⟩ = _
               rw [s _ 8 7 _ (by omega), t _ 7 _ (by rw [s _ 6 7 _ (by omega), s _ 5 7 _ (by omega), s _ 4 7 _ (by omega), s _ 3 7 _ (by omega), s _ 2 7 _ (by omega), s _ 1 7 _ (by omega), s _ 0 7 _ (by omega)]; exact h7)]
    | 8, hj => obtain rfl : v8 = v := by simpa using hj
               show World.cell? _ ⟨B, 8, none⟩ = _
               rw [t _ 8 _ (by rw [s _ 7 8 _ (by omega), s _ 6 8 _ (by omega), s _ 5 8 _ (by omega), s _ 4 8 _ (by omega), s _ 3 8 _ (by omega), s _ 2 8 _ (by omega), s _ 1 8 _ (by omega), s _ 0 8 _ (by omega)]; exact h8)]
    | j + 9, hj => simp at hj
  rw [results_cell_tmp hr, hp, hu]
  simp only [asAddr, loadVar, Sem.run_bind, Sem.run_pure, Result.andThen, hag, hsz, if_true]
  have e := run_loadCells_list (P := P) _ ⟨B, 0, none⟩ [v0, v1, v2, v3, v4, v5, v6, v7, v8] hl
  simp only [List.length_cons, List.length_nil] at e
  simp [e]

theorem fits_yes (cv : Value) (dp : Option Addr) (S nE ecap dl dcap eb eo t : Nat) (sh lk held : Int) (w : World) (heb : eb < w.heap.size) (het : w.cell? ⟨eb, eo + t * 4 + 3, none⟩ = some (.int .i64 dl)) (hS : S < w.heap.size) (hD : w.cell? ⟨S, 17, none⟩ = some (.slice dp dl dcap)) (hR : w.cell? ⟨S, 1, none⟩ = some (.int .i32 0)) (hH : w.cell? ⟨S, 19, none⟩ = some (.int .i64 held)) (ht : t < nE) (hfit : held = -1 ∨ (0 ≤ held ∧ held < lk)) :
    Calls Tryd.prog 22 #[.agg #[cv, .slice (some ⟨eb, eo, none⟩) nE ecap, .int .i64 sh, .int .i64 lk], .int .i64 (t : Nat), .pointer (some ⟨S, 0, none⟩)] w fun e w' => e = .returned (.bool true) ∧ Below w.heap.size w w' := by
  rcases hfit with rfl | ⟨h1, h2⟩
  · exact fits_ok1 cv none dp S nE ecap dl dcap eb eo t sh lk 0 0 0 w heb het hS hD hR hH ht (by omega) (by simpa using ht)
  · exact fits_ok2 cv none dp S nE ecap dl dcap eb eo t sh lk 0 0 held w heb het hS hD hR hH ht (by omega) (by simpa using ht) h1 (by simpa using h1) (by omega) h2 (by simpa using h2)

set_option maxRecDepth 100000 in
set_option maxHeartbeats 3200000 in
theorem step_ok (cb co nC ccap eb eo nE ecap t S pc dl dcap n a b c : Nat) (sh lk st fin held x i : Int) (nm : ByteArray) (dp : Option Addr) (mv pv : Value) (w STW : World) (tk : Bool) (ad vl nx : Int) (hT : Tab w)
    (hS : S < w.heap.size) (hPC : w.cell? ⟨S, 0, none⟩ = some (.int .i64 (pc : Nat))) (hPf : w.frozen? ⟨S, 0, none⟩ = false) (hR : w.cell? ⟨S, 1, none⟩ = some (.int .i32 0)) (hD : w.cell? ⟨S, 17, none⟩ = some (.slice dp dl dcap)) (hL : w.cell? ⟨S, 18, none⟩ = some (.bool false)) (hH : w.cell? ⟨S, 19, none⟩ = some (.int .i64 held))
    (heb : eb < w.heap.size) (ht : t < nE) (he0 : w.cell? ⟨eb, eo + t * 4, none⟩ = some (.string nm)) (he1 : w.cell? ⟨eb, eo + t * 4 + 1, none⟩ = some (.int .i64 st)) (he2 : w.cell? ⟨eb, eo + t * 4 + 2, none⟩ = some (.int .i64 fin)) (he3 : w.cell? ⟨eb, eo + t * 4 + 3, none⟩ = some (.int .i64 dl)) (hfit : held = -1 ∨ (0 ≤ held ∧ held < lk))
    (hcb : cb < w.heap.size) (hpc : pc < nC) (hpc1 : st ≤ pc) (hpc2 : (pc : Int) < fin) (hpcb : pc ≤ 140737488351232) (hcode : w.cell? ⟨cb, co + pc, none⟩ = some (.int .u32 x)) (hx0 : 0 ≤ x) (hx1 : x < 4294967296)
    (hdec : decV x = .tuple #[.agg #[.int .u8 n, .int .i64 a, .int .i64 b, .int .i64 c, .int .i64 i], .int .i64 0])
    (hprep : ∀ (W : World) (E : Nat), w.heap.size ≤ E → E < W.heap.size → Below w.heap.size w W → ExAt W E n a b c i pc S → ∃ EX ST,
      Calls Tryd.prog 28 #[.pointer (some ⟨E, 0, none⟩), .int .i64 lk, mv, pv] W (PrepOk W EX ST 0) ∧ ExDone ST E n a b c i pc tk ad vl nx ∧ Below w.heap.size STW ST ∧ ST.heap.size = W.heap.size ∧ ST.cell? ⟨S, 0, none⟩ = some (.int .i64 pc) ∧ ST.frozen? ⟨S, 0, none⟩ = false ∧ ∀ k, w.heap.size ≤ k → k < E → ST.heap[k]? = W.heap[k]?) :
    Calls Tryd.prog 23 #[.agg #[.slice (some ⟨cb, co, none⟩) nC ccap, .slice (some ⟨eb, eo, none⟩) nE ecap, .int .i64 sh, .int .i64 lk], .int .i64 (t : Nat), .pointer (some ⟨S, 0, none⟩), mv, pv] w fun e w' => e = .returned (.tuple #[.agg #[.int .u8 n, .int .i64 a, .int .i64 b, .int .i64 c, .int .i64 i, .int .i64 pc, .bool tk, .int .i64 ad, .int .i32 vl], .int .i64 0]) ∧ Below w.heap.size (STW.setCell ⟨S, 0, none⟩ (.int .i64 nx)) w' := by
  have HX := Lib.hid hdec
  clear hdec
  go_enter Tryd.func23, Tryd.ntmps23
  go_wp2_with fail
  refine (fits_yes _ dp S nE ecap dl dcap eb eo t sh lk held _ (by simp; omega) (by simp [go_sem, *]) (by simp; omega) (by simp [go_sem, *]) (by simp [go_sem, *]) (by simp [go_sem, *]) ht hfit).mono ?_
  rintro e w1 ⟨rfl, hb1⟩
  have pc_1 : w1.cell? ⟨S, 0, none⟩ = some (.int .i64 (pc : Nat)) := by rw [hb1.cell (p := ⟨S, 0, none⟩) (by first | (simp; done) | (simp; omega) | omega)]; first | assumption | (simp [go_sem, *]; done)
  have pcf_1 : w1.frozen? ⟨S, 0, none⟩ = false := by rw [hb1.frozen (p := ⟨S, 0, none⟩) (by first | (simp; done) | (simp; omega) | omega)]; first | assumption | (simp [go_sem, *]; done)
  have hl_1 : w1.cell? ⟨S, 18, none⟩ = some (.bool false) := by rw [hb1.cell (p := ⟨S, 18, none⟩) (by first | (simp; done) | (simp; omega) | omega)]; first | assumption | (simp [go_sem, *]; done)
  have en0_1 : w1.cell? ⟨eb, eo + t * 4, none⟩ = some (.string nm) := by rw [hb1.cell (p := ⟨eb, eo + t * 4, none⟩) (by first | (simp; done) | (simp; omega) | omega)]; first | assumption | (simp [go_sem, *]; done)
  have en1_1 : w1.cell? ⟨eb, eo + t * 4 + 1, none⟩ = some (.int .i64 st) := by rw [hb1.cell (p := ⟨eb, eo + t * 4 + 1, none⟩) (by first | (simp; done) | (simp; omega) | omega)]; first | assumption | (simp [go_sem, *]; done)
  have en2_1 : w1.cell? ⟨eb, eo + t * 4 + 2, none⟩ = some (.int .i64 fin) := by rw [hb1.cell (p := ⟨eb, eo + t * 4 + 2, none⟩) (by first | (simp; done) | (simp; omega) | omega)]; first | assumption | (simp [go_sem, *]; done)
  have en3_1 : w1.cell? ⟨eb, eo + t * 4 + 3, none⟩ = some (.int .i64 dl) := by rw [hb1.cell (p := ⟨eb, eo + t * 4 + 3, none⟩) (by first | (simp; done) | (simp; omega) | omega)]; first | assumption | (simp [go_sem, *]; done)
  have im0_1 : w1.cell? ⟨w.heap.size, 0, none⟩ = some (.slice (some ⟨cb, co, none⟩) nC ccap) := by rw [hb1.cell (p := ⟨w.heap.size, 0, none⟩) (by first | (simp; done) | (simp; omega) | omega)]; first | assumption | (simp [go_sem, *]; done)
  have im1_1 : w1.cell? ⟨w.heap.size, 1, none⟩ = some (.slice (some ⟨eb, eo, none⟩) nE ecap) := by rw [hb1.cell (p := ⟨w.heap.size, 1, none⟩) (by first | (simp; done) | (simp; omega) | omega)]; first | assumption | (simp [go_sem, *]; done)
  have im3_1 : w1.cell? ⟨w.heap.size, 3, none⟩ = some (.int .i64 lk) := by rw [hb1.cell (p := ⟨w.heap.size, 3, none⟩) (by first | (simp; done) | (simp; omega) | omega)]; first | assumption | (simp [go_sem, *]; done)
  have r0_1 : w1.cell? ⟨w.heap.size + 1, 0, none⟩ = some (.int .u8 0) := by rw [hb1.cell (p := ⟨w.heap.size + 1, 0, none⟩) (by first | (simp; done) | (simp; omega) | omega)]; first | assumption | (simp [go_sem, *]; done)
  have r0f_1 : w1.frozen? ⟨w.heap.size + 1, 0, none⟩ = false := by rw [hb1.frozen (p := ⟨w.heap.size + 1, 0, none⟩) (by first | (simp; done) | (simp; omega) | omega)]; first | assumption | (simp [go_sem, *]; done)
  have r1_1 : w1.cell? ⟨w.heap.size + 1, 1, none⟩ = some (.int .i64 0) := by rw [hb1.cell (p := ⟨w.heap.size + 1, 1, none⟩) (by first | (simp; done) | (simp; omega) | omega)]; first | assumption | (simp [go_sem, *]; done)
  have r1f_1 : w1.frozen? ⟨w.heap.size + 1, 1, none⟩ = false := by rw [hb1.frozen (p := ⟨w.heap.size + 1, 1, none⟩) (by first | (simp; done) | (simp; omega) | omega)]; first | assumption | (simp [go_sem, *]; done)
  have r2_1 : w1.cell? ⟨w.heap.size + 1, 2, none⟩ = some (.int .i64 0) := by rw [hb1.cell (p := ⟨w.heap.size + 1, 2, none⟩) (by first | (simp; done) | (simp; omega) | omega)]; first | assumption | (simp [go_sem, *]; done)
  have r2f_1 : w1.frozen? ⟨w.heap.size + 1, 2, none⟩ = false := by rw [hb1.frozen (p := ⟨w.heap.size + 1, 2, none⟩) (by first | (simp; done) | (simp; omega) | omega)]; first | assumption | (simp [go_sem, *]; done)
  have r3_1 : w1.cell? ⟨w.heap.size + 1, 3, none⟩ = some (.int .i64 0) := by rw [hb1.cell (p := ⟨w.heap.size + 1, 3, none⟩) (by first | (simp; done) | (simp; omega) | omega)]; first | assumption | (simp [go_sem, *]; done)
  have r3f_1 : w1.frozen? ⟨w.heap.size + 1, 3, none⟩ = false := by rw [hb1.frozen (p := ⟨w.heap.size + 1, 3, none⟩) (by first | (simp; done) | (simp; omega) | omega)]; first | assumption | (simp [go_sem, *]; done)
  have r4_1 : w1.cell? ⟨w.heap.size + 1, 4, none⟩ = some (.int .i64 0) := by rw [hb1.cell (p := ⟨w.heap.size + 1, 4, none⟩) (by first | (simp; done) | (simp; omega) | omega)]; first | assumption | (simp [go_sem, *]; done)
  have r4f_1 : w1.frozen? ⟨w.heap.size + 1, 4, none⟩ = false := by rw [hb1.frozen (p := ⟨w.heap.size + 1, 4, none⟩) (by first | (simp; done) | (simp; omega) | omega)]; first | assumption | (simp [go_sem, *]; done)
  have r5_1 : w1.cell? ⟨w.heap.size + 1, 5, none⟩ = some (.int .i64 0) := by rw [hb1.cell (p := ⟨w.heap.size + 1, 5, none⟩) (by first | (simp; done) | (simp; omega) | omega)]; first | assumption | (simp [go_sem, *]; done)
  have r5f_1 : w1.frozen? ⟨w.heap.size + 1, 5, none⟩ = false := by rw [hb1.frozen (p := ⟨w.heap.size + 1, 5, none⟩) (by first | (simp; done) | (simp; omega) | omega)]; first | assumption | (simp [go_sem, *]; done)
  have r6_1 : w1.cell? ⟨w.heap.size + 1, 6, none⟩ = some (.bool false) := by rw [hb1.cell (p := ⟨w.heap.size + 1, 6, none⟩) (by first | (simp; done) | (simp; omega) | omega)]; first | assumption | (simp [go_sem, *]; done)
  have r6f_1 : w1.frozen? ⟨w.heap.size + 1, 6, none⟩ = false := by rw [hb1.frozen (p := ⟨w.heap.size + 1, 6, none⟩) (by first | (simp; done) | (simp; omega) | omega)]; first | assumption | (simp [go_sem, *]; done)
  have r7_1 : w1.cell? ⟨w.heap.size + 1, 7, none⟩ = some (.int .i64 0) := by rw [hb1.cell (p := ⟨w.heap.size + 1, 7, none⟩) (by first | (simp; done) | (simp; omega) | omega)]; first | assumption | (simp [go_sem, *]; done)
  have r7f_1 : w1.frozen? ⟨w.heap.size + 1, 7, none⟩ = false := by rw [hb1.frozen (p := ⟨w.heap.size + 1, 7, none⟩) (by first | (simp; done) | (simp; omega) | omega)]; first | assumption | (simp [go_sem, *]; done)
  have r8_1 : w1.cell? ⟨w.heap.size + 1, 8, none⟩ = some (.int .i32 0) := by rw [hb1.cell (p := ⟨w.heap.size + 1, 8, none⟩) (by first | (simp; done) | (simp; omega) | omega)]; first | assumption | (simp [go_sem, *]; done)
  have r8f_1 : w1.frozen? ⟨w.heap.size + 1, 8, none⟩ = false := by rw [hb1.frozen (p := ⟨w.heap.size + 1, 8, none⟩) (by first | (simp; done) | (simp; omega) | omega)]; first | assumption | (simp [go_sem, *]; done)
  have cd_1 : w1.cell? ⟨cb, co + pc, none⟩ = some (.int .u32 x) := by rw [hb1.cell (p := ⟨cb, co + pc, none⟩) (by first | (simp; done) | (simp; omega) | omega)]; first | assumption | (simp [go_sem, *]; done)
  have szS_1 : S < w1.heap.size := by have h := hb1.size; first | (simp at h; omega) | omega
  have szE_1 : eb < w1.heap.size := by have h := hb1.size; first | (simp at h; omega) | omega
  have szC_1 : cb < w1.heap.size := by have h := hb1.size; first | (simp at h; omega) | omega
  have szB_1 : w.heap.size < w1.heap.size := by have h := hb1.size; first | (simp at h; omega) | omega
  have szR_1 : w.heap.size + 1 < w1.heap.size := by have h := hb1.size; first | (simp at h; omega) | omega
  have HB1 : Below w.heap.size w w1 := by
    repeat (first | (with_reducible apply bBoth) | (with_reducible exact Below.refl _ _) | (with_reducible apply bDrewN) | (with_reducible apply Below.drew) | ((with_reducible apply bThen hb1); (focus first | (simp; done) | (simp; omega) | omega)) | ((with_reducible apply bSet); (focus first | (simp; done) | (simp; omega) | omega)) | ((with_reducible apply bAlloc); (focus first | (simp; done) | (simp; omega) | omega)))
  have hT1 : Tab w1 := hT.of_below HB1
  clear hb1
  have d1 : decide ((pc : Int) < st) = false := by simp; omega
  have d2 : decide (fin ≤ (pc : Int)) = false := by simp; omega
  have d3 : decide (nC ≤ pc) = false := by simp; omega
  have d4 : ¬ (pc : Int) < st := by omega
  have d5 : ¬ fin ≤ (pc : Int) := by omega
  have d6 : ¬ nC ≤ pc := by omega
  go_wp2_with fail
  go_quiet (fail)
  go_wp2_with fail
  have hdc : ∀ W, Tab W → Calls Tryd.prog 10 #[.int .u32 x] W (fun e w' => e = .returned (.tuple #[.agg #[.int .u8 n, .int .i64 a, .int .i64 b, .int .i64 c, .int .i64 i], .int .i64 0]) ∧ Below W.heap.size W w') := fun W h => by have h2 := decode_any x W hx0 hx1 h; rw [HX.out] at h2; exact h2
  obtain ⟨w2, hw2⟩ : ∃ w2, (w1.alloc (.cells #[.string nm, .int .i64 st, .int .i64 fin, .int .i64 dl] 48)).drewN nq = w2 := ⟨_, rfl⟩
  have hb2 : Below w1.heap.size w1 w2 := by rw [← hw2]; exact bDrewN (bAlloc (Nat.le_refl _) (Below.refl _ _))
  have hsz2 : w2.heap.size = w1.heap.size + 1 := by rw [← hw2]; simp [World.drewN]
  rw [hw2]
  have pc_2 : w2.cell? ⟨S, 0, none⟩ = some (.int .i64 (pc : Nat)) := by rw [hb2.cell (p := ⟨S, 0, none⟩) (by first | (simp; done) | (simp; omega) | omega)]; first | assumption | (simp [go_sem, *]; done)
  have pcf_2 : w2.frozen? ⟨S, 0, none⟩ = false := by rw [hb2.frozen (p := ⟨S, 0, none⟩) (by first | (simp; done) | (simp; omega) | omega)]; first | assumption | (simp [go_sem, *]; done)
  have im0_2 : w2.cell? ⟨w.heap.size, 0, none⟩ = some (.slice (some ⟨cb, co, none⟩) nC ccap) := by rw [hb2.cell (p := ⟨w.heap.size, 0, none⟩) (by first | (simp; done) | (simp; omega) | omega)]; first | assumption | (simp [go_sem, *]; done)
  have im1_2 : w2.cell? ⟨w.heap.size, 1, none⟩ = some (.slice (some ⟨eb, eo, none⟩) nE ecap) := by rw [hb2.cell (p := ⟨w.heap.size, 1, none⟩) (by first | (simp; done) | (simp; omega) | omega)]; first | assumption | (simp [go_sem, *]; done)
  have im3_2 : w2.cell? ⟨w.heap.size, 3, none⟩ = some (.int .i64 lk) := by rw [hb2.cell (p := ⟨w.heap.size, 3, none⟩) (by first | (simp; done) | (simp; omega) | omega)]; first | assumption | (simp [go_sem, *]; done)
  have r0_2 : w2.cell? ⟨w.heap.size + 1, 0, none⟩ = some (.int .u8 0) := by rw [hb2.cell (p := ⟨w.heap.size + 1, 0, none⟩) (by first | (simp; done) | (simp; omega) | omega)]; first | assumption | (simp [go_sem, *]; done)
  have r0f_2 : w2.frozen? ⟨w.heap.size + 1, 0, none⟩ = false := by rw [hb2.frozen (p := ⟨w.heap.size + 1, 0, none⟩) (by first | (simp; done) | (simp; omega) | omega)]; first | assumption | (simp [go_sem, *]; done)
  have r1_2 : w2.cell? ⟨w.heap.size + 1, 1, none⟩ = some (.int .i64 0) := by rw [hb2.cell (p := ⟨w.heap.size + 1, 1, none⟩) (by first | (simp; done) | (simp; omega) | omega)]; first | assumption | (simp [go_sem, *]; done)
  have r1f_2 : w2.frozen? ⟨w.heap.size + 1, 1, none⟩ = false := by rw [hb2.frozen (p := ⟨w.heap.size + 1, 1, none⟩) (by first | (simp; done) | (simp; omega) | omega)]; first | assumption | (simp [go_sem, *]; done)
  have r2_2 : w2.cell? ⟨w.heap.size + 1, 2, none⟩ = some (.int .i64 0) := by rw [hb2.cell (p := ⟨w.heap.size + 1, 2, none⟩) (by first | (simp; done) | (simp; omega) | omega)]; first | assumption | (simp [go_sem, *]; done)
  have r2f_2 : w2.frozen? ⟨w.heap.size + 1, 2, none⟩ = false := by rw [hb2.frozen (p := ⟨w.heap.size + 1, 2, none⟩) (by first | (simp; done) | (simp; omega) | omega)]; first | assumption | (simp [go_sem, *]; done)
  have r3_2 : w2.cell? ⟨w.heap.size + 1, 3, none⟩ = some (.int .i64 0) := by rw [hb2.cell (p := ⟨w.heap.size + 1, 3, none⟩) (by first | (simp; done) | (simp; omega) | omega)]; first | assumption | (simp [go_sem, *]; done)
  have r3f_2 : w2.frozen? ⟨w.heap.size + 1, 3, none⟩ = false := by rw [hb2.frozen (p := ⟨w.heap.size + 1, 3, none⟩) (by first | (simp; done) | (simp; omega) | omega)]; first | assumption | (simp [go_sem, *]; done)
  have r4_2 : w2.cell? ⟨w.heap.size + 1, 4, none⟩ = some (.int .i64 0) := by rw [hb2.cell (p := ⟨w.heap.size + 1, 4, none⟩) (by first | (simp; done) | (simp; omega) | omega)]; first | assumption | (simp [go_sem, *]; done)
  have r4f_2 : w2.frozen? ⟨w.heap.size + 1, 4, none⟩ = false := by rw [hb2.frozen (p := ⟨w.heap.size + 1, 4, none⟩) (by first | (simp; done) | (simp; omega) | omega)]; first | assumption | (simp [go_sem, *]; done)
  have r5_2 : w2.cell? ⟨w.heap.size + 1, 5, none⟩ = some (.int .i64 0) := by rw [hb2.cell (p := ⟨w.heap.size + 1, 5, none⟩) (by first | (simp; done) | (simp; omega) | omega)]; first | assumption | (simp [go_sem, *]; done)
  have r5f_2 : w2.frozen? ⟨w.heap.size + 1, 5, none⟩ = false := by rw [hb2.frozen (p := ⟨w.heap.size + 1, 5, none⟩) (by first | (simp; done) | (simp; omega) | omega)]; first | assumption | (simp [go_sem, *]; done)
  have r6_2 : w2.cell? ⟨w.heap.size + 1, 6, none⟩ = some (.bool false) := by rw [hb2.cell (p := ⟨w.heap.size + 1, 6, none⟩) (by first | (simp; done) | (simp; omega) | omega)]; first | assumption | (simp [go_sem, *]; done)
  have r6f_2 : w2.frozen? ⟨w.heap.size + 1, 6, none⟩ = false := by rw [hb2.frozen (p := ⟨w.heap.size + 1, 6, none⟩) (by first | (simp; done) | (simp; omega) | omega)]; first | assumption | (simp [go_sem, *]; done)
  have r7_2 : w2.cell? ⟨w.heap.size + 1, 7, none⟩ = some (.int .i64 0) := by rw [hb2.cell (p := ⟨w.heap.size + 1, 7, none⟩) (by first | (simp; done) | (simp; omega) | omega)]; first | assumption | (simp [go_sem, *]; done)
  have r7f_2 : w2.frozen? ⟨w.heap.size + 1, 7, none⟩ = false := by rw [hb2.frozen (p := ⟨w.heap.size + 1, 7, none⟩) (by first | (simp; done) | (simp; omega) | omega)]; first | assumption | (simp [go_sem, *]; done)
  have r8_2 : w2.cell? ⟨w.heap.size + 1, 8, none⟩ = some (.int .i32 0) := by rw [hb2.cell (p := ⟨w.heap.size + 1, 8, none⟩) (by first | (simp; done) | (simp; omega) | omega)]; first | assumption | (simp [go_sem, *]; done)
  have r8f_2 : w2.frozen? ⟨w.heap.size + 1, 8, none⟩ = false := by rw [hb2.frozen (p := ⟨w.heap.size + 1, 8, none⟩) (by first | (simp; done) | (simp; omega) | omega)]; first | assumption | (simp [go_sem, *]; done)
  have cd_2 : w2.cell? ⟨cb, co + pc, none⟩ = some (.int .u32 x) := by rw [hb2.cell (p := ⟨cb, co + pc, none⟩) (by first | (simp; done) | (simp; omega) | omega)]; first | assumption | (simp [go_sem, *]; done)
  have szS_2 : S < w2.heap.size := by have h := hb2.size; first | (simp at h; omega) | omega
  have szC_2 : cb < w2.heap.size := by have h := hb2.size; first | (simp at h; omega) | omega
  have szB_2 : w.heap.size < w2.heap.size := by have h := hb2.size; first | (simp at h; omega) | omega
  have szR_2 : w.heap.size + 1 < w2.heap.size := by have h := hb2.size; first | (simp at h; omega) | omega
  have HB2 : Below w.heap.size w w2 := below_then HB1 hb2 (by omega)
  have hT2 : Tab w2 := hT.of_below HB2
  clear hsz2 hb2 hw2 HX pc_1 en0_1 en1_1 en2_1 en3_1 im0_1 im1_1 im3_1 r0_1 r1_1 r2_1 r3_1 r4_1 r5_1 r6_1 r7_1 r8_1 cd_1 pcf_1 r0f_1 r1f_1 r2f_1 r3f_1 r4f_1 r5f_1 r6f_1 r7f_1 r8f_1 szS_1 szE_1 szC_1 szB_1 szR_1 hl_1 hT1
  have hpcI : (pc : Int) < nC := by omega
  have hd1 : Calls Tryd.prog 10 #[.int .u32 x] w2.drew (fun e w' => e = .returned (.tuple #[.agg #[.int .u8 n, .int .i64 a, .int .i64 b, .int .i64 c, .int .i64 i], .int .i64 0]) ∧ Below w2.heap.size w2 w') := (hdc _ (Tab.of_below hT2 ((Below.refl _ _).drew))).mono fun e w' ⟨h1, h2⟩ => ⟨h1, (Below.refl _ _).drew.trans h2⟩
  have hd2 : Calls Tryd.prog 10 #[.int .u32 x] (w2.alloc (.cells #[.int .u8 0, .int .i64 0, .int .i64 0, .int .i64 0, .int .i64 0] 51)).drew (fun e w' => e = .returned (.tuple #[.agg #[.int .u8 n, .int .i64 a, .int .i64 b, .int .i64 c, .int .i64 i], .int .i64 0]) ∧ Below w2.heap.size w2 w' ∧ w2.heap.size < w'.heap.size ∧ w'.cell? ⟨w2.heap.size, 0, none⟩ = some (.int .u8 0) ∧ w'.cell? ⟨w2.heap.size, 1, none⟩ = some (.int .i64 0) ∧ w'.cell? ⟨w2.heap.size, 2, none⟩ = some (.int .i64 0) ∧ w'.cell? ⟨w2.heap.size, 3, none⟩ = some (.int .i64 0) ∧ w'.cell? ⟨w2.heap.size, 4, none⟩ = some (.int .i64 0) ∧ w'.frozen? ⟨w2.heap.size, 0, none⟩ = false ∧ w'.frozen? ⟨w2.heap.size, 1, none⟩ = false ∧ w'.frozen? ⟨w2.heap.size, 2, none⟩ = false ∧ w'.frozen? ⟨w2.heap.size, 3, none⟩ = false ∧ w'.frozen? ⟨w2.heap.size, 4, none⟩ = false) :=
    (hdc _ (Tab.of_below hT2 (bAlloc (Nat.le_refl _) (Below.refl _ _)).drew)).mono fun e w' ⟨h1, h2⟩ => ⟨h1, ((bAlloc (Nat.le_refl _) (Below.refl _ _)).drew).trans (h2.mono (by simp)), by have := h2.size; simp at this; omega, by rw [h2.cell (p := ⟨w2.heap.size, 0, none⟩) (by simp)]; simp [go_sem], by rw [h2.cell (p := ⟨w2.heap.size, 1, none⟩) (by simp)]; simp [go_sem], by rw [h2.cell (p := ⟨w2.heap.size, 2, none⟩) (by simp)]; simp [go_sem], by rw [h2.cell (p := ⟨w2.heap.size, 3, none⟩) (by simp)]; simp [go_sem], by rw [h2.cell (p := ⟨w2.heap.size, 4, none⟩) (by simp)]; simp [go_sem], by rw [h2.frozen (p := ⟨w2.heap.size, 0, none⟩) (by simp)]; simp [go_sem], by rw [h2.frozen (p := ⟨w2.heap.size, 1, none⟩) (by simp)]; simp [go_sem], by rw [h2.frozen (p := ⟨w2.heap.size, 2, none⟩) (by simp)]; simp [go_sem], by rw [h2.frozen (p := ⟨w2.heap.size, 3, none⟩) (by simp)]; simp [go_sem], by rw [h2.frozen (p := ⟨w2.heap.size, 4, none⟩) (by simp)]; simp [go_sem]⟩
  clear hdc
  go_cut [13, 14] (fun s13 s14 wx => ∃ A : Nat, s13 = .pointer (some ⟨A, 0, none⟩) ∧ s14 = .int .i64 0 ∧ DecAt w2 wx A n a b c i)
  case first =>
    go_region_with (go_at_call 10; first | ((with_reducible refine hd1.mono ?_); rintro e w3 ⟨rfl, hb3⟩) | ((with_reducible refine hd2.mono ?_); rintro e w3 ⟨rfl, hb3, sz3, q0, q1, q2, q3, q4, qf0, qf1, qf2, qf3, qf4⟩))
    all_goals (go_wp2_with fail; go_meet)
    all_goals first | (have hs := sz3; refine ⟨_, rfl, rfl, ?_⟩; with_reducible exact decAt_old hb3 hs q0 q1 q2 q3 q4) | (refine ⟨_, rfl, rfl, ?_⟩; with_reducible exact decAt_new hb3)
  case rest =>
    obtain ⟨A, rfl, rfl, hA⟩ := hcut
    obtain ⟨w4, hw4⟩ : ∃ w4 : World, w4 = wc := ⟨_, rfl⟩
    subst hw4
    obtain ⟨hb4, hAge, hAlt, a0, a1, a2, a3, a4⟩ := hA
    have pc_4 : w4.cell? ⟨S, 0, none⟩ = some (.int .i64 (pc : Nat)) := by rw [hb4.cell (p := ⟨S, 0, none⟩) (by first | (simp; done) | (simp; omega) | omega)]; first | assumption | (simp [go_sem, *]; done)
    have pcf_4 : w4.frozen? ⟨S, 0, none⟩ = false := by rw [hb4.frozen (p := ⟨S, 0, none⟩) (by first | (simp; done) | (simp; omega) | omega)]; first | assumption | (simp [go_sem, *]; done)
    have im3_4 : w4.cell? ⟨w.heap.size, 3, none⟩ = some (.int .i64 lk) := by rw [hb4.cell (p := ⟨w.heap.size, 3, none⟩) (by first | (simp; done) | (simp; omega) | omega)]; first | assumption | (simp [go_sem, *]; done)
    have r0_4 : w4.cell? ⟨w.heap.size + 1, 0, none⟩ = some (.int .u8 0) := by rw [hb4.cell (p := ⟨w.heap.size + 1, 0, none⟩) (by first | (simp; done) | (simp; omega) | omega)]; first | assumption | (simp [go_sem, *]; done)
    have r0f_4 : w4.frozen? ⟨w.heap.size + 1, 0, none⟩ = false := by rw [hb4.frozen (p := ⟨w.heap.size + 1, 0, none⟩) (by first | (simp; done) | (simp; omega) | omega)]; first | assumption | (simp [go_sem, *]; done)
    have r1_4 : w4.cell? ⟨w.heap.size + 1, 1, none⟩ = some (.int .i64 0) := by rw [hb4.cell (p := ⟨w.heap.size + 1, 1, none⟩) (by first | (simp; done) | (simp; omega) | omega)]; first | assumption | (simp [go_sem, *]; done)
    have r1f_4 : w4.frozen? ⟨w.heap.size + 1, 1, none⟩ = false := by rw [hb4.frozen (p := ⟨w.heap.size + 1, 1, none⟩) (by first | (simp; done) | (simp; omega) | omega)]; first | assumption | (simp [go_sem, *]; done)
    have r2_4 : w4.cell? ⟨w.heap.size + 1, 2, none⟩ = some (.int .i64 0) := by rw [hb4.cell (p := ⟨w.heap.size + 1, 2, none⟩) (by first | (simp; done) | (simp; omega) | omega)]; first | assumption | (simp [go_sem, *]; done)
    have r2f_4 : w4.frozen? ⟨w.heap.size + 1, 2, none⟩ = false := by rw [hb4.frozen (p := ⟨w.heap.size + 1, 2, none⟩) (by first | (simp; done) | (simp; omega) | omega)]; first | assumption | (simp [go_sem, *]; done)
    have r3_4 : w4.cell? ⟨w.heap.size + 1, 3, none⟩ = some (.int .i64 0) := by rw [hb4.cell (p := ⟨w.heap.size + 1, 3, none⟩) (by first | (simp; done) | (simp; omega) | omega)]; first | assumption | (simp [go_sem, *]; done)
    have r3f_4 : w4.frozen? ⟨w.heap.size + 1, 3, none⟩ = false := by rw [hb4.frozen (p := ⟨w.heap.size + 1, 3, none⟩) (by first | (simp; done) | (simp; omega) | omega)]; first | assumption | (simp [go_sem, *]; done)
    have r4_4 : w4.cell? ⟨w.heap.size + 1, 4, none⟩ = some (.int .i64 0) := by rw [hb4.cell (p := ⟨w.heap.size + 1, 4, none⟩) (by first | (simp; done) | (simp; omega) | omega)]; first | assumption | (simp [go_sem, *]; done)
    have r4f_4 : w4.frozen? ⟨w.heap.size + 1, 4, none⟩ = false := by rw [hb4.frozen (p := ⟨w.heap.size + 1, 4, none⟩) (by first | (simp; done) | (simp; omega) | omega)]; first | assumption | (simp [go_sem, *]; done)
    have r5_4 : w4.cell? ⟨w.heap.size + 1, 5, none⟩ = some (.int .i64 0) := by rw [hb4.cell (p := ⟨w.heap.size + 1, 5, none⟩) (by first | (simp; done) | (simp; omega) | omega)]; first | assumption | (simp [go_sem, *]; done)
    have r5f_4 : w4.frozen? ⟨w.heap.size + 1, 5, none⟩ = false := by rw [hb4.frozen (p := ⟨w.heap.size + 1, 5, none⟩) (by first | (simp; done) | (simp; omega) | omega)]; first | assumption | (simp [go_sem, *]; done)
    have r6_4 : w4.cell? ⟨w.heap.size + 1, 6, none⟩ = some (.bool false) := by rw [hb4.cell (p := ⟨w.heap.size + 1, 6, none⟩) (by first | (simp; done) | (simp; omega) | omega)]; first | assumption | (simp [go_sem, *]; done)
    have r6f_4 : w4.frozen? ⟨w.heap.size + 1, 6, none⟩ = false := by rw [hb4.frozen (p := ⟨w.heap.size + 1, 6, none⟩) (by first | (simp; done) | (simp; omega) | omega)]; first | assumption | (simp [go_sem, *]; done)
    have r7_4 : w4.cell? ⟨w.heap.size + 1, 7, none⟩ = some (.int .i64 0) := by rw [hb4.cell (p := ⟨w.heap.size + 1, 7, none⟩) (by first | (simp; done) | (simp; omega) | omega)]; first | assumption | (simp [go_sem, *]; done)
    have r7f_4 : w4.frozen? ⟨w.heap.size + 1, 7, none⟩ = false := by rw [hb4.frozen (p := ⟨w.heap.size + 1, 7, none⟩) (by first | (simp; done) | (simp; omega) | omega)]; first | assumption | (simp [go_sem, *]; done)
    have r8_4 : w4.cell? ⟨w.heap.size + 1, 8, none⟩ = some (.int .i32 0) := by rw [hb4.cell (p := ⟨w.heap.size + 1, 8, none⟩) (by first | (simp; done) | (simp; omega) | omega)]; first | assumption | (simp [go_sem, *]; done)
    have r8f_4 : w4.frozen? ⟨w.heap.size + 1, 8, none⟩ = false := by rw [hb4.frozen (p := ⟨w.heap.size + 1, 8, none⟩) (by first | (simp; done) | (simp; omega) | omega)]; first | assumption | (simp [go_sem, *]; done)
    have szS_4 : S < w4.heap.size := by have h := hb4.size; first | (simp at h; omega) | omega
    have szB_4 : w.heap.size < w4.heap.size := by have h := hb4.size; first | (simp at h; omega) | omega
    have szR_4 : w.heap.size + 1 < w4.heap.size := by have h := hb4.size; first | (simp at h; omega) | omega
    have HB4 : Below w.heap.size w w4 := below_then HB2 hb4 (by omega)
    clear hb4 pc_2 im0_2 im1_2 im3_2 r0_2 r1_2 r2_2 r3_2 r4_2 r5_2 r6_2 r7_2 r8_2 cd_2 pcf_2 r0f_2 r1f_2 r2f_2 r3f_2 r4f_2 r5f_2 r6f_2 r7f_2 r8f_2 szS_2 szC_2 szB_2 szR_2 hd1 hd2 hT2
    go_wp2_with fail
    go_region
    all_goals go_wp2_with fail
    obtain ⟨W, hW⟩ : ∃ W : World, (w4.alloc (.cells #[.int .u8 n, .int .i64 a, .int .i64 b, .int .i64 c, .int .i64 i, .int .i64 (pc : Nat), .bool false, .int .i64 (-1), .int .i32 0, .pointer (some ⟨S, 0, none⟩), .int .i64 ((pc : Int) + 1)] 102)).drew = W := ⟨_, rfl⟩
    have hX : ExAt W w4.heap.size n a b c i pc S := by
      subst hW
      constructor <;> simp [go_sem]
    have hbW : Below w4.heap.size w4 W := by rw [← hW]; exact (bAlloc (Nat.le_refl _) (Below.refl _ _)).drew
    have hszW : w4.heap.size < W.heap.size := by rw [← hW]; simp
    rw [hW]
    clear hW
    obtain ⟨EX, ST, hcalls, hdone, hbST, hszST, hpcST, hpfST, hkeep⟩ := hprep W w4.heap.size (by omega) hszW (below_then HB4 hbW (by omega)) hX
    have hRST : ST.heap[w.heap.size + 1]? = w4.heap[w.heap.size + 1]? := (hkeep _ (by omega) szR_4).trans (hbW.block _ szR_4)
    refine hcalls.mono ?_
    rintro e w5 ⟨f, caps, rfl, hb5, hent, hcom⟩
    clear hprep hcalls hX hkeep
    have hent' : ∀ args w, (callFunc f args).run Tryd.prog w = .ok (.enter f args) w := hent
    clear hent
    go_wp2_with fail
    refine hcom.mono ?_
    rintro e w6 ⟨rfl, hb6, hsz6⟩
    clear hcom hent'
    obtain ⟨x0, x1, x2, x3, x4, x5, x6, x7, x8, x10⟩ := hdone
    have y0 : w6.cell? ⟨w4.heap.size, 0, none⟩ = some (.int .u8 n) := by rw [hb6.cell (p := ⟨w4.heap.size, 0, none⟩) hszW]; exact x0
    have y1 : w6.cell? ⟨w4.heap.size, 1, none⟩ = some (.int .i64 a) := by rw [hb6.cell (p := ⟨w4.heap.size, 1, none⟩) hszW]; exact x1
    have y2 : w6.cell? ⟨w4.heap.size, 2, none⟩ = some (.int .i64 b) := by rw [hb6.cell (p := ⟨w4.heap.size, 2, none⟩) hszW]; exact x2
    have y3 : w6.cell? ⟨w4.heap.size, 3, none⟩ = some (.int .i64 c) := by rw [hb6.cell (p := ⟨w4.heap.size, 3, none⟩) hszW]; exact x3
    have y4 : w6.cell? ⟨w4.heap.size, 4, none⟩ = some (.int .i64 i) := by rw [hb6.cell (p := ⟨w4.heap.size, 4, none⟩) hszW]; exact x4
    have y5 : w6.cell? ⟨w4.heap.size, 5, none⟩ = some (.int .i64 (pc : Nat)) := by rw [hb6.cell (p := ⟨w4.heap.size, 5, none⟩) hszW]; exact x5
    have y6 : w6.cell? ⟨w4.heap.size, 6, none⟩ = some (.bool tk) := by rw [hb6.cell (p := ⟨w4.heap.size, 6, none⟩) hszW]; exact x6
    have y7 : w6.cell? ⟨w4.heap.size, 7, none⟩ = some (.int .i64 ad) := by rw [hb6.cell (p := ⟨w4.heap.size, 7, none⟩) hszW]; exact x7
    have y8 : w6.cell? ⟨w4.heap.size, 8, none⟩ = some (.int .i32 vl) := by rw [hb6.cell (p := ⟨w4.heap.size, 8, none⟩) hszW]; exact x8
    have y10 : w6.cell? ⟨w4.heap.size, 10, none⟩ = some (.int .i64 nx) := by rw [hb6.cell (p := ⟨w4.heap.size, 10, none⟩) hszW]; exact x10
    have y11 : w6.cell? ⟨S, 0, none⟩ = some (.int .i64 (pc : Nat)) := by rw [hb6.cell (p := ⟨S, 0, none⟩) (by show S < _; omega)]; exact hpcST
    have y12 : w6.frozen? ⟨S, 0, none⟩ = false := by rw [hb6.frozen (p := ⟨S, 0, none⟩) (by show S < _; omega)]; exact hpfST
    have hR6 : w6.heap[w.heap.size + 1]? = w4.heap[w.heap.size + 1]? := (hb6.block _ (by omega)).trans hRST
    have z0 : w6.cell? ⟨w.heap.size + 1, 0, none⟩ = some (.int .u8 0) := (World.cell?_of_block (w := w4) hR6).trans r0_4
    have zf0 : w6.frozen? ⟨w.heap.size + 1, 0, none⟩ = false := (World.frozen?_of_block (w := w4) hR6).trans r0f_4
    have z1 : w6.cell? ⟨w.heap.size + 1, 1, none⟩ = some (.int .i64 0) := (World.cell?_of_block (w := w4) hR6).trans r1_4
    have zf1 : w6.frozen? ⟨w.heap.size + 1, 1, none⟩ = false := (World.frozen?_of_block (w := w4) hR6).trans r1f_4
    have z2 : w6.cell? ⟨w.heap.size + 1, 2, none⟩ = some (.int .i64 0) := (World.cell?_of_block (w := w4) hR6).trans r2_4
    have zf2 : w6.frozen? ⟨w.heap.size + 1, 2, none⟩ = false := (World.frozen?_of_block (w := w4) hR6).trans r2f_4
    have z3 : w6.cell? ⟨w.heap.size + 1, 3, none⟩ = some (.int .i64 0) := (World.cell?_of_block (w := w4) hR6).trans r3_4
    have zf3 : w6.frozen? ⟨w.heap.size + 1, 3, none⟩ = false := (World.frozen?_of_block (w := w4) hR6).trans r3f_4
    have z4 : w6.cell? ⟨w.heap.size + 1, 4, none⟩ = some (.int .i64 0) := (World.cell?_of_block (w := w4) hR6).trans r4_4
    have zf4 : w6.frozen? ⟨w.heap.size + 1, 4, none⟩ = false := (World.frozen?_of_block (w := w4) hR6).trans r4f_4
    have z5 : w6.cell? ⟨w.heap.size + 1, 5, none⟩ = some (.int .i64 0) := (World.cell?_of_block (w := w4) hR6).trans r5_4
    have zf5 : w6.frozen? ⟨w.heap.size + 1, 5, none⟩ = false := (World.frozen?_of_block (w := w4) hR6).trans r5f_4
    have z6 : w6.cell? ⟨w.heap.size + 1, 6, none⟩ = some (.bool false) := (World.cell?_of_block (w := w4) hR6).trans r6_4
    have zf6 : w6.frozen? ⟨w.heap.size + 1, 6, none⟩ = false := (World.frozen?_of_block (w := w4) hR6).trans r6f_4
    have z7 : w6.cell? ⟨w.heap.size + 1, 7, none⟩ = some (.int .i64 0) := (World.cell?_of_block (w := w4) hR6).trans r7_4
    have zf7 : w6.frozen? ⟨w.heap.size + 1, 7, none⟩ = false := (World.frozen?_of_block (w := w4) hR6).trans r7f_4
    have z8 : w6.cell? ⟨w.heap.size + 1, 8, none⟩ = some (.int .i32 0) := (World.cell?_of_block (w := w4) hR6).trans r8_4
    have zf8 : w6.frozen? ⟨w.heap.size + 1, 8, none⟩ = false := (World.frozen?_of_block (w := w4) hR6).trans r8f_4
    have HB6 : Below w.heap.size STW w6 := hbST.trans (hb6.mono (by omega))
    have hsz7 : w.heap.size + 1 < w6.heap.size := by have h1 := hb6.size; omega
    have hSw6 : S < w.heap.size + 1 := by omega
    have hsE : w.heap.size + 1 < w4.heap.size := szR_4
    clear r0_4 r0f_4 r1_4 r1f_4 r2_4 r2f_4 r3_4 r3f_4 r4_4 r4f_4 r5_4 r5f_4 r6_4 r6f_4 r7_4 r7f_4 r8_4 r8f_4 hR6 hRST hb6 hb5 hbST hpcST hpfST x0 x1 x2 x3 x4 x5 x6 x7 x8 x10 pc_4 pcf_4 im3_4 hbW HB4 HB2 HB1
    go_wp2_with fail
    refine bodyPost_ret (v := .tuple #[.agg #[.int .u8 n, .int .i64 a, .int .i64 b, .int .i64 c, .int .i64 i, .int .i64 (pc : Nat), .bool tk, .int .i64 ad, .int .i32 vl], .int .i64 0]) (run_result9 Tryd.results23 (fun _ => by kernel_rfl) (fun _ => by kernel_rfl) _ _ _ _ _ _ _ _ _ _ rfl rfl (by simp [go_sem, z0]) (by simp [go_sem, z1]) (by simp [go_sem, z2]) (by simp [go_sem, z3]) (by simp [go_sem, z4]) (by simp [go_sem, z5]) (by simp [go_sem, z6]) (by simp [go_sem, z7]) (by simp [go_sem, z8])) rfl ⟨rfl, ?_⟩
    repeat (first | (with_reducible apply bBoth) | (with_reducible exact Below.refl _ _) | (with_reducible apply bDrewN) | (with_reducible apply Below.drew) | (with_reducible exact HB6) | ((with_reducible apply bSet); (focus first | (simp; done) | (simp; omega) | omega)) | ((with_reducible apply bAlloc); (focus first | (simp; done) | (simp; omega) | omega)))

end Go.Proofs.YtpachmkklppmjaaDoor
