import Derived.Test.YtdfofelchjpioaaDoorMs22
import Derived.Test.YtdfofelchjpioaaDoorMs03
import Derived.Test.YtdfofelchjpioaaDoorMs30
set_option linter.unusedVariables false
set_option linter.unusedSimpArgs false
namespace Go.Proofs.YtdfofelchjpioaaDoor
open Go.Joins Go.ChangeShapes Go.WideShapes Go.ChangeAt Go.RowKit Go.Deep

section
variable {H : Type} {enc : TypeId × Value → H} {w : World} {held : Bool} {spare : Nat → Bool}

theorem add_none (m off j : Nat) : (⟨m, off, none⟩ : Addr).add j = ⟨m, off + j, none⟩ := by unfold Addr.add; split <;> simp_all

theorem cell_plain {a : Addr} {v : Value} (h : w.cell? (a.add 0) = some v) : a = ⟨a.block, a.off, none⟩ ∧ a.block < w.heap.size := by
  have e : a.add 0 = a := by unfold Addr.add; simp
  rw [e] at h
  unfold World.cell? at h
  split at h
  · rename_i c t fr hc
    split at h
    · cases h
    · rename_i hs
      refine ⟨?_, lt_of_block hc⟩
      cases a
      simp at hs
      simp [hs]
  · cases h

theorem open_words {fuel : Nat} {cs : List Value} {x : DataW H × List MemPlace} (h : DataW.trod enc Tryd.prog w 0 spare held fuel 27 cs = some x) :
    ∃ (p : Option Addr) (cap : Nat) (d : List Int), cs = [.slice p d.length cap] ∧ RdAt w (.slice p d.length cap) d ∧ (∀ j, W32 (d.getD j 0)) ∧ (∀ c, Value.slice p d.length cap = .slice none 0 c → c = 0) := by
  rcases DataW.trod_slice Tryd.underlying27 h with ⟨rfl, rfl⟩ | ⟨a, len, cap, elems, rest, n, rfl, rfl, rfl, hb, hl, hm, hel, hc, _, _⟩
  · exact ⟨none, 0, [], rfl, ⟨none, 0, rfl, fun k hk => by simp at hk⟩, fun j => by simp; exact ⟨by omega, by omega⟩, fun c h => by injection h with _ _ h; exact h.symm⟩
  · have hcell : ∀ i, i < len → ∃ n : Int, w.cell? (a.add i) = some (.int .i32 n) ∧ W32 n := by
      intro i hi
      have h1 := hc i hi
      rw [show Tryd.prog.cellsOf 21 = 1 by kernel_rfl, Nat.mul_one] at h1
      rw [List.getElem?_eq_getElem (by omega)] at h1
      obtain ⟨cs', h2, h3⟩ := Option.bind_eq_some_iff.1 h1
      obtain ⟨n, rfl, _, hwf⟩ := DataW.trod_int Tryd.underlying21 h3
      obtain ⟨_, _, hat⟩ := World.cells?_some h2
      have h4 := hat 0 (by omega)
      have hw := bounds_i32 hwf
      refine ⟨n, ?_, hw⟩
      simpa [Addr.add] using h4
    let f : Nat → Int := fun i => match w.cell? (a.add i) with | some (.int _ n) => n | _ => 0
    have hf : ∀ i, i < len → w.cell? (a.add i) = some (.int .i32 (f i)) ∧ W32 (f i) := by
      intro i hi
      obtain ⟨n, h1, h2⟩ := hcell i hi
      have : f i = n := by simp only [f, h1]
      rw [this]
      exact ⟨h1, h2⟩
    have hd : ((List.range len).map f).length = len := by simp
    have hg : ∀ i, i < len → ((List.range len).map f).getD i 0 = f i := by
      intro i hi
      simp [List.getD_eq_getElem?_getD, hi]
    refine ⟨some a, cap, (List.range len).map f, by rw [hd], ⟨some a, cap, rfl, fun k hk => ?_⟩, fun j => ?_, fun c h => by cases h⟩
    · rw [hd] at hk
      have h1 := (hf k hk).1
      have h0 := (hf 0 (by omega)).1
      obtain ⟨ha, hlt⟩ := cell_plain h0
      rw [ha, add_none] at h1
      rw [hg k hk]
      exact ⟨a.block, a.off, by rw [← ha], hlt, h1⟩
    · by_cases hj : j < len
      · rw [hg j hj]; exact (hf j hj).2
      · rw [List.getD_eq_getElem?_getD, List.getElem?_eq_none (by rw [hd]; omega)]
        exact ⟨by simp, by simp⟩

set_option maxRecDepth 20000 in
theorem open_state {r : Reach} {b0 : Nat} {v : Value} {d : DataW H} {pl : List MemPlace} (hv : Value.okWide Tryd.prog w r b0 29 v) (h : DataW.Trod enc Tryd.prog w 0 spare held 29 v d pl) :
    ∃ (pc r0 r1 r2 r3 r4 r5 r6 r7 r8 r9 r10 r11 r12 r13 r14 r15 he : Int) (hl : Bool) (p : Option Addr) (cap : Nat) (dd : List Int), v = .agg #[.int .i64 pc, .int .i32 r0, .int .i32 r1, .int .i32 r2, .int .i32 r3, .int .i32 r4, .int .i32 r5, .int .i32 r6, .int .i32 r7, .int .i32 r8, .int .i32 r9, .int .i32 r10, .int .i32 r11, .int .i32 r12, .int .i32 r13, .int .i32 r14, .int .i32 r15, .slice p dd.length cap, .bool hl, .int .i64 he] ∧ RdAt w (.slice p dd.length cap) dd ∧ (∀ j, W32 (dd.getD j 0)) ∧ (∀ c, Value.slice p dd.length cap = .slice none 0 c → c = 0) ∧
      (∀ j, W32 ([r0, r1, r2, r3, r4, r5, r6, r7, r8, r9, r10, r11, r12, r13, r14, r15].getD j 0)) ∧ (-9223372036854775808 ≤ pc ∧ pc ≤ 9223372036854775807) ∧ (-9223372036854775808 ≤ he ∧ he ≤ 9223372036854775807) := by
  obtain ⟨cs, rfl, hsz⟩ := okWide_struct Tryd.underlying29 hv
  obtain ⟨l⟩ := cs
  have e64 : Tryd.prog.cellsOf 3 = 1 := by kernel_rfl
  have e32 : Tryd.prog.cellsOf 21 = 1 := by kernel_rfl
  have eA : Tryd.prog.cellsOf 26 = 16 := by kernel_rfl
  have eD : Tryd.prog.cellsOf 27 = 1 := by kernel_rfl
  have eB : Tryd.prog.cellsOf 4 = 1 := by kernel_rfl
  match l, hsz.trans (show Tryd.prog.cellsOf 29 = 20 by kernel_rfl) with
  | [c0, c1, c2, c3, c4, c5, c6, c7, c8, c9, c10, c11, c12, c13, c14, c15, c16, c17, c18, c19], _ =>
    obtain ⟨fuel, hf⟩ := h
    obtain ⟨xs, n, _, _, _, hlen, hg⟩ := DataW.trod_struct Tryd.underlying29 hf
    have h0 := hg 0 _ rfl
    have h1 := hg 1 _ rfl
    have h2 := hg 2 _ rfl
    have h3 := hg 3 _ rfl
    have h4 := hg 4 _ rfl
    have hx : xs.length = 5 := hlen
    rw [List.getElem?_eq_getElem (by omega)] at h0 h1 h2 h3 h4
    simp only [Value.cells, e64, eA, eD, eB, List.drop_succ_cons, List.drop_zero, List.take_succ_cons, List.take_zero] at h0 h1 h2 h3 h4
    obtain ⟨pc, e0, -, w0⟩ := DataW.trod_int Tryd.underlying3 h0
    obtain ⟨he, e4, -, w4⟩ := DataW.trod_int Tryd.underlying3 h4
    obtain ⟨p, cap, dd, eD', hrd, hd32, hn0⟩ := open_words h2
    obtain ⟨hl, eH, -⟩ := DataW.trod_bool Tryd.underlying4 h3
    obtain ⟨ys, m, _, _, _, hyl, hR⟩ := DataW.trod_array Tryd.underlying26 h1
    obtain rfl := (List.cons.inj e0).1
    obtain rfl := (List.cons.inj e4).1
    obtain rfl := (List.cons.inj eD').1
    obtain rfl := (List.cons.inj eH).1
    obtain ⟨r0, e0, -, f0⟩ := DataW.trod_int Tryd.underlying21 ((hR 0 (by omega)).trans (List.getElem?_eq_getElem (by omega)))
    rw [e32] at e0
    obtain rfl := (List.cons.inj e0).1
    obtain ⟨r1, e1, -, f1⟩ := DataW.trod_int Tryd.underlying21 ((hR 1 (by omega)).trans (List.getElem?_eq_getElem (by omega)))
    rw [e32] at e1
    obtain rfl := (List.cons.inj e1).1
    obtain ⟨r2, e2, -, f2⟩ := DataW.trod_int Tryd.underlying21 ((hR 2 (by omega)).trans (List.getElem?_eq_getElem (by omega)))
    rw [e32] at e2
    obtain rfl := (List.cons.inj e2).1
    obtain ⟨r3, e3, -, f3⟩ := DataW.trod_int Tryd.underlying21 ((hR 3 (by omega)).trans (List.getElem?_eq_getElem (by omega)))
    rw [e32] at e3
    obtain rfl := (List.cons.inj e3).1
    obtain ⟨r4, e4, -, f4⟩ := DataW.trod_int Tryd.underlying21 ((hR 4 (by omega)).trans (List.getElem?_eq_getElem (by omega)))
    rw [e32] at e4
    obtain rfl := (List.cons.inj e4).1
    obtain ⟨r5, e5, -, f5⟩ := DataW.trod_int Tryd.underlying21 ((hR 5 (by omega)).trans (List.getElem?_eq_getElem (by omega)))
    rw [e32] at e5
    obtain rfl := (List.cons.inj e5).1
    obtain ⟨r6, e6, -, f6⟩ := DataW.trod_int Tryd.underlying21 ((hR 6 (by omega)).trans (List.getElem?_eq_getElem (by omega)))
    rw [e32] at e6
    obtain rfl := (List.cons.inj e6).1
    obtain ⟨r7, e7, -, f7⟩ := DataW.trod_int Tryd.underlying21 ((hR 7 (by omega)).trans (List.getElem?_eq_getElem (by omega)))
    rw [e32] at e7
    obtain rfl := (List.cons.inj e7).1
    obtain ⟨r8, e8, -, f8⟩ := DataW.trod_int Tryd.underlying21 ((hR 8 (by omega)).trans (List.getElem?_eq_getElem (by omega)))
    rw [e32] at e8
    obtain rfl := (List.cons.inj e8).1
    obtain ⟨r9, e9, -, f9⟩ := DataW.trod_int Tryd.underlying21 ((hR 9 (by omega)).trans (List.getElem?_eq_getElem (by omega)))
    rw [e32] at e9
    obtain rfl := (List.cons.inj e9).1
    obtain ⟨r10, e10, -, f10⟩ := DataW.trod_int Tryd.underlying21 ((hR 10 (by omega)).trans (List.getElem?_eq_getElem (by omega)))
    rw [e32] at e10
    obtain rfl := (List.cons.inj e10).1
    obtain ⟨r11, e11, -, f11⟩ := DataW.trod_int Tryd.underlying21 ((hR 11 (by omega)).trans (List.getElem?_eq_getElem (by omega)))
    rw [e32] at e11
    obtain rfl := (List.cons.inj e11).1
    obtain ⟨r12, e12, -, f12⟩ := DataW.trod_int Tryd.underlying21 ((hR 12 (by omega)).trans (List.getElem?_eq_getElem (by omega)))
    rw [e32] at e12
    obtain rfl := (List.cons.inj e12).1
    obtain ⟨r13, e13, -, f13⟩ := DataW.trod_int Tryd.underlying21 ((hR 13 (by omega)).trans (List.getElem?_eq_getElem (by omega)))
    rw [e32] at e13
    obtain rfl := (List.cons.inj e13).1
    obtain ⟨r14, e14, -, f14⟩ := DataW.trod_int Tryd.underlying21 ((hR 14 (by omega)).trans (List.getElem?_eq_getElem (by omega)))
    rw [e32] at e14
    obtain rfl := (List.cons.inj e14).1
    obtain ⟨r15, e15, -, f15⟩ := DataW.trod_int Tryd.underlying21 ((hR 15 (by omega)).trans (List.getElem?_eq_getElem (by omega)))
    rw [e32] at e15
    obtain rfl := (List.cons.inj e15).1
    refine ⟨pc, r0, r1, r2, r3, r4, r5, r6, r7, r8, r9, r10, r11, r12, r13, r14, r15, he, hl, p, cap, dd, rfl, hrd, hd32, hn0, fun j => ?_, bounds_i64 w0, bounds_i64 w4⟩
    match j with
    | 0 => exact bounds_i32 f0
    | 1 => exact bounds_i32 f1
    | 2 => exact bounds_i32 f2
    | 3 => exact bounds_i32 f3
    | 4 => exact bounds_i32 f4
    | 5 => exact bounds_i32 f5
    | 6 => exact bounds_i32 f6
    | 7 => exact bounds_i32 f7
    | 8 => exact bounds_i32 f8
    | 9 => exact bounds_i32 f9
    | 10 => exact bounds_i32 f10
    | 11 => exact bounds_i32 f11
    | 12 => exact bounds_i32 f12
    | 13 => exact bounds_i32 f13
    | 14 => exact bounds_i32 f14
    | 15 => exact bounds_i32 f15
    | j + 16 => exact ⟨by simp, by simp⟩

theorem open_code {fuel : Nat} {cs : List Value} {x : DataW H × List MemPlace} (h : DataW.trod enc Tryd.prog w 0 spare held fuel 22 cs = some x) :
    ∃ (p : Option Addr) (cap : Nat) (d : List Int), cs = [.slice p d.length cap] ∧ (d = [] ∨ ∃ cb co, p = some ⟨cb, co, none⟩ ∧ cb < w.heap.size ∧ ∀ k, k < d.length → w.cell? ⟨cb, co + k, none⟩ = some (.int .u32 (d.getD k 0))) ∧ ∀ k, k < d.length → 0 ≤ d.getD k 0 ∧ d.getD k 0 < 4294967296 := by
  rcases DataW.trod_slice Tryd.underlying22 h with ⟨rfl, rfl⟩ | ⟨a, len, cap, elems, rest, n, rfl, rfl, rfl, hb, hl, hm, hel, hc, _, _⟩
  · exact ⟨none, 0, [], rfl, .inl rfl, fun k hk => by simp at hk⟩
  · have hcell : ∀ i, i < len → ∃ n : Int, w.cell? (a.add i) = some (.int .u32 n) ∧ 0 ≤ n ∧ n < 4294967296 := by
      intro i hi
      have h1 := hc i hi
      rw [show Tryd.prog.cellsOf 63 = 1 by kernel_rfl, Nat.mul_one] at h1
      rw [List.getElem?_eq_getElem (by omega)] at h1
      obtain ⟨cs', h2, h3⟩ := Option.bind_eq_some_iff.1 h1
      obtain ⟨n, rfl, _, hwf⟩ := DataW.trod_int Tryd.underlying63 h3
      obtain ⟨_, _, hat⟩ := World.cells?_some h2
      have h4 := hat 0 (by omega)
      have hw := bounds_u32 hwf
      refine ⟨n, ?_, hw.1, by omega⟩
      simpa [Addr.add] using h4
    let f : Nat → Int := fun i => match w.cell? (a.add i) with | some (.int _ n) => n | _ => 0
    have hf : ∀ i, i < len → w.cell? (a.add i) = some (.int .u32 (f i)) ∧ 0 ≤ f i ∧ f i < 4294967296 := by
      intro i hi
      obtain ⟨n, h1, h2⟩ := hcell i hi
      have : f i = n := by simp only [f, h1]
      rw [this]
      exact ⟨h1, h2⟩
    have hd : ((List.range len).map f).length = len := by simp
    have hg : ∀ i, i < len → ((List.range len).map f).getD i 0 = f i := by
      intro i hi
      simp [List.getD_eq_getElem?_getD, hi]
    refine ⟨some a, cap, (List.range len).map f, by rw [hd], ?_, fun k hk => ?_⟩
    · by_cases h0 : len = 0
      · left; subst h0; rfl
      · right
        obtain ⟨ha, hlt⟩ := cell_plain (hf 0 (by omega)).1
        refine ⟨a.block, a.off, by rw [← ha], hlt, fun k hk => ?_⟩
        rw [hd] at hk
        have h1 := (hf k hk).1
        rw [ha, add_none] at h1
        rw [hg k hk]
        exact h1
    · rw [hd] at hk
      rw [hg k hk]
      exact (hf k hk).2

theorem add_add (a : Addr) (i j : Nat) : (a.add i).add j = a.add (i + j) := by
  unfold Addr.add
  by_cases hi : i = 0 <;> by_cases hj : j = 0 <;> simp [hi, hj, Nat.add_assoc]

set_option maxRecDepth 20000 in
theorem open_ents {fuel : Nat} {cs : List Value} {x : DataW H × List MemPlace} (h : DataW.trod enc Tryd.prog w 0 spare held fuel 23 cs = some x) :
    ∃ (p : Option Addr) (cap : Nat) (d : List En), cs = [.slice p d.length cap] ∧ (d = [] ∨ ∃ eb eo, p = some ⟨eb, eo, none⟩ ∧ eb < w.heap.size ∧ ∀ k, k < d.length → w.cell? ⟨eb, eo + k * 4, none⟩ = some (.string (d.getD k default).nm) ∧
      w.cell? ⟨eb, eo + k * 4 + 1, none⟩ = some (.int .i64 (d.getD k default).st) ∧ w.cell? ⟨eb, eo + k * 4 + 2, none⟩ = some (.int .i64 (d.getD k default).fin) ∧ w.cell? ⟨eb, eo + k * 4 + 3, none⟩ = some (.int .i64 (d.getD k default).dat)) := by
  rcases DataW.trod_slice Tryd.underlying23 h with ⟨rfl, rfl⟩ | ⟨a, len, cap, elems, rest, n, rfl, rfl, rfl, hb, hl, hm, hel, hc, _, _⟩
  · exact ⟨none, 0, [], rfl, .inl rfl⟩
  · have e64 : Tryd.prog.cellsOf 3 = 1 := by kernel_rfl
    have eS : Tryd.prog.cellsOf 9 = 1 := by kernel_rfl
    have hcell : ∀ i, i < len → ∃ x : En, w.cell? (a.add (i * 4)) = some (.string x.nm) ∧ w.cell? (a.add (i * 4 + 1)) = some (.int .i64 x.st) ∧ w.cell? (a.add (i * 4 + 2)) = some (.int .i64 x.fin) ∧ w.cell? (a.add (i * 4 + 3)) = some (.int .i64 x.dat) := by
      intro i hi
      have h1 := hc i hi
      rw [show Tryd.prog.cellsOf 60 = 4 by kernel_rfl] at h1
      rw [List.getElem?_eq_getElem (by omega)] at h1
      obtain ⟨cs', h2, h3⟩ := Option.bind_eq_some_iff.1 h1
      obtain ⟨_, hlc, hat⟩ := World.cells?_some h2
      match cs', hlc with
      | [c0, c1, c2, c3], _ =>
        obtain ⟨ys, m, _, _, _, hyl, hg⟩ := DataW.trod_struct Tryd.underlying60 h3
        have g0 : DataW.trod enc Tryd.prog w 0 spare held m 9 (([c0, c1, c2, c3].drop 0).take (Tryd.prog.cellsOf 9)) = ys[0]? := hg 0 _ rfl
        have g1 : DataW.trod enc Tryd.prog w 0 spare held m 3 (([c0, c1, c2, c3].drop 1).take (Tryd.prog.cellsOf 3)) = ys[1]? := hg 1 _ rfl
        have g2 : DataW.trod enc Tryd.prog w 0 spare held m 3 (([c0, c1, c2, c3].drop 2).take (Tryd.prog.cellsOf 3)) = ys[2]? := hg 2 _ rfl
        have g3 : DataW.trod enc Tryd.prog w 0 spare held m 3 (([c0, c1, c2, c3].drop 3).take (Tryd.prog.cellsOf 3)) = ys[3]? := hg 3 _ rfl
        have hx : ys.length = 4 := hyl
        rw [List.getElem?_eq_getElem (by omega)] at g0 g1 g2 g3
        rw [eS] at g0
        rw [e64] at g1 g2 g3
        obtain ⟨nm, e0, -, -⟩ := DataW.trod_string Tryd.underlying9 g0
        obtain ⟨s1, e1, -, -⟩ := DataW.trod_int Tryd.underlying3 g1
        obtain ⟨s2, e2, -, -⟩ := DataW.trod_int Tryd.underlying3 g2
        obtain ⟨s3, e3, -, -⟩ := DataW.trod_int Tryd.underlying3 g3
        obtain rfl := (List.cons.inj e0).1
        obtain rfl := (List.cons.inj e1).1
        obtain rfl := (List.cons.inj e2).1
        obtain rfl := (List.cons.inj e3).1
        refine ⟨⟨nm, s1, s2, s3⟩, ?_, ?_, ?_, ?_⟩
        · have := hat 0 (by omega); rw [add_add] at this; simpa using this
        · have := hat 1 (by omega); rw [add_add] at this; simpa using this
        · have := hat 2 (by omega); rw [add_add] at this; simpa using this
        · have := hat 3 (by omega); rw [add_add] at this; simpa using this
    have hch : ∃ f : Nat → En, ∀ i, i < len → w.cell? (a.add (i * 4)) = some (.string (f i).nm) ∧ w.cell? (a.add (i * 4 + 1)) = some (.int .i64 (f i).st) ∧ w.cell? (a.add (i * 4 + 2)) = some (.int .i64 (f i).fin) ∧ w.cell? (a.add (i * 4 + 3)) = some (.int .i64 (f i).dat) := by
      refine ⟨fun i => if hi : i < len then (hcell i hi).choose else default, fun i hi => ?_⟩
      simp only [hi, dite_true]
      exact (hcell i hi).choose_spec
    obtain ⟨f, hf⟩ := hch
    have hd : ((List.range len).map f).length = len := by simp
    have hg : ∀ i, i < len → ((List.range len).map f).getD i default = f i := by
      intro i hi
      simp [List.getD_eq_getElem?_getD, hi]
    refine ⟨some a, cap, (List.range len).map f, by rw [hd], ?_⟩
    by_cases h0 : len = 0
    · left; subst h0; rfl
    · right
      obtain ⟨ha, hlt⟩ := cell_plain (by simpa using (hf 0 (by omega)).1)
      refine ⟨a.block, a.off, by rw [← ha], hlt, fun k hk => ?_⟩
      rw [hd] at hk
      have h1 := hf k hk
      rw [ha] at h1
      simp only [add_none] at h1
      rw [hg k hk]
      exact h1

set_option maxRecDepth 20000 in
theorem open_image {r : Reach} {b0 : Nat} {v : Value} {d : DataW H} {pl : List MemPlace} (hv : Value.okWide Tryd.prog w r b0 25 v) (h : DataW.Trod enc Tryd.prog w 0 spare held 25 v d pl) :
    ∃ (cp ep : Option Addr) (ccap ecap : Nat) (im : Im), v = .agg #[.slice cp im.code.length ccap, .slice ep im.ents.length ecap, .int .i64 im.sh, .int .i64 im.lk] ∧ (im.code.length ≤ 200 → ImAt w v im) := by
  obtain ⟨cs, rfl, hsz⟩ := okWide_struct Tryd.underlying25 hv
  obtain ⟨l⟩ := cs
  have e64 : Tryd.prog.cellsOf 3 = 1 := by kernel_rfl
  have eC : Tryd.prog.cellsOf 22 = 1 := by kernel_rfl
  have eE : Tryd.prog.cellsOf 23 = 1 := by kernel_rfl
  match l, hsz.trans (show Tryd.prog.cellsOf 25 = 4 by kernel_rfl) with
  | [c0, c1, c2, c3], _ =>
    obtain ⟨fuel, hf⟩ := h
    obtain ⟨xs, n, _, _, _, hlen, hg⟩ := DataW.trod_struct Tryd.underlying25 hf
    have h0 := hg 0 _ rfl
    have h1 := hg 1 _ rfl
    have h2 := hg 2 _ rfl
    have h3 := hg 3 _ rfl
    have hx : xs.length = 4 := hlen
    rw [List.getElem?_eq_getElem (by omega)] at h0 h1 h2 h3
    simp only [Value.cells, e64, eC, eE, List.drop_succ_cons, List.drop_zero, List.take_succ_cons, List.take_zero] at h0 h1 h2 h3
    obtain ⟨cp, ccap, code, e0, hc, hw⟩ := open_code h0
    obtain ⟨ep, ecap, ents, e1, he⟩ := open_ents h1
    obtain ⟨sh, e2, -, -⟩ := DataW.trod_int Tryd.underlying3 h2
    obtain ⟨lk, e3, -, -⟩ := DataW.trod_int Tryd.underlying3 h3
    obtain rfl := (List.cons.inj e0).1
    obtain rfl := (List.cons.inj e1).1
    obtain rfl := (List.cons.inj e2).1
    obtain rfl := (List.cons.inj e3).1
    exact ⟨cp, ep, ccap, ecap, ⟨code, ents, sh, lk⟩, rfl, fun hs => ⟨⟨cp, ccap, ep, ecap, rfl, hc, he⟩, hw, by show code.length ≤ _; have h' : code.length ≤ 200 := hs; omega⟩⟩

end
end Go.Proofs.YtdfofelchjpioaaDoor

set_option linter.unusedVariables false
set_option linter.unusedSimpArgs false
set_option maxRecDepth 20000
namespace Go.Proofs.YtdfofelchjpioaaDoor
open Go.Joins Go.ChangeShapes Go.WideShapes Go.ChangeAt Go.RowKit Go.Deep

theorem laidMet_tail {P : Program} {w : World} {x : String × DataW Unit} {rest : List (String × DataW Unit)} (h : laidMet P (x :: rest) w) : laidMet P rest w := by
  obtain ⟨ps, hv, hn, hh⟩ := h
  obtain ⟨nm, d⟩ := x
  obtain ⟨g, t, cs, fuel, p, q, h1, h2, h3, h4, h5, h6⟩ := hv
  subst h6
  exact ⟨q, h5, (List.nodup_append.1 hn).2.1, fun b off hm => hh b off (by simp [hm])⟩

theorem otab_of_laid {w : World} {nm : String} {x : String × DataW Unit} (hg : Tryd.prog.globalNamed nm = some 1) (h : laidMet Tryd.prog [x, (nm, Rows.laid_ontime_core_operators)] w) : OTab w := by
  obtain ⟨et, fr, hc⟩ := cells_of_head (g := 1) (t := 93) 2 hg (by kernel_rfl) (by kernel_rfl) (laidMet_tail h)
  refine ⟨?_, fun i _ => ?_⟩
  · rcases Nat.lt_or_ge 1 w.heap.size with h | h
    · exact h
    · rw [Array.getElem?_eq_none (by omega)] at hc; cases hc
  · unfold World.cell?
    rw [hc]
    simp

section
variable {H : Type} {enc : TypeId × Value → H} {w : World} {held : Bool} {spare : Nat → Bool}
theorem open_st {r : Reach} {b0 : Nat} {v : Value} {d : DataW H} {pl : List MemPlace} (hv : Value.okWide Tryd.prog w r b0 29 v) (h : DataW.Trod enc Tryd.prog w 0 spare held 29 v d pl) :
    ∃ (s : St) (p : Option Addr) (cap : Nat), v = stV s (.slice p s.d.length cap) ∧ s.r.length = 16 ∧ RdAt w (.slice p s.d.length cap) s.d ∧ (∀ j, W32 (s.d.getD j 0)) ∧ (∀ c, Value.slice p s.d.length cap = .slice none 0 c → c = 0) ∧
      (∀ j, W32 (s.r.getD j 0)) ∧ (-9223372036854775808 ≤ s.pc ∧ s.pc ≤ 9223372036854775807) ∧ (-9223372036854775808 ≤ s.held ∧ s.held ≤ 9223372036854775807) := by
  obtain ⟨pc, r0, r1, r2, r3, r4, r5, r6, r7, r8, r9, r10, r11, r12, r13, r14, r15, he, hl, p, cap, dd, h1, h2, h3, h4, h5, h6, h7⟩ := open_state hv h
  exact ⟨⟨pc, [r0, r1, r2, r3, r4, r5, r6, r7, r8, r9, r10, r11, r12, r13, r14, r15], dd, hl, he⟩, p, cap, h1, rfl, h2, h3, h4, h5, h6, h7⟩
theorem open_wds {r : Reach} {b0 : Nat} {v : Value} {d : DataW H} {pl : List MemPlace} (hv : Value.okWide Tryd.prog w r b0 27 v) (h : DataW.Trod enc Tryd.prog w 0 spare held 27 v d pl) :
    ∃ (p : Option Addr) (cap : Nat) (l : List Int), v = .slice p l.length cap ∧ RdAt w (.slice p l.length cap) l ∧ (∀ j, W32 (l.getD j 0)) ∧ (∀ c, Value.slice p l.length cap = .slice none 0 c → c = 0) := by
  obtain ⟨a, n, c, rfl⟩ := okWide_slice Tryd.underlying27 hv
  obtain ⟨fuel, hf⟩ := h
  obtain ⟨p, cap, l, e, h1, h2, h3⟩ := open_words hf
  exact ⟨p, cap, l, (List.cons.inj e).1, h1, h2, h3⟩
end

def layObj (cs : Array Value) : Obj → Obj
  | .cells _ t frozen => .cells cs t frozen
  | o => o
noncomputable def laidWorld9 (os : Os) : World :=
  { World.holding Tryd.prog os ⟨#[], #[], []⟩ with heap := ((World.holding Tryd.prog os ⟨#[], #[], []⟩).heap.modify 0 (layObj fcells.toArray)).modify 1 (layObj (flatD 2 (Rows.laid_ontime_core_operators (H := Unit))).toArray) }

end Go.Proofs.YtdfofelchjpioaaDoor

