/- Arguments that are timings, and lists of instructions, opened. -/
import Derived.Test.YtjfenhnlonbmmaaDoorPipC
import Derived.Test.YtjfenhnlonbmmaaDoorFin
set_option linter.unusedVariables false
set_option linter.unusedSimpArgs false
namespace Go.Proofs.YtjfenhnlonbmmaaDoor
open Go.Joins Go.ChangeShapes Go.WideShapes Go.ChangeAt Go.RowKit Go.Deep

/-- A slice's length is at most its capacity. -/
def LenCap (v : Value) : Prop := ∃ p n cap, v = .slice p n cap ∧ n ≤ cap ∧ cap ≤ maxLen

section
variable {H : Type} {enc : TypeId × Value → H} {w : World} {held : Bool} {spare : Nat → Bool}

theorem add_none (m off j : Nat) : (⟨m, off, none⟩ : Addr).add j = ⟨m, off + j, none⟩ := by unfold Addr.add; split <;> simp_all

theorem add_add (a : Addr) (i j : Nat) : (a.add i).add j = a.add (i + j) := by
  unfold Addr.add
  by_cases hi : i = 0 <;> by_cases hj : j = 0 <;> simp [hi, hj, Nat.add_assoc]

theorem cell_plain {a : Addr} {v : Value} (h : w.cell? (a.add 0) = some v) : a = ⟨a.block, a.off, none⟩ ∧ a.block < w.heap.size := by
  have e : a.add 0 = a := by unfold Addr.add; simp
  rw [e] at h
  unfold World.cell? at h
  split at h
  · rename_i c t fr hc
    split at h
    · cases h
    · rename_i hs
      refine ⟨?_, lt_of_block hc⟩
      cases a
      simp at hs
      simp [hs]
  · cases h

theorem open_ins {fuel : Nat} {cs : List Value} {x : DataW H × List MemPlace} (h : DataW.trod enc Tryd.prog w 0 spare held fuel 34 cs = some x) : ∃ (v : Value) (d : List Ins), cs = [v] ∧ InsAt w v d ∧ LenCap v := by
  rcases DataW.trod_slice Tryd.underlying34 h with ⟨rfl, rfl⟩ | ⟨a, len, cap, elems, rest, n, rfl, rfl, rfl, hb, hl, hm, hel, hc, _, _⟩
  · exact ⟨_, [], rfl, ⟨none, 0, rfl, .inl rfl⟩, ⟨none, 0, 0, rfl, Nat.le_refl _, Nat.zero_le _⟩⟩
  · have e64 : Tryd.prog.cellsOf 3 = 1 := by kernel_rfl
    have e8 : Tryd.prog.cellsOf 5 = 1 := by kernel_rfl
    have hcell : ∀ i, i < len → ∃ x : Ins, w.cell? (a.add (i * 5)) = some (.int .u8 x.n) ∧ w.cell? (a.add (i * 5 + 1)) = some (.int .i64 x.a) ∧ w.cell? (a.add (i * 5 + 2)) = some (.int .i64 x.b) ∧ w.cell? (a.add (i * 5 + 3)) = some (.int .i64 x.c) ∧ w.cell? (a.add (i * 5 + 4)) = some (.int .i64 x.i) := by
      intro i hi
      have h1 := hc i hi
      rw [show Tryd.prog.cellsOf 25 = 5 by kernel_rfl] at h1
      rw [List.getElem?_eq_getElem (by omega)] at h1
      obtain ⟨cs', h2, h3⟩ := Option.bind_eq_some_iff.1 h1
      obtain ⟨_, hlc, hat⟩ := World.cells?_some h2
      match cs', hlc with
      | [c0, c1, c2, c3, c4], _ =>
        obtain ⟨ys, m, _, _, _, hyl, hg⟩ := DataW.trod_struct Tryd.underlying25 h3
        have g0 : DataW.trod enc Tryd.prog w 0 spare held m 5 (([c0, c1, c2, c3, c4].drop 0).take (Tryd.prog.cellsOf 5)) = ys[0]? := hg 0 _ rfl
        have g1 : DataW.trod enc Tryd.prog w 0 spare held m 3 (([c0, c1, c2, c3, c4].drop 1).take (Tryd.prog.cellsOf 3)) = ys[1]? := hg 1 _ rfl
        have g2 : DataW.trod enc Tryd.prog w 0 spare held m 3 (([c0, c1, c2, c3, c4].drop 2).take (Tryd.prog.cellsOf 3)) = ys[2]? := hg 2 _ rfl
        have g3 : DataW.trod enc Tryd.prog w 0 spare held m 3 (([c0, c1, c2, c3, c4].drop 3).take (Tryd.prog.cellsOf 3)) = ys[3]? := hg 3 _ rfl
        have g4 : DataW.trod enc Tryd.prog w 0 spare held m 3 (([c0, c1, c2, c3, c4].drop 4).take (Tryd.prog.cellsOf 3)) = ys[4]? := hg 4 _ rfl
        have hx : ys.length = 5 := hyl
        rw [List.getElem?_eq_getElem (by omega)] at g0 g1 g2 g3 g4
        rw [e8] at g0
        rw [e64] at g1 g2 g3 g4
        obtain ⟨s0, e0, -, w0⟩ := DataW.trod_int Tryd.underlying5 g0
        have b0 := bounds_u8 w0
        have ex : ((s0.toNat : Nat) : Int) = s0 := by omega
        obtain ⟨s1, e1, -, -⟩ := DataW.trod_int Tryd.underlying3 g1
        obtain ⟨s2, e2, -, -⟩ := DataW.trod_int Tryd.underlying3 g2
        obtain ⟨s3, e3, -, -⟩ := DataW.trod_int Tryd.underlying3 g3
        obtain ⟨s4, e4, -, -⟩ := DataW.trod_int Tryd.underlying3 g4
        obtain rfl := (List.cons.inj e0).1
        obtain rfl := (List.cons.inj e1).1
        obtain rfl := (List.cons.inj e2).1
        obtain rfl := (List.cons.inj e3).1
        obtain rfl := (List.cons.inj e4).1
        refine ⟨⟨s0.toNat, s1, s2, s3, s4⟩, ?_, ?_, ?_, ?_, ?_⟩
        · have := hat 0 (by omega); rw [add_add] at this; simpa [ex] using this
        · have := hat 1 (by omega); rw [add_add] at this; simpa using this
        · have := hat 2 (by omega); rw [add_add] at this; simpa using this
        · have := hat 3 (by omega); rw [add_add] at this; simpa using this
        · have := hat 4 (by omega); rw [add_add] at this; simpa using this
    have hch : ∃ f : Nat → Ins, ∀ i, i < len → w.cell? (a.add (i * 5)) = some (.int .u8 (f i).n) ∧ w.cell? (a.add (i * 5 + 1)) = some (.int .i64 (f i).a) ∧ w.cell? (a.add (i * 5 + 2)) = some (.int .i64 (f i).b) ∧ w.cell? (a.add (i * 5 + 3)) = some (.int .i64 (f i).c) ∧ w.cell? (a.add (i * 5 + 4)) = some (.int .i64 (f i).i) := by
      refine ⟨fun i => if hi : i < len then (hcell i hi).choose else default, fun i hi => ?_⟩
      simp only [hi, dite_true]
      exact (hcell i hi).choose_spec
    obtain ⟨f, hf⟩ := hch
    have hd : ((List.range len).map f).length = len := by simp
    have hg : ∀ i, i < len → ((List.range len).map f).getD i default = f i := by
      intro i hi
      simp [List.getD_eq_getElem?_getD, hi]
    refine ⟨_, (List.range len).map f, rfl, ⟨some a, cap, by rw [hd], ?_⟩, ⟨_, _, _, rfl, hl, hm⟩⟩
    by_cases h0 : len = 0
    · left; subst h0; rfl
    · right
      obtain ⟨ha, hlt⟩ := cell_plain (by simpa using (hf 0 (by omega)).1)
      refine ⟨a.block, a.off, by rw [← ha], hlt, fun k hk => ?_⟩
      rw [hd] at hk
      have h1 := hf k hk
      rw [ha] at h1
      simp only [add_none] at h1
      rw [hg k hk]
      exact h1

theorem open_instrs {r : Reach} {b0 : Nat} {v : Value} {d : DataW H} {pl : List MemPlace} (hv : Value.okWide Tryd.prog w r b0 34 v) (h : DataW.Trod enc Tryd.prog w 0 spare held 34 v d pl) : ∃ l : List Ins, InsAt w v l ∧ LenCap v := by
  obtain ⟨a, n, c, rfl⟩ := okWide_slice Tryd.underlying34 hv
  obtain ⟨fuel, hf⟩ := h
  obtain ⟨v', l, e, hl, hc⟩ := open_ins hf
  obtain rfl := (List.cons.inj e).1
  exact ⟨l, hl, hc⟩

theorem open_timing {r : Reach} {b0 : Nat} {v : Value} {d : DataW H} {pl : List MemPlace} (hv : Value.okWide Tryd.prog w r b0 23 v) (h : DataW.Trod enc Tryd.prog w 0 spare held 23 v d pl) :
    ∃ (m d t h : Int), v = .agg #[.int .i64 m, .int .i64 d, .int .i64 t, .int .i64 h] := by
  obtain ⟨cs, rfl, hsz⟩ := okWide_struct Tryd.underlying23 hv
  obtain ⟨l⟩ := cs
  have e64 : Tryd.prog.cellsOf 3 = 1 := by kernel_rfl
  match l, hsz.trans (show Tryd.prog.cellsOf 23 = 4 by kernel_rfl) with
  | [c0, c1, c2, c3], _ =>
    obtain ⟨fuel, hf⟩ := h
    obtain ⟨xs, n, _, _, _, hlen, hg⟩ := DataW.trod_struct Tryd.underlying23 hf
    have h0 := hg 0 _ rfl
    have h1 := hg 1 _ rfl
    have h2 := hg 2 _ rfl
    have h3 := hg 3 _ rfl
    have hx : xs.length = 4 := hlen
    rw [List.getElem?_eq_getElem (by omega)] at h0 h1 h2 h3
    simp only [Value.cells, e64, List.drop_succ_cons, List.drop_zero, List.take_succ_cons, List.take_zero] at h0 h1 h2 h3
    obtain ⟨m, e0, -, -⟩ := DataW.trod_int Tryd.underlying3 h0
    obtain ⟨d, e1, -, -⟩ := DataW.trod_int Tryd.underlying3 h1
    obtain ⟨t, e2, -, -⟩ := DataW.trod_int Tryd.underlying3 h2
    obtain ⟨h, e3, -, -⟩ := DataW.trod_int Tryd.underlying3 h3
    obtain rfl := (List.cons.inj e0).1
    obtain rfl := (List.cons.inj e1).1
    obtain rfl := (List.cons.inj e2).1
    obtain rfl := (List.cons.inj e3).1
    exact ⟨m, d, t, h, rfl⟩
end
end Go.Proofs.YtjfenhnlonbmmaaDoor
