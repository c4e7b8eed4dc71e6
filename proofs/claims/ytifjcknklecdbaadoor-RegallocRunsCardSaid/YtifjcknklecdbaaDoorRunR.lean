/- Arguments that are functions of the intermediate form, opened with all that codegen.Task wants. -/
import Derived.Test.YtifjcknklecdbaaDoorLivX
import Derived.Test.YtifjcknklecdbaaDoorIrD
import Derived.Test.YtifjcknklecdbaaDoorRunI
set_option linter.unusedVariables false
set_option linter.unusedSimpArgs false
set_option maxRecDepth 20000
namespace Go.Proofs.YtifjcknklecdbaaDoor
open Go.Joins Go.ChangeShapes Go.WideShapes Go.ChangeAt Go.RowKit Go.Deep

section
variable {H : Type} {enc : TypeId × Value → H} {w : World} {base : Nat} {held : Bool} {spare : Nat → Bool}

/-- A slice of instructions. -/
theorem open_ins2 {fuel : Nat} {cs : List Value} {x : DataW H × List MemPlace} (h : DataW.trod enc Tryd.prog w base spare held fuel 50 cs = some x) :
    ∃ (v : Value) (d : List IIns), cs = [v] ∧ InsAt w v d ∧ d.length ≤ 9223372036854775807 ∧ ∀ k, k < d.length → (d.getD k default).sym.size ≤ maxLen ∧ (d.getD k default).op < 256 := by
  rcases DataW.trod_slice Tryd.underlying50 h with ⟨rfl, rfl⟩ | ⟨a, len, cap, elems, rest, n, rfl, rfl, rfl, hb, hl, hm, hel, hc, _, _⟩
  · exact ⟨_, [], rfl, ⟨none, 0, rfl, fun k hk => by simp at hk⟩, by simp, fun k hk => by simp at hk⟩
  · have e64 : Tryd.prog.cellsOf 3 = 1 := by kernel_rfl
    have e8 : Tryd.prog.cellsOf 5 = 1 := by kernel_rfl
    have eS : Tryd.prog.cellsOf 9 = 1 := by kernel_rfl
    have hcell : ∀ i, i < len → ∃ x : IIns, w.cell? (a.add (i * 6)) = some (.int .u8 x.op) ∧ w.cell? (a.add (i * 6 + 1)) = some (.int .i64 x.dst) ∧ w.cell? (a.add (i * 6 + 2)) = some (.int .i64 x.x) ∧ w.cell? (a.add (i * 6 + 3)) = some (.int .i64 x.y) ∧ w.cell? (a.add (i * 6 + 4)) = some (.int .i64 x.imm) ∧ w.cell? (a.add (i * 6 + 5)) = some (.string x.sym) ∧ x.sym.size ≤ maxLen ∧ x.op < 256 := by
      intro i hi
      have h1 := hc i hi
      rw [show Tryd.prog.cellsOf 59 = 6 by kernel_rfl] at h1
      rw [List.getElem?_eq_getElem (by omega)] at h1
      obtain ⟨cs', h2, h3⟩ := Option.bind_eq_some_iff.1 h1
      obtain ⟨_, hlc, hat⟩ := World.cells?_some h2
      match cs', hlc with
      | [c0, c1, c2, c3, c4, c5], _ =>
        obtain ⟨ys, m, _, _, _, hyl, hg⟩ := DataW.trod_struct Tryd.underlying59 h3
        have g0 : DataW.trod enc Tryd.prog w base spare held m 5 (([c0, c1, c2, c3, c4, c5].drop 0).take (Tryd.prog.cellsOf 5)) = ys[0]? := hg 0 _ rfl
        have g1 : DataW.trod enc Tryd.prog w base spare held m 3 (([c0, c1, c2, c3, c4, c5].drop 1).take (Tryd.prog.cellsOf 3)) = ys[1]? := hg 1 _ rfl
        have g2 : DataW.trod enc Tryd.prog w base spare held m 3 (([c0, c1, c2, c3, c4, c5].drop 2).take (Tryd.prog.cellsOf 3)) = ys[2]? := hg 2 _ rfl
        have g3 : DataW.trod enc Tryd.prog w base spare held m 3 (([c0, c1, c2, c3, c4, c5].drop 3).take (Tryd.prog.cellsOf 3)) = ys[3]? := hg 3 _ rfl
        have g4 : DataW.trod enc Tryd.prog w base spare held m 3 (([c0, c1, c2, c3, c4, c5].drop 4).take (Tryd.prog.cellsOf 3)) = ys[4]? := hg 4 _ rfl
        have g5 : DataW.trod enc Tryd.prog w base spare held m 9 (([c0, c1, c2, c3, c4, c5].drop 5).take (Tryd.prog.cellsOf 9)) = ys[5]? := hg 5 _ rfl
        have hx : ys.length = 6 := hyl
        rw [List.getElem?_eq_getElem (by omega)] at g0 g1 g2 g3 g4 g5
        rw [e8] at g0
        rw [e64] at g1 g2 g3 g4
        rw [eS] at g5
        obtain ⟨s0, e0, -, w0⟩ := DataW.trod_int Tryd.underlying5 g0
        obtain ⟨s1, e1, -, -⟩ := DataW.trod_int Tryd.underlying3 g1
        obtain ⟨s2, e2, -, -⟩ := DataW.trod_int Tryd.underlying3 g2
        obtain ⟨s3, e3, -, -⟩ := DataW.trod_int Tryd.underlying3 g3
        obtain ⟨s4, e4, -, -⟩ := DataW.trod_int Tryd.underlying3 g4
        obtain ⟨nm, e5, -, w5⟩ := DataW.trod_string Tryd.underlying9 g5
        obtain rfl := (List.cons.inj e0).1
        obtain rfl := (List.cons.inj e1).1
        obtain rfl := (List.cons.inj e2).1
        obtain rfl := (List.cons.inj e3).1
        obtain rfl := (List.cons.inj e4).1
        obtain rfl := (List.cons.inj e5).1
        have b0 := bounds_u8 w0
        have ex : ((s0.toNat : Nat) : Int) = s0 := by omega
        refine ⟨⟨s0.toNat, s1, s2, s3, s4, nm⟩, ?_, ?_, ?_, ?_, ?_, ?_, w5, by show s0.toNat < 256; omega⟩
        · have := hat 0 (by omega); rw [add_add] at this; rw [ex]; simpa using this
        · have := hat 1 (by omega); rw [add_add] at this; simpa using this
        · have := hat 2 (by omega); rw [add_add] at this; simpa using this
        · have := hat 3 (by omega); rw [add_add] at this; simpa using this
        · have := hat 4 (by omega); rw [add_add] at this; simpa using this
        · have := hat 5 (by omega); rw [add_add] at this; simpa using this
    have hch : ∃ f : Nat → IIns, ∀ i, i < len → w.cell? (a.add (i * 6)) = some (.int .u8 (f i).op) ∧ w.cell? (a.add (i * 6 + 1)) = some (.int .i64 (f i).dst) ∧ w.cell? (a.add (i * 6 + 2)) = some (.int .i64 (f i).x) ∧ w.cell? (a.add (i * 6 + 3)) = some (.int .i64 (f i).y) ∧ w.cell? (a.add (i * 6 + 4)) = some (.int .i64 (f i).imm) ∧ w.cell? (a.add (i * 6 + 5)) = some (.string (f i).sym) ∧ (f i).sym.size ≤ maxLen ∧ (f i).op < 256 := by
      refine ⟨fun i => if hi : i < len then (hcell i hi).choose else default, fun i hi => ?_⟩
      simp only [hi, dite_true]
      exact (hcell i hi).choose_spec
    obtain ⟨f, hf⟩ := hch
    have hd : ((List.range len).map f).length = len := by simp
    have hg : ∀ i, i < len → ((List.range len).map f).getD i default = f i := by
      intro i hi
      simp [List.getD_eq_getElem?_getD, hi]
    refine ⟨_, (List.range len).map f, rfl, ⟨some a, cap, by rw [hd], fun k hk => ?_⟩, by rw [hd]; unfold maxLen at hm; omega, fun k hk => ?_⟩
    · rw [hd] at hk
      obtain ⟨ha, hlt⟩ := cell_plain (by simpa using (hf 0 (by omega)).1)
      have h1 := hf k hk
      rw [ha] at h1
      simp only [add_none] at h1
      rw [hg k hk]
      obtain ⟨q0, q1, q2, q3, q4, q5, -⟩ := h1
      exact ⟨a.block, a.off, by rw [← ha], hlt, q0, q1, q2, q3, q4, q5⟩
    · rw [hd] at hk
      rw [hg k hk]
      exact (hf k hk).2.2.2.2.2.2

/-- A slice of blocks. -/
theorem open_blks2 {fuel : Nat} {cs : List Value} {x : DataW H × List MemPlace} (h : DataW.trod enc Tryd.prog w base spare held fuel 23 cs = some x) :
    ∃ (v : Value) (d : List IBlk), cs = [v] ∧ BksAt w v d ∧ d.length ≤ 9223372036854775807 ∧ ∀ k, k < d.length → ((d.getD k default).code.length ≤ 9223372036854775807 ∧ ∀ j, j < (d.getD k default).code.length → ((d.getD k default).code.getD j default).sym.size ≤ maxLen ∧ ((d.getD k default).code.getD j default).op < 256) ∧ -9223372036854775808 ≤ (d.getD k default).x ∧ (d.getD k default).x ≤ 9223372036854775807 := by
  rcases DataW.trod_slice Tryd.underlying23 h with ⟨rfl, rfl⟩ | ⟨a, len, cap, elems, rest, n, rfl, rfl, rfl, hb, hl, hm, hel, hc, _, _⟩
  · exact ⟨_, [], rfl, ⟨none, 0, rfl, fun k hk => by simp at hk⟩, by simp, fun k hk => by simp at hk⟩
  · have e64 : Tryd.prog.cellsOf 3 = 1 := by kernel_rfl
    have e8 : Tryd.prog.cellsOf 5 = 1 := by kernel_rfl
    have eI : Tryd.prog.cellsOf 50 = 1 := by kernel_rfl
    have hcell : ∀ i, i < len → ∃ x : IBlk, ∃ cp cc, w.cell? (a.add (i * 5)) = some (.slice cp x.code.length cc) ∧ InsAt w (.slice cp x.code.length cc) x.code ∧ ((x.code.length ≤ 9223372036854775807 ∧ ∀ j, j < x.code.length → (x.code.getD j default).sym.size ≤ maxLen ∧ (x.code.getD j default).op < 256) ∧ -9223372036854775808 ≤ x.x ∧ x.x ≤ 9223372036854775807) ∧ w.cell? (a.add (i * 5 + 1)) = some (.int .u8 x.kind) ∧ w.cell? (a.add (i * 5 + 2)) = some (.int .i64 x.x) ∧ w.cell? (a.add (i * 5 + 3)) = some (.int .i64 x.tgt) ∧ w.cell? (a.add (i * 5 + 4)) = some (.int .i64 x.els) := by
      intro i hi
      have h1 := hc i hi
      rw [show Tryd.prog.cellsOf 52 = 5 by kernel_rfl] at h1
      rw [List.getElem?_eq_getElem (by omega)] at h1
      obtain ⟨cs', h2, h3⟩ := Option.bind_eq_some_iff.1 h1
      obtain ⟨_, hlc, hat⟩ := World.cells?_some h2
      match cs', hlc with
      | [c0, c1, c2, c3, c4], _ =>
        obtain ⟨ys, m, _, _, _, hyl, hg⟩ := DataW.trod_struct Tryd.underlying52 h3
        have g0 : DataW.trod enc Tryd.prog w base spare held m 50 (([c0, c1, c2, c3, c4].drop 0).take (Tryd.prog.cellsOf 50)) = ys[0]? := hg 0 _ rfl
        have g1 : DataW.trod enc Tryd.prog w base spare held m 5 (([c0, c1, c2, c3, c4].drop 1).take (Tryd.prog.cellsOf 5)) = ys[1]? := hg 1 _ rfl
        have g2 : DataW.trod enc Tryd.prog w base spare held m 3 (([c0, c1, c2, c3, c4].drop 2).take (Tryd.prog.cellsOf 3)) = ys[2]? := hg 2 _ rfl
        have g3 : DataW.trod enc Tryd.prog w base spare held m 3 (([c0, c1, c2, c3, c4].drop 3).take (Tryd.prog.cellsOf 3)) = ys[3]? := hg 3 _ rfl
        have g4 : DataW.trod enc Tryd.prog w base spare held m 3 (([c0, c1, c2, c3, c4].drop 4).take (Tryd.prog.cellsOf 3)) = ys[4]? := hg 4 _ rfl
        have hx : ys.length = 5 := hyl
        rw [List.getElem?_eq_getElem (by omega)] at g0 g1 g2 g3 g4
        rw [eI] at g0
        rw [e8] at g1
        rw [e64] at g2 g3 g4
        obtain ⟨cv, code, e0, hco, hcl, hsy⟩ := open_ins2 g0
        obtain ⟨s1, e1, -, w1⟩ := DataW.trod_int Tryd.underlying5 g1
        obtain ⟨s2, e2, -, w2⟩ := DataW.trod_int Tryd.underlying3 g2
        obtain ⟨s3, e3, -, -⟩ := DataW.trod_int Tryd.underlying3 g3
        obtain ⟨s4, e4, -, -⟩ := DataW.trod_int Tryd.underlying3 g4
        obtain rfl := (List.cons.inj e0).1
        obtain rfl := (List.cons.inj e1).1
        obtain rfl := (List.cons.inj e2).1
        obtain rfl := (List.cons.inj e3).1
        obtain rfl := (List.cons.inj e4).1
        have b2 := bounds_i64 w2
        obtain ⟨cp, cc, hsh⟩ := hco.shape
        rw [hsh] at hat hco
        have b1 := bounds_u8 w1
        have ex : ((s1.toNat : Nat) : Int) = s1 := by omega
        refine ⟨⟨code, s1.toNat, s2, s3, s4⟩, cp, cc, ?_, hco, ⟨⟨hcl, hsy⟩, b2⟩, ?_, ?_, ?_, ?_⟩
        · have := hat 0 (by omega); rw [add_add] at this; simpa using this
        · have := hat 1 (by omega); rw [add_add] at this; rw [ex]; simpa using this
        · have := hat 2 (by omega); rw [add_add] at this; simpa using this
        · have := hat 3 (by omega); rw [add_add] at this; simpa using this
        · have := hat 4 (by omega); rw [add_add] at this; simpa using this
    have hch : ∃ f : Nat → IBlk, ∀ i, i < len → ∃ cp cc, w.cell? (a.add (i * 5)) = some (.slice cp (f i).code.length cc) ∧ InsAt w (.slice cp (f i).code.length cc) (f i).code ∧ (((f i).code.length ≤ 9223372036854775807 ∧ ∀ j, j < (f i).code.length → ((f i).code.getD j default).sym.size ≤ maxLen ∧ ((f i).code.getD j default).op < 256) ∧ -9223372036854775808 ≤ (f i).x ∧ (f i).x ≤ 9223372036854775807) ∧ w.cell? (a.add (i * 5 + 1)) = some (.int .u8 (f i).kind) ∧ w.cell? (a.add (i * 5 + 2)) = some (.int .i64 (f i).x) ∧ w.cell? (a.add (i * 5 + 3)) = some (.int .i64 (f i).tgt) ∧ w.cell? (a.add (i * 5 + 4)) = some (.int .i64 (f i).els) := by
      refine ⟨fun i => if hi : i < len then (hcell i hi).choose else default, fun i hi => ?_⟩
      simp only [hi, dite_true]
      exact (hcell i hi).choose_spec
    obtain ⟨f, hf⟩ := hch
    have hd : ((List.range len).map f).length = len := by simp
    have hg : ∀ i, i < len → ((List.range len).map f).getD i default = f i := by
      intro i hi
      simp [List.getD_eq_getElem?_getD, hi]
    refine ⟨_, (List.range len).map f, rfl, ⟨some a, cap, by rw [hd], fun k hk => ?_⟩, by rw [hd]; unfold maxLen at hm; omega, fun k hk => ?_⟩
    · rw [hd] at hk
      obtain ⟨cp0, cc0, q0, -⟩ := hf 0 (by omega)
      obtain ⟨ha, hlt⟩ := cell_plain (by simpa using q0)
      obtain ⟨cp, cc, q1, q2, q3, q4⟩ := hf k hk
      rw [ha] at q1 q4
      simp only [add_none] at q1 q4
      rw [hg k hk]
      exact ⟨a.block, a.off, cp, cc, by rw [← ha], hlt, q2, q1, q4⟩
    · rw [hd] at hk
      obtain ⟨cp, cc, q1, q2, q3, q4⟩ := hf k hk
      rw [hg k hk]
      exact q3

/-- A slice of arrays. -/
theorem open_arrs {fuel : Nat} {cs : List Value} {x : DataW H × List MemPlace} (h : DataW.trod enc Tryd.prog w base spare held fuel 22 cs = some x) :
    ∃ (v : Value) (d : List Arr), cs = [v] ∧ ArsAt w v d ∧ d.length ≤ 9223372036854775807 ∧ ∀ k, k < d.length → (d.getD k default).1.size ≤ maxLen ∧ -9223372036854775808 ≤ (d.getD k default).2 ∧ (d.getD k default).2 ≤ 9223372036854775807 := by
  rcases DataW.trod_slice Tryd.underlying22 h with ⟨rfl, rfl⟩ | ⟨a, len, cap, elems, rest, n, rfl, rfl, rfl, hb, hl, hm, hel, hc, _, _⟩
  · exact ⟨_, [], rfl, ⟨none, 0, rfl, fun k hk => by simp at hk⟩, by simp, fun k hk => by simp at hk⟩
  · have e64 : Tryd.prog.cellsOf 3 = 1 := by kernel_rfl
    have eS : Tryd.prog.cellsOf 9 = 1 := by kernel_rfl
    have hcell : ∀ i, i < len → ∃ x : Arr, w.cell? (a.add (i * 2)) = some (.string x.1) ∧ w.cell? (a.add (i * 2 + 1)) = some (.int .i64 x.2) ∧ x.1.size ≤ maxLen ∧ -9223372036854775808 ≤ x.2 ∧ x.2 ≤ 9223372036854775807 := by
      intro i hi
      have h1 := hc i hi
      rw [show Tryd.prog.cellsOf 56 = 2 by kernel_rfl] at h1
      rw [List.getElem?_eq_getElem (by omega)] at h1
      obtain ⟨cs', h2, h3⟩ := Option.bind_eq_some_iff.1 h1
      obtain ⟨_, hlc, hat⟩ := World.cells?_some h2
      match cs', hlc with
      | [c0, c1], _ =>
        obtain ⟨ys, m, _, _, _, hyl, hg⟩ := DataW.trod_struct Tryd.underlying56 h3
        have g0 : DataW.trod enc Tryd.prog w base spare held m 9 (([c0, c1].drop 0).take (Tryd.prog.cellsOf 9)) = ys[0]? := hg 0 _ rfl
        have g1 : DataW.trod enc Tryd.prog w base spare held m 3 (([c0, c1].drop 1).take (Tryd.prog.cellsOf 3)) = ys[1]? := hg 1 _ rfl
        have hx : ys.length = 2 := hyl
        rw [List.getElem?_eq_getElem (by omega)] at g0 g1
        rw [eS] at g0
        rw [e64] at g1
        obtain ⟨nm, e0, -, w0⟩ := DataW.trod_string Tryd.underlying9 g0
        obtain ⟨s1, e1, -, w1⟩ := DataW.trod_int Tryd.underlying3 g1
        obtain rfl := (List.cons.inj e0).1
        obtain rfl := (List.cons.inj e1).1
        have b1 := bounds_i64 w1
        refine ⟨(nm, s1), ?_, ?_, w0, b1⟩
        · have := hat 0 (by omega); rw [add_add] at this; simpa using this
        · have := hat 1 (by omega); rw [add_add] at this; simpa using this
    have hch : ∃ f : Nat → Arr, ∀ i, i < len → w.cell? (a.add (i * 2)) = some (.string (f i).1) ∧ w.cell? (a.add (i * 2 + 1)) = some (.int .i64 (f i).2) ∧ (f i).1.size ≤ maxLen ∧ -9223372036854775808 ≤ (f i).2 ∧ (f i).2 ≤ 9223372036854775807 := by
      refine ⟨fun i => if hi : i < len then (hcell i hi).choose else default, fun i hi => ?_⟩
      simp only [hi, dite_true]
      exact (hcell i hi).choose_spec
    obtain ⟨f, hf⟩ := hch
    have hd : ((List.range len).map f).length = len := by simp
    have hg : ∀ i, i < len → ((List.range len).map f).getD i default = f i := by
      intro i hi
      simp [List.getD_eq_getElem?_getD, hi]
    refine ⟨_, (List.range len).map f, rfl, ⟨some a, cap, by rw [hd], fun k hk => ?_⟩, by rw [hd]; unfold maxLen at hm; omega, fun k hk => ?_⟩
    · rw [hd] at hk
      obtain ⟨ha, hlt⟩ := cell_plain (by simpa using (hf 0 (by omega)).1)
      have h1 := hf k hk
      rw [ha] at h1
      simp only [add_none] at h1
      rw [hg k hk]
      exact ⟨a.block, a.off, by rw [← ha], hlt, h1.1, h1.2.1⟩
    · rw [hd] at hk
      rw [hg k hk]
      exact (hf k hk).2.2

/-- A function of the intermediate form. -/
theorem open_func2 {r : Reach} {b0 : Nat} {v : Value} {d : DataW H} {pl : List MemPlace} (hv : Value.okWide Tryd.prog w r b0 25 v) (h : DataW.Trod enc Tryd.prog w base spare held 25 v d pl) :
    ∃ (nm : ByteArray) (R : Int) (av bv : Value) (A : List Arr) (bs : List IBlk), v = .agg #[.string nm, .int .i64 R, av, bv] ∧ (ArsAt w av A ∧ BksAt w bv bs) ∧ (A.length ≤ 9223372036854775807 ∧ ∀ k, k < A.length → (A.getD k default).1.size ≤ maxLen ∧ -9223372036854775808 ≤ (A.getD k default).2 ∧ (A.getD k default).2 ≤ 9223372036854775807) ∧ (bs.length ≤ 9223372036854775807 ∧ (∀ k, k < bs.length → ((bs.getD k default).code.length ≤ 9223372036854775807 ∧ ∀ j, j < (bs.getD k default).code.length → ((bs.getD k default).code.getD j default).sym.size ≤ maxLen ∧ ((bs.getD k default).code.getD j default).op < 256) ∧ -9223372036854775808 ≤ (bs.getD k default).x ∧ (bs.getD k default).x ≤ 9223372036854775807)) ∧ -9223372036854775808 ≤ R ∧ R ≤ 9223372036854775807 := by
  obtain ⟨cs, rfl, hsz⟩ := okWide_struct Tryd.underlying25 hv
  obtain ⟨l⟩ := cs
  have e64 : Tryd.prog.cellsOf 3 = 1 := by kernel_rfl
  have eS : Tryd.prog.cellsOf 9 = 1 := by kernel_rfl
  have eA : Tryd.prog.cellsOf 22 = 1 := by kernel_rfl
  have eB : Tryd.prog.cellsOf 23 = 1 := by kernel_rfl
  match l, hsz.trans (show Tryd.prog.cellsOf 25 = 4 by kernel_rfl) with
  | [c0, c1, c2, c3], _ =>
    obtain ⟨fuel, hf⟩ := h
    obtain ⟨xs, n, _, _, _, hlen, hg⟩ := DataW.trod_struct Tryd.underlying25 hf
    have h0 := hg 0 _ rfl
    have h1 := hg 1 _ rfl
    have h2 := hg 2 _ rfl
    have h3 := hg 3 _ rfl
    have hx : xs.length = 4 := hlen
    rw [List.getElem?_eq_getElem (by omega)] at h0 h1 h2 h3
    simp only [Value.cells, e64, eS, eA, eB, List.drop_succ_cons, List.drop_zero, List.take_succ_cons, List.take_zero] at h0 h1 h2 h3
    obtain ⟨nm, e0, -, -⟩ := DataW.trod_string Tryd.underlying9 h0
    obtain ⟨R, e1, -, w1⟩ := DataW.trod_int Tryd.underlying3 h1
    obtain ⟨av, A, e2, hA, hal, hax⟩ := open_arrs h2
    obtain ⟨bv, bs, e3, hB, hl, hcl⟩ := open_blks2 h3
    obtain rfl := (List.cons.inj e0).1
    obtain rfl := (List.cons.inj e1).1
    obtain rfl := (List.cons.inj e2).1
    obtain rfl := (List.cons.inj e3).1
    have b1 := bounds_i64 w1
    exact ⟨nm, R, _, _, A, bs, rfl, ⟨hA, hB⟩, ⟨hal, hax⟩, ⟨hl, hcl⟩, b1.1, b1.2⟩
theorem open_arrsV {r : Reach} {b0 : Nat} {v : Value} {d : DataW H} {pl : List MemPlace} (hv : Value.okWide Tryd.prog w r b0 22 v) (h : DataW.Trod enc Tryd.prog w 0 spare held 22 v d pl) :
    ∃ S : List Arr, ArsAt w v S ∧ S.length ≤ 9223372036854775807 ∧ ∀ k, k < S.length → (S.getD k default).1.size ≤ maxLen ∧ -9223372036854775808 ≤ (S.getD k default).2 ∧ (S.getD k default).2 ≤ 9223372036854775807 := by
  obtain ⟨a, n, c, rfl⟩ := okWide_slice Tryd.underlying22 hv
  obtain ⟨fuel, hf⟩ := h
  obtain ⟨v', S, e, h1, h2, h3⟩ := open_arrs hf
  obtain rfl := (List.cons.inj e).1
  exact ⟨S, h1, h2, h3⟩

theorem weightsAll_mem {P : Program} {e : TypeId} {d : DataW H} {n : Nat} (hn : n ∈ d.weights P e) : ∀ l : List (DataW H), d ∈ l → n ∈ DataW.weightsAll P e l
  | [], h => by cases h
  | x :: r, h => by
    unfold DataW.weightsAll
    rcases List.mem_cons.1 h with rfl | h
    · exact List.mem_append.2 (.inl hn)
    · exact List.mem_append.2 (.inr (weightsAll_mem hn r h))
theorem weightsEach_at {P : Program} {q : Nat → Bool} {t : TypeId} {d : DataW H} : ∀ {ts : List TypeId} {ds : List (DataW H)} (j : Nat), ts[j]? = some t → ds[j]? = some d → (DataW.weightsEach P ts ds).all q = true → (d.weights P t).all q = true
  | u :: ts, x :: ds, 0, h1, h2, h => by
    cases h1
    cases h2
    unfold DataW.weightsEach at h
    rw [List.all_append, Bool.and_eq_true] at h
    exact h.1
  | u :: ts, x :: ds, j + 1, h1, h2, h => by
    unfold DataW.weightsEach at h
    rw [List.all_append, Bool.and_eq_true] at h
    exact weightsEach_at (ts := ts) (ds := ds) j h1 h2 h.2
  | [], _, _, h1, _, _ => by cases h1
  | _ :: _, [], _, _, h2, _ => by cases h2
/-- A slice of slices of words. -/
theorem open_rows32 {r : Reach} {b0 : Nat} {v : Value} {d : DataW H} {pl : List MemPlace} (hv : Value.okWide Tryd.prog w r b0 26 v) (h : DataW.Trod enc Tryd.prog w base (fun _ => true) held 26 v d pl) (hw : (d.weights Tryd.prog 26).all (· ≤ reachBytes) = true) :
    ∃ e : List (List Int), RdR32 w v e ∧ e.length ≤ 9223372036854775807 ∧ ∀ k, (e.getD k []).length ≤ 35184372087808 := by
  obtain ⟨a, n, c, rfl⟩ := okWide_slice Tryd.underlying26 hv
  obtain ⟨fuel, hf⟩ := h
  rcases open_int_rows Tryd.underlying26 Tryd.underlying27 Tryd.underlying21 (by kernel_rfl) (by kernel_rfl) hf with ⟨e, -⟩ | ⟨a, len, cap, A, L, C, Z, e, -, hl, hcm, hxd, hx⟩
  · have e := (List.cons.inj e).1
    injection e with e1 e2 e3
    subst e1 e2
    exact ⟨[], ⟨none, _, rfl, fun a ha => by simp at ha⟩, by simp, fun k => by simp⟩
  · have e := (List.cons.inj e).1
    have hd := (Prod.mk.inj hxd).1
    have hlen : ((List.range len).map fun r => (Z r).take (L r)).length = len := by simp
    have hg : ∀ r, r < len → ((List.range len).map fun r => (Z r).take (L r)).getD r [] = (Z r).take (L r) := fun r hr => by simp [List.getD_eq_getElem?_getD, hr]
    have hC : ∀ r, r < len → C r ≤ 35184372087808 := fun r hr => by
      obtain ⟨h1, h2, h3, h4, h5, h6, h7⟩ := hx r (by omega)
      cases hA : A r with
      | none => have := h6 hA; omega
      | some a' =>
        have hm : C r * 4 ∈ d.weights Tryd.prog 26 := by
          rw [hd]
          simp only [DataW.weights, Tryd.underlying26]
          refine List.mem_cons_of_mem _ (List.mem_append.2 (.inl (weightsAll_mem (d := intRow .i32 (A r) (L r) (Z r)) ?_ _ (List.mem_map.2 ⟨r, List.mem_range.2 hr, rfl⟩))))
          simp only [intRow, hA, DataW.weights, Tryd.underlying27]
          refine List.mem_cons.2 (.inl ?_)
          have hb : Tryd.prog.bytesOf 21 = 4 := by kernel_rfl
          rw [hb]
          simp only [lits, List.length_map, List.length_take, List.length_drop]
          omega
        have := of_decide_eq_true (List.all_eq_true.1 hw _ hm)
        unfold reachBytes at this
        omega
    refine ⟨(List.range len).map fun r => (Z r).take (L r), ⟨some a, cap, by rw [hlen]; exact e, fun r hr => ?_⟩, by rw [hlen]; unfold maxLen at hcm; omega, fun k => ?_⟩
    · rw [hlen] at hr
      obtain ⟨h1, h2, h3, h4, h5, h6, h7⟩ := hx r (by omega)
      have hzl : ((Z r).take (L r)).length = L r := by rw [List.length_take]; omega
      obtain ⟨p1, p2⟩ := cell_plain (hx 0 (by omega)).1
      refine ⟨a.block, a.off, A r, C r, by rw [← p1], p2, by rw [hg r hr, hzl]; rw [p1, add_none] at h1; exact h1, ?_⟩
      rw [hg r hr, hzl]
      refine ⟨A r, C r, by rw [hzl], fun k hk => ?_⟩
      rw [hzl] at hk
      cases hA : A r with
      | none => have := h6 hA; omega
      | some a' =>
        obtain ⟨_, hc⟩ := h7 a' hA
        obtain ⟨q1, q2⟩ := cell_plain (hc 0 (by omega))
        have hk' := hc k (by omega)
        rw [q1, add_none] at hk'
        refine ⟨a'.block, a'.off, by rw [← q1], q2, ?_⟩
        rw [hk']
        simp only [List.getD_eq_getElem?_getD, List.getElem?_take, if_pos hk]
    · by_cases hk : k < len
      · rw [hg k hk, List.length_take]
        have := hC k hk
        have := (hx k (by omega)).2.1
        omega
      · rw [List.getD_eq_getElem?_getD, List.getElem?_eq_none (by rw [hlen]; omega)]
        simp
/-- A slice of words. -/
theorem open_w32 {r : Reach} {b0 : Nat} {v : Value} {d : DataW H} {pl : List MemPlace} (hv : Value.okWide Tryd.prog w r b0 27 v) (h : DataW.Trod enc Tryd.prog w 0 spare held 27 v d pl) : ∃ l : List Int, RdI32 w v l := by
  obtain ⟨a, n, c, rfl⟩ := okWide_slice Tryd.underlying27 hv
  obtain ⟨fuel, hf⟩ := h
  rcases DataW.trod_slice Tryd.underlying27 hf with ⟨e, -⟩ | ⟨a, len, cap, elems, rest, n, -, e, -, hb, hl, hm, hel, hc, _, _⟩
  · have e := (List.cons.inj e).1
    injection e with e1 e2 e3
    subst e1 e2
    exact ⟨[], none, _, rfl, fun k hk => by simp at hk⟩
  · obtain e := (List.cons.inj e).1
    have hcell : ∀ i, i < len → ∃ n : Int, w.cell? (a.add i) = some (.int .i32 n) := by
      intro i hi
      have h1 := hc i hi
      rw [show Tryd.prog.cellsOf 21 = 1 by kernel_rfl] at h1
      rw [List.getElem?_eq_getElem (by omega)] at h1
      obtain ⟨cs', h2, h3⟩ := Option.bind_eq_some_iff.1 h1
      obtain ⟨_, hlc, hat⟩ := World.cells?_some h2
      match cs', hlc with
      | [c0], _ =>
        obtain ⟨s0, e0, -, w0⟩ := DataW.trod_int Tryd.underlying21 h3
        obtain rfl := (List.cons.inj e0).1
        refine ⟨s0, ?_⟩
        have := hat 0 (by omega); rw [add_add] at this; simpa using this
    have hch : ∃ f : Nat → Int, ∀ i, i < len → w.cell? (a.add i) = some (.int .i32 (f i)) := by
      refine ⟨fun i => if hi : i < len then (hcell i hi).choose else 0, fun i hi => ?_⟩
      simp only [hi, dite_true]
      exact (hcell i hi).choose_spec
    obtain ⟨f, hf⟩ := hch
    have hd : ((List.range len).map f).length = len := by simp
    refine ⟨(List.range len).map f, some a, cap, by rw [hd]; exact e, fun k hk => ?_⟩
    rw [hd] at hk
    obtain ⟨ha, hlt⟩ := cell_plain (hf 0 (by omega))
    have h1 := hf k hk
    rw [ha, add_none] at h1
    refine ⟨a.block, a.off, by rw [← ha], hlt, ?_⟩
    rw [h1]
    simp [List.getD_eq_getElem?_getD, hk]
end
end Go.Proofs.YtifjcknklecdbaaDoor
