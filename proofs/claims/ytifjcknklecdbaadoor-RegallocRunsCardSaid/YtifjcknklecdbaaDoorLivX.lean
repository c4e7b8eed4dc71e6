/- Arguments that are functions of the intermediate form, opened; the table of the library that is laid. -/
import Derived.Test.YtifjcknklecdbaaDoorCards
import Derived.Test.YtifjcknklecdbaaDoorTie
import Derived.Test.YtifjcknklecdbaaDoorMs21
import Derived.Test.YtifjcknklecdbaaDoorMs03
set_option linter.unusedVariables false
set_option linter.unusedSimpArgs false
set_option maxRecDepth 20000
namespace Go.Proofs.YtifjcknklecdbaaDoor
open Go.Joins Go.ChangeShapes Go.WideShapes Go.ChangeAt Go.RowKit Go.Deep

section
variable {H : Type} {enc : TypeId × Value → H} {w : World} {base : Nat} {held : Bool} {spare : Nat → Bool}

theorem add_add (a : Addr) (i j : Nat) : (a.add i).add j = a.add (i + j) := by
  unfold Addr.add
  by_cases hi : i = 0 <;> by_cases hj : j = 0 <;> simp [hi, hj, Nat.add_assoc]

/-- A slice of instructions. -/
theorem open_ins {fuel : Nat} {cs : List Value} {x : DataW H × List MemPlace} (h : DataW.trod enc Tryd.prog w base spare held fuel 50 cs = some x) :
    ∃ (v : Value) (d : List IIns), cs = [v] ∧ InsAt w v d ∧ d.length ≤ 9223372036854775807 := by
  rcases DataW.trod_slice Tryd.underlying50 h with ⟨rfl, rfl⟩ | ⟨a, len, cap, elems, rest, n, rfl, rfl, rfl, hb, hl, hm, hel, hc, _, _⟩
  · exact ⟨_, [], rfl, ⟨none, 0, rfl, fun k hk => by simp at hk⟩, by simp⟩
  · have e64 : Tryd.prog.cellsOf 3 = 1 := by kernel_rfl
    have e8 : Tryd.prog.cellsOf 5 = 1 := by kernel_rfl
    have eS : Tryd.prog.cellsOf 9 = 1 := by kernel_rfl
    have hcell : ∀ i, i < len → ∃ x : IIns, w.cell? (a.add (i * 6)) = some (.int .u8 x.op) ∧ w.cell? (a.add (i * 6 + 1)) = some (.int .i64 x.dst) ∧ w.cell? (a.add (i * 6 + 2)) = some (.int .i64 x.x) ∧ w.cell? (a.add (i * 6 + 3)) = some (.int .i64 x.y) ∧ w.cell? (a.add (i * 6 + 4)) = some (.int .i64 x.imm) ∧ w.cell? (a.add (i * 6 + 5)) = some (.string x.sym) := by
      intro i hi
      have h1 := hc i hi
      rw [show Tryd.prog.cellsOf 59 = 6 by kernel_rfl] at h1
      rw [List.getElem?_eq_getElem (by omega)] at h1
      obtain ⟨cs', h2, h3⟩ := Option.bind_eq_some_iff.1 h1
      obtain ⟨_, hlc, hat⟩ := World.cells?_some h2
      match cs', hlc with
      | [c0, c1, c2, c3, c4, c5], _ =>
        obtain ⟨ys, m, _, _, _, hyl, hg⟩ := DataW.trod_struct Tryd.underlying59 h3
        have g0 : DataW.trod enc Tryd.prog w base spare held m 5 (([c0, c1, c2, c3, c4, c5].drop 0).take (Tryd.prog.cellsOf 5)) = ys[0]? := hg 0 _ rfl
        have g1 : DataW.trod enc Tryd.prog w base spare held m 3 (([c0, c1, c2, c3, c4, c5].drop 1).take (Tryd.prog.cellsOf 3)) = ys[1]? := hg 1 _ rfl
        have g2 : DataW.trod enc Tryd.prog w base spare held m 3 (([c0, c1, c2, c3, c4, c5].drop 2).take (Tryd.prog.cellsOf 3)) = ys[2]? := hg 2 _ rfl
        have g3 : DataW.trod enc Tryd.prog w base spare held m 3 (([c0, c1, c2, c3, c4, c5].drop 3).take (Tryd.prog.cellsOf 3)) = ys[3]? := hg 3 _ rfl
        have g4 : DataW.trod enc Tryd.prog w base spare held m 3 (([c0, c1, c2, c3, c4, c5].drop 4).take (Tryd.prog.cellsOf 3)) = ys[4]? := hg 4 _ rfl
        have g5 : DataW.trod enc Tryd.prog w base spare held m 9 (([c0, c1, c2, c3, c4, c5].drop 5).take (Tryd.prog.cellsOf 9)) = ys[5]? := hg 5 _ rfl
        have hx : ys.length = 6 := hyl
        rw [List.getElem?_eq_getElem (by omega)] at g0 g1 g2 g3 g4 g5
        rw [e8] at g0
        rw [e64] at g1 g2 g3 g4
        rw [eS] at g5
        obtain ⟨s0, e0, -, w0⟩ := DataW.trod_int Tryd.underlying5 g0
        obtain ⟨s1, e1, -, -⟩ := DataW.trod_int Tryd.underlying3 g1
        obtain ⟨s2, e2, -, -⟩ := DataW.trod_int Tryd.underlying3 g2
        obtain ⟨s3, e3, -, -⟩ := DataW.trod_int Tryd.underlying3 g3
        obtain ⟨s4, e4, -, -⟩ := DataW.trod_int Tryd.underlying3 g4
        obtain ⟨nm, e5, -, -⟩ := DataW.trod_string Tryd.underlying9 g5
        obtain rfl := (List.cons.inj e0).1
        obtain rfl := (List.cons.inj e1).1
        obtain rfl := (List.cons.inj e2).1
        obtain rfl := (List.cons.inj e3).1
        obtain rfl := (List.cons.inj e4).1
        obtain rfl := (List.cons.inj e5).1
        have b0 := bounds_u8 w0
        have ex : ((s0.toNat : Nat) : Int) = s0 := by omega
        refine ⟨⟨s0.toNat, s1, s2, s3, s4, nm⟩, ?_, ?_, ?_, ?_, ?_, ?_⟩
        · have := hat 0 (by omega); rw [add_add] at this; rw [ex]; simpa using this
        · have := hat 1 (by omega); rw [add_add] at this; simpa using this
        · have := hat 2 (by omega); rw [add_add] at this; simpa using this
        · have := hat 3 (by omega); rw [add_add] at this; simpa using this
        · have := hat 4 (by omega); rw [add_add] at this; simpa using this
        · have := hat 5 (by omega); rw [add_add] at this; simpa using this
    have hch : ∃ f : Nat → IIns, ∀ i, i < len → w.cell? (a.add (i * 6)) = some (.int .u8 (f i).op) ∧ w.cell? (a.add (i * 6 + 1)) = some (.int .i64 (f i).dst) ∧ w.cell? (a.add (i * 6 + 2)) = some (.int .i64 (f i).x) ∧ w.cell? (a.add (i * 6 + 3)) = some (.int .i64 (f i).y) ∧ w.cell? (a.add (i * 6 + 4)) = some (.int .i64 (f i).imm) ∧ w.cell? (a.add (i * 6 + 5)) = some (.string (f i).sym) := by
      refine ⟨fun i => if hi : i < len then (hcell i hi).choose else default, fun i hi => ?_⟩
      simp only [hi, dite_true]
      exact (hcell i hi).choose_spec
    obtain ⟨f, hf⟩ := hch
    have hd : ((List.range len).map f).length = len := by simp
    have hg : ∀ i, i < len → ((List.range len).map f).getD i default = f i := by
      intro i hi
      simp [List.getD_eq_getElem?_getD, hi]
    refine ⟨_, (List.range len).map f, rfl, ⟨some a, cap, by rw [hd], fun k hk => ?_⟩, by rw [hd]; unfold maxLen at hm; omega⟩
    rw [hd] at hk
    obtain ⟨ha, hlt⟩ := cell_plain (by simpa using (hf 0 (by omega)).1)
    have h1 := hf k hk
    rw [ha] at h1
    simp only [add_none] at h1
    rw [hg k hk]
    exact ⟨a.block, a.off, by rw [← ha], hlt, h1⟩

/-- A slice of blocks. -/
theorem open_blks {fuel : Nat} {cs : List Value} {x : DataW H × List MemPlace} (h : DataW.trod enc Tryd.prog w base spare held fuel 23 cs = some x) :
    ∃ (v : Value) (d : List IBlk), cs = [v] ∧ BksAt w v d ∧ d.length ≤ 9223372036854775807 ∧ ∀ k, k < d.length → (d.getD k default).code.length ≤ 9223372036854775807 := by
  rcases DataW.trod_slice Tryd.underlying23 h with ⟨rfl, rfl⟩ | ⟨a, len, cap, elems, rest, n, rfl, rfl, rfl, hb, hl, hm, hel, hc, _, _⟩
  · exact ⟨_, [], rfl, ⟨none, 0, rfl, fun k hk => by simp at hk⟩, by simp, fun k hk => by simp at hk⟩
  · have e64 : Tryd.prog.cellsOf 3 = 1 := by kernel_rfl
    have e8 : Tryd.prog.cellsOf 5 = 1 := by kernel_rfl
    have eI : Tryd.prog.cellsOf 50 = 1 := by kernel_rfl
    have hcell : ∀ i, i < len → ∃ x : IBlk, ∃ cp cc, w.cell? (a.add (i * 5)) = some (.slice cp x.code.length cc) ∧ InsAt w (.slice cp x.code.length cc) x.code ∧ x.code.length ≤ 9223372036854775807 ∧ w.cell? (a.add (i * 5 + 1)) = some (.int .u8 x.kind) ∧ w.cell? (a.add (i * 5 + 2)) = some (.int .i64 x.x) ∧ w.cell? (a.add (i * 5 + 3)) = some (.int .i64 x.tgt) ∧ w.cell? (a.add (i * 5 + 4)) = some (.int .i64 x.els) := by
      intro i hi
      have h1 := hc i hi
      rw [show Tryd.prog.cellsOf 52 = 5 by kernel_rfl] at h1
      rw [List.getElem?_eq_getElem (by omega)] at h1
      obtain ⟨cs', h2, h3⟩ := Option.bind_eq_some_iff.1 h1
      obtain ⟨_, hlc, hat⟩ := World.cells?_some h2
      match cs', hlc with
      | [c0, c1, c2, c3, c4], _ =>
        obtain ⟨ys, m, _, _, _, hyl, hg⟩ := DataW.trod_struct Tryd.underlying52 h3
        have g0 : DataW.trod enc Tryd.prog w base spare held m 50 (([c0, c1, c2, c3, c4].drop 0).take (Tryd.prog.cellsOf 50)) = ys[0]? := hg 0 _ rfl
        have g1 : DataW.trod enc Tryd.prog w base spare held m 5 (([c0, c1, c2, c3, c4].drop 1).take (Tryd.prog.cellsOf 5)) = ys[1]? := hg 1 _ rfl
        have g2 : DataW.trod enc Tryd.prog w base spare held m 3 (([c0, c1, c2, c3, c4].drop 2).take (Tryd.prog.cellsOf 3)) = ys[2]? := hg 2 _ rfl
        have g3 : DataW.trod enc Tryd.prog w base spare held m 3 (([c0, c1, c2, c3, c4].drop 3).take (Tryd.prog.cellsOf 3)) = ys[3]? := hg 3 _ rfl
        have g4 : DataW.trod enc Tryd.prog w base spare held m 3 (([c0, c1, c2, c3, c4].drop 4).take (Tryd.prog.cellsOf 3)) = ys[4]? := hg 4 _ rfl
        have hx : ys.length = 5 := hyl
        rw [List.getElem?_eq_getElem (by omega)] at g0 g1 g2 g3 g4
        rw [eI] at g0
        rw [e8] at g1
        rw [e64] at g2 g3 g4
        obtain ⟨cv, code, e0, hco, hcl⟩ := open_ins g0
        obtain ⟨s1, e1, -, w1⟩ := DataW.trod_int Tryd.underlying5 g1
        obtain ⟨s2, e2, -, -⟩ := DataW.trod_int Tryd.underlying3 g2
        obtain ⟨s3, e3, -, -⟩ := DataW.trod_int Tryd.underlying3 g3
        obtain ⟨s4, e4, -, -⟩ := DataW.trod_int Tryd.underlying3 g4
        obtain rfl := (List.cons.inj e0).1
        obtain rfl := (List.cons.inj e1).1
        obtain rfl := (List.cons.inj e2).1
        obtain rfl := (List.cons.inj e3).1
        obtain rfl := (List.cons.inj e4).1
        obtain ⟨cp, cc, hsh⟩ := hco.shape
        rw [hsh] at hat hco
        have b1 := bounds_u8 w1
        have ex : ((s1.toNat : Nat) : Int) = s1 := by omega
        refine ⟨⟨code, s1.toNat, s2, s3, s4⟩, cp, cc, ?_, hco, hcl, ?_, ?_, ?_, ?_⟩
        · have := hat 0 (by omega); rw [add_add] at this; simpa using this
        · have := hat 1 (by omega); rw [add_add] at this; rw [ex]; simpa using this
        · have := hat 2 (by omega); rw [add_add] at this; simpa using this
        · have := hat 3 (by omega); rw [add_add] at this; simpa using this
        · have := hat 4 (by omega); rw [add_add] at this; simpa using this
    have hch : ∃ f : Nat → IBlk, ∀ i, i < len → ∃ cp cc, w.cell? (a.add (i * 5)) = some (.slice cp (f i).code.length cc) ∧ InsAt w (.slice cp (f i).code.length cc) (f i).code ∧ (f i).code.length ≤ 9223372036854775807 ∧ w.cell? (a.add (i * 5 + 1)) = some (.int .u8 (f i).kind) ∧ w.cell? (a.add (i * 5 + 2)) = some (.int .i64 (f i).x) ∧ w.cell? (a.add (i * 5 + 3)) = some (.int .i64 (f i).tgt) ∧ w.cell? (a.add (i * 5 + 4)) = some (.int .i64 (f i).els) := by
      refine ⟨fun i => if hi : i < len then (hcell i hi).choose else default, fun i hi => ?_⟩
      simp only [hi, dite_true]
      exact (hcell i hi).choose_spec
    obtain ⟨f, hf⟩ := hch
    have hd : ((List.range len).map f).length = len := by simp
    have hg : ∀ i, i < len → ((List.range len).map f).getD i default = f i := by
      intro i hi
      simp [List.getD_eq_getElem?_getD, hi]
    refine ⟨_, (List.range len).map f, rfl, ⟨some a, cap, by rw [hd], fun k hk => ?_⟩, by rw [hd]; unfold maxLen at hm; omega, fun k hk => ?_⟩
    · rw [hd] at hk
      obtain ⟨cp0, cc0, q0, -⟩ := hf 0 (by omega)
      obtain ⟨ha, hlt⟩ := cell_plain (by simpa using q0)
      obtain ⟨cp, cc, q1, q2, q3, q4⟩ := hf k hk
      rw [ha] at q1 q4
      simp only [add_none] at q1 q4
      rw [hg k hk]
      exact ⟨a.block, a.off, cp, cc, by rw [← ha], hlt, q2, q1, q4⟩
    · rw [hd] at hk
      obtain ⟨cp, cc, q1, q2, q3, q4⟩ := hf k hk
      rw [hg k hk]
      exact q3

/-- A function of the intermediate form. -/
theorem open_func {r : Reach} {b0 : Nat} {v : Value} {d : DataW H} {pl : List MemPlace} (hv : Value.okWide Tryd.prog w r b0 25 v) (h : DataW.Trod enc Tryd.prog w base spare held 25 v d pl) :
    ∃ (nm : ByteArray) (R : Int) (ap : Option Addr) (an ac : Nat) (bv : Value) (bs : List IBlk), v = .agg #[.string nm, .int .i64 R, .slice ap an ac, bv] ∧ BksAt w bv bs ∧ an ≤ 9223372036854775807 ∧ bs.length ≤ 9223372036854775807 ∧ (∀ k, k < bs.length → (bs.getD k default).code.length ≤ 9223372036854775807) ∧ -9223372036854775808 ≤ R ∧ R ≤ 9223372036854775807 := by
  obtain ⟨cs, rfl, hsz⟩ := okWide_struct Tryd.underlying25 hv
  obtain ⟨l⟩ := cs
  have e64 : Tryd.prog.cellsOf 3 = 1 := by kernel_rfl
  have eS : Tryd.prog.cellsOf 9 = 1 := by kernel_rfl
  have eA : Tryd.prog.cellsOf 22 = 1 := by kernel_rfl
  have eB : Tryd.prog.cellsOf 23 = 1 := by kernel_rfl
  match l, hsz.trans (show Tryd.prog.cellsOf 25 = 4 by kernel_rfl) with
  | [c0, c1, c2, c3], _ =>
    obtain ⟨fuel, hf⟩ := h
    obtain ⟨xs, n, _, _, _, hlen, hg⟩ := DataW.trod_struct Tryd.underlying25 hf
    have h0 := hg 0 _ rfl
    have h1 := hg 1 _ rfl
    have h2 := hg 2 _ rfl
    have h3 := hg 3 _ rfl
    have hx : xs.length = 4 := hlen
    rw [List.getElem?_eq_getElem (by omega)] at h0 h1 h2 h3
    simp only [Value.cells, e64, eS, eA, eB, List.drop_succ_cons, List.drop_zero, List.take_succ_cons, List.take_zero] at h0 h1 h2 h3
    obtain ⟨nm, e0, -, -⟩ := DataW.trod_string Tryd.underlying9 h0
    obtain ⟨R, e1, -, w1⟩ := DataW.trod_int Tryd.underlying3 h1
    have hA : ∃ ap an ac, [c2] = [Value.slice ap an ac] ∧ an ≤ 9223372036854775807 := by
      rcases DataW.trod_slice Tryd.underlying22 h2 with ⟨e, _⟩ | ⟨a, len, cap, elems, rest, n, _, e, _, _, _, hm, _⟩
      · exact ⟨_, _, _, e, by omega⟩
      · exact ⟨_, _, _, e, by unfold maxLen at hm; omega⟩
    obtain ⟨ap, an, ac, e2, hal⟩ := hA
    obtain ⟨bv, bs, e3, hB, hl, hcl⟩ := open_blks h3
    obtain rfl := (List.cons.inj e0).1
    obtain rfl := (List.cons.inj e1).1
    obtain rfl := (List.cons.inj e2).1
    obtain rfl := (List.cons.inj e3).1
    have b1 := bounds_i64 w1
    exact ⟨nm, R, ap, an, ac, _, bs, rfl, hB, hal, hl, hcl, b1.1, b1.2⟩
end
end Go.Proofs.YtifjcknklecdbaaDoor
