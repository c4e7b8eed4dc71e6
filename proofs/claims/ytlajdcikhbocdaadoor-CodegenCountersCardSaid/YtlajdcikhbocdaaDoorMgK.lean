import Derived.Test.YtlajdcikhbocdaaDoorRows
import Derived.WalkKit
import Derived.ProofKit
import Derived.OpenShut
import Derived.Deep.DeepHandedRow
import Derived.Lib.SmallJoins
import Derived.Test.YtlajdcikhbocdaaDoorRegC
import Derived.Deep.Matrix
import Derived.Test.YtlajdcikhbocdaaDoorCards
import Derived.Test.YtlajdcikhbocdaaDoorTie
import Derived.Test.YtlajdcikhbocdaaDoorLaid
import Derived.Test.YtlajdcikhbocdaaDoorLivD
import Derived.Test.YtlajdcikhbocdaaDoorMgJ
import Derived.Test.YtlajdcikhbocdaaDoorIsaT
/- What a law's call leaves; arguments that are slices of slices, opened. -/
set_option linter.unusedVariables false
set_option linter.unusedSimpArgs false
set_option maxRecDepth 20000
namespace Go.Proofs.YtlajdcikhbocdaaDoor
open Go.Joins Go.ChangeShapes Go.WideShapes Go.ChangeAt Go.RowKit Go.Deep

section
variable {H : Type} {enc : TypeId × Value → H} {P : Program} {w : World} {base : Nat} {spare : Nat → Bool} {held : Bool}
/-- Arguments read as they did where nothing that was there has turned. -/
theorem trodAll_carry (hl : laidOutB P = true) {W W' : World} (hb : Below W.heap.size W W') :
    ∀ (ts : List TypeId) (vs : List Value) (ds : List (DataW H)) (ps : List MemPlace), (∀ t ∈ ts, P.readableRec t = true ∧ t < P.types.size) → DataW.TrodAll enc P W 0 (fun _ => true) true ts vs ds ps → (∀ x ∈ ps, x.block < W.heap.size) →
      DataW.TrodAll enc P W' 0 (fun b => decide (b < W.heap.size)) true ts vs ds ps
  | [], vs, ds, ps, _, h, _ => by
    obtain ⟨rfl, rfl, rfl⟩ := trodAll_nil h
    exact trodAll_mk0
  | t :: ts, vs, ds, ps, hr, h, hlt => by
    obtain ⟨v0, vs0, d0, ds0, p0, q0, rfl, rfl, rfl, h0, r0⟩ := trodAll_cons h
    exact trodAll_cons_mk (Below.trod hl (hr t (by simp)).1 (hr t (by simp)).2 h0 hb (fun x hx => hlt x (by simp [hx])))
      (trodAll_carry hl hb ts vs0 ds0 q0 (fun u hu => hr u (by simp [hu])) r0 (fun x hx => hlt x (by simp [hx])))

/-- What a law's call leaves: true, the arguments as they were. -/
theorem law_post {f : Func} {s : ChangeSpec} {apart : Bool} {W W' : World} {args : Array Value} {ds gs : List (DataW H)} {before : List MemPlace} {tb : TypeId} (hl : laidOutB P = true)
    (hread : f.params.toList.all (fun t => P.readableRec t && decide (t < P.types.size)) = true) (hvars : s.vars = []) (hrt : f.resultTypes = #[tb]) (hub : P.underlying tb = some .bool)
    (hW : DataW.Whole enc P f.params.toList s.vars apart W args.toList ds gs before) (hb : Below W.heap.size W W')
    (hfn : (s.fn H (ds ++ gs)).results = [.lit (.bool true)] ∧ (s.fn H (ds ++ gs)).args = ds ∧ (s.fn H (ds ++ gs)).vars = []) :
    s.post enc P f apart true false false W args (.bool true) W' := by
  have hW' := hW
  obtain ⟨p, q, hA, hV, rfl, _, _⟩ := hW
  have hlt := hW'.lt
  obtain ⟨e1, e2, e3⟩ := hfn
  have hq : q = [] := by
    rw [hvars] at hV
    exact (trodVars_none hV).2
  subst hq
  refine ⟨ds, gs, _, [], p, [], hW', ?_, ?_, ?_, hb.frame _, fun h => by cases h⟩
  · rw [e1, hrt]
    exact trodAll_mk1 (shut_bool hub _)
  · rw [e2]
    refine trodAll_carry hl hb _ _ _ _ (fun t ht => ?_) hA (fun x hx => hlt x (by simp [hx]))
    have := List.all_eq_true.1 hread t ht
    simpa using this
  · rw [hvars, e3]
    rfl
end



theorem add_none (m off j : Nat) : (⟨m, off, none⟩ : Addr).add j = ⟨m, off + j, none⟩ := by unfold Addr.add; split <;> simp_all

theorem cell_plain {w : World} {a : Addr} {v : Value} (h : w.cell? (a.add 0) = some v) : a = ⟨a.block, a.off, none⟩ ∧ a.block < w.heap.size := by
  have e : a.add 0 = a := by unfold Addr.add; simp
  rw [e] at h
  unfold World.cell? at h
  split at h
  · rename_i c t fr hc
    split at h
    · cases h
    · rename_i hs
      refine ⟨?_, ltB hc⟩
      cases a
      simp at hs
      simp [hs]
  · cases h

section
variable {H : Type} {enc : TypeId × Value → H} {w : World} {base : Nat} {held : Bool}
/-- A slice of slices of integers that came in. -/
theorem open_rows {r : Reach} {b0 : Nat} {v : Value} {d : DataW H} {pl : List MemPlace} (hv : Value.okWide Tryd.prog w r b0 88 v) (h : DataW.Trod enc Tryd.prog w base (fun _ => true) held 88 v d pl) : ∃ e : List (List Int), RdR w v e ∧ e.length ≤ 9223372036854775807 := by
  obtain ⟨a, n, c, rfl⟩ := okWide_slice Tryd.underlying88 hv
  obtain ⟨fuel, hf⟩ := h
  rcases open_int_rows Tryd.underlying88 Tryd.underlying37 Tryd.underlying3 (by kernel_rfl) (by kernel_rfl) hf with ⟨e, -⟩ | ⟨a, len, cap, A, L, C, Z, e, -, hl, hcm, -, hx⟩
  · have e := (List.cons.inj e).1
    exact ⟨[], ⟨none, 0, fun _ => .slice none 0 0, e, fun a ha => by simp at ha⟩, by simp⟩
  · have e := (List.cons.inj e).1
    have hlen : ((List.range len).map fun r => (Z r).take (L r)).length = len := by simp
    refine ⟨(List.range len).map fun r => (Z r).take (L r), ⟨some a, cap, fun r => .slice (A r) (L r) (C r), by rw [hlen]; exact e, fun r hr => ?_⟩, by rw [hlen]; unfold maxLen at hcm; omega⟩
    rw [hlen] at hr
    obtain ⟨h1, h2, h3, h4, h5, h6, h7⟩ := hx r (by omega)
    have hg : ((List.range len).map fun r => (Z r).take (L r)).getD r [] = (Z r).take (L r) := by simp [List.getD_eq_getElem?_getD, hr]
    have hzl : ((Z r).take (L r)).length = L r := by rw [List.length_take]; omega
    obtain ⟨p1, p2⟩ := cell_plain (hx 0 (by omega)).1
    refine ⟨⟨a.block, a.off, by rw [← p1], p2, by rw [p1, add_none] at h1; exact h1⟩, ?_⟩
    rw [hg]
    refine ⟨A r, C r, by rw [hzl], fun k hk => ?_⟩
    rw [hzl] at hk
    cases hA : A r with
    | none => have := h6 hA; omega
    | some a' =>
      obtain ⟨_, hc⟩ := h7 a' hA
      obtain ⟨q1, q2⟩ := cell_plain (hc 0 (by omega))
      have hk' := hc k (by omega)
      rw [q1, add_none] at hk'
      refine ⟨a'.block, a'.off, by rw [← q1], q2, ?_⟩
      rw [hk']
      simp only [List.getD_eq_getElem?_getD, List.getElem?_take, if_pos hk]
end
theorem own : ownKnob Tryd.prog.godebug = none := by kernel_rfl
theorem laidOut : laidOutB Tryd.prog = true := by kernel_rfl
noncomputable def bareWorld (os : Os) : World := World.holding Tryd.prog os ⟨#[], #[], []⟩
end Go.Proofs.YtlajdcikhbocdaaDoor

/- Arguments that are functions of the intermediate form, opened; the table of the library that is laid. -/
set_option linter.unusedVariables false
set_option linter.unusedSimpArgs false
set_option maxRecDepth 20000
namespace Go.Proofs.YtlajdcikhbocdaaDoor
open Go.Joins Go.ChangeShapes Go.WideShapes Go.ChangeAt Go.RowKit Go.Deep

section
variable {H : Type} {enc : TypeId × Value → H} {w : World} {base : Nat} {held : Bool} {spare : Nat → Bool}

theorem add_add (a : Addr) (i j : Nat) : (a.add i).add j = a.add (i + j) := by
  unfold Addr.add
  by_cases hi : i = 0 <;> by_cases hj : j = 0 <;> simp [hi, hj, Nat.add_assoc]

/-- A slice of instructions. -/
theorem open_ins {fuel : Nat} {cs : List Value} {x : DataW H × List MemPlace} (h : DataW.trod enc Tryd.prog w base spare held fuel 47 cs = some x) :
    ∃ (v : Value) (d : List IIns), cs = [v] ∧ InsAt w v d ∧ d.length ≤ 9223372036854775807 := by
  rcases DataW.trod_slice Tryd.underlying47 h with ⟨rfl, rfl⟩ | ⟨a, len, cap, elems, rest, n, rfl, rfl, rfl, hb, hl, hm, hel, hc, _, _⟩
  · exact ⟨_, [], rfl, ⟨none, 0, rfl, fun k hk => by simp at hk⟩, by simp⟩
  · have e64 : Tryd.prog.cellsOf 3 = 1 := by kernel_rfl
    have e8 : Tryd.prog.cellsOf 5 = 1 := by kernel_rfl
    have eS : Tryd.prog.cellsOf 9 = 1 := by kernel_rfl
    have hcell : ∀ i, i < len → ∃ x : IIns, w.cell? (a.add (i * 6)) = some (.int .u8 x.op) ∧ w.cell? (a.add (i * 6 + 1)) = some (.int .i64 x.dst) ∧ w.cell? (a.add (i * 6 + 2)) = some (.int .i64 x.x) ∧ w.cell? (a.add (i * 6 + 3)) = some (.int .i64 x.y) ∧ w.cell? (a.add (i * 6 + 4)) = some (.int .i64 x.imm) ∧ w.cell? (a.add (i * 6 + 5)) = some (.string x.sym) := by
      intro i hi
      have h1 := hc i hi
      rw [show Tryd.prog.cellsOf 51 = 6 by kernel_rfl] at h1
      rw [List.getElem?_eq_getElem (by omega)] at h1
      obtain ⟨cs', h2, h3⟩ := Option.bind_eq_some_iff.1 h1
      obtain ⟨_, hlc, hat⟩ := World.cells?_some h2
      match cs', hlc with
      | [c0, c1, c2, c3, c4, c5], _ =>
        obtain ⟨ys, m, _, _, _, hyl, hg⟩ := DataW.trod_struct Tryd.underlying51 h3
        have g0 : DataW.trod enc Tryd.prog w base spare held m 5 (([c0, c1, c2, c3, c4, c5].drop 0).take (Tryd.prog.cellsOf 5)) = ys[0]? := hg 0 _ rfl
        have g1 : DataW.trod enc Tryd.prog w base spare held m 3 (([c0, c1, c2, c3, c4, c5].drop 1).take (Tryd.prog.cellsOf 3)) = ys[1]? := hg 1 _ rfl
        have g2 : DataW.trod enc Tryd.prog w base spare held m 3 (([c0, c1, c2, c3, c4, c5].drop 2).take (Tryd.prog.cellsOf 3)) = ys[2]? := hg 2 _ rfl
        have g3 : DataW.trod enc Tryd.prog w base spare held m 3 (([c0, c1, c2, c3, c4, c5].drop 3).take (Tryd.prog.cellsOf 3)) = ys[3]? := hg 3 _ rfl
        have g4 : DataW.trod enc Tryd.prog w base spare held m 3 (([c0, c1, c2, c3, c4, c5].drop 4).take (Tryd.prog.cellsOf 3)) = ys[4]? := hg 4 _ rfl
        have g5 : DataW.trod enc Tryd.prog w base spare held m 9 (([c0, c1, c2, c3, c4, c5].drop 5).take (Tryd.prog.cellsOf 9)) = ys[5]? := hg 5 _ rfl
        have hx : ys.length = 6 := hyl
        rw [List.getElem?_eq_getElem (by omega)] at g0 g1 g2 g3 g4 g5
        rw [e8] at g0
        rw [e64] at g1 g2 g3 g4
        rw [eS] at g5
        obtain ⟨s0, e0, -, w0⟩ := DataW.trod_int Tryd.underlying5 g0
        obtain ⟨s1, e1, -, -⟩ := DataW.trod_int Tryd.underlying3 g1
        obtain ⟨s2, e2, -, -⟩ := DataW.trod_int Tryd.underlying3 g2
        obtain ⟨s3, e3, -, -⟩ := DataW.trod_int Tryd.underlying3 g3
        obtain ⟨s4, e4, -, -⟩ := DataW.trod_int Tryd.underlying3 g4
        obtain ⟨nm, e5, -, -⟩ := DataW.trod_string Tryd.underlying9 g5
        obtain rfl := (List.cons.inj e0).1
        obtain rfl := (List.cons.inj e1).1
        obtain rfl := (List.cons.inj e2).1
        obtain rfl := (List.cons.inj e3).1
        obtain rfl := (List.cons.inj e4).1
        obtain rfl := (List.cons.inj e5).1
        have b0 := bounds_u8 w0
        have ex : ((s0.toNat : Nat) : Int) = s0 := by omega
        refine ⟨⟨s0.toNat, s1, s2, s3, s4, nm⟩, ?_, ?_, ?_, ?_, ?_, ?_⟩
        · have := hat 0 (by omega); rw [add_add] at this; rw [ex]; simpa using this
        · have := hat 1 (by omega); rw [add_add] at this; simpa using this
        · have := hat 2 (by omega); rw [add_add] at this; simpa using this
        · have := hat 3 (by omega); rw [add_add] at this; simpa using this
        · have := hat 4 (by omega); rw [add_add] at this; simpa using this
        · have := hat 5 (by omega); rw [add_add] at this; simpa using this
    have hch : ∃ f : Nat → IIns, ∀ i, i < len → w.cell? (a.add (i * 6)) = some (.int .u8 (f i).op) ∧ w.cell? (a.add (i * 6 + 1)) = some (.int .i64 (f i).dst) ∧ w.cell? (a.add (i * 6 + 2)) = some (.int .i64 (f i).x) ∧ w.cell? (a.add (i * 6 + 3)) = some (.int .i64 (f i).y) ∧ w.cell? (a.add (i * 6 + 4)) = some (.int .i64 (f i).imm) ∧ w.cell? (a.add (i * 6 + 5)) = some (.string (f i).sym) := by
      refine ⟨fun i => if hi : i < len then (hcell i hi).choose else default, fun i hi => ?_⟩
      simp only [hi, dite_true]
      exact (hcell i hi).choose_spec
    obtain ⟨f, hf⟩ := hch
    have hd : ((List.range len).map f).length = len := by simp
    have hg : ∀ i, i < len → ((List.range len).map f).getD i default = f i := by
      intro i hi
      simp [List.getD_eq_getElem?_getD, hi]
    refine ⟨_, (List.range len).map f, rfl, ⟨some a, cap, by rw [hd], fun k hk => ?_⟩, by rw [hd]; unfold maxLen at hm; omega⟩
    rw [hd] at hk
    obtain ⟨ha, hlt⟩ := cell_plain (by simpa using (hf 0 (by omega)).1)
    have h1 := hf k hk
    rw [ha] at h1
    simp only [add_none] at h1
    rw [hg k hk]
    exact ⟨a.block, a.off, by rw [← ha], hlt, h1⟩

/-- A slice of blocks. -/
theorem open_blks {fuel : Nat} {cs : List Value} {x : DataW H × List MemPlace} (h : DataW.trod enc Tryd.prog w base spare held fuel 23 cs = some x) :
    ∃ (v : Value) (d : List IBlk), cs = [v] ∧ BksAt w v d ∧ d.length ≤ 9223372036854775807 ∧ ∀ k, k < d.length → (d.getD k default).code.length ≤ 9223372036854775807 := by
  rcases DataW.trod_slice Tryd.underlying23 h with ⟨rfl, rfl⟩ | ⟨a, len, cap, elems, rest, n, rfl, rfl, rfl, hb, hl, hm, hel, hc, _, _⟩
  · exact ⟨_, [], rfl, ⟨none, 0, rfl, fun k hk => by simp at hk⟩, by simp, fun k hk => by simp at hk⟩
  · have e64 : Tryd.prog.cellsOf 3 = 1 := by kernel_rfl
    have e8 : Tryd.prog.cellsOf 5 = 1 := by kernel_rfl
    have eI : Tryd.prog.cellsOf 47 = 1 := by kernel_rfl
    have hcell : ∀ i, i < len → ∃ x : IBlk, ∃ cp cc, w.cell? (a.add (i * 5)) = some (.slice cp x.code.length cc) ∧ InsAt w (.slice cp x.code.length cc) x.code ∧ x.code.length ≤ 9223372036854775807 ∧ w.cell? (a.add (i * 5 + 1)) = some (.int .u8 x.kind) ∧ w.cell? (a.add (i * 5 + 2)) = some (.int .i64 x.x) ∧ w.cell? (a.add (i * 5 + 3)) = some (.int .i64 x.to) ∧ w.cell? (a.add (i * 5 + 4)) = some (.int .i64 x.els) := by
      intro i hi
      have h1 := hc i hi
      rw [show Tryd.prog.cellsOf 49 = 5 by kernel_rfl] at h1
      rw [List.getElem?_eq_getElem (by omega)] at h1
      obtain ⟨cs', h2, h3⟩ := Option.bind_eq_some_iff.1 h1
      obtain ⟨_, hlc, hat⟩ := World.cells?_some h2
      match cs', hlc with
      | [c0, c1, c2, c3, c4], _ =>
        obtain ⟨ys, m, _, _, _, hyl, hg⟩ := DataW.trod_struct Tryd.underlying49 h3
        have g0 : DataW.trod enc Tryd.prog w base spare held m 47 (([c0, c1, c2, c3, c4].drop 0).take (Tryd.prog.cellsOf 47)) = ys[0]? := hg 0 _ rfl
        have g1 : DataW.trod enc Tryd.prog w base spare held m 5 (([c0, c1, c2, c3, c4].drop 1).take (Tryd.prog.cellsOf 5)) = ys[1]? := hg 1 _ rfl
        have g2 : DataW.trod enc Tryd.prog w base spare held m 3 (([c0, c1, c2, c3, c4].drop 2).take (Tryd.prog.cellsOf 3)) = ys[2]? := hg 2 _ rfl
        have g3 : DataW.trod enc Tryd.prog w base spare held m 3 (([c0, c1, c2, c3, c4].drop 3).take (Tryd.prog.cellsOf 3)) = ys[3]? := hg 3 _ rfl
        have g4 : DataW.trod enc Tryd.prog w base spare held m 3 (([c0, c1, c2, c3, c4].drop 4).take (Tryd.prog.cellsOf 3)) = ys[4]? := hg 4 _ rfl
        have hx : ys.length = 5 := hyl
        rw [List.getElem?_eq_getElem (by omega)] at g0 g1 g2 g3 g4
        rw [eI] at g0
        rw [e8] at g1
        rw [e64] at g2 g3 g4
        obtain ⟨cv, code, e0, hco, hcl⟩ := open_ins g0
        obtain ⟨s1, e1, -, w1⟩ := DataW.trod_int Tryd.underlying5 g1
        obtain ⟨s2, e2, -, -⟩ := DataW.trod_int Tryd.underlying3 g2
        obtain ⟨s3, e3, -, -⟩ := DataW.trod_int Tryd.underlying3 g3
        obtain ⟨s4, e4, -, -⟩ := DataW.trod_int Tryd.underlying3 g4
        obtain rfl := (List.cons.inj e0).1
        obtain rfl := (List.cons.inj e1).1
        obtain rfl := (List.cons.inj e2).1
        obtain rfl := (List.cons.inj e3).1
        obtain rfl := (List.cons.inj e4).1
        obtain ⟨cp, cc, hsh⟩ := hco.shape
        rw [hsh] at hat hco
        have b1 := bounds_u8 w1
        have ex : ((s1.toNat : Nat) : Int) = s1 := by omega
        refine ⟨⟨code, s1.toNat, s2, s3, s4⟩, cp, cc, ?_, hco, hcl, ?_, ?_, ?_, ?_⟩
        · have := hat 0 (by omega); rw [add_add] at this; simpa using this
        · have := hat 1 (by omega); rw [add_add] at this; rw [ex]; simpa using this
        · have := hat 2 (by omega); rw [add_add] at this; simpa using this
        · have := hat 3 (by omega); rw [add_add] at this; simpa using this
        · have := hat 4 (by omega); rw [add_add] at this; simpa using this
    have hch : ∃ f : Nat → IBlk, ∀ i, i < len → ∃ cp cc, w.cell? (a.add (i * 5)) = some (.slice cp (f i).code.length cc) ∧ InsAt w (.slice cp (f i).code.length cc) (f i).code ∧ (f i).code.length ≤ 9223372036854775807 ∧ w.cell? (a.add (i * 5 + 1)) = some (.int .u8 (f i).kind) ∧ w.cell? (a.add (i * 5 + 2)) = some (.int .i64 (f i).x) ∧ w.cell? (a.add (i * 5 + 3)) = some (.int .i64 (f i).to) ∧ w.cell? (a.add (i * 5 + 4)) = some (.int .i64 (f i).els) := by
      refine ⟨fun i => if hi : i < len then (hcell i hi).choose else default, fun i hi => ?_⟩
      simp only [hi, dite_true]
      exact (hcell i hi).choose_spec
    obtain ⟨f, hf⟩ := hch
    have hd : ((List.range len).map f).length = len := by simp
    have hg : ∀ i, i < len → ((List.range len).map f).getD i default = f i := by
      intro i hi
      simp [List.getD_eq_getElem?_getD, hi]
    refine ⟨_, (List.range len).map f, rfl, ⟨some a, cap, by rw [hd], fun k hk => ?_⟩, by rw [hd]; unfold maxLen at hm; omega, fun k hk => ?_⟩
    · rw [hd] at hk
      obtain ⟨cp0, cc0, q0, -⟩ := hf 0 (by omega)
      obtain ⟨ha, hlt⟩ := cell_plain (by simpa using q0)
      obtain ⟨cp, cc, q1, q2, q3, q4⟩ := hf k hk
      rw [ha] at q1 q4
      simp only [add_none] at q1 q4
      rw [hg k hk]
      exact ⟨a.block, a.off, cp, cc, by rw [← ha], hlt, q2, q1, q4⟩
    · rw [hd] at hk
      obtain ⟨cp, cc, q1, q2, q3, q4⟩ := hf k hk
      rw [hg k hk]
      exact q3

/-- A function of the intermediate form. -/
theorem open_func {r : Reach} {b0 : Nat} {v : Value} {d : DataW H} {pl : List MemPlace} (hv : Value.okWide Tryd.prog w r b0 25 v) (h : DataW.Trod enc Tryd.prog w base spare held 25 v d pl) :
    ∃ (nm : ByteArray) (R : Int) (ap : Option Addr) (an ac : Nat) (bv : Value) (bs : List IBlk), v = .agg #[.string nm, .int .i64 R, .slice ap an ac, bv] ∧ BksAt w bv bs ∧ an ≤ 9223372036854775807 ∧ bs.length ≤ 9223372036854775807 ∧ (∀ k, k < bs.length → (bs.getD k default).code.length ≤ 9223372036854775807) ∧ -9223372036854775808 ≤ R ∧ R ≤ 9223372036854775807 := by
  obtain ⟨cs, rfl, hsz⟩ := okWide_struct Tryd.underlying25 hv
  obtain ⟨l⟩ := cs
  have e64 : Tryd.prog.cellsOf 3 = 1 := by kernel_rfl
  have eS : Tryd.prog.cellsOf 9 = 1 := by kernel_rfl
  have eA : Tryd.prog.cellsOf 22 = 1 := by kernel_rfl
  have eB : Tryd.prog.cellsOf 23 = 1 := by kernel_rfl
  match l, hsz.trans (show Tryd.prog.cellsOf 25 = 4 by kernel_rfl) with
  | [c0, c1, c2, c3], _ =>
    obtain ⟨fuel, hf⟩ := h
    obtain ⟨xs, n, _, _, _, hlen, hg⟩ := DataW.trod_struct Tryd.underlying25 hf
    have h0 := hg 0 _ rfl
    have h1 := hg 1 _ rfl
    have h2 := hg 2 _ rfl
    have h3 := hg 3 _ rfl
    have hx : xs.length = 4 := hlen
    rw [List.getElem?_eq_getElem (by omega)] at h0 h1 h2 h3
    simp only [Value.cells, e64, eS, eA, eB, List.drop_succ_cons, List.drop_zero, List.take_succ_cons, List.take_zero] at h0 h1 h2 h3
    obtain ⟨nm, e0, -, -⟩ := DataW.trod_string Tryd.underlying9 h0
    obtain ⟨R, e1, -, w1⟩ := DataW.trod_int Tryd.underlying3 h1
    have hA : ∃ ap an ac, [c2] = [Value.slice ap an ac] ∧ an ≤ 9223372036854775807 := by
      rcases DataW.trod_slice Tryd.underlying22 h2 with ⟨e, _⟩ | ⟨a, len, cap, elems, rest, n, _, e, _, _, _, hm, _⟩
      · exact ⟨_, _, _, e, by omega⟩
      · exact ⟨_, _, _, e, by unfold maxLen at hm; omega⟩
    obtain ⟨ap, an, ac, e2, hal⟩ := hA
    obtain ⟨bv, bs, e3, hB, hl, hcl⟩ := open_blks h3
    obtain rfl := (List.cons.inj e0).1
    obtain rfl := (List.cons.inj e1).1
    obtain rfl := (List.cons.inj e2).1
    obtain rfl := (List.cons.inj e3).1
    have b1 := bounds_i64 w1
    exact ⟨nm, R, ap, an, ac, _, bs, rfl, hB, hal, hl, hcl, b1.1, b1.2⟩
end
end Go.Proofs.YtlajdcikhbocdaaDoor

/- Arguments that are functions of the intermediate form, opened with all that codegen.Task wants. -/
set_option linter.unusedVariables false
set_option linter.unusedSimpArgs false
set_option maxRecDepth 20000
namespace Go.Proofs.YtlajdcikhbocdaaDoor
open Go.Joins Go.ChangeShapes Go.WideShapes Go.ChangeAt Go.RowKit Go.Deep

section
variable {H : Type} {enc : TypeId × Value → H} {w : World} {base : Nat} {held : Bool} {spare : Nat → Bool}

/-- A slice of instructions. -/
theorem open_ins2 {fuel : Nat} {cs : List Value} {x : DataW H × List MemPlace} (h : DataW.trod enc Tryd.prog w base spare held fuel 47 cs = some x) :
    ∃ (v : Value) (d : List IIns), cs = [v] ∧ InsAt w v d ∧ d.length ≤ 9223372036854775807 ∧ ∀ k, k < d.length → (d.getD k default).sym.size ≤ maxLen ∧ (d.getD k default).op < 256 := by
  rcases DataW.trod_slice Tryd.underlying47 h with ⟨rfl, rfl⟩ | ⟨a, len, cap, elems, rest, n, rfl, rfl, rfl, hb, hl, hm, hel, hc, _, _⟩
  · exact ⟨_, [], rfl, ⟨none, 0, rfl, fun k hk => by simp at hk⟩, by simp, fun k hk => by simp at hk⟩
  · have e64 : Tryd.prog.cellsOf 3 = 1 := by kernel_rfl
    have e8 : Tryd.prog.cellsOf 5 = 1 := by kernel_rfl
    have eS : Tryd.prog.cellsOf 9 = 1 := by kernel_rfl
    have hcell : ∀ i, i < len → ∃ x : IIns, w.cell? (a.add (i * 6)) = some (.int .u8 x.op) ∧ w.cell? (a.add (i * 6 + 1)) = some (.int .i64 x.dst) ∧ w.cell? (a.add (i * 6 + 2)) = some (.int .i64 x.x) ∧ w.cell? (a.add (i * 6 + 3)) = some (.int .i64 x.y) ∧ w.cell? (a.add (i * 6 + 4)) = some (.int .i64 x.imm) ∧ w.cell? (a.add (i * 6 + 5)) = some (.string x.sym) ∧ x.sym.size ≤ maxLen ∧ x.op < 256 := by
      intro i hi
      have h1 := hc i hi
      rw [show Tryd.prog.cellsOf 51 = 6 by kernel_rfl] at h1
      rw [List.getElem?_eq_getElem (by omega)] at h1
      obtain ⟨cs', h2, h3⟩ := Option.bind_eq_some_iff.1 h1
      obtain ⟨_, hlc, hat⟩ := World.cells?_some h2
      match cs', hlc with
      | [c0, c1, c2, c3, c4, c5], _ =>
        obtain ⟨ys, m, _, _, _, hyl, hg⟩ := DataW.trod_struct Tryd.underlying51 h3
        have g0 : DataW.trod enc Tryd.prog w base spare held m 5 (([c0, c1, c2, c3, c4, c5].drop 0).take (Tryd.prog.cellsOf 5)) = ys[0]? := hg 0 _ rfl
        have g1 : DataW.trod enc Tryd.prog w base spare held m 3 (([c0, c1, c2, c3, c4, c5].drop 1).take (Tryd.prog.cellsOf 3)) = ys[1]? := hg 1 _ rfl
        have g2 : DataW.trod enc Tryd.prog w base spare held m 3 (([c0, c1, c2, c3, c4, c5].drop 2).take (Tryd.prog.cellsOf 3)) = ys[2]? := hg 2 _ rfl
        have g3 : DataW.trod enc Tryd.prog w base spare held m 3 (([c0, c1, c2, c3, c4, c5].drop 3).take (Tryd.prog.cellsOf 3)) = ys[3]? := hg 3 _ rfl
        have g4 : DataW.trod enc Tryd.prog w base spare held m 3 (([c0, c1, c2, c3, c4, c5].drop 4).take (Tryd.prog.cellsOf 3)) = ys[4]? := hg 4 _ rfl
        have g5 : DataW.trod enc Tryd.prog w base spare held m 9 (([c0, c1, c2, c3, c4, c5].drop 5).take (Tryd.prog.cellsOf 9)) = ys[5]? := hg 5 _ rfl
        have hx : ys.length = 6 := hyl
        rw [List.getElem?_eq_getElem (by omega)] at g0 g1 g2 g3 g4 g5
        rw [e8] at g0
        rw [e64] at g1 g2 g3 g4
        rw [eS] at g5
        obtain ⟨s0, e0, -, w0⟩ := DataW.trod_int Tryd.underlying5 g0
        obtain ⟨s1, e1, -, -⟩ := DataW.trod_int Tryd.underlying3 g1
        obtain ⟨s2, e2, -, -⟩ := DataW.trod_int Tryd.underlying3 g2
        obtain ⟨s3, e3, -, -⟩ := DataW.trod_int Tryd.underlying3 g3
        obtain ⟨s4, e4, -, -⟩ := DataW.trod_int Tryd.underlying3 g4
        obtain ⟨nm, e5, -, w5⟩ := DataW.trod_string Tryd.underlying9 g5
        obtain rfl := (List.cons.inj e0).1
        obtain rfl := (List.cons.inj e1).1
        obtain rfl := (List.cons.inj e2).1
        obtain rfl := (List.cons.inj e3).1
        obtain rfl := (List.cons.inj e4).1
        obtain rfl := (List.cons.inj e5).1
        have b0 := bounds_u8 w0
        have ex : ((s0.toNat : Nat) : Int) = s0 := by omega
        refine ⟨⟨s0.toNat, s1, s2, s3, s4, nm⟩, ?_, ?_, ?_, ?_, ?_, ?_, w5, by show s0.toNat < 256; omega⟩
        · have := hat 0 (by omega); rw [add_add] at this; rw [ex]; simpa using this
        · have := hat 1 (by omega); rw [add_add] at this; simpa using this
        · have := hat 2 (by omega); rw [add_add] at this; simpa using this
        · have := hat 3 (by omega); rw [add_add] at this; simpa using this
        · have := hat 4 (by omega); rw [add_add] at this; simpa using this
        · have := hat 5 (by omega); rw [add_add] at this; simpa using this
    have hch : ∃ f : Nat → IIns, ∀ i, i < len → w.cell? (a.add (i * 6)) = some (.int .u8 (f i).op) ∧ w.cell? (a.add (i * 6 + 1)) = some (.int .i64 (f i).dst) ∧ w.cell? (a.add (i * 6 + 2)) = some (.int .i64 (f i).x) ∧ w.cell? (a.add (i * 6 + 3)) = some (.int .i64 (f i).y) ∧ w.cell? (a.add (i * 6 + 4)) = some (.int .i64 (f i).imm) ∧ w.cell? (a.add (i * 6 + 5)) = some (.string (f i).sym) ∧ (f i).sym.size ≤ maxLen ∧ (f i).op < 256 := by
      refine ⟨fun i => if hi : i < len then (hcell i hi).choose else default, fun i hi => ?_⟩
      simp only [hi, dite_true]
      exact (hcell i hi).choose_spec
    obtain ⟨f, hf⟩ := hch
    have hd : ((List.range len).map f).length = len := by simp
    have hg : ∀ i, i < len → ((List.range len).map f).getD i default = f i := by
      intro i hi
      simp [List.getD_eq_getElem?_getD, hi]
    refine ⟨_, (List.range len).map f, rfl, ⟨some a, cap, by rw [hd], fun k hk => ?_⟩, by rw [hd]; unfold maxLen at hm; omega, fun k hk => ?_⟩
    · rw [hd] at hk
      obtain ⟨ha, hlt⟩ := cell_plain (by simpa using (hf 0 (by omega)).1)
      have h1 := hf k hk
      rw [ha] at h1
      simp only [add_none] at h1
      rw [hg k hk]
      obtain ⟨q0, q1, q2, q3, q4, q5, -⟩ := h1
      exact ⟨a.block, a.off, by rw [← ha], hlt, q0, q1, q2, q3, q4, q5⟩
    · rw [hd] at hk
      rw [hg k hk]
      exact (hf k hk).2.2.2.2.2.2

/-- A slice of blocks. -/
theorem open_blks2 {fuel : Nat} {cs : List Value} {x : DataW H × List MemPlace} (h : DataW.trod enc Tryd.prog w base spare held fuel 23 cs = some x) :
    ∃ (v : Value) (d : List IBlk), cs = [v] ∧ BksAt w v d ∧ d.length ≤ 9223372036854775807 ∧ ∀ k, k < d.length → ((d.getD k default).code.length ≤ 9223372036854775807 ∧ ∀ j, j < (d.getD k default).code.length → ((d.getD k default).code.getD j default).sym.size ≤ maxLen ∧ ((d.getD k default).code.getD j default).op < 256) ∧ -9223372036854775808 ≤ (d.getD k default).x ∧ (d.getD k default).x ≤ 9223372036854775807 := by
  rcases DataW.trod_slice Tryd.underlying23 h with ⟨rfl, rfl⟩ | ⟨a, len, cap, elems, rest, n, rfl, rfl, rfl, hb, hl, hm, hel, hc, _, _⟩
  · exact ⟨_, [], rfl, ⟨none, 0, rfl, fun k hk => by simp at hk⟩, by simp, fun k hk => by simp at hk⟩
  · have e64 : Tryd.prog.cellsOf 3 = 1 := by kernel_rfl
    have e8 : Tryd.prog.cellsOf 5 = 1 := by kernel_rfl
    have eI : Tryd.prog.cellsOf 47 = 1 := by kernel_rfl
    have hcell : ∀ i, i < len → ∃ x : IBlk, ∃ cp cc, w.cell? (a.add (i * 5)) = some (.slice cp x.code.length cc) ∧ InsAt w (.slice cp x.code.length cc) x.code ∧ ((x.code.length ≤ 9223372036854775807 ∧ ∀ j, j < x.code.length → (x.code.getD j default).sym.size ≤ maxLen ∧ (x.code.getD j default).op < 256) ∧ -9223372036854775808 ≤ x.x ∧ x.x ≤ 9223372036854775807) ∧ w.cell? (a.add (i * 5 + 1)) = some (.int .u8 x.kind) ∧ w.cell? (a.add (i * 5 + 2)) = some (.int .i64 x.x) ∧ w.cell? (a.add (i * 5 + 3)) = some (.int .i64 x.to) ∧ w.cell? (a.add (i * 5 + 4)) = some (.int .i64 x.els) := by
      intro i hi
      have h1 := hc i hi
      rw [show Tryd.prog.cellsOf 49 = 5 by kernel_rfl] at h1
      rw [List.getElem?_eq_getElem (by omega)] at h1
      obtain ⟨cs', h2, h3⟩ := Option.bind_eq_some_iff.1 h1
      obtain ⟨_, hlc, hat⟩ := World.cells?_some h2
      match cs', hlc with
      | [c0, c1, c2, c3, c4], _ =>
        obtain ⟨ys, m, _, _, _, hyl, hg⟩ := DataW.trod_struct Tryd.underlying49 h3
        have g0 : DataW.trod enc Tryd.prog w base spare held m 47 (([c0, c1, c2, c3, c4].drop 0).take (Tryd.prog.cellsOf 47)) = ys[0]? := hg 0 _ rfl
        have g1 : DataW.trod enc Tryd.prog w base spare held m 5 (([c0, c1, c2, c3, c4].drop 1).take (Tryd.prog.cellsOf 5)) = ys[1]? := hg 1 _ rfl
        have g2 : DataW.trod enc Tryd.prog w base spare held m 3 (([c0, c1, c2, c3, c4].drop 2).take (Tryd.prog.cellsOf 3)) = ys[2]? := hg 2 _ rfl
        have g3 : DataW.trod enc Tryd.prog w base spare held m 3 (([c0, c1, c2, c3, c4].drop 3).take (Tryd.prog.cellsOf 3)) = ys[3]? := hg 3 _ rfl
        have g4 : DataW.trod enc Tryd.prog w base spare held m 3 (([c0, c1, c2, c3, c4].drop 4).take (Tryd.prog.cellsOf 3)) = ys[4]? := hg 4 _ rfl
        have hx : ys.length = 5 := hyl
        rw [List.getElem?_eq_getElem (by omega)] at g0 g1 g2 g3 g4
        rw [eI] at g0
        rw [e8] at g1
        rw [e64] at g2 g3 g4
        obtain ⟨cv, code, e0, hco, hcl, hsy⟩ := open_ins2 g0
        obtain ⟨s1, e1, -, w1⟩ := DataW.trod_int Tryd.underlying5 g1
        obtain ⟨s2, e2, -, w2⟩ := DataW.trod_int Tryd.underlying3 g2
        obtain ⟨s3, e3, -, -⟩ := DataW.trod_int Tryd.underlying3 g3
        obtain ⟨s4, e4, -, -⟩ := DataW.trod_int Tryd.underlying3 g4
        obtain rfl := (List.cons.inj e0).1
        obtain rfl := (List.cons.inj e1).1
        obtain rfl := (List.cons.inj e2).1
        obtain rfl := (List.cons.inj e3).1
        obtain rfl := (List.cons.inj e4).1
        have b2 := bounds_i64 w2
        obtain ⟨cp, cc, hsh⟩ := hco.shape
        rw [hsh] at hat hco
        have b1 := bounds_u8 w1
        have ex : ((s1.toNat : Nat) : Int) = s1 := by omega
        refine ⟨⟨code, s1.toNat, s2, s3, s4⟩, cp, cc, ?_, hco, ⟨⟨hcl, hsy⟩, b2⟩, ?_, ?_, ?_, ?_⟩
        · have := hat 0 (by omega); rw [add_add] at this; simpa using this
        · have := hat 1 (by omega); rw [add_add] at this; rw [ex]; simpa using this
        · have := hat 2 (by omega); rw [add_add] at this; simpa using this
        · have := hat 3 (by omega); rw [add_add] at this; simpa using this
        · have := hat 4 (by omega); rw [add_add] at this; simpa using this
    have hch : ∃ f : Nat → IBlk, ∀ i, i < len → ∃ cp cc, w.cell? (a.add (i * 5)) = some (.slice cp (f i).code.length cc) ∧ InsAt w (.slice cp (f i).code.length cc) (f i).code ∧ (((f i).code.length ≤ 9223372036854775807 ∧ ∀ j, j < (f i).code.length → ((f i).code.getD j default).sym.size ≤ maxLen ∧ ((f i).code.getD j default).op < 256) ∧ -9223372036854775808 ≤ (f i).x ∧ (f i).x ≤ 9223372036854775807) ∧ w.cell? (a.add (i * 5 + 1)) = some (.int .u8 (f i).kind) ∧ w.cell? (a.add (i * 5 + 2)) = some (.int .i64 (f i).x) ∧ w.cell? (a.add (i * 5 + 3)) = some (.int .i64 (f i).to) ∧ w.cell? (a.add (i * 5 + 4)) = some (.int .i64 (f i).els) := by
      refine ⟨fun i => if hi : i < len then (hcell i hi).choose else default, fun i hi => ?_⟩
      simp only [hi, dite_true]
      exact (hcell i hi).choose_spec
    obtain ⟨f, hf⟩ := hch
    have hd : ((List.range len).map f).length = len := by simp
    have hg : ∀ i, i < len → ((List.range len).map f).getD i default = f i := by
      intro i hi
      simp [List.getD_eq_getElem?_getD, hi]
    refine ⟨_, (List.range len).map f, rfl, ⟨some a, cap, by rw [hd], fun k hk => ?_⟩, by rw [hd]; unfold maxLen at hm; omega, fun k hk => ?_⟩
    · rw [hd] at hk
      obtain ⟨cp0, cc0, q0, -⟩ := hf 0 (by omega)
      obtain ⟨ha, hlt⟩ := cell_plain (by simpa using q0)
      obtain ⟨cp, cc, q1, q2, q3, q4⟩ := hf k hk
      rw [ha] at q1 q4
      simp only [add_none] at q1 q4
      rw [hg k hk]
      exact ⟨a.block, a.off, cp, cc, by rw [← ha], hlt, q2, q1, q4⟩
    · rw [hd] at hk
      obtain ⟨cp, cc, q1, q2, q3, q4⟩ := hf k hk
      rw [hg k hk]
      exact q3

/-- A slice of arrays. -/
theorem open_arrs {fuel : Nat} {cs : List Value} {x : DataW H × List MemPlace} (h : DataW.trod enc Tryd.prog w base spare held fuel 22 cs = some x) :
    ∃ (v : Value) (d : List Arr), cs = [v] ∧ ArsAt w v d ∧ d.length ≤ 9223372036854775807 ∧ ∀ k, k < d.length → (d.getD k default).1.size ≤ maxLen ∧ -9223372036854775808 ≤ (d.getD k default).2 ∧ (d.getD k default).2 ≤ 9223372036854775807 := by
  rcases DataW.trod_slice Tryd.underlying22 h with ⟨rfl, rfl⟩ | ⟨a, len, cap, elems, rest, n, rfl, rfl, rfl, hb, hl, hm, hel, hc, _, _⟩
  · exact ⟨_, [], rfl, ⟨none, 0, rfl, fun k hk => by simp at hk⟩, by simp, fun k hk => by simp at hk⟩
  · have e64 : Tryd.prog.cellsOf 3 = 1 := by kernel_rfl
    have eS : Tryd.prog.cellsOf 9 = 1 := by kernel_rfl
    have hcell : ∀ i, i < len → ∃ x : Arr, w.cell? (a.add (i * 2)) = some (.string x.1) ∧ w.cell? (a.add (i * 2 + 1)) = some (.int .i64 x.2) ∧ x.1.size ≤ maxLen ∧ -9223372036854775808 ≤ x.2 ∧ x.2 ≤ 9223372036854775807 := by
      intro i hi
      have h1 := hc i hi
      rw [show Tryd.prog.cellsOf 44 = 2 by kernel_rfl] at h1
      rw [List.getElem?_eq_getElem (by omega)] at h1
      obtain ⟨cs', h2, h3⟩ := Option.bind_eq_some_iff.1 h1
      obtain ⟨_, hlc, hat⟩ := World.cells?_some h2
      match cs', hlc with
      | [c0, c1], _ =>
        obtain ⟨ys, m, _, _, _, hyl, hg⟩ := DataW.trod_struct Tryd.underlying44 h3
        have g0 : DataW.trod enc Tryd.prog w base spare held m 9 (([c0, c1].drop 0).take (Tryd.prog.cellsOf 9)) = ys[0]? := hg 0 _ rfl
        have g1 : DataW.trod enc Tryd.prog w base spare held m 3 (([c0, c1].drop 1).take (Tryd.prog.cellsOf 3)) = ys[1]? := hg 1 _ rfl
        have hx : ys.length = 2 := hyl
        rw [List.getElem?_eq_getElem (by omega)] at g0 g1
        rw [eS] at g0
        rw [e64] at g1
        obtain ⟨nm, e0, -, w0⟩ := DataW.trod_string Tryd.underlying9 g0
        obtain ⟨s1, e1, -, w1⟩ := DataW.trod_int Tryd.underlying3 g1
        obtain rfl := (List.cons.inj e0).1
        obtain rfl := (List.cons.inj e1).1
        have b1 := bounds_i64 w1
        refine ⟨(nm, s1), ?_, ?_, w0, b1⟩
        · have := hat 0 (by omega); rw [add_add] at this; simpa using this
        · have := hat 1 (by omega); rw [add_add] at this; simpa using this
    have hch : ∃ f : Nat → Arr, ∀ i, i < len → w.cell? (a.add (i * 2)) = some (.string (f i).1) ∧ w.cell? (a.add (i * 2 + 1)) = some (.int .i64 (f i).2) ∧ (f i).1.size ≤ maxLen ∧ -9223372036854775808 ≤ (f i).2 ∧ (f i).2 ≤ 9223372036854775807 := by
      refine ⟨fun i => if hi : i < len then (hcell i hi).choose else default, fun i hi => ?_⟩
      simp only [hi, dite_true]
      exact (hcell i hi).choose_spec
    obtain ⟨f, hf⟩ := hch
    have hd : ((List.range len).map f).length = len := by simp
    have hg : ∀ i, i < len → ((List.range len).map f).getD i default = f i := by
      intro i hi
      simp [List.getD_eq_getElem?_getD, hi]
    refine ⟨_, (List.range len).map f, rfl, ⟨some a, cap, by rw [hd], fun k hk => ?_⟩, by rw [hd]; unfold maxLen at hm; omega, fun k hk => ?_⟩
    · rw [hd] at hk
      obtain ⟨ha, hlt⟩ := cell_plain (by simpa using (hf 0 (by omega)).1)
      have h1 := hf k hk
      rw [ha] at h1
      simp only [add_none] at h1
      rw [hg k hk]
      exact ⟨a.block, a.off, by rw [← ha], hlt, h1.1, h1.2.1⟩
    · rw [hd] at hk
      rw [hg k hk]
      exact (hf k hk).2.2

/-- A function of the intermediate form. -/
theorem open_func2 {r : Reach} {b0 : Nat} {v : Value} {d : DataW H} {pl : List MemPlace} (hv : Value.okWide Tryd.prog w r b0 25 v) (h : DataW.Trod enc Tryd.prog w base spare held 25 v d pl) :
    ∃ (nm : ByteArray) (R : Int) (av bv : Value) (A : List Arr) (bs : List IBlk), v = .agg #[.string nm, .int .i64 R, av, bv] ∧ (ArsAt w av A ∧ BksAt w bv bs) ∧ (A.length ≤ 9223372036854775807 ∧ ∀ k, k < A.length → (A.getD k default).1.size ≤ maxLen ∧ -9223372036854775808 ≤ (A.getD k default).2 ∧ (A.getD k default).2 ≤ 9223372036854775807) ∧ (bs.length ≤ 9223372036854775807 ∧ (∀ k, k < bs.length → ((bs.getD k default).code.length ≤ 9223372036854775807 ∧ ∀ j, j < (bs.getD k default).code.length → ((bs.getD k default).code.getD j default).sym.size ≤ maxLen ∧ ((bs.getD k default).code.getD j default).op < 256) ∧ -9223372036854775808 ≤ (bs.getD k default).x ∧ (bs.getD k default).x ≤ 9223372036854775807)) ∧ -9223372036854775808 ≤ R ∧ R ≤ 9223372036854775807 := by
  obtain ⟨cs, rfl, hsz⟩ := okWide_struct Tryd.underlying25 hv
  obtain ⟨l⟩ := cs
  have e64 : Tryd.prog.cellsOf 3 = 1 := by kernel_rfl
  have eS : Tryd.prog.cellsOf 9 = 1 := by kernel_rfl
  have eA : Tryd.prog.cellsOf 22 = 1 := by kernel_rfl
  have eB : Tryd.prog.cellsOf 23 = 1 := by kernel_rfl
  match l, hsz.trans (show Tryd.prog.cellsOf 25 = 4 by kernel_rfl) with
  | [c0, c1, c2, c3], _ =>
    obtain ⟨fuel, hf⟩ := h
    obtain ⟨xs, n, _, _, _, hlen, hg⟩ := DataW.trod_struct Tryd.underlying25 hf
    have h0 := hg 0 _ rfl
    have h1 := hg 1 _ rfl
    have h2 := hg 2 _ rfl
    have h3 := hg 3 _ rfl
    have hx : xs.length = 4 := hlen
    rw [List.getElem?_eq_getElem (by omega)] at h0 h1 h2 h3
    simp only [Value.cells, e64, eS, eA, eB, List.drop_succ_cons, List.drop_zero, List.take_succ_cons, List.take_zero] at h0 h1 h2 h3
    obtain ⟨nm, e0, -, -⟩ := DataW.trod_string Tryd.underlying9 h0
    obtain ⟨R, e1, -, w1⟩ := DataW.trod_int Tryd.underlying3 h1
    obtain ⟨av, A, e2, hA, hal, hax⟩ := open_arrs h2
    obtain ⟨bv, bs, e3, hB, hl, hcl⟩ := open_blks2 h3
    obtain rfl := (List.cons.inj e0).1
    obtain rfl := (List.cons.inj e1).1
    obtain rfl := (List.cons.inj e2).1
    obtain rfl := (List.cons.inj e3).1
    have b1 := bounds_i64 w1
    exact ⟨nm, R, _, _, A, bs, rfl, ⟨hA, hB⟩, ⟨hal, hax⟩, ⟨hl, hcl⟩, b1.1, b1.2⟩
end
end Go.Proofs.YtlajdcikhbocdaaDoor

/- Layer 20: the listed variable, and a world for the witnesses. -/
set_option linter.unusedVariables false
set_option linter.unusedSimpArgs false
set_option maxRecDepth 20000
namespace Go.Proofs.YtlajdcikhbocdaaDoor
open Go.Joins Go.ChangeShapes Go.WideShapes Go.ChangeAt Go.RowKit Go.Deep

theorem tabz_flat : flatD 2 (Rows.laid_math_bits_deBruijn64tab (H := Unit)) = (List.range 64).map fun j => .int .u8 (Lib.deBruijn64tab.getD j 0) := by kernel_rfl
theorem tabz_of_laid {w : World} {nm : String} {rest : List (String × DataW Unit)} (hg : Tryd.prog.globalNamed nm = some 1) (h : laidMet Tryd.prog ((nm, Rows.laid_math_bits_deBruijn64tab) :: rest) w) : TabZ w := by
  obtain ⟨et, fr, hc⟩ := cells_of_head (g := 1) (t := 140) 2 hg (by kernel_rfl) (by kernel_rfl) h
  rw [tabz_flat] at hc
  refine ⟨?_, fun i hi => ?_⟩
  · rcases Nat.lt_or_ge 1 w.heap.size with h | h
    · exact h
    · rw [Array.getElem?_eq_none (by omega)] at hc; cases hc
  · unfold World.cell?
    rw [hc]
    simp [hi]
/-- A block that holds these cells. -/
def layObj (cs : Array Value) : Obj → Obj
  | .cells _ t frozen => .cells cs t frozen
  | o => o
/-- A world for the witnesses: the settled one, the table holding what its initialiser lays. -/
noncomputable def laidWorld20 (os : Os) : World :=
  { World.holding Tryd.prog os ⟨#[], #[], []⟩ with heap := (World.holding Tryd.prog os ⟨#[], #[], []⟩).heap.modify 1 (layObj (flatD 2 (Rows.laid_math_bits_deBruijn64tab (H := Unit))).toArray) }
end Go.Proofs.YtlajdcikhbocdaaDoor

/- Layer 21: the listed variables, arrays that came in, and a world for the witnesses. -/
set_option linter.unusedVariables false
set_option linter.unusedSimpArgs false
set_option maxRecDepth 20000
namespace Go.Proofs.YtlajdcikhbocdaaDoor
open Go.Joins Go.ChangeShapes Go.WideShapes Go.ChangeAt Go.RowKit Go.Deep

theorem laidMet_tail {P : Program} {w : World} {x : String × DataW Unit} {rest : List (String × DataW Unit)} (h : laidMet P (x :: rest) w) : laidMet P rest w := by
  obtain ⟨ps, hv, hn, hh⟩ := h
  obtain ⟨nm, d⟩ := x
  obtain ⟨g, t, cs, fuel, p, q, h1, h2, h3, h4, h5, h6⟩ := hv
  subst h6
  exact ⟨q, h5, (List.nodup_append.1 hn).2.1, fun b off hm => hh b off (by simp [hm])⟩
section
variable {H : Type} {enc : TypeId × Value → H} {w : World} {held : Bool} {spare : Nat → Bool}
/-- A slice of arrays that came in. -/
theorem open_arrsV {r : Reach} {b0 : Nat} {v : Value} {d : DataW H} {pl : List MemPlace} (hv : Value.okWide Tryd.prog w r b0 22 v) (h : DataW.Trod enc Tryd.prog w 0 spare held 22 v d pl) :
    ∃ S : List Arr, ArsAt w v S ∧ S.length ≤ 9223372036854775807 ∧ ∀ k, k < S.length → (S.getD k default).1.size ≤ maxLen ∧ -9223372036854775808 ≤ (S.getD k default).2 ∧ (S.getD k default).2 ≤ 9223372036854775807 := by
  obtain ⟨a, n, c, rfl⟩ := okWide_slice Tryd.underlying22 hv
  obtain ⟨fuel, hf⟩ := h
  obtain ⟨v', S, e, h1, h2, h3⟩ := open_arrs hf
  obtain rfl := (List.cons.inj e).1
  exact ⟨S, h1, h2, h3⟩
end
/-- A world for the witnesses: the settled one, the two tables holding what their initialisers lay. -/
noncomputable def laidWorld21 (os : Os) : World :=
  { World.holding Tryd.prog os ⟨#[], #[], []⟩ with heap := ((World.holding Tryd.prog os ⟨#[], #[], []⟩).heap.modify 0 (layObj fcells.toArray)).modify 1 (layObj (flatD 2 (Rows.laid_math_bits_deBruijn64tab (H := Unit))).toArray) }
end Go.Proofs.YtlajdcikhbocdaaDoor

