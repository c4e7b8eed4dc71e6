import Derived.Test.YtifjcknklecdbaaDoorRows
import Derived.WalkKit
import Derived.ProofKit
import Derived.OpenShut
import Derived.Deep.DeepHandedRow
import Derived.Lib.SmallJoins
import Derived.Test.YtifjcknklecdbaaDoorMs00
import Derived.Deep.Matrix
import Derived.LaidLaws
/- What a law's call leaves; arguments that are slices of slices, opened. -/
set_option linter.unusedVariables false
set_option linter.unusedSimpArgs false
set_option maxRecDepth 20000
namespace Go.Proofs.YtifjcknklecdbaaDoor
open Go.Joins Go.ChangeShapes Go.WideShapes Go.ChangeAt Go.RowKit Go.Deep

section
variable {H : Type} {enc : TypeId × Value → H} {P : Program} {w : World} {base : Nat} {spare : Nat → Bool} {held : Bool}
/-- Arguments read as they did where nothing that was there has turned. -/
theorem trodAll_carry (hl : laidOutB P = true) {W W' : World} (hb : Below W.heap.size W W') :
    ∀ (ts : List TypeId) (vs : List Value) (ds : List (DataW H)) (ps : List MemPlace), (∀ t ∈ ts, P.readableRec t = true ∧ t < P.types.size) → DataW.TrodAll enc P W 0 (fun _ => true) true ts vs ds ps → (∀ x ∈ ps, x.block < W.heap.size) →
      DataW.TrodAll enc P W' 0 (fun b => decide (b < W.heap.size)) true ts vs ds ps
  | [], vs, ds, ps, _, h, _ => by
    obtain ⟨rfl, rfl, rfl⟩ := trodAll_nil h
    exact trodAll_mk0
  | t :: ts, vs, ds, ps, hr, h, hlt => by
    obtain ⟨v0, vs0, d0, ds0, p0, q0, rfl, rfl, rfl, h0, r0⟩ := trodAll_cons h
    exact trodAll_cons_mk (Below.trod hl (hr t (by simp)).1 (hr t (by simp)).2 h0 hb (fun x hx => hlt x (by simp [hx])))
      (trodAll_carry hl hb ts vs0 ds0 q0 (fun u hu => hr u (by simp [hu])) r0 (fun x hx => hlt x (by simp [hx])))

/-- What a law's call leaves: true, the arguments as they were. -/
theorem law_post {f : Func} {s : ChangeSpec} {apart : Bool} {W W' : World} {args : Array Value} {ds gs : List (DataW H)} {before : List MemPlace} {tb : TypeId} (hl : laidOutB P = true)
    (hread : f.params.toList.all (fun t => P.readableRec t && decide (t < P.types.size)) = true) (hvars : s.vars = []) (hrt : f.resultTypes = #[tb]) (hub : P.underlying tb = some .bool)
    (hW : DataW.Whole enc P f.params.toList s.vars apart W args.toList ds gs before) (hb : Below W.heap.size W W')
    (hfn : (s.fn H (ds ++ gs)).results = [.lit (.bool true)] ∧ (s.fn H (ds ++ gs)).args = ds ∧ (s.fn H (ds ++ gs)).vars = []) :
    s.post enc P f apart true false false W args (.bool true) W' := by
  have hW' := hW
  obtain ⟨p, q, hA, hV, rfl, _, _⟩ := hW
  have hlt := hW'.lt
  obtain ⟨e1, e2, e3⟩ := hfn
  have hq : q = [] := by
    rw [hvars] at hV
    exact (trodVars_none hV).2
  subst hq
  refine ⟨ds, gs, _, [], p, [], hW', ?_, ?_, ?_, hb.frame _, fun h => by cases h⟩
  · rw [e1, hrt]
    exact trodAll_mk1 (shut_bool hub _)
  · rw [e2]
    refine trodAll_carry hl hb _ _ _ _ (fun t ht => ?_) hA (fun x hx => hlt x (by simp [hx]))
    have := List.all_eq_true.1 hread t ht
    simpa using this
  · rw [hvars, e3]
    rfl
end



theorem add_none (m off j : Nat) : (⟨m, off, none⟩ : Addr).add j = ⟨m, off + j, none⟩ := by unfold Addr.add; split <;> simp_all

theorem cell_plain {w : World} {a : Addr} {v : Value} (h : w.cell? (a.add 0) = some v) : a = ⟨a.block, a.off, none⟩ ∧ a.block < w.heap.size := by
  have e : a.add 0 = a := by unfold Addr.add; simp
  rw [e] at h
  unfold World.cell? at h
  split at h
  · rename_i c t fr hc
    split at h
    · cases h
    · rename_i hs
      refine ⟨?_, ltB hc⟩
      cases a
      simp at hs
      simp [hs]
  · cases h

section
variable {H : Type} {enc : TypeId × Value → H} {w : World} {base : Nat} {held : Bool}
/-- A slice of slices of integers that came in. -/
theorem open_rows {r : Reach} {b0 : Nat} {v : Value} {d : DataW H} {pl : List MemPlace} (hv : Value.okWide Tryd.prog w r b0 47 v) (h : DataW.Trod enc Tryd.prog w base (fun _ => true) held 47 v d pl) : ∃ e : List (List Int), RdR w v e ∧ e.length ≤ 9223372036854775807 := by
  obtain ⟨a, n, c, rfl⟩ := okWide_slice Tryd.underlying47 hv
  obtain ⟨fuel, hf⟩ := h
  rcases open_int_rows Tryd.underlying47 Tryd.underlying46 Tryd.underlying3 (by kernel_rfl) (by kernel_rfl) hf with ⟨e, -⟩ | ⟨a, len, cap, A, L, C, Z, e, -, hl, hcm, -, hx⟩
  · have e := (List.cons.inj e).1
    exact ⟨[], ⟨none, 0, fun _ => .slice none 0 0, e, fun a ha => by simp at ha⟩, by simp⟩
  · have e := (List.cons.inj e).1
    have hlen : ((List.range len).map fun r => (Z r).take (L r)).length = len := by simp
    refine ⟨(List.range len).map fun r => (Z r).take (L r), ⟨some a, cap, fun r => .slice (A r) (L r) (C r), by rw [hlen]; exact e, fun r hr => ?_⟩, by rw [hlen]; unfold maxLen at hcm; omega⟩
    rw [hlen] at hr
    obtain ⟨h1, h2, h3, h4, h5, h6, h7⟩ := hx r (by omega)
    have hg : ((List.range len).map fun r => (Z r).take (L r)).getD r [] = (Z r).take (L r) := by simp [List.getD_eq_getElem?_getD, hr]
    have hzl : ((Z r).take (L r)).length = L r := by rw [List.length_take]; omega
    obtain ⟨p1, p2⟩ := cell_plain (hx 0 (by omega)).1
    refine ⟨⟨a.block, a.off, by rw [← p1], p2, by rw [p1, add_none] at h1; exact h1⟩, ?_⟩
    rw [hg]
    refine ⟨A r, C r, by rw [hzl], fun k hk => ?_⟩
    rw [hzl] at hk
    cases hA : A r with
    | none => have := h6 hA; omega
    | some a' =>
      obtain ⟨_, hc⟩ := h7 a' hA
      obtain ⟨q1, q2⟩ := cell_plain (hc 0 (by omega))
      have hk' := hc k (by omega)
      rw [q1, add_none] at hk'
      refine ⟨a'.block, a'.off, by rw [← q1], q2, ?_⟩
      rw [hk']
      simp only [List.getD_eq_getElem?_getD, List.getElem?_take, if_pos hk]
end
theorem own : ownKnob Tryd.prog.godebug = none := by kernel_rfl
theorem laidOut : laidOutB Tryd.prog = true := by kernel_rfl
noncomputable def bareWorld (os : Os) : World := World.holding Tryd.prog os ⟨#[], #[], []⟩
end Go.Proofs.YtifjcknklecdbaaDoor

/- What a listed package variable of plain data (integers, bools, strings, arrays and structs of such) holds, cell by cell. -/
namespace Go.Proofs.YtifjcknklecdbaaDoor
open Go.RowKit

/-- The cells of plain data. -/
def flatD {H : Type} : Nat → DataW H → List Value
  | 0, _ => []
  | _ + 1, .lit (.int k n) => [.int k n]
  | _ + 1, .lit (.bool b) => [.bool b]
  | _ + 1, .lit (.string s) => [.string ⟨s.toArray⟩]
  | k + 1, .agg ds => ds.flatMap (flatD k)
  | _ + 1, _ => []

/-- Fields that follow one another without a gap, up to the end. -/
def contig (P : Program) (e : Nat) : Nat → List Field → Bool
  | o, [] => o == e
  | o, f :: r => f.offset == o && contig P e (o + P.cellsOf f.type) r

/-- Types of plain data. -/
def plainT (P : Program) : Nat → TypeId → Bool
  | 0, _ => false
  | k + 1, t => match P.underlying t with
    | some (.int _) => true
    | some .bool => true
    | some .string => true
    | some (.array n e) => plainT P k e && P.cellsOf t == n * P.cellsOf e
    | some (.struct fs) => fs.toList.all (fun f => plainT P k f.type) && contig P (P.cellsOf t) 0 fs.toList
    | _ => false

section
variable {H : Type} {enc : TypeId × Value → H} {P : Program} {w : World} {base : Nat} {sp : Nat → Bool} {held : Bool}

theorem flat_fields {k m : Nat} (ih : ∀ (t : TypeId) (cs : List Value) (d : DataW H) (p : List MemPlace), plainT P k t = true → DataW.trod enc P w base sp held m t cs = some (d, p) → cs = flatD k d) (cs : List Value) :
    ∀ (fs : List Field) (xs : List (DataW H × List MemPlace)) (o : Nat), contig P cs.length o fs = true → fs.all (fun f => plainT P k f.type) = true → xs.length = fs.length →
      (∀ (i : Nat) (f : Field), fs[i]? = some f → DataW.trod enc P w base sp held m f.type ((cs.drop f.offset).take (P.cellsOf f.type)) = xs[i]?) → cs.drop o = (xs.map (·.1)).flatMap (flatD k)
  | [], xs, o, hc, _, hl, _ => by
    have : xs = [] := List.length_eq_zero_iff.1 hl
    subst this
    have ho : o = cs.length := by simpa [contig] using hc
    simp [ho]
  | f :: fs, [], o, _, _, hl, _ => by simp at hl
  | f :: fs, x :: xs, o, hc, ha, hl, h => by
    simp only [contig, Bool.and_eq_true, beq_iff_eq] at hc
    simp only [List.all_cons, Bool.and_eq_true] at ha
    have h0 := h 0 f rfl
    simp only [List.getElem?_cons_zero] at h0
    have e0 := ih f.type _ x.1 x.2 ha.1 h0
    have er := flat_fields ih cs fs xs (o + P.cellsOf f.type) hc.2 ha.2 (by simpa using hl) (fun i g hg => by have := h (i + 1) g (by simpa using hg); simpa using this)
    simp only [List.map_cons, List.flatMap_cons]
    rw [← e0, ← er, hc.1, ← List.drop_drop]
    exact (List.take_append_drop _ _).symm

theorem flat_elems {k m e : Nat} (ih : ∀ (t : TypeId) (cs : List Value) (d : DataW H) (p : List MemPlace), plainT P k t = true → DataW.trod enc P w base sp held m t cs = some (d, p) → cs = flatD k d) (hp : plainT P k e = true) (cs : List Value) :
    ∀ (xs : List (DataW H × List MemPlace)) (o : Nat), cs.length = (o + xs.length) * P.cellsOf e →
      (∀ (i : Nat), i < xs.length → DataW.trod enc P w base sp held m e ((cs.drop ((o + i) * P.cellsOf e)).take (P.cellsOf e)) = xs[i]?) → cs.drop (o * P.cellsOf e) = (xs.map (·.1)).flatMap (flatD k)
  | [], o, hl, _ => by
    simp only [List.length_nil, Nat.add_zero] at hl
    simp [← hl]
  | x :: xs, o, hl, h => by
    have h0 := h 0 (by simp)
    simp only [List.getElem?_cons_zero, Nat.add_zero] at h0
    have e0 := ih e _ x.1 x.2 hp h0
    have er := flat_elems ih hp cs xs (o + 1) (by rw [hl]; congr 1; simp; omega) (fun i hi => by have := h (i + 1) (by simpa using hi); rw [show o + 1 + i = o + (i + 1) by omega]; simpa using this)
    simp only [List.map_cons, List.flatMap_cons]
    rw [← e0, ← er, Nat.add_mul, Nat.one_mul, ← List.drop_drop]
    exact (List.take_append_drop _ _).symm

theorem flat_of_trod : ∀ (k m : Nat) (t : TypeId) (cs : List Value) (d : DataW H) (p : List MemPlace), plainT P k t = true → DataW.trod enc P w base sp held m t cs = some (d, p) → cs = flatD k d
  | 0, _, _, _, _, _, hp, _ => by simp [plainT] at hp
  | k + 1, m, t, cs, d, p, hp, h => by
    unfold plainT at hp
    split at hp
    · rename_i kd ht
      obtain ⟨n, rfl, hx, _⟩ := DataW.trod_int ht h
      simp only [Prod.mk.injEq] at hx
      rw [hx.1]; rfl
    · rename_i ht
      obtain ⟨n, rfl, hx⟩ := DataW.trod_bool ht h
      simp only [Prod.mk.injEq] at hx
      rw [hx.1]; rfl
    · rename_i ht
      obtain ⟨s, rfl, hx, _⟩ := DataW.trod_string ht h
      simp only [Prod.mk.injEq] at hx
      rw [hx.1]; simp [flatD]
    · rename_i n e ht
      simp only [Bool.and_eq_true, beq_iff_eq] at hp
      obtain ⟨xs, m', _, hx, hl, hn, hi⟩ := DataW.trod_array ht h
      simp only [Prod.mk.injEq] at hx
      have := flat_elems (fun t cs d p a b => flat_of_trod k m' t cs d p a b) hp.1 cs xs 0 (by rw [hl, hp.2, hn]; simp) (fun i hlt => by simpa using hi i (by omega))
      rw [hx.1]
      simpa [flatD] using this
    · rename_i fs ht
      simp only [Bool.and_eq_true] at hp
      obtain ⟨xs, m', _, hx, hl, hn, hi⟩ := DataW.trod_struct ht h
      simp only [Prod.mk.injEq] at hx
      have := flat_fields (fun t cs d p a b => flat_of_trod k m' t cs d p a b) cs fs.toList xs 0 (by rw [hl]; exact hp.2) hp.1 (by simpa using hn) (fun i f hf => hi i f (by simpa using hf))
      rw [hx.1]
      simpa [flatD] using this
    · cases hp

end

/-- The first listed variable's cells. -/
theorem cells_of_head {P : Program} {W : World} {name : String} {d : DataW Unit} {rest : List (String × DataW Unit)} {g : Nat} {t : TypeId} (k : Nat)
    (hg : P.globalNamed name = some g) (hty : (P.globals[g]?).map (·.type) = some t) (hp : plainT P k t = true) (h : laidMet P ((name, d) :: rest) W) :
    (∃ et fr, W.heap[g]? = some (.cells (flatD k d).toArray et fr)) := by
  obtain ⟨ps, ⟨g', t', cs, fuel, p, q, h1, h2, h3, h4, _, _⟩, _, _⟩ := h
  obtain rfl : g' = g := Option.some.inj (h1.symm.trans hg)
  obtain rfl : t' = t := Option.some.inj (h2.symm.trans hty)
  have e := flat_of_trod k fuel t' cs.toList d p hp h4
  unfold World.var? at h3
  rw [hg] at h3
  simp only [Option.bind_some] at h3
  split at h3
  · rename_i c et fr hh
    simp only [Option.some.injEq] at h3
    subst h3
    exact ⟨et, fr, by rw [hh, ← e]⟩
  · cases h3

end Go.Proofs.YtifjcknklecdbaaDoor

