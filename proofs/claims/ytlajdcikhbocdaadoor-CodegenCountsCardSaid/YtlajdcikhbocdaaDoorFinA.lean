/- What a law's call leaves; arguments that are slices of slices, opened. -/
import Derived.Test.YtlajdcikhbocdaaDoorRows
import Derived.WalkKit
import Derived.ProofKit
import Derived.OpenShut
import Derived.Deep.DeepHandedRow
import Derived.Lib.SmallJoins
import Derived.Test.YtlajdcikhbocdaaDoorRegC
import Derived.Deep.Matrix
set_option linter.unusedVariables false
set_option linter.unusedSimpArgs false
set_option maxRecDepth 20000
namespace Go.Proofs.YtlajdcikhbocdaaDoor
open Go.Joins Go.ChangeShapes Go.WideShapes Go.ChangeAt Go.RowKit Go.Deep

section
variable {H : Type} {enc : TypeId × Value → H} {P : Program} {w : World} {base : Nat} {spare : Nat → Bool} {held : Bool}
/-- Arguments read as they did where nothing that was there has turned. -/
theorem trodAll_carry (hl : laidOutB P = true) {W W' : World} (hb : Below W.heap.size W W') :
    ∀ (ts : List TypeId) (vs : List Value) (ds : List (DataW H)) (ps : List MemPlace), (∀ t ∈ ts, P.readableRec t = true ∧ t < P.types.size) → DataW.TrodAll enc P W 0 (fun _ => true) true ts vs ds ps → (∀ x ∈ ps, x.block < W.heap.size) →
      DataW.TrodAll enc P W' 0 (fun b => decide (b < W.heap.size)) true ts vs ds ps
  | [], vs, ds, ps, _, h, _ => by
    obtain ⟨rfl, rfl, rfl⟩ := trodAll_nil h
    exact trodAll_mk0
  | t :: ts, vs, ds, ps, hr, h, hlt => by
    obtain ⟨v0, vs0, d0, ds0, p0, q0, rfl, rfl, rfl, h0, r0⟩ := trodAll_cons h
    exact trodAll_cons_mk (Below.trod hl (hr t (by simp)).1 (hr t (by simp)).2 h0 hb (fun x hx => hlt x (by simp [hx])))
      (trodAll_carry hl hb ts vs0 ds0 q0 (fun u hu => hr u (by simp [hu])) r0 (fun x hx => hlt x (by simp [hx])))

/-- What a law's call leaves: true, the arguments as they were. -/
theorem law_post {f : Func} {s : ChangeSpec} {apart : Bool} {W W' : World} {args : Array Value} {ds gs : List (DataW H)} {before : List MemPlace} {tb : TypeId} (hl : laidOutB P = true)
    (hread : f.params.toList.all (fun t => P.readableRec t && decide (t < P.types.size)) = true) (hvars : s.vars = []) (hrt : f.resultTypes = #[tb]) (hub : P.underlying tb = some .bool)
    (hW : DataW.Whole enc P f.params.toList s.vars apart W args.toList ds gs before) (hb : Below W.heap.size W W')
    (hfn : (s.fn H (ds ++ gs)).results = [.lit (.bool true)] ∧ (s.fn H (ds ++ gs)).args = ds ∧ (s.fn H (ds ++ gs)).vars = []) :
    s.post enc P f apart true false false W args (.bool true) W' := by
  have hW' := hW
  obtain ⟨p, q, hA, hV, rfl, _, _⟩ := hW
  have hlt := hW'.lt
  obtain ⟨e1, e2, e3⟩ := hfn
  have hq : q = [] := by
    rw [hvars] at hV
    exact (trodVars_none hV).2
  subst hq
  refine ⟨ds, gs, _, [], p, [], hW', ?_, ?_, ?_, hb.frame _, fun h => by cases h⟩
  · rw [e1, hrt]
    exact trodAll_mk1 (shut_bool hub _)
  · rw [e2]
    refine trodAll_carry hl hb _ _ _ _ (fun t ht => ?_) hA (fun x hx => hlt x (by simp [hx]))
    have := List.all_eq_true.1 hread t ht
    simpa using this
  · rw [hvars, e3]
    rfl
end



theorem add_none (m off j : Nat) : (⟨m, off, none⟩ : Addr).add j = ⟨m, off + j, none⟩ := by unfold Addr.add; split <;> simp_all

theorem cell_plain {w : World} {a : Addr} {v : Value} (h : w.cell? (a.add 0) = some v) : a = ⟨a.block, a.off, none⟩ ∧ a.block < w.heap.size := by
  have e : a.add 0 = a := by unfold Addr.add; simp
  rw [e] at h
  unfold World.cell? at h
  split at h
  · rename_i c t fr hc
    split at h
    · cases h
    · rename_i hs
      refine ⟨?_, ltB hc⟩
      cases a
      simp at hs
      simp [hs]
  · cases h

section
variable {H : Type} {enc : TypeId × Value → H} {w : World} {base : Nat} {held : Bool}
/-- A slice of slices of integers that came in. -/
theorem open_rows {r : Reach} {b0 : Nat} {v : Value} {d : DataW H} {pl : List MemPlace} (hv : Value.okWide Tryd.prog w r b0 88 v) (h : DataW.Trod enc Tryd.prog w base (fun _ => true) held 88 v d pl) : ∃ e : List (List Int), RdR w v e ∧ e.length ≤ 9223372036854775807 := by
  obtain ⟨a, n, c, rfl⟩ := okWide_slice Tryd.underlying88 hv
  obtain ⟨fuel, hf⟩ := h
  rcases open_int_rows Tryd.underlying88 Tryd.underlying37 Tryd.underlying3 (by kernel_rfl) (by kernel_rfl) hf with ⟨e, -⟩ | ⟨a, len, cap, A, L, C, Z, e, -, hl, hcm, -, hx⟩
  · have e := (List.cons.inj e).1
    exact ⟨[], ⟨none, 0, fun _ => .slice none 0 0, e, fun a ha => by simp at ha⟩, by simp⟩
  · have e := (List.cons.inj e).1
    have hlen : ((List.range len).map fun r => (Z r).take (L r)).length = len := by simp
    refine ⟨(List.range len).map fun r => (Z r).take (L r), ⟨some a, cap, fun r => .slice (A r) (L r) (C r), by rw [hlen]; exact e, fun r hr => ?_⟩, by rw [hlen]; unfold maxLen at hcm; omega⟩
    rw [hlen] at hr
    obtain ⟨h1, h2, h3, h4, h5, h6, h7⟩ := hx r (by omega)
    have hg : ((List.range len).map fun r => (Z r).take (L r)).getD r [] = (Z r).take (L r) := by simp [List.getD_eq_getElem?_getD, hr]
    have hzl : ((Z r).take (L r)).length = L r := by rw [List.length_take]; omega
    obtain ⟨p1, p2⟩ := cell_plain (hx 0 (by omega)).1
    refine ⟨⟨a.block, a.off, by rw [← p1], p2, by rw [p1, add_none] at h1; exact h1⟩, ?_⟩
    rw [hg]
    refine ⟨A r, C r, by rw [hzl], fun k hk => ?_⟩
    rw [hzl] at hk
    cases hA : A r with
    | none => have := h6 hA; omega
    | some a' =>
      obtain ⟨_, hc⟩ := h7 a' hA
      obtain ⟨q1, q2⟩ := cell_plain (hc 0 (by omega))
      have hk' := hc k (by omega)
      rw [q1, add_none] at hk'
      refine ⟨a'.block, a'.off, by rw [← q1], q2, ?_⟩
      rw [hk']
      simp only [List.getD_eq_getElem?_getD, List.getElem?_take, if_pos hk]
end
theorem own : ownKnob Tryd.prog.godebug = none := by kernel_rfl
theorem laidOut : laidOutB Tryd.prog = true := by kernel_rfl
noncomputable def bareWorld (os : Os) : World := World.holding Tryd.prog os ⟨#[], #[], []⟩
end Go.Proofs.YtlajdcikhbocdaaDoor
