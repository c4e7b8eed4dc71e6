/- Arguments that are images, opened. -/
import Derived.Test.YtepldfnplfhncaaDoorLinB
import Derived.Test.YtepldfnplfhncaaDoorFin
set_option linter.unusedVariables false
set_option linter.unusedSimpArgs false
namespace Go.Proofs.YtepldfnplfhncaaDoor
open Go.Joins Go.ChangeShapes Go.WideShapes Go.ChangeAt Go.RowKit Go.Deep

section
variable {H : Type} {enc : TypeId × Value → H} {w : World} {held : Bool} {spare : Nat → Bool}

theorem add_none (m off j : Nat) : (⟨m, off, none⟩ : Addr).add j = ⟨m, off + j, none⟩ := by unfold Addr.add; split <;> simp_all

theorem cell_plain {a : Addr} {v : Value} (h : w.cell? (a.add 0) = some v) : a = ⟨a.block, a.off, none⟩ ∧ a.block < w.heap.size := by
  have e : a.add 0 = a := by unfold Addr.add; simp
  rw [e] at h
  unfold World.cell? at h
  split at h
  · rename_i c t fr hc
    split at h
    · cases h
    · rename_i hs
      refine ⟨?_, lt_of_block hc⟩
      cases a
      simp at hs
      simp [hs]
  · cases h

/-- A slice of code words. -/
theorem open_code {fuel : Nat} {cs : List Value} {x : DataW H × List MemPlace} (h : DataW.trod enc Tryd.prog w 0 spare held fuel 22 cs = some x) :
    ∃ (p : Option Addr) (cap : Nat) (d : List Int), cs = [.slice p d.length cap] ∧ (d = [] ∨ ∃ cb co, p = some ⟨cb, co, none⟩ ∧ cb < w.heap.size ∧ ∀ k, k < d.length → w.cell? ⟨cb, co + k, none⟩ = some (.int .u32 (d.getD k 0))) ∧ ∀ k, k < d.length → 0 ≤ d.getD k 0 ∧ d.getD k 0 < 4294967296 := by
  rcases DataW.trod_slice Tryd.underlying22 h with ⟨rfl, rfl⟩ | ⟨a, len, cap, elems, rest, n, rfl, rfl, rfl, hb, hl, hm, hel, hc, _, _⟩
  · exact ⟨none, 0, [], rfl, .inl rfl, fun k hk => by simp at hk⟩
  · have hcell : ∀ i, i < len → ∃ n : Int, w.cell? (a.add i) = some (.int .u32 n) ∧ 0 ≤ n ∧ n < 4294967296 := by
      intro i hi
      have h1 := hc i hi
      rw [show Tryd.prog.cellsOf 73 = 1 by kernel_rfl, Nat.mul_one] at h1
      rw [List.getElem?_eq_getElem (by omega)] at h1
      obtain ⟨cs', h2, h3⟩ := Option.bind_eq_some_iff.1 h1
      obtain ⟨n, rfl, _, hwf⟩ := DataW.trod_int Tryd.underlying73 h3
      obtain ⟨_, _, hat⟩ := World.cells?_some h2
      have h4 := hat 0 (by omega)
      have hw := bounds_u32 hwf
      refine ⟨n, ?_, hw.1, by omega⟩
      simpa [Addr.add] using h4
    let f : Nat → Int := fun i => match w.cell? (a.add i) with | some (.int _ n) => n | _ => 0
    have hf : ∀ i, i < len → w.cell? (a.add i) = some (.int .u32 (f i)) ∧ 0 ≤ f i ∧ f i < 4294967296 := by
      intro i hi
      obtain ⟨n, h1, h2⟩ := hcell i hi
      have : f i = n := by simp only [f, h1]
      rw [this]
      exact ⟨h1, h2⟩
    have hd : ((List.range len).map f).length = len := by simp
    have hg : ∀ i, i < len → ((List.range len).map f).getD i 0 = f i := by
      intro i hi
      simp [List.getD_eq_getElem?_getD, hi]
    refine ⟨some a, cap, (List.range len).map f, by rw [hd], ?_, fun k hk => ?_⟩
    · by_cases h0 : len = 0
      · left; subst h0; rfl
      · right
        obtain ⟨ha, hlt⟩ := cell_plain (hf 0 (by omega)).1
        refine ⟨a.block, a.off, by rw [← ha], hlt, fun k hk => ?_⟩
        rw [hd] at hk
        have h1 := (hf k hk).1
        rw [ha, add_none] at h1
        rw [hg k hk]
        exact h1
    · rw [hd] at hk
      rw [hg k hk]
      exact (hf k hk).2

theorem add_add (a : Addr) (i j : Nat) : (a.add i).add j = a.add (i + j) := by
  unfold Addr.add
  by_cases hi : i = 0 <;> by_cases hj : j = 0 <;> simp [hi, hj, Nat.add_assoc]

set_option maxRecDepth 20000 in
/-- A slice of entries. -/
theorem open_ents {fuel : Nat} {cs : List Value} {x : DataW H × List MemPlace} (h : DataW.trod enc Tryd.prog w 0 spare held fuel 23 cs = some x) :
    ∃ (p : Option Addr) (cap : Nat) (d : List LEn), cs = [.slice p d.length cap] ∧ (d = [] ∨ ∃ eb eo, p = some ⟨eb, eo, none⟩ ∧ eb < w.heap.size ∧ ∀ k, k < d.length → w.cell? ⟨eb, eo + k * 4, none⟩ = some (.string (d.getD k default).nm) ∧
      w.cell? ⟨eb, eo + k * 4 + 1, none⟩ = some (.int .i64 (d.getD k default).st) ∧ w.cell? ⟨eb, eo + k * 4 + 2, none⟩ = some (.int .i64 (d.getD k default).fin) ∧ w.cell? ⟨eb, eo + k * 4 + 3, none⟩ = some (.int .i64 (d.getD k default).dat)) := by
  rcases DataW.trod_slice Tryd.underlying23 h with ⟨rfl, rfl⟩ | ⟨a, len, cap, elems, rest, n, rfl, rfl, rfl, hb, hl, hm, hel, hc, _, _⟩
  · exact ⟨none, 0, [], rfl, .inl rfl⟩
  · have e64 : Tryd.prog.cellsOf 3 = 1 := by kernel_rfl
    have eS : Tryd.prog.cellsOf 9 = 1 := by kernel_rfl
    have hcell : ∀ i, i < len → ∃ x : LEn, w.cell? (a.add (i * 4)) = some (.string x.nm) ∧ w.cell? (a.add (i * 4 + 1)) = some (.int .i64 x.st) ∧ w.cell? (a.add (i * 4 + 2)) = some (.int .i64 x.fin) ∧ w.cell? (a.add (i * 4 + 3)) = some (.int .i64 x.dat) := by
      intro i hi
      have h1 := hc i hi
      rw [show Tryd.prog.cellsOf 61 = 4 by kernel_rfl] at h1
      rw [List.getElem?_eq_getElem (by omega)] at h1
      obtain ⟨cs', h2, h3⟩ := Option.bind_eq_some_iff.1 h1
      obtain ⟨_, hlc, hat⟩ := World.cells?_some h2
      match cs', hlc with
      | [c0, c1, c2, c3], _ =>
        obtain ⟨ys, m, _, _, _, hyl, hg⟩ := DataW.trod_struct Tryd.underlying61 h3
        have g0 : DataW.trod enc Tryd.prog w 0 spare held m 9 (([c0, c1, c2, c3].drop 0).take (Tryd.prog.cellsOf 9)) = ys[0]? := hg 0 _ rfl
        have g1 : DataW.trod enc Tryd.prog w 0 spare held m 3 (([c0, c1, c2, c3].drop 1).take (Tryd.prog.cellsOf 3)) = ys[1]? := hg 1 _ rfl
        have g2 : DataW.trod enc Tryd.prog w 0 spare held m 3 (([c0, c1, c2, c3].drop 2).take (Tryd.prog.cellsOf 3)) = ys[2]? := hg 2 _ rfl
        have g3 : DataW.trod enc Tryd.prog w 0 spare held m 3 (([c0, c1, c2, c3].drop 3).take (Tryd.prog.cellsOf 3)) = ys[3]? := hg 3 _ rfl
        have hx : ys.length = 4 := hyl
        rw [List.getElem?_eq_getElem (by omega)] at g0 g1 g2 g3
        rw [eS] at g0
        rw [e64] at g1 g2 g3
        obtain ⟨nm, e0, -, -⟩ := DataW.trod_string Tryd.underlying9 g0
        obtain ⟨s1, e1, -, -⟩ := DataW.trod_int Tryd.underlying3 g1
        obtain ⟨s2, e2, -, -⟩ := DataW.trod_int Tryd.underlying3 g2
        obtain ⟨s3, e3, -, -⟩ := DataW.trod_int Tryd.underlying3 g3
        obtain rfl := (List.cons.inj e0).1
        obtain rfl := (List.cons.inj e1).1
        obtain rfl := (List.cons.inj e2).1
        obtain rfl := (List.cons.inj e3).1
        refine ⟨⟨nm, s1, s2, s3⟩, ?_, ?_, ?_, ?_⟩
        · have := hat 0 (by omega); rw [add_add] at this; simpa using this
        · have := hat 1 (by omega); rw [add_add] at this; simpa using this
        · have := hat 2 (by omega); rw [add_add] at this; simpa using this
        · have := hat 3 (by omega); rw [add_add] at this; simpa using this
    have hch : ∃ f : Nat → LEn, ∀ i, i < len → w.cell? (a.add (i * 4)) = some (.string (f i).nm) ∧ w.cell? (a.add (i * 4 + 1)) = some (.int .i64 (f i).st) ∧ w.cell? (a.add (i * 4 + 2)) = some (.int .i64 (f i).fin) ∧ w.cell? (a.add (i * 4 + 3)) = some (.int .i64 (f i).dat) := by
      refine ⟨fun i => if hi : i < len then (hcell i hi).choose else default, fun i hi => ?_⟩
      simp only [hi, dite_true]
      exact (hcell i hi).choose_spec
    obtain ⟨f, hf⟩ := hch
    have hd : ((List.range len).map f).length = len := by simp
    have hg : ∀ i, i < len → ((List.range len).map f).getD i default = f i := by
      intro i hi
      simp [List.getD_eq_getElem?_getD, hi]
    refine ⟨some a, cap, (List.range len).map f, by rw [hd], ?_⟩
    by_cases h0 : len = 0
    · left; subst h0; rfl
    · right
      obtain ⟨ha, hlt⟩ := cell_plain (by simpa using (hf 0 (by omega)).1)
      refine ⟨a.block, a.off, by rw [← ha], hlt, fun k hk => ?_⟩
      rw [hd] at hk
      have h1 := hf k hk
      rw [ha] at h1
      simp only [add_none] at h1
      rw [hg k hk]
      exact h1

set_option maxRecDepth 20000 in
/-- An image. -/
theorem open_limage {r : Reach} {b0 : Nat} {v : Value} {d : DataW H} {pl : List MemPlace} (hv : Value.okWide Tryd.prog w r b0 25 v) (h : DataW.Trod enc Tryd.prog w 0 spare held 25 v d pl) :
    ∃ (cv ev : Value) (im : LIm), v = .agg #[cv, ev, .int .i64 im.sh, .int .i64 im.lk] ∧ LImAt w cv ev im := by
  obtain ⟨cs, rfl, hsz⟩ := okWide_struct Tryd.underlying25 hv
  obtain ⟨l⟩ := cs
  have e64 : Tryd.prog.cellsOf 3 = 1 := by kernel_rfl
  have eC : Tryd.prog.cellsOf 22 = 1 := by kernel_rfl
  have eE : Tryd.prog.cellsOf 23 = 1 := by kernel_rfl
  match l, hsz.trans (show Tryd.prog.cellsOf 25 = 4 by kernel_rfl) with
  | [c0, c1, c2, c3], _ =>
    obtain ⟨fuel, hf⟩ := h
    obtain ⟨xs, n, _, _, _, hlen, hg⟩ := DataW.trod_struct Tryd.underlying25 hf
    have h0 := hg 0 _ rfl
    have h1 := hg 1 _ rfl
    have h2 := hg 2 _ rfl
    have h3 := hg 3 _ rfl
    have hx : xs.length = 4 := hlen
    rw [List.getElem?_eq_getElem (by omega)] at h0 h1 h2 h3
    simp only [Value.cells, e64, eC, eE, List.drop_succ_cons, List.drop_zero, List.take_succ_cons, List.take_zero] at h0 h1 h2 h3
    obtain ⟨cp, ccap, code, e0, hc, hw⟩ := open_code h0
    obtain ⟨ep, ecap, ents, e1, he⟩ := open_ents h1
    obtain ⟨sh, e2, -, -⟩ := DataW.trod_int Tryd.underlying3 h2
    obtain ⟨lk, e3, -, -⟩ := DataW.trod_int Tryd.underlying3 h3
    obtain rfl := (List.cons.inj e0).1
    obtain rfl := (List.cons.inj e1).1
    obtain rfl := (List.cons.inj e2).1
    obtain rfl := (List.cons.inj e3).1
    refine ⟨_, _, ⟨code, ents, sh, lk⟩, rfl, ⟨⟨cp, ccap, rfl, fun k hk => ?_⟩, ⟨ep, ecap, rfl, fun k hk => ?_⟩, hw⟩⟩
    · rcases hc with hc | ⟨cb, co, hp, hcb, hc⟩
      · have hk' : k < code.length := hk
        rw [hc] at hk'; simp at hk'
      · exact ⟨cb, co, hp, hcb, hc k hk⟩
    · rcases he with he | ⟨eb, eo, hp, heb, he⟩
      · have hk' : k < ents.length := hk
        rw [he] at hk'; simp at hk'
      · obtain ⟨a0, a1, a2, a3⟩ := he k hk
        exact ⟨eb, eo, hp, heb, a0, a1, a2, a3⟩
end
end Go.Proofs.YtepldfnplfhncaaDoor
