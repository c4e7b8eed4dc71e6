/- For every list of shared objects, every list of objects, every task and every memory: alone, a task sends the same values, takes the same number of steps and leaves the same private data, registers and shared memory as linked with the others: ontimelaw22.LinkerAlone returns true for every input. No conditions but the card's own (the tables formats and operators as their initialisers lay them). -/
import Derived.Test.YtpachmkklppmjaaDoorFin
import Derived.Test.YtpachmkklppmjaaDoorLkZ
set_option linter.unusedVariables false
set_option linter.unusedSimpArgs false
namespace Go.Proofs.YtpachmkklppmjaaDoor
open Go.Joins Go.ChangeShapes Go.WideShapes Go.ChangeAt Go.RowKit Go.Deep
set_option maxRecDepth 20000

theorem laidMet_tail {P : Program} {w : World} {x : String × DataW Unit} {rest : List (String × DataW Unit)} (h : laidMet P (x :: rest) w) : laidMet P rest w := by
  obtain ⟨ps, hv, hn, hh⟩ := h
  obtain ⟨nm, d⟩ := x
  obtain ⟨g, t, cs, fuel, p, q, h1, h2, h3, h4, h5, h6⟩ := hv
  subst h6
  exact ⟨q, h5, (List.nodup_append.1 hn).2.1, fun b off hm => hh b off (by simp [hm])⟩
theorem otab_of_laid {w : World} {nm : String} {x : String × DataW Unit} (hg : Tryd.prog.globalNamed nm = some 1) (h : laidMet Tryd.prog [x, (nm, Rows.laid_ontime_core_operators)] w) : OTab w := by
  obtain ⟨et, fr, hc⟩ := cells_of_head (g := 1) (t := 114) 2 hg (by kernel_rfl) (by kernel_rfl) (laidMet_tail h)
  refine ⟨?_, fun i _ => ?_⟩
  · rcases Nat.lt_or_ge 1 w.heap.size with h | h
    · exact h
    · rw [Array.getElem?_eq_none (by omega)] at hc; cases hc
  · unfold World.cell?
    rw [hc]
    simp
section
variable {H : Type} {enc : TypeId × Value → H} {w : World} {base : Nat} {held : Bool} {spare : Nat → Bool}
theorem add_none (m off j : Nat) : (⟨m, off, none⟩ : Addr).add j = ⟨m, off + j, none⟩ := by unfold Addr.add; split <;> simp_all
theorem add_add (a : Addr) (i j : Nat) : (a.add i).add j = a.add (i + j) := by
  unfold Addr.add
  by_cases hi : i = 0 <;> by_cases hj : j = 0 <;> simp [hi, hj, Nat.add_assoc]
theorem cell_plain {a : Addr} {v : Value} (h : w.cell? (a.add 0) = some v) : a = ⟨a.block, a.off, none⟩ ∧ a.block < w.heap.size := by
  have e : a.add 0 = a := by unfold Addr.add; simp
  rw [e] at h
  unfold World.cell? at h
  split at h
  · rename_i c t fr hc
    split at h
    · cases h
    · rename_i hs
      refine ⟨?_, lt_of_block hc⟩
      cases a
      simp at hs
      simp [hs]
  · cases h
theorem open_words {fuel : Nat} {cs : List Value} {x : DataW H × List MemPlace} (h : DataW.trod enc Tryd.prog w 0 spare held fuel 24 cs = some x) :
    ∃ (p : Option Addr) (cap : Nat) (d : List Int), cs = [.slice p d.length cap] ∧ RdAt w (.slice p d.length cap) d ∧ (∀ j, W32 (d.getD j 0)) ∧ (∀ c, Value.slice p d.length cap = .slice none 0 c → c = 0) := by
  rcases DataW.trod_slice Tryd.underlying24 h with ⟨rfl, rfl⟩ | ⟨a, len, cap, elems, rest, n, rfl, rfl, rfl, hb, hl, hm, hel, hc, _, _⟩
  · exact ⟨none, 0, [], rfl, ⟨none, 0, rfl, fun k hk => by simp at hk⟩, fun j => by simp; exact ⟨by omega, by omega⟩, fun c h => by injection h with _ _ h; exact h.symm⟩
  · have hcell : ∀ i, i < len → ∃ n : Int, w.cell? (a.add i) = some (.int .i32 n) ∧ W32 n := by
      intro i hi
      have h1 := hc i hi
      rw [show Tryd.prog.cellsOf 21 = 1 by kernel_rfl, Nat.mul_one] at h1
      rw [List.getElem?_eq_getElem (by omega)] at h1
      obtain ⟨cs', h2, h3⟩ := Option.bind_eq_some_iff.1 h1
      obtain ⟨n, rfl, _, hwf⟩ := DataW.trod_int Tryd.underlying21 h3
      obtain ⟨_, _, hat⟩ := World.cells?_some h2
      have h4 := hat 0 (by omega)
      have hw := bounds_i32 hwf
      refine ⟨n, ?_, hw⟩
      simpa [Addr.add] using h4
    let f : Nat → Int := fun i => match w.cell? (a.add i) with | some (.int _ n) => n | _ => 0
    have hf : ∀ i, i < len → w.cell? (a.add i) = some (.int .i32 (f i)) ∧ W32 (f i) := by
      intro i hi
      obtain ⟨n, h1, h2⟩ := hcell i hi
      have : f i = n := by simp only [f, h1]
      rw [this]
      exact ⟨h1, h2⟩
    have hd : ((List.range len).map f).length = len := by simp
    have hg : ∀ i, i < len → ((List.range len).map f).getD i 0 = f i := by
      intro i hi
      simp [List.getD_eq_getElem?_getD, hi]
    refine ⟨some a, cap, (List.range len).map f, by rw [hd], ⟨some a, cap, rfl, fun k hk => ?_⟩, fun j => ?_, fun c h => by cases h⟩
    · rw [hd] at hk
      have h1 := (hf k hk).1
      have h0 := (hf 0 (by omega)).1
      obtain ⟨ha, hlt⟩ := cell_plain h0
      rw [ha, add_none] at h1
      rw [hg k hk]
      exact ⟨a.block, a.off, by rw [← ha], hlt, h1⟩
    · by_cases hj : j < len
      · rw [hg j hj]; exact (hf j hj).2
      · rw [List.getD_eq_getElem?_getD, List.getElem?_eq_none (by rw [hd]; omega)]
        exact ⟨by simp, by simp⟩
/-- A slice of machine instructions that came in. -/
theorem open_gs {fuel : Nat} {cs : List Value} {x : DataW H × List MemPlace} (h : DataW.trod enc Tryd.prog w base spare held fuel 35 cs = some x) :
    ∃ (v : Value) (d : List GI), cs = [v] ∧ GsRd w v d := by
  rcases DataW.trod_slice Tryd.underlying35 h with ⟨rfl, rfl⟩ | ⟨a, len, cap, elems, rest, n, rfl, rfl, rfl, hb, hl, hm, hel, hc, _, _⟩
  · exact ⟨_, [], rfl, GsRd.nil _⟩
  · have e64 : Tryd.prog.cellsOf 3 = 1 := by kernel_rfl
    have e8 : Tryd.prog.cellsOf 5 = 1 := by kernel_rfl
    have hcell : ∀ i, i < len → ∃ x : GI, w.cell? (a.add (i * 5)) = some (.int .u8 x.op) ∧ w.cell? (a.add (i * 5 + 1)) = some (.int .i64 x.a) ∧ w.cell? (a.add (i * 5 + 2)) = some (.int .i64 x.b) ∧ w.cell? (a.add (i * 5 + 3)) = some (.int .i64 x.c) ∧ w.cell? (a.add (i * 5 + 4)) = some (.int .i64 x.imm) := by
      intro i hi
      have h1 := hc i hi
      rw [show Tryd.prog.cellsOf 51 = 5 by kernel_rfl] at h1
      rw [List.getElem?_eq_getElem (by omega)] at h1
      obtain ⟨cs', h2, h3⟩ := Option.bind_eq_some_iff.1 h1
      obtain ⟨_, hlc, hat⟩ := World.cells?_some h2
      match cs', hlc with
      | [c0, c1, c2, c3, c4], _ =>
        obtain ⟨ys, m, _, _, _, hyl, hg⟩ := DataW.trod_struct Tryd.underlying51 h3
        have g0 : DataW.trod enc Tryd.prog w base spare held m 5 (([c0, c1, c2, c3, c4].drop 0).take (Tryd.prog.cellsOf 5)) = ys[0]? := hg 0 _ rfl
        have g1 : DataW.trod enc Tryd.prog w base spare held m 3 (([c0, c1, c2, c3, c4].drop 1).take (Tryd.prog.cellsOf 3)) = ys[1]? := hg 1 _ rfl
        have g2 : DataW.trod enc Tryd.prog w base spare held m 3 (([c0, c1, c2, c3, c4].drop 2).take (Tryd.prog.cellsOf 3)) = ys[2]? := hg 2 _ rfl
        have g3 : DataW.trod enc Tryd.prog w base spare held m 3 (([c0, c1, c2, c3, c4].drop 3).take (Tryd.prog.cellsOf 3)) = ys[3]? := hg 3 _ rfl
        have g4 : DataW.trod enc Tryd.prog w base spare held m 3 (([c0, c1, c2, c3, c4].drop 4).take (Tryd.prog.cellsOf 3)) = ys[4]? := hg 4 _ rfl
        have hx : ys.length = 5 := hyl
        rw [List.getElem?_eq_getElem (by omega)] at g0 g1 g2 g3 g4
        rw [e8] at g0
        rw [e64] at g1 g2 g3 g4
        obtain ⟨s0, e0, -, w0⟩ := DataW.trod_int Tryd.underlying5 g0
        obtain ⟨s1, e1, -, -⟩ := DataW.trod_int Tryd.underlying3 g1
        obtain ⟨s2, e2, -, -⟩ := DataW.trod_int Tryd.underlying3 g2
        obtain ⟨s3, e3, -, -⟩ := DataW.trod_int Tryd.underlying3 g3
        obtain ⟨s4, e4, -, -⟩ := DataW.trod_int Tryd.underlying3 g4
        obtain rfl := (List.cons.inj e0).1
        obtain rfl := (List.cons.inj e1).1
        obtain rfl := (List.cons.inj e2).1
        obtain rfl := (List.cons.inj e3).1
        obtain rfl := (List.cons.inj e4).1
        have b0 := bounds_u8 w0
        have ex : ((s0.toNat : Nat) : Int) = s0 := by omega
        refine ⟨⟨s0.toNat, s1, s2, s3, s4⟩, ?_, ?_, ?_, ?_, ?_⟩
        · have := hat 0 (by omega); rw [add_add] at this; rw [ex]; simpa using this
        · have := hat 1 (by omega); rw [add_add] at this; simpa using this
        · have := hat 2 (by omega); rw [add_add] at this; simpa using this
        · have := hat 3 (by omega); rw [add_add] at this; simpa using this
        · have := hat 4 (by omega); rw [add_add] at this; simpa using this
    have hch : ∃ f : Nat → GI, ∀ i, i < len → w.cell? (a.add (i * 5)) = some (.int .u8 (f i).op) ∧ w.cell? (a.add (i * 5 + 1)) = some (.int .i64 (f i).a) ∧ w.cell? (a.add (i * 5 + 2)) = some (.int .i64 (f i).b) ∧ w.cell? (a.add (i * 5 + 3)) = some (.int .i64 (f i).c) ∧ w.cell? (a.add (i * 5 + 4)) = some (.int .i64 (f i).imm) := by
      refine ⟨fun i => if hi : i < len then (hcell i hi).choose else default, fun i hi => ?_⟩
      simp only [hi, dite_true]
      exact (hcell i hi).choose_spec
    obtain ⟨f, hf⟩ := hch
    have hd : ((List.range len).map f).length = len := by simp
    have hg : ∀ i, i < len → ((List.range len).map f).getD i default = f i := by
      intro i hi
      simp [List.getD_eq_getElem?_getD, hi]
    by_cases hl0 : len = 0
    · subst hl0
      exact ⟨_, [], rfl, ⟨some a, cap, rfl, .inl rfl⟩⟩
    obtain ⟨ha, hlt⟩ := cell_plain (by simpa using (hf 0 (by omega)).1)
    refine ⟨_, (List.range len).map f, rfl, ⟨some a, cap, by rw [hd], .inr ⟨a.block, a.off, by rw [← ha], hlt, fun j u hj => ?_⟩⟩⟩
    have hjl : j < len * 5 := by
      obtain ⟨h, _⟩ := List.getElem?_eq_some_iff.1 hj
      rw [codeV_len, hd] at h; exact h
    have hk : j / 5 < len := by omega
    have hj5 := codeV_at ((List.range len).map f) (j / 5) (by rw [hd]; exact hk) (j % 5) (Nat.mod_lt _ (by decide))
    rw [show j / 5 * 5 + j % 5 = j by omega, hg _ hk] at hj5
    rw [hj5] at hj
    obtain ⟨q0, q1, q2, q3, q4⟩ := hf (j / 5) hk
    rw [ha] at q0 q1 q2 q3 q4
    simp only [add_none] at q0 q1 q2 q3 q4
    have hm5 : j % 5 = 0 ∨ j % 5 = 1 ∨ j % 5 = 2 ∨ j % 5 = 3 ∨ j % 5 = 4 := by omega
    rcases hm5 with e | e | e | e | e
    · rw [e] at hj
      have hj : some (Value.int .u8 (f (j / 5)).op) = some u := hj
      rw [show j / 5 * 5 = j by omega] at q0
      rw [← hj]; exact q0
    · rw [e] at hj
      have hj : some (Value.int .i64 (f (j / 5)).a) = some u := hj
      rw [show j / 5 * 5 + 1 = j by omega] at q1
      rw [← hj]; exact q1
    · rw [e] at hj
      have hj : some (Value.int .i64 (f (j / 5)).b) = some u := hj
      rw [show j / 5 * 5 + 2 = j by omega] at q2
      rw [← hj]; exact q2
    · rw [e] at hj
      have hj : some (Value.int .i64 (f (j / 5)).c) = some u := hj
      rw [show j / 5 * 5 + 3 = j by omega] at q3
      rw [← hj]; exact q3
    · rw [e] at hj
      have hj : some (Value.int .i64 (f (j / 5)).imm) = some u := hj
      rw [show j / 5 * 5 + 4 = j by omega] at q4
      rw [← hj]; exact q4
/-- A slice of references that came in. -/
theorem open_refs {fuel : Nat} {cs : List Value} {x : DataW H × List MemPlace} (h : DataW.trod enc Tryd.prog w base spare held fuel 36 cs = some x) :
    ∃ (v : Value) (d : List GR), cs = [v] ∧ RfRd w v d ∧ ∀ k, k < d.length → (d.getD k default).nm.size ≤ maxLen := by
  rcases DataW.trod_slice Tryd.underlying36 h with ⟨rfl, rfl⟩ | ⟨a, len, cap, elems, rest, n, rfl, rfl, rfl, hb, hl, hm, hel, hc, _, _⟩
  · exact ⟨_, [], rfl, RfRd.nil none 0 rfl, fun k hk => by simp at hk⟩
  · have e64 : Tryd.prog.cellsOf 3 = 1 := by kernel_rfl
    have eS : Tryd.prog.cellsOf 9 = 1 := by kernel_rfl
    have eb : Tryd.prog.cellsOf 4 = 1 := by kernel_rfl
    have hcell : ∀ i, i < len → ∃ x : GR, w.cell? (a.add (i * 3)) = some (.int .i64 x.at') ∧ w.cell? (a.add (i * 3 + 1)) = some (.string x.nm) ∧ w.cell? (a.add (i * 3 + 2)) = some (.bool x.lk) ∧ x.nm.size ≤ maxLen := by
      intro i hi
      have h1 := hc i hi
      rw [show Tryd.prog.cellsOf 53 = 3 by kernel_rfl] at h1
      rw [List.getElem?_eq_getElem (by omega)] at h1
      obtain ⟨cs', h2, h3⟩ := Option.bind_eq_some_iff.1 h1
      obtain ⟨_, hlc, hat⟩ := World.cells?_some h2
      match cs', hlc with
      | [c0, c1, c2], _ =>
        obtain ⟨ys, m, _, _, _, hyl, hg⟩ := DataW.trod_struct Tryd.underlying53 h3
        have g0 : DataW.trod enc Tryd.prog w base spare held m 3 (([c0, c1, c2].drop 0).take (Tryd.prog.cellsOf 3)) = ys[0]? := hg 0 _ rfl
        have g1 : DataW.trod enc Tryd.prog w base spare held m 9 (([c0, c1, c2].drop 1).take (Tryd.prog.cellsOf 9)) = ys[1]? := hg 1 _ rfl
        have g2 : DataW.trod enc Tryd.prog w base spare held m 4 (([c0, c1, c2].drop 2).take (Tryd.prog.cellsOf 4)) = ys[2]? := hg 2 _ rfl
        have hx : ys.length = 3 := hyl
        rw [List.getElem?_eq_getElem (by omega)] at g0 g1 g2
        rw [e64] at g0
        rw [eS] at g1
        rw [eb] at g2
        obtain ⟨s0, e0, -, -⟩ := DataW.trod_int Tryd.underlying3 g0
        obtain ⟨s1, e1, -, w1⟩ := DataW.trod_string Tryd.underlying9 g1
        obtain ⟨s2, e2, -⟩ := DataW.trod_bool Tryd.underlying4 g2
        obtain rfl := (List.cons.inj e0).1
        obtain rfl := (List.cons.inj e1).1
        obtain rfl := (List.cons.inj e2).1
        refine ⟨⟨s0, s1, s2⟩, ?_, ?_, ?_, w1⟩
        · have := hat 0 (by omega); rw [add_add] at this; simpa using this
        · have := hat 1 (by omega); rw [add_add] at this; simpa using this
        · have := hat 2 (by omega); rw [add_add] at this; simpa using this
    have hch : ∃ f : Nat → GR, ∀ i, i < len → w.cell? (a.add (i * 3)) = some (.int .i64 (f i).at') ∧ w.cell? (a.add (i * 3 + 1)) = some (.string (f i).nm) ∧ w.cell? (a.add (i * 3 + 2)) = some (.bool (f i).lk) ∧ (f i).nm.size ≤ maxLen := by
      refine ⟨fun i => if hi : i < len then (hcell i hi).choose else default, fun i hi => ?_⟩
      simp only [hi, dite_true]
      exact (hcell i hi).choose_spec
    obtain ⟨f, hf⟩ := hch
    have hd : ((List.range len).map f).length = len := by simp
    have hg : ∀ i, i < len → ((List.range len).map f).getD i default = f i := by
      intro i hi
      simp [List.getD_eq_getElem?_getD, hi]
    by_cases hl0 : len = 0
    · subst hl0
      exact ⟨_, [], rfl, ⟨some a, cap, rfl, Nat.zero_le _, .inl rfl⟩, fun k hk => by simp at hk⟩
    obtain ⟨ha, hlt⟩ := cell_plain (by simpa using (hf 0 (by omega)).1)
    refine ⟨_, (List.range len).map f, rfl, ⟨some a, cap, by rw [hd], by rw [hd]; omega, .inr ⟨a.block, a.off, by rw [← ha], hlt, fun j u hj => ?_⟩⟩, fun k hk => by rw [hd] at hk; rw [hg k hk]; exact (hf k hk).2.2.2⟩
    have hrl : ∀ l : List GR, (refV l).length = l.length * 3 := fun l => by
      induction l with
      | nil => rfl
      | cons a l ih =>
        show (refC a ++ refV l).length = _
        rw [List.length_append, List.length_cons, ih]
        show 3 + l.length * 3 = _
        omega
    have hjl : j < len * 3 := by
      obtain ⟨h, _⟩ := List.getElem?_eq_some_iff.1 hj
      rw [hrl, hd] at h; exact h
    have hk : j / 3 < len := by omega
    have hj3 := refV_at ((List.range len).map f) (j / 3) (by rw [hd]; exact hk) (j % 3) (Nat.mod_lt _ (by decide))
    rw [show j / 3 * 3 + j % 3 = j by omega, hg _ hk] at hj3
    rw [hj3] at hj
    obtain ⟨q0, q1, q2, -⟩ := hf (j / 3) hk
    rw [ha] at q0 q1 q2
    simp only [add_none] at q0 q1 q2
    have hm3 : j % 3 = 0 ∨ j % 3 = 1 ∨ j % 3 = 2 := by omega
    rcases hm3 with e | e | e
    · rw [e] at hj
      have hj : some (Value.int .i64 (f (j / 3)).at') = some u := hj
      rw [show j / 3 * 3 = j by omega] at q0
      rw [← hj]; exact q0
    · rw [e] at hj
      have hj : some (Value.string (f (j / 3)).nm) = some u := hj
      rw [show j / 3 * 3 + 1 = j by omega] at q1
      rw [← hj]; exact q1
    · rw [e] at hj
      have hj : some (Value.bool (f (j / 3)).lk) = some u := hj
      rw [show j / 3 * 3 + 2 = j by omega] at q2
      rw [← hj]; exact q2
/-- A slice of arrays. -/
theorem open_arrs {fuel : Nat} {cs : List Value} {x : DataW H × List MemPlace} (h : DataW.trod enc Tryd.prog w base spare held fuel 22 cs = some x) :
    ∃ (v : Value) (d : List LSh), cs = [v] ∧ ShAt w v d ∧ d.length ≤ 9223372036854775807 ∧ ∀ k, k < d.length → (d.getD k default).1.size ≤ maxLen ∧ -9223372036854775808 ≤ (d.getD k default).2 ∧ (d.getD k default).2 ≤ 9223372036854775807 := by
  rcases DataW.trod_slice Tryd.underlying22 h with ⟨rfl, rfl⟩ | ⟨a, len, cap, elems, rest, n, rfl, rfl, rfl, hb, hl, hm, hel, hc, _, _⟩
  · exact ⟨_, [], rfl, ⟨none, 0, rfl, fun k hk => by simp at hk⟩, by simp, fun k hk => by simp at hk⟩
  · have e64 : Tryd.prog.cellsOf 3 = 1 := by kernel_rfl
    have eS : Tryd.prog.cellsOf 9 = 1 := by kernel_rfl
    have hcell : ∀ i, i < len → ∃ x : LSh, w.cell? (a.add (i * 2)) = some (.string x.1) ∧ w.cell? (a.add (i * 2 + 1)) = some (.int .i64 x.2) ∧ x.1.size ≤ maxLen ∧ -9223372036854775808 ≤ x.2 ∧ x.2 ≤ 9223372036854775807 := by
      intro i hi
      have h1 := hc i hi
      rw [show Tryd.prog.cellsOf 55 = 2 by kernel_rfl] at h1
      rw [List.getElem?_eq_getElem (by omega)] at h1
      obtain ⟨cs', h2, h3⟩ := Option.bind_eq_some_iff.1 h1
      obtain ⟨_, hlc, hat⟩ := World.cells?_some h2
      match cs', hlc with
      | [c0, c1], _ =>
        obtain ⟨ys, m, _, _, _, hyl, hg⟩ := DataW.trod_struct Tryd.underlying55 h3
        have g0 : DataW.trod enc Tryd.prog w base spare held m 9 (([c0, c1].drop 0).take (Tryd.prog.cellsOf 9)) = ys[0]? := hg 0 _ rfl
        have g1 : DataW.trod enc Tryd.prog w base spare held m 3 (([c0, c1].drop 1).take (Tryd.prog.cellsOf 3)) = ys[1]? := hg 1 _ rfl
        have hx : ys.length = 2 := hyl
        rw [List.getElem?_eq_getElem (by omega)] at g0 g1
        rw [eS] at g0
        rw [e64] at g1
        obtain ⟨nm, e0, -, w0⟩ := DataW.trod_string Tryd.underlying9 g0
        obtain ⟨s1, e1, -, w1⟩ := DataW.trod_int Tryd.underlying3 g1
        obtain rfl := (List.cons.inj e0).1
        obtain rfl := (List.cons.inj e1).1
        have b1 := bounds_i64 w1
        refine ⟨(nm, s1), ?_, ?_, w0, b1⟩
        · have := hat 0 (by omega); rw [add_add] at this; simpa using this
        · have := hat 1 (by omega); rw [add_add] at this; simpa using this
    have hch : ∃ f : Nat → LSh, ∀ i, i < len → w.cell? (a.add (i * 2)) = some (.string (f i).1) ∧ w.cell? (a.add (i * 2 + 1)) = some (.int .i64 (f i).2) ∧ (f i).1.size ≤ maxLen ∧ -9223372036854775808 ≤ (f i).2 ∧ (f i).2 ≤ 9223372036854775807 := by
      refine ⟨fun i => if hi : i < len then (hcell i hi).choose else default, fun i hi => ?_⟩
      simp only [hi, dite_true]
      exact (hcell i hi).choose_spec
    obtain ⟨f, hf⟩ := hch
    have hd : ((List.range len).map f).length = len := by simp
    have hg : ∀ i, i < len → ((List.range len).map f).getD i default = f i := by
      intro i hi
      simp [List.getD_eq_getElem?_getD, hi]
    refine ⟨_, (List.range len).map f, rfl, ⟨some a, cap, by rw [hd], fun k hk => ?_⟩, by rw [hd]; unfold maxLen at hm; omega, fun k hk => ?_⟩
    · rw [hd] at hk
      obtain ⟨ha, hlt⟩ := cell_plain (by simpa using (hf 0 (by omega)).1)
      have h1 := hf k hk
      rw [ha] at h1
      simp only [add_none] at h1
      rw [hg k hk]
      exact ⟨a.block, a.off, by rw [← ha], hlt, h1.1, h1.2.1⟩
    · rw [hd] at hk
      rw [hg k hk]
      exact (hf k hk).2.2


/-- A slice of objects. -/
theorem open_obs {fuel : Nat} {cs : List Value} {x : DataW H × List MemPlace} (h : DataW.trod enc Tryd.prog w base spare held fuel 23 cs = some x) :
    ∃ (v : Value) (d : List LOb), cs = [v] ∧ ObsAt w v d ∧ d.length ≤ 9223372036854775807 ∧ ∀ k, k < d.length → (d.getD k default).nm.size ≤ maxLen ∧ ∀ j, j < (d.getD k default).refs.length → ((d.getD k default).refs.getD j default).nm.size ≤ maxLen := by
  rcases DataW.trod_slice Tryd.underlying23 h with ⟨rfl, rfl⟩ | ⟨a, len, cap, elems, rest, n, rfl, rfl, rfl, hb, hl, hm, hel, hc, _, _⟩
  · exact ⟨_, [], rfl, ⟨none, 0, rfl, fun k hk => by simp at hk⟩, by simp, fun k hk => by simp at hk⟩
  · have e64 : Tryd.prog.cellsOf 3 = 1 := by kernel_rfl
    have eS : Tryd.prog.cellsOf 9 = 1 := by kernel_rfl
    have eA : Tryd.prog.cellsOf 35 = 1 := by kernel_rfl
    have eB : Tryd.prog.cellsOf 36 = 1 := by kernel_rfl
    have hcell : ∀ i, i < len → ∃ (x : LOb) (cv rv : Value), (w.cell? (a.add (i * 4)) = some (.string x.nm) ∧ w.cell? (a.add (i * 4 + 1)) = some cv ∧ w.cell? (a.add (i * 4 + 2)) = some (.int .i64 x.dat) ∧ w.cell? (a.add (i * 4 + 3)) = some rv) ∧ GsRd w cv x.code ∧ RfRd w rv x.refs ∧ x.nm.size ≤ maxLen ∧ ∀ j, j < x.refs.length → (x.refs.getD j default).nm.size ≤ maxLen := by
      intro i hi
      have h1 := hc i hi
      rw [show Tryd.prog.cellsOf 38 = 4 by kernel_rfl] at h1
      rw [List.getElem?_eq_getElem (by omega)] at h1
      obtain ⟨cs', h2, h3⟩ := Option.bind_eq_some_iff.1 h1
      obtain ⟨_, hlc, hat⟩ := World.cells?_some h2
      match cs', hlc with
      | [c0, c1, c2, c3], _ =>
        obtain ⟨ys, m, _, _, _, hyl, hg⟩ := DataW.trod_struct Tryd.underlying38 h3
        have g0 : DataW.trod enc Tryd.prog w base spare held m 9 (([c0, c1, c2, c3].drop 0).take (Tryd.prog.cellsOf 9)) = ys[0]? := hg 0 _ rfl
        have g1 : DataW.trod enc Tryd.prog w base spare held m 35 (([c0, c1, c2, c3].drop 1).take (Tryd.prog.cellsOf 35)) = ys[1]? := hg 1 _ rfl
        have g2 : DataW.trod enc Tryd.prog w base spare held m 3 (([c0, c1, c2, c3].drop 2).take (Tryd.prog.cellsOf 3)) = ys[2]? := hg 2 _ rfl
        have g3 : DataW.trod enc Tryd.prog w base spare held m 36 (([c0, c1, c2, c3].drop 3).take (Tryd.prog.cellsOf 36)) = ys[3]? := hg 3 _ rfl
        have hx : ys.length = 4 := hyl
        rw [List.getElem?_eq_getElem (by omega)] at g0 g1 g2 g3
        rw [eS] at g0
        rw [eA] at g1
        rw [e64] at g2
        rw [eB] at g3
        obtain ⟨nm, e0, -, w0⟩ := DataW.trod_string Tryd.underlying9 g0
        obtain ⟨cv, code, e1, hC⟩ := open_gs g1
        obtain ⟨D, e2, -, -⟩ := DataW.trod_int Tryd.underlying3 g2
        obtain ⟨rv, rf, e3, hR, hRs⟩ := open_refs g3
        obtain rfl := (List.cons.inj e0).1
        obtain rfl := (List.cons.inj e1).1
        obtain rfl := (List.cons.inj e2).1
        obtain rfl := (List.cons.inj e3).1
        refine ⟨⟨nm, code, rf, D⟩, _, _, ⟨?_, ?_, ?_, ?_⟩, hC, hR, w0, hRs⟩
        · have := hat 0 (by omega); rw [add_add] at this; simpa using this
        · have := hat 1 (by omega); rw [add_add] at this; simpa using this
        · have := hat 2 (by omega); rw [add_add] at this; simpa using this
        · have := hat 3 (by omega); rw [add_add] at this; simpa using this
    have hch : ∃ f : Nat → LOb, ∀ i, i < len → ∃ (cv rv : Value), (w.cell? (a.add (i * 4)) = some (.string (f i).nm) ∧ w.cell? (a.add (i * 4 + 1)) = some cv ∧ w.cell? (a.add (i * 4 + 2)) = some (.int .i64 (f i).dat) ∧ w.cell? (a.add (i * 4 + 3)) = some rv) ∧ GsRd w cv (f i).code ∧ RfRd w rv (f i).refs ∧ (f i).nm.size ≤ maxLen ∧ ∀ j, j < (f i).refs.length → ((f i).refs.getD j default).nm.size ≤ maxLen := by
      refine ⟨fun i => if hi : i < len then (hcell i hi).choose else default, fun i hi => ?_⟩
      simp only [hi, dite_true]
      exact (hcell i hi).choose_spec
    obtain ⟨f, hf⟩ := hch
    have hd : ((List.range len).map f).length = len := by simp
    have hg : ∀ i, i < len → ((List.range len).map f).getD i default = f i := by
      intro i hi
      simp [List.getD_eq_getElem?_getD, hi]
    refine ⟨_, (List.range len).map f, rfl, ⟨some a, cap, by rw [hd], fun k hk => ?_⟩, by rw [hd]; unfold maxLen at hm; omega, fun k hk => ?_⟩
    · rw [hd] at hk
      obtain ⟨_, _, ⟨q0, -⟩, -⟩ := hf 0 (by omega)
      obtain ⟨ha, hlt⟩ := cell_plain (by simpa using q0)
      obtain ⟨cv, rv, ⟨z0, z1, z2, z3⟩, hC, hR, -⟩ := hf k hk
      rw [ha] at z0 z1 z2 z3
      simp only [add_none] at z0 z1 z2 z3
      rw [hg k hk]
      exact ⟨a.block, a.off, cv, rv, by rw [← ha], hlt, ⟨z0, z1, z2, z3⟩, hC, hR⟩
    · rw [hd] at hk
      obtain ⟨_, _, -, -, -, h1, h2⟩ := hf k hk
      rw [hg k hk]
      exact ⟨h1, h2⟩
end
section
variable {H : Type} {enc : TypeId × Value → H} {w : World} {held : Bool} {spare : Nat → Bool}
theorem open_shV {r : Reach} {b0 : Nat} {v : Value} {d : DataW H} {pl : List MemPlace} (hv : Value.okWide Tryd.prog w r b0 22 v) (h : DataW.Trod enc Tryd.prog w 0 spare held 22 v d pl) :
    ∃ S : List LSh, ShAt w v S ∧ ∀ k, k < S.length → (S.getD k default).1.size ≤ maxLen := by
  obtain ⟨a, n, c, rfl⟩ := okWide_slice Tryd.underlying22 hv
  obtain ⟨fuel, hf⟩ := h
  obtain ⟨v', S, e, h1, h2, h3⟩ := open_arrs hf
  obtain rfl := (List.cons.inj e).1
  exact ⟨S, h1, fun k hk => (h3 k hk).1⟩
theorem open_obsV {r : Reach} {b0 : Nat} {v : Value} {d : DataW H} {pl : List MemPlace} (hv : Value.okWide Tryd.prog w r b0 23 v) (h : DataW.Trod enc Tryd.prog w 0 spare held 23 v d pl) :
    ∃ l : List LOb, ObsAt w v l ∧ l.length ≤ 9223372036854775807 ∧ ∀ k, k < l.length → (l.getD k default).nm.size ≤ maxLen ∧ ∀ j, j < (l.getD k default).refs.length → ((l.getD k default).refs.getD j default).nm.size ≤ maxLen := by
  obtain ⟨a, n, c, rfl⟩ := okWide_slice Tryd.underlying23 hv
  obtain ⟨fuel, hf⟩ := h
  obtain ⟨v', S, e, h1, h2, h3⟩ := open_obs hf
  obtain rfl := (List.cons.inj e).1
  exact ⟨S, h1, h2, h3⟩
theorem open_wds {r : Reach} {b0 : Nat} {v : Value} {d : DataW H} {pl : List MemPlace} (hv : Value.okWide Tryd.prog w r b0 24 v) (h : DataW.Trod enc Tryd.prog w 0 spare held 24 v d pl) :
    ∃ (p : Option Addr) (cap : Nat) (l : List Int), v = .slice p l.length cap ∧ RdAt w (.slice p l.length cap) l ∧ (∀ j, W32 (l.getD j 0)) ∧ (∀ c, Value.slice p l.length cap = .slice none 0 c → c = 0) := by
  obtain ⟨a, n, c, rfl⟩ := okWide_slice Tryd.underlying24 hv
  obtain ⟨fuel, hf⟩ := h
  obtain ⟨p, cap, l, e, h1, h2, h3⟩ := open_words hf
  exact ⟨p, cap, l, (List.cons.inj e).1, h1, h2, h3⟩
end
def layObj (cs : Array Value) : Obj → Obj
  | .cells _ t frozen => .cells cs t frozen
  | o => o
/-- A world for the witnesses: the settled one, the two tables holding what their initialisers lay. -/
noncomputable def laidWorld22 (os : Os) : World :=
  { World.holding Tryd.prog os ⟨#[], #[], []⟩ with heap := ((World.holding Tryd.prog os ⟨#[], #[], []⟩).heap.modify 0 (layObj fcells.toArray)).modify 1 (layObj (flatD 2 (Rows.laid_ontime_core_operators (H := Unit))).toArray) }
end Go.Proofs.YtpachmkklppmjaaDoor
namespace Go.Proofs.YtpachmkklppmjaaDoor.linkerAlone
open Go.Joins Go.ChangeShapes Go.WideShapes Go.ChangeAt Go.RowKit Go.Deep

set_option maxRecDepth 100000 in
theorem contract (H : Type) (enc : TypeId × Value → H) (W : World) (base : Nat) (args : Array Value) (ds gs : List (DataW H)) (before : List MemPlace)
    (hval : ∀ (j : Nat) t v, Tryd.f3.params[j]? = some t → args[j]? = some v → Value.okWide Tryd.prog W .any base t v)
    (hW : DataW.Whole enc Tryd.prog Tryd.f3.params.toList Rows.linkerAloneSpec.vars false W args.toList ds gs before) (hL : laidMetH Tryd.prog Rows.linkerAloneRow.laid W) :
    Calls Tryd.prog 3 args W fun e W' => ∃ v, e = .returned v ∧ Rows.linkerAloneSpec.post enc Tryd.prog Tryd.f3 false true false false W args v W' := by
  have hT : Tab W := tab_of_laid (by kernel_rfl) hL
  have hO : OTab W := otab_of_laid (by kernel_rfl) hL
  have hW' := hW
  obtain ⟨p, q, hA0, hV, rfl, hfz, hnd⟩ := hW
  have hA : DataW.TrodAll enc Tryd.prog W 0 (fun _ => true) true Tryd.f3.params.toList args.toList ds p := hA0
  rw [Tryd.params3] at hA hval
  obtain ⟨v0, vs0, d0, ds0, p0, q0, hargs, rfl, rfl, h0, r0⟩ := trodAll_cons hA
  obtain ⟨v1, vs1, d1, ds1, p1, q1, rfl, rfl, rfl, h1, r1⟩ := trodAll_cons r0
  obtain ⟨v2, vs2, d2, ds2, p2, q2, rfl, rfl, rfl, h2, r2⟩ := trodAll_cons r1
  obtain ⟨v3, vs3, d3, ds3, p3, q3, rfl, rfl, rfl, h3, r3⟩ := trodAll_cons r2
  obtain ⟨rfl, rfl, rfl⟩ := trodAll_nil r3
  obtain rfl : args = #[v0, v1, v2, v3] := by cases args; simp_all
  obtain ⟨rfl, rfl⟩ := trodVars_none hV
  obtain ⟨S0, hS0, hSx0⟩ := open_shV (hval 0 22 v0 rfl rfl) h0
  obtain ⟨l1, hO1, hOl1, hOx1⟩ := open_obsV (hval 1 23 v1 rfl rfl) h1
  obtain ⟨x2, rfl, rfl, rfl, w2⟩ := open_int Tryd.underlying5 (hval 2 5 v2 rfl rfl) h2
  have bd2 := bounds_u8 w2
  obtain ⟨mp3, mcap3, l3, rfl, hm3, hm323, hm03⟩ := open_wds (hval 3 24 v3 rfl rfl) h3
  obtain ⟨tk, rfl⟩ := Int.eq_ofNat_of_zero_le bd2.1
  refine (alone_law v0 v1 (.slice mp3 l3.length mcap3) tk S0 l1 l3 W hT hO ⟨by have := hO.1; omega, hO.1⟩ hS0 hO1 hm3 ⟨hSx0, fun k hk => (hOx1 k hk).1, fun k hk => (hOx1 k hk).2⟩ hOl1 hm323 (by omega)).mono fun e W' ⟨he, hb⟩ => ?_
  subst he
  exact ⟨_, rfl, law_post laidOut (by kernel_rfl) rfl (by kernel_rfl) Tryd.underlying4 hW' hb ⟨rfl, rfl, rfl⟩⟩

theorem laid_met (os : Os) : laidMet Tryd.prog Rows.linkerAloneRow.laid ((laidWorld22 os).forCall (fun _ _ => 0) ⟨#[], #[.slice none 0 0, .slice none 0 0, .int .u8 0, .slice none 0 0], []⟩).memory :=
  laidMet_of_run' 8 (by kernel_rfl) (by kernel_rfl)
theorem reads (os : Os) {H : Type} (enc : TypeId × Value → H) : ∃ places, DataW.whole enc Tryd.prog ((laidWorld22 os).forCall (fun _ _ => 0) ⟨#[], #[.slice none 0 0, .slice none 0 0, .int .u8 0, .slice none 0 0], []⟩).memory Tryd.f3.params.toList Rows.linkerAloneSpec.vars false (#[.slice none 0 0, .slice none 0 0, .int .u8 0, .slice none 0 0] : Array Value).toList 8 = some ([.nil, .nil, .lit (.int .u8 0), .nil], [], places) :=
  ⟨[], by kernel_rfl⟩

set_option maxRecDepth 100000 in
theorem lifted (os : Os) (started : os.Started) (H : Type) (enc : TypeId × Value → H) (F : Stop.Interp) :
    ReturnsInHanded {} Tryd.checked os 3 .any ((OpenSpec.ofChange Rows.linkerAloneSpec).preRow enc Tryd.prog Tryd.f3 Rows.linkerAloneRow.domain false Rows.linkerAloneRow.laid) (((OpenSpec.ofChange Rows.linkerAloneSpec).at F).post enc Tryd.prog Tryd.f3 false true false false) := by
  obtain ⟨places, hx⟩ := reads os enc
  refine returnsInHanded_of_row (C := Tryd.checked) (s := OpenSpec.ofChange Rows.linkerAloneSpec) own started (by kernel_rfl) Tryd.func3
    (witness_row_at (enc := enc) (C := Tryd.checked) false (laidWorld22 os) #[.slice none 0 0, .slice none 0 0, .int .u8 0, .slice none 0 0] rfl (by kernel_rfl) (by kernel_rfl) (by kernel_rfl)
      (OpenSpec.preRow_of_cond 8 hx (by kernel_rfl) (fun k hk => by cases hk) (by kernel_rfl) (laid_met os))) ?_
  intro W base args ds gs before hval hW _ _ _ hL _ _
  exact contract H enc W base args ds gs before hval hW hL

theorem said : Rows.LinkerAloneSaid :=
  OpenClaim.holds_of_cond 3 Tryd.f3 rfl rfl rfl rfl rfl rfl rfl ⟨rfl, rfl, rfl, rfl, rfl⟩ rfl rfl rfl rfl rfl (by kernel_rfl) Tryd.func3 (by kernel_rfl)
    (of_decide_eq_true (by kernel_rfl)) (by unfold Func.isWrapper; first | (rw [if_pos (by decide +kernel)]; kernel_rfl) | (rw [if_neg (by decide +kernel)]; exact ⟨rfl, rfl⟩))
    (fun os started H enc _ F => by rw [OpenClaim.pre_eq_preRow]; exact lifted os started H enc F)

theorem plain (f : FuncId) (fn : Func) (hf : Tryd.pinned.checked.prog.funcNamed Rows.linkerAloneRow.func = some f) (hfn : Tryd.pinned.checked.prog.funcs[f]? = some fn) :
    false = Tryd.pinned.checked.prog.looks [] ∧ ∀ (j : Nat) t, fn.params[j]? = some t → Tryd.pinned.checked.prog.wantsStandIn t = false := by
  obtain rfl : f = 3 := Option.some.inj ((show Tryd.prog.funcNamed Rows.linkerAloneRow.func = some 3 by kernel_rfl).symm.trans hf) |>.symm
  obtain rfl : fn = Tryd.f3 := (Option.some.inj (Tryd.func3.symm.trans hfn)).symm
  refine ⟨by kernel_rfl, fun j t ht => ?_⟩
  have hall : Tryd.f3.params.toList.all (fun t => !Tryd.prog.wantsStandIn t) = true := by kernel_rfl
  have h := List.all_eq_true.1 hall t (by simpa using Array.mem_of_getElem? ht)
  have h2 : Tryd.prog.wantsStandIn t = false := by simpa using h
  exact h2

/-- The given statement. -/
theorem card : Rows.LinkerAloneCardSaid :=
  Claim7.holds_tied_plain_at .later [] _ _ _ _ said (fun _ h => by cases h) (by kernel_rfl) (fun _ h => by cases h) linkerAlone_row_tie rfl ⟨rfl, rfl⟩ (by kernel_rfl) rfl plain (by kernel_rfl)
#print axioms card
end Go.Proofs.YtpachmkklppmjaaDoor.linkerAlone
