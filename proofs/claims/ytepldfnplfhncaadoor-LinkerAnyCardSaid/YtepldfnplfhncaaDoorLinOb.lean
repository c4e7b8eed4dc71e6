/- Arguments that are slices of bytes, opened. -/
import Derived.Test.YtepldfnplfhncaaDoorLinO
import Derived.Test.YtepldfnplfhncaaDoorLinH
set_option linter.unusedVariables false
set_option linter.unusedSimpArgs false
namespace Go.Proofs.YtepldfnplfhncaaDoor
open Go.Joins Go.ChangeShapes Go.WideShapes Go.ChangeAt Go.RowKit Go.Deep

section
variable {H : Type} {enc : TypeId × Value → H} {w : World} {held : Bool} {spare : Nat → Bool}
theorem shape_lt {w : World} {b : Nat} {x : TypeId × Nat} (h : w.shape? b = some x) : b < w.heap.size := by
  unfold World.shape? at h
  rcases Nat.lt_or_ge b w.heap.size with hb | hb
  · exact hb
  · rw [Array.getElem?_eq_none hb] at h
    simp at h
set_option maxRecDepth 100000 in
/-- A slice of bytes. -/
theorem open_bytes {r : Reach} {b0 : Nat} {v : Value} {d : DataW H} {pl : List MemPlace} (hv : Value.okWide Tryd.prog w r b0 31 v) (h : DataW.Trod enc Tryd.prog w 0 spare held 31 v d pl) :
    ∃ l : List Nat, BtAt w v l ∧ (∀ k, v.ownBlock = some k → k < w.heap.size) ∧ ∀ c ∈ l, c < 256 := by
  obtain ⟨a, n, c, rfl⟩ := okWide_slice Tryd.underlying31 hv
  have hok : Cell.ok Tryd.prog w r b0 31 (.slice a n c) := by
    simp only [Value.okWide, Tryd.underlying31, Cell.okWide] at hv
    exact hv
  have hlt : ∀ k, (Value.slice a n c).ownBlock = some k → k < w.heap.size := by
    intro k hk
    cases a with
    | none => cases hk
    | some a =>
      simp only [Cell.ok, Tryd.underlying31] at hok
      obtain ⟨_, _, _, _, row, cells, hs, _⟩ := hok
      cases hk
      exact shape_lt hs
  obtain ⟨fuel, hf⟩ := h
  rcases DataW.trod_slice Tryd.underlying31 hf with ⟨e, -⟩ | ⟨a', len, cap, elems, rest, m, -, e, -, hb, hl, hm, hel, hc, _, _⟩
  · have e' : Value.slice a n c = .slice none 0 0 := (List.cons.inj e).1
    rw [e']
    exact ⟨[], BtAt.nil w, ⟨fun k hk => by simp [Value.ownBlock] at hk, fun c hc => by simp at hc⟩⟩
  · have e' : Value.slice a n c = .slice (some a') len cap := (List.cons.inj e).1
    rw [e'] at hlt ⊢
    have hcell : ∀ i, i < len → ∃ x : Int, w.cell? (a'.add i) = some (.int .u8 x) ∧ 0 ≤ x ∧ x < 256 := by
      intro i hi
      have h1 := hc i hi
      rw [show Tryd.prog.cellsOf 5 = 1 by kernel_rfl, Nat.mul_one] at h1
      rw [List.getElem?_eq_getElem (by omega)] at h1
      obtain ⟨cs', h2, h3⟩ := Option.bind_eq_some_iff.1 h1
      obtain ⟨x, rfl, _, hwf⟩ := DataW.trod_int Tryd.underlying5 h3
      obtain ⟨_, _, hat⟩ := World.cells?_some h2
      have h4 := hat 0 (by omega)
      have hw := bounds_u8 hwf
      refine ⟨x, ?_, hw.1, by omega⟩
      simpa [Addr.add] using h4
    let f : Nat → Nat := fun i => match w.cell? (a'.add i) with | some (.int _ x) => x.toNat | _ => 0
    have hfc : ∀ i, i < len → w.cell? (a'.add i) = some (.int .u8 (f i : Nat)) ∧ f i < 256 := by
      intro i hi
      obtain ⟨x, h1, h2, h3⟩ := hcell i hi
      have : f i = x.toNat := by simp only [f, h1]
      rw [this, Int.toNat_of_nonneg h2]
      exact ⟨h1, by omega⟩
    have hd : ((List.range len).map f).length = len := by simp
    have hg : ∀ i, i < len → ((List.range len).map f).getD i 0 = f i := by
      intro i hi
      simp [List.getD_eq_getElem?_getD, hi]
    refine ⟨(List.range len).map f, ⟨some a', cap, by rw [hd], by rw [hd]; exact hl, ?_⟩, hlt, fun c hc => ?_⟩
    · by_cases h0 : len = 0
      · left; subst h0; rfl
      · right
        obtain ⟨ha, hl2⟩ := cell_plain (hfc 0 (by omega)).1
        refine ⟨a'.block, a'.off, by rw [← ha], hl2, fun k hk => ?_⟩
        rw [hd] at hk
        have h1 := (hfc k hk).1
        rw [ha, add_none] at h1
        rw [hg k hk]
        exact h1
    · obtain ⟨i, hi, rfl⟩ := List.mem_map.1 hc
      exact (hfc i (List.mem_range.1 hi)).2
end
end Go.Proofs.YtepldfnplfhncaaDoor
