import Derived.Test.YtdfofelchjpioaaDoorMs32
set_option linter.unusedVariables false
set_option linter.unusedSimpArgs false
namespace Go.Proofs.YtdfofelchjpioaaDoor
open Go.RowKit

def Fitly (lk : Int) (s s' : St) : Prop := s'.d.length = s.d.length ∧ s'.r.getD 0 0 = s.r.getD 0 0 ∧ ((s.held = -1 ∨ (0 ≤ s.held ∧ s.held < lk)) → (s'.held = -1 ∨ (0 ≤ s'.held ∧ s'.held < lk)))
theorem Fitly.set (lk : Int) (s : St) (p : Int) (a : Nat) (v : Int) : Fitly lk s { s with pc := p, r := if a = 0 then s.r else s.r.set a v } := by
  refine ⟨rfl, ?_, id⟩
  show (if a = 0 then s.r else s.r.set a v).getD 0 0 = _
  split
  · rfl
  · simp only [List.getD_eq_getElem?_getD]
    rw [List.getElem?_set_ne (by omega)]
theorem Fitly.data (lk : Int) (s : St) (p : Int) (k : Nat) (v : Int) : Fitly lk s { s with pc := p, d := s.d.set k v } := ⟨by simp, rfl, id⟩
theorem stepP_len {im : Im} {t : Int} {s : St} {mem : List Int} {inp : Int → Int} {f : Ef} {s' : St} {mem' : List Int} (h : stepP im t s mem inp = .ok (f, s', mem')) : s'.d.length = s.d.length ∧ mem'.length = mem.length := by
  unfold stepP at h
  split at h
  · cases h
  · simp only at h
    split at h
    · cases h
    · split at h
      · cases h
      · rename_i hok
        split at h
        · cases h
        · rename_i s1 m1 tk ad vl hs
          simp only [Except.ok.injEq, Prod.mk.injEq] at h
          obtain ⟨_, rfl, rfl⟩ := h
          have hv := of_decide_eq_true (show decOk (im.code.getD s.pc.toNat 0) = true by simpa using hok)
          have hw := stepI_wrote (vld_parts hv.1).1 hs
          exact ⟨hw.dlen, hw.mlen⟩

section
variable {σ : Type} {im : Im} {t : Int} {inp : σ → Int → Int} {nxt : σ → Int → σ}
end

end Go.Proofs.YtdfofelchjpioaaDoor

set_option linter.unusedVariables false
set_option linter.unusedSimpArgs false
namespace Go.Proofs.YtdfofelchjpioaaDoor
open Go.RowKit


theorem side_of {w0 w2 w : World} {B bx be : Nat} {s : St} {sh : List Int} {xv mv : Value} (hr : s.r.length = 16) (hx : RowAt w bx (stCells s xv)) (hd : MemAt w xv s.d) (hm : MemAt w mv sh) (hB : B ≤ bx) (ox : ∀ k, xv.ownBlock = some k → B ≤ k ∧ k < w.heap.size ∧ k ≠ bx) (om : ∀ k, mv.ownBlock = some k → B ≤ k ∧ k < w.heap.size ∧ k ≠ bx ∧ xv.ownBlock ≠ some k)
    (r32 : ∀ j, W32 (s.r.getD j 0)) (d32 : ∀ j, W32 (s.d.getD j 0)) (m32 : ∀ j, W32 (sh.getD j 0)) : Side B w bx xv mv s sh :=
  ⟨⟨hr, hx⟩, hd, hm, by
    rintro k (rfl | hk | hk)
    · exact ⟨hB, hx.lt⟩
    · exact ⟨(ox k hk).1, (ox k hk).2.1⟩
    · exact ⟨(om k hk).1, (om k hk).2.1⟩, fun h => (ox bx h).2.2 rfl, fun h => (om bx h).2.2.1 rfl, fun k hk hk2 => (om k hk2).2.2.2 hk, r32, d32, m32⟩

end Go.Proofs.YtdfofelchjpioaaDoor

