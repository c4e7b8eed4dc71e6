/- Layer 8: the time of a sequence, in plain words. -/
import Derived.Test.YtjfenhnlonbmmaaDoorPipE
set_option linter.unusedVariables false
set_option linter.unusedSimpArgs false
namespace Go.Proofs.YtjfenhnlonbmmaaDoor
open Go.RowKit Go.Sort

theorem sqT_bd {m d t h : Int} (hm : 0 ≤ m ∧ m ≤ 1000) (hd : 0 ≤ d ∧ d ≤ 1000) (ht : 0 ≤ t ∧ t ≤ 1000) (hh : 0 ≤ h ∧ h ≤ 1000) : ∀ (s : Int) (l : List Ins), 0 ≤ sqT m d t h s l ∧ sqT m d t h s l ≤ 2001 * l.length
  | s, [] => by simp [sqT]
  | s, x :: l => by
    have h1 := cyI_bd hm hd ht hh s x
    have h2 := sqT_bd hm hd ht hh (nxI x) l
    simp only [sqT, List.length_cons]
    omega
theorem sq_start {m d t h : Int} (hm : 0 ≤ m ∧ m ≤ 1000) (hd : 0 ≤ d ∧ d ≤ 1000) (ht : 0 ≤ t ∧ t ≤ 1000) (hh : 0 ≤ h ∧ h ≤ 1000) (a b : Int) (l : List Ins) : sqT m d t h a l - sqT m d t h b l ≤ h ∧ sqT m d t h 0 l ≤ sqT m d t h a l ∧ (l ≠ [] → sqS a l = sqS b l) := by
  cases l with
  | nil => exact ⟨by simp [sqT]; omega, by simp [sqT], fun h => absurd rfl h⟩
  | cons x l =>
    have h0 : hzd 0 x.n x.a x.b x.c x.i = false := hzd_out (by omega)
    have e : ∀ s, cyI m d t h s x = lst m d x.n + if hzd s x.n x.a x.b x.c x.i then h else 0 := fun s => by simp [cyI, cyc]
    have e0 : cyI m d t h 0 x = lst m d x.n := by rw [e, h0]; simp
    have ea := e a
    have eb := e b
    refine ⟨?_, ?_, fun _ => rfl⟩
    · show cyI m d t h a x + sqT m d t h (nxI x) l - (cyI m d t h b x + sqT m d t h (nxI x) l) ≤ h
      rw [ea, eb]
      split <;> split <;> omega
    · show cyI m d t h 0 x + sqT m d t h (nxI x) l ≤ cyI m d t h a x + sqT m d t h (nxI x) l
      rw [e0, ea]
      split <;> omega

end Go.Proofs.YtjfenhnlonbmmaaDoor
