/- The table of formats of package isa: what it holds as plain functions of the opcode, and that the world holds it. -/
import Derived.Test.YtpachmkklppmjaaDoorLaid
import Derived.Test.YtpachmkklppmjaaDoorIsaA
import Derived.Test.YtpachmkklppmjaaDoorRows
namespace Go.Proofs.YtpachmkklppmjaaDoor
open Go.RowKit

def fmL : List (List UInt8) := [[110, 111, 112], [104, 97, 108, 116], [97, 100, 100], [115, 117, 98], [109, 117, 108], [100, 105, 118], [109, 111, 100], [97, 110, 100], [111, 114], [120, 111, 114], [115, 104, 108], [115, 104, 114], [101, 113], [108, 116], [108, 105], [97, 100, 100, 105], [115, 104, 108, 105], [111, 114, 105], [108, 100], [115, 116], [108, 100, 115], [115, 116, 115], [98, 101, 113, 122], [98, 110, 101, 122], [106, 109, 112], [98, 111, 117, 110, 100], [105, 110], [111, 117, 116], [108, 111, 99, 107], [117, 110, 108, 111, 99, 107]]
def foL : List (List UInt8) := [[], [], [65, 66, 67], [65, 66, 67], [65, 66, 67], [65, 66, 67], [65, 66, 67], [65, 66, 67], [65, 66, 67], [65, 66, 67], [65, 66, 67], [65, 66, 67], [65, 66, 67], [65, 66, 67], [65, 73], [65, 66, 73], [65, 66, 73], [65, 66, 73], [65, 66, 73], [65, 66, 73], [65, 66, 73], [65, 66, 73], [65, 73], [65, 73], [73], [65, 73], [65, 73], [65, 73], [73], [73]]
def frL : List (List UInt8) := [[], [], [66, 67], [66, 67], [66, 67], [66, 67], [66, 67], [66, 67], [66, 67], [66, 67], [66, 67], [66, 67], [66, 67], [66, 67], [], [66], [66], [66], [66], [65, 66], [66], [65, 66], [65], [65], [], [65], [], [65], [], []]
def fwL : List Bool := [false, false, true, true, true, true, true, true, true, true, true, true, true, true, true, true, true, true, true, false, true, false, false, false, false, false, true, false, false, false]
def flL : List Int := [0, 0, 0, 0, 0, 0, 0, 0, 0, 0, 0, 0, 0, 0, -131072, -131072, 0, 0, -131072, -131072, -131072, -131072, -131072, -131072, -131072, 1, 0, 0, 0, 0]
def fhL : List Int := [0, 0, 0, 0, 0, 0, 0, 0, 0, 0, 0, 0, 0, 0, 131071, 131071, 31, 16383, 131071, 131071, 131071, 131071, 131071, 131071, 131071, 131071, 7, 7, 3, 3]
def fm (n : Nat) : ByteArray := ⟨(fmL.getD n []).toArray⟩
def fo (n : Nat) : ByteArray := ⟨(foL.getD n []).toArray⟩
def frd (n : Nat) : ByteArray := ⟨(frL.getD n []).toArray⟩
def fwr (n : Nat) : Bool := fwL.getD n false
def flo (n : Nat) : Int := flL.getD n 0
def fhi (n : Nat) : Int := fhL.getD n 0
def uA (n : Nat) : Bool := (foL.getD n []).contains 65
def uB (n : Nat) : Bool := (foL.getD n []).contains 66
def uC (n : Nat) : Bool := (foL.getD n []).contains 67
def uI (n : Nat) : Bool := (foL.getD n []).contains 73

def fcells : List Value := flatD 3 (Rows.laid_ontime_isa_formats (H := Unit))

/-- The world holds the table of formats. -/
def Tab (w : World) : Prop := 0 < w.heap.size ∧ ∀ i, i < 180 → w.cell? ⟨0, i, none⟩ = fcells[i]?

theorem Tab.size {w : World} (h : Tab w) : 0 < w.heap.size := h.1
theorem Tab.below {B : Nat} {w w' : World} (h : Tab w) (hb : Below B w w') (hB : 0 < B) : Tab w' :=
  ⟨Nat.lt_of_lt_of_le h.1 hb.size, fun i hi => by rw [hb.cell (p := ⟨0, i, none⟩) hB]; exact h.2 i hi⟩
theorem Tab.of_below {w w' : World} (h : Tab w) (hb : Below w.heap.size w w') : Tab w' := h.below hb h.1

theorem frow : ∀ (n : Nat), n < 30 → (fcells.drop (n * 6)).take 6 = [.string (fm n), .string (fo n), .string (frd n), .bool (fwr n), .int .i64 (flo n), .int .i64 (fhi n)]
  | 0, _ => by kernel_rfl
  | 1, _ => by kernel_rfl
  | 2, _ => by kernel_rfl
  | 3, _ => by kernel_rfl
  | 4, _ => by kernel_rfl
  | 5, _ => by kernel_rfl
  | 6, _ => by kernel_rfl
  | 7, _ => by kernel_rfl
  | 8, _ => by kernel_rfl
  | 9, _ => by kernel_rfl
  | 10, _ => by kernel_rfl
  | 11, _ => by kernel_rfl
  | 12, _ => by kernel_rfl
  | 13, _ => by kernel_rfl
  | 14, _ => by kernel_rfl
  | 15, _ => by kernel_rfl
  | 16, _ => by kernel_rfl
  | 17, _ => by kernel_rfl
  | 18, _ => by kernel_rfl
  | 19, _ => by kernel_rfl
  | 20, _ => by kernel_rfl
  | 21, _ => by kernel_rfl
  | 22, _ => by kernel_rfl
  | 23, _ => by kernel_rfl
  | 24, _ => by kernel_rfl
  | 25, _ => by kernel_rfl
  | 26, _ => by kernel_rfl
  | 27, _ => by kernel_rfl
  | 28, _ => by kernel_rfl
  | 29, _ => by kernel_rfl
  | n + 30, h => by omega

theorem fmtAt {w : World} (h : Tab w) (n : Nat) (hn : n < 30) : FmtAt w n (fm n) (fo n) (frd n) (fwr n) (flo n) (fhi n) := by
  have hr := frow n hn
  have hc : ∀ j, j < 6 → w.cell? ⟨0, n * 6 + j, none⟩ = [Value.string (fm n), .string (fo n), .string (frd n), .bool (fwr n), .int .i64 (flo n), .int .i64 (fhi n)][j]? := by
    intro j hj
    have e := h.2 (n * 6 + j) (by omega)
    rw [← hr, List.getElem?_take, if_pos hj, List.getElem?_drop]
    exact e
  exact ⟨hc 0 (by omega), hc 1 (by omega), hc 2 (by omega), hc 3 (by omega), hc 4 (by omega), hc 5 (by omega), h.1⟩

/-- The five kinds of formats. -/
def Shape (n : Nat) : Prop :=
  (fo n = ⟨#[]⟩ ∧ uA n = false ∧ uB n = false ∧ uC n = false ∧ uI n = false) ∨ (fo n = ⟨#[65, 66, 67]⟩ ∧ uA n = true ∧ uB n = true ∧ uC n = true ∧ uI n = false) ∨
  (fo n = ⟨#[65, 73]⟩ ∧ uA n = true ∧ uB n = false ∧ uC n = false ∧ uI n = true) ∨ (fo n = ⟨#[65, 66, 73]⟩ ∧ uA n = true ∧ uB n = true ∧ uC n = false ∧ uI n = true) ∨
  (fo n = ⟨#[73]⟩ ∧ uA n = false ∧ uB n = false ∧ uC n = false ∧ uI n = true)
theorem shape : ∀ (n : Nat), n < 30 → Shape n
  | 0, _ => Or.inl ⟨rfl, rfl, rfl, rfl, rfl⟩
  | 1, _ => Or.inl ⟨rfl, rfl, rfl, rfl, rfl⟩
  | 2, _ => Or.inr (Or.inl ⟨rfl, rfl, rfl, rfl, rfl⟩)
  | 3, _ => Or.inr (Or.inl ⟨rfl, rfl, rfl, rfl, rfl⟩)
  | 4, _ => Or.inr (Or.inl ⟨rfl, rfl, rfl, rfl, rfl⟩)
  | 5, _ => Or.inr (Or.inl ⟨rfl, rfl, rfl, rfl, rfl⟩)
  | 6, _ => Or.inr (Or.inl ⟨rfl, rfl, rfl, rfl, rfl⟩)
  | 7, _ => Or.inr (Or.inl ⟨rfl, rfl, rfl, rfl, rfl⟩)
  | 8, _ => Or.inr (Or.inl ⟨rfl, rfl, rfl, rfl, rfl⟩)
  | 9, _ => Or.inr (Or.inl ⟨rfl, rfl, rfl, rfl, rfl⟩)
  | 10, _ => Or.inr (Or.inl ⟨rfl, rfl, rfl, rfl, rfl⟩)
  | 11, _ => Or.inr (Or.inl ⟨rfl, rfl, rfl, rfl, rfl⟩)
  | 12, _ => Or.inr (Or.inl ⟨rfl, rfl, rfl, rfl, rfl⟩)
  | 13, _ => Or.inr (Or.inl ⟨rfl, rfl, rfl, rfl, rfl⟩)
  | 14, _ => Or.inr (Or.inr (Or.inl ⟨rfl, rfl, rfl, rfl, rfl⟩))
  | 15, _ => Or.inr (Or.inr (Or.inr (Or.inl ⟨rfl, rfl, rfl, rfl, rfl⟩)))
  | 16, _ => Or.inr (Or.inr (Or.inr (Or.inl ⟨rfl, rfl, rfl, rfl, rfl⟩)))
  | 17, _ => Or.inr (Or.inr (Or.inr (Or.inl ⟨rfl, rfl, rfl, rfl, rfl⟩)))
  | 18, _ => Or.inr (Or.inr (Or.inr (Or.inl ⟨rfl, rfl, rfl, rfl, rfl⟩)))
  | 19, _ => Or.inr (Or.inr (Or.inr (Or.inl ⟨rfl, rfl, rfl, rfl, rfl⟩)))
  | 20, _ => Or.inr (Or.inr (Or.inr (Or.inl ⟨rfl, rfl, rfl, rfl, rfl⟩)))
  | 21, _ => Or.inr (Or.inr (Or.inr (Or.inl ⟨rfl, rfl, rfl, rfl, rfl⟩)))
  | 22, _ => Or.inr (Or.inr (Or.inl ⟨rfl, rfl, rfl, rfl, rfl⟩))
  | 23, _ => Or.inr (Or.inr (Or.inl ⟨rfl, rfl, rfl, rfl, rfl⟩))
  | 24, _ => Or.inr (Or.inr (Or.inr (Or.inr (⟨rfl, rfl, rfl, rfl, rfl⟩))))
  | 25, _ => Or.inr (Or.inr (Or.inl ⟨rfl, rfl, rfl, rfl, rfl⟩))
  | 26, _ => Or.inr (Or.inr (Or.inl ⟨rfl, rfl, rfl, rfl, rfl⟩))
  | 27, _ => Or.inr (Or.inr (Or.inl ⟨rfl, rfl, rfl, rfl, rfl⟩))
  | 28, _ => Or.inr (Or.inr (Or.inr (Or.inr (⟨rfl, rfl, rfl, rfl, rfl⟩))))
  | 29, _ => Or.inr (Or.inr (Or.inr (Or.inr (⟨rfl, rfl, rfl, rfl, rfl⟩))))
  | n + 30, h => by omega

/-- What isa.Valid computes. -/
def vld (n : Nat) (a b c i : Int) : Bool := decide (n < 30) && vldS (uA n) (uB n) (uC n) (uI n) (flo n) (fhi n) a b c i

theorem valid_any (n : Nat) (a b c i : Int) (w : World) (hT : Tab w) :
    Calls Tryd.prog 21 #[.agg #[.int .u8 n, .int .i64 a, .int .i64 b, .int .i64 c, .int .i64 i]] w fun e w' => e = .returned (.bool (vld n a b c i)) ∧ Below w.heap.size w w' := by
  by_cases hn : n < 30
  · have hf := fmtAt hT n hn
    rcases shape n hn with ⟨h, h1, h2, h3, h4⟩ | ⟨h, h1, h2, h3, h4⟩ | ⟨h, h1, h2, h3, h4⟩ | ⟨h, h1, h2, h3, h4⟩ | ⟨h, h1, h2, h3, h4⟩
    all_goals rw [h] at hf; simp only [vld, hn, decide_true, Bool.true_and, h1, h2, h3, h4]
    · exact valid_none n a b c i _ _ _ _ _ w hn hf
    · exact valid_abc n a b c i _ _ _ _ _ w hn hf
    · exact valid_ai n a b c i _ _ _ _ _ w hn hf
    · exact valid_abi n a b c i _ _ _ _ _ w hn hf
    · exact valid_i n a b c i _ _ _ _ _ w hn hf
  · simp only [vld, hn, decide_false, Bool.false_and]
    exact valid_big n a b c i w (by omega)

/-- The row's list gives it. -/
theorem tab_of_laid {w : World} {nm : String} {rest : List (String × DataW Unit)} (hg : Tryd.prog.globalNamed nm = some 0) (h : laidMet Tryd.prog ((nm, Rows.laid_ontime_isa_formats) :: rest) w) : Tab w := by
  obtain ⟨et, fr, hc⟩ := cells_of_head (g := 0) (t := 76) 3 hg (by kernel_rfl) (by kernel_rfl) h
  refine ⟨?_, fun i _ => ?_⟩
  · rcases Nat.lt_or_ge 0 w.heap.size with h | h
    · exact h
    · rw [Array.getElem?_eq_none (by omega)] at hc; cases hc
  · unfold World.cell?
    rw [hc]
    simp [fcells]

end Go.Proofs.YtpachmkklppmjaaDoor
