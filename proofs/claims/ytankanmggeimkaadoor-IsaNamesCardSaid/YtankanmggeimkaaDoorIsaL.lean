/- Mnemonics: the program's and the reference's. -/
import Derived.Test.YtankanmggeimkaaDoorIsaD
set_option linter.unusedVariables false
set_option linter.unusedSimpArgs false
namespace Go.Proofs.YtankanmggeimkaaDoor
open Go.RowKit

theorem fm_big (n : Nat) (h : 30 ≤ n) : fm n = ⟨#[]⟩ := by
  unfold fm
  rw [List.getD_eq_getElem?_getD, List.getElem?_eq_none (by simpa [fmL] using h)]
  rfl

theorem mnemonic_any (n : Nat) (w : World) (hT : Tab w) : Calls Tryd.prog 21 #[.int .u8 n] w fun e w' => e = .returned (.string (fm n)) ∧ w = w' := by
  by_cases hn : n < 30
  · obtain ⟨h0, -, -, -, -, -, hz⟩ := fmtAt hT n hn
    go_enter Tryd.func21, Tryd.ntmps21
    go_wp2
    go_ret
    exact ⟨rfl, rfl⟩
  · have hn' : 30 ≤ n := by omega
    rw [fm_big n hn']
    go_enter Tryd.func21, Tryd.ntmps21
    go_wp2
    go_ret
    exact ⟨rfl, rfl⟩

theorem transfers_any (c : Int) (w : World) :
    Calls Tryd.prog 23 #[.int .u8 c] w fun e w' => e = .returned (.bool (c == 19 || c == 20 || c == 21 || c == 26 || c == 27 || c == 28 || c == 29)) ∧ w = w' := by
  go_enter Tryd.func23, Tryd.ntmps23
  go_wp2
  all_goals (go_ret; simp_all)

theorem rmnemonic_big (n : Nat) (w : World) (hn : 30 ≤ n) (hn2 : n < 256) : Calls Tryd.prog 22 #[.int .u8 n] w fun e w' => e = .returned (.string ⟨#[]⟩) ∧ Below w.heap.size w w' := by
  go_enter Tryd.func22, Tryd.ntmps22
  go_wp2
  go_ret
  refine ⟨rfl, ?_⟩
  repeat (first | (with_reducible exact Below.refl _ _) | (with_reducible apply bDrewN) | (with_reducible apply Below.drew) | ((with_reducible apply bSet); (focus first | (simp; done) | (simp; omega) | omega)) | ((with_reducible apply bAlloc); (focus first | (simp; done) | (simp; omega) | omega)))
theorem rmnemonic_0 (w : World) : Calls Tryd.prog 22 #[.int .u8 0] w fun e w' => e = .returned (.string (fm 0)) ∧ Below w.heap.size w w' := by
  go_enter Tryd.func22, Tryd.ntmps22
  go_wp2
  go_ret
  refine ⟨rfl, ?_⟩
  repeat (first | (with_reducible exact Below.refl _ _) | (with_reducible apply bDrewN) | (with_reducible apply Below.drew) | ((with_reducible apply bSet); (focus first | (simp; done) | (simp; omega) | omega)) | ((with_reducible apply bAlloc); (focus first | (simp; done) | (simp; omega) | omega)))
theorem rmnemonic_1 (w : World) : Calls Tryd.prog 22 #[.int .u8 1] w fun e w' => e = .returned (.string (fm 1)) ∧ Below w.heap.size w w' := by
  go_enter Tryd.func22, Tryd.ntmps22
  go_wp2
  go_ret
  refine ⟨rfl, ?_⟩
  repeat (first | (with_reducible exact Below.refl _ _) | (with_reducible apply bDrewN) | (with_reducible apply Below.drew) | ((with_reducible apply bSet); (focus first | (simp; done) | (simp; omega) | omega)) | ((with_reducible apply bAlloc); (focus first | (simp; done) | (simp; omega) | omega)))
theorem rmnemonic_2 (w : World) : Calls Tryd.prog 22 #[.int .u8 2] w fun e w' => e = .returned (.string (fm 2)) ∧ Below w.heap.size w w' := by
  go_enter Tryd.func22, Tryd.ntmps22
  go_wp2
  go_ret
  refine ⟨rfl, ?_⟩
  repeat (first | (with_reducible exact Below.refl _ _) | (with_reducible apply bDrewN) | (with_reducible apply Below.drew) | ((with_reducible apply bSet); (focus first | (simp; done) | (simp; omega) | omega)) | ((with_reducible apply bAlloc); (focus first | (simp; done) | (simp; omega) | omega)))
theorem rmnemonic_3 (w : World) : Calls Tryd.prog 22 #[.int .u8 3] w fun e w' => e = .returned (.string (fm 3)) ∧ Below w.heap.size w w' := by
  go_enter Tryd.func22, Tryd.ntmps22
  go_wp2
  go_ret
  refine ⟨rfl, ?_⟩
  repeat (first | (with_reducible exact Below.refl _ _) | (with_reducible apply bDrewN) | (with_reducible apply Below.drew) | ((with_reducible apply bSet); (focus first | (simp; done) | (simp; omega) | omega)) | ((with_reducible apply bAlloc); (focus first | (simp; done) | (simp; omega) | omega)))
theorem rmnemonic_4 (w : World) : Calls Tryd.prog 22 #[.int .u8 4] w fun e w' => e = .returned (.string (fm 4)) ∧ Below w.heap.size w w' := by
  go_enter Tryd.func22, Tryd.ntmps22
  go_wp2
  go_ret
  refine ⟨rfl, ?_⟩
  repeat (first | (with_reducible exact Below.refl _ _) | (with_reducible apply bDrewN) | (with_reducible apply Below.drew) | ((with_reducible apply bSet); (focus first | (simp; done) | (simp; omega) | omega)) | ((with_reducible apply bAlloc); (focus first | (simp; done) | (simp; omega) | omega)))
theorem rmnemonic_5 (w : World) : Calls Tryd.prog 22 #[.int .u8 5] w fun e w' => e = .returned (.string (fm 5)) ∧ Below w.heap.size w w' := by
  go_enter Tryd.func22, Tryd.ntmps22
  go_wp2
  go_ret
  refine ⟨rfl, ?_⟩
  repeat (first | (with_reducible exact Below.refl _ _) | (with_reducible apply bDrewN) | (with_reducible apply Below.drew) | ((with_reducible apply bSet); (focus first | (simp; done) | (simp; omega) | omega)) | ((with_reducible apply bAlloc); (focus first | (simp; done) | (simp; omega) | omega)))
theorem rmnemonic_6 (w : World) : Calls Tryd.prog 22 #[.int .u8 6] w fun e w' => e = .returned (.string (fm 6)) ∧ Below w.heap.size w w' := by
  go_enter Tryd.func22, Tryd.ntmps22
  go_wp2
  go_ret
  refine ⟨rfl, ?_⟩
  repeat (first | (with_reducible exact Below.refl _ _) | (with_reducible apply bDrewN) | (with_reducible apply Below.drew) | ((with_reducible apply bSet); (focus first | (simp; done) | (simp; omega) | omega)) | ((with_reducible apply bAlloc); (focus first | (simp; done) | (simp; omega) | omega)))
theorem rmnemonic_7 (w : World) : Calls Tryd.prog 22 #[.int .u8 7] w fun e w' => e = .returned (.string (fm 7)) ∧ Below w.heap.size w w' := by
  go_enter Tryd.func22, Tryd.ntmps22
  go_wp2
  go_ret
  refine ⟨rfl, ?_⟩
  repeat (first | (with_reducible exact Below.refl _ _) | (with_reducible apply bDrewN) | (with_reducible apply Below.drew) | ((with_reducible apply bSet); (focus first | (simp; done) | (simp; omega) | omega)) | ((with_reducible apply bAlloc); (focus first | (simp; done) | (simp; omega) | omega)))
theorem rmnemonic_8 (w : World) : Calls Tryd.prog 22 #[.int .u8 8] w fun e w' => e = .returned (.string (fm 8)) ∧ Below w.heap.size w w' := by
  go_enter Tryd.func22, Tryd.ntmps22
  go_wp2
  go_ret
  refine ⟨rfl, ?_⟩
  repeat (first | (with_reducible exact Below.refl _ _) | (with_reducible apply bDrewN) | (with_reducible apply Below.drew) | ((with_reducible apply bSet); (focus first | (simp; done) | (simp; omega) | omega)) | ((with_reducible apply bAlloc); (focus first | (simp; done) | (simp; omega) | omega)))
theorem rmnemonic_9 (w : World) : Calls Tryd.prog 22 #[.int .u8 9] w fun e w' => e = .returned (.string (fm 9)) ∧ Below w.heap.size w w' := by
  go_enter Tryd.func22, Tryd.ntmps22
  go_wp2
  go_ret
  refine ⟨rfl, ?_⟩
  repeat (first | (with_reducible exact Below.refl _ _) | (with_reducible apply bDrewN) | (with_reducible apply Below.drew) | ((with_reducible apply bSet); (focus first | (simp; done) | (simp; omega) | omega)) | ((with_reducible apply bAlloc); (focus first | (simp; done) | (simp; omega) | omega)))
theorem rmnemonic_10 (w : World) : Calls Tryd.prog 22 #[.int .u8 10] w fun e w' => e = .returned (.string (fm 10)) ∧ Below w.heap.size w w' := by
  go_enter Tryd.func22, Tryd.ntmps22
  go_wp2
  go_ret
  refine ⟨rfl, ?_⟩
  repeat (first | (with_reducible exact Below.refl _ _) | (with_reducible apply bDrewN) | (with_reducible apply Below.drew) | ((with_reducible apply bSet); (focus first | (simp; done) | (simp; omega) | omega)) | ((with_reducible apply bAlloc); (focus first | (simp; done) | (simp; omega) | omega)))
theorem rmnemonic_11 (w : World) : Calls Tryd.prog 22 #[.int .u8 11] w fun e w' => e = .returned (.string (fm 11)) ∧ Below w.heap.size w w' := by
  go_enter Tryd.func22, Tryd.ntmps22
  go_wp2
  go_ret
  refine ⟨rfl, ?_⟩
  repeat (first | (with_reducible exact Below.refl _ _) | (with_reducible apply bDrewN) | (with_reducible apply Below.drew) | ((with_reducible apply bSet); (focus first | (simp; done) | (simp; omega) | omega)) | ((with_reducible apply bAlloc); (focus first | (simp; done) | (simp; omega) | omega)))
theorem rmnemonic_12 (w : World) : Calls Tryd.prog 22 #[.int .u8 12] w fun e w' => e = .returned (.string (fm 12)) ∧ Below w.heap.size w w' := by
  go_enter Tryd.func22, Tryd.ntmps22
  go_wp2
  go_ret
  refine ⟨rfl, ?_⟩
  repeat (first | (with_reducible exact Below.refl _ _) | (with_reducible apply bDrewN) | (with_reducible apply Below.drew) | ((with_reducible apply bSet); (focus first | (simp; done) | (simp; omega) | omega)) | ((with_reducible apply bAlloc); (focus first | (simp; done) | (simp; omega) | omega)))
theorem rmnemonic_13 (w : World) : Calls Tryd.prog 22 #[.int .u8 13] w fun e w' => e = .returned (.string (fm 13)) ∧ Below w.heap.size w w' := by
  go_enter Tryd.func22, Tryd.ntmps22
  go_wp2
  go_ret
  refine ⟨rfl, ?_⟩
  repeat (first | (with_reducible exact Below.refl _ _) | (with_reducible apply bDrewN) | (with_reducible apply Below.drew) | ((with_reducible apply bSet); (focus first | (simp; done) | (simp; omega) | omega)) | ((with_reducible apply bAlloc); (focus first | (simp; done) | (simp; omega) | omega)))
theorem rmnemonic_14 (w : World) : Calls Tryd.prog 22 #[.int .u8 14] w fun e w' => e = .returned (.string (fm 14)) ∧ Below w.heap.size w w' := by
  go_enter Tryd.func22, Tryd.ntmps22
  go_wp2
  go_ret
  refine ⟨rfl, ?_⟩
  repeat (first | (with_reducible exact Below.refl _ _) | (with_reducible apply bDrewN) | (with_reducible apply Below.drew) | ((with_reducible apply bSet); (focus first | (simp; done) | (simp; omega) | omega)) | ((with_reducible apply bAlloc); (focus first | (simp; done) | (simp; omega) | omega)))
theorem rmnemonic_15 (w : World) : Calls Tryd.prog 22 #[.int .u8 15] w fun e w' => e = .returned (.string (fm 15)) ∧ Below w.heap.size w w' := by
  go_enter Tryd.func22, Tryd.ntmps22
  go_wp2
  go_ret
  refine ⟨rfl, ?_⟩
  repeat (first | (with_reducible exact Below.refl _ _) | (with_reducible apply bDrewN) | (with_reducible apply Below.drew) | ((with_reducible apply bSet); (focus first | (simp; done) | (simp; omega) | omega)) | ((with_reducible apply bAlloc); (focus first | (simp; done) | (simp; omega) | omega)))
theorem rmnemonic_16 (w : World) : Calls Tryd.prog 22 #[.int .u8 16] w fun e w' => e = .returned (.string (fm 16)) ∧ Below w.heap.size w w' := by
  go_enter Tryd.func22, Tryd.ntmps22
  go_wp2
  go_ret
  refine ⟨rfl, ?_⟩
  repeat (first | (with_reducible exact Below.refl _ _) | (with_reducible apply bDrewN) | (with_reducible apply Below.drew) | ((with_reducible apply bSet); (focus first | (simp; done) | (simp; omega) | omega)) | ((with_reducible apply bAlloc); (focus first | (simp; done) | (simp; omega) | omega)))
theorem rmnemonic_17 (w : World) : Calls Tryd.prog 22 #[.int .u8 17] w fun e w' => e = .returned (.string (fm 17)) ∧ Below w.heap.size w w' := by
  go_enter Tryd.func22, Tryd.ntmps22
  go_wp2
  go_ret
  refine ⟨rfl, ?_⟩
  repeat (first | (with_reducible exact Below.refl _ _) | (with_reducible apply bDrewN) | (with_reducible apply Below.drew) | ((with_reducible apply bSet); (focus first | (simp; done) | (simp; omega) | omega)) | ((with_reducible apply bAlloc); (focus first | (simp; done) | (simp; omega) | omega)))
theorem rmnemonic_18 (w : World) : Calls Tryd.prog 22 #[.int .u8 18] w fun e w' => e = .returned (.string (fm 18)) ∧ Below w.heap.size w w' := by
  go_enter Tryd.func22, Tryd.ntmps22
  go_wp2
  go_ret
  refine ⟨rfl, ?_⟩
  repeat (first | (with_reducible exact Below.refl _ _) | (with_reducible apply bDrewN) | (with_reducible apply Below.drew) | ((with_reducible apply bSet); (focus first | (simp; done) | (simp; omega) | omega)) | ((with_reducible apply bAlloc); (focus first | (simp; done) | (simp; omega) | omega)))
theorem rmnemonic_19 (w : World) : Calls Tryd.prog 22 #[.int .u8 19] w fun e w' => e = .returned (.string (fm 19)) ∧ Below w.heap.size w w' := by
  go_enter Tryd.func22, Tryd.ntmps22
  go_wp2
  go_ret
  refine ⟨rfl, ?_⟩
  repeat (first | (with_reducible exact Below.refl _ _) | (with_reducible apply bDrewN) | (with_reducible apply Below.drew) | ((with_reducible apply bSet); (focus first | (simp; done) | (simp; omega) | omega)) | ((with_reducible apply bAlloc); (focus first | (simp; done) | (simp; omega) | omega)))
theorem rmnemonic_20 (w : World) : Calls Tryd.prog 22 #[.int .u8 20] w fun e w' => e = .returned (.string (fm 20)) ∧ Below w.heap.size w w' := by
  go_enter Tryd.func22, Tryd.ntmps22
  go_wp2
  go_ret
  refine ⟨rfl, ?_⟩
  repeat (first | (with_reducible exact Below.refl _ _) | (with_reducible apply bDrewN) | (with_reducible apply Below.drew) | ((with_reducible apply bSet); (focus first | (simp; done) | (simp; omega) | omega)) | ((with_reducible apply bAlloc); (focus first | (simp; done) | (simp; omega) | omega)))
theorem rmnemonic_21 (w : World) : Calls Tryd.prog 22 #[.int .u8 21] w fun e w' => e = .returned (.string (fm 21)) ∧ Below w.heap.size w w' := by
  go_enter Tryd.func22, Tryd.ntmps22
  go_wp2
  go_ret
  refine ⟨rfl, ?_⟩
  repeat (first | (with_reducible exact Below.refl _ _) | (with_reducible apply bDrewN) | (with_reducible apply Below.drew) | ((with_reducible apply bSet); (focus first | (simp; done) | (simp; omega) | omega)) | ((with_reducible apply bAlloc); (focus first | (simp; done) | (simp; omega) | omega)))
theorem rmnemonic_22 (w : World) : Calls Tryd.prog 22 #[.int .u8 22] w fun e w' => e = .returned (.string (fm 22)) ∧ Below w.heap.size w w' := by
  go_enter Tryd.func22, Tryd.ntmps22
  go_wp2
  go_ret
  refine ⟨rfl, ?_⟩
  repeat (first | (with_reducible exact Below.refl _ _) | (with_reducible apply bDrewN) | (with_reducible apply Below.drew) | ((with_reducible apply bSet); (focus first | (simp; done) | (simp; omega) | omega)) | ((with_reducible apply bAlloc); (focus first | (simp; done) | (simp; omega) | omega)))
theorem rmnemonic_23 (w : World) : Calls Tryd.prog 22 #[.int .u8 23] w fun e w' => e = .returned (.string (fm 23)) ∧ Below w.heap.size w w' := by
  go_enter Tryd.func22, Tryd.ntmps22
  go_wp2
  go_ret
  refine ⟨rfl, ?_⟩
  repeat (first | (with_reducible exact Below.refl _ _) | (with_reducible apply bDrewN) | (with_reducible apply Below.drew) | ((with_reducible apply bSet); (focus first | (simp; done) | (simp; omega) | omega)) | ((with_reducible apply bAlloc); (focus first | (simp; done) | (simp; omega) | omega)))
theorem rmnemonic_24 (w : World) : Calls Tryd.prog 22 #[.int .u8 24] w fun e w' => e = .returned (.string (fm 24)) ∧ Below w.heap.size w w' := by
  go_enter Tryd.func22, Tryd.ntmps22
  go_wp2
  go_ret
  refine ⟨rfl, ?_⟩
  repeat (first | (with_reducible exact Below.refl _ _) | (with_reducible apply bDrewN) | (with_reducible apply Below.drew) | ((with_reducible apply bSet); (focus first | (simp; done) | (simp; omega) | omega)) | ((with_reducible apply bAlloc); (focus first | (simp; done) | (simp; omega) | omega)))
theorem rmnemonic_25 (w : World) : Calls Tryd.prog 22 #[.int .u8 25] w fun e w' => e = .returned (.string (fm 25)) ∧ Below w.heap.size w w' := by
  go_enter Tryd.func22, Tryd.ntmps22
  go_wp2
  go_ret
  refine ⟨rfl, ?_⟩
  repeat (first | (with_reducible exact Below.refl _ _) | (with_reducible apply bDrewN) | (with_reducible apply Below.drew) | ((with_reducible apply bSet); (focus first | (simp; done) | (simp; omega) | omega)) | ((with_reducible apply bAlloc); (focus first | (simp; done) | (simp; omega) | omega)))
theorem rmnemonic_26 (w : World) : Calls Tryd.prog 22 #[.int .u8 26] w fun e w' => e = .returned (.string (fm 26)) ∧ Below w.heap.size w w' := by
  go_enter Tryd.func22, Tryd.ntmps22
  go_wp2
  go_ret
  refine ⟨rfl, ?_⟩
  repeat (first | (with_reducible exact Below.refl _ _) | (with_reducible apply bDrewN) | (with_reducible apply Below.drew) | ((with_reducible apply bSet); (focus first | (simp; done) | (simp; omega) | omega)) | ((with_reducible apply bAlloc); (focus first | (simp; done) | (simp; omega) | omega)))
theorem rmnemonic_27 (w : World) : Calls Tryd.prog 22 #[.int .u8 27] w fun e w' => e = .returned (.string (fm 27)) ∧ Below w.heap.size w w' := by
  go_enter Tryd.func22, Tryd.ntmps22
  go_wp2
  go_ret
  refine ⟨rfl, ?_⟩
  repeat (first | (with_reducible exact Below.refl _ _) | (with_reducible apply bDrewN) | (with_reducible apply Below.drew) | ((with_reducible apply bSet); (focus first | (simp; done) | (simp; omega) | omega)) | ((with_reducible apply bAlloc); (focus first | (simp; done) | (simp; omega) | omega)))
theorem rmnemonic_28 (w : World) : Calls Tryd.prog 22 #[.int .u8 28] w fun e w' => e = .returned (.string (fm 28)) ∧ Below w.heap.size w w' := by
  go_enter Tryd.func22, Tryd.ntmps22
  go_wp2
  go_ret
  refine ⟨rfl, ?_⟩
  repeat (first | (with_reducible exact Below.refl _ _) | (with_reducible apply bDrewN) | (with_reducible apply Below.drew) | ((with_reducible apply bSet); (focus first | (simp; done) | (simp; omega) | omega)) | ((with_reducible apply bAlloc); (focus first | (simp; done) | (simp; omega) | omega)))
theorem rmnemonic_29 (w : World) : Calls Tryd.prog 22 #[.int .u8 29] w fun e w' => e = .returned (.string (fm 29)) ∧ Below w.heap.size w w' := by
  go_enter Tryd.func22, Tryd.ntmps22
  go_wp2
  go_ret
  refine ⟨rfl, ?_⟩
  repeat (first | (with_reducible exact Below.refl _ _) | (with_reducible apply bDrewN) | (with_reducible apply Below.drew) | ((with_reducible apply bSet); (focus first | (simp; done) | (simp; omega) | omega)) | ((with_reducible apply bAlloc); (focus first | (simp; done) | (simp; omega) | omega)))
theorem rmnemonic_small : ∀ (n : Nat) (w : World), n < 30 → Calls Tryd.prog 22 #[.int .u8 n] w fun e w' => e = .returned (.string (fm n)) ∧ Below w.heap.size w w'
  | 0, w, _ => rmnemonic_0 w
  | 1, w, _ => rmnemonic_1 w
  | 2, w, _ => rmnemonic_2 w
  | 3, w, _ => rmnemonic_3 w
  | 4, w, _ => rmnemonic_4 w
  | 5, w, _ => rmnemonic_5 w
  | 6, w, _ => rmnemonic_6 w
  | 7, w, _ => rmnemonic_7 w
  | 8, w, _ => rmnemonic_8 w
  | 9, w, _ => rmnemonic_9 w
  | 10, w, _ => rmnemonic_10 w
  | 11, w, _ => rmnemonic_11 w
  | 12, w, _ => rmnemonic_12 w
  | 13, w, _ => rmnemonic_13 w
  | 14, w, _ => rmnemonic_14 w
  | 15, w, _ => rmnemonic_15 w
  | 16, w, _ => rmnemonic_16 w
  | 17, w, _ => rmnemonic_17 w
  | 18, w, _ => rmnemonic_18 w
  | 19, w, _ => rmnemonic_19 w
  | 20, w, _ => rmnemonic_20 w
  | 21, w, _ => rmnemonic_21 w
  | 22, w, _ => rmnemonic_22 w
  | 23, w, _ => rmnemonic_23 w
  | 24, w, _ => rmnemonic_24 w
  | 25, w, _ => rmnemonic_25 w
  | 26, w, _ => rmnemonic_26 w
  | 27, w, _ => rmnemonic_27 w
  | 28, w, _ => rmnemonic_28 w
  | 29, w, _ => rmnemonic_29 w
  | n + 30, w, h => by omega
theorem rmnemonic_any (n : Nat) (w : World) (hn : n < 256) : Calls Tryd.prog 22 #[.int .u8 n] w fun e w' => e = .returned (.string (fm n)) ∧ Below w.heap.size w w' := by
  by_cases h : n < 30
  · exact rmnemonic_small n w h
  · rw [fm_big n (by omega)]
    exact rmnemonic_big n w (by omega) hn

end Go.Proofs.YtankanmggeimkaaDoor
