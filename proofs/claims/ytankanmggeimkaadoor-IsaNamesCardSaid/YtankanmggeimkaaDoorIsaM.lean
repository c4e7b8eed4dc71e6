/- The walks of the law IsaNames. -/
import Derived.Test.YtankanmggeimkaaDoorIsaL
set_option linter.unusedVariables false
set_option linter.unusedSimpArgs false
namespace Go.Proofs.YtankanmggeimkaaDoor
open Go.RowKit

set_option maxHeartbeats 1600000 in
theorem names_core (n m : Int) (s t : ByteArray) (xn x19 x20 x21 x22 x23 x24 x26 x29 : Bool) (w : World) (hT : Tab w)
    (HM : Hid (∀ w, Tab w → Calls Tryd.prog 21 #[.int .u8 n] w fun e w' => e = .returned (.string s) ∧ w = w'))
    (HO : Hid (∀ w, Tab w → Calls Tryd.prog 21 #[.int .u8 m] w fun e w' => e = .returned (.string t) ∧ w = w'))
    (HR : Hid (∀ w, Calls Tryd.prog 22 #[.int .u8 n] w fun e w' => e = .returned (.string s) ∧ Below w.heap.size w w'))
    (HB : Hid (∀ w, Calls Tryd.prog 20 #[.int .u8 n] w fun e w' => e = .returned (.bool (x22 || x23 || x24)) ∧ w = w'))
    (HT : Hid (∀ w, Calls Tryd.prog 23 #[.int .u8 n] w fun e w' => e = .returned (.bool (x19 || x20 || x21 || x26 && x29)) ∧ w = w'))
    (h19 : (n == 19) = x19) (h20 : (n == 20) = x20) (h21 : (n == 21) = x21) (h22 : (n == 22) = x22) (h23 : (n == 23) = x23) (h24 : (n == 24) = x24) (h26 : decide (26 ≤ n) = x26) (h29 : decide (n ≤ 29) = x29) (hnm : (n == m) = xn) (HQ : Hid (s.toList = t.toList ↔ (xn = true ∨ (s.toList.isEmpty = true ∧ t.toList.isEmpty = true)))) :
    Calls Tryd.prog 9 #[.int .u8 n, .int .u8 m] w fun e w' => e = .returned (.bool true) ∧ Below w.heap.size w w' := by
  have hz := hT.size
  go_enter Tryd.func9, Tryd.ntmps9
  go_wp2_with fail
  refine (awake_any _ (Tab.of_below hT (by repeat (first | (with_reducible exact Below.refl _ _) | (with_reducible apply bDrewN) | (with_reducible apply Below.drew) | ((with_reducible apply bSet); (focus first | (simp; done) | (simp; omega) | omega)) | ((with_reducible apply bAlloc); (focus first | (simp; done) | (simp; omega) | omega)))))).mono ?_
  rintro e w1 ⟨rfl, hb1⟩
  have hT1 : Tab w1 := Tab.of_below (Tab.of_below hT (by repeat (first | (with_reducible exact Below.refl _ _) | (with_reducible apply bDrewN) | (with_reducible apply Below.drew) | ((with_reducible apply bSet); (focus first | (simp; done) | (simp; omega) | omega)) | ((with_reducible apply bAlloc); (focus first | (simp; done) | (simp; omega) | omega))))) hb1
  have HB1 : Below w.heap.size w w1 := by
    repeat (first | (with_reducible exact Below.refl _ _) | (with_reducible apply bDrewN) | (with_reducible apply Below.drew) | ((with_reducible apply bThen hb1); (focus first | (simp; done) | (simp; omega) | omega)) | ((with_reducible apply bSet); (focus first | (simp; done) | (simp; omega) | omega)) | ((with_reducible apply bAlloc); (focus first | (simp; done) | (simp; omega) | omega)))
  have hsz1 := HB1.size
  clear hb1 
  go_wp2_with fail
  all_goals
    refine (HM.out _ hT1).mono ?_
    rintro e w' ⟨rfl, rfl⟩
    go_wp2_with fail
    refine (HO.out _ hT1).mono ?_
    rintro e w' ⟨rfl, rfl⟩
    go_wp2_with fail
    refine (HR.out _).mono ?_
    rintro e w2 ⟨rfl, hb2⟩
    go_wp2_with (first | (go_at_call 20; refine (HB.out _).mono ?_; rintro e w' ⟨rfl, rfl⟩) | (go_at_call 23; refine (HT.out _).mono ?_; rintro e w' ⟨rfl, rfl⟩))
  all_goals go_ret
  all_goals refine ⟨?_, HB1.trans (hb2.mono hsz1)⟩
  all_goals have q := HQ.out
  all_goals clear HQ HB1 hb2 HM HO HR HB HT
  all_goals first | (simp [*]; done) | (simp; rw [q]; simp [*]; done) | (simp; rw [Bool.eq_iff_iff, beq_iff_eq, q]; simp [*]; done)

theorem fm_inj : ∀ (n m : Nat), n < 30 → m < 30 → fmL.getD n [] = fmL.getD m [] → n = m := by
  intro n m hn hm h
  have hall : ∀ k l : Fin 30, fmL.getD k [] = fmL.getD l [] → k = l := by decide
  have := hall ⟨n, hn⟩ ⟨m, hm⟩ h
  simpa using this
theorem fm_nil : ∀ (n : Nat), n < 30 → (fmL.getD n []).isEmpty = false := by
  intro n hn
  have hall : ∀ k : Fin 30, (fmL.getD k []).isEmpty = false := by decide
  exact hall ⟨n, hn⟩
theorem fm_list (n : Nat) : (fm n).toList = fmL.getD n [] := by
  simp [fm]
theorem fm_over (n : Nat) (h : 30 ≤ n) : fmL.getD n [] = [] := by
  rw [List.getD_eq_getElem?_getD, List.getElem?_eq_none (by simpa [fmL] using h)]
  rfl

theorem names_any (n m : Nat) (w : World) (hT : Tab w) (hn : n < 256) (hm : m < 256) :
    Calls Tryd.prog 9 #[.int .u8 n, .int .u8 m] w fun e w' => e = .returned (.bool true) ∧ Below w.heap.size w w' := by
  refine names_core n m (fm n) (fm m) (n == m) ((n : Int) == 19) ((n : Int) == 20) ((n : Int) == 21) ((n : Int) == 22) ((n : Int) == 23) ((n : Int) == 24) (decide (26 ≤ (n : Int))) (decide ((n : Int) ≤ 29)) w hT
    (fun w hT => mnemonic_any n w hT) (fun w hT => mnemonic_any m w hT) (fun w => rmnemonic_any n w hn) (fun w => isBranch_any n w) (fun w => ?_) rfl rfl rfl rfl rfl rfl rfl rfl ?_ ?_
  · have e : ((n : Int) == 19 || (n : Int) == 20 || (n : Int) == 21 || (n : Int) == 26 || (n : Int) == 27 || (n : Int) == 28 || (n : Int) == 29) = ((n : Int) == 19 || (n : Int) == 20 || (n : Int) == 21 || decide (26 ≤ (n : Int)) && decide ((n : Int) ≤ 29)) := by
      rw [Bool.eq_iff_iff]
      simp only [Bool.or_eq_true, Bool.and_eq_true, beq_iff_eq, decide_eq_true_eq]
      omega
    have h := transfers_any n w
    rw [e] at h
    exact h
  · rw [Bool.eq_iff_iff]; simp; omega
  · show (fm n).toList = (fm m).toList ↔ _
    rw [fm_list, fm_list]
    simp only [beq_iff_eq]
    by_cases h1 : n < 30
    · have i1 := fm_nil n h1
      by_cases h2 : m < 30
      · constructor
        · intro h; exact .inl (fm_inj n m h1 h2 h)
        · rintro (rfl | ⟨h, _⟩)
          · rfl
          · rw [i1] at h; cases h
      · have e2 := fm_over m (by omega)
        rw [e2]
        constructor
        · intro h; rw [h] at i1; cases i1
        · rintro (rfl | ⟨h, _⟩)
          · omega
          · rw [i1] at h; cases h
    · have e1 := fm_over n (by omega)
      rw [e1]
      by_cases h2 : m < 30
      · have i2 := fm_nil m h2
        constructor
        · intro h; rw [← h] at i2; cases i2
        · rintro (rfl | ⟨_, h⟩)
          · omega
          · rw [i2] at h; cases h
      · rw [fm_over m (by omega)]
        simp

end Go.Proofs.YtankanmggeimkaaDoor
