/- Both runs of the law alike; the law's great again, with the bound on the arrays. -/
import Derived.Test.YtifjcknklecdbaaDoorRunM
import Derived.Test.YtifjcknklecdbaaDoorMs32
import Derived.Test.YtifjcknklecdbaaDoorMs19
set_option linter.unusedVariables false
set_option linter.unusedSimpArgs false
namespace Go.Proofs.YtifjcknklecdbaaDoor
open Go.RowKit

def GreatPost2 (R : Int) (an : Nat) (bs : List IBlk) (w : World) (e : Ending) (w' : World) : Prop := ∃ G : Bool, e = .returned (.bool G) ∧ Below w.heap.size w w' ∧ (G = false → an ≤ 10 ∧ 0 ≤ R ∧ R ≤ 30 ∧ bs.length ≤ 12 ∧ ∀ k, k < bs.length → (bs.getD k default).code.length ≤ 40)

set_option maxHeartbeats 3200000 in
set_option maxRecDepth 40000 in
theorem great2_any (nm : ByteArray) (R : Int) (ap : Option Addr) (an ac : Nat) (bv : Value) (bs : List IBlk) (w : World) (hB : BksAt w bv bs) (hl : bs.length ≤ 9223372036854775807) (ha : an ≤ 9223372036854775807) (hcl : ∀ k, k < bs.length → (bs.getD k default).code.length ≤ 9223372036854775807) :
    Calls Tryd.prog 5 #[.agg #[.string nm, .int .i64 R, .slice ap an ac, bv]] w (GreatPost2 R an bs w) := by
  obtain ⟨bp, bcap, rfl⟩ := hB.shape
  have hb0 : Below w.heap.size w (w.alloc (.cells #[.string nm, .int .i64 R, .slice ap an ac, .slice bp bs.length bcap] 25)) := bAlloc (Nat.le_refl _) (Below.refl _ _)
  have HB := Lib.hid hB
  have HB0 := Lib.hid hb0
  have HCL := Lib.hid hcl
  clear hB hb0 hcl
  by_cases h1 : R > 30
  · go_enter Tryd.func5, Tryd.ntmps5
    go_wp2_with fail
    go_ret
    exact Exists.intro true ⟨rfl, HB0.out, fun h => by cases h⟩
  by_cases h2 : R < 0
  · go_enter Tryd.func5, Tryd.ntmps5
    go_wp2_with fail
    go_ret
    exact Exists.intro true ⟨rfl, HB0.out, fun h => by cases h⟩
  by_cases h3 : (bs.length : Int) > 12
  · go_enter Tryd.func5, Tryd.ntmps5
    go_wp2_with fail
    go_ret
    exact Exists.intro true ⟨rfl, HB0.out, fun h => by cases h⟩
  by_cases h4 : (an : Int) > 10
  · go_enter Tryd.func5, Tryd.ntmps5
    go_wp2_with fail
    go_ret
    exact Exists.intro true ⟨rfl, HB0.out, fun h => by cases h⟩
  go_enter Tryd.func5, Tryd.ntmps5
  go_wp2_with fail
  go_loopw [28] (fun s28 wx => ∃ k : Nat, s28 = .int .i64 k ∧ k ≤ bs.length ∧ Hid (∀ i, i < k → (bs.getD i default).code.length ≤ 40) ∧ Hid (Below w.heap.size w wx)) (fun s28 _ => bs.length - (intOf s28).toNat)
  case atStart => exact ⟨0, rfl, Nat.zero_le _, fun i hi => absurd hi (Nat.not_lt_zero i), HB0⟩
  case round =>
    obtain ⟨k, rfl, hk, HQ, HX⟩ := hrel
    obtain ⟨w1, rfl⟩ : ∃ W : World, W = wr := ⟨_, rfl⟩
    by_cases hlt : k < bs.length
    · have hkI : (k : Int) < bs.length := by omega
      obtain ⟨m, off, cap', cp, cc, e1, hm, -, c0, c1, c2, c3, c4⟩ := (HB.out.below HX.out (Nat.le_refl _)).at k hlt
      injection e1 with e1 e2 e3
      subst e1 e3
      have hcl := HCL.out k hlt
      generalize hn : (bs.getD k default).code.length = n at c0 hcl
      have HN := Lib.hid hn
      generalize (bs.getD k default).kind = kd at c1
      generalize (bs.getD k default).x = kx at c2
      generalize (bs.getD k default).tgt = kt at c3
      generalize (bs.getD k default).els = ke at c4
      clear hn e2
      by_cases hx : (n : Int) > 40
      · go_wp2_with fail
        go_ret
        exact Exists.intro true ⟨rfl, HX.out.trans ((bAlloc (Nat.le_refl _) (Below.refl _ _)).mono HX.out.size), fun h => by cases h⟩
      · have hx2 : n ≤ 40 := by omega
        go_wp2_with fail
        go_roundw
        case rel =>
          refine ⟨k + 1, by go_num, by omega, fun i hi => ?_, HX.out.trans ((bAlloc (Nat.le_refl _) (Below.refl _ _)).mono HX.out.size)⟩
          by_cases e : i = k
          · subst e; rw [HN.out]; exact hx2
          · exact HQ.out i (by omega)
        case measure => simp [intOf]; omega
    · have hkn : k = bs.length := by omega
      subst hkn
      go_wp2_with fail
      go_ret
      exact Exists.intro false ⟨rfl, HX.out, fun _ => ⟨by omega, by omega, by omega, by omega, HQ.out⟩⟩

/-- What a run gives back. -/
def RunRes (As Os : List (List Int)) (l : List (Int × Int)) (rd st er : Int) (w : World) (e : Ending) (w' : World) : Prop :=
  ∃ va vo xo, e = .returned (.agg #[va, vo, xo, .int .i64 rd, .int .i64 st, .int .i64 er]) ∧ RdR32 w' va As ∧ RdR32 w' vo Os ∧ RdOut w' xo l ∧ Below w.heap.size w w' ∧ (∀ k, (As.getD k []).length ≤ 9223372036854775807) ∧ (∀ k, (Os.getD k []).length ≤ 9223372036854775807) ∧ l.length ≤ 9223372036854775807
theorem rdR_nil (w : World) : RdR32 w (.slice none 0 0) [] := ⟨none, 0, rfl, fun k hk => absurd hk (Nat.not_lt_zero k)⟩
theorem rdOut_nil (w : World) : RdOut w (.slice none 0 0) [] := ⟨none, 0, rfl, fun k hk => absurd hk (Nat.not_lt_zero k)⟩
theorem RunPost.res {na no : Nat} {r : RS × Nat × Int} {w w' : World} {e : Ending} (h : RunPost 500 na no r w e w') {As Os : List (List Int)} {l : List (Int × Int)} {rd st er : Int} (hA : (List.range na).map r.1.mem = As) (hO : ((List.range no).map fun k => r.1.mem (na + k)) = Os) (hl : r.1.out = l) (hr : (r.1.read : Int) = rd) (hs : (500 : Int) - r.2.1 = st) (he : r.2.2 = er) : RunRes As Os l rd st er w e w' := by
  obtain ⟨va, vo, xo, h1, h2, h3, h4, h5, h6, h7⟩ := h
  subst hA hO hl hr hs he
  refine ⟨va, vo, xo, h1, h2, h3, h4, h5, fun k => ?_, fun k => ?_, h7⟩
  · by_cases hk : k < na
    · rw [List.getD_eq_getElem?_getD, List.getElem?_map, List.getElem?_range hk]
      exact h6 k (by omega)
    · rw [List.getD_eq_getElem?_getD, List.getElem?_eq_none (by simpa using Nat.le_of_not_lt hk)]
      simp
  · by_cases hk : k < no
    · rw [List.getD_eq_getElem?_getD, List.getElem?_map, List.getElem?_range hk]
      exact h6 (na + k) (by omega)
    · rw [List.getD_eq_getElem?_getD, List.getElem?_eq_none (by simpa using Nat.le_of_not_lt hk)]
      simp
/-- A renamed function's names and numbers fit. -/
theorem fnOk_ren {R' : Int} {A S : List Arr} {bs : List IBlk} {num : Int → Int} (h : FnOk A S bs) (hR : R' ≤ 1000) (hv : vFun R' A S (bs.map (renK num)) = true) : FnOk A S (bs.map (renK num)) := by
  refine ⟨h.a, h.s, fun k hk j hj => ?_, fun k hk => ?_⟩
  · have hk' : k < bs.length := by simpa using hk
    rw [map_at _ _ hk'] at hj ⊢
    have hj' : j < (bs.getD k default).code.length := by simpa [renK] using hj
    have := h.i k hk' j hj'
    show (((bs.getD k default).code.map (renI num)).getD j default).sym.size ≤ maxLen ∧ (((bs.getD k default).code.map (renI num)).getD j default).op < 256
    rw [map_at _ _ hj']
    exact this
  · have hb := ((vFun_iff R' A S _).1 hv).2.2.2.2.2 k hk
    have he := ((vBlk_iff _ _ _ _).1 hb).2
    unfold vEnd at he
    split at he
    · simp only [Bool.and_eq_true, isz, decide_eq_true_eq] at he
      omega
    · split at he
      · simp only [Bool.and_eq_true, okR, decide_eq_true_eq] at he
        omega
      · split at he
        · simp only [Bool.and_eq_true, isz, decide_eq_true_eq] at he
          omega
        · cases he
theorem vFun_arr {R : Int} {A S : List Arr} {bs : List IBlk} (h : vFun R A S bs = true) : A.length ≤ 4 ∧ ∀ j, j < A.length → (A.getD j default).2 ≤ 32 := by
  obtain ⟨_, _, h1, h2, _, _⟩ := (vFun_iff R A S bs).1 h
  refine ⟨h1, fun j hj => ?_⟩
  have := h2 j hj
  simp only [okA, Bool.and_eq_true, decide_eq_true_eq] at this
  exact this.2.2
/-- Both runs give the same. -/
theorem run_both {A S : List Arr} {bs : List IBlk} {ls os : List (List Int)} {inp : List Int} {R : Nat} {P : Nat → Int × Int} {n : Int} (hv : vFun R A S bs = true) (hR : R ≤ 64) (hP : VaG (edgesL R bs) R P n) (hS : S.length ≤ 10) (ho32 : ∀ k, (os.getD k []).length ≤ 35184372087808) (hl32 : ∀ k, (ls.getD k []).length ≤ 35184372087808) :
    ∃ As Os l rd st er, As.length ≤ 10 ∧ Os.length ≤ 10 ∧ (∀ w av bv sv lv ov iv nm, RunIn w av bv sv lv ov iv A S bs ls os inp → Calls Tryd.prog 8 #[.agg #[.string nm, .int .i64 R, av, bv], sv, lv, ov, iv, .int .i64 500] w (RunRes As Os l rd st er w)) ∧
      ∀ w av bv sv lv ov iv nm, RunIn w av bv sv lv ov iv A S (bs.map (renK (numP R P))) ls os inp → Calls Tryd.prog 8 #[.agg #[.string nm, .int .i64 (8 + n), av, bv], sv, lv, ov, iv, .int .i64 500] w (RunRes As Os l rd st er w) := by
  obtain ⟨R', hR'⟩ : ∃ R' : Nat, 8 + n = (R' : Int) := ⟨(8 + n).toNat, by have := hP.pos; omega⟩
  have hRb : R' ≤ 100 := by have := hP.big; omega
  have hA4 := (vFun_arr hv).1
  obtain ⟨hsame, hv'⟩ := runs_alike apW (idxN A S) inp hv hR hP hR' 500 (memL ls os A.length)
  by_cases hlen : lensOk A ls ∧ lensOk S os
  · have hy1 := fun w av bv sv lv ov iv nm h => @run_yes w av bv sv lv ov iv A S bs ls os inp h nm R (by omega) (by omega) 500 (by omega) hv hlen.1 hlen.2 hl32 ho32
    have hy2 := fun w av bv sv lv ov iv nm h => @run_yes w av bv sv lv ov iv A S (bs.map (renK (numP R P))) ls os inp h nm R' (by omega) (by omega) 500 (by omega) hv' hlen.1 hlen.2 hl32 ho32
    generalize runR apW (idxN A S) inp bs 500 0 0 (startR R (memL ls os A.length)) = r1 at hsame hy1
    generalize runR apW (idxN A S) inp (bs.map (renK (numP R P))) 500 0 0 (startR R' (memL ls os A.length)) = r2 at hsame hy2
    obtain ⟨h1, h2, h3, h4, h5⟩ := hsame
    refine ⟨(List.range A.length).map r1.1.mem, (List.range S.length).map fun k => r1.1.mem (A.length + k), r1.1.out, r1.1.read, 500 - r1.2.1, r1.2.2, by simp; omega, by simp; omega, fun w av bv sv lv ov iv nm h => (hy1 w av bv sv lv ov iv nm h).mono fun e w' hx => hx.res rfl rfl rfl rfl rfl rfl, fun w av bv sv lv ov iv nm h => ?_⟩
    rw [hR']
    exact (hy2 w av bv sv lv ov iv nm h).mono fun e w' hx => hx.res (by rw [h3]) (by rw [h3]) h4 (by rw [h5]) (by rw [h1]) h2
  · have hno : ∀ R0 : Int, ∀ b0, ¬ (vFun R0 A S b0 = true ∧ lensOk A ls ∧ lensOk S os) := fun R0 b0 h => hlen h.2
    exact ⟨[], [], [], 0, 0, 3, by simp, by simp, fun w av bv sv lv ov iv nm h => (run_no h nm R 500 (hno _ _)).mono fun e w' hx => ⟨_, _, _, hx.1, rdR_nil _, rdR_nil _, rdOut_nil _, hx.2, by simp, by simp, by simp⟩,
      fun w av bv sv lv ov iv nm h => (run_no h nm _ 500 (hno _ _)).mono fun e w' hx => ⟨_, _, _, hx.1, rdR_nil _, rdR_nil _, rdOut_nil _, hx.2, by simp, by simp, by simp⟩⟩
end Go.Proofs.YtifjcknklecdbaaDoor
