/- The reference of layer 20: has, Adjacent, degree, next, free. -/
import Derived.Test.YtikfjehollnjeaaDoorRegB
import Derived.LoopTactic
set_option linter.unusedVariables false
set_option linter.unusedSimpArgs false
namespace Go.Proofs.YtikfjehollnjeaaDoor
open Go.RowKit

set_option maxHeartbeats 800000 in
theorem has_any (v : Value) (l : List Int) (x : Int) (w : World) (h : RdI w v l) (hlen : l.length ≤ 100000) :
    Calls Tryd.prog 31 #[v, .int .i64 x] w fun e w' => e = .returned (.bool (l.contains x)) ∧ w = w' := by
  obtain ⟨p, c, rfl, hp⟩ := h
  go_enter Tryd.func31, Tryd.ntmps31
  go_wp2_with fail
  go_loopw [5] (fun sv wr => ∃ k : Nat, sv = .int .i64 k ∧ k ≤ l.length ∧ (∀ j, j < k → l.getD j 0 ≠ x) ∧ w = wr) (fun sv _ => l.length - (intOf sv).toNat)
  case atStart => exact ⟨0, rfl, Nat.zero_le _, fun j hj => by omega, rfl⟩
  case round =>
    obtain ⟨k, rfl, hk, heq, rfl⟩ := hrel
    have HQ := Lib.hid heq
    clear heq
    by_cases hlt : k < l.length
    · obtain ⟨m1, o1, rfl, hm1, c1⟩ := hp k hlt
      clear hp
      have hltI : (k : Int) < l.length := by omega
      generalize hx : l.getD k 0 = y at c1
      have HX := Lib.hid hx
      clear hx
      by_cases hxy : y = x
      · subst hxy
        go_wp2_with fail
        go_ret
        refine ⟨?_, rfl⟩
        have : l.contains y = true := by
          rw [List.contains_iff_mem, ← HX.out, List.getD_eq_getElem?_getD, List.getElem?_eq_getElem hlt]
          exact List.getElem_mem hlt
        rw [this]; rfl
      · have hb : (y == x) = false := by simpa using hxy
        go_wp2_with fail
        go_roundw
        case rel =>
          refine ⟨k + 1, by go_num, by omega, fun j hj => ?_, by first | trivial | rfl⟩
          rcases Nat.lt_succ_iff_lt_or_eq.1 hj with h | rfl
          · exact HQ.out j h
          · rw [HX.out]; exact hxy
        case measure => simp [intOf]; omega
    · go_wp2_with fail
      go_ret
      refine ⟨?_, rfl⟩
      have : l.contains x = false := by
        refine Bool.eq_false_iff.2 fun hc => ?_
        obtain ⟨j, hj, e⟩ := List.mem_iff_getElem.1 (List.contains_iff_mem.1 hc)
        have := HQ.out j (by omega)
        rw [List.getD_eq_getElem?_getD, List.getElem?_eq_getElem hj] at this
        exact this e
      rw [this]; rfl

/-- Every row has at most this many entries. -/
def RowsMax (e : List (List Int)) (m : Nat) : Prop := ∀ a, (e.getD a []).length ≤ m

set_option maxHeartbeats 800000 in
theorem adj_any (v : Value) (e : List (List Int)) (a b : Nat) (w : World) (h : RdR w v e) (hm : RowsMax e 100000) (ha : a < e.length) (hb : b < e.length) :
    Calls Tryd.prog 13 #[v, .int .i64 a, .int .i64 b] w fun r w' => r = .returned (.bool (adjG e a b)) ∧ w = w' := by
  obtain ⟨m1, o1, cap, q1, c1, rfl, hm1, x1, r1⟩ := h.row a ha
  obtain ⟨m2, o2, cap2, q2, c2, e2, hm2, x2, r2⟩ := h.row b hb
  injection e2 with e2
  injection e2 with e2
  injection e2 with e2 e3
  subst e2 e3
  have H1 := has_any _ _ (b : Int) w r1 (hm a)
  have H2 := has_any _ _ (a : Int) w r2 (hm b)
  have haI : (a : Int) < e.length := by omega
  have hbI : (b : Int) < e.length := by omega
  have G : adjG e a b = (a != b && ((e.getD a []).contains (b : Int) || (e.getD b []).contains (a : Int))) := rfl
  have L1 := hm a
  have L2 := hm b
  generalize e.getD a [] = la at x1 r1 H1 G L1 H2
  generalize e.getD b [] = lb at x2 r2 H2 G L2 H1
  have HG := Lib.hid G
  have HH1 := Lib.hid H1
  have HH2 := Lib.hid H2
  clear G H1 H2 h r1 r2 L1 L2 hm
  go_enter Tryd.func13, Tryd.ntmps13
  by_cases hab : a = b
  · subst hab
    go_wp2_with fail
    go_ret
    refine ⟨?_, rfl⟩
    rw [adj_irr]; rfl
  · have hne : ((a : Int) == (b : Int)) = false := by simp; omega
    have hbn : (a != b) = true := by simp [hab]
    generalize hs1 : la.contains (b : Int) = s1 at HH1 HG
    generalize hs2 : lb.contains (a : Int) = s2 at HH2 HG
    clear hs1 hs2
    cases s1
    · go_wp2_with fail
      refine HH1.out.mono ?_
      rintro e w' ⟨rfl, rfl⟩
      go_wp2_with fail
      refine HH2.out.mono ?_
      rintro e w' ⟨rfl, rfl⟩
      go_wp2_with fail
      go_ret
      refine ⟨?_, rfl⟩
      rw [HG.out, hbn]; rfl
    · go_wp2_with fail
      refine HH1.out.mono ?_
      rintro e w' ⟨rfl, rfl⟩
      go_wp2_with fail
      go_ret
      refine ⟨?_, rfl⟩
      rw [HG.out, hbn]; rfl

def degU (A : Nat → Nat → Bool) (g : List Nat) (a i : Nat) : Nat := (((List.range i).filter (A a)).filter (fun b => !g.contains b)).length
theorem degU_zero (A : Nat → Nat → Bool) (g : List Nat) (a : Nat) : degU A g a 0 = 0 := rfl
theorem degU_le (A : Nat → Nat → Bool) (g : List Nat) (a i : Nat) : degU A g a i ≤ i := Nat.le_trans (List.length_filter_le _ _) (Nat.le_trans (List.length_filter_le _ _) (by simp))
theorem degU_end (n : Nat) (A : Nat → Nat → Bool) (g : List Nat) (a : Nat) : degU A g a n = degG n A g a := rfl
theorem degU_next (A : Nat → Nat → Bool) (g : List Nat) (a i : Nat) : degU A g a (i+1) = degU A g a i + (if (!g.contains i) && A a i then 1 else 0) := by
  unfold degU
  rw [List.range_succ, List.filter_append, List.filter_append, List.length_append]
  congr 1
  cases h1 : A a i <;> cases h2 : g.contains i
  · rw [List.filter_cons_of_neg (by simp [h1])]; simp
  · rw [List.filter_cons_of_neg (by simp [h1])]; simp
  · rw [List.filter_cons_of_pos h1, List.filter_nil, List.filter_cons_of_pos (by simpa using h2)]; simp
  · rw [List.filter_cons_of_pos h1, List.filter_nil, List.filter_cons_of_neg (by simpa using h2)]; simp

/-- a row of marks -/
def MarkAt (w : World) (G n : Nat) (g : List Nat) : Prop := w.rowIs G 4 n (fun i => .bool (g.contains i))
/-- a row of colors -/
def ColAt (w : World) (O n : Nat) (out : List Int) : Prop := w.rowIs O 3 n (fun i => .int .i64 (out.getD i (-1)))

set_option maxHeartbeats 800000 in
theorem degree_any (v : Value) (e : List (List Int)) (G : Nat) (g : List Nat) (a : Nat) (w : World) (h : RdR w v e) (hm : RowsMax e 100000) (hG : MarkAt w G e.length g) (ha : a < e.length) (hn : e.length ≤ 100000) :
    Calls Tryd.prog 62 #[v, .slice (some ⟨G, 0, none⟩) e.length e.length, .int .i64 a] w fun r w' => r = .returned (.int .i64 (degG e.length (adjG e) g a)) ∧ w = w' := by
  obtain ⟨p, cap, rfl⟩ := h.shape
  have HR := Lib.hid h
  have HM := Lib.hid hm
  have HG := Lib.hid hG
  clear h hm hG
  have hgs := HG.out.lt
  go_enter Tryd.func62, Tryd.ntmps62
  go_wp2_with fail
  go_loopw [7, 8] (fun s7 s8 wr => ∃ k d : Nat, s8 = .int .i64 k ∧ s7 = .int .i64 d ∧ k ≤ e.length ∧ d ≤ k ∧ Hid (d = degU (adjG e) g a k) ∧ w = wr) (fun _ s8 _ => e.length - (intOf s8).toNat)
  case atStart => exact ⟨0, 0, rfl, rfl, Nat.zero_le _, Nat.le_refl _, rfl, rfl⟩
  case round =>
    obtain ⟨k, d, rfl, rfl, hk, hd, HD, rfl⟩ := hrel
    by_cases hlt : k < e.length
    · have hltI : (k : Int) < e.length := by omega
      have c1 : w.cell? ⟨G, k, none⟩ = some (.bool (g.contains k)) := HG.out.cell hlt
      have H1 := Lib.hid (adj_any _ e a k w HR.out HM.out ha hlt)
      have HN := Lib.hid (degU_next (adjG e) g a k)
      generalize g.contains k = s at c1 HN
      cases s
      · go_wp2_with fail
        refine H1.out.mono ?_
        rintro r w' ⟨rfl, rfl⟩
        clear H1
        generalize adjG e a k = t at HN ⊢
        cases t
        · go_wp2_with fail
          go_roundw
          case rel => exact ⟨k + 1, d, by go_num, rfl, by omega, by omega, by rw [HD.out]; exact HN.out.symm, by first | trivial | rfl⟩
          case measure => simp [intOf]; omega
        · go_wp2_with fail
          go_roundw
          case rel => exact ⟨k + 1, d + 1, by go_num, by go_num, by omega, by omega, by rw [HD.out]; exact HN.out.symm, by first | trivial | rfl⟩
          case measure => simp [intOf]; omega
      · go_wp2_with fail
        go_roundw
        case rel => exact ⟨k + 1, d, by go_num, rfl, by omega, by omega, by rw [HD.out]; exact HN.out.symm, by first | trivial | rfl⟩
        case measure => simp [intOf]; omega
    · have hkn : k = e.length := by omega
      subst hkn
      go_wp2_with fail
      go_ret
      refine ⟨?_, rfl⟩
      rw [HD.out]; rfl

set_option maxHeartbeats 800000 in
theorem next_any (v : Value) (e : List (List Int)) (G : Nat) (g : List Nat) (c : Int) (w : World) (h : RdR w v e) (hm : RowsMax e 100000) (hG : MarkAt w G e.length g) (hn : e.length ≤ 100000) :
    Calls Tryd.prog 48 #[v, .slice (some ⟨G, 0, none⟩) e.length e.length, .int .i64 c] w fun r w' => r = .returned (.int .i64 (nextG e.length (adjG e) c g)) ∧ w = w' := by
  obtain ⟨p, cap, rfl⟩ := h.shape
  have HR := Lib.hid h
  have HM := Lib.hid hm
  have HG := Lib.hid hG
  clear h hm hG
  have hgs := HG.out.lt
  go_enter Tryd.func48, Tryd.ntmps48
  go_wp2_with fail
  go_loopw [7, 8, 9] (fun s7 s8 s9 wr => ∃ (k : Nat) (b m : Int), s9 = .int .i64 k ∧ s7 = .int .i64 b ∧ s8 = .int .i64 m ∧ k ≤ e.length ∧ -1 ≤ m ∧ m ≤ 100000 ∧ Hid ((b = -1 ∧ m = -1) ∨ (0 ≤ b ∧ m = degG e.length (adjG e) g b.toNat)) ∧ Hid (scanG (degG e.length (adjG e) g) g c (e.length - k) k b = nextG e.length (adjG e) c g) ∧ w = wr) (fun _ _ s9 _ => e.length - (intOf s9).toNat)
  case atStart => exact ⟨0, -1, -1, rfl, rfl, rfl, Nat.zero_le _, by omega, by omega, .inl ⟨rfl, rfl⟩, rfl, rfl⟩
  case round =>
    obtain ⟨k, b, m, rfl, rfl, rfl, hk, hm1, hm2, HB, HS, rfl⟩ := hrel
    by_cases hlt : k < e.length
    · have hltI : (k : Int) < e.length := by omega
      have c1 : w.cell? ⟨G, k, none⟩ = some (.bool (g.contains k)) := HG.out.cell hlt
      have H1 := Lib.hid (degree_any _ e G g k w HR.out HM.out HG.out hlt hn)
      have hdl := degG_le e.length (adjG e) g k
      have HSg := Lib.hid (scan_gone (degG e.length (adjG e) g) g c e.length k b hlt)
      have HSf := Lib.hid (scan_few (degG e.length (adjG e) g) g c e.length k b hlt)
      have HSm := Lib.hid (scan_more (degG e.length (adjG e) g) g c e.length k b hlt)
      generalize g.contains k = s at c1 HSg HSf HSm
      generalize hd : degG e.length (adjG e) g k = d at H1 hdl HSf HSm
      have HD := Lib.hid hd
      clear hd
      cases s
      · go_wp2_with fail
        refine H1.out.mono ?_
        rintro r w' ⟨rfl, rfl⟩
        clear H1
        by_cases h1 : (d : Int) < c
        · go_wp2_with fail
          go_ret
          refine ⟨?_, rfl⟩
          rw [← HS.out, HSf.out (by first | trivial | rfl) h1]; rfl
        · by_cases h2 : (d : Int) > m
          · go_wp2_with fail
            go_roundw
            case rel =>
              refine ⟨k + 1, k, d, by go_num, rfl, rfl, by omega, by omega, by omega, .inr ⟨by omega, by rw [Int.toNat_natCast, HD.out]⟩, ?_, by first | trivial | rfl⟩
              show _ = _
              rw [← HS.out, HSm.out (by first | trivial | rfl) h1, if_pos]
              rcases HB.out with ⟨e1, e2⟩ | ⟨e1, e2⟩
              · left; omega
              · right; omega
            case measure => simp [intOf]; omega
          · go_wp2_with fail
            go_roundw
            case rel =>
              refine ⟨k + 1, b, m, by go_num, rfl, rfl, by omega, by omega, by omega, HB, ?_, by first | trivial | rfl⟩
              show _ = _
              rw [← HS.out, HSm.out (by first | trivial | rfl) h1, if_neg]
              rcases HB.out with ⟨e1, e2⟩ | ⟨e1, e2⟩
              · omega
              · omega
            case measure => simp [intOf]; omega
      · go_wp2_with fail
        go_roundw
        case rel => exact ⟨k + 1, b, m, by go_num, rfl, rfl, by omega, by omega, by omega, HB, (HSg.out (by first | trivial | rfl)).symm.trans HS.out, by first | trivial | rfl⟩
        case measure => simp [intOf]; omega
    · have hkn : k = e.length := by omega
      subst hkn
      go_wp2_with fail
      go_ret
      refine ⟨?_, rfl⟩
      rw [← HS.out, scan_end]; rfl

set_option maxHeartbeats 800000 in
theorem free_any (v : Value) (e : List (List Int)) (O : Nat) (out : List Int) (a c : Nat) (w : World) (h : RdR w v e) (hm : RowsMax e 100000) (hO : ColAt w O e.length out) (ha : a < e.length) (hn : e.length ≤ 100000) :
    Calls Tryd.prog 49 #[v, .slice (some ⟨O, 0, none⟩) e.length e.length, .int .i64 a, .int .i64 c] w fun r w' => r = .returned (.bool (freeG e.length (adjG e) out a c)) ∧ w = w' := by
  obtain ⟨p, cap, rfl⟩ := h.shape
  have HR := Lib.hid h
  have HM := Lib.hid hm
  have HO := Lib.hid hO
  clear h hm hO
  have hgs := HO.out.lt
  go_enter Tryd.func49, Tryd.ntmps49
  go_wp2_with fail
  go_loopw [9] (fun s9 wr => ∃ k : Nat, s9 = .int .i64 k ∧ k ≤ e.length ∧ Hid (∀ b, b < k → adjG e a b = true → out.getD b (-1) ≠ (c : Int)) ∧ w = wr) (fun s9 _ => e.length - (intOf s9).toNat)
  case atStart => exact ⟨0, rfl, Nat.zero_le _, fun b hb => by omega, rfl⟩
  case round =>
    obtain ⟨k, rfl, hk, HQ, rfl⟩ := hrel
    by_cases hlt : k < e.length
    · have hltI : (k : Int) < e.length := by omega
      have c1 : w.cell? ⟨O, k, none⟩ = some (.int .i64 (out.getD k (-1))) := HO.out.cell hlt
      have H1 := Lib.hid (adj_any _ e a k w HR.out HM.out ha hlt)
      generalize hx : out.getD k (-1) = x at c1
      have HX := Lib.hid hx
      clear hx
      by_cases hxc : x = (c : Int)
      · subst hxc
        go_wp2_with fail
        refine H1.out.mono ?_
        rintro r w' ⟨rfl, rfl⟩
        clear H1
        generalize ht : adjG e a k = t
        have HT := Lib.hid ht
        clear ht
        cases t
        · go_wp2_with fail
          go_roundw
          case rel =>
            refine ⟨k + 1, by go_num, by omega, fun b hb hA => ?_, by first | trivial | rfl⟩
            rcases Nat.lt_succ_iff_lt_or_eq.1 hb with h | rfl
            · exact HQ.out b h hA
            · rw [HT.out] at hA; cases hA
          case measure => simp [intOf]; omega
        · go_wp2_with fail
          go_ret
          refine ⟨?_, rfl⟩
          have : freeG e.length (adjG e) out a c = false := by
            refine Bool.eq_false_iff.2 fun hf => ?_
            have := List.all_eq_true.1 hf k (mem_nbs.2 ⟨hlt, HT.out⟩)
            rw [HX.out] at this
            simp at this
          rw [this]; rfl
      · have hb : (x == (c : Int)) = false := by simpa using hxc
        go_wp2_with fail
        go_roundw
        case rel =>
          refine ⟨k + 1, by go_num, by omega, fun b hb hA => ?_, by first | trivial | rfl⟩
          rcases Nat.lt_succ_iff_lt_or_eq.1 hb with h | rfl
          · exact HQ.out b h hA
          · rw [HX.out]; exact hxc
        case measure => simp [intOf]; omega
    · have hkn : k = e.length := by omega
      go_wp2_with fail
      go_ret
      refine ⟨?_, rfl⟩
      have : freeG e.length (adjG e) out a c = true := List.all_eq_true.2 fun b hb => by
        rw [mem_nbs] at hb
        have := HQ.out b (by omega) hb.2
        simpa using this
      rw [this]; rfl
end Go.Proofs.YtikfjehollnjeaaDoor
