/- The order of removal: regalloc.removal, by its contract. -/
import Derived.Test.YtifjcknklecdbaaDoorRegG
import Derived.IntWalk
set_option linter.unusedVariables false
set_option linter.unusedSimpArgs false
namespace Go.Proofs.YtifjcknklecdbaaDoor
open Go.RowKit

/-- a row of degrees -/
def DegAt (w : World) (d n : Nat) (A : Nat → Nat → Bool) (g : List Nat) : Prop := w.rowIs d 3 n (fun i => .int .i64 (degG n A g i))

set_option maxHeartbeats 1600000 in
theorem nextc_any (n : Nat) (A : Nat → Nat → Bool) (g : List Nat) (c : Int) (dB rB cB dR rR : Nat) (w : World) (hn : n ≤ 1000)
    (h0 : w.cell? ⟨dB, 0, none⟩ = some (.slice (some ⟨dR, 0, none⟩) n n)) (h1 : w.cell? ⟨rB, 0, none⟩ = some (.slice (some ⟨rR, 0, none⟩) n n)) (h2 : w.cell? ⟨cB, 0, none⟩ = some (.int .i64 c))
    (hD : DegAt w dR n A g) (hM : MarkAt w rR n g) (s0 : dB < w.heap.size) (s1 : rB < w.heap.size) (s2 : cB < w.heap.size) :
    Calls Tryd.prog 42 #[.pointer (some ⟨dB, 0, none⟩), .pointer (some ⟨rB, 0, none⟩), .pointer (some ⟨cB, 0, none⟩)] w fun r w' => r = .returned (.int .i64 (nextG n A c g)) ∧ ∃ q, w' = w.drewN q := by
  have HD := Lib.hid hD
  have HM := Lib.hid hM
  clear hD hM
  have hds := HD.out.lt
  have hms := HM.out.lt
  go_enter Tryd.func42, Tryd.ntmps42
  go_wp2_with fail
  go_loopw [4, 8] (fun s4 s8 wr => ∃ (k q : Nat) (b : Int), s8 = .int .i64 k ∧ s4 = .int .i64 b ∧ k ≤ n ∧ (b = -1 ∨ (0 ≤ b ∧ b < n)) ∧ Hid (scanG (degG n A g) g c (n - k) k b = nextG n A c g) ∧ wr = w.drewN q) (fun _ s8 _ => n - (intOf s8).toNat)
  case atStart => exact ⟨0, 0, -1, rfl, rfl, Nat.zero_le _, .inl rfl, rfl, rfl⟩
  case round =>
    obtain ⟨k, q, b, rfl, rfl, hk, hb, HS, rfl⟩ := hrel
    by_cases hlt : k < n
    · have hltI : (k : Int) < n := by omega
      have c1 : w.cell? ⟨rR, k, none⟩ = some (.bool (g.contains k)) := HM.out.cell hlt
      have c2 : w.cell? ⟨dR, k, none⟩ = some (.int .i64 (degG n A g k)) := HD.out.cell hlt
      have hdl := degG_le n A g k
      have HSg := Lib.hid (scan_gone (degG n A g) g c n k b hlt)
      have HSf := Lib.hid (scan_few (degG n A g) g c n k b hlt)
      have HSm := Lib.hid (scan_more (degG n A g) g c n k b hlt)
      generalize g.contains k = s at c1 HSg HSf HSm
      generalize degG n A g k = d at c2 hdl HSf HSm
      cases s
      · by_cases h1' : (d : Int) < c
        · go_wp2_with fail
          go_quiet (fail)
          go_wp2_with fail
          go_ret
          refine ⟨?_, ?_⟩
          · rw [← HS.out, HSf.out (by first | trivial | rfl) h1']; rfl
          · exact ⟨_, by rw [World.drewN_drewN]⟩
        · have HSm2 := Lib.hid (HSm.out (by first | trivial | rfl) h1')
          clear HSm HSf HSg
          rcases hb with rfl | ⟨hb1, hb2⟩
          · go_wp2_with fail
            go_quiet (fail)
            go_wp2_with fail
            go_quiet (fail)
            go_wp2_with fail
            go_roundw
            case rel =>
              refine ⟨k + 1, _, k, by go_num, rfl, by omega, .inr ⟨by omega, by omega⟩, ?_, by first | rfl | (simp [World.drewN_drewN]; rfl)⟩
              show _ = _
              rw [← HS.out, HSm2.out, if_pos (.inl (by omega))]
            case measure => simp [intOf]; omega
          · obtain ⟨bn, rfl⟩ := Int.eq_ofNat_of_zero_le hb1
            have hbn : bn < n := by omega
            have c3 : w.cell? ⟨dR, bn, none⟩ = some (.int .i64 (degG n A g bn)) := HD.out.cell hbn
            have hdl2 := degG_le n A g bn
            have HSm3 := Lib.hid (HSm2.out)
            rw [Int.toNat_natCast] at HSm3
            clear HSm2
            generalize degG n A g bn = d2 at c3 hdl2 HSm3
            by_cases h2' : (d : Int) > d2
            · go_wp2_with fail
              go_quiet (fail)
              go_wp2_with fail
              go_quiet (fail)
              go_wp2_with fail
              go_roundw
              case rel =>
                refine ⟨k + 1, _, k, by go_num, rfl, by omega, .inr ⟨by omega, by omega⟩, ?_, by first | rfl | (simp [World.drewN_drewN]; rfl)⟩
                show _ = _
                rw [← HS.out, HSm3.out, if_pos (.inr (by omega))]
              case measure => simp [intOf]; omega
            · go_wp2_with fail
              go_quiet (fail)
              go_wp2_with fail
              go_quiet (fail)
              go_wp2_with fail
              go_roundw
              case rel =>
                refine ⟨k + 1, _, bn, by go_num, rfl, by omega, .inr ⟨by omega, by omega⟩, ?_, by first | rfl | (simp [World.drewN_drewN]; rfl)⟩
                show _ = _
                rw [← HS.out, HSm3.out, if_neg (by omega)]
              case measure => simp [intOf]; omega
      · go_wp2_with fail
        go_roundw
        case rel => exact ⟨k + 1, q, b, by go_num, rfl, by omega, hb, (HSg.out (by first | trivial | rfl)).symm.trans HS.out, rfl⟩
        case measure => simp [intOf]; omega
    · have hkn : k = n := by omega
      subst hkn
      go_wp2_with fail
      go_ret
      refine ⟨?_, q, rfl⟩
      rw [← HS.out, scan_end]; rfl

theorem deg_start (n : Nat) (A : Nat → Nat → Bool) (i : Nat) : ((nbs n A i).length : Int) = degG n A [] i := by rw [degG_zero]
/-- the three captured variables -/
structure Boxes (b n : Nat) (c : Int) (w : World) : Prop where
  c : w.cell? ⟨b, 0, none⟩ = some (.int .i64 c)
  d : w.cell? ⟨b + 1 + 1, 0, none⟩ = some (.slice (some ⟨b + 1, 0, none⟩) n n)
  r : w.cell? ⟨b + 1 + 1 + 1 + 1, 0, none⟩ = some (.slice (some ⟨b + 1 + 1 + 1, 0, none⟩) n n)
  s : b + 1 + 1 + 1 + 1 < w.heap.size
theorem Boxes.keep {b n : Nat} {c : Int} {w w' : World} (h : Boxes b n c w) (hs : w.heap.size ≤ w'.heap.size) (h0 : w'.heap[b]? = w.heap[b]?) (h2 : w'.heap[b+1+1]? = w.heap[b+1+1]?) (h4 : w'.heap[b+1+1+1+1]? = w.heap[b+1+1+1+1]?) : Boxes b n c w' :=
  ⟨(World.cell?_of_block (a := ⟨b, 0, none⟩) h0).trans h.c, (World.cell?_of_block (a := ⟨b+1+1, 0, none⟩) h2).trans h.d, (World.cell?_of_block (a := ⟨b+1+1+1+1, 0, none⟩) h4).trans h.r, Nat.lt_of_lt_of_le h.s hs⟩
theorem Boxes.below {b n B : Nat} {c : Int} {w w' : World} (h : Boxes b n c w) (hb : Below B w w') (hB : b + 1 + 1 + 1 + 1 < B) : Boxes b n c w' := h.keep hb.size (hb.block _ (by omega)) (hb.block _ (by omega)) (hb.block _ hB)
theorem Boxes.set {b n : Nat} {c : Int} {w : World} (h : Boxes b n c w) {p : Addr} (h0 : p.block ≠ b) (h2 : p.block ≠ b + 1 + 1) (h4 : p.block ≠ b + 1 + 1 + 1 + 1) (v : Value) : Boxes b n c (w.setCell p v) :=
  h.keep (by simp [World.setCell]) (Below.heap_setCell _ _ _ _ h0.symm) (Below.heap_setCell _ _ _ _ h2.symm) (Below.heap_setCell _ _ _ _ h4.symm)
theorem run_make_cap (n : Nat) (hn : n ≤ 100000) (w : World) : (Instr.makeSlice 46 (.int .i64 0) (.int .i64 (n : Int))).run Tryd.prog w = .ok (.slice (some ⟨w.heap.size, 0, none⟩) 0 n) (w.alloc (.cells (madeCells #[.int .i64 0] n) 3)) := by
  obtain ⟨i, hi, hz, hs, hb⟩ := info_parts infoI
  have hr := run_make (P := Tryd.prog) w 46 3 i (.int .i64 0) Tryd.underlying46 hi hz .i64 .i64 0 (n : Int) (Int.le_refl _) (by omega) (by rw [hb]; omega) (by omega)
  simp only [Int.toNat_natCast, hs, Nat.mul_one, Value.cells] at hr
  exact hr
theorem own_row_of_list {w : World} {base : Nat} {v : Value} {n : Nat} {xs : List Int} (h : w.ownsRow base 3 1 v xs.length (xs.map (Value.int .i64))) (hn : xs.length = n) : w.ownsRow base 3 1 v n (xs.map (Value.int .i64)) := by rw [← hn]; exact h

set_option maxHeartbeats 6400000 in
set_option maxRecDepth 20000 in
theorem removal_any (v : Value) (nb : List (List Int)) (n : Nat) (A : Nat → Nat → Bool) (c : Int) (w : World) (h : RdR w v nb) (hl : nb.length = n) (hnb : ∀ i, i < n → nb.getD i [] = upI (nbs n A i)) (hsym : ∀ a b, A a b = A b a) (hn : n ≤ 1000) :
    Calls Tryd.prog 23 #[v, .int .i64 c] w fun r w' => ∃ V, r = .returned V ∧ w'.ownsRow w.heap.size 3 1 V n ((upI (removeG n A c n [])).map (Value.int .i64)) ∧ Below w.heap.size w w' := by
  obtain ⟨p, cap, rfl⟩ := h.shape
  subst hl
  have HR := Lib.hid h
  have HNB := Lib.hid hnb
  have HSY := Lib.hid hsym
  clear h hnb hsym
  have hmf : ∀ (fn : Fn) (first cap : Array Value) (w : World), (Instr.makeFunc fn first cap).run Tryd.prog w = .ok (.func fn first cap) w := fun _ _ _ _ => rfl
  have hmkB := run_make_row' (P := Tryd.prog) 81 4 (.bool false) 1 Tryd.underlying81 infoB rfl .i64 .i64 nb.length (by omega) (by omega)
  have hmkI := run_make_row' (P := Tryd.prog) 46 3 (.int .i64 0) 8 Tryd.underlying46 infoI rfl .i64 .i64 nb.length (by omega) (by omega)
  have hmkC := run_make_cap nb.length (by omega)
  go_enter Tryd.func23, Tryd.ntmps23
  go_wp2_with fail
  go_loopw [22] (fun s22 wr => ∃ k : Nat, s22 = .int .i64 k ∧ k ≤ nb.length ∧ Hid (wr.rowIs (w.heap.size + 1) 3 nb.length (fun i => .int .i64 (if i < k then ((nbs nb.length A i).length : Int) else 0))) ∧ Hid (MarkAt wr (w.heap.size + 1 + 1 + 1) nb.length []) ∧ Hid (Boxes w.heap.size nb.length c wr) ∧ Hid (Below w.heap.size w wr)) (fun s22 _ => nb.length - (intOf s22).toNat)
  case atStart =>
    refine ⟨0, rfl, Nat.zero_le _, ?_, ?_, ?_, ?_⟩
    · have h1 := World.rowIs_made (w.alloc (.cells #[Value.int .i64 c] 3)) (.int .i64 0) nb.length 3
      have h2 : ((w.alloc (.cells #[Value.int .i64 c] 3)).alloc (.cells (madeCells #[Value.int .i64 0] nb.length) 3)).rowIs (w.heap.size + 1) 3 nb.length (fun i => .int .i64 (if i < 0 then ((nbs nb.length A i).length : Int) else 0)) := by
        simpa using h1
      exact ((h2.alloc _).alloc _).alloc _
    · have h1 := mark_made (((w.alloc (.cells #[Value.int .i64 c] 3)).alloc (.cells (madeCells #[Value.int .i64 0] nb.length) 3)).alloc (.cells #[Value.slice (some ⟨w.heap.size + 1, 0, none⟩) nb.length nb.length] 46)) nb.length
      simp only [Go.Deep.nblk_alloc] at h1
      exact World.rowIs.alloc h1 _
    · refine ⟨by simp [go_sem], by simp [go_sem], by simp [go_sem], by simp⟩
    · repeat (first | exact Below.refl _ _ | (apply bAlloc; (simp; try omega)))
  case round =>
    obtain ⟨k, rfl, hk, HW, HMk, HBX, HB⟩ := hrel
    obtain ⟨w1, rfl⟩ : ∃ W : World, W = wr := ⟨_, rfl⟩
    have hs1 := HBX.out.s
    have bd1 := HBX.out.d
    by_cases hlt : k < nb.length
    · have hltI : (k : Int) < nb.length := by omega
      obtain ⟨m1, o1, cap', q, c', e1, hm1, hx0, hr1⟩ := HR.out.row k hlt
      injection e1 with e1 e2 e3
      subst e1 e3
      have hx1 := (HB.out.cell (p := ⟨m1, o1 + k, none⟩) hm1).trans hx0
      rw [HNB.out k hlt, upI_len] at hx1
      clear hr1 hx0
      have hfz : w1.frozen? ⟨w.heap.size + 1, k, none⟩ = false := HW.out.frozen k
      have hcl : w1.cell? ⟨w.heap.size + 1, k, none⟩ = some (.int .i64 0) := by rw [HW.out.cell hlt, if_neg (by omega)]
      go_wp2_with fail
      go_roundw
      case rel =>
        refine ⟨k + 1, by go_num, by omega, (HW.out.set k _).congr fun i hi => ?_, HMk.out.setOther (by show w.heap.size + 1 + 1 + 1 ≠ w.heap.size + 1; omega) _, HBX.out.set (by show w.heap.size + 1 ≠ _; omega) (by show w.heap.size + 1 ≠ _; omega) (by show w.heap.size + 1 ≠ _; omega) _, bSet (by show w.heap.size ≤ w.heap.size + 1; omega) HB.out⟩
        by_cases e1 : i = k
        · subst e1; rw [if_pos rfl, if_pos (by omega)]
        · rw [if_neg e1]
          by_cases e2 : i < k
          · rw [if_pos e2, if_pos (by omega)]
          · rw [if_neg e2, if_neg (by omega)]
      case measure => simp [intOf]; omega
    · have hD0 : DegAt w1 (w.heap.size + 1) nb.length A [] := HW.out.congr fun i hi => by rw [if_pos (by omega), deg_start]
      have HD0 := Lib.hid hD0
      clear hD0 HW
      go_wp2_with fail
      go_loopw [10, 39] (fun s10 s39 wr => ∃ (g : List Nat) (q : Option Addr) (cp : Nat), s39 = .int .i64 (upI g).length ∧ s10 = .slice q (upI g).length cp ∧ (upI g).length ≤ nb.length ∧ Hid (wr.ownsRow w1.heap.size 3 1 (.slice q (upI g).length cp) (upI g).length ((upI g).map (Value.int .i64))) ∧ Hid (DegAt wr (w.heap.size + 1) nb.length A g) ∧ Hid (MarkAt wr (w.heap.size + 1 + 1 + 1) nb.length g) ∧ Hid (Boxes w.heap.size nb.length c wr) ∧ Hid (Below w.heap.size w wr) ∧ w1.heap.size < wr.heap.size ∧ Hid (removeG nb.length A c (nb.length - g.length) g = removeG nb.length A c nb.length [])) (fun _ s39 _ => nb.length - (intOf s39).toNat)
      case atStart =>
        refine ⟨[], _, _, rfl, rfl, Nat.zero_le _, ?_, ?_, ?_, ?_, ?_, ?_, rfl⟩
        · exact World.ownsRow_made w1 (madeCells #[Value.int .i64 0] nb.length) nb.length (Nat.le_refl _) (by unfold maxLen; omega) (by rw [size_madeCells]; omega)
        · exact HD0.out.alloc _
        · exact HMk.out.alloc _
        · exact HBX.out.below (B := w1.heap.size) (bAlloc (Nat.le_refl _) (Below.refl _ _)) hs1
        · exact bAlloc HB.out.size HB.out
        · simp
      case round =>
        obtain ⟨g, q, cp, rfl, rfl, hk2, HO, HD, HMk2, HBX2, HB2, hz2, HS⟩ := hrel
        obtain ⟨w2, rfl⟩ : ∃ W : World, W = wr := ⟨_, rfl⟩
        by_cases hlt2 : (upI g).length < nb.length
        · have hltI : ((upI g).length : Int) < nb.length := by omega
          have hb0 := HBX2.out.s
          have bd2 := HBX2.out.d
          have br2 := HBX2.out.r
          have h1 := nextc_any nb.length A g c (w.heap.size + 1 + 1) (w.heap.size + 1 + 1 + 1 + 1) (w.heap.size) (w.heap.size + 1) (w.heap.size + 1 + 1 + 1) w2 hn bd2 br2 HBX2.out.c HD.out HMk2.out (by omega) (by omega) (by omega)
          obtain ⟨a0, a1, a2⟩ := nextG_ok (n := nb.length) (A := A) (k := c) (g := g) (by rw [← upI_len]; omega)
          obtain ⟨a, ha⟩ := Int.eq_ofNat_of_zero_le a0
          rw [ha] at h1 a1
          have H1 := Lib.hid h1
          have HA := Lib.hid ha
          have haN : a < nb.length := by omega
          have HA2 := Lib.hid (show a ∉ g by rw [ha] at a2; exact a2)
          clear h1 ha a2 a0
          go_wp2_with fail
          refine H1.out.mono ?_
          rintro r w3 ⟨rfl, nq, hw3⟩
          have hd3 : DegAt w3 (w.heap.size + 1) nb.length A g := by rw [hw3]; exact HD.out
          have hm3 : MarkAt w3 (w.heap.size + 1 + 1 + 1) nb.length g := by rw [hw3]; exact HMk2.out
          have hbx3 : Boxes w.heap.size nb.length c w3 := by rw [hw3]; exact ⟨HBX2.out.c, HBX2.out.d, HBX2.out.r, HBX2.out.s⟩
          have hb3 : Below w.heap.size w w3 := by rw [hw3]; exact bDrewN HB2.out
          have ho3 : w3.ownsRow w1.heap.size 3 1 (.slice q (upI g).length cp) (upI g).length ((upI g).map (Value.int .i64)) := by rw [hw3]; exact HO.out
          have hz3 : w1.heap.size < w3.heap.size := by rw [hw3]; exact hz2
          have HD3 := Lib.hid hd3
          have HM3 := Lib.hid hm3
          have HBX3 := Lib.hid hbx3
          have HB3 := Lib.hid hb3
          have HO3 := Lib.hid ho3
          have br3 := hbx3.r
          have bs3 := hbx3.s
          have hfz3 : w3.frozen? ⟨w.heap.size + 1 + 1 + 1, a, none⟩ = false := hm3.frozen a
          have hcl3 : w3.cell? ⟨w.heap.size + 1 + 1 + 1, a, none⟩ = some (.bool (g.contains a)) := hm3.cell haN
          clear hw3 hd3 hm3 hbx3 hb3 ho3 H1 HD HMk2 HBX2 HB2 HO bd2 br2
          go_wp2_with (first | (at_builtin; refine wpList_append_one rfl _ _ rfl w1.heap.size _ (upI g) rfl ?own _ _ (a : Int) rfl ?cell (by omega) ?bs ?_))
          case own => exact (ownsRow_setCell_below (a := ⟨w.heap.size + 1 + 1 + 1, a, none⟩) HO3.out (show w.heap.size + 1 + 1 + 1 < w1.heap.size by omega) _).alloc _
          case cell => simp [go_sem]
          case bs => simp [World.setCell]; omega
          intro p4 c4 w4 hO4 hg4 _
          have hB4 : Below w1.heap.size (w3.setCell ⟨w.heap.size + 1 + 1 + 1, a, none⟩ (.bool true)) w4 := Below.grown (bAlloc (by simp [World.setCell]; omega) (Below.refl _ _)) hg4 (by simp [World.setCell]; omega) (fun k hk => ownBase0 HO3.out hk)
          have hm4 : MarkAt w4 (w.heap.size + 1 + 1 + 1) nb.length (g ++ [a]) := World.rowIs.of_block (mark_next HM3.out a) (hB4.block _ (by omega))
          have hd4 : DegAt w4 (w.heap.size + 1) nb.length A g := World.rowIs.of_block (HD3.out.setOther (by show w.heap.size + 1 ≠ w.heap.size + 1 + 1 + 1; omega) _) (hB4.block _ (by omega))
          have hbx4 : Boxes w.heap.size nb.length c w4 := (HBX3.out.set (by show w.heap.size + 1 + 1 + 1 ≠ _; omega) (by show w.heap.size + 1 + 1 + 1 ≠ _; omega) (by show w.heap.size + 1 + 1 + 1 ≠ _; omega) _).below hB4 hs1
          have hb4 : Below w.heap.size w w4 := (bSet (p := ⟨w.heap.size + 1 + 1 + 1, a, none⟩) (by show w.heap.size ≤ w.heap.size + 1 + 1 + 1; omega) HB3.out).trans (hB4.mono HB.out.size)
          have hz4 : w1.heap.size < w4.heap.size := by have := hB4.size; simp [World.setCell] at this; omega
          obtain ⟨m1, o1, cap', q5, c5, e1, hm1, hx0, hr1⟩ := HR.out.row a haN
          injection e1 with e1 e2 e3
          subst e1 e3
          have hx1 := (hb4.cell (p := ⟨m1, o1 + a, none⟩) hm1).trans hx0
          have hrw := hr1
          have hnl := HNB.out a haN
          rw [hnl] at hx1 hrw
          have hrl := upI_len (nbs nb.length A a)
          have hnn := nbs_len nb.length A a
          have HIX := Lib.hid (fun j hj => upI_get (nbs nb.length A a) j hj)
          have hO5 : w4.ownsRow w1.heap.size 3 1 (.slice p4 ((upI g).length + 1) c4) (upI (g ++ [a])).length ((upI (g ++ [a])).map (Value.int .i64)) := by simpa [upI_snoc] using hO4
          have HO5 := Lib.hid hO5
          have HM4 := Lib.hid hm4
          have HD4 := Lib.hid hd4
          have HBX4 := Lib.hid hbx4
          have HB4 := Lib.hid hb4
          have HB14 := Lib.hid hB4
          have HRW := Lib.hid hrw
          have hw4s : m1 < w4.heap.size := by have := hb4.size; omega
          clear hO4 hg4 hB4 hm4 hd4 hbx4 hb4 hx0 hr1 hrw hnl hO5 hfz3 hcl3 HD3 HM3 HBX3 HB3 HO3 br3
          generalize upI (nbs nb.length A a) = row at hx1 hrl HIX HRW
          go_wp2_with fail
          go_loopw [55] (fun s55 wx => ∃ j : Nat, s55 = .int .i64 j ∧ j ≤ row.length ∧ Hid (wx.rowIs (w.heap.size + 1) 3 nb.length (fun i => .int .i64 (degJ nb.length A g a j i))) ∧ Hid (MarkAt wx (w.heap.size + 1 + 1 + 1) nb.length (g ++ [a])) ∧ Hid (Boxes w.heap.size nb.length c wx) ∧ Hid (Below w.heap.size w wx) ∧ w1.heap.size < wx.heap.size ∧ Hid (wx.ownsRow w1.heap.size 3 1 (.slice p4 ((upI g).length + 1) c4) (upI (g ++ [a])).length ((upI (g ++ [a])).map (Value.int .i64)))) (fun s55 _ => row.length - (intOf s55).toNat)
          case atStart => exact ⟨0, rfl, Nat.zero_le _, HD4.out.congr (fun i _ => by rw [degJ_zero]), HM4, HBX4, HB4, hz4, HO5⟩
          case round =>
            obtain ⟨j, rfl, hj, HDx, HMx, HBXx, HBx, hzx, HOx⟩ := hrel
            obtain ⟨w5, rfl⟩ : ∃ W : World, W = wr := ⟨_, rfl⟩
            by_cases hlt3 : j < row.length
            · have hltJ : (j : Int) < row.length := by omega
              have bd5 := HBXx.out.d
              have bs5 := HBXx.out.s
              have hj2 : j < (nbs nb.length A a).length := by omega
              obtain ⟨m6, o6, cc, e1, hm6, hy0⟩ := rdI_at (HRW.out.below HBx.out (Nat.le_refl _)) j hlt3
              injection e1 with e1 e2 e3
              subst e1 e3
              rw [HIX.out j hj2] at hy0
              have hbn := (nbs_at nb.length A a j hj2).1
              have HNX := Lib.hid (fun i => degJ_next nb.length A g a j ((nbs nb.length A a).getD j 0) i hj2 rfl)
              generalize (nbs nb.length A a).getD j 0 = b at hy0 hbn HNX
              have hbI : (b : Int) < nb.length := by omega
              have hfz5 : w5.frozen? ⟨w.heap.size + 1, b, none⟩ = false := HDx.out.frozen b
              have hcl5 : w5.cell? ⟨w.heap.size + 1, b, none⟩ = some (.int .i64 (degJ nb.length A g a j b)) := HDx.out.cell hbn
              have hdr := degJ_range nb.length A g a j b
              have hdr1 := hdr.1
              have hdr2 := hdr.2
              clear hdr
              generalize degJ nb.length A g a j b = d5 at hcl5 hdr1 hdr2 HNX
              have hw0 : IntKind.i64.wrap (d5 - 1) = d5 - 1 := IntWalk.i64_in _ ⟨by omega, by omega⟩
              go_wp2_with fail
              go_roundw
              case rel =>
                refine ⟨j + 1, by go_num, by omega, (HDx.out.set b _).congr fun i hi => ?_, HMx.out.setOther (by show w.heap.size + 1 + 1 + 1 ≠ w.heap.size + 1; omega) _, HBXx.out.set (by show w.heap.size + 1 ≠ _; omega) (by show w.heap.size + 1 ≠ _; omega) (by show w.heap.size + 1 ≠ _; omega) _, bSet (by show w.heap.size ≤ w.heap.size + 1; omega) HBx.out, by simpa [World.setCell] using hzx, ownsRow_setCell_below (a := ⟨w.heap.size + 1, b, none⟩) HOx.out (show w.heap.size + 1 < w1.heap.size by omega) _⟩
                rw [HNX.out i]
                by_cases e1 : i = b
                · rw [if_pos e1, if_pos e1]
                · rw [if_neg e1, if_neg e1]
              case measure => simp [intOf]; omega
            · have hjl : j = row.length := by omega
              subst hjl
              go_wp2_with fail
              go_roundw
              case rel =>
                refine ⟨g ++ [a], p4, c4, by simp [upI_snoc], by simp [upI_snoc], by simp [upI_snoc]; omega, by unfold Hid; simpa [upI_snoc] using HOx.out, ?_, HMx, HBXx, HBx, hzx, ?_⟩
                · exact HDx.out.congr fun i hi => by rw [hrl, degJ_end _ _ HSY.out _ _ _ haN hi HA2.out]
                · show _ = _
                  rw [← HS.out, removeG_more _ _ _ _ _ _ HA.out (by rw [← upI_len]; omega)]
                  simp
              case measure => simp [intOf]; omega
        · have hgn : g.length = nb.length := by rw [← upI_len]; omega
          go_wp2_with fail
          go_ret
          have hg := HS.out
          rw [hgn] at hg
          have hge := removeG_done _ _ _ _ hg
          refine ⟨_, rfl, ?_, HB2.out⟩
          rw [← hge]
          exact own0_base (own_row_of_list HO.out (by rw [upI_len]; exact hgn)) fun b hb => by have := ownBase0 HO.out hb; have := HB.out.size; omega
end Go.Proofs.YtifjcknklecdbaaDoor
