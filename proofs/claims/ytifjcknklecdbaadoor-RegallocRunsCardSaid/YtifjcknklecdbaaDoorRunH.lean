/- The runner's execute: it runs as runR says. -/
import Derived.Test.YtifjcknklecdbaaDoorMs32
import Derived.Test.YtifjcknklecdbaaDoorLivG
import Derived.LoopTactic
set_option linter.unusedVariables false
set_option linter.unusedSimpArgs false
namespace Go.Proofs.YtifjcknklecdbaaDoor
open Go.RowKit Go.Maps

theorem insR_err {ap : Int → Int → Int → Int × Int} {idx : ByteArray → Nat} {inp : List Int} {s : RS} {er : Int} {i : IIns} (h : insR ap idx inp s i = .error er) : er ≠ 0 := by
  have key : ∀ {c : Prop} [Decidable c] {a b : Except Int RS} {P : Prop}, (if c then a else b) = .error er → (c → a = .error er → P) → (b = .error er → P) → P := fun {c} _ {a b P} h1 h2 h3 => by
    by_cases hc : c
    · rw [if_pos hc] at h1; exact h2 hc h1
    · rw [if_neg hc] at h1; exact h3 h1
  have no : ∀ {t : RS} {P : Prop}, (Except.ok t : Except Int RS) = .error er → P := fun h => by cases h
  have yes : ∀ {e : Int}, e ≠ 0 → (Except.error e : Except Int RS) = .error er → er ≠ 0 := fun h1 h2 => by
    injection h2 with h2
    rw [← h2]; exact h1
  unfold insR at h
  refine key h (fun _ => no) fun h => key h (fun _ => no) fun h => key h (fun _ h => key h (fun hc => yes hc) no) fun h => key h (fun _ h => key h (fun _ => yes (by decide)) no) fun h => key h (fun _ h => key h (fun _ => yes (by decide)) no) fun h => key h (fun _ h => key h (fun _ => yes (by decide)) no) fun h => key h (fun _ => no) fun h => key h (fun _ => no) fun h => key h (fun _ h => key h (fun _ => yes (by decide)) no) fun h => key h (fun _ h => key h (fun _ => yes (by decide)) no) fun h => key h (fun _ => no) fun h => key h (fun _ => no) fun h => key h (fun _ => no) fun h => key h (fun _ h => key h (fun _ => yes (by decide)) no) no
section
variable {ap : Int → Int → Int → Int × Int} {idx : ByteArray → Nat} {inp : List Int} {bs : List IBlk} {b : IBlk} {a k n : Nat} {s s' : RS} {er : Int}
theorem runR_err (hb : b = bs.getD a default) (hk : k < b.code.length) (hn : 0 < n) (hi : insR ap idx inp s (b.code.getD k default) = .error er) : runR ap idx inp bs n a k s = (s, n, er) := by
  subst hb
  obtain ⟨m, rfl⟩ : ∃ m, n = m + 1 := ⟨n - 1, by omega⟩
  rw [runR, if_pos hk, hi]
theorem runR_ok (hb : b = bs.getD a default) (hk : k < b.code.length) (hn : 0 < n) (hi : insR ap idx inp s (b.code.getD k default) = .ok s') : runR ap idx inp bs n a k s = runR ap idx inp bs (n - 1) a (k + 1) s' := by
  subst hb
  obtain ⟨m, rfl⟩ : ∃ m, n = m + 1 := ⟨n - 1, by omega⟩
  rw [runR, if_pos hk, hi]
  rfl
theorem runR_ret (hb : b = bs.getD a default) (hk : ¬ k < b.code.length) (hn : 0 < n) (h3 : b.kind = 3) : runR ap idx inp bs n a k s = if s.lck = true then (s, n, 12) else (s, n - 1, 0) := by
  subst hb
  obtain ⟨m, rfl⟩ : ∃ m, n = m + 1 := ⟨n - 1, by omega⟩
  rw [runR, if_neg hk, if_pos h3]
  rfl
theorem runR_jmp (hb : b = bs.getD a default) (hk : ¬ k < b.code.length) (hn : 0 < n) (h3 : b.kind ≠ 3) : runR ap idx inp bs n a k s = if b.kind = 2 ∧ s.get b.x = 0 then runR ap idx inp bs (n - 1) b.els.toNat 0 s else runR ap idx inp bs (n - 1) b.tgt.toNat 0 s := by
  subst hb
  obtain ⟨m, rfl⟩ : ∃ m, n = m + 1 := ⟨n - 1, by omega⟩
  rw [runR, if_neg hk, if_neg h3]
  rfl
end
/-- Where an execution stands: so many steps done, at instruction k of block a. -/
def ExR (q : RK) (L : List (Nat × List Value)) (bs : List IBlk) (fuel : Nat) (s0 : RS) (st a k : Nat) (w : World) : Prop :=
  ∃ s, runR apW q.idx q.inp bs fuel 0 0 s0 = runR apW q.idx q.inp bs (fuel - st) a k s ∧ s.read ≤ st ∧ s.out.length ≤ st ∧ RunRel q L s w
theorem ExR.keep {q : RK} {L : List (Nat × List Value)} {bs : List IBlk} {fuel : Nat} {s0 : RS} {st a k : Nat} {w w' : World} (h : ExR q L bs fuel s0 st a k w) (hb : Below w.heap.size w w') : ExR q L bs fuel s0 st a k w' := by
  obtain ⟨s, h1, h2, h3, h4⟩ := h
  exact ⟨s, h1, h2, h3, h4.keep hb⟩
theorem ExR.drop {q : RK} {p : Nat × List Value} {L : List (Nat × List Value)} {bs : List IBlk} {fuel : Nat} {s0 : RS} {st a k : Nat} {w : World} (h : ExR q (p :: L) bs fuel s0 st a k w) : ExR q L bs fuel s0 st a k w := by
  obtain ⟨s, h1, h2, h3, h4⟩ := h
  exact ⟨s, h1, h2, h3, h4.drop⟩
theorem ExR.made {q : RK} {L : List (Nat × List Value)} {bs : List IBlk} {fuel : Nat} {s0 : RS} {st a k : Nat} {w : World} (h : ExR q L bs fuel s0 st a k w) (cs : List Value) (t : TypeId) : ExR q ((w.heap.size, cs) :: L) bs fuel s0 st a k (w.alloc (.cells cs.toArray t)) := by
  obtain ⟨s, h1, h2, h3, h4⟩ := h
  exact ⟨s, h1, h2, h3, h4.made cs t⟩
theorem ExR.at {q : RK} {L : List (Nat × List Value)} {bs : List IBlk} {fuel : Nat} {s0 : RS} {st a k : Nat} {w : World} (h : ExR q L bs fuel s0 st a k w) {b : Nat} {cs : List Value} (hp : (b, cs) ∈ L) : RowC2 w b cs := by
  obtain ⟨s, h1, h2, h3, h4⟩ := h
  exact h4.at hp
theorem ExR.bel {q : RK} {L : List (Nat × List Value)} {bs : List IBlk} {fuel : Nat} {s0 : RS} {st a k : Nat} {w : World} (h : ExR q L bs fuel s0 st a k w) : Below q.B q.W0 w ∧ q.W0.heap.size ≤ q.B := by
  obtain ⟨s, h1, h2, h3, col, ov, h4⟩ := h
  exact ⟨h4.x.bel, h4.x.le⟩
/-- What execute leaves. -/
def ExecPost (q : RK) (L : List (Nat × List Value)) (fuel : Nat) (r : RS × Nat × Int) (e : Ending) (w' : World) : Prop := e = .returned (.tuple #[.int .i64 ((fuel : Int) - r.2.1), .int .i64 r.2.2]) ∧ r.2.1 ≤ fuel ∧ RunRel q L r.1 w'

set_option maxHeartbeats 12800000 in
set_option maxRecDepth 40000 in
theorem exec_any {q : RK} {K : Kinds} {s0 : RS} {w : World} {L : List (Nat × List Value)} (h : RunRel q L s0 w) (nm : ByteArray) (av bv : Value) (bs : List IBlk) (fuel : Nat) (hfu : fuel ≤ 1000) (hB : BksAt q.W0 bv bs) (hne : bs ≠ []) (hv : ∀ k, k < bs.length → vBlk q.R K bs.length (bs.getD k default) = true) (hK : NamesOk q K)
    (hsz : ∀ k, k < bs.length → ∀ j, j < (bs.getD k default).code.length → ((bs.getD k default).code.getD j default).sym.size ≤ maxLen) (hcl : ∀ k, k < bs.length → (bs.getD k default).code.length ≤ 100000) (hr0 : s0.read = 0) (ho0 : s0.out = []) :
    Calls Tryd.prog 18 #[.pointer (some ⟨q.gb, 0, none⟩), .agg #[.string nm, .int .i64 q.R, av, bv], .int .i64 fuel] w (ExecPost q L fuel (runR apW q.idx q.inp bs fuel 0 0 s0)) := by
  obtain ⟨bp, bc, rfl⟩ := hB.shape
  have HB := Lib.hid hB
  have HV := Lib.hid hv
  have HSZ := Lib.hid hsz
  have HCL := Lib.hid hcl
  have HK := Lib.hid hK
  have hlen : 0 < bs.length := List.length_pos_iff.2 hne
  have HX0 : Hid (ExR q ((w.heap.size, [.string nm, .int .i64 q.R, av, .slice bp bs.length bc]) :: L) bs fuel s0 0 0 0 (w.alloc (.cells #[.string nm, .int .i64 q.R, av, .slice bp bs.length bc] 25))) := (show ExR _ _ _ _ _ _ _ _ _ from ⟨s0, rfl, by omega, by rw [ho0]; exact Nat.le_refl _, h.made _ _⟩)
  clear h hB hv hsz hK hne hr0 ho0 hcl
  go_enter Tryd.func18, Tryd.ntmps18
  go_wp2_with fail
  go_loopw [8, 9] (fun s8 s9 wx => ∃ st a : Nat, s8 = .int .i64 st ∧ s9 = .int .i64 a ∧ a < bs.length ∧ st ≤ fuel ∧ Hid (ExR q ((w.heap.size, [.string nm, .int .i64 q.R, av, .slice bp bs.length bc]) :: L) bs fuel s0 st a 0 wx)) (fun s8 _ _ => fuel + 1 - (intOf s8).toNat)
  case atStart => exact ⟨0, 0, rfl, rfl, hlen, Nat.zero_le _, HX0⟩
  case round =>
    clear HX0
    obtain ⟨st, a, rfl, rfl, ha, hst, HX⟩ := hrel
    obtain ⟨w1, rfl⟩ : ∃ W : World, W = wr := ⟨_, rfl⟩
    have haI : (a : Int) < bs.length := by omega
    have rf := HX.out.at (b := w.heap.size) (cs := [.string nm, .int .i64 q.R, av, .slice bp bs.length bc]) List.mem_cons_self
    have lf := rf.lt
    have f3 := rf.at 3 rfl
    clear rf
    obtain ⟨m, off, cap, cp, cc, e0, hm0, hI, d0, d1, d2, d3, d4⟩ := HB.out.at a ha
    have bl := HX.out.bel
    have hmB : m < q.B := Nat.lt_of_lt_of_le hm0 bl.2
    have hm : m < w1.heap.size := Nat.lt_of_lt_of_le hm0 bl.1.size
    have b0 := (bl.1.cell (p := ⟨m, off + a * 5, none⟩) hmB).trans d0
    have b1 := (bl.1.cell (p := ⟨m, off + a * 5 + 1, none⟩) hmB).trans d1
    have b2 := (bl.1.cell (p := ⟨m, off + a * 5 + 2, none⟩) hmB).trans d2
    have b3 := (bl.1.cell (p := ⟨m, off + a * 5 + 3, none⟩) hmB).trans d3
    have b4 := (bl.1.cell (p := ⟨m, off + a * 5 + 4, none⟩) hmB).trans d4
    clear d0 d1 d2 d3 d4 bl hmB hm0
    injection e0 with e1 _ e2
    subst e1 e2
    have hVb := (vBlk_iff _ _ _ _).1 (HV.out a ha)
    have HSb := Lib.hid (HSZ.out a ha)
    have HI := Lib.hid hI
    obtain ⟨b, hb⟩ : ∃ b, b = bs.getD a default := ⟨_, rfl⟩
    rw [← hb] at b0 b1 b2 b3 b4 hVb HSb HI
    have HVb := Lib.hid hVb
    have HBb := Lib.hid hb
    clear hI hVb hb
    have H1 := Lib.hid (HX.out.made [.slice cp b.code.length cc, .int .u8 b.kind, .int .i64 b.x, .int .i64 b.tgt, .int .i64 b.els] 52)
    go_upto_region 5 with fail
    obtain ⟨w2, hw2⟩ : ∃ W, W = w1.alloc (.cells #[.slice cp b.code.length cc, .int .u8 b.kind, .int .i64 b.x, .int .i64 b.tgt, .int .i64 b.els] 52) := ⟨_, rfl⟩
    have H2 : Hid (ExR q ((w1.heap.size, [.slice cp b.code.length cc, .int .u8 b.kind, .int .i64 b.x, .int .i64 b.tgt, .int .i64 b.els]) :: (w.heap.size, [.string nm, .int .i64 q.R, av, .slice (some ⟨m, off, none⟩) bs.length bc]) :: L) bs fuel s0 st a 0 w2) := (show ExR _ _ _ _ _ _ _ _ _ by rw [hw2]; exact H1.out)
    have hl12 : w1.heap.size < w2.heap.size := by rw [hw2]; simp
    rw [← hw2]
    clear hw2 H1 HX b0 b1 b2 b3 b4 hm f3 lf
    go_loopw [8, 22] (fun s8 s22 wx => ∃ t k : Nat, s8 = .int .i64 t ∧ s22 = .int .i64 k ∧ k ≤ b.code.length ∧ st ≤ t ∧ t ≤ fuel ∧ Hid (ExR q ((w1.heap.size, [.slice cp b.code.length cc, .int .u8 b.kind, .int .i64 b.x, .int .i64 b.tgt, .int .i64 b.els]) :: (w.heap.size, [.string nm, .int .i64 q.R, av, .slice (some ⟨m, off, none⟩) bs.length bc]) :: L) bs fuel s0 t a k wx)) (fun _ s22 _ => b.code.length - (intOf s22).toNat)
    case atStart => exact ⟨st, 0, rfl, rfl, Nat.zero_le _, Nat.le_refl _, hst, H2⟩
    case round =>
      clear H2
      obtain ⟨t, k, rfl, rfl, hk, hstt, htf, HX2⟩ := hrel
      obtain ⟨w3, rfl⟩ : ∃ W : World, W = wr := ⟨_, rfl⟩
      obtain ⟨sn, hrun, hrd, hou, hrel⟩ := HX2.out
      by_cases hlt : k < b.code.length
      · have hltI : (k : Int) < b.code.length := by omega
        obtain ⟨mi, oi, ci, e0, hmi, i0, i1, i2, i3, i4, i5⟩ := (HI.out.below HX2.out.bel.1 HX2.out.bel.2).at k hlt
        injection e0 with e1 _ e2
        subst e1 e2
        obtain ⟨ins, hins⟩ : ∃ i, i = b.code.getD k default := ⟨_, rfl⟩
        have HVI := Lib.hid (HVb.out.1 k hlt)
        have HSI := Lib.hid (HSb.out k hlt)
        rw [← hins] at i0 i1 i2 i3 i4 i5 HVI HSI
        have H4 := Lib.hid (hrel.made [.int .u8 ins.op, .int .i64 ins.dst, .int .i64 ins.x, .int .i64 ins.y, .int .i64 ins.imm, .string ins.sym] 59)
        have HR4 := Lib.hid hrun
        have HINS := Lib.hid hins
        clear hrel hrun hins
        by_cases hfl : t < fuel
        · have hflI : ¬ (t : Int) ≥ fuel := by omega
          have hwt : IntKind.i64.wrap ((t : Int) + 1) = (t : Int) + 1 := IntWalk.i64_in _ ⟨by omega, by omega⟩
          have hwk : IntKind.i64.wrap ((k : Int) + 1) = (k : Int) + 1 := by
            refine IntWalk.i64_in _ ⟨by omega, ?_⟩
            have := HCL.out a ha
            rw [← HBb.out] at this
            omega
          go_wp2_with fail
          refine (ins_any H4.out ins HVI.out HK.out HSI.out (by omega) (by omega)).mono ?_
          intro e w4 hp
          cases hi : insR apW q.idx q.inp sn ins with
          | error er =>
            rw [hi] at hp
            obtain ⟨rfl, hr⟩ := hp
            have herb : (er != 0) = true := bne_iff_ne.2 (insR_err hi)
            have HE := Lib.hid (runR_err (n := fuel - t) HBb.out hlt (by omega) (by rw [← HINS.out]; exact hi))
            clear hi
            go_wp2_with fail
            go_ret2
            rw [HR4.out, HE.out]
            refine ⟨?_, Nat.sub_le _ _, hr.out.drop.drop.drop⟩
            show Ending.returned _ = Ending.returned _
            rw [show (t : Int) = (fuel : Int) - ((fuel - t : Nat) : Int) by omega]
            rfl
          | ok s' =>
            rw [hi] at hp
            obtain ⟨rfl, hr⟩ := hp
            have hss := insR_sizes hi
            have HN := Lib.hid (show ExR q _ bs fuel s0 (t + 1) a (k + 1) w4 from ⟨s', HR4.out.trans ((runR_ok (n := fuel - t) HBb.out hlt (by omega) (by rw [← HINS.out]; exact hi)).trans (by rw [Nat.sub_sub])), by omega, by omega, hr.out.drop⟩)
            clear hi hr hss
            go_wp2_with fail
            go_roundw
            case rel => exact ⟨t + 1, k + 1, by go_num, by go_num, by omega, by omega, by omega, HN⟩
            case measure => simp [intOf]; omega
        · have hflI : (t : Int) ≥ fuel := by omega
          go_wp2_with fail
          go_ret2
          rw [HR4.out, show fuel - t = 0 by omega]
          refine ⟨?_, Nat.zero_le _, H4.out.drop.drop.drop⟩
          show Ending.returned _ = Ending.returned _
          rw [show (t : Int) = (fuel : Int) - ((0 : Nat) : Int) by omega]
          rfl
      · have hltI : ¬ (k : Int) < b.code.length := by omega
        have hke : k = b.code.length := by omega
        have HR4 := Lib.hid hrun
        by_cases hfl : t < fuel
        · have hflI : ¬ (t : Int) ≥ fuel := by omega
          have hwt : IntKind.i64.wrap ((t : Int) + 1) = (t : Int) + 1 := IntWalk.i64_in _ ⟨by omega, by omega⟩
          have r2 := hrel.at (b := w1.heap.size) (cs := [.slice cp b.code.length cc, .int .u8 b.kind, .int .i64 b.x, .int .i64 b.tgt, .int .i64 b.els]) List.mem_cons_self
          have l2 := r2.lt
          have b1 := r2.at 1 rfl
          have b2 := r2.at 2 rfl
          have b3 := r2.at 3 rfl
          have b4 := r2.at 4 rfl
          have H4 := Lib.hid hrel
          have HE := Lib.hid HVb.out.2
          obtain ⟨col, ov, hat⟩ := hrel
          obtain ⟨hl, ⟨c0, _⟩, ⟨_, c6, _⟩, _⟩ := hat.cells
          have HAT := Lib.hid hat
          clear r2 hat hrun
          subst hke
          by_cases hk3 : b.kind = 3
          · have b1' : w3.cell? ⟨w1.heap.size, 1, none⟩ = some (.int .u8 3) := by rw [b1, hk3]; rfl
            have HJ := Lib.hid (runR_ret (n := fuel - t) (ap := apW) (idx := q.idx) (inp := q.inp) (s := sn) HBb.out hlt (by omega) hk3)
            clear b1 hk3
            cases hlk : sn.lck with
            | true =>
              rw [hlk] at c6
              have HLK := Lib.hid hlk
              clear hlk
              go_wp2_with fail
              go_ret2
              rw [HR4.out, HJ.out, if_pos HLK.out]
              refine ⟨?_, Nat.sub_le _ _, H4.out.drop.drop⟩
              show Ending.returned _ = Ending.returned _
              rw [show (t : Int) = (fuel : Int) - ((fuel - t : Nat) : Int) by omega]
              rfl
            | false =>
              rw [hlk] at c6
              have HLK := Lib.hid hlk
              clear hlk
              go_wp2_with fail
              go_ret2
              rw [HR4.out, HJ.out, if_neg (by rw [HLK.out]; decide)]
              refine ⟨?_, by show fuel - t - 1 ≤ fuel; omega, H4.out.drop.drop⟩
              show Ending.returned _ = Ending.returned _
              rw [show (t : Int) + 1 = (fuel : Int) - ((fuel - t - 1 : Nat) : Int) by omega]
              rfl
          · have HJ := Lib.hid (runR_jmp (n := fuel - t) (ap := apW) (idx := q.idx) (inp := q.inp) (s := sn) HBb.out hlt (by omega) hk3)
            by_cases hk1 : b.kind = 1
            · have hE := HE.out
              unfold vEnd at hE
              rw [if_pos hk1] at hE
              simp only [Bool.and_eq_true, okR, decide_eq_true_eq] at hE
              obtain ⟨tn, htn⟩ := Int.eq_ofNat_of_zero_le hE.1.1.1
              have htl : tn < bs.length := by omega
              have b1' : w3.cell? ⟨w1.heap.size, 1, none⟩ = some (.int .u8 1) := by rw [b1, hk1]; rfl
              have HK1 := Lib.hid (show ¬ (b.kind = 2 ∧ sn.get b.x = 0) from fun h => by omega)
              rw [htn] at b3
              have HT := Lib.hid htn
              clear hE b1 hk1 hk3 htn
              go_upto_region 21 with fail
              go_quiet (fail)
              have HN := Lib.hid (show ExR q _ bs fuel s0 (t + 1) tn 0 (w3.drewN nq) from ⟨sn, HR4.out.trans (HJ.out.trans (by rw [if_neg HK1.out]; rw [HT.out, Int.toNat_natCast, Nat.sub_sub])), by omega, by omega, H4.out.drop.keep (bDrewN (Below.refl _ _))⟩)
              go_wp2_with fail
              go_roundw
              case rel => exact ⟨t + 1, tn, by go_num, rfl, by omega, by omega, HN⟩
              case measure => simp [intOf]; omega
            · by_cases hk2 : b.kind = 2
              · have hE := HE.out
                unfold vEnd at hE
                rw [if_neg hk1, if_pos hk2] at hE
                simp only [Bool.and_eq_true, okR, decide_eq_true_eq] at hE
                obtain ⟨xn, hxn⟩ := Int.eq_ofNat_of_zero_le hE.1.1.1
                obtain ⟨tn, htn⟩ := Int.eq_ofNat_of_zero_le hE.1.2.1
                obtain ⟨en, hen⟩ := Int.eq_ofNat_of_zero_le hE.2.1
                have htl : tn < bs.length := by omega
                have hel : en < bs.length := by omega
                have hxl : xn < q.R := by omega
                have b1' : w3.cell? ⟨w1.heap.size, 1, none⟩ = some (.int .u8 2) := by rw [b1, hk2]; rfl
                obtain ⟨g, cap', hrv, hg, hcs, _⟩ := HAT.out.allRegs hxl
                rw [hrv] at c0
                obtain ⟨vx, hvx⟩ : ∃ v, v = sn.regs.getD xn 0 := ⟨_, rfl⟩
                have tx := (hcs _ hxl).1
                rw [← hvx] at tx
                have HVX := Lib.hid (show sn.get b.x = vx by rw [hxn]; exact hvx.symm)
                rw [hxn] at b2
                rw [htn] at b3
                rw [hen] at b4
                have HK2 := Lib.hid hk2
                have HTT := Lib.hid htn
                have HEE := Lib.hid hen
                clear hE b1 hk1 hk2 hk3 htn hen hxn hvx hcs hrv
                by_cases hz : vx = 0
                · have HK1 := Lib.hid (show b.kind = 2 ∧ sn.get b.x = 0 from ⟨HK2.out, HVX.out.trans hz⟩)
                  have HT := HEE
                  subst hz
                  clear HVX HAT HTT b3
                  go_upto_region 21 with fail
                  go_quiet (fail)
                  have HN := Lib.hid (show ExR q _ bs fuel s0 (t + 1) en 0 (w3.drewN nq) from ⟨sn, HR4.out.trans (HJ.out.trans (by rw [if_pos HK1.out]; rw [HT.out, Int.toNat_natCast, Nat.sub_sub])), by omega, by omega, H4.out.drop.keep (bDrewN (Below.refl _ _))⟩)
                  go_wp2_with fail
                  go_roundw
                  case rel => exact ⟨t + 1, en, by go_num, rfl, by omega, by omega, HN⟩
                  case measure => simp [intOf]; omega
                · have HK1 := Lib.hid (show ¬ (b.kind = 2 ∧ sn.get b.x = 0) from fun h => hz (HVX.out.symm.trans h.2))
                  have hzb : (vx == 0) = false := beq_eq_false_iff_ne.2 hz
                  have HT := HTT
                  clear HVX HAT HEE b4
                  go_upto_region 21 with fail
                  go_quiet (fail)
                  have HN := Lib.hid (show ExR q _ bs fuel s0 (t + 1) tn 0 (w3.drewN nq) from ⟨sn, HR4.out.trans (HJ.out.trans (by rw [if_neg HK1.out]; rw [HT.out, Int.toNat_natCast, Nat.sub_sub])), by omega, by omega, H4.out.drop.keep (bDrewN (Below.refl _ _))⟩)
                  go_wp2_with fail
                  go_roundw
                  case rel => exact ⟨t + 1, tn, by go_num, rfl, by omega, by omega, HN⟩
                  case measure => simp [intOf]; omega
              · have hE := HE.out
                unfold vEnd at hE
                rw [if_neg hk1, if_neg hk2, if_neg hk3] at hE
                cases hE
        · have hflI : (t : Int) ≥ fuel := by omega
          have H4 := Lib.hid hrel
          clear hrel hrun
          go_wp2_with fail
          go_ret2
          rw [HR4.out, show fuel - t = 0 by omega]
          refine ⟨?_, Nat.zero_le _, H4.out.drop.drop⟩
          show Ending.returned _ = Ending.returned _
          rw [show (t : Int) = (fuel : Int) - ((0 : Nat) : Int) by omega]
          rfl
end Go.Proofs.YtifjcknklecdbaaDoor
