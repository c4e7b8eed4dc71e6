/- liveness.after: the walk. -/
import Derived.Test.YtifjcknklecdbaaDoorLivL
set_option linter.unusedVariables false
set_option linter.unusedSimpArgs false
namespace Go.Proofs.YtifjcknklecdbaaDoor
open Go.RowKit

theorem AfAt.congr {wE w0 w : World} {R n m : Nat} {rv ov : Value} {fb rb : Nat} {F : List Value} {g g' out : Nat → Nat} {col : Nat → Nat} (h : AfAt wE w0 R n m rv ov fb rb F g out col w) (hg : g = g') : AfAt wE w0 R n m rv ov fb rb F g' out col w := hg ▸ h
/-- What after leaves. -/
def AfterPost (wE : World) (R n m : Nat) (rv : Value) (fb rb : Nat) (F : List Value) (g : Nat → Nat) (e : Ending) (w' : World) : Prop :=
  e = .returned (.tuple #[]) ∧ ∃ col, SetsAt col 7 w' rv R m g ∧ BoxAt col w' fb F ∧ BoxAt col w' rb [rv] ∧ (∀ k, k < wE.heap.size → col k = 0) ∧ Below wE.heap.size wE w' ∧ wE.heap.size ≤ w'.heap.size
set_option maxHeartbeats 6400000 in
set_option maxRecDepth 100000 in
theorem after_any (nm : ByteArray) (R m : Nat) (ap : Option Addr) (an ac : Nat) (bp : Option Addr) (bcap : Nat) (rv : Value) (bs : List IBlk) (fb rb : Nat) (col0 : Nat → Nat) (wE w : World) (hR : R ≤ 64) (hm : (R + 63) / 64 = m) (hB : BksAt wE (.slice bp bs.length bcap) bs) (hl : bs.length ≤ 1000) (hcl : ∀ k, k < bs.length → (bs.getD k default).code.length ≤ 1000) (hw : wfF R bs = true)
    (hrows : SetsAt col0 7 w rv R m (fun _ => 0)) (hfb : BoxAt col0 w fb [.string nm, .int .i64 R, .slice ap an ac, .slice bp bs.length bcap]) (hrb : BoxAt col0 w rb [rv]) (hlow : ∀ k, k < wE.heap.size → col0 k = 0) (hbel : Below wE.heap.size wE w) :
    Calls Tryd.prog 30 #[.agg #[.string nm, .int .i64 R, .slice ap an ac, .slice bp bs.length bcap], .func (.func 31) #[] #[.pointer (some ⟨fb, 0, none⟩), .pointer (some ⟨rb, 0, none⟩)]] w
      (AfterPost wE R bs.length m rv fb rb [.string nm, .int .i64 R, .slice ap an ac, .slice bp bs.length bcap] (rowsN bs (solV bs).out bs.length)) := by
  have hm1 : m ≤ 1 := by omega
  have hRm : R ≤ 64 * m := by omega
  have hbig : wE.heap.size ≤ w.heap.size := hbel.size
  have hb0 : Below w.heap.size w (w.alloc (.cells #[.string nm, .int .i64 R, .slice ap an ac, .slice bp bs.length bcap] 25)) := bAlloc (Nat.le_refl _) (Below.refl _ _)
  have hBw := (hB.below hbel (Nat.le_refl _)).below hb0 (Nat.le_refl _)
  have HSO := Lib.hid (solve_any nm R m ap an ac _ bs _ hR hm hBw hl hcl hw)
  have HB0 := Lib.hid hb0
  have HD := Lib.hid hB
  have HCL := Lib.hid hcl
  have HW := Lib.hid hw
  have HRW := Lib.hid hrows
  have HFB := Lib.hid hfb
  have HRB := Lib.hid hrb
  have HLO := Lib.hid hlow
  have HBE := Lib.hid hbel
  have hzz : w.heap.size < (w.alloc (.cells #[.string nm, .int .i64 R, .slice ap an ac, .slice bp bs.length bcap] 25)).heap.size := by simp
  have c3 : (w.alloc (.cells #[.string nm, .int .i64 R, .slice ap an ac, .slice bp bs.length bcap] 25)).cell? ⟨w.heap.size, 3, none⟩ = some (.slice bp bs.length bcap) := by simp [go_sem]
  have C3 := Lib.hid c3
  clear hb0 hBw hB hcl hw hrows hfb hrb hlow hbel c3 hm
  go_enter Tryd.func30, Tryd.ntmps30
  go_wp2_with fail
  refine HSO.out.mono ?_
  rintro e w1 ⟨iv, ov, colS, rfl, hsi, hso, hsl, hb1⟩
  obtain ⟨po, co, rfl⟩ := hso.shape
  have hz1 := hb1.size
  have hb01 : Below w.heap.size w w1 := HB0.out.trans (hb1.mono (by omega))
  have HS0 : ∃ c, AfAt wE w R bs.length m rv (.slice po bs.length co) fb rb [.string nm, .int .i64 R, .slice ap an ac, .slice bp bs.length bcap] (rowsN bs (solV bs).out 0) (solV bs).out c w1 := by
    refine ⟨fun k => if k < w.heap.size then col0 k else if colS k = 2 then 2 else 0, (HRW.out.mono fun k hk e => ?_).below hb01, hso.mono fun k hk e => ?_, ?_, ?_, fun k hk => ?_, HBE.out.trans (hb01.mono hbig), by have := hb01.size; omega⟩
    · show (if _ then _ else _) = _
      rw [if_pos hk]; exact e
    · have hge : ¬ k < w.heap.size := fun h => by
        have := hsl k (by omega)
        rw [this] at e; cases e
      show (if _ then _ else _) = _
      rw [if_neg hge, if_pos e]
    · exact ⟨Nat.lt_of_lt_of_le HFB.out.1 hb01.size, (if_pos HFB.out.1).trans HFB.out.2.1, fun k v hv => (hb01.cell (p := ⟨fb, k, none⟩) HFB.out.1).trans (HFB.out.2.2 k v hv)⟩
    · exact ⟨Nat.lt_of_lt_of_le HRB.out.1 hb01.size, (if_pos HRB.out.1).trans HRB.out.2.1, fun k v hv => (hb01.cell (p := ⟨rb, k, none⟩) HRB.out.1).trans (HRB.out.2.2 k v hv)⟩
    · exact (if_pos (show k < w.heap.size by omega)).trans (HLO.out k hk)
  obtain ⟨c1, hs1⟩ := HS0
  have HS1 := Lib.hid hs1
  have d3 := (hb1.cell (p := ⟨w.heap.size, 3, none⟩) hzz).trans C3.out
  have hzw1 : w.heap.size < w1.heap.size := by omega
  clear hsi hso hsl hb1 hb01 hs1 HSO HB0 HRW HFB HRB HLO HBE C3 hzz hz1
  go_wp2_with fail
  clear d3
  have HSF := Lib.hid (sol_fix HW.out).1.out
  go_loopw [18] (fun s18 wr => ∃ (k : Nat) (cx : Nat → Nat), s18 = .int .i64 k ∧ k ≤ bs.length ∧ Hid (AfAt wE w R bs.length m rv (.slice po bs.length co) fb rb [.string nm, .int .i64 R, .slice ap an ac, .slice bp bs.length bcap] (rowsN bs (solV bs).out k) (solV bs).out cx wr)) (fun s18 _ => bs.length - (intOf s18).toNat)
  case atStart => exact ⟨0, c1, rfl, Nat.zero_le _, HS1⟩
  case round =>
    obtain ⟨k, c2, rfl, hk, HS2⟩ := hrel
    obtain ⟨w2, rfl⟩ : ∃ W : World, W = wr := ⟨_, rfl⟩
    by_cases hlt : k < bs.length
    · have hkI : (k : Int) < bs.length := by omega
      obtain ⟨mb, ob, cap', cp, cc, e1, hmb, hinB, b0, b1, b2, b3, b4⟩ := HD.out.at k hlt
      injection e1 with e1 e2 e3
      subst e1 e3
      have hbw := HS2.out.bel
      replace b0 := (hbw.cell (p := ⟨mb, _, none⟩) hmb).trans b0
      replace b1 := (hbw.cell (p := ⟨mb, _, none⟩) hmb).trans b1
      replace b2 := (hbw.cell (p := ⟨mb, _, none⟩) hmb).trans b2
      replace b3 := (hbw.cell (p := ⟨mb, _, none⟩) hmb).trans b3
      replace b4 := (hbw.cell (p := ⟨mb, _, none⟩) hmb).trans b4
      have hmb3 : mb < w2.heap.size := by have := hbw.size; omega
      have hbok := okBlk_at HW.out hlt
      have hbl := HCL.out k hlt
      have hsi := sol_code hbok
      have hol := HSF.out k hlt
      have hgl := rowsN_lt HW.out HSF.out k (by omega)
      have hrn : rowsN bs (solV bs).out (k + 1) = (rowsC (bs.getD k default) ((solV bs).out k) (rowsN bs (solV bs).out k)).2 := rfl
      obtain ⟨⟨code, kind, bx, tgt, els⟩, hb⟩ : ∃ b, b = bs.getD k default := ⟨_, rfl⟩
      rw [← hb] at b0 b1 b2 b3 b4 hinB hbok hbl hsi hrn
      simp only at b0 b1 b2 b3 b4 hinB hbl hsi
      generalize hG0 : rowsN bs (solV bs).out k = G0 at hrn hgl HS2
      have HRN := Lib.hid hrn
      have HBE := Lib.hid hb
      have HIB := Lib.hid hinB
      have HBO := Lib.hid hbok
      have HSI := Lib.hid hsi
      have HGL := Lib.hid hgl
      have HOL := Lib.hid hol
      clear hb hbok hsi hinB hrn hG0 hgl hbw
      go_upto_region 5 with fail
      have hbA : Below w2.heap.size w2 (w2.alloc (.cells #[.slice cp code.length cc, .int .u8 kind, .int .i64 bx, .int .i64 tgt, .int .i64 els] 52)) := bAlloc (Nat.le_refl _) (Below.refl _ _)
      obtain ⟨c3, hSB, hXB⟩ : ∃ c, AfAt wE w R bs.length m rv (.slice po bs.length co) fb rb [.string nm, .int .i64 R, .slice ap an ac, .slice (some ⟨mb, ob, none⟩) bs.length bcap] G0 (solV bs).out c (w2.alloc (.cells #[.slice cp code.length cc, .int .u8 kind, .int .i64 bx, .int .i64 tgt, .int .i64 els] 52)) ∧ BoxAt c (w2.alloc (.cells #[.slice cp code.length cc, .int .u8 kind, .int .i64 bx, .int .i64 tgt, .int .i64 els] 52)) w2.heap.size [.slice cp code.length cc, .int .u8 kind, .int .i64 bx, .int .i64 tgt, .int .i64 els] := ⟨_, HS2.out.paint0 hbA, BoxAt.made _ w2 [.slice cp code.length cc, .int .u8 kind, .int .i64 bx, .int .i64 tgt, .int .i64 els] 52⟩
      have HSB := Lib.hid hSB
      have HXB := Lib.hid hXB
      clear hbA hSB hXB b0 b1 b2 b3 b4 hmb hmb3 HS2
      generalize hw3 : (w2.alloc (.cells #[.slice cp code.length cc, .int .u8 kind, .int .i64 bx, .int .i64 tgt, .int .i64 els] 52)) = w3 at HSB HXB ⊢
      clear hw3
      obtain ⟨go, capo, po', capo', e1, ho1, ho2, ho3, ho4, ho5, ho6⟩ := HSB.out.outs.get hlt
      injection e1 with e1 e2 e3
      subst e1 e3
      have q0 := HXB.out.at 0 rfl
      have q1 := HXB.out.at 1 rfl
      have q2 := HXB.out.at 2 rfl
      have q3 := HXB.out.at 3 rfl
      have q4 := HXB.out.at 4 rfl
      have hzx := HXB.out.lt
      have hkx := blk_reg HBO.out
      have HLA := Lib.hid (last_any m ((solV bs).out k) cp code.length cc kind code bx tgt els _ w3.drew hm1 (pow_le hol hRm) (fun h => by have := hkx h; simp only at this; omega) (ho5.keep (w' := w3.drew) fun _ _ => rfl))
      generalize ho0 : (solV bs).out k = o at hol HLA HOL HRN
      clear hkx ho4 ho5 ho6 ho0
      go_still_tail 5, (by kernel_rfl)
      go_wp2_with fail
      refine HLA.out.mono ?_
      rintro e w4 ⟨u, rfl, hu4, huf4, hb4⟩
      have h3 := HSB.out.below (w' := w3.drew) (Below.refl _ _).drew
      have hT4 : Touch c3 6 w3.drew w4 := Touch.of_below hb4
      obtain ⟨c4, hS4, hX4, hU4⟩ : ∃ c, AfAt wE w R bs.length m rv (.slice (some ⟨go, 0, none⟩) bs.length co) fb rb [.string nm, .int .i64 R, .slice ap an ac, .slice (some ⟨mb, ob, none⟩) bs.length bcap] G0 (solV bs).out c w4 ∧ BoxAt c w4 w2.heap.size [.slice cp code.length cc, .int .u8 kind, .int .i64 bx, .int .i64 tgt, .int .i64 els] ∧ (∀ b, u.ownBlock = some b → c b = 6) := ⟨_, h3.touch6 hT4, (HXB.out.below (w' := w3.drew) (Below.refl _ _).drew).other hT4 (by decide), fun b hb => paint_ge (huf4 b hb)⟩
      rw [← liveB_end ⟨code, kind, bx, tgt, els⟩ o] at hu4
      have HS4 := Lib.hid hS4
      have HX4 := Lib.hid hX4
      have HU4 := Lib.hid hU4
      have HV4 := Lib.hid hu4
      have g0 := hX4.at 0 rfl
      have hzx4 := hX4.lt
      obtain ⟨pu, cu, rfl⟩ := hu4.shape
      clear HLA hu4 huf4 hb4 h3 hT4 hS4 hX4 hU4 HSB HXB hzx q0 q1 q2 q3 q4 ho1 ho2 ho3
      go_wp2_with fail
      clear g0 hzx4
      go_loopw [9] (fun s9 wx => ∃ (z : Int) (kk : Nat) (cx : Nat → Nat), s9 = .int .i64 z ∧ Hid (z + 1 = kk) ∧ -1 ≤ z ∧ z < code.length ∧ Hid (AfAt wE w R bs.length m rv (.slice (some ⟨go, 0, none⟩) bs.length co) fb rb [.string nm, .int .i64 R, .slice ap an ac, .slice (some ⟨mb, ob, none⟩) bs.length bcap] (rowsK ⟨code, kind, bx, tgt, els⟩ o G0 kk).2 (solV bs).out cx wx) ∧ Hid (BoxAt cx wx w2.heap.size [.slice cp code.length cc, .int .u8 kind, .int .i64 bx, .int .i64 tgt, .int .i64 els]) ∧ Hid (SetV wx m (.slice pu m cu) (liveB ⟨code, kind, bx, tgt, els⟩ o kk)) ∧ Hid (∀ b, (Value.slice pu m cu).ownBlock = some b → cx b = 6)) (fun s9 _ => (intOf s9 + 1).toNat)
      case atStart => exact ⟨_, code.length, c4, rfl, (show _ = _ by omega), by omega, by omega, (by rw [show (rowsK ⟨code, kind, bx, tgt, els⟩ o G0 code.length).2 = G0 by have h := rowsK_end ⟨code, kind, bx, tgt, els⟩ o G0; simp only at h; rw [h]]; exact HS4), HX4, HV4, HU4⟩
      case round =>
        obtain ⟨z, kk, c8, rfl, HZ, hz1, hz2', HS8, HX8, HV8, HU8⟩ := hrel
        obtain ⟨w8, rfl⟩ : ∃ W : World, W = wr := ⟨_, rfl⟩
        by_cases hz0 : 0 ≤ z
        · obtain ⟨q, rfl⟩ := Int.eq_ofNat_of_zero_le hz0
          have hkk : kk = q + 1 := by have := HZ.out; omega
          subst hkk
          have hqc : q < code.length := by omega
          have hbw8 := HS8.out.bel
          have hB8 := HD.out.below hbw8 (Nat.le_refl _)
          have hiq := HSI.out q hqc
          have hlv := liveB_at ⟨code, kind, bx, tgt, els⟩ o hqc
          have hrk := rowsK_at ⟨code, kind, bx, tgt, els⟩ o G0 hqc
          have hlt8 : liveB ⟨code, kind, bx, tgt, els⟩ o (q + 1) < 2 ^ R := foldr_lt _ (lastB_lt (n := bs.length) ⟨code, kind, bx, tgt, els⟩ hol HBO.out) (fun x hx => by
            obtain ⟨y, hy, rfl⟩ := List.mem_iff_getElem.1 (List.mem_of_mem_drop hx)
            have := HSI.out y hy
            rwa [List.getD_eq_getElem?_getD, List.getElem?_eq_getElem hy] at this)
          have hglt := (rowsK_lt HBO.out hol HGL.out (q + 1)).2
          have hvis := visit_any R m nm ap an ac _ rv bs fb rb k q _ (liveB ⟨code, kind, bx, tgt, els⟩ o (q + 1)) (rowsK ⟨code, kind, bx, tgt, els⟩ o G0 (q + 1)).2 c8 w8 hm1 hRm hB8 hlt (by rw [← HBE.out]; exact hqc) (by rw [← HBE.out]; exact hiq) (HS8.out.fbox.at 3 rfl) (HS8.out.rbox.at 0 rfl) HS8.out.rows hglt HV8.out hlt8
          rw [← HBE.out] at hvis
          simp only at hvis hlv hrk
          obtain ⟨mi, oi, ci', e1, hmi, d0, d1, d2, d3, d4, d5⟩ := HIB.out.at q hqc
          injection e1 with e1 e2 e3
          subst e1 e3
          obtain ⟨⟨op, dst, ix, iy, imm, sym⟩, hi⟩ : ∃ x, x = code.getD q default := ⟨_, rfl⟩
          rw [← hi] at d0 d1 d2 d3 d4 d5 hiq hlv hrk hvis
          simp only at d0 d1 d2 d3 d4 d5 hvis
          have hfst := rowsK_fst ⟨code, kind, bx, tgt, els⟩ o G0 (q + 1)
          have hrk2 : (rowsK ⟨code, kind, bx, tgt, els⟩ o G0 q).2 = if hasDef op = true then upd (rowsK ⟨code, kind, bx, tgt, els⟩ o G0 (q + 1)).2 dst.toNat ((rowsK ⟨code, kind, bx, tgt, els⟩ o G0 (q + 1)).2 dst.toNat ||| liveB ⟨code, kind, bx, tgt, els⟩ o (q + 1)) else (rowsK ⟨code, kind, bx, tgt, els⟩ o G0 (q + 1)).2 := by
            rw [hrk, ← hfst]; rfl
          rw [← hrk2] at hvis
          have HLV := Lib.hid hlv
          have HVI := Lib.hid hvis
          have HIQ := Lib.hid hiq
          have HL8 := Lib.hid hlt8
          have DD := Lib.hid (⟨d0, d1, d2, d3, d4, d5⟩ : _ ∧ _ ∧ _ ∧ _ ∧ _ ∧ _)
          have hmiE := hmi
          clear hi hlv hiq hlt8 hvis hrk hrk2 hfst hB8 hbw8 hglt d0 d1 d2 d3 d4 d5
          go_wp2_with fail
          refine HVI.out.mono ?_
          rintro e w9 ⟨rfl, hs9, hT9⟩
          have hS9 := HS8.out.setRows (hs9.mono (fun q _ e => paint_keep e)) hT9
          have hX9 := HX8.out.other hT9 (by decide)
          have hV9 : SetV w9 m (.slice pu m cu) (liveB ⟨code, kind, bx, tgt, els⟩ o (q + 1)) := HV8.out.keep fun b hb => hT9.block b (HV8.out.lt hb) (by rw [HU8.out b hb]; decide)
          have HU9 : Hid (∀ b, (Value.slice pu m cu).ownBlock = some b → paint c8 w8.heap.size 7 b = 6) := fun b hb => by rw [paint_lt (HV8.out.lt hb)]; exact HU8.out b hb
          obtain ⟨f0, f1, f2, f3, f4, f5⟩ := DD.out
          have hbw9 := hS9.bel
          have d0 := (hbw9.cell (p := ⟨mi, _, none⟩) hmiE).trans f0
          have d1 := (hbw9.cell (p := ⟨mi, _, none⟩) hmiE).trans f1
          have d2 := (hbw9.cell (p := ⟨mi, _, none⟩) hmiE).trans f2
          have d3 := (hbw9.cell (p := ⟨mi, _, none⟩) hmiE).trans f3
          have d4 := (hbw9.cell (p := ⟨mi, _, none⟩) hmiE).trans f4
          have d5 := (hbw9.cell (p := ⟨mi, _, none⟩) hmiE).trans f5
          have hmi9 : mi < w9.heap.size := by have := hbw9.size; omega
          have HS9 := Lib.hid hS9
          have HX9 := Lib.hid hX9
          have HV9 := Lib.hid hV9
          have HBA := Lib.hid (back_any m R _ op dst ix iy imm sym _ w9 hm1 hRm HL8.out HIQ.out hV9)
          have g0 := hX9.at 0 rfl
          have hzx9 := hX9.lt
          clear hs9 hT9 hS9 hX9 hV9 HS8 HX8 HV8 HU8 HVI f0 f1 f2 f3 f4 f5 hbw9 DD
          go_wp2_with fail
          refine HBA.out.mono ?_
          rintro e w10 ⟨rfl, hs10, hg10⟩
          have hT10 : Touch (paint c8 w8.heap.size 7) 6 w9 w10 := Touch.of_grown hg10 HU9.out
          have HS10 := Lib.hid (HS9.out.touch6 hT10)
          have HX10 := Lib.hid (HX9.out.other hT10 (by decide))
          rw [← HLV.out] at hs10
          have HV10 := Lib.hid hs10
          have HU10 : Hid (∀ b, (Value.slice pu m cu).ownBlock = some b → paint (paint c8 w8.heap.size 7) w9.heap.size 6 b = 6) := fun b hb => paint_keep (HU9.out b hb)
          clear HBA hs10 hg10 hT10 HS9 HX9 HV9 HU9 d0 d1 d2 d3 d4 d5 g0 hzx9 hmi9 hmi
          go_wp2_with fail
          go_roundw
          case rel => exact ⟨_, q, _, rfl, (show _ = _ by omega), by omega, by omega, HS10, HX10, HV10, HU10⟩
          case measure => simp [intOf] <;> omega
        · have hkk : kk = 0 := by have := HZ.out; omega
          subst hkk
          clear HZ
          go_wp2_with fail
          go_roundw
          case rel => exact ⟨k + 1, c8, by go_num, by omega, (by rw [HRN.out]; exact HS8)⟩
          case measure => simp [intOf]; omega
    · have hkn : k = bs.length := by omega
      subst hkn
      go_wp2_with fail
      go_end0
      exact ⟨rfl, c2, HS2.out.rows, HS2.out.fbox, HS2.out.rbox, HS2.out.low, HS2.out.bel, HS2.out.big⟩
end Go.Proofs.YtifjcknklecdbaaDoor
