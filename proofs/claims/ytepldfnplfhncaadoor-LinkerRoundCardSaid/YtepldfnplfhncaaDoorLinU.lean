/- linker.Decode, by its contract. -/
import Derived.Test.YtepldfnplfhncaaDoorLinT
import Derived.Test.YtepldfnplfhncaaDoorLinP
import Derived.Deep.RegionLaw
set_option linter.unusedVariables false
set_option linter.unusedSimpArgs false
namespace Go.Proofs.YtepldfnplfhncaaDoor
open Go.RowKit

theorem step_append_u32 {w : World} {ops : Array Oper} {o : Oper} {a : Act} {K : Act → World → Prop} {Q : Exit → Act → World → Prop} {E : Prop} (hgd : o.guard = none) (s x : Operand)
    (ho : o.op = .call { callee := .builtin .append, args := #[s, x], argTypes := #[22, 22] })
    (base : Nat) (v : Value) (l : List Int) (hs : a.eval s = v) (hown : w.ownsRow base 73 1 v l.length (wordsV l))
    (g c : Nat) (y : Int) (hx : a.eval x = .slice (some ⟨g, 0, none⟩) 1 c) (hy : w.cell? ⟨g, 0, none⟩ = some (.int .u32 y))
    (h63 : l.length ≤ 1000000) (hbase : base ≤ w.heap.size)
    (h : ∀ p c' w', w'.ownsRow base 73 1 (.slice p (l.length + 1) c') (l.length + 1) (wordsV l ++ [.int .u32 y]) → w.grownBy w' v.ownBlock → ((Value.slice p (l.length + 1) c').ownBlock = v.ownBlock ∨ ∀ k, (Value.slice p (l.length + 1) c').ownBlock = some k → w.heap.size ≤ k) → K (a.put o.dst (.slice p (l.length + 1) c')) w') : if Region.wanted o (yielded ops a.tmps) = true then Oper.wp Tryd.prog o a w K Q else E := by
  have hw : Region.wanted o (yielded ops a.tmps) = true := by simp [Region.wanted, hgd]
  rw [if_pos hw]
  obtain ⟨i, hi, hie⟩ := Option.map_eq_some_iff.1 infoW
  simp only [Prod.mk.injEq] at hie
  obtain ⟨v', w', hrun, h2, h3, _, h5⟩ := run_append_own_at (P := Tryd.prog) w base 22 o.type 73 i (.int .u32 0) 1 4 Tryd.underlying22 hi hie.1 hie.2.1 hie.2.2 rfl (by decide) v l.length _ hown ⟨g, 0, none⟩ 1 c [.int .u32 y] rfl (fun j u hj => by
    have hjl : j < 1 := by
      obtain ⟨h, _⟩ := List.getElem?_eq_some_iff.1 hj
      simpa using h
    have : j = 0 := by omega
    subst this
    have e2 : (⟨g, 0, none⟩ : Addr).add 0 = ⟨g, 0, none⟩ := by unfold Addr.add; simp
    rw [e2, hy]
    simpa using hj) (fun u hu => by rw [List.mem_singleton] at hu; subst hu; rfl) (by unfold maxLen; omega) (by omega) hbase
  have hsl : ∃ p c', v' = .slice p (l.length + 1) c' := by
    rcases h2.2 with ⟨rfl, hh⟩ | ⟨g, cap, cur, rfl, _⟩
    · omega
    · exact ⟨_, _, rfl⟩
  obtain ⟨p, c', rfl⟩ := hsl
  unfold Oper.wp execOp
  simp only [ho, resolve, invoke, builtin, Sem.run_bind, Sem.run_pure, Result.andThen_ok, List.map_toArray, List.map_cons, List.map_nil, hs, hx, hrun]
  exact h p c' w' h2 h3 (h5.imp id fun e k hk => by rw [e] at hk; cases hk; exact Nat.le_refl _)

/-- What Decode leaves. -/
def DecPost (l : List Nat) (w : World) (e : Ending) (w' : World) : Prop :=
  ∃ cv ev, e = .returned (.tuple #[.agg #[cv, ev, .int .i64 (decP l).2.sh, .int .i64 (decP l).2.lk], .int .i64 (decP l).1]) ∧ LImAt w' cv ev (decP l).2 ∧ Below w.heap.size w w'
def zIm : Obj := .cells #[.slice none 0 0, .slice none 0 0, .int .i64 0, .int .i64 0] 25
theorem dec_made (w : World) (bv : Value) (l : List Nat) (h : BtAt w bv l) (hv : ∀ k, bv.ownBlock = some k → k < w.heap.size) (hb : ∀ c ∈ l, c < 256) (hl : l.length ≤ 1000000) :
    DecRel (w.heap.size + 1) (w.alloc zIm) (w.heap.size + 1 + 1) (w.heap.size + 1) [] [] 0 0 [] (l, false) (.slice none 0 0) (.slice none 0 0) (((w.alloc zIm).alloc (.cells #[bv, .bool false] 83)).alloc zIm) := by
  have hB : Below w.heap.size w (((w.alloc zIm).alloc (.cells #[bv, .bool false] 83)).alloc zIm) := bAlloc (by simp; omega) (bAlloc (by simp) (bAlloc (Nat.le_refl _) (Below.refl _ _)))
  refine ⟨fun k => if k < w.heap.size + 1 then 0 else if k = w.heap.size + 1 then 4 else 1, bv, ⟨?_, ⟨by simp [zIm, go_sem], by simp [zIm, go_sem], fun k => ?_, by simp, h.below hB (Nat.le_refl _), fun e => by have := hv _ e; omega⟩, by simp, fun k hk => by have := hv k hk; omega, hb, hl, bAlloc (by simp) (bAlloc (by simp) (Below.refl _ _)), fun p hp => by cases hp⟩⟩
  · refine ⟨⟨by simp [zIm, go_sem], by simp [zIm, go_sem], by simp [zIm, go_sem], by simp [zIm, go_sem]⟩, fun k => ?_, by simp, by simp, OwnC.nil _ _ _ _ _, OwnC.nil _ _ _ _ _, fun k hk => if_pos hk, by simp⟩
    unfold World.frozen?
    have hh := heap_alloc_new ((w.alloc zIm).alloc (.cells #[bv, .bool false] 83)) zIm
    rw [show ((w.alloc zIm).alloc (.cells #[bv, .bool false] 83)).heap.size = w.heap.size + 1 + 1 by simp] at hh
    rw [hh]; rfl
  · unfold World.frozen?
    have hh := heap_alloc_new (w.alloc zIm) (.cells #[bv, .bool false] 83)
    rw [show (w.alloc zIm).heap.size = w.heap.size + 1 by simp] at hh
    have h2 := Below.heap_alloc ((w.alloc zIm).alloc (.cells #[bv, .bool false] 83)) zIm (w.heap.size + 1) (by simp)
    rw [show (⟨w.heap.size + 1, k, none⟩ : Addr).block = w.heap.size + 1 from rfl, h2, hh]; rfl

theorem zero_at (w : World) : LImAt w (.slice none 0 0) (.slice none 0 0) zeroIm :=
  ⟨⟨none, 0, rfl, fun k hk => by cases hk⟩, ⟨none, 0, rfl, fun k hk => by cases hk⟩, fun k hk => by cases hk⟩

set_option maxHeartbeats 6400000 in
set_option maxRecDepth 20000 in
theorem dec_any22 (bv : Value) (l : List Nat) (w : World) (hT : Tab w) (h : BtAt w bv l) (hv : ∀ k, bv.ownBlock = some k → k < w.heap.size) (hb : ∀ c ∈ l, c < 256) (hl : l.length ≤ 1000000) :
    Calls Tryd.prog 12 #[bv] w (DecPost l w) := by
  obtain ⟨pb, cb, hpb⟩ := h.shape
  have HD := Lib.hid (dec_made w bv l h hv hb hl)
  have HT0 := Lib.hid (hT.of_below (show Below w.heap.size w (w.alloc zIm) from bAlloc (Nat.le_refl _) (Below.refl _ _)))
  have HX0 := Lib.hid (show RowC (w.alloc zIm) w.heap.size [.slice none 0 0, .slice none 0 0, .int .i64 0, .int .i64 0] from RowC.made w [.slice none 0 0, .slice none 0 0, .int .i64 0, .int .i64 0] 25)
  have HF0 := Lib.hid (show ∀ k, (w.alloc zIm).frozen? ⟨w.heap.size, k, none⟩ = false from fun k => by unfold World.frozen?; rw [heap_alloc_new w]; rfl)
  have HB0 := Lib.hid (show Below w.heap.size w (w.alloc zIm) from bAlloc (Nat.le_refl _) (Below.refl _ _))
  have HZ0 := Lib.hid (show (w.alloc zIm).heap.size = w.heap.size + 1 by simp)
  clear h hv hT
  subst hpb
  go_enter Tryd.func12, Tryd.ntmps12
  unfold zIm at HD HT0 HX0 HF0 HB0 HZ0
  go_wp2_with fail
  generalize w.alloc (.cells #[.slice none 0 0, .slice none 0 0, .int .i64 0, .int .i64 0] 25) = W0 at HD HT0 HX0 HF0 HB0 HZ0 ⊢
  refine (num_dec (k := 2) HD.out (by decide)).mono ?_
  rintro e w1 ⟨rfl, HD1⟩
  generalize hA0 : numR 2 (l, false) = A0 at HD1 ⊢
  have HA0 := Lib.hid hA0
  clear hA0 HD
  obtain ⟨bx, gl, fz⟩ := HD1.out.box
  have b0 := bx.c
  have b1 := bx.e
  have b2 := bx.s
  have b3 := bx.l
  have f0 := fz 0
  have f1 := fz 1
  have f2 := fz 2
  have f3 := fz 3
  clear bx fz
  have HD2 := Lib.hid (HD1.out.setS A0.1)
  go_wp2_with fail
  clear b0 b1 b2 b3 f0 f1 f2 f3 gl
  refine (num_dec (k := 1) HD2.out (by decide)).mono ?_
  rintro e w2 ⟨rfl, HD3⟩
  generalize hA1 : numR 1 A0.2 = A1 at HD3 ⊢
  have HA1 := Lib.hid hA1
  clear hA1 HD1 HD2
  obtain ⟨bx, gl, fz⟩ := HD3.out.box
  have b0 := bx.c
  have b1 := bx.e
  have b2 := bx.s
  have b3 := bx.l
  have f0 := fz 0
  have f1 := fz 1
  have f2 := fz 2
  have f3 := fz 3
  clear bx fz
  have HD4 := Lib.hid (HD3.out.setL A1.1)
  go_wp2_with fail
  clear b0 b1 b2 b3 f0 f1 f2 f3 gl
  have HLT := Lib.hid (numR_lt 1 A1.2 HD4.out.byt)
  refine (num_dec (k := 1) HD4.out (by decide)).mono ?_
  rintro e w3 ⟨rfl, HD5⟩
  generalize hA2 : numR 1 A1.2 = A2 at HD5 HLT ⊢
  have HA2 := Lib.hid hA2
  clear hA2 HD3 HD4
  have hA2 := HLT.out
  go_wp2_with fail
  go_loopw [19] (fun s19 wx => ∃ k : Nat, s19 = .int .i64 k ∧ k ≤ A2.1 ∧ Hid (∃ ev, DecRel (w.heap.size + 1) W0 (w.heap.size + 1 + 1) (w.heap.size + 1) [] ((manyR entR k A2.2).1.map ofEnt) A0.1 A1.1 [] (manyR entR k A2.2).2 (.slice none 0 0) (ev) wx)) (fun s19 _ => A2.1 - (intOf s19).toNat)
  case atStart => exact ⟨0, rfl, Nat.zero_le _, _, HD5.out⟩
  case round =>
    clear HD5
    obtain ⟨k, rfl, hk, HE⟩ := hrel
    obtain ⟨w5, rfl⟩ : ∃ W : World, W = wr := ⟨_, rfl⟩
    by_cases hlt : k < A2.1
    · skip
      have hltI : (k : Int) < A2.1 := by omega
      obtain ⟨ev, hE⟩ := HE.out
      have HE0 := Lib.hid hE
      clear hE HE
      have HSN := Lib.hid (manyR_snoc entR k A2.2)
      have hml := manyR_len entR k A2.2
      generalize manyR entR k A2.2 = M at HE0 HSN hml
      have hel : (M.1.map ofEnt).length ≤ 1000000 := by rw [List.length_map, hml]; omega
      clear hml
      generalize hEE : M.1.map ofEnt = E at HE0 hel
      have HEE := Lib.hid hEE
      clear hEE
      have HF1 := Lib.hid (HE0.out.row [.string .empty, .int .i64 0, .int .i64 0, .int .i64 0] 61)
      clear HE0
      go_wp2_with fail
      have HLT1 := Lib.hid (numR_lt 1 M.2 HF1.out.byt)
      refine (num_dec (k := 1) HF1.out (by decide)).mono ?_
      rintro e x1 ⟨rfl, HF2⟩
      generalize hN1 : numR 1 M.2 = N1 at HF2 HLT1 ⊢
      have HN1 := Lib.hid hN1
      clear hN1 HF1
      have hn1 := HLT1.out
      go_wp2_with fail
      refine (take_dec HF2.out (by omega)).mono ?_
      rintro e x2 ⟨u, rfl, HU, HF3⟩
      generalize hT1 : takeR N1.1 N1.2 = T1 at HU HF3
      have HT1 := Lib.hid hT1
      clear hT1 HF2 hn1
      obtain ⟨rw0, fz⟩ := HF3.out.at
      have g0 := rw0.at 0 rfl
      have g1 := rw0.at 1 rfl
      have g2 := rw0.at 2 rfl
      have g3 := rw0.at 3 rfl
      have gl := rw0.lt
      have f0 := fz 0
      have f1 := fz 1
      have f2 := fz 2
      have f3 := fz 3
      clear rw0 fz
      have HF4 : Hid (DecRel (w.heap.size + 1) W0 (w.heap.size + 1 + 1) (w.heap.size + 1) [] E A0.1 A1.1 [(w5.heap.size, [.string (strN T1.1), .int .i64 0, .int .i64 0, .int .i64 0])] T1.2 (.slice none 0 0) (ev) (x2.setCell ⟨w5.heap.size, 0, none⟩ (.string (strN T1.1)))) := HF3.out.setRow 0 _
      go_wp2_with (refine wpList_conv rfl _ 31 9 rfl u (.string (strN T1.1)) rfl HU.out.text ?_)
      clear g0 g1 g2 g3 gl f0 f1 f2 f3 HU HF3
      have HLTN3 := Lib.hid (numR_lt 2 T1.2 HF4.out.byt)
      refine (num_dec (k := 2) HF4.out (by decide)).mono ?_
      rintro e x3 ⟨rfl, HF1b⟩
      generalize hN3 : numR 2 T1.2 = N3 at HF1b HLTN3 ⊢
      have HN3 := Lib.hid hN3
      clear hN3 HF4
      obtain ⟨rw0, fz⟩ := HF1b.out.at
      have g0 := rw0.at 0 rfl
      have g1 := rw0.at 1 rfl
      have g2 := rw0.at 2 rfl
      have g3 := rw0.at 3 rfl
      have gl := rw0.lt
      have f0 := fz 0
      have f1 := fz 1
      have f2 := fz 2
      have f3 := fz 3
      clear rw0 fz
      have HF1c : Hid (DecRel (w.heap.size + 1) W0 (w.heap.size + 1 + 1) (w.heap.size + 1) [] E A0.1 A1.1 [(w5.heap.size, [.string (strN T1.1), .int .i64 N3.1, .int .i64 0, .int .i64 0])] N3.2 (.slice none 0 0) (ev) (x3.setCell ⟨w5.heap.size, 1, none⟩ (.int .i64 N3.1))) := HF1b.out.setRow 1 _
      go_wp2_with fail
      clear g0 g1 g2 g3 gl f0 f1 f2 f3 HF1b
      have HLTN4 := Lib.hid (numR_lt 2 N3.2 HF1c.out.byt)
      refine (num_dec (k := 2) HF1c.out (by decide)).mono ?_
      rintro e x4 ⟨rfl, HF2b⟩
      generalize hN4 : numR 2 N3.2 = N4 at HF2b HLTN4 ⊢
      have HN4 := Lib.hid hN4
      clear hN4 HF1c
      obtain ⟨rw0, fz⟩ := HF2b.out.at
      have g0 := rw0.at 0 rfl
      have g1 := rw0.at 1 rfl
      have g2 := rw0.at 2 rfl
      have g3 := rw0.at 3 rfl
      have gl := rw0.lt
      have f0 := fz 0
      have f1 := fz 1
      have f2 := fz 2
      have f3 := fz 3
      clear rw0 fz
      have HF2c : Hid (DecRel (w.heap.size + 1) W0 (w.heap.size + 1 + 1) (w.heap.size + 1) [] E A0.1 A1.1 [(w5.heap.size, [.string (strN T1.1), .int .i64 N3.1, .int .i64 N4.1, .int .i64 0])] N4.2 (.slice none 0 0) (ev) (x4.setCell ⟨w5.heap.size, 2, none⟩ (.int .i64 N4.1))) := HF2b.out.setRow 2 _
      go_wp2_with fail
      clear g0 g1 g2 g3 gl f0 f1 f2 f3 HF2b
      have HLTN5 := Lib.hid (numR_lt 2 N4.2 HF2c.out.byt)
      refine (num_dec (k := 2) HF2c.out (by decide)).mono ?_
      rintro e x5 ⟨rfl, HF3b⟩
      generalize hN5 : numR 2 N4.2 = N5 at HF3b HLTN5 ⊢
      have HN5 := Lib.hid hN5
      clear hN5 HF2c
      obtain ⟨rw0, fz⟩ := HF3b.out.at
      have g0 := rw0.at 0 rfl
      have g1 := rw0.at 1 rfl
      have g2 := rw0.at 2 rfl
      have g3 := rw0.at 3 rfl
      have gl := rw0.lt
      have f0 := fz 0
      have f1 := fz 1
      have f2 := fz 2
      have f3 := fz 3
      clear rw0 fz
      have HF3c : Hid (DecRel (w.heap.size + 1) W0 (w.heap.size + 1 + 1) (w.heap.size + 1) [] E A0.1 A1.1 [(w5.heap.size, [.string (strN T1.1), .int .i64 N3.1, .int .i64 N4.1, .int .i64 N5.1])] N5.2 (.slice none 0 0) (ev) (x5.setCell ⟨w5.heap.size, 3, none⟩ (.int .i64 N5.1))) := HF3b.out.setRow 3 _
      go_upto_region 12 with fail
      clear g0 g1 g2 g3 gl f0 f1 f2 f3 HF3b
      generalize x5.setCell ⟨w5.heap.size, 3, none⟩ (.int .i64 N5.1) = x6 at HF3c ⊢
      obtain ⟨bx, gl, fz⟩ := HF3c.out.box
      have b0 := bx.c
      have b1 := bx.e
      have b2 := bx.s
      have b3 := bx.l
      have f0 := fz 0
      have f1 := fz 1
      have f2 := fz 2
      have f3 := fz 3
      clear bx fz
      obtain ⟨rw0, fz⟩ := HF3c.out.at
      have g0 := rw0.at 0 rfl
      have g1 := rw0.at 1 rfl
      have g2 := rw0.at 2 rfl
      have g3 := rw0.at 3 rfl
      have gl2 := rw0.lt
      clear rw0 fz
      have bb : Below x6.heap.size x6 (x6.alloc (.cells #[.string (strN T1.1), .int .i64 N3.1, .int .i64 N4.1, .int .i64 N5.1] 61)) := bAlloc (Nat.le_refl _) (Below.refl _ _)
      have HO := Lib.hid (HF3c.out.ents bb)
      have HBB := Lib.hid bb
      clear bb
      go_wp2_with (first | (at_builtin; refine wpList_append_one rfl _ _ 23 61 (.agg #[.string .empty, .int .i64 0, .int .i64 0, .int .i64 0]) 4 40 rfl Tryd.underlying23 infoE rfl (by decide) (by decide) ev E.length _ rfl HO.out x6.heap.size 1 [.string (strN T1.1), .int .i64 N3.1, .int .i64 N4.1, .int .i64 N5.1] rfl rfl (RowC.made x6 [.string (strN T1.1), .int .i64 N3.1, .int .i64 N4.1, .int .i64 N5.1] 61).2 (by simp [Value.oneCell']) hel ?_))
      intro pe qe x7 hO hgr hd
      obtain ⟨bx, f1', gl', hK⟩ := HF3c.out.growE (x := ⟨strN T1.1, N3.1, N4.1, N5.1⟩) HBB.out hgr hO (hd.imp id fun h b e => by have := h b e; simp at this ⊢; omega)
      have b1' := bx.e
      have HK := Lib.hid hK
      clear b0 b1 b2 b3 f0 f1 f2 f3 gl g0 g1 g2 g3 gl2 hO hgr hd HO HBB bx hK HF3c
      have HEN : Hid (manyR entR (k + 1) A2.2 = (M.1 ++ [⟨T1.1, N3.1, N4.1, N5.1⟩], N5.2)) := (show _ = _ by rw [HSN.out]; unfold entR; simp only [HN1.out, HT1.out, HN3.out, HN4.out, HN5.out])
      go_wp2_with fail
      go_roundw
      case rel => exact ⟨k + 1, by go_num, by omega, _, by rw [HEN.out, List.map_append, HEE.out]; exact HK.out⟩
      case measure => simp [intOf]; omega
    · skip
      have hkn : k = A2.1 := by omega
      subst hkn
      obtain ⟨ev, hE⟩ := HE.out
      have HE0 := Lib.hid hE
      clear hE HE
      have hel : ((manyR entR A2.1 A2.2).1.map ofEnt).length ≤ 255 := by rw [List.length_map, manyR_len]; omega
      generalize hM : manyR entR A2.1 A2.2 = ME at HE0 hel
      have HME := Lib.hid hM
      clear hM
      generalize hEE : ME.1.map ofEnt = E at HE0 hel
      have HEE := Lib.hid hEE
      clear hEE
      go_wp2_with fail
      have HLT4 := Lib.hid (numR_lt 2 ME.2 HE0.out.byt)
      refine (num_dec (k := 2) HE0.out (by decide)).mono ?_
      rintro e w6 ⟨rfl, HD6⟩
      generalize hA4 : numR 2 ME.2 = A4 at HD6 HLT4 ⊢
      have HA4 := Lib.hid hA4
      clear hA4 HE0
      have h64 := HLT4.out
      go_wp2_with fail
      go_loopw [45] (fun s45 wx => ∃ k : Nat, s45 = .int .i64 k ∧ k ≤ A4.1 ∧ Hid (∃ cv, DecRel (w.heap.size + 1) W0 (w.heap.size + 1 + 1) (w.heap.size + 1) ((manyR (numR 4) k A4.2).1.map Int.ofNat) E A0.1 A1.1 [] (manyR (numR 4) k A4.2).2 (cv) (ev) wx) ∧ Hid (∀ c ∈ (manyR (numR 4) k A4.2).1, c < 4294967296)) (fun s45 _ => A4.1 - (intOf s45).toNat)
      case atStart => exact ⟨0, rfl, Nat.zero_le _, ⟨_, HD6.out⟩, fun c hc => by cases hc⟩
      case round =>
        clear HD6
        obtain ⟨k, rfl, hk, HE, HW⟩ := hrel
        obtain ⟨w7, rfl⟩ : ∃ W : World, W = wr := ⟨_, rfl⟩
        by_cases hlt4 : k < A4.1
        · skip
          have hltI : (k : Int) < A4.1 := by omega
          obtain ⟨cv, hE⟩ := HE.out
          have HE0 := Lib.hid hE
          clear hE HE
          have HSN := Lib.hid (manyR_snoc (numR 4) k A4.2)
          have hml := manyR_len (numR 4) k A4.2
          generalize manyR (numR 4) k A4.2 = M at HE0 HSN hml HW
          have hcl : (M.1.map Int.ofNat).length ≤ 1000000 := by rw [List.length_map, hml]; omega
          clear hml
          generalize hCC : M.1.map Int.ofNat = C at HE0 hcl
          have HCC := Lib.hid hCC
          clear hCC
          have HLT5 := Lib.hid (numR_lt 4 M.2 HE0.out.byt)
          have HNM := Lib.hid (num_dec (k := 4) (HE0.out.keep (w' := w7.drew) (Below.refl _ _).drew) (by decide))
          obtain ⟨bx, gl, fz⟩ := HE0.out.box
          have b0 := bx.c
          have b1 := bx.e
          have b2 := bx.s
          have b3 := bx.l
          have f0 := fz 0
          have f1 := fz 1
          have f2 := fz 2
          have f3 := fz 3
          clear bx fz
          generalize hN4 : numR 4 M.2 = N at HNM HLT5
          have HN := Lib.hid hN4
          clear hN4
          have HWr : Hid (IntKind.u32.wrap (N.1 : Int) = (N.1 : Int)) := (show _ = _ by rw [IntKind.wrap_u32]; have := HLT5.out; omega)
          go_wp2_with fail
          go_region_law (first | (refine step_append_u32 rfl _ _ rfl 0 cv C rfl (HO.out _) xA.heap.size 1 N.1 rfl (by simp [go_sem]; exact HWr.out) hcl (Nat.zero_le _) ?_; intro p c' x7 hO hgr hd; obtain ⟨bx7, f7, gl7, hK⟩ := HDA.out.growC (x := (N.1 : Int)) (by repeat (first | (with_reducible exact Below.refl _ _) | (with_reducible apply Below.drew) | (with_reducible apply bAlloc (Nat.le_refl _)))) hgr hO hd; have b7 := bx7.c; have HK := Lib.hid hK) | (go_simp; go_at_call 27; refine HNM.out.mono ?_; rintro e xA ⟨rfl, HDA⟩; obtain ⟨bxA, glA, fzA⟩ := HDA.out.box; have bA := bxA.c; have fA := fzA 0; have HO := Lib.hid (fun o : Obj => HDA.out.code (w' := xA.alloc o) (bAlloc (Nat.le_refl _) (Below.refl _ _)))))
          all_goals (
            have HEN : Hid (manyR (numR 4) (k + 1) A4.2 = (M.1 ++ [N.1], N.2)) := (show _ = _ by rw [HSN.out, HN.out])
            go_wp2_with fail
            go_roundw
            case rel => exact ⟨k + 1, by go_num, by omega, ⟨_, by rw [HEN.out, List.map_append, HCC.out]; exact HK.out⟩, by rw [HEN.out]; intro c hc; rcases List.mem_append.1 hc with hc | hc; exact HW.out c hc; rw [List.mem_singleton] at hc; subst hc; exact HLT5.out⟩
            case measure => simp [intOf]; omega)
        · skip
          have hkn : k = A4.1 := by omega
          subst hkn
          obtain ⟨cv, hE⟩ := HE.out
          have HE0 := Lib.hid hE
          clear hE HE
          have hcl : ((manyR (numR 4) A4.1 A4.2).1.map Int.ofNat).length ≤ 65535 := by rw [List.length_map, manyR_len]; omega
          generalize hM : manyR (numR 4) A4.1 A4.2 = MC at HE0 hcl HW
          have HMC := Lib.hid hM
          clear hM
          have HIM : Hid (imgR (l, false) = (⟨A0.1, A1.1, ME.1, MC.1⟩, MC.2)) := (show _ = _ by unfold imgR; simp only [HA0.out, HA1.out, HA2.out, HME.out, HA4.out, HMC.out])
          have HOF : Hid (ofImg ⟨A0.1, A1.1, ME.1, MC.1⟩ = ⟨MC.1.map Int.ofNat, E, A0.1, A1.1⟩) := (show _ = _ by unfold ofImg; simp only [HEE.out])
          generalize hCC : MC.1.map Int.ofNat = C at HE0 hcl HOF
          have HWC : Hid (∀ j, j < C.length → 0 ≤ C.getD j 0 ∧ C.getD j 0 < 4294967296) := (show ∀ j, _ from fun j hj => by
            subst hCC
            have hj' : j < MC.1.length := by simpa using hj
            rw [List.getD_eq_getElem?_getD, List.getElem?_map, List.getElem?_eq_getElem hj']
            have := HW.out _ (List.getElem_mem hj')
            exact ⟨Int.natCast_nonneg _, by show ((MC.1[j] : Nat) : Int) < _; omega⟩)
          clear hCC HW
          obtain ⟨pr, cr, r0, r1, rl⟩ := HE0.out.rdr
          have rX := HX0.out.below HE0.out.bel (Nat.lt_succ_self _)
          have x0 := rX.at 0 rfl
          have x1 := rX.at 1 rfl
          have x2 := rX.at 2 rfl
          have x3 := rX.at 3 rfl
          have lx := rX.lt
          have fX : ∀ j, w7.frozen? ⟨w.heap.size, j, none⟩ = false := fun j => (World.frozen?_of_block (a := ⟨w.heap.size, j, none⟩) (HE0.out.bel.block _ (Nat.lt_succ_self _))).trans (HF0.out j)
          have e0 := fX 0
          have e1 := fX 1
          have e2 := fX 2
          have e3 := fX 3
          have HB7 := Lib.hid (HB0.out.trans (HE0.out.bel.mono (Nat.le_succ _)))
          clear rX fX
          obtain ⟨mc, rest, en⟩ := MC
          cases en
          · skip
            by_cases hr : rest = []
            · skip
              subst hr
              have HS7 := Lib.hid (HE0.out)
              obtain ⟨bx, gl, fz⟩ := HE0.out.box
              have b0 := bx.c
              have b1 := bx.e
              have b2 := bx.s
              have b3 := bx.l
              clear bx fz HE0
              have HCK := Lib.hid (check_any cv ev ⟨C, E, A0.1, A1.1⟩ w7 (HT0.out.of_below (HS7.out.bel.mono (Nat.le_of_eq HZ0.out))) (by obtain ⟨col, him⟩ := HS7.out.img; exact him.lim HWC.out))
              by_cases hc : chk ⟨C, E, A0.1, A1.1⟩ = 0
              · skip
                have HP : Hid (decP l = (0, ⟨C, E, A0.1, A1.1⟩)) := (show _ = _ by unfold decP; rw [HIM.out]; simp [HOF.out, hc])
                rw [hc] at HCK
                go_wp2_with fail
                refine HCK.out.mono ?_
                rintro e w8 ⟨rfl, hb8⟩
                have HS8 := Lib.hid (HS7.out.keep hb8)
                have HB8 := Lib.hid (HB7.out.trans (hb8.mono HB7.out.size))
                have rX := HX0.out.below HS8.out.bel (Nat.lt_succ_self _)
                clear x0 x1 x2 x3 lx e0 e1 e2 e3 b0 b1 b2 b3 gl r0 r1 rl hb8 HCK
                have x0 := rX.at 0 rfl
                have x1 := rX.at 1 rfl
                have x2 := rX.at 2 rfl
                have x3 := rX.at 3 rfl
                have lx := rX.lt
                have fX : ∀ j, w8.frozen? ⟨w.heap.size, j, none⟩ = false := fun j => (World.frozen?_of_block (a := ⟨w.heap.size, j, none⟩) (HS8.out.bel.block _ (Nat.lt_succ_self _))).trans (HF0.out j)
                have e0 := fX 0
                have e1 := fX 1
                have e2 := fX 2
                have e3 := fX 3
                clear rX fX
                obtain ⟨bx, gl, fz⟩ := HS8.out.box
                have b0 := bx.c
                have b1 := bx.e
                have b2 := bx.s
                have b3 := bx.l
                clear bx fz
                have hsc : ∃ p c, cv = .slice p C.length c := by obtain ⟨col, him⟩ := HS8.out.img; exact him.code.shape
                have hse : ∃ p c, ev = .slice p E.length c := by obtain ⟨col, him⟩ := HS8.out.img; exact him.ents.shape
                obtain ⟨pc, cc, rfl⟩ := hsc
                obtain ⟨pe, ce, rfl⟩ := hse
                go_wp2_with fail
                refine bodyPost_ret (run_result_im2 Tryd.results12 _ _ w.heap.size (.slice pc C.length cc) (.slice pe E.length ce) (.int .i64 A0.1) (.int .i64 A1.1) (.int .i64 0) rfl rfl ?_ ?_ ?_ ?_) rfl ?_
                · simp [go_sem, x0]
                · simp [go_sem, x1]
                · simp [go_sem, x2]
                · simp [go_sem, x3]
                · refine ⟨_, _, by rw [HP.out], ?_, bSet (Nat.le_refl _) (bSet (Nat.le_refl _) (bSet (Nat.le_refl _) (bSet (Nat.le_refl _) HB8.out)))⟩
                  rw [HP.out]
                  obtain ⟨c0, h0⟩ := HS8.out.img
                  obtain ⟨c1, h1⟩ := h0.put0 (Nat.lt_succ_self w.heap.size) 0 (.slice pc C.length cc)
                  obtain ⟨c2, h2⟩ := h1.put0 (Nat.lt_succ_self w.heap.size) 1 (.slice pe E.length ce)
                  obtain ⟨c3, h3⟩ := h2.put0 (Nat.lt_succ_self w.heap.size) 2 (.int .i64 A0.1)
                  obtain ⟨c4, h4⟩ := h3.put0 (Nat.lt_succ_self w.heap.size) 3 (.int .i64 A1.1)
                  exact h4.lim HWC.out
              · skip
                have HP : Hid (decP l = (chk ⟨C, E, A0.1, A1.1⟩, zeroIm)) := (show _ = _ by unfold decP; rw [HIM.out]; simp [HOF.out, hc])
                have hne : (chk ⟨C, E, A0.1, A1.1⟩ != 0) = true := by simpa using hc
                generalize chk ⟨C, E, A0.1, A1.1⟩ = z at HCK HP hne hc
                go_wp2_with fail
                refine HCK.out.mono ?_
                rintro e w8 ⟨rfl, hb8⟩
                have HS8 := Lib.hid (HS7.out.keep hb8)
                have HB8 := Lib.hid (HB7.out.trans (hb8.mono HB7.out.size))
                have rX := HX0.out.below HS8.out.bel (Nat.lt_succ_self _)
                clear x0 x1 x2 x3 lx e0 e1 e2 e3 b0 b1 b2 b3 gl r0 r1 rl hb8 HCK
                have x0 := rX.at 0 rfl
                have x1 := rX.at 1 rfl
                have x2 := rX.at 2 rfl
                have x3 := rX.at 3 rfl
                have lx := rX.lt
                have fX : ∀ j, w8.frozen? ⟨w.heap.size, j, none⟩ = false := fun j => (World.frozen?_of_block (a := ⟨w.heap.size, j, none⟩) (HS8.out.bel.block _ (Nat.lt_succ_self _))).trans (HF0.out j)
                have e0 := fX 0
                have e1 := fX 1
                have e2 := fX 2
                have e3 := fX 3
                clear rX fX
                go_wp2_with fail
                refine bodyPost_ret (run_result_im2 Tryd.results12 _ _ w.heap.size (.slice none 0 0) (.slice none 0 0) (.int .i64 0) (.int .i64 0) (.int .i64 z) rfl rfl ?_ ?_ ?_ ?_) rfl ?_
                · simp [go_sem, x0]
                · simp [go_sem, x1]
                · simp [go_sem, x2]
                · simp [go_sem, x3]
                · exact ⟨_, _, by rw [HP.out]; rfl, by rw [HP.out]; exact zero_at _, bSet (Nat.le_refl _) (bSet (Nat.le_refl _) (bSet (Nat.le_refl _) (bSet (Nat.le_refl _) HB8.out)))⟩
            · skip
              have HP : Hid (decP l = (3, zeroIm)) := (show _ = _ by unfold decP; rw [HIM.out]; simp [hr])
              have hrl : (rest.length : Int) > 0 := by have := List.length_pos_iff.2 hr; omega
              clear HE0
              go_wp2_with fail
              refine bodyPost_ret (run_result_im2 Tryd.results12 _ _ w.heap.size (.slice none 0 0) (.slice none 0 0) (.int .i64 0) (.int .i64 0) (.int .i64 3) rfl rfl ?_ ?_ ?_ ?_) rfl ?_
              · simp [go_sem, x0]
              · simp [go_sem, x1]
              · simp [go_sem, x2]
              · simp [go_sem, x3]
              · exact ⟨_, _, by rw [HP.out]; rfl, by rw [HP.out]; exact zero_at _, bSet (Nat.le_refl _) (bSet (Nat.le_refl _) (bSet (Nat.le_refl _) (bSet (Nat.le_refl _) HB7.out)))⟩
          · skip
            have HP : Hid (decP l = (4, zeroIm)) := (show _ = _ by unfold decP; rw [HIM.out]; simp)
            clear HE0
            go_wp2_with fail
            refine bodyPost_ret (run_result_im2 Tryd.results12 _ _ w.heap.size (.slice none 0 0) (.slice none 0 0) (.int .i64 0) (.int .i64 0) (.int .i64 4) rfl rfl ?_ ?_ ?_ ?_) rfl ?_
            · simp [go_sem, x0]
            · simp [go_sem, x1]
            · simp [go_sem, x2]
            · simp [go_sem, x3]
            · exact ⟨_, _, by rw [HP.out]; rfl, by rw [HP.out]; exact zero_at _, bSet (Nat.le_refl _) (bSet (Nat.le_refl _) (bSet (Nat.le_refl _) (bSet (Nat.le_refl _) HB7.out)))⟩
end Go.Proofs.YtepldfnplfhncaaDoor
