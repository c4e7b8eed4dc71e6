/- The generator's read and write, by their contracts. -/
import Derived.Test.YtlajdcikhbocdaaDoorGenF
set_option linter.unusedVariables false
set_option linter.unusedSimpArgs false
namespace Go.Proofs.YtlajdcikhbocdaaDoor
open Go.RowKit Go.Maps

theorem GsRd.drew {w : World} {v : Value} {l : List GI} (h : GsRd w v l) : GsRd w.drew v l := h.below (Below.drew (Below.refl _ _)) (Nat.le_refl _)
/-- The places and the spill slots are small. -/
structure CfOk (c : Cfg) : Prop where
  sp : 0 ≤ c.sp ∧ c.sp ≤ 1000
  pl : ∀ k, k < c.P.length → (0 ≤ (c.P.getD k (0, 0)).1 ∧ (c.P.getD k (0, 0)).1 ≤ 15) ∧ -1 ≤ (c.P.getD k (0, 0)).2 ∧ (c.P.getD k (0, 0)).2 ≤ 1000

set_option maxHeartbeats 3200000 in
set_option maxRecDepth 20000 in
theorem read_any {q : GK} {R : List (Nat × List Value)} {g : Gen} {w : World} (h : GenRel q R g w) (hc : CfOk q.c) {v : Int} (hv : okR q.c.P.length v = true) (scr : Int) (hz : SzG g 900000) :
    Calls Tryd.prog 38 #[.pointer (some ⟨q.gb, 0, none⟩), .int .i64 v, .int .i64 scr] w fun e w' => e = .returned (.int .i64 (readG q.c v scr g).1) ∧ Hid (GenRel q R (readG q.c v scr g).2 w') := by
  obtain ⟨hz1, -, -⟩ := hz
  have hvv : 0 ≤ v ∧ v < q.c.P.length := of_decide_eq_true hv
  obtain ⟨k, rfl⟩ := Int.eq_ofNat_of_zero_le hvv.1
  have hk : k < q.c.P.length := by omega
  have hkI : (k : Int) < q.c.P.length := by omega
  clear hvv hv
  obtain ⟨p0, p1, hpl⟩ := h.place hk
  have hsp := hc.sp
  have hpk := hc.pl k hk
  have HP : Hid (placeG q.c (k : Int) = q.c.P.getD k (0, 0)) := (show _ = _ by unfold placeG; rw [Int.toNat_natCast])
  generalize q.c.P.getD k (0, 0) = pl at p0 p1 hpk HP
  obtain ⟨x, y⟩ := pl
  simp only at p0 p1 hpk
  have hwr : IntKind.i64.wrap (q.c.sp + y) = q.c.sp + y := IntWalk.i64_in _ (by omega)
  have hW := h.made [.int .i64 x, .int .i64 y] 94
  have HW := Lib.hid hW
  obtain ⟨col, cv, rv, sv, bv, hA⟩ := h
  obtain ⟨hlt, ⟨c0, c1, c2⟩, -⟩ := hA.cells
  clear hA hW hpk hsp
  by_cases hx : x = 0
  · have HE : Hid (readG q.c (k : Int) scr g = (scr, emitG [⟨18, scr, 0, 0, q.c.sp + y⟩] g)) := (show _ = _ by unfold readG; rw [HP.out]; simp [hx])
    rw [HE.out]
    subst hx
    go_enter Tryd.func38, Tryd.ntmps38
    go_upto_region 4 with fail
    obtain ⟨w1, hw1⟩ : ∃ W : World, W = w.alloc (.cells #[.int .i64 0, .int .i64 y] 94) := ⟨_, rfl⟩
    rw [← hw1]
    have HW1 : Hid (GenRel q ((w.heap.size, [.int .i64 0, .int .i64 y]) :: R) g w1) := by rw [hw1]; exact HW
    clear hw1 HW c0 c1 c2 p0 p1 hpl hlt
    have r0 := HW1.out.at (List.mem_cons_self ..)
    have l0 := r0.lt
    have q1 := r0.at 1 rfl
    obtain ⟨col, cv, rv, sv, bv, hA⟩ := HW1.out
    obtain ⟨hlt2, ⟨d0, d1, d2⟩, -⟩ := hA.cells
    clear hA r0
    go_region_with (go_at_call 24; refine (emit_any (l := [⟨18, scr, 0, 0, q.c.sp + y⟩]) (HW1.out.keep (by repeat (first | (with_reducible exact Below.refl _ _) | (with_reducible apply Below.drew) | ((with_reducible apply bAlloc); (focus first | (exact Nat.le_refl _) | (simp; done) | (simp; omega)))))) (GsRd.drew (GsRd.one _ 18 _ _ _ _ _)) (by simp) (by simp; omega)).mono ?_; rintro e w5 ⟨rfl, HK⟩)
    all_goals (
      go_wp2_with fail
      go_ret
      exact ⟨rfl, HK.out.drop⟩)
  · have HE : Hid (readG q.c (k : Int) scr g = (x, g)) := (show _ = _ by unfold readG; rw [HP.out]; simp [hx])
    rw [HE.out]
    go_enter Tryd.func38, Tryd.ntmps38
    go_wp2_with fail
    go_ret
    exact ⟨rfl, HW.out.drop⟩

set_option maxHeartbeats 3200000 in
set_option maxRecDepth 20000 in
theorem write_any {q : GK} {R : List (Nat × List Value)} {g : Gen} {w : World} (h : GenRel q R g w) (hc : CfOk q.c) {v : Int} (hv : okR q.c.P.length v = true) (set : Int → Gen → Gen) (f : FuncId) (caps : Array Value) (hf : Enters Tryd.prog f)
    (hset : ∀ (r : Int) (R' : List (Nat × List Value)) (w1 : World), (∀ p ∈ R, p ∈ R') → 1 ≤ r ∧ r ≤ 15 → GenRel q R' g w1 → Calls Tryd.prog f (#[.int .i64 r] ++ caps) w1 fun e w' => e = .returned (.tuple #[]) ∧ Hid (GenRel q R' (set r g) w')) (hz : ∀ r, SzG (set r g) 900000) :
    Calls Tryd.prog 35 #[.pointer (some ⟨q.gb, 0, none⟩), .int .i64 v, .func (.func f) #[] caps] w fun e w' => e = .returned (.tuple #[]) ∧ Hid (GenRel q R (writeG q.c v set g) w') := by
  have hvv : 0 ≤ v ∧ v < q.c.P.length := of_decide_eq_true hv
  obtain ⟨k, rfl⟩ := Int.eq_ofNat_of_zero_le hvv.1
  have hk : k < q.c.P.length := by omega
  have hkI : (k : Int) < q.c.P.length := by omega
  clear hvv hv
  have hent' : ∀ args w, (callFunc f args).run Tryd.prog w = .ok (.enter f args) w := hf
  obtain ⟨p0, p1, hpl⟩ := h.place hk
  have hsp := hc.sp
  have hpk := hc.pl k hk
  have HP : Hid (placeG q.c (k : Int) = q.c.P.getD k (0, 0)) := (show _ = _ by unfold placeG; rw [Int.toNat_natCast])
  generalize q.c.P.getD k (0, 0) = pl at p0 p1 hpk HP
  obtain ⟨x, y⟩ := pl
  simp only at p0 p1 hpk
  have hwr : IntKind.i64.wrap (q.c.sp + y) = q.c.sp + y := IntWalk.i64_in _ (by omega)
  have HW := Lib.hid (h.made [.int .i64 x, .int .i64 y] 94)
  have HS := Lib.hid hset
  have HZ := Lib.hid hz
  obtain ⟨col, cv, rv, sv, bv, hA⟩ := h
  obtain ⟨hlt, ⟨c0, c1, c2⟩, -⟩ := hA.cells
  clear hA hf hset hz hsp
  by_cases hx : x = 0
  · have HE : Hid (writeG q.c (k : Int) set g = emitG [⟨19, 1, 0, 0, q.c.sp + y⟩] (set 1 g)) := (show _ = _ by unfold writeG; rw [HP.out]; simp [hx])
    rw [HE.out]
    subst hx
    clear hpk
    go_enter Tryd.func35, Tryd.ntmps35
    go_wp2_with fail
    refine (HS.out 1 _ _ (fun p hp => List.mem_cons_of_mem _ hp) (by decide) HW.out).mono ?_
    rintro e w2 ⟨rfl, HK⟩
    have r0 := HK.out.at (List.mem_cons_self ..)
    have l0 := r0.lt
    have q1 := r0.at 1 rfl
    obtain ⟨col, cv, rv, sv, bv, hA⟩ := HK.out
    obtain ⟨hlt2, ⟨d0, d1, d2⟩, -⟩ := hA.cells
    clear hA r0 c0 c1 c2 p0 p1 hlt hpl
    have HZ1 := Lib.hid (HZ.out 1).1
    go_upto_region 4 with fail
    go_region_with (go_at_call 24; refine (emit_any (l := [⟨19, 1, 0, 0, q.c.sp + y⟩]) (HK.out.keep (by repeat (first | (with_reducible exact Below.refl _ _) | (with_reducible apply Below.drew) | ((with_reducible apply bAlloc); (focus first | (exact Nat.le_refl _) | (simp; done) | (simp; omega)))))) (GsRd.drew (GsRd.one _ 19 _ _ _ _ _)) (by simp) (by have := HZ1.out; simp; omega)).mono ?_; rintro e w5 ⟨rfl, HK2⟩)
    all_goals (
      go_wp2_with fail
      go_end0
      exact ⟨rfl, HK2.out.drop⟩)
  · have HE : Hid (writeG q.c (k : Int) set g = set x g) := (show _ = _ by unfold writeG; rw [HP.out]; simp [hx])
    rw [HE.out]
    have hx1 : 1 ≤ x ∧ x ≤ 15 := by omega
    clear hpk
    go_enter Tryd.func35, Tryd.ntmps35
    go_wp2_with fail
    refine (HS.out x _ _ (fun p hp => List.mem_cons_of_mem _ hp) hx1 HW.out).mono ?_
    rintro e w2 ⟨rfl, HK⟩
    go_wp2_with fail
    try simp only [Exit.inBlock, Exit.then]
    refine bodyPost_ret (results_none rfl _ _ _) rfl ?_
    exact ⟨rfl, HK.out.drop⟩
end Go.Proofs.YtlajdcikhbocdaaDoor
