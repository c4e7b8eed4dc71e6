import Derived.Test.YtkcfbonchhidlaaGreatDoorMs43
import Derived.Deep.DeepCutAuto
set_option linter.unusedVariables false
set_option linter.unusedSimpArgs false
namespace Go.Proofs.YtkcfbonchhidlaaGreatDoor
open Go.RowKit Go.Maps

theorem arr_small {R : Int} {A S : List Arr} {bs : List IBlk} (h : vFun R A S bs = true) : A.length ≤ 4 ∧ ∀ k, k < A.length → 1 ≤ (A.getD k default).2 ∧ (A.getD k default).2 ≤ 32 := by
  obtain ⟨_, _, h2, h3, _, _⟩ := (vFun_iff R A S bs).1 h
  refine ⟨h2, fun k hk => ?_⟩
  have := h3 k hk
  unfold okA at this
  rw [Bool.and_eq_true] at this
  exact of_decide_eq_true this.2
theorem GenRel.start (W0 : World) {c : Cfg} {pg : Nat} (hP : PlAt W0 pg c.P.length fun k => c.P.getD k (0, 0)) (hpg : pg < W0.heap.size) (t : TypeId) :
    GenRel ⟨W0.heap.size, W0, W0.heap.size + 1, W0.heap.size, 0, pg, c, fun _ => none⟩ [] ⟨[], [], [], []⟩ ((W0.alloc (.map #[] 0)).alloc (.cells #[.slice (some ⟨pg, 0, none⟩) c.P.length c.P.length, .int .i64 c.sp, .map (some W0.heap.size), .slice none 0 0, .slice none 0 0, .slice none 0 0, .slice none 0 0] t)) := by
  have s1 : (W0.alloc (.map #[] 0)).heap.size = W0.heap.size + 1 := by simp
  have hr := RowC2.made (W0.alloc (.map #[] 0)) [.slice (some ⟨pg, 0, none⟩) c.P.length c.P.length, .int .i64 c.sp, .map (some W0.heap.size), .slice none 0 0, .slice none 0 0, .slice none 0 0, .slice none 0 0] t
  rw [s1] at hr
  have hx := heap_alloc_new (W0.alloc (.map #[] 0)) (.cells #[.slice (some ⟨pg, 0, none⟩) c.P.length c.P.length, .int .i64 c.sp, .map (some W0.heap.size), .slice none 0 0, .slice none 0 0, .slice none 0 0, .slice none 0 0] t)
  rw [s1] at hx
  refine ⟨fun k => if k < W0.heap.size then 0 else if k = W0.heap.size then 2 else 1, .slice none 0 0, .slice none 0 0, .slice none 0 0, .slice none 0 0, ⟨(MpAt.made W0).of_block (Below.heap_alloc _ _ _ (by simp)), ?_, World.rowIs.of_block (World.rowIs.of_block hP (Below.heap_alloc _ _ _ hpg)) (Below.heap_alloc _ _ _ (by simp; omega)), ?_, by simp; omega, fun k hk => if_pos hk, bAlloc (by simp) (bAlloc (Nat.le_refl _) (Below.refl _ _)), by simp; omega, fun p hp => by cases hp⟩, OwnC.nil _ _ _ _ _, OwnC.nil _ _ _ _ _, OwnC.nil _ _ _ _ _, OwnC.nil _ _ _ _ _, hr, fun k => ?_, ?_⟩
  · show (if W0.heap.size < W0.heap.size then 0 else if W0.heap.size = W0.heap.size then 2 else 1) = 2
    rw [if_neg (by omega), if_pos rfl]
  · show (if pg < W0.heap.size then 0 else if pg = W0.heap.size then 2 else 1) = 0
    rw [if_pos hpg]
  · unfold World.frozen?; rw [hx]; rfl
  · show (if W0.heap.size + 1 < W0.heap.size then 0 else if W0.heap.size + 1 = W0.heap.size then 2 else 1) = 1
    rw [if_neg (by omega), if_neg (by omega)]
def qT (W0 : World) (g : Nat) (c : Cfg) (A : List Arr) (k : Nat) : GK := ⟨W0.heap.size, W0, W0.heap.size + 1, W0.heap.size, k, g, c, arF A k⟩
def g0T (c : Cfg) (k : Nat) : Gen := ⟨spillG c.sp k, [], [], []⟩
theorem g0T_next (c : Cfg) (k : Nat) : emitG [⟨19, 0, 0, 0, c.sp + k⟩] (g0T c k) = g0T c (k + 1) := by
  unfold emitG g0T spillG
  rw [List.range_succ, List.map_append]; rfl
theorem adr_read {w : World} {B : Nat} {v : Value} {A : List Arr} (h : w.ownsRow B 3 1 v (addrs A A.length).length ((addrs A A.length).map (Value.int .i64))) :
    ∃ p cap, v = .slice p A.length cap ∧ ∀ k, k < A.length → ∃ m, p = some ⟨m, 0, none⟩ ∧ m < w.heap.size ∧ w.cell? ⟨m, k, none⟩ = some (.int .i64 (addrG A k)) := by
  rw [addrs_len] at h
  rcases h.2 with ⟨rfl, h0⟩ | ⟨m, cap, cur, rfl, _, hh, _⟩
  · exact ⟨none, 0, by rw [h0], fun k hk => by omega⟩
  · refine ⟨_, _, rfl, fun k hk => ⟨m, rfl, ltB hh, ?_⟩⟩
    have hc := h.cells (g := m) rfl k (.int .i64 (addrG A k)) (by simp [addrs, hk])
    have e2 : (⟨m, 0, none⟩ : Addr).add k = ⟨m, k, none⟩ := by
      unfold Addr.add
      split
      · rename_i e; subst e; rfl
      · simp
    rwa [e2] at hc
theorem GenRel.mpAt {q : GK} {R : List (Nat × List Value)} {g : Gen} {w : World} (h : GenRel q R g w) : MpAt w q.mb q.n q.F ∧ q.gb < w.heap.size ∧ w.cell? ⟨q.gb, 2, none⟩ = some (.map (some q.mb)) := by
  obtain ⟨col, cv, rv, sv, bv, h⟩ := h
  exact ⟨h.x.mp, h.cells.1, h.cells.2.1.2.2⟩

theorem infoI64 : (Tryz.prog.info? 3).map (fun i => (i.zero, i.size, i.bytes)) = some (some (.int .i64 0), 1, 8) := by kernel_rfl
theorem end_x {R : Int} {nb : Nat} {code : List IIns} {kind : Nat} {x tg els : Int} (h2 : kind = 2) (h : vEnd R nb ⟨code, kind, x, tg, els⟩ = true) : okR R x = true := by
  subst h2
  have h : (okR R x && okR nb tg && okR nb els) = true := h
  simp only [Bool.and_eq_true] at h
  exact h.1.1

theorem GenAt.final {q : GK} {R : List (Nat × List Value)} {g : Gen} {col : Nat → Nat} {w : World} {cv rv sv bv : Value} (h : GenAt q R g col w cv rv sv bv) {b : Nat} (hb : b < q.B) (w' : World) (hw : ∀ k, k ≠ b → w'.heap[k]? = w.heap[k]?) : w'.ownsRow 0 36 5 cv g.code.length (codeV g.code) ∧ w'.ownsRow 0 104 3 rv g.refs.length (refV g.refs) := by
  have h0 := h.x.low b hb
  refine ⟨own0_block h.code.1 fun k hk => hw k fun e => ?_, own0_block h.refs.1 fun k hk => hw k fun e => ?_⟩
  · have := h.code.2 k hk
    rw [e, h0] at this; cases this
  · have := h.refs.2 k hk
    rw [e, h0] at this; cases this

def TaskPost (nm : ByteArray) (R : Nat) (A : List Arr) (bs : List IBlk) (w : World) (e : Ending) (w' : World) : Prop :=
  ∃ (c : Cfg) (n : Nat) (cv rv : Value), e = .returned (.tuple #[.agg #[.string nm, cv, .int .i64 (addrG A A.length + n), rv], .int .i64 0]) ∧ (PlOk c R ∧ n ≤ 64) ∧ w'.ownsRow 0 36 5 cv (resG (allG c n bs)).length (codeV (resG (allG c n bs))) ∧ w'.ownsRow 0 104 3 rv (allG c n bs).refs.length (refV (allG c n bs).refs) ∧ Below w.heap.size w w'

set_option maxHeartbeats 12800000 in
set_option maxRecDepth 40000 in
theorem task_yes (nm : ByteArray) (R : Nat) (av bv : Value) (A : List Arr) (bs : List IBlk) (w : World) (h : TkOk w av bv A bs) (hv : vFun R A (mentB bs bs.length) bs = true) (hR : R ≤ 60) :
    Calls Tryz.prog 10 #[.agg #[.string nm, .int .i64 R, av, bv]] w (TaskPost nm R A bs w) := by
  obtain ⟨ap, ac, rfl⟩ := h.a.shape
  obtain ⟨bp, bc, rfl⟩ := h.b.shape
  obtain ⟨W1, hW1⟩ : ∃ W : World, W = (w.alloc (.cells #[.string nm, .int .i64 R, .slice ap A.length ac, .slice bp bs.length bc] 61)).alloc (.cells #[.string ⟨#[]⟩, .slice none 0 0, .int .i64 0, .slice none 0 0] 50) := ⟨_, rfl⟩
  have hb1 : Below w.heap.size w W1 := by rw [hW1]; exact bAlloc (by simp) (bAlloc (Nat.le_refl _) (Below.refl _ _))
  have HT := Lib.hid (h.below hb1)
  have c0 : W1.cell? ⟨w.heap.size, 0, none⟩ = some (.string nm) ∧ W1.cell? ⟨w.heap.size, 1, none⟩ = some (.int .i64 R) ∧ W1.cell? ⟨w.heap.size, 2, none⟩ = some (.slice ap A.length ac) ∧ W1.cell? ⟨w.heap.size, 3, none⟩ = some (.slice bp bs.length bc) := by rw [hW1]; simp [go_sem]
  have z0 : W1.cell? ⟨w.heap.size + 1, 0, none⟩ = some (.string ⟨#[]⟩) ∧ W1.cell? ⟨w.heap.size + 1, 1, none⟩ = some (.slice none 0 0) ∧ W1.cell? ⟨w.heap.size + 1, 2, none⟩ = some (.int .i64 0) ∧ W1.cell? ⟨w.heap.size + 1, 3, none⟩ = some (.slice none 0 0) := by rw [hW1]; simp [go_sem]
  have y0 : W1.frozen? ⟨w.heap.size + 1, 0, none⟩ = false ∧ W1.frozen? ⟨w.heap.size + 1, 1, none⟩ = false ∧ W1.frozen? ⟨w.heap.size + 1, 2, none⟩ = false ∧ W1.frozen? ⟨w.heap.size + 1, 3, none⟩ = false := by rw [hW1]; simp [go_sem]
  have s1 : W1.heap.size = w.heap.size + 2 := by rw [hW1]; simp
  have l0 : w.heap.size < W1.heap.size := by omega
  have l1 : w.heap.size + 1 < W1.heap.size := by omega
  have HZ := Lib.hid z0
  have HY := Lib.hid y0
  have HMK := Lib.hid (fun (w' : World) (hb : Below W1.heap.size W1 w') => (show Below W1.heap.size W1 w' ∧ w'.cell? ⟨w.heap.size, 0, none⟩ = some (.string nm) ∧ w'.cell? ⟨w.heap.size, 1, none⟩ = some (.int .i64 R) ∧ w'.cell? ⟨w.heap.size, 2, none⟩ = some (.slice ap A.length ac) ∧ w'.cell? ⟨w.heap.size, 3, none⟩ = some (.slice bp bs.length bc) from
    ⟨hb, (hb.cell (p := ⟨w.heap.size, 0, none⟩) l0).trans c0.1, (hb.cell (p := ⟨w.heap.size, 1, none⟩) l0).trans c0.2.1, (hb.cell (p := ⟨w.heap.size, 2, none⟩) l0).trans c0.2.2.1, (hb.cell (p := ⟨w.heap.size, 3, none⟩) l0).trans c0.2.2.2⟩))
  have HB1 := Lib.hid hb1
  have HV := Lib.hid hv
  have hs0 := HMK.out W1.drew (Below.drew (Below.refl _ _))
  have HL1 := Lib.hid l1
  clear h c0 z0 y0 hb1 hv s1 l0 l1
  go_enter Tryz.func10, Tryz.ntmps10
  go_upto_region 1 with fail
  rw [← hW1]
  clear hW1
  go_region_held3 (fun w' => Below W1.heap.size W1 w' ∧ w'.cell? ⟨w.heap.size, 0, none⟩ = some (.string nm) ∧ w'.cell? ⟨w.heap.size, 1, none⟩ = some (.int .i64 R) ∧ w'.cell? ⟨w.heap.size, 2, none⟩ = some (.slice ap A.length ac) ∧ w'.cell? ⟨w.heap.size, 3, none⟩ = some (.slice bp bs.length bc)) (first | exact hs0 | exact hs1 | exact hs2 | assumption) (first | (go_at_call 17; refine ((HT.out.below HB2.out).valid nm R HAr.out).mono ?_; rintro e w3 ⟨rfl, hb3⟩; have HB3 := Lib.hid (HB2.out.trans (hb3.mono HB2.out.size)); have hs2 := HMK.out _ HB3.out) | (go_at_call 18; refine ((HT.out.below (Below.drew (Below.refl _ _))).ment nm R).mono ?_; rintro e w2 ⟨v2, rfl, hAr, hb2⟩; have HAr := Lib.hid hAr; have HB2 := Lib.hid ((Below.drew (Below.refl W1.heap.size W1)).trans hb2); have hs1 := HMK.out _ HB2.out))
  all_goals (
    clear hs0 hs1
    obtain ⟨-, c0, c1, c2, c3⟩ := hs2
    obtain ⟨w4, hw4⟩ : ∃ W : World, W = w3 := ⟨_, rfl⟩
    rw [← hw4] at HB3 c0 c1 c2 c3 ⊢
    clear hw4
    rw [HV.out]
    have HVV := Lib.hid HV.out
    clear hAr hb2 hb3
    have HT3 := Lib.hid (HT.out.below HB3.out)
    have HWF := Lib.hid (wf_of_v HV.out)
    have hlA := HL1.out
    have hl3 : w.heap.size + 1 < w4.heap.size := Nat.lt_of_lt_of_le hlA HB3.out.size
    have hl3' : w.heap.size < w4.heap.size := by omega
    clear hlA HAr HB2 HMK
    go_wp2_with fail
    refine (alloc_any nm R ap A.length ac _ bs w4 (by omega) HT3.out.b (by have := HT3.out.lb; omega) (fun k hk => by have := HT3.out.cl hk; omega) HWF.out HT3.out.tz).mono ?_
    rintro e w5 ⟨C, S, Al, g, hC, hS, hAl, rfl, hP, hb5⟩
    have HVA := Lib.hid (vaG (by omega) (fun r hr => edgesL_in HWF.out (by omega) hr) hC hS hAl)
    have hn := HVA.out.pos
    have hn2 := HVA.out.big
    clear hC hS hAl
    generalize placesG C S Al R = P at HVA hP
    generalize slN Al S.length = n at HVA hn hn2 ⊢
    obtain ⟨n, rfl⟩ := Int.eq_ofNat_of_zero_le hn
    have hn64 : n ≤ 64 := by omega
    clear hn hn2
    have HP := Lib.hid hP
    have HT4 := Lib.hid (HT3.out.below hb5)
    rw [← hb5.cell (p := ⟨w.heap.size, 0, none⟩) hl3'] at c0
    rw [← hb5.cell (p := ⟨w.heap.size, 1, none⟩) hl3'] at c1
    rw [← hb5.cell (p := ⟨w.heap.size, 2, none⟩) hl3'] at c2
    rw [← hb5.cell (p := ⟨w.heap.size, 3, none⟩) hl3'] at c3
    have hl4 : w.heap.size < w5.heap.size := Nat.lt_of_lt_of_le hl3' hb5.size
    have hl4b : w.heap.size + 1 < w5.heap.size := Nat.lt_of_lt_of_le hl3 hb5.size
    have HB4 := Lib.hid (HB3.out.trans (hb5.mono HB3.out.size))
    clear hP hb5 hl3 hl3' HB3 HT3
    have HA32 := Lib.hid (arr_small HV.out)
    go_wp2_with fail
    refine (layout_any _ A _ (HT4.out.below (bAlloc (Nat.le_refl _) (Below.refl _ _))).a (by have := HT4.out.la; omega) (fun k hk => by have := (HA32.out.2 k hk).2; omega) (fun k hk => by have := (HA32.out.2 k hk).1; omega)).mono ?_
    rintro e W0 ⟨lv, rfl, hO, hb6⟩
    have HB6 := Lib.hid ((show Below w5.heap.size w5 _ from bAlloc (Nat.le_refl _) (Below.refl _ _)).trans (hb6.mono (by simp)))
    have hb2c : W0.cell? ⟨w5.heap.size, 0, none⟩ = some (.slice (some ⟨g, 0, none⟩) R R) ∧ W0.cell? ⟨w5.heap.size, 1, none⟩ = some (.int .i64 (n : Int)) := ⟨(hb6.cell (p := ⟨w5.heap.size, 0, none⟩) (by simp)).trans (by simp [go_sem]), (hb6.cell (p := ⟨w5.heap.size, 1, none⟩) (by simp)).trans (by simp [go_sem])⟩
    obtain ⟨d0, d1⟩ := hb2c
    rw [← HB6.out.cell (p := ⟨w.heap.size, 0, none⟩) hl4] at c0
    rw [← HB6.out.cell (p := ⟨w.heap.size, 1, none⟩) hl4] at c1
    rw [← HB6.out.cell (p := ⟨w.heap.size, 2, none⟩) hl4] at c2
    rw [← HB6.out.cell (p := ⟨w.heap.size, 3, none⟩) hl4] at c3
    have h50 : w5.heap.size < W0.heap.size := Nat.lt_of_lt_of_le (by simp) hb6.size
    have HP0 := Lib.hid (show PlAt W0 g R P from World.rowIs.of_block HP.out (HB6.out.block g (World.rowIs.lt HP.out)))
    have hgl : g < W0.heap.size := World.rowIs.lt HP0.out
    have HT0 := Lib.hid (HT4.out.below HB6.out)
    have HB0 := Lib.hid (HB4.out.trans (HB6.out.mono HB4.out.size))
    have HO := Lib.hid hO
    clear hb6 hO HB6 HB4 HT4 HT HP hl4 hl4b
    have hl0 : w.heap.size + 1 < W0.heap.size := Nat.lt_of_lt_of_le HL1.out HB0.out.size
    generalize w5.heap.size = b2 at d0 d1 h50 ⊢
    have hl00 : w.heap.size < W0.heap.size := by omega
    clear c1
    have hmm := @run_makeMap Tryz.prog
    go_upto_region 8 with fail
    clear hmm
    obtain ⟨hpk, hck⟩ := cfg_ok HVA.out HA32.out.1 (fun k hk => (HA32.out.2 k hk).2)
    have HPK := Lib.hid hpk
    have HCK := Lib.hid hck
    have hsp := hck.sp
    have HS0 := Lib.hid (GenRel.start W0 (c := cfgG A R P) (cfg_pl HP0.out) hgl 95)
    rw [cfg_len] at HS0
    obtain ⟨lp, lc, rfl, hAD⟩ := adr_read HO.out
    have HAD := Lib.hid hAD
    have HLN := Lib.hid (cfg_len A R P)
    have HSPE : Hid ((cfgG A R P).sp = addrG A A.length) := (show _ = _ from rfl)
    have hsp : 0 ≤ addrG A A.length ∧ addrG A A.length ≤ 1000 := hsp
    clear hAD HO hpk hck HVA
    have HARF := Lib.hid (show ∀ s, (arF A A.length s).getD (.int .i64 0) = .int .i64 ((cfgG A R P).ar s) from fun s => arF_get A s A.length)
    generalize cfgG A R P = c at HS0 HPK HCK HLN HSPE HARF
    obtain ⟨w1, hw1⟩ : ∃ W : World, W = (W0.alloc (.map #[] 0)).alloc (.cells #[.slice (some ⟨g, 0, none⟩) R R, .int .i64 (addrG A A.length), .map (some W0.heap.size), .slice none 0 0, .slice none 0 0, .slice none 0 0, .slice none 0 0] 95) := ⟨_, rfl⟩
    have HS1 : Hid (GenRel (qT W0 g c A 0) [] (g0T c 0) w1) := (show GenRel _ _ _ _ from by rw [hw1, ← HSPE.out]; exact HS0.out)
    rw [← hw1]
    clear hw1 HS0
    have hb1' : Below W0.heap.size W0 w1 := HS1.out.bel
    have f2 : w1.cell? ⟨w.heap.size, 2, none⟩ = some (.slice ap A.length ac) := (hb1'.cell (p := ⟨w.heap.size, 2, none⟩) hl00).trans c2
    have g2 : w.heap.size < w1.heap.size := Nat.lt_of_lt_of_le hl00 hb1'.size
    clear hb1'
    go_wp2_with fail
    go_loopw [46] (fun s46 wx => ∃ k : Nat, s46 = .int .i64 k ∧ k ≤ A.length ∧ Hid (GenRel (qT W0 g c A k) [] (g0T c 0) wx)) (fun s46 _ => A.length - (intOf s46).toNat)
    case atStart => exact ⟨0, rfl, Nat.zero_le _, HS1⟩
    case round =>
      clear HS1
      obtain ⟨k, rfl, hk, HV⟩ := hrel
      obtain ⟨w2, rfl⟩ : ∃ W : World, W = wr := ⟨_, rfl⟩
      by_cases hlt : k < A.length
      · skip
        have hltI : (k : Int) < A.length := by omega
        have hal := HT0.out.la
        obtain ⟨_, _, e1, hen⟩ := HT0.out.a.below HV.out.bel (Nat.le_refl _)
        injection e1 with e1 e2 e3
        subst e1 e3
        obtain ⟨m, off, rfl, hm, n0, n1⟩ := hen k hlt
        clear hen e2
        have hnm := HT0.out.nm k hlt
        obtain ⟨ab, rfl, hab, x0⟩ := HAD.out k hlt
        have hbel : Below W0.heap.size W0 w2 := HV.out.bel
        rw [← hbel.cell (p := ⟨ab, k, none⟩) hab] at x0
        have hab1 : ab < w2.heap.size := Nat.lt_of_lt_of_le hab hbel.size
        clear hbel
        have HNX := Lib.hid (show arF A (k + 1) = updF (arF A k) (A.getD k default).1 (.int .i64 (addrG A k)) from rfl)
        generalize A.getD k default = en at n0 n1 hnm HNX
        generalize addrG A k = ad at x0 HNX
        obtain ⟨s, ln⟩ := en
        simp only at n0 n1 hnm HNX
        have HG1 := Lib.hid (HV.out.made [.string s, .int .i64 ln] 97)
        clear HV
        go_upto_region 11 with fail
        obtain ⟨w3, hw3⟩ : ∃ W : World, W = w2.alloc (.cells #[.string s, .int .i64 ln] 97) := ⟨_, rfl⟩
        have HG2 : Hid (GenRel (qT W0 g c A k) [(w2.heap.size, [.string s, .int .i64 ln])] (g0T c 0) w3) := by rw [hw3]; exact HG1
        have x1 : w3.cell? ⟨ab, k, none⟩ = some (.int .i64 ad) := by rw [hw3]; exact ((show Below w2.heap.size w2 _ from bAlloc (Nat.le_refl _) (Below.refl _ _)).cell (p := ⟨ab, k, none⟩) hab1).trans x0
        have hab2 : ab < w3.heap.size := by rw [hw3]; simp; omega
        rw [← hw3]
        clear hw3 HG1 x0 n0 n1 hm hab hab1
        have r0 := HG2.out.at (List.mem_cons_self ..)
        have l2 := r0.lt
        have r00 := r0.at 0 rfl
        clear r0
        have HG3 := Lib.hid (HG2.out.keep (w' := w3.drew) (Below.drew (Below.refl _ _)))
        obtain ⟨-, hgb, hmb⟩ := HG2.out.mpAt
        have hgb : W0.heap.size + 1 < w3.heap.size := hgb
        have hmb : w3.cell? ⟨W0.heap.size + 1, 2, none⟩ = some (.map (some W0.heap.size)) := hmb
        obtain ⟨w5, hr, hm5, hg5⟩ := HG3.out.mpAt.1.put (t := 92) (e := 3) Tryz.underlying92 s hnm (show k < 100000 by omega) (.int .i64 ad)
        have hr : (Instr.mapUpdate 92 (.map (some W0.heap.size)) (.string s) (.int .i64 ad)).run Tryz.prog w3.drew = .ok () w5 := hr
        have HK : Hid (GenRel (qT W0 g c A (k + 1)) [] (g0T c 0) w5) := (show GenRel _ _ _ _ from by unfold qT; rw [HNX.out]; exact (HG3.out.putMap hm5 hg5).drop)
        clear hm5 hg5 HG3 HG2 HNX
        go_region
        all_goals (
          clear hr
          go_wp2_with fail
          go_roundw
          case rel => exact ⟨k + 1, by go_num, by omega, HK⟩
          case measure => simp [intOf]; omega)
      · skip
        have hkn : k = A.length := by omega
        subst hkn
        clear hlt hk
        have hbel : Below W0.heap.size W0 w2 := HV.out.bel
        have e0 : w2.cell? ⟨b2, 1, none⟩ = some (.int .i64 (n : Int)) := (hbel.cell (p := ⟨b2, 1, none⟩) h50).trans d1
        have e1 : b2 < w2.heap.size := Nat.lt_of_lt_of_le h50 hbel.size
        clear hbel
        go_wp2_with fail
        clear e0 e1 f2 g2
        go_loopw [64] (fun s64 wx => ∃ k : Nat, s64 = .int .i64 k ∧ k ≤ n ∧ Hid (GenRel (qT W0 g c A A.length) [] (g0T c k) wx)) (fun s64 _ => n - (intOf s64).toNat)
        case atStart => exact ⟨0, rfl, Nat.zero_le _, HV⟩
        case round =>
          clear HV
          obtain ⟨k, rfl, hk, HV⟩ := hrel
          obtain ⟨w3, rfl⟩ : ∃ W : World, W = wr := ⟨_, rfl⟩
          by_cases hlt : k < n
          · have hltI : (k : Int) < n := by omega
            have hwr : IntKind.i64.wrap (addrG A A.length + (k : Int)) = addrG A A.length + k := IntWalk.i64_in _ (by omega)
            have HE := Lib.hid (g0T_next c k)
            rw [HSPE.out] at HE
            clear d0 d1 c0 c2 c3 hl0 hl00 hgl h50
            go_wp2_with fail
            refine (emit_any (q := qT W0 g c A A.length) (l := [⟨19, 0, 0, 0, addrG A A.length + k⟩]) (HV.out.keep (by repeat (first | (with_reducible exact Below.refl _ _) | (with_reducible apply Below.drew) | ((with_reducible apply bAlloc); (focus first | (exact Nat.le_refl _) | (simp; done) | (simp; omega)))))) (GsRd.one _ 19 _ _ _ _ _) (by simp) (by simp [g0T, spillG]; omega)).mono ?_
            rintro e w4 ⟨rfl, HK⟩
            rw [HE.out] at HK
            go_wp2_with fail
            go_roundw
            case rel => exact ⟨k + 1, by go_num, by omega, HK⟩
            case measure => simp [intOf]; omega
          · skip
            have hkn : n = k := by omega
            subst hkn
            clear hlt hk
            have hbel : Below W0.heap.size W0 w3 := HV.out.bel
            have e0 : w3.cell? ⟨w.heap.size, 3, none⟩ = some (.slice bp bs.length bc) := (hbel.cell (p := ⟨w.heap.size, 3, none⟩) hl00).trans c3
            have e1 : w.heap.size < w3.heap.size := Nat.lt_of_lt_of_le hl00 hbel.size
            clear hbel
            go_wp2_with fail
            clear e0 e1
            go_loopw [78] (fun s78 wx => ∃ k : Nat, s78 = .int .i64 k ∧ k ≤ bs.length ∧ Hid (GenRel (qT W0 g c A A.length) [] (blksG c bs k (g0T c n)) wx)) (fun s78 _ => bs.length - (intOf s78).toNat)
            case atStart => exact ⟨0, rfl, Nat.zero_le _, HV⟩
            case round =>
              clear HV
              obtain ⟨k, rfl, hk, HV⟩ := hrel
              obtain ⟨w4, rfl⟩ : ∃ W : World, W = wr := ⟨_, rfl⟩
              by_cases hlt : k < bs.length
              · skip
                have hltI : (k : Int) < bs.length := by omega
                have hlb := HT0.out.lb
                have hbelH := Lib.hid (show Below W0.heap.size W0 w4 from HV.out.bel)
                have hvf := (vFun_iff _ _ _ _).1 HVV.out
                have hvk := (vBlk_iff _ _ _ _).1 (hvf.2.2.2.2.2 k hlt)
                have HIV := Lib.hid hvk.1
                have HEV := Lib.hid hvk.2
                have HIS := Lib.hid (HT0.out.ins k hlt)
                have hcl := HT0.out.cl hlt
                have HIN := Lib.hid (fun j => gIn_next c bs (g0T c n) k j)
                have HIE := Lib.hid (gIn_end c bs (g0T c n) k)
                have HI0 := Lib.hid (show gIn c bs (g0T c n) k 0 = { blksG c bs k (g0T c n) with starts := (blksG c bs k (g0T c n)).starts ++ [((blksG c bs k (g0T c n)).code.length : Int)] } from rfl)
                have HIZ := Lib.hid (fun j => gIn_sz HPK.out hvf.2.2.2.2.2 hn64 HT0.out.lb HT0.out.lt hlt j)
                have hbz := (blks_sz2 HPK.out hvf.2.2.2.2.2 hn64 HT0.out.lb HT0.out.lt hk).1
                have HIZ : Hid (∀ j, SzG (gIn c bs (g0T c n) k j) 6000) := HIZ
                have hbz : (blksG c bs k (g0T c n)).code.length ≤ 3000 := hbz
                have hsl : (blksG c bs k (g0T c n)).starts.length ≤ 1000000 := by rw [blks_starts]; simp [g0T]; omega
                obtain ⟨_, _, e1, hen⟩ := HT0.out.b
                injection e1 with e1 e2 e3
                subst e1 e3
                obtain ⟨m, off, cp, cc, rfl, hm, hins, n0, n1, n2, n3, n4⟩ := hen k hlt
                clear hen e2 hvf hvk
                rw [← hbelH.out.cell (p := ⟨m, off + k * 5, none⟩) hm] at n0
                rw [← hbelH.out.cell (p := ⟨m, off + k * 5 + 1, none⟩) hm] at n1
                rw [← hbelH.out.cell (p := ⟨m, off + k * 5 + 2, none⟩) hm] at n2
                rw [← hbelH.out.cell (p := ⟨m, off + k * 5 + 3, none⟩) hm] at n3
                rw [← hbelH.out.cell (p := ⟨m, off + k * 5 + 4, none⟩) hm] at n4
                have hm1 : m < w4.heap.size := Nat.lt_of_lt_of_le hm hbelH.out.size
                obtain ⟨gk1, hgk1⟩ : ∃ x : Gen, x = blksG c bs (k + 1) (g0T c n) := ⟨_, rfl⟩
                have HIE : Hid (gk1 = endG c (bs.getD k default) ((k : Int) + 1) (gIn c bs (g0T c n) k (bs.getD k default).code.length)) := (show _ = _ from hgk1.trans HIE.out)
                have HGK := Lib.hid hgk1
                clear hgk1
                generalize gIn c bs (g0T c n) k = GJ at HIN HIE HI0 HIZ
                generalize blksG c bs k (g0T c n) = gk at HV HI0 hbz hsl
                generalize bs.getD k default = en at n0 n1 n2 n3 n4 hins hcl HIV HEV HIS HIN HIE
                obtain ⟨code, kind, x, tg, els⟩ := en
                simp only at n0 n1 n2 n3 n4 hins hcl HIV HEV HIS HIN HIE
                have HI1 := Lib.hid hins
                have HG1 := Lib.hid (HV.out.made [.slice cp code.length cc, .int .u8 kind, .int .i64 x, .int .i64 tg, .int .i64 els] 57)
                clear hins HV hbelH
                go_upto_region 21 with fail
                obtain ⟨w5, hw5⟩ : ∃ W : World, W = w4.alloc (.cells #[.slice cp code.length cc, .int .u8 kind, .int .i64 x, .int .i64 tg, .int .i64 els] 57) := ⟨_, rfl⟩
                have HG2 : Hid (GenRel (qT W0 g c A A.length) [(w4.heap.size, [.slice cp code.length cc, .int .u8 kind, .int .i64 x, .int .i64 tg, .int .i64 els])] gk w5) := by rw [hw5]; exact HG1
                rw [← hw5]
                clear hw5 HG1 n0 n1 n2 n3 n4 hm hm1
                obtain ⟨col, cv, rv, sv, bv, hA⟩ := HG2.out
                obtain ⟨hlt5, -, c3', -, c5', -⟩ := hA.cells
                have hlt5 : W0.heap.size + 1 < w5.heap.size := hlt5
                have c3' : w5.cell? ⟨W0.heap.size + 1, 3, none⟩ = some cv := c3'
                have c5' : w5.cell? ⟨W0.heap.size + 1, 5, none⟩ = some sv := c5'
                obtain ⟨ccp, ccc, rfl⟩ := hA.code.shape
                obtain ⟨sp', sc', rfl⟩ := hA.sts.shape
                have HM := Lib.hid (fun o : Obj => hA.made o)
                have HO2 := Lib.hid (fun o : Obj => (hA.made o).sts.1)
                clear hA HG2
                go_region_law (refine step_append_els rfl _ _ 88 3 _ 1 8 rfl Tryz.underlying88 infoI64 rfl (by decide) (by decide) _ gk.starts.length (gk.starts.map (Value.int .i64)) rfl (HO2.out _) w5.heap.size 1 [.int .i64 gk.code.length] rfl rfl (RowC2.made w5.drew [.int .i64 gk.code.length] 3).2 (by simp [Value.oneCell']) hsl ?_; intro p c' w6 hO hgr hd; obtain ⟨⟨b5, f5, l5⟩, hK⟩ := (HM.out _).putSts (r := (gk.code.length : Int)) hgr hO hd; have HK3 := Lib.hid hK; have b5 : w6.cell? ⟨W0.heap.size + 1, 5, none⟩ = some _ := b5; have f5 : w6.frozen? ⟨W0.heap.size + 1, 5, none⟩ = false := f5; have l5 : W0.heap.size + 1 < w6.heap.size := l5)
                all_goals (
                  clear HM HO2 b5 f5 l5 hK hgr hO hd hlt5 c3' c5' hsl hbz
                  obtain ⟨w7, hw7⟩ : ∃ W : World, W = w6.setCell ⟨W0.heap.size + 1, 5, none⟩ (.slice p (gk.starts.length + 1) c') := ⟨_, rfl⟩
                  have HK4 : Hid (GenRel (qT W0 g c A A.length) [(w4.heap.size, [.slice cp code.length cc, .int .u8 kind, .int .i64 x, .int .i64 tg, .int .i64 els])] (GJ 0) w7) := (show GenRel _ _ _ _ from by rw [hw7, HI0.out]; exact HK3.out)
                  rw [← hw7]
                  clear hw7 HK3 HI0
                  have r0 := HK4.out.at (List.mem_cons_self ..)
                  have rl := r0.lt
                  have ra0 := r0.at 0 rfl
                  clear r0
                  go_wp2_with fail
                  clear rl ra0
                  go_loopw [100] (fun s100 wx => ∃ j : Nat, s100 = .int .i64 j ∧ j ≤ code.length ∧ Hid (GenRel (qT W0 g c A A.length) [(w4.heap.size, [.slice cp code.length cc, .int .u8 kind, .int .i64 x, .int .i64 tg, .int .i64 els])] (GJ j) wx)) (fun s100 _ => code.length - (intOf s100).toNat)
                  case atStart => exact ⟨0, rfl, Nat.zero_le _, HK4⟩
                  case round =>
                    clear HK4
                    obtain ⟨j, rfl, hj, HV⟩ := hrel
                    obtain ⟨w8, rfl⟩ : ∃ W : World, W = wr := ⟨_, rfl⟩
                    by_cases hltj : j < code.length
                    · skip
                      have hltJ : (j : Int) < code.length := by omega
                      have hbel : Below W0.heap.size W0 w8 := HV.out.bel
                      have HVI := Lib.hid (HIV.out j hltj)
                      have hsy := (HIS.out j hltj).1
                      have HNX := Lib.hid (HIN.out j hltj)
                      have HZJ := Lib.hid (HIZ.out j)
                      obtain ⟨_, _, e1, hen⟩ := HI1.out
                      injection e1 with e1 e2 e3
                      subst e1 e3
                      obtain ⟨m2, off2, rfl, hm2, n0, n1, n2, n3, n4, n5⟩ := hen j hltj
                      clear hen e2
                      rw [← hbel.cell (p := ⟨m2, off2 + j * 6, none⟩) hm2] at n0
                      rw [← hbel.cell (p := ⟨m2, off2 + j * 6 + 1, none⟩) hm2] at n1
                      rw [← hbel.cell (p := ⟨m2, off2 + j * 6 + 2, none⟩) hm2] at n2
                      rw [← hbel.cell (p := ⟨m2, off2 + j * 6 + 3, none⟩) hm2] at n3
                      rw [← hbel.cell (p := ⟨m2, off2 + j * 6 + 4, none⟩) hm2] at n4
                      rw [← hbel.cell (p := ⟨m2, off2 + j * 6 + 5, none⟩) hm2] at n5
                      have hm3 : m2 < w8.heap.size := Nat.lt_of_lt_of_le hm2 hbel.size
                      clear hbel hm2
                      generalize code.getD j default = ii at n0 n1 n2 n3 n4 n5 HVI hsy HNX
                      obtain ⟨op, dst, xx, yy, imm, sym⟩ := ii
                      simp only at n0 n1 n2 n3 n4 n5 hsy
                      have HG8 := Lib.hid (HV.out.made [.int .u8 op, .int .i64 dst, .int .i64 xx, .int .i64 yy, .int .i64 imm, .string sym] 54)
                      clear HV
                      go_wp2_with fail
                      refine (ins_any (q := qT W0 g c A A.length) HG8.out HCK.out HARF.out ⟨op, dst, xx, yy, imm, sym⟩ (by show vIns (c.P.length : Int) _ _ = true; rw [HLN.out]; exact HVI.out) hsy (HZJ.out.le (by decide))).mono ?_
                      rintro e w9 ⟨rfl, HK⟩
                      have HK : Hid (GenRel (qT W0 g c A A.length) [(w4.heap.size, [.slice (some ⟨m2, off2, none⟩) code.length cc, .int .u8 kind, .int .i64 x, .int .i64 tg, .int .i64 els])] (GJ (j + 1)) w9) := (show GenRel _ _ _ _ from by rw [HNX.out]; exact HK.out.drop)
                      clear n0 n1 n2 n3 n4 n5 hm3 HG8 HNX HVI HZJ hsy
                      go_wp2_with fail
                      go_roundw
                      case rel => exact ⟨j + 1, by go_num, by omega, HK⟩
                      case measure => simp [intOf]; omega
                    · skip
                      have hjn : j = code.length := by omega
                      subst hjn
                      clear hltj hj
                      have r0 := HV.out.at (List.mem_cons_self ..)
                      have rl := r0.lt
                      have ra0 := r0.at 0 rfl
                      have ra1 := r0.at 1 rfl
                      have ra2 := r0.at 2 rfl
                      have ra3 := r0.at 3 rfl
                      have ra4 := r0.at 4 rfl
                      clear r0
                      have HZJ := Lib.hid (HIZ.out code.length)
                      have hkk : IntKind.i64.wrap ((k : Int) + 1) = (k : Int) + 1 := IntWalk.i64_in _ (by omega)
                      go_wp2_with fail
                      refine (end_any (q := qT W0 g c A A.length) HV.out HCK.out (.slice _ code.length cc) kind x tg els ((k : Int) + 1) code (fun hk2 => by show okR (c.P.length : Int) x = true; rw [HLN.out]; exact end_x hk2 HEV.out) (HZJ.out.le (by decide))).mono ?_
                      rintro e w9 ⟨rfl, HK⟩
                      have HK : Hid (GenRel (qT W0 g c A A.length) [] gk1 w9) := (show GenRel _ _ _ _ from by rw [HIE.out]; exact HK.out.drop)
                      clear rl ra0 ra1 ra2 ra3 ra4 HV HZJ hkk
                      go_wp2_with fail
                      go_roundw
                      case rel => exact ⟨k + 1, by go_num, by omega, (show GenRel _ _ _ _ from by rw [← HGK.out]; exact HK.out)⟩
                      case measure => simp [intOf]; omega)
              · skip
                have hkn : k = bs.length := by omega
                subst hkn
                clear hlt hk
                have HAO := Lib.hid (all_ok hn64 HPK.out HVV.out HT0.out.lb HT0.out.lt (data := 0) (by decide))
                have HAR := Lib.hid (all_res hn64 HPK.out HVV.out HT0.out.lb HT0.out.lt)
                have HV : Hid (GenRel (qT W0 g c A A.length) [] (allG c n bs) w4) := HV
                have hcl := HAO.out.2.1.1
                have hclI : ¬ ((allG c n bs).code.length : Int) > 4096 := by omega
                clear hcl
                have hdat : ¬ addrG A A.length + (n : Int) > 512 := by have h1 := HPK.out.sp.2; rw [HSPE.out] at h1; omega
                have hwr : IntKind.i64.wrap (addrG A A.length + (n : Int)) = addrG A A.length + n := IntWalk.i64_in _ (by have h1 := HPK.out.sp; rw [HSPE.out] at h1; omega)
                clear hsp
                have hbel : Below W0.heap.size W0 w4 := HV.out.bel
                have e1 : w4.cell? ⟨b2, 1, none⟩ = some (.int .i64 (n : Int)) := (hbel.cell (p := ⟨b2, 1, none⟩) h50).trans d1
                have e2 : b2 < w4.heap.size := Nat.lt_of_lt_of_le h50 hbel.size
                clear hbel
                obtain ⟨col, cv, rv, sv, bv, hA⟩ := HV.out
                obtain ⟨ha1, -, ha3, -⟩ := hA.cells
                have ha1 : W0.heap.size + 1 < w4.heap.size := ha1
                have ha3 : w4.cell? ⟨W0.heap.size + 1, 3, none⟩ = some cv := ha3
                obtain ⟨ccp, ccc, rfl⟩ := hA.code.shape
                clear hA
                generalize hgg : allG c n bs = G at HV HAO HAR hclI ha3 ⊢
                go_wp2_with fail
                clear ha1 ha3 e1 e2 hclI
                refine (resolve_any (q := qT W0 g c A A.length) HV.out HAR.out.1 HAR.out.2.1 (by have := HAR.out.2.2.1; omega) (by have := HAR.out.2.2.2.2; omega)).mono ?_
                rintro e w9 ⟨rfl, HK⟩
                have hbel : Below W0.heap.size W0 w9 := HK.out.bel
                have HBE := Lib.hid (HB1.out.trans ((HB0.out.mono HB1.out.size).trans (hbel.mono (Nat.le_trans HB1.out.size HB0.out.size))))
                have e1 : w9.cell? ⟨b2, 1, none⟩ = some (.int .i64 (n : Int)) := (hbel.cell (p := ⟨b2, 1, none⟩) h50).trans d1
                have e2 : b2 < w9.heap.size := Nat.lt_of_lt_of_le h50 hbel.size
                have e3 : w9.cell? ⟨w.heap.size, 0, none⟩ = some (.string nm) := (hbel.cell (p := ⟨w.heap.size, 0, none⟩) hl00).trans c0
                have e4 : w.heap.size + 1 < w9.heap.size := Nat.lt_of_lt_of_le hl0 hbel.size
                have e5 : w.heap.size < w9.heap.size := by omega
                have hl1 := HL1.out
                have z0 := (hbel.cell (p := ⟨w.heap.size + 1, 0, none⟩) hl0).trans ((HB0.out.cell (p := ⟨w.heap.size + 1, 0, none⟩) hl1).trans HZ.out.1)
                have y0 := (hbel.frozen (p := ⟨w.heap.size + 1, 0, none⟩) hl0).trans ((HB0.out.frozen (p := ⟨w.heap.size + 1, 0, none⟩) hl1).trans HY.out.1)
                have z1 := (hbel.cell (p := ⟨w.heap.size + 1, 1, none⟩) hl0).trans ((HB0.out.cell (p := ⟨w.heap.size + 1, 1, none⟩) hl1).trans HZ.out.2.1)
                have y1 := (hbel.frozen (p := ⟨w.heap.size + 1, 1, none⟩) hl0).trans ((HB0.out.frozen (p := ⟨w.heap.size + 1, 1, none⟩) hl1).trans HY.out.2.1)
                have z2 := (hbel.cell (p := ⟨w.heap.size + 1, 2, none⟩) hl0).trans ((HB0.out.cell (p := ⟨w.heap.size + 1, 2, none⟩) hl1).trans HZ.out.2.2.1)
                have y2 := (hbel.frozen (p := ⟨w.heap.size + 1, 2, none⟩) hl0).trans ((HB0.out.frozen (p := ⟨w.heap.size + 1, 2, none⟩) hl1).trans HY.out.2.2.1)
                have z3 := (hbel.cell (p := ⟨w.heap.size + 1, 3, none⟩) hl0).trans ((HB0.out.cell (p := ⟨w.heap.size + 1, 3, none⟩) hl1).trans HZ.out.2.2.2)
                have y3 := (hbel.frozen (p := ⟨w.heap.size + 1, 3, none⟩) hl0).trans ((HB0.out.frozen (p := ⟨w.heap.size + 1, 3, none⟩) hl1).trans HY.out.2.2.2)
                clear hl1 hbel HZ HY d0 d1 c0 c2 c3 h50 HB0 HB1 HT0 HA32 HARF HCK HAD HL1 HP0 HAR HV hgl
                obtain ⟨col2, cv, rv, sv, bv, hA⟩ := HK.out
                obtain ⟨cvp, cvc, rfl⟩ := hA.code.shape
                obtain ⟨rvp, rvc, rfl⟩ := hA.refs.shape
                obtain ⟨ha1, -, ha3, ha4, -⟩ := hA.cells
                have ha1 : W0.heap.size + 1 < w9.heap.size := ha1
                have ha3 : w9.cell? ⟨W0.heap.size + 1, 3, none⟩ = some (.slice cvp (resG G).length cvc) := ha3
                have ha4 : w9.cell? ⟨W0.heap.size + 1, 4, none⟩ = some (.slice rvp G.refs.length rvc) := ha4
                have HFI := Lib.hid (hA.final (b := w.heap.size + 1) hl0)
                clear hA HK hl0 hl00
                go_upto_region 32 with fail
                go_region
                all_goals (
                  go_wp2_with fail
                  refine bodyPost_ret (run_object Tryz.results10 (fun _ => by kernel_rfl) (fun _ => by kernel_rfl) _ _ (w.heap.size + 1) (.string nm) (.slice cvp (resG G).length cvc) (.int .i64 (addrG A A.length + n)) (.slice rvp G.refs.length rvc) (.int .i64 0) rfl rfl ?_ ?_ ?_ ?_) rfl ?_
                  all_goals first | (simp [go_sem, *]; done) | skip
                  subst hgg
                  refine ⟨c, n, _, _, rfl, ⟨HPK.out, hn64⟩, (HFI.out _ ?_).1, (HFI.out _ ?_).2, ?_⟩
                  · intro kk hkk; repeat (first | rfl | (refine (Below.heap_setCell _ _ _ _ hkk).trans ?_))
                  · intro kk hkk; repeat (first | rfl | (refine (Below.heap_setCell _ _ _ _ hkk).trans ?_))
                  · repeat (first | exact HBE.out | (with_reducible apply Below.drew) | ((with_reducible apply bSet); (focus first | (simp; done) | (simp; omega) | omega)))))
end Go.Proofs.YtkcfbonchhidlaaGreatDoor
