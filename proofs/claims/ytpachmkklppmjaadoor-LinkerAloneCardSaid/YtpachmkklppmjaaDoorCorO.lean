/- core.Step over the pure step: loads, stores, in; every instruction. -/
import Derived.Test.YtpachmkklppmjaaDoorCorN
set_option linter.unusedVariables false
set_option linter.unusedSimpArgs false
namespace Go.Proofs.YtpachmkklppmjaaDoor
open Go.RowKit

theorem slice_parts {p q : Option Addr} {n m c d : Nat} (h : Value.slice p n c = .slice q m d) : p = q ∧ c = d := by injection h with h1 h2 h3; exact ⟨h1, h3⟩

theorem stepI_ld (q : ImN) (t S a b c pc : Nat) (s : St) (dv mv pv : Value) (mem : List Int) (x i inp : Int) (PW : World → World) (w : World) (R : Ready w q t S s dv mv mem pc x) (hdec : decV x = .tuple #[.agg #[.int .u8 18, .int .i64 a, .int .i64 b, .int .i64 c, .int .i64 i], .int .i64 0]) (ha : a < 16) (hb : b < 16) (hc : c < 16) (hi : -131072 ≤ i) (hi1 : i ≤ 131071)  :
    Calls Tryd.prog 23 #[q.val, .int .i64 (t : Nat), .pointer (some ⟨S, 0, none⟩), mv, pv] w (StepPost w S dv mv PW 18 a b c i pc (stepI q.lk 18 a b c i s mem inp)) := by
  obtain ⟨hT, hO, hst, hd, hm, hdS, hmS, hdm, hr0, hr32, hfit, hal, heb, htn, he0, he1, he2, he3, hcb, hpc, hpc1, hpc2, hpcb, hpcs, hcode, hx0, hx1⟩ := R
  obtain ⟨dp, dcap, hdv⟩ := hd.shape
  have hS := hst.lt
  have hPC := hst.pc
  rw [hpcs] at hPC
  have hR : w.cell? ⟨S, 1, none⟩ = some (.int .i32 0) := by have h := hst.reg 0 (by omega); rw [hr0] at h; exact h
  have hD := hst.d
  rw [hdv] at hD
  have hL := hst.halted
  rw [hal] at hL
  have hH := hst.held
  have hOw : 1 < w.heap.size := hO.1
  by_cases hq : 0 ≤ s.r.getD b 0 + i ∧ s.r.getD b 0 + i < s.d.length
  · obtain ⟨k, hk⟩ : ∃ k : Nat, s.r.getD b 0 + i = k := ⟨(s.r.getD b 0 + i).toNat, by omega⟩
    have hkl : k < s.d.length := by omega
    have hkt : (s.r.getD b 0 + i).toNat = k := by omega
    obtain ⟨m, off, cap, hv, hmw, hcell, hfr, hset⟩ := hd.at k hkl
    obtain ⟨rfl, rfl⟩ := slice_parts (hdv.symm.trans hv)
    have hmne : m ≠ S := fun e => hdS (by rw [hv, ← e]; rfl)
    have hstep : stepI q.lk 18 a b c i s mem inp = .ok ({ s with pc := s.pc + 1, r := if a = 0 then s.r else s.r.set a (s.d.getD k 0) }, mem, false, (k : Int), 0) := by simp [stepI, hq, hk, hkt, hkl, -List.getD_eq_getElem?_getD]
    rw [hstep]
    refine (step_ok q.cb q.co q.nC q.ccap q.eb q.eo q.nE q.ecap t S pc s.d.length dcap 18 a b c q.sh q.lk q.st q.fin s.held x i q.nm (some ⟨m, off, none⟩) mv pv w (setW w S a (s.d.getD k 0)) false k 0 ((pc : Int) + 1) hT hS hPC (hst.frozen 0) hR hD hL hH heb htn he0 he1 he2 he3 hfit hcb hpc hpc1 hpc2 hpcb hcode hx0 hx1 hdec ?_).mono ?_
    · intro W E h1 h2 hbW hX
      have hX' := hX
      obtain ⟨e0, e1, e2, e3, e4, e5, e6, e7, e8, e9, e10, f6, f7, f8, f10⟩ := hX
      have hSE : S < E := by omega
      have rA : W.cell? ⟨S, 1 + a, none⟩ = some (.int .i32 (s.r.getD a 0)) := (hbW.cell (p := ⟨S, 1 + a, none⟩) hS).trans (hst.reg a ha)
      have rB : W.cell? ⟨S, 1 + b, none⟩ = some (.int .i32 (s.r.getD b 0)) := (hbW.cell (p := ⟨S, 1 + b, none⟩) hS).trans (hst.reg b hb)
      have rC : W.cell? ⟨S, 1 + c, none⟩ = some (.int .i32 (s.r.getD c 0)) := (hbW.cell (p := ⟨S, 1 + c, none⟩) hS).trans (hst.reg c hc)
      have fA : ∀ k, W.frozen? ⟨S, k, none⟩ = false := fun k => (hbW.frozen (p := ⟨S, k, none⟩) hS).trans (hst.frozen k)
      have pC : W.cell? ⟨S, 0, none⟩ = some (.int .i64 pc) := (hbW.cell (p := ⟨S, 0, none⟩) hS).trans hPC
      have hH' : W.cell? ⟨S, 19, none⟩ = some (.int .i64 s.held) := (hbW.cell (p := ⟨S, 19, none⟩) hS).trans hH
      have hL' : W.cell? ⟨S, 18, none⟩ = some (.bool false) := (hbW.cell (p := ⟨S, 18, none⟩) hS).trans hL
      have hD' : W.cell? ⟨S, 17, none⟩ = some (.slice (some ⟨m, off, none⟩) s.d.length dcap) := (hbW.cell (p := ⟨S, 17, none⟩) hS).trans hD
      have vA := hr32 a
      have vB := hr32 b
      have vC := hr32 c
      have hOW : OTab W := hO.below hbW hOw
      have cM : W.cell? ⟨m, off + k, none⟩ = some (.int .i32 (s.d.getD k 0)) := (hbW.cell (p := ⟨m, off + k, none⟩) hmw).trans hcell
      have fM : W.frozen? ⟨m, off + k, none⟩ = false := (hbW.frozen (p := ⟨m, off + k, none⟩) hmw).trans hfr
      refine ⟨_, setW (W.setCell ⟨E, 7, none⟩ (.int .i64 k)) S a (s.d.getD k 0), prep_ld E S a b c m off s.d.length dcap k i pc ((pc : Int) + 1) q.lk (s.r.getD a 0) (s.r.getD b 0) (s.r.getD c 0) (s.d.getD k 0) mv pv W e0 e1 e2 e3 e4 e5 e6 e7 e8 e9 e10 f6 f7 f8 f10 hSE h2 (by omega) ha rA (fA _) hb rB vB.1 vB.2 hi hi1 hk hkl hD' cM fM, hX'.done (fun k _ => (setW_E hSE).trans (cellE (by omega))) ((setW_E hSE).trans ((cellE (by omega)).trans e6)) ((setW_E hSE).trans (cellS e7)) ((setW_E hSE).trans ((cellE (by omega)).trans e8)) ((setW_E hSE).trans ((cellE (by omega)).trans e10)), setW_below (bSet h1 hbW), setW_size.trans szS, setW_pc.trans ((cellB (by omega)).trans pC), setW_fr.trans (frS.trans (fA 0)), fun k hk hkE => (setW_heap (by omega)).trans (Below.heap_setCell _ _ _ _ (by show k ≠ E; omega))⟩
    · rintro e w' ⟨rfl, hbw⟩
      refine ⟨rfl, ?_⟩
      rw [hpcs]; exact step_done hbw hS ((Kept.refl _ _).setW (.inl rfl)) rfl setW_size (hst.setW a ha _) (hd.setW hdS) (hm.setW hmS) hdS hmS
  · by_cases hn : s.r.getD b 0 + i < 0
    · have hstep : stepI q.lk 18 a b c i s mem inp = .error 10 := by simp [stepI, hq, -List.getD_eq_getElem?_getD]
      rw [hstep]
      refine (step_trap q.cb q.co q.nC q.ccap q.eb q.eo q.nE q.ecap t S pc s.d.length dcap 18 a b c q.sh q.lk q.st q.fin s.held x i q.nm dp mv pv w 10 (by decide) hT hS hPC (hst.frozen 0) hR hD hL hH heb htn he0 he1 he2 he3 hfit hcb hpc hpc1 hpc2 hpcb hcode hx0 hx1 hdec ?_).mono ?_
      · intro W E h1 h2 hbW hX
        have hX' := hX
        obtain ⟨e0, e1, e2, e3, e4, e5, e6, e7, e8, e9, e10, f6, f7, f8, f10⟩ := hX
        have hSE : S < E := by omega
        have rA : W.cell? ⟨S, 1 + a, none⟩ = some (.int .i32 (s.r.getD a 0)) := (hbW.cell (p := ⟨S, 1 + a, none⟩) hS).trans (hst.reg a ha)
        have rB : W.cell? ⟨S, 1 + b, none⟩ = some (.int .i32 (s.r.getD b 0)) := (hbW.cell (p := ⟨S, 1 + b, none⟩) hS).trans (hst.reg b hb)
        have rC : W.cell? ⟨S, 1 + c, none⟩ = some (.int .i32 (s.r.getD c 0)) := (hbW.cell (p := ⟨S, 1 + c, none⟩) hS).trans (hst.reg c hc)
        have fA : ∀ k, W.frozen? ⟨S, k, none⟩ = false := fun k => (hbW.frozen (p := ⟨S, k, none⟩) hS).trans (hst.frozen k)
        have pC : W.cell? ⟨S, 0, none⟩ = some (.int .i64 pc) := (hbW.cell (p := ⟨S, 0, none⟩) hS).trans hPC
        have hH' : W.cell? ⟨S, 19, none⟩ = some (.int .i64 s.held) := (hbW.cell (p := ⟨S, 19, none⟩) hS).trans hH
        have hL' : W.cell? ⟨S, 18, none⟩ = some (.bool false) := (hbW.cell (p := ⟨S, 18, none⟩) hS).trans hL
        have hD' : W.cell? ⟨S, 17, none⟩ = some (.slice dp s.d.length dcap) := (hbW.cell (p := ⟨S, 17, none⟩) hS).trans hD
        have vA := hr32 a
        have vB := hr32 b
        have vC := hr32 c
        have hOW : OTab W := hO.below hbW hOw
        exact (prep_ld_neg E S a b c s.d.length dcap i pc ((pc : Int) + 1) q.lk (s.r.getD a 0) (s.r.getD b 0) (s.r.getD c 0) mv pv W dp e0 e1 e2 e3 e4 e5 e6 e7 e8 e9 e10 f6 f7 f8 f10 hSE h2 hb rB vB.1 vB.2 hi hi1 hn hD').mono fun e w' ⟨he, hb⟩ => ⟨_, he, hb⟩
      · rintro e w' ⟨rfl, hbw⟩
        exact ⟨rfl, hbw⟩
    · have hstep : stepI q.lk 18 a b c i s mem inp = .error 10 := by simp [stepI, hq, -List.getD_eq_getElem?_getD]
      rw [hstep]
      refine (step_trap q.cb q.co q.nC q.ccap q.eb q.eo q.nE q.ecap t S pc s.d.length dcap 18 a b c q.sh q.lk q.st q.fin s.held x i q.nm dp mv pv w 10 (by decide) hT hS hPC (hst.frozen 0) hR hD hL hH heb htn he0 he1 he2 he3 hfit hcb hpc hpc1 hpc2 hpcb hcode hx0 hx1 hdec ?_).mono ?_
      · intro W E h1 h2 hbW hX
        have hX' := hX
        obtain ⟨e0, e1, e2, e3, e4, e5, e6, e7, e8, e9, e10, f6, f7, f8, f10⟩ := hX
        have hSE : S < E := by omega
        have rA : W.cell? ⟨S, 1 + a, none⟩ = some (.int .i32 (s.r.getD a 0)) := (hbW.cell (p := ⟨S, 1 + a, none⟩) hS).trans (hst.reg a ha)
        have rB : W.cell? ⟨S, 1 + b, none⟩ = some (.int .i32 (s.r.getD b 0)) := (hbW.cell (p := ⟨S, 1 + b, none⟩) hS).trans (hst.reg b hb)
        have rC : W.cell? ⟨S, 1 + c, none⟩ = some (.int .i32 (s.r.getD c 0)) := (hbW.cell (p := ⟨S, 1 + c, none⟩) hS).trans (hst.reg c hc)
        have fA : ∀ k, W.frozen? ⟨S, k, none⟩ = false := fun k => (hbW.frozen (p := ⟨S, k, none⟩) hS).trans (hst.frozen k)
        have pC : W.cell? ⟨S, 0, none⟩ = some (.int .i64 pc) := (hbW.cell (p := ⟨S, 0, none⟩) hS).trans hPC
        have hH' : W.cell? ⟨S, 19, none⟩ = some (.int .i64 s.held) := (hbW.cell (p := ⟨S, 19, none⟩) hS).trans hH
        have hL' : W.cell? ⟨S, 18, none⟩ = some (.bool false) := (hbW.cell (p := ⟨S, 18, none⟩) hS).trans hL
        have hD' : W.cell? ⟨S, 17, none⟩ = some (.slice dp s.d.length dcap) := (hbW.cell (p := ⟨S, 17, none⟩) hS).trans hD
        have vA := hr32 a
        have vB := hr32 b
        have vC := hr32 c
        have hOW : OTab W := hO.below hbW hOw
        exact (prep_ld_over E S a b c s.d.length dcap i pc ((pc : Int) + 1) q.lk (s.r.getD a 0) (s.r.getD b 0) (s.r.getD c 0) mv pv W dp e0 e1 e2 e3 e4 e5 e6 e7 e8 e9 e10 f6 f7 f8 f10 hSE h2 hb rB vB.1 vB.2 hi hi1 (by omega) (by omega) hD').mono fun e w' ⟨he, hb⟩ => ⟨_, he, hb⟩
      · rintro e w' ⟨rfl, hbw⟩
        exact ⟨rfl, hbw⟩

theorem stepI_lds (q : ImN) (t S a b c pc : Nat) (s : St) (dv mv pv : Value) (mem : List Int) (x i inp : Int) (PW : World → World) (w : World) (R : Ready w q t S s dv mv mem pc x) (hdec : decV x = .tuple #[.agg #[.int .u8 20, .int .i64 a, .int .i64 b, .int .i64 c, .int .i64 i], .int .i64 0]) (ha : a < 16) (hb : b < 16) (hc : c < 16) (hi : -131072 ≤ i) (hi1 : i ≤ 131071)  :
    Calls Tryd.prog 23 #[q.val, .int .i64 (t : Nat), .pointer (some ⟨S, 0, none⟩), mv, pv] w (StepPost w S dv mv PW 20 a b c i pc (stepI q.lk 20 a b c i s mem inp)) := by
  obtain ⟨hT, hO, hst, hd, hm, hdS, hmS, hdm, hr0, hr32, hfit, hal, heb, htn, he0, he1, he2, he3, hcb, hpc, hpc1, hpc2, hpcb, hpcs, hcode, hx0, hx1⟩ := R
  obtain ⟨dp, dcap, hdv⟩ := hd.shape
  have hS := hst.lt
  have hPC := hst.pc
  rw [hpcs] at hPC
  have hR : w.cell? ⟨S, 1, none⟩ = some (.int .i32 0) := by have h := hst.reg 0 (by omega); rw [hr0] at h; exact h
  have hD := hst.d
  rw [hdv] at hD
  have hL := hst.halted
  rw [hal] at hL
  have hH := hst.held
  have hOw : 1 < w.heap.size := hO.1
  by_cases hq : 0 ≤ s.r.getD b 0 + i ∧ s.r.getD b 0 + i < mem.length
  · obtain ⟨k, hk⟩ : ∃ k : Nat, s.r.getD b 0 + i = k := ⟨(s.r.getD b 0 + i).toNat, by omega⟩
    have hkl : k < mem.length := by omega
    have hkt : (s.r.getD b 0 + i).toNat = k := by omega
    obtain ⟨m, off, cap, hv, hmw, hcell, hfr, hset⟩ := hm.at k hkl
    have hmne : m ≠ S := fun e => hmS (by rw [hv, ← e]; rfl)
    have hstep : stepI q.lk 20 a b c i s mem inp = .ok ({ s with pc := s.pc + 1, r := if a = 0 then s.r else s.r.set a (mem.getD k 0) }, mem, false, (k : Int), 0) := by simp [stepI, hq, hk, hkt, hkl, -List.getD_eq_getElem?_getD]
    rw [hstep]
    refine (step_ok q.cb q.co q.nC q.ccap q.eb q.eo q.nE q.ecap t S pc s.d.length dcap 20 a b c q.sh q.lk q.st q.fin s.held x i q.nm dp mv pv w (setW w S a (mem.getD k 0)) false k 0 ((pc : Int) + 1) hT hS hPC (hst.frozen 0) hR hD hL hH heb htn he0 he1 he2 he3 hfit hcb hpc hpc1 hpc2 hpcb hcode hx0 hx1 hdec ?_).mono ?_
    · intro W E h1 h2 hbW hX
      have hX' := hX
      obtain ⟨e0, e1, e2, e3, e4, e5, e6, e7, e8, e9, e10, f6, f7, f8, f10⟩ := hX
      have hSE : S < E := by omega
      have rA : W.cell? ⟨S, 1 + a, none⟩ = some (.int .i32 (s.r.getD a 0)) := (hbW.cell (p := ⟨S, 1 + a, none⟩) hS).trans (hst.reg a ha)
      have rB : W.cell? ⟨S, 1 + b, none⟩ = some (.int .i32 (s.r.getD b 0)) := (hbW.cell (p := ⟨S, 1 + b, none⟩) hS).trans (hst.reg b hb)
      have rC : W.cell? ⟨S, 1 + c, none⟩ = some (.int .i32 (s.r.getD c 0)) := (hbW.cell (p := ⟨S, 1 + c, none⟩) hS).trans (hst.reg c hc)
      have fA : ∀ k, W.frozen? ⟨S, k, none⟩ = false := fun k => (hbW.frozen (p := ⟨S, k, none⟩) hS).trans (hst.frozen k)
      have pC : W.cell? ⟨S, 0, none⟩ = some (.int .i64 pc) := (hbW.cell (p := ⟨S, 0, none⟩) hS).trans hPC
      have hH' : W.cell? ⟨S, 19, none⟩ = some (.int .i64 s.held) := (hbW.cell (p := ⟨S, 19, none⟩) hS).trans hH
      have hL' : W.cell? ⟨S, 18, none⟩ = some (.bool false) := (hbW.cell (p := ⟨S, 18, none⟩) hS).trans hL
      have hD' : W.cell? ⟨S, 17, none⟩ = some (.slice dp s.d.length dcap) := (hbW.cell (p := ⟨S, 17, none⟩) hS).trans hD
      have vA := hr32 a
      have vB := hr32 b
      have vC := hr32 c
      have hOW : OTab W := hO.below hbW hOw
      have cM : W.cell? ⟨m, off + k, none⟩ = some (.int .i32 (mem.getD k 0)) := (hbW.cell (p := ⟨m, off + k, none⟩) hmw).trans hcell
      have fM : W.frozen? ⟨m, off + k, none⟩ = false := (hbW.frozen (p := ⟨m, off + k, none⟩) hmw).trans hfr
      refine ⟨_, setW (W.setCell ⟨E, 7, none⟩ (.int .i64 k)) S a (mem.getD k 0), (by rw [hv]; exact prep_lds E S a b c m off mem.length cap k i pc ((pc : Int) + 1) q.lk (s.r.getD a 0) (s.r.getD b 0) (s.r.getD c 0) (mem.getD k 0) mv pv W e0 e1 e2 e3 e4 e5 e6 e7 e8 e9 e10 f6 f7 f8 f10 hSE h2 (by omega) ha rA (fA _) hb rB vB.1 vB.2 hi hi1 hk hkl cM fM), hX'.done (fun k _ => (setW_E hSE).trans (cellE (by omega))) ((setW_E hSE).trans ((cellE (by omega)).trans e6)) ((setW_E hSE).trans (cellS e7)) ((setW_E hSE).trans ((cellE (by omega)).trans e8)) ((setW_E hSE).trans ((cellE (by omega)).trans e10)), setW_below (bSet h1 hbW), setW_size.trans szS, setW_pc.trans ((cellB (by omega)).trans pC), setW_fr.trans (frS.trans (fA 0)), fun k hk hkE => (setW_heap (by omega)).trans (Below.heap_setCell _ _ _ _ (by show k ≠ E; omega))⟩
    · rintro e w' ⟨rfl, hbw⟩
      refine ⟨rfl, ?_⟩
      rw [hpcs]; exact step_done hbw hS ((Kept.refl _ _).setW (.inl rfl)) rfl setW_size (hst.setW a ha _) (hd.setW hdS) (hm.setW hmS) hdS hmS
  · by_cases hn : s.r.getD b 0 + i < 0
    · have hstep : stepI q.lk 20 a b c i s mem inp = .error 10 := by simp [stepI, hq, -List.getD_eq_getElem?_getD]
      rw [hstep]
      refine (step_trap q.cb q.co q.nC q.ccap q.eb q.eo q.nE q.ecap t S pc s.d.length dcap 20 a b c q.sh q.lk q.st q.fin s.held x i q.nm dp mv pv w 10 (by decide) hT hS hPC (hst.frozen 0) hR hD hL hH heb htn he0 he1 he2 he3 hfit hcb hpc hpc1 hpc2 hpcb hcode hx0 hx1 hdec ?_).mono ?_
      · intro W E h1 h2 hbW hX
        have hX' := hX
        obtain ⟨e0, e1, e2, e3, e4, e5, e6, e7, e8, e9, e10, f6, f7, f8, f10⟩ := hX
        have hSE : S < E := by omega
        have rA : W.cell? ⟨S, 1 + a, none⟩ = some (.int .i32 (s.r.getD a 0)) := (hbW.cell (p := ⟨S, 1 + a, none⟩) hS).trans (hst.reg a ha)
        have rB : W.cell? ⟨S, 1 + b, none⟩ = some (.int .i32 (s.r.getD b 0)) := (hbW.cell (p := ⟨S, 1 + b, none⟩) hS).trans (hst.reg b hb)
        have rC : W.cell? ⟨S, 1 + c, none⟩ = some (.int .i32 (s.r.getD c 0)) := (hbW.cell (p := ⟨S, 1 + c, none⟩) hS).trans (hst.reg c hc)
        have fA : ∀ k, W.frozen? ⟨S, k, none⟩ = false := fun k => (hbW.frozen (p := ⟨S, k, none⟩) hS).trans (hst.frozen k)
        have pC : W.cell? ⟨S, 0, none⟩ = some (.int .i64 pc) := (hbW.cell (p := ⟨S, 0, none⟩) hS).trans hPC
        have hH' : W.cell? ⟨S, 19, none⟩ = some (.int .i64 s.held) := (hbW.cell (p := ⟨S, 19, none⟩) hS).trans hH
        have hL' : W.cell? ⟨S, 18, none⟩ = some (.bool false) := (hbW.cell (p := ⟨S, 18, none⟩) hS).trans hL
        have hD' : W.cell? ⟨S, 17, none⟩ = some (.slice dp s.d.length dcap) := (hbW.cell (p := ⟨S, 17, none⟩) hS).trans hD
        have vA := hr32 a
        have vB := hr32 b
        have vC := hr32 c
        have hOW : OTab W := hO.below hbW hOw
        obtain ⟨mp, mcap, hmv⟩ := hm.shape; rw [hmv]; exact (prep_lds_neg E S a b c mem.length mcap i pc ((pc : Int) + 1) q.lk (s.r.getD a 0) (s.r.getD b 0) (s.r.getD c 0) mv pv W mp e0 e1 e2 e3 e4 e5 e6 e7 e8 e9 e10 f6 f7 f8 f10 hSE h2 hb rB vB.1 vB.2 hi hi1 hn).mono fun e w' ⟨he, hb⟩ => ⟨_, he, hb⟩
      · rintro e w' ⟨rfl, hbw⟩
        exact ⟨rfl, hbw⟩
    · have hstep : stepI q.lk 20 a b c i s mem inp = .error 10 := by simp [stepI, hq, -List.getD_eq_getElem?_getD]
      rw [hstep]
      refine (step_trap q.cb q.co q.nC q.ccap q.eb q.eo q.nE q.ecap t S pc s.d.length dcap 20 a b c q.sh q.lk q.st q.fin s.held x i q.nm dp mv pv w 10 (by decide) hT hS hPC (hst.frozen 0) hR hD hL hH heb htn he0 he1 he2 he3 hfit hcb hpc hpc1 hpc2 hpcb hcode hx0 hx1 hdec ?_).mono ?_
      · intro W E h1 h2 hbW hX
        have hX' := hX
        obtain ⟨e0, e1, e2, e3, e4, e5, e6, e7, e8, e9, e10, f6, f7, f8, f10⟩ := hX
        have hSE : S < E := by omega
        have rA : W.cell? ⟨S, 1 + a, none⟩ = some (.int .i32 (s.r.getD a 0)) := (hbW.cell (p := ⟨S, 1 + a, none⟩) hS).trans (hst.reg a ha)
        have rB : W.cell? ⟨S, 1 + b, none⟩ = some (.int .i32 (s.r.getD b 0)) := (hbW.cell (p := ⟨S, 1 + b, none⟩) hS).trans (hst.reg b hb)
        have rC : W.cell? ⟨S, 1 + c, none⟩ = some (.int .i32 (s.r.getD c 0)) := (hbW.cell (p := ⟨S, 1 + c, none⟩) hS).trans (hst.reg c hc)
        have fA : ∀ k, W.frozen? ⟨S, k, none⟩ = false := fun k => (hbW.frozen (p := ⟨S, k, none⟩) hS).trans (hst.frozen k)
        have pC : W.cell? ⟨S, 0, none⟩ = some (.int .i64 pc) := (hbW.cell (p := ⟨S, 0, none⟩) hS).trans hPC
        have hH' : W.cell? ⟨S, 19, none⟩ = some (.int .i64 s.held) := (hbW.cell (p := ⟨S, 19, none⟩) hS).trans hH
        have hL' : W.cell? ⟨S, 18, none⟩ = some (.bool false) := (hbW.cell (p := ⟨S, 18, none⟩) hS).trans hL
        have hD' : W.cell? ⟨S, 17, none⟩ = some (.slice dp s.d.length dcap) := (hbW.cell (p := ⟨S, 17, none⟩) hS).trans hD
        have vA := hr32 a
        have vB := hr32 b
        have vC := hr32 c
        have hOW : OTab W := hO.below hbW hOw
        obtain ⟨mp, mcap, hmv⟩ := hm.shape; rw [hmv]; exact (prep_lds_over E S a b c mem.length mcap i pc ((pc : Int) + 1) q.lk (s.r.getD a 0) (s.r.getD b 0) (s.r.getD c 0) mv pv W mp e0 e1 e2 e3 e4 e5 e6 e7 e8 e9 e10 f6 f7 f8 f10 hSE h2 hb rB vB.1 vB.2 hi hi1 (by omega) (by omega)).mono fun e w' ⟨he, hb⟩ => ⟨_, he, hb⟩
      · rintro e w' ⟨rfl, hbw⟩
        exact ⟨rfl, hbw⟩

theorem stepI_st (q : ImN) (t S a b c pc : Nat) (s : St) (dv mv pv : Value) (mem : List Int) (x i inp : Int) (PW : World → World) (w : World) (R : Ready w q t S s dv mv mem pc x) (hdec : decV x = .tuple #[.agg #[.int .u8 19, .int .i64 a, .int .i64 b, .int .i64 c, .int .i64 i], .int .i64 0]) (ha : a < 16) (hb : b < 16) (hc : c < 16) (hi : -131072 ≤ i) (hi1 : i ≤ 131071)  :
    Calls Tryd.prog 23 #[q.val, .int .i64 (t : Nat), .pointer (some ⟨S, 0, none⟩), mv, pv] w (StepPost w S dv mv PW 19 a b c i pc (stepI q.lk 19 a b c i s mem inp)) := by
  obtain ⟨hT, hO, hst, hd, hm, hdS, hmS, hdm, hr0, hr32, hfit, hal, heb, htn, he0, he1, he2, he3, hcb, hpc, hpc1, hpc2, hpcb, hpcs, hcode, hx0, hx1⟩ := R
  obtain ⟨dp, dcap, hdv⟩ := hd.shape
  have hS := hst.lt
  have hPC := hst.pc
  rw [hpcs] at hPC
  have hR : w.cell? ⟨S, 1, none⟩ = some (.int .i32 0) := by have h := hst.reg 0 (by omega); rw [hr0] at h; exact h
  have hD := hst.d
  rw [hdv] at hD
  have hL := hst.halted
  rw [hal] at hL
  have hH := hst.held
  have hOw : 1 < w.heap.size := hO.1
  by_cases hq : 0 ≤ s.r.getD b 0 + i ∧ s.r.getD b 0 + i < s.d.length
  · obtain ⟨k, hk⟩ : ∃ k : Nat, s.r.getD b 0 + i = k := ⟨(s.r.getD b 0 + i).toNat, by omega⟩
    have hkl : k < s.d.length := by omega
    have hkt : (s.r.getD b 0 + i).toNat = k := by omega
    obtain ⟨m, off, cap, hv, hmw, hcell, hfr, hset⟩ := hd.at k hkl
    obtain ⟨rfl, rfl⟩ := slice_parts (hdv.symm.trans hv)
    have hmne : m ≠ S := fun e => hdS (by rw [hv, ← e]; rfl)
    have hstep : stepI q.lk 19 a b c i s mem inp = .ok ({ s with pc := s.pc + 1, d := s.d.set k (s.r.getD a 0) }, mem, false, (k : Int), 0) := by simp [stepI, hq, hk, hkt, hkl, -List.getD_eq_getElem?_getD]
    rw [hstep]
    refine (step_ok q.cb q.co q.nC q.ccap q.eb q.eo q.nE q.ecap t S pc s.d.length dcap 19 a b c q.sh q.lk q.st q.fin s.held x i q.nm (some ⟨m, off, none⟩) mv pv w (w.setCell ⟨m, off + k, none⟩ (.int .i32 (s.r.getD a 0))) false k 0 ((pc : Int) + 1) hT hS hPC (hst.frozen 0) hR hD hL hH heb htn he0 he1 he2 he3 hfit hcb hpc hpc1 hpc2 hpcb hcode hx0 hx1 hdec ?_).mono ?_
    · intro W E h1 h2 hbW hX
      have hX' := hX
      obtain ⟨e0, e1, e2, e3, e4, e5, e6, e7, e8, e9, e10, f6, f7, f8, f10⟩ := hX
      have hSE : S < E := by omega
      have rA : W.cell? ⟨S, 1 + a, none⟩ = some (.int .i32 (s.r.getD a 0)) := (hbW.cell (p := ⟨S, 1 + a, none⟩) hS).trans (hst.reg a ha)
      have rB : W.cell? ⟨S, 1 + b, none⟩ = some (.int .i32 (s.r.getD b 0)) := (hbW.cell (p := ⟨S, 1 + b, none⟩) hS).trans (hst.reg b hb)
      have rC : W.cell? ⟨S, 1 + c, none⟩ = some (.int .i32 (s.r.getD c 0)) := (hbW.cell (p := ⟨S, 1 + c, none⟩) hS).trans (hst.reg c hc)
      have fA : ∀ k, W.frozen? ⟨S, k, none⟩ = false := fun k => (hbW.frozen (p := ⟨S, k, none⟩) hS).trans (hst.frozen k)
      have pC : W.cell? ⟨S, 0, none⟩ = some (.int .i64 pc) := (hbW.cell (p := ⟨S, 0, none⟩) hS).trans hPC
      have hH' : W.cell? ⟨S, 19, none⟩ = some (.int .i64 s.held) := (hbW.cell (p := ⟨S, 19, none⟩) hS).trans hH
      have hL' : W.cell? ⟨S, 18, none⟩ = some (.bool false) := (hbW.cell (p := ⟨S, 18, none⟩) hS).trans hL
      have hD' : W.cell? ⟨S, 17, none⟩ = some (.slice (some ⟨m, off, none⟩) s.d.length dcap) := (hbW.cell (p := ⟨S, 17, none⟩) hS).trans hD
      have vA := hr32 a
      have vB := hr32 b
      have vC := hr32 c
      have hOW : OTab W := hO.below hbW hOw
      have cM : W.cell? ⟨m, off + k, none⟩ = some (.int .i32 (s.d.getD k 0)) := (hbW.cell (p := ⟨m, off + k, none⟩) hmw).trans hcell
      have fM : W.frozen? ⟨m, off + k, none⟩ = false := (hbW.frozen (p := ⟨m, off + k, none⟩) hmw).trans hfr
      refine ⟨_, (W.setCell ⟨E, 7, none⟩ (.int .i64 k)).setCell ⟨m, off + k, none⟩ (.int .i32 (s.r.getD a 0)), prep_st E S a b c m off s.d.length dcap k i pc ((pc : Int) + 1) q.lk (s.r.getD a 0) (s.r.getD b 0) (s.r.getD c 0) (s.d.getD k 0) mv pv W e0 e1 e2 e3 e4 e5 e6 e7 e8 e9 e10 f6 f7 f8 f10 hSE h2 (by omega) ha rA (fA _) hb rB vB.1 vB.2 hi hi1 hk hkl hD' cM fM, hX'.done (fun k _ => (cellB (by omega)).trans (cellE (by omega))) ((cellB (by omega)).trans ((cellE (by omega)).trans e6)) ((cellB (by omega)).trans (cellS e7)) ((cellB (by omega)).trans ((cellE (by omega)).trans e8)) ((cellB (by omega)).trans ((cellE (by omega)).trans e10)), bBoth (bSet h1 hbW), szS.trans szS, (cellB (fun e => hmne e.symm)).trans ((cellB (by omega)).trans pC), frS.trans (frS.trans (fA 0)), fun k hk hkE => (Below.heap_setCell _ _ _ _ (by show k ≠ m; omega)).trans (Below.heap_setCell _ _ _ _ (by show k ≠ E; omega))⟩
    · rintro e w' ⟨rfl, hbw⟩
      refine ⟨rfl, ?_⟩
      rw [hpcs]; exact step_done hbw hS ((Kept.refl _ _).setCell (p := ⟨m, off + k, none⟩) (.inr (.inl (by rw [hv]; rfl))) _) rfl szS ((hst.other (p := ⟨m, off + k, none⟩) hmne _).setD _) (hset _) (hm.other (p := ⟨m, off + k, none⟩) (hdm m (by rw [hv]; rfl)) _) hdS hmS
  · by_cases hn : s.r.getD b 0 + i < 0
    · have hstep : stepI q.lk 19 a b c i s mem inp = .error 10 := by simp [stepI, hq, -List.getD_eq_getElem?_getD]
      rw [hstep]
      refine (step_trap q.cb q.co q.nC q.ccap q.eb q.eo q.nE q.ecap t S pc s.d.length dcap 19 a b c q.sh q.lk q.st q.fin s.held x i q.nm dp mv pv w 10 (by decide) hT hS hPC (hst.frozen 0) hR hD hL hH heb htn he0 he1 he2 he3 hfit hcb hpc hpc1 hpc2 hpcb hcode hx0 hx1 hdec ?_).mono ?_
      · intro W E h1 h2 hbW hX
        have hX' := hX
        obtain ⟨e0, e1, e2, e3, e4, e5, e6, e7, e8, e9, e10, f6, f7, f8, f10⟩ := hX
        have hSE : S < E := by omega
        have rA : W.cell? ⟨S, 1 + a, none⟩ = some (.int .i32 (s.r.getD a 0)) := (hbW.cell (p := ⟨S, 1 + a, none⟩) hS).trans (hst.reg a ha)
        have rB : W.cell? ⟨S, 1 + b, none⟩ = some (.int .i32 (s.r.getD b 0)) := (hbW.cell (p := ⟨S, 1 + b, none⟩) hS).trans (hst.reg b hb)
        have rC : W.cell? ⟨S, 1 + c, none⟩ = some (.int .i32 (s.r.getD c 0)) := (hbW.cell (p := ⟨S, 1 + c, none⟩) hS).trans (hst.reg c hc)
        have fA : ∀ k, W.frozen? ⟨S, k, none⟩ = false := fun k => (hbW.frozen (p := ⟨S, k, none⟩) hS).trans (hst.frozen k)
        have pC : W.cell? ⟨S, 0, none⟩ = some (.int .i64 pc) := (hbW.cell (p := ⟨S, 0, none⟩) hS).trans hPC
        have hH' : W.cell? ⟨S, 19, none⟩ = some (.int .i64 s.held) := (hbW.cell (p := ⟨S, 19, none⟩) hS).trans hH
        have hL' : W.cell? ⟨S, 18, none⟩ = some (.bool false) := (hbW.cell (p := ⟨S, 18, none⟩) hS).trans hL
        have hD' : W.cell? ⟨S, 17, none⟩ = some (.slice dp s.d.length dcap) := (hbW.cell (p := ⟨S, 17, none⟩) hS).trans hD
        have vA := hr32 a
        have vB := hr32 b
        have vC := hr32 c
        have hOW : OTab W := hO.below hbW hOw
        exact (prep_st_neg E S a b c s.d.length dcap i pc ((pc : Int) + 1) q.lk (s.r.getD a 0) (s.r.getD b 0) (s.r.getD c 0) mv pv W dp e0 e1 e2 e3 e4 e5 e6 e7 e8 e9 e10 f6 f7 f8 f10 hSE h2 hb rB vB.1 vB.2 hi hi1 hn hD').mono fun e w' ⟨he, hb⟩ => ⟨_, he, hb⟩
      · rintro e w' ⟨rfl, hbw⟩
        exact ⟨rfl, hbw⟩
    · have hstep : stepI q.lk 19 a b c i s mem inp = .error 10 := by simp [stepI, hq, -List.getD_eq_getElem?_getD]
      rw [hstep]
      refine (step_trap q.cb q.co q.nC q.ccap q.eb q.eo q.nE q.ecap t S pc s.d.length dcap 19 a b c q.sh q.lk q.st q.fin s.held x i q.nm dp mv pv w 10 (by decide) hT hS hPC (hst.frozen 0) hR hD hL hH heb htn he0 he1 he2 he3 hfit hcb hpc hpc1 hpc2 hpcb hcode hx0 hx1 hdec ?_).mono ?_
      · intro W E h1 h2 hbW hX
        have hX' := hX
        obtain ⟨e0, e1, e2, e3, e4, e5, e6, e7, e8, e9, e10, f6, f7, f8, f10⟩ := hX
        have hSE : S < E := by omega
        have rA : W.cell? ⟨S, 1 + a, none⟩ = some (.int .i32 (s.r.getD a 0)) := (hbW.cell (p := ⟨S, 1 + a, none⟩) hS).trans (hst.reg a ha)
        have rB : W.cell? ⟨S, 1 + b, none⟩ = some (.int .i32 (s.r.getD b 0)) := (hbW.cell (p := ⟨S, 1 + b, none⟩) hS).trans (hst.reg b hb)
        have rC : W.cell? ⟨S, 1 + c, none⟩ = some (.int .i32 (s.r.getD c 0)) := (hbW.cell (p := ⟨S, 1 + c, none⟩) hS).trans (hst.reg c hc)
        have fA : ∀ k, W.frozen? ⟨S, k, none⟩ = false := fun k => (hbW.frozen (p := ⟨S, k, none⟩) hS).trans (hst.frozen k)
        have pC : W.cell? ⟨S, 0, none⟩ = some (.int .i64 pc) := (hbW.cell (p := ⟨S, 0, none⟩) hS).trans hPC
        have hH' : W.cell? ⟨S, 19, none⟩ = some (.int .i64 s.held) := (hbW.cell (p := ⟨S, 19, none⟩) hS).trans hH
        have hL' : W.cell? ⟨S, 18, none⟩ = some (.bool false) := (hbW.cell (p := ⟨S, 18, none⟩) hS).trans hL
        have hD' : W.cell? ⟨S, 17, none⟩ = some (.slice dp s.d.length dcap) := (hbW.cell (p := ⟨S, 17, none⟩) hS).trans hD
        have vA := hr32 a
        have vB := hr32 b
        have vC := hr32 c
        have hOW : OTab W := hO.below hbW hOw
        exact (prep_st_over E S a b c s.d.length dcap i pc ((pc : Int) + 1) q.lk (s.r.getD a 0) (s.r.getD b 0) (s.r.getD c 0) mv pv W dp e0 e1 e2 e3 e4 e5 e6 e7 e8 e9 e10 f6 f7 f8 f10 hSE h2 hb rB vB.1 vB.2 hi hi1 (by omega) (by omega) hD').mono fun e w' ⟨he, hb⟩ => ⟨_, he, hb⟩
      · rintro e w' ⟨rfl, hbw⟩
        exact ⟨rfl, hbw⟩

theorem stepI_sts (q : ImN) (t S a b c pc : Nat) (s : St) (dv mv pv : Value) (mem : List Int) (x i inp : Int) (PW : World → World) (w : World) (R : Ready w q t S s dv mv mem pc x) (hdec : decV x = .tuple #[.agg #[.int .u8 21, .int .i64 a, .int .i64 b, .int .i64 c, .int .i64 i], .int .i64 0]) (ha : a < 16) (hb : b < 16) (hc : c < 16) (hi : -131072 ≤ i) (hi1 : i ≤ 131071)  :
    Calls Tryd.prog 23 #[q.val, .int .i64 (t : Nat), .pointer (some ⟨S, 0, none⟩), mv, pv] w (StepPost w S dv mv PW 21 a b c i pc (stepI q.lk 21 a b c i s mem inp)) := by
  obtain ⟨hT, hO, hst, hd, hm, hdS, hmS, hdm, hr0, hr32, hfit, hal, heb, htn, he0, he1, he2, he3, hcb, hpc, hpc1, hpc2, hpcb, hpcs, hcode, hx0, hx1⟩ := R
  obtain ⟨dp, dcap, hdv⟩ := hd.shape
  have hS := hst.lt
  have hPC := hst.pc
  rw [hpcs] at hPC
  have hR : w.cell? ⟨S, 1, none⟩ = some (.int .i32 0) := by have h := hst.reg 0 (by omega); rw [hr0] at h; exact h
  have hD := hst.d
  rw [hdv] at hD
  have hL := hst.halted
  rw [hal] at hL
  have hH := hst.held
  have hOw : 1 < w.heap.size := hO.1
  by_cases hq : 0 ≤ s.r.getD b 0 + i ∧ s.r.getD b 0 + i < mem.length
  · obtain ⟨k, hk⟩ : ∃ k : Nat, s.r.getD b 0 + i = k := ⟨(s.r.getD b 0 + i).toNat, by omega⟩
    have hkl : k < mem.length := by omega
    have hkt : (s.r.getD b 0 + i).toNat = k := by omega
    obtain ⟨m, off, cap, hv, hmw, hcell, hfr, hset⟩ := hm.at k hkl
    have hmne : m ≠ S := fun e => hmS (by rw [hv, ← e]; rfl)
    have hstep : stepI q.lk 21 a b c i s mem inp = .ok ({ s with pc := s.pc + 1 }, mem.set k (s.r.getD a 0), false, (k : Int), 0) := by simp [stepI, hq, hk, hkt, hkl, -List.getD_eq_getElem?_getD]
    rw [hstep]
    refine (step_ok q.cb q.co q.nC q.ccap q.eb q.eo q.nE q.ecap t S pc s.d.length dcap 21 a b c q.sh q.lk q.st q.fin s.held x i q.nm dp mv pv w (w.setCell ⟨m, off + k, none⟩ (.int .i32 (s.r.getD a 0))) false k 0 ((pc : Int) + 1) hT hS hPC (hst.frozen 0) hR hD hL hH heb htn he0 he1 he2 he3 hfit hcb hpc hpc1 hpc2 hpcb hcode hx0 hx1 hdec ?_).mono ?_
    · intro W E h1 h2 hbW hX
      have hX' := hX
      obtain ⟨e0, e1, e2, e3, e4, e5, e6, e7, e8, e9, e10, f6, f7, f8, f10⟩ := hX
      have hSE : S < E := by omega
      have rA : W.cell? ⟨S, 1 + a, none⟩ = some (.int .i32 (s.r.getD a 0)) := (hbW.cell (p := ⟨S, 1 + a, none⟩) hS).trans (hst.reg a ha)
      have rB : W.cell? ⟨S, 1 + b, none⟩ = some (.int .i32 (s.r.getD b 0)) := (hbW.cell (p := ⟨S, 1 + b, none⟩) hS).trans (hst.reg b hb)
      have rC : W.cell? ⟨S, 1 + c, none⟩ = some (.int .i32 (s.r.getD c 0)) := (hbW.cell (p := ⟨S, 1 + c, none⟩) hS).trans (hst.reg c hc)
      have fA : ∀ k, W.frozen? ⟨S, k, none⟩ = false := fun k => (hbW.frozen (p := ⟨S, k, none⟩) hS).trans (hst.frozen k)
      have pC : W.cell? ⟨S, 0, none⟩ = some (.int .i64 pc) := (hbW.cell (p := ⟨S, 0, none⟩) hS).trans hPC
      have hH' : W.cell? ⟨S, 19, none⟩ = some (.int .i64 s.held) := (hbW.cell (p := ⟨S, 19, none⟩) hS).trans hH
      have hL' : W.cell? ⟨S, 18, none⟩ = some (.bool false) := (hbW.cell (p := ⟨S, 18, none⟩) hS).trans hL
      have hD' : W.cell? ⟨S, 17, none⟩ = some (.slice dp s.d.length dcap) := (hbW.cell (p := ⟨S, 17, none⟩) hS).trans hD
      have vA := hr32 a
      have vB := hr32 b
      have vC := hr32 c
      have hOW : OTab W := hO.below hbW hOw
      have cM : W.cell? ⟨m, off + k, none⟩ = some (.int .i32 (mem.getD k 0)) := (hbW.cell (p := ⟨m, off + k, none⟩) hmw).trans hcell
      have fM : W.frozen? ⟨m, off + k, none⟩ = false := (hbW.frozen (p := ⟨m, off + k, none⟩) hmw).trans hfr
      refine ⟨_, (W.setCell ⟨E, 7, none⟩ (.int .i64 k)).setCell ⟨m, off + k, none⟩ (.int .i32 (s.r.getD a 0)), (by rw [hv]; exact prep_sts E S a b c m off mem.length cap k i pc ((pc : Int) + 1) q.lk (s.r.getD a 0) (s.r.getD b 0) (s.r.getD c 0) (mem.getD k 0) mv pv W e0 e1 e2 e3 e4 e5 e6 e7 e8 e9 e10 f6 f7 f8 f10 hSE h2 (by omega) ha rA (fA _) hb rB vB.1 vB.2 hi hi1 hk hkl cM fM), hX'.done (fun k _ => (cellB (by omega)).trans (cellE (by omega))) ((cellB (by omega)).trans ((cellE (by omega)).trans e6)) ((cellB (by omega)).trans (cellS e7)) ((cellB (by omega)).trans ((cellE (by omega)).trans e8)) ((cellB (by omega)).trans ((cellE (by omega)).trans e10)), bBoth (bSet h1 hbW), szS.trans szS, (cellB (fun e => hmne e.symm)).trans ((cellB (by omega)).trans pC), frS.trans (frS.trans (fA 0)), fun k hk hkE => (Below.heap_setCell _ _ _ _ (by show k ≠ m; omega)).trans (Below.heap_setCell _ _ _ _ (by show k ≠ E; omega))⟩
    · rintro e w' ⟨rfl, hbw⟩
      refine ⟨rfl, ?_⟩
      rw [hpcs]; exact step_done hbw hS ((Kept.refl _ _).setCell (p := ⟨m, off + k, none⟩) (.inr (.inr (by rw [hv]; rfl))) _) rfl szS (hst.other (p := ⟨m, off + k, none⟩) hmne _) (hd.other (p := ⟨m, off + k, none⟩) (fun e => hdm m e (by rw [hv]; rfl)) _) (hset _) hdS hmS
  · by_cases hn : s.r.getD b 0 + i < 0
    · have hstep : stepI q.lk 21 a b c i s mem inp = .error 10 := by simp [stepI, hq, -List.getD_eq_getElem?_getD]
      rw [hstep]
      refine (step_trap q.cb q.co q.nC q.ccap q.eb q.eo q.nE q.ecap t S pc s.d.length dcap 21 a b c q.sh q.lk q.st q.fin s.held x i q.nm dp mv pv w 10 (by decide) hT hS hPC (hst.frozen 0) hR hD hL hH heb htn he0 he1 he2 he3 hfit hcb hpc hpc1 hpc2 hpcb hcode hx0 hx1 hdec ?_).mono ?_
      · intro W E h1 h2 hbW hX
        have hX' := hX
        obtain ⟨e0, e1, e2, e3, e4, e5, e6, e7, e8, e9, e10, f6, f7, f8, f10⟩ := hX
        have hSE : S < E := by omega
        have rA : W.cell? ⟨S, 1 + a, none⟩ = some (.int .i32 (s.r.getD a 0)) := (hbW.cell (p := ⟨S, 1 + a, none⟩) hS).trans (hst.reg a ha)
        have rB : W.cell? ⟨S, 1 + b, none⟩ = some (.int .i32 (s.r.getD b 0)) := (hbW.cell (p := ⟨S, 1 + b, none⟩) hS).trans (hst.reg b hb)
        have rC : W.cell? ⟨S, 1 + c, none⟩ = some (.int .i32 (s.r.getD c 0)) := (hbW.cell (p := ⟨S, 1 + c, none⟩) hS).trans (hst.reg c hc)
        have fA : ∀ k, W.frozen? ⟨S, k, none⟩ = false := fun k => (hbW.frozen (p := ⟨S, k, none⟩) hS).trans (hst.frozen k)
        have pC : W.cell? ⟨S, 0, none⟩ = some (.int .i64 pc) := (hbW.cell (p := ⟨S, 0, none⟩) hS).trans hPC
        have hH' : W.cell? ⟨S, 19, none⟩ = some (.int .i64 s.held) := (hbW.cell (p := ⟨S, 19, none⟩) hS).trans hH
        have hL' : W.cell? ⟨S, 18, none⟩ = some (.bool false) := (hbW.cell (p := ⟨S, 18, none⟩) hS).trans hL
        have hD' : W.cell? ⟨S, 17, none⟩ = some (.slice dp s.d.length dcap) := (hbW.cell (p := ⟨S, 17, none⟩) hS).trans hD
        have vA := hr32 a
        have vB := hr32 b
        have vC := hr32 c
        have hOW : OTab W := hO.below hbW hOw
        obtain ⟨mp, mcap, hmv⟩ := hm.shape; rw [hmv]; exact (prep_sts_neg E S a b c mem.length mcap i pc ((pc : Int) + 1) q.lk (s.r.getD a 0) (s.r.getD b 0) (s.r.getD c 0) mv pv W mp e0 e1 e2 e3 e4 e5 e6 e7 e8 e9 e10 f6 f7 f8 f10 hSE h2 hb rB vB.1 vB.2 hi hi1 hn).mono fun e w' ⟨he, hb⟩ => ⟨_, he, hb⟩
      · rintro e w' ⟨rfl, hbw⟩
        exact ⟨rfl, hbw⟩
    · have hstep : stepI q.lk 21 a b c i s mem inp = .error 10 := by simp [stepI, hq, -List.getD_eq_getElem?_getD]
      rw [hstep]
      refine (step_trap q.cb q.co q.nC q.ccap q.eb q.eo q.nE q.ecap t S pc s.d.length dcap 21 a b c q.sh q.lk q.st q.fin s.held x i q.nm dp mv pv w 10 (by decide) hT hS hPC (hst.frozen 0) hR hD hL hH heb htn he0 he1 he2 he3 hfit hcb hpc hpc1 hpc2 hpcb hcode hx0 hx1 hdec ?_).mono ?_
      · intro W E h1 h2 hbW hX
        have hX' := hX
        obtain ⟨e0, e1, e2, e3, e4, e5, e6, e7, e8, e9, e10, f6, f7, f8, f10⟩ := hX
        have hSE : S < E := by omega
        have rA : W.cell? ⟨S, 1 + a, none⟩ = some (.int .i32 (s.r.getD a 0)) := (hbW.cell (p := ⟨S, 1 + a, none⟩) hS).trans (hst.reg a ha)
        have rB : W.cell? ⟨S, 1 + b, none⟩ = some (.int .i32 (s.r.getD b 0)) := (hbW.cell (p := ⟨S, 1 + b, none⟩) hS).trans (hst.reg b hb)
        have rC : W.cell? ⟨S, 1 + c, none⟩ = some (.int .i32 (s.r.getD c 0)) := (hbW.cell (p := ⟨S, 1 + c, none⟩) hS).trans (hst.reg c hc)
        have fA : ∀ k, W.frozen? ⟨S, k, none⟩ = false := fun k => (hbW.frozen (p := ⟨S, k, none⟩) hS).trans (hst.frozen k)
        have pC : W.cell? ⟨S, 0, none⟩ = some (.int .i64 pc) := (hbW.cell (p := ⟨S, 0, none⟩) hS).trans hPC
        have hH' : W.cell? ⟨S, 19, none⟩ = some (.int .i64 s.held) := (hbW.cell (p := ⟨S, 19, none⟩) hS).trans hH
        have hL' : W.cell? ⟨S, 18, none⟩ = some (.bool false) := (hbW.cell (p := ⟨S, 18, none⟩) hS).trans hL
        have hD' : W.cell? ⟨S, 17, none⟩ = some (.slice dp s.d.length dcap) := (hbW.cell (p := ⟨S, 17, none⟩) hS).trans hD
        have vA := hr32 a
        have vB := hr32 b
        have vC := hr32 c
        have hOW : OTab W := hO.below hbW hOw
        obtain ⟨mp, mcap, hmv⟩ := hm.shape; rw [hmv]; exact (prep_sts_over E S a b c mem.length mcap i pc ((pc : Int) + 1) q.lk (s.r.getD a 0) (s.r.getD b 0) (s.r.getD c 0) mv pv W mp e0 e1 e2 e3 e4 e5 e6 e7 e8 e9 e10 f6 f7 f8 f10 hSE h2 hb rB vB.1 vB.2 hi hi1 (by omega) (by omega)).mono fun e w' ⟨he, hb⟩ => ⟨_, he, hb⟩
      · rintro e w' ⟨rfl, hbw⟩
        exact ⟨rfl, hbw⟩

/-- What a port is: nil, or a function that only computes, or one that writes a cell of its own. -/
inductive PortIn (w : World) (S : Nat) (dv mv pv : Value) (i v : Int) (PW : World → World) : Prop
  | none (h : pv = .nilFunc) (hv : v = 0) (hP : PW = id)
  | pure (pf : Nat) (pcaps : Array Value) (h : pv = .func (.func pf) #[] pcaps) (hent : Enters Tryd.prog pf) (hP : PW = id)
      (hcall : ∀ W, Below w.heap.size w W → Calls Tryd.prog pf (#[.int .i64 i] ++ pcaps) W (fun e w' => e = .returned (.int .i32 v) ∧ Below W.heap.size W w'))
  | st (pf : Nat) (pcaps : Array Value) (pa : Addr) (pval : Value) (h : pv = .func (.func pf) #[] pcaps) (hent : Enters Tryd.prog pf) (hP : PW = fun W => W.setCell pa pval) (hpw : pa.block < w.heap.size) (hpS : pa.block ≠ S) (hpd : dv.ownBlock ≠ some pa.block) (hpm : mv.ownBlock ≠ some pa.block)
      (hcall : ∀ W, Below w.heap.size w W → Calls Tryd.prog pf (#[.int .i64 i] ++ pcaps) W (fun e w' => e = .returned (.int .i32 v) ∧ Below W.heap.size (W.setCell pa pval) w'))

theorem stepI_in (q : ImN) (t S a b c pc : Nat) (s : St) (dv mv pv : Value) (mem : List Int) (x i inp : Int) (PW : World → World) (w : World) (R : Ready w q t S s dv mv mem pc x) (hdec : decV x = .tuple #[.agg #[.int .u8 26, .int .i64 a, .int .i64 b, .int .i64 c, .int .i64 i], .int .i64 0]) (ha : a < 16) (hb : b < 16) (hc : c < 16) (hi : -131072 ≤ i) (hi1 : i ≤ 131071) (hport : PortIn w S dv mv pv i inp PW) :
    Calls Tryd.prog 23 #[q.val, .int .i64 (t : Nat), .pointer (some ⟨S, 0, none⟩), mv, pv] w (StepPost w S dv mv PW 26 a b c i pc (stepI q.lk 26 a b c i s mem inp)) := by
  obtain ⟨hT, hO, hst, hd, hm, hdS, hmS, hdm, hr0, hr32, hfit, hal, heb, htn, he0, he1, he2, he3, hcb, hpc, hpc1, hpc2, hpcb, hpcs, hcode, hx0, hx1⟩ := R
  obtain ⟨dp, dcap, hdv⟩ := hd.shape
  have hS := hst.lt
  have hPC := hst.pc
  rw [hpcs] at hPC
  have hR : w.cell? ⟨S, 1, none⟩ = some (.int .i32 0) := by have h := hst.reg 0 (by omega); rw [hr0] at h; exact h
  have hD := hst.d
  rw [hdv] at hD
  have hL := hst.halted
  rw [hal] at hL
  have hH := hst.held
  have hOw : 1 < w.heap.size := hO.1
  cases hport with
  | none h hv hP =>
    subst h hv hP
    have hstep : stepI q.lk 26 a b c i s mem 0 = .ok ({ s with pc := s.pc + 1, r := if a = 0 then s.r else s.r.set a 0 }, mem, false, -1, 0) := by simp [stepI, -List.getD_eq_getElem?_getD]
    rw [hstep]
    refine (step_ok q.cb q.co q.nC q.ccap q.eb q.eo q.nE q.ecap t S pc s.d.length dcap 26 a b c q.sh q.lk q.st q.fin s.held x i q.nm dp mv .nilFunc w (setW w S a 0) false (-1) 0 ((pc : Int) + 1) hT hS hPC (hst.frozen 0) hR hD hL hH heb htn he0 he1 he2 he3 hfit hcb hpc hpc1 hpc2 hpcb hcode hx0 hx1 hdec ?_).mono ?_
    · intro W E h1 h2 hbW hX
      have hX' := hX
      obtain ⟨e0, e1, e2, e3, e4, e5, e6, e7, e8, e9, e10, f6, f7, f8, f10⟩ := hX
      have hSE : S < E := by omega
      have rA : W.cell? ⟨S, 1 + a, none⟩ = some (.int .i32 (s.r.getD a 0)) := (hbW.cell (p := ⟨S, 1 + a, none⟩) hS).trans (hst.reg a ha)
      have rB : W.cell? ⟨S, 1 + b, none⟩ = some (.int .i32 (s.r.getD b 0)) := (hbW.cell (p := ⟨S, 1 + b, none⟩) hS).trans (hst.reg b hb)
      have rC : W.cell? ⟨S, 1 + c, none⟩ = some (.int .i32 (s.r.getD c 0)) := (hbW.cell (p := ⟨S, 1 + c, none⟩) hS).trans (hst.reg c hc)
      have fA : ∀ k, W.frozen? ⟨S, k, none⟩ = false := fun k => (hbW.frozen (p := ⟨S, k, none⟩) hS).trans (hst.frozen k)
      have pC : W.cell? ⟨S, 0, none⟩ = some (.int .i64 pc) := (hbW.cell (p := ⟨S, 0, none⟩) hS).trans hPC
      have hH' : W.cell? ⟨S, 19, none⟩ = some (.int .i64 s.held) := (hbW.cell (p := ⟨S, 19, none⟩) hS).trans hH
      have hL' : W.cell? ⟨S, 18, none⟩ = some (.bool false) := (hbW.cell (p := ⟨S, 18, none⟩) hS).trans hL
      have hD' : W.cell? ⟨S, 17, none⟩ = some (.slice dp s.d.length dcap) := (hbW.cell (p := ⟨S, 17, none⟩) hS).trans hD
      have vA := hr32 a
      have vB := hr32 b
      have vC := hr32 c
      have hOW : OTab W := hO.below hbW hOw
      refine ⟨_, setW W S a 0, prep_in_nil E S a b c i pc ((pc : Int) + 1) q.lk (s.r.getD a 0) (s.r.getD b 0) (s.r.getD c 0) mv .nilFunc W e0 e1 e2 e3 e4 e5 e6 e7 e8 e9 e10 f6 f7 f8 f10 hSE h2 ha rA (fA _), hX'.done (fun k _ => setW_E hSE) ((setW_E hSE).trans e6) ((setW_E hSE).trans e7) ((setW_E hSE).trans e8) ((setW_E hSE).trans e10), setW_below hbW, setW_size, setW_pc.trans pC, setW_fr.trans (fA 0), fun k hk hkE => setW_heap (by omega)⟩
    · rintro e w' ⟨rfl, hbw⟩
      refine ⟨rfl, ?_⟩
      rw [hpcs, if_pos rfl]; exact step_done hbw hS ((Kept.refl _ _).setW (.inl rfl)) rfl setW_size (hst.setW a ha _) (hd.setW hdS) (hm.setW hmS) hdS hmS
  | pure pf pcaps h hent hP hcall =>
    subst h hP
    have hstep : stepI q.lk 26 a b c i s mem inp = .ok ({ s with pc := s.pc + 1, r := if a = 0 then s.r else s.r.set a inp }, mem, false, -1, inp) := by simp [stepI, -List.getD_eq_getElem?_getD]
    rw [hstep]
    refine (step_ok q.cb q.co q.nC q.ccap q.eb q.eo q.nE q.ecap t S pc s.d.length dcap 26 a b c q.sh q.lk q.st q.fin s.held x i q.nm dp mv (.func (.func pf) #[] pcaps) w (setW w S a inp) false (-1) inp ((pc : Int) + 1) hT hS hPC (hst.frozen 0) hR hD hL hH heb htn he0 he1 he2 he3 hfit hcb hpc hpc1 hpc2 hpcb hcode hx0 hx1 hdec ?_).mono ?_
    · intro W E h1 h2 hbW hX
      have hX' := hX
      obtain ⟨e0, e1, e2, e3, e4, e5, e6, e7, e8, e9, e10, f6, f7, f8, f10⟩ := hX
      have hSE : S < E := by omega
      have rA : W.cell? ⟨S, 1 + a, none⟩ = some (.int .i32 (s.r.getD a 0)) := (hbW.cell (p := ⟨S, 1 + a, none⟩) hS).trans (hst.reg a ha)
      have rB : W.cell? ⟨S, 1 + b, none⟩ = some (.int .i32 (s.r.getD b 0)) := (hbW.cell (p := ⟨S, 1 + b, none⟩) hS).trans (hst.reg b hb)
      have rC : W.cell? ⟨S, 1 + c, none⟩ = some (.int .i32 (s.r.getD c 0)) := (hbW.cell (p := ⟨S, 1 + c, none⟩) hS).trans (hst.reg c hc)
      have fA : ∀ k, W.frozen? ⟨S, k, none⟩ = false := fun k => (hbW.frozen (p := ⟨S, k, none⟩) hS).trans (hst.frozen k)
      have pC : W.cell? ⟨S, 0, none⟩ = some (.int .i64 pc) := (hbW.cell (p := ⟨S, 0, none⟩) hS).trans hPC
      have hH' : W.cell? ⟨S, 19, none⟩ = some (.int .i64 s.held) := (hbW.cell (p := ⟨S, 19, none⟩) hS).trans hH
      have hL' : W.cell? ⟨S, 18, none⟩ = some (.bool false) := (hbW.cell (p := ⟨S, 18, none⟩) hS).trans hL
      have hD' : W.cell? ⟨S, 17, none⟩ = some (.slice dp s.d.length dcap) := (hbW.cell (p := ⟨S, 17, none⟩) hS).trans hD
      have vA := hr32 a
      have vB := hr32 b
      have vC := hr32 c
      have hOW : OTab W := hO.below hbW hOw
      refine ⟨_, setW ((W).setCell ⟨E, 8, none⟩ (.int .i32 inp)) S a inp, prep_in_pure E S a b c i pc ((pc : Int) + 1) q.lk (s.r.getD a 0) (s.r.getD b 0) (s.r.getD c 0) inp mv mv W pf pcaps ⟨0, 0, none⟩ mv e0 e1 e2 e3 e4 e5 e6 e7 e8 e9 e10 f6 f7 f8 f10 hSE h2 ha rA (fA _) hent (fun W' hW' => hcall W' (below_then hbW hW' (Nat.le_of_lt (by omega)))), hX'.done (fun k _ => (setW_E hSE).trans (cellE (by omega))) ((setW_E hSE).trans ((cellE (by omega)).trans e6)) ((setW_E hSE).trans ((cellE (by omega)).trans e7)) ((setW_E hSE).trans (cellS e8)) ((setW_E hSE).trans ((cellE (by omega)).trans e10)), setW_below (bSet h1 hbW), setW_size.trans szS, setW_pc.trans ((cellB (by omega)).trans pC), setW_fr.trans (frS.trans (fA 0)), fun k hk hkE => (setW_heap (by omega)).trans (Below.heap_setCell _ _ _ _ (by show k ≠ E; omega))⟩
    · rintro e w' ⟨rfl, hbw⟩
      refine ⟨rfl, ?_⟩
      rw [hpcs, if_pos rfl]; exact step_done hbw hS ((Kept.refl _ _).setW (.inl rfl)) rfl setW_size (hst.setW a ha _) (hd.setW hdS) (hm.setW hmS) hdS hmS
  | st pf pcaps pa pval h hent hP hpw hpS hpd hpm hcall =>
    subst h hP
    have hstep : stepI q.lk 26 a b c i s mem inp = .ok ({ s with pc := s.pc + 1, r := if a = 0 then s.r else s.r.set a inp }, mem, false, -1, inp) := by simp [stepI, -List.getD_eq_getElem?_getD]
    rw [hstep]
    refine (step_ok q.cb q.co q.nC q.ccap q.eb q.eo q.nE q.ecap t S pc s.d.length dcap 26 a b c q.sh q.lk q.st q.fin s.held x i q.nm dp mv (.func (.func pf) #[] pcaps) w (setW (w.setCell pa pval) S a inp) false (-1) inp ((pc : Int) + 1) hT hS hPC (hst.frozen 0) hR hD hL hH heb htn he0 he1 he2 he3 hfit hcb hpc hpc1 hpc2 hpcb hcode hx0 hx1 hdec ?_).mono ?_
    · intro W E h1 h2 hbW hX
      have hX' := hX
      obtain ⟨e0, e1, e2, e3, e4, e5, e6, e7, e8, e9, e10, f6, f7, f8, f10⟩ := hX
      have hSE : S < E := by omega
      have rA : W.cell? ⟨S, 1 + a, none⟩ = some (.int .i32 (s.r.getD a 0)) := (hbW.cell (p := ⟨S, 1 + a, none⟩) hS).trans (hst.reg a ha)
      have rB : W.cell? ⟨S, 1 + b, none⟩ = some (.int .i32 (s.r.getD b 0)) := (hbW.cell (p := ⟨S, 1 + b, none⟩) hS).trans (hst.reg b hb)
      have rC : W.cell? ⟨S, 1 + c, none⟩ = some (.int .i32 (s.r.getD c 0)) := (hbW.cell (p := ⟨S, 1 + c, none⟩) hS).trans (hst.reg c hc)
      have fA : ∀ k, W.frozen? ⟨S, k, none⟩ = false := fun k => (hbW.frozen (p := ⟨S, k, none⟩) hS).trans (hst.frozen k)
      have pC : W.cell? ⟨S, 0, none⟩ = some (.int .i64 pc) := (hbW.cell (p := ⟨S, 0, none⟩) hS).trans hPC
      have hH' : W.cell? ⟨S, 19, none⟩ = some (.int .i64 s.held) := (hbW.cell (p := ⟨S, 19, none⟩) hS).trans hH
      have hL' : W.cell? ⟨S, 18, none⟩ = some (.bool false) := (hbW.cell (p := ⟨S, 18, none⟩) hS).trans hL
      have hD' : W.cell? ⟨S, 17, none⟩ = some (.slice dp s.d.length dcap) := (hbW.cell (p := ⟨S, 17, none⟩) hS).trans hD
      have vA := hr32 a
      have vB := hr32 b
      have vC := hr32 c
      have hOW : OTab W := hO.below hbW hOw
      have kE : ∀ k, (W.setCell pa pval).cell? ⟨E, k, none⟩ = W.cell? ⟨E, k, none⟩ := fun k => World.cell?_setCell_other _ _ _ _ (by intro e; rw [e] at hpw; simp at hpw; omega)
      have kS : (W.setCell pa pval).cell? ⟨S, 0, none⟩ = W.cell? ⟨S, 0, none⟩ := World.cell?_setCell_other _ _ _ _ (by intro e; rw [e] at hpS; exact hpS rfl)
      refine ⟨_, setW (((W.setCell pa pval)).setCell ⟨E, 8, none⟩ (.int .i32 inp)) S a inp, prep_in_st E S a b c i pc ((pc : Int) + 1) q.lk (s.r.getD a 0) (s.r.getD b 0) (s.r.getD c 0) inp mv mv W pf pcaps pa pval e0 e1 e2 e3 e4 e5 e6 e7 e8 e9 e10 f6 f7 f8 f10 hSE h2 ha rA (fA _) (by omega) hpS (by omega) hent (fun W' hW' => hcall W' (below_then hbW hW' (Nat.le_of_lt (by omega)))), hX'.done (fun k _ => (setW_E hSE).trans ((cellE (by omega)).trans (kE k))) ((setW_E hSE).trans ((cellE (by omega)).trans ((kE 6).trans e6))) ((setW_E hSE).trans ((cellE (by omega)).trans ((kE 7).trans e7))) ((setW_E hSE).trans (cellS ((kE 8).trans e8))) ((setW_E hSE).trans ((cellE (by omega)).trans ((kE 10).trans e10))), setW_below (bSet h1 (bBoth hbW)), (setW_size.trans szS).trans szS, setW_pc.trans ((cellB (by omega)).trans (kS.trans pC)), setW_fr.trans (frS.trans (frS.trans (fA 0))), fun k hk hkE => (setW_heap (by omega)).trans ((Below.heap_setCell _ _ _ _ (by show k ≠ E; omega)).trans (Below.heap_setCell _ _ _ _ (by omega)))⟩
    · rintro e w' ⟨rfl, hbw⟩
      refine ⟨rfl, ?_⟩
      rw [hpcs, if_pos rfl]; exact step_done hbw hS ((Kept.refl _ _).setW (.inl rfl)) szS (setW_size.trans szS) ((hst.other (fun e => hpS e) _).setW a ha _) ((hd.other hpd _).setW hdS) ((hm.other hpm _).setW hmS) hdS hmS

end Go.Proofs.YtpachmkklppmjaaDoor
