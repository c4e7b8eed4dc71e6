import Derived.Test.YtdfofelchjpioaaDoorCorM
import Derived.Test.YtdfofelchjpioaaDoorCorE
import Derived.Test.YtdfofelchjpioaaDoorCorF
import Derived.Test.YtdfofelchjpioaaDoorCorG
import Derived.Test.YtdfofelchjpioaaDoorCorH
import Derived.Test.YtdfofelchjpioaaDoorCorI
import Derived.Test.YtdfofelchjpioaaDoorCorJ
import Derived.Test.YtdfofelchjpioaaDoorCorK
import Derived.Test.YtdfofelchjpioaaDoorCorL
set_option linter.unusedVariables false
set_option linter.unusedSimpArgs false
namespace Go.Proofs.YtdfofelchjpioaaDoor
open Go.RowKit

theorem setW_E {W : World} {S a E k : Nat} {v : Int} (h : S < E) : (setW W S a v).cell? ⟨E, k, none⟩ = W.cell? ⟨E, k, none⟩ := by
  unfold setW; split
  · rfl
  · exact World.cell?_setCell_other _ _ _ _ (by intro e; injection e with e1 e2; omega)
theorem setW_pc {W : World} {S a : Nat} {v : Int} : (setW W S a v).cell? ⟨S, 0, none⟩ = W.cell? ⟨S, 0, none⟩ := by
  unfold setW; split
  · rfl
  · exact World.cell?_setCell_other _ _ _ _ (by intro e; injection e with e1 e2; omega)
theorem setW_fr {W : World} {S a : Nat} {v : Int} {p : Addr} : (setW W S a v).frozen? p = W.frozen? p := by
  unfold setW; split
  · rfl
  · simp [go_sem]
theorem setW_size {W : World} {S a : Nat} {v : Int} : (setW W S a v).heap.size = W.heap.size := by
  unfold setW; split
  · rfl
  · simp [World.setCell]
theorem setW_heap {W : World} {S a k : Nat} {v : Int} (h : k ≠ S) : (setW W S a v).heap[k]? = W.heap[k]? := by
  unfold setW; split
  · rfl
  · exact Below.heap_setCell _ _ _ _ h
theorem setW_below {B : Nat} {w W : World} {S a : Nat} {v : Int} (h : Below B w W) : Below B (setW w S a v) (setW W S a v) := by
  unfold setW; split
  · exact h
  · exact bBoth h
theorem StAt.setW {w : World} {S : Nat} {s : St} {dv : Value} (h : StAt w S s dv) (a : Nat) (ha : a < 16) (v : Int) : StAt (setW w S a v) S { s with r := if a = 0 then s.r else s.r.set a v } dv := by
  unfold Go.Proofs.YtdfofelchjpioaaDoor.setW; split
  · exact h
  · exact h.setReg a ha v
theorem MemAt.setW {w : World} {u : Value} {xs : List Int} (h : MemAt w u xs) {S a : Nat} {v : Int} (hS : u.ownBlock ≠ some S) : MemAt (setW w S a v) u xs := by
  unfold Go.Proofs.YtdfofelchjpioaaDoor.setW; split
  · exact h
  · exact h.other hS _
theorem Kept.setW {F : Nat → Prop} {w X : World} (h : Kept F w X) {S a : Nat} {v : Int} (hS : F S) : Kept F w (setW X S a v) := by
  unfold Go.Proofs.YtdfofelchjpioaaDoor.setW; split
  · exact h
  · exact h.setCell hS _
theorem MemAt.below {B : Nat} {w w' : World} {v : Value} {xs : List Int} (h : MemAt w v xs) (hb : Below B w w') (hB : w.heap.size ≤ B) : MemAt w' v xs := by
  obtain ⟨p, cap, rfl, h⟩ := h
  refine ⟨p, cap, rfl, ?_⟩
  rcases h with h | ⟨m, pre, post, rfl, h⟩
  · exact .inl h
  · exact .inr ⟨m, pre, post, rfl, h.below hb (Nat.lt_of_lt_of_le h.lt hB)⟩

theorem ExAt.done {W ST : World} {E n a b c : Nat} {i : Int} {pc S : Nat} {tk : Bool} {ad vl nx : Int} (hX : ExAt W E n a b c i pc S) (hs : ∀ k, k < 6 → ST.cell? ⟨E, k, none⟩ = W.cell? ⟨E, k, none⟩)
    (h6 : ST.cell? ⟨E, 6, none⟩ = some (.bool tk)) (h7 : ST.cell? ⟨E, 7, none⟩ = some (.int .i64 ad)) (h8 : ST.cell? ⟨E, 8, none⟩ = some (.int .i32 vl)) (h10 : ST.cell? ⟨E, 10, none⟩ = some (.int .i64 nx)) : ExDone ST E n a b c i pc tk ad vl nx :=
  ⟨(hs 0 (by omega)).trans hX.e0, (hs 1 (by omega)).trans hX.e1, (hs 2 (by omega)).trans hX.e2, (hs 3 (by omega)).trans hX.e3, (hs 4 (by omega)).trans hX.e4, (hs 5 (by omega)).trans hX.e5, h6, h7, h8, h10⟩

theorem step_done {w STW w' X : World} {S : Nat} {dv mv : Value} {s : St} {d mem : List Int} {nx : Int} (hb : Below w.heap.size (STW.setCell ⟨S, 0, none⟩ (.int .i64 nx)) w') (hS : S < w.heap.size) (hk : Kept (OwnF S dv mv) X STW) (hXs : X.heap.size = w.heap.size) (hz : STW.heap.size = w.heap.size)
    (hs : StAt STW S s dv) (hd : MemAt STW dv d) (hm : MemAt STW mv mem) (hdS : dv.ownBlock ≠ some S) (hmS : mv.ownBlock ≠ some S) :
    Kept (OwnF S dv mv) X w' ∧ StAt w' S { s with pc := nx } dv ∧ MemAt w' dv d ∧ MemAt w' mv mem :=
  have hz' : (STW.setCell ⟨S, 0, none⟩ (.int .i64 nx)).heap.size ≤ w.heap.size := by simp [World.setCell, hz]
  ⟨(hk.setCell (p := ⟨S, 0, none⟩) (.inl rfl) _).then (hXs ▸ hb), (hs.setPc nx).below hb hS, (hd.other (p := ⟨S, 0, none⟩) hdS _).below hb hz', (hm.other (p := ⟨S, 0, none⟩) hmS _).below hb hz'⟩

structure ImN where
  cb : Nat
  co : Nat
  nC : Nat
  ccap : Nat
  eb : Nat
  eo : Nat
  nE : Nat
  ecap : Nat
  sh : Int
  lk : Int
  st : Int
  fin : Int
  nm : ByteArray
def ImN.val (q : ImN) : Value := .agg #[.slice (some ⟨q.cb, q.co, none⟩) q.nC q.ccap, .slice (some ⟨q.eb, q.eo, none⟩) q.nE q.ecap, .int .i64 q.sh, .int .i64 q.lk]

structure Ready (w : World) (q : ImN) (t S : Nat) (s : St) (dv mv : Value) (mem : List Int) (pc : Nat) (x : Int) : Prop where
  tab : Tab w
  otab : OTab w
  stAt : StAt w S s dv
  dAt : MemAt w dv s.d
  mAt : MemAt w mv mem
  dS : dv.ownBlock ≠ some S
  mS : mv.ownBlock ≠ some S
  dm : ∀ m, dv.ownBlock = some m → mv.ownBlock ≠ some m
  r0 : s.r.getD 0 0 = 0
  r32 : ∀ k, W32 (s.r.getD k 0)
  fit : s.held = -1 ∨ (0 ≤ s.held ∧ s.held < q.lk)
  alive : s.halted = false
  eb : q.eb < w.heap.size
  tn : t < q.nE
  e0 : w.cell? ⟨q.eb, q.eo + t * 4, none⟩ = some (.string q.nm)
  e1 : w.cell? ⟨q.eb, q.eo + t * 4 + 1, none⟩ = some (.int .i64 q.st)
  e2 : w.cell? ⟨q.eb, q.eo + t * 4 + 2, none⟩ = some (.int .i64 q.fin)
  e3 : w.cell? ⟨q.eb, q.eo + t * 4 + 3, none⟩ = some (.int .i64 s.d.length)
  cb : q.cb < w.heap.size
  pcn : pc < q.nC
  pc1 : q.st ≤ pc
  pc2 : (pc : Int) < q.fin
  pcb : pc ≤ 140737488351232
  pcs : s.pc = pc
  code : w.cell? ⟨q.cb, q.co + pc, none⟩ = some (.int .u32 x)
  x0 : 0 ≤ x
  x1 : x < 4294967296

theorem cellE {W : World} {E j k : Nat} {v : Value} (h : j ≠ k) : (W.setCell ⟨E, k, none⟩ v).cell? ⟨E, j, none⟩ = W.cell? ⟨E, j, none⟩ := World.cell?_setCell_other _ _ _ _ (by intro e; injection e with e1 e2; exact h e2.symm)
theorem cellB {W : World} {E B j k : Nat} {v : Value} (h : B ≠ E) : (W.setCell ⟨E, k, none⟩ v).cell? ⟨B, j, none⟩ = W.cell? ⟨B, j, none⟩ := World.cell?_setCell_other _ _ _ _ (by intro e; injection e with e1 e2; exact h e1.symm)
theorem cellS {W : World} {E k : Nat} {u v : Value} (h : W.cell? ⟨E, k, none⟩ = some u) : (W.setCell ⟨E, k, none⟩ v).cell? ⟨E, k, none⟩ = some v := World.cell?_setCell_same _ _ _ h
theorem frS {W : World} {p q : Addr} {v : Value} : (W.setCell p v).frozen? q = W.frozen? q := by simp [go_sem]
theorem szS {W : World} {p : Addr} {v : Value} : (W.setCell p v).heap.size = W.heap.size := by simp [World.setCell]

theorem stepI_nop (q : ImN) (t S a b c pc : Nat) (s : St) (dv mv pv : Value) (mem : List Int) (x i inp : Int) (PW : World → World) (w : World) (R : Ready w q t S s dv mv mem pc x) (hdec : decV x = .tuple #[.agg #[.int .u8 0, .int .i64 a, .int .i64 b, .int .i64 c, .int .i64 i], .int .i64 0]) (ha : a < 16) (hb : b < 16) (hc : c < 16) (hi : -131072 ≤ i) (hi1 : i ≤ 131071)  :
    Calls Tryd.prog 7 #[q.val, .int .i64 (t : Nat), .pointer (some ⟨S, 0, none⟩), mv, pv] w (StepPost w S dv mv PW 0 a b c i pc (stepI q.lk 0 a b c i s mem inp)) := by
  obtain ⟨hT, hO, hst, hd, hm, hdS, hmS, hdm, hr0, hr32, hfit, hal, heb, htn, he0, he1, he2, he3, hcb, hpc, hpc1, hpc2, hpcb, hpcs, hcode, hx0, hx1⟩ := R
  obtain ⟨dp, dcap, hdv⟩ := hd.shape
  have hS := hst.lt
  have hPC := hst.pc
  rw [hpcs] at hPC
  have hR : w.cell? ⟨S, 1, none⟩ = some (.int .i32 0) := by have h := hst.reg 0 (by omega); rw [hr0] at h; exact h
  have hD := hst.d
  rw [hdv] at hD
  have hL := hst.halted
  rw [hal] at hL
  have hH := hst.held
  have hOw : 1 < w.heap.size := hO.1
  have hstep : stepI q.lk 0 a b c i s mem inp = .ok ({ s with pc := s.pc + 1 }, mem, false, -1, 0) := by simp [stepI, -List.getD_eq_getElem?_getD]
  rw [hstep]
  refine (step_ok q.cb q.co q.nC q.ccap q.eb q.eo q.nE q.ecap t S pc s.d.length dcap 0 a b c q.sh q.lk q.st q.fin s.held x i q.nm dp mv pv w (w) false (-1) 0 ((pc : Int) + 1) hT hS hPC (hst.frozen 0) hR hD hL hH heb htn he0 he1 he2 he3 hfit hcb hpc hpc1 hpc2 hpcb hcode hx0 hx1 hdec ?_).mono ?_
  · intro W E h1 h2 hbW hX
    have hX' := hX
    obtain ⟨e0, e1, e2, e3, e4, e5, e6, e7, e8, e9, e10, f6, f7, f8, f10⟩ := hX
    have hSE : S < E := by omega
    have rA : W.cell? ⟨S, 1 + a, none⟩ = some (.int .i32 (s.r.getD a 0)) := (hbW.cell (p := ⟨S, 1 + a, none⟩) hS).trans (hst.reg a ha)
    have rB : W.cell? ⟨S, 1 + b, none⟩ = some (.int .i32 (s.r.getD b 0)) := (hbW.cell (p := ⟨S, 1 + b, none⟩) hS).trans (hst.reg b hb)
    have rC : W.cell? ⟨S, 1 + c, none⟩ = some (.int .i32 (s.r.getD c 0)) := (hbW.cell (p := ⟨S, 1 + c, none⟩) hS).trans (hst.reg c hc)
    have fA : ∀ k, W.frozen? ⟨S, k, none⟩ = false := fun k => (hbW.frozen (p := ⟨S, k, none⟩) hS).trans (hst.frozen k)
    have pC : W.cell? ⟨S, 0, none⟩ = some (.int .i64 pc) := (hbW.cell (p := ⟨S, 0, none⟩) hS).trans hPC
    have hH' : W.cell? ⟨S, 19, none⟩ = some (.int .i64 s.held) := (hbW.cell (p := ⟨S, 19, none⟩) hS).trans hH
    have hL' : W.cell? ⟨S, 18, none⟩ = some (.bool false) := (hbW.cell (p := ⟨S, 18, none⟩) hS).trans hL
    have hD' : W.cell? ⟨S, 17, none⟩ = some (.slice dp s.d.length dcap) := (hbW.cell (p := ⟨S, 17, none⟩) hS).trans hD
    have vA := hr32 a
    have vB := hr32 b
    have vC := hr32 c
    have hOW : OTab W := hO.below hbW hOw
    refine ⟨_, W, prep_nop E S a b c i pc ((pc : Int) + 1) q.lk (s.r.getD a 0) (s.r.getD b 0) (s.r.getD c 0) mv pv W e0 e1 e2 e3 e4 e5 e6 e7 e8 e9 e10 f6 f7 f8 f10 hSE h2, hX'.done (fun k _ => rfl) e6 e7 e8 e10, hbW, rfl, pC, fA 0, fun k _ _ => rfl⟩
  · rintro e w' ⟨rfl, hbw⟩
    refine ⟨rfl, ?_⟩
    rw [hpcs]; exact step_done hbw hS (Kept.refl _ _) rfl rfl hst hd hm hdS hmS

theorem stepI_li (q : ImN) (t S a b c pc : Nat) (s : St) (dv mv pv : Value) (mem : List Int) (x i inp : Int) (PW : World → World) (w : World) (R : Ready w q t S s dv mv mem pc x) (hdec : decV x = .tuple #[.agg #[.int .u8 14, .int .i64 a, .int .i64 b, .int .i64 c, .int .i64 i], .int .i64 0]) (ha : a < 16) (hb : b < 16) (hc : c < 16) (hi : -131072 ≤ i) (hi1 : i ≤ 131071)  :
    Calls Tryd.prog 7 #[q.val, .int .i64 (t : Nat), .pointer (some ⟨S, 0, none⟩), mv, pv] w (StepPost w S dv mv PW 14 a b c i pc (stepI q.lk 14 a b c i s mem inp)) := by
  obtain ⟨hT, hO, hst, hd, hm, hdS, hmS, hdm, hr0, hr32, hfit, hal, heb, htn, he0, he1, he2, he3, hcb, hpc, hpc1, hpc2, hpcb, hpcs, hcode, hx0, hx1⟩ := R
  obtain ⟨dp, dcap, hdv⟩ := hd.shape
  have hS := hst.lt
  have hPC := hst.pc
  rw [hpcs] at hPC
  have hR : w.cell? ⟨S, 1, none⟩ = some (.int .i32 0) := by have h := hst.reg 0 (by omega); rw [hr0] at h; exact h
  have hD := hst.d
  rw [hdv] at hD
  have hL := hst.halted
  rw [hal] at hL
  have hH := hst.held
  have hOw : 1 < w.heap.size := hO.1
  have hstep : stepI q.lk 14 a b c i s mem inp = .ok ({ s with pc := s.pc + 1, r := if a = 0 then s.r else s.r.set a (i) }, mem, false, -1, 0) := by simp [stepI, -List.getD_eq_getElem?_getD]
  rw [hstep]
  refine (step_ok q.cb q.co q.nC q.ccap q.eb q.eo q.nE q.ecap t S pc s.d.length dcap 14 a b c q.sh q.lk q.st q.fin s.held x i q.nm dp mv pv w (setW w S a (i)) false (-1) 0 ((pc : Int) + 1) hT hS hPC (hst.frozen 0) hR hD hL hH heb htn he0 he1 he2 he3 hfit hcb hpc hpc1 hpc2 hpcb hcode hx0 hx1 hdec ?_).mono ?_
  · intro W E h1 h2 hbW hX
    have hX' := hX
    obtain ⟨e0, e1, e2, e3, e4, e5, e6, e7, e8, e9, e10, f6, f7, f8, f10⟩ := hX
    have hSE : S < E := by omega
    have rA : W.cell? ⟨S, 1 + a, none⟩ = some (.int .i32 (s.r.getD a 0)) := (hbW.cell (p := ⟨S, 1 + a, none⟩) hS).trans (hst.reg a ha)
    have rB : W.cell? ⟨S, 1 + b, none⟩ = some (.int .i32 (s.r.getD b 0)) := (hbW.cell (p := ⟨S, 1 + b, none⟩) hS).trans (hst.reg b hb)
    have rC : W.cell? ⟨S, 1 + c, none⟩ = some (.int .i32 (s.r.getD c 0)) := (hbW.cell (p := ⟨S, 1 + c, none⟩) hS).trans (hst.reg c hc)
    have fA : ∀ k, W.frozen? ⟨S, k, none⟩ = false := fun k => (hbW.frozen (p := ⟨S, k, none⟩) hS).trans (hst.frozen k)
    have pC : W.cell? ⟨S, 0, none⟩ = some (.int .i64 pc) := (hbW.cell (p := ⟨S, 0, none⟩) hS).trans hPC
    have hH' : W.cell? ⟨S, 19, none⟩ = some (.int .i64 s.held) := (hbW.cell (p := ⟨S, 19, none⟩) hS).trans hH
    have hL' : W.cell? ⟨S, 18, none⟩ = some (.bool false) := (hbW.cell (p := ⟨S, 18, none⟩) hS).trans hL
    have hD' : W.cell? ⟨S, 17, none⟩ = some (.slice dp s.d.length dcap) := (hbW.cell (p := ⟨S, 17, none⟩) hS).trans hD
    have vA := hr32 a
    have vB := hr32 b
    have vC := hr32 c
    have hOW : OTab W := hO.below hbW hOw
    refine ⟨_, setW W S a (i), prep_li E S a b c i pc ((pc : Int) + 1) q.lk (s.r.getD a 0) (s.r.getD b 0) (s.r.getD c 0) mv pv W e0 e1 e2 e3 e4 e5 e6 e7 e8 e9 e10 f6 f7 f8 f10 hSE h2 ha rA (fA _) hi hi1, hX'.done (fun k _ => setW_E hSE) ((setW_E hSE).trans e6) ((setW_E hSE).trans e7) ((setW_E hSE).trans e8) ((setW_E hSE).trans e10), setW_below hbW, setW_size, setW_pc.trans pC, setW_fr.trans (fA 0), fun k hk hkE => setW_heap (by omega)⟩
  · rintro e w' ⟨rfl, hbw⟩
    refine ⟨rfl, ?_⟩
    rw [hpcs]; exact step_done hbw hS ((Kept.refl _ _).setW (.inl rfl)) rfl setW_size (hst.setW a ha _) (hd.setW hdS) (hm.setW hmS) hdS hmS

theorem stepI_addi (q : ImN) (t S a b c pc : Nat) (s : St) (dv mv pv : Value) (mem : List Int) (x i inp : Int) (PW : World → World) (w : World) (R : Ready w q t S s dv mv mem pc x) (hdec : decV x = .tuple #[.agg #[.int .u8 15, .int .i64 a, .int .i64 b, .int .i64 c, .int .i64 i], .int .i64 0]) (ha : a < 16) (hb : b < 16) (hc : c < 16) (hi : -131072 ≤ i) (hi1 : i ≤ 131071)  :
    Calls Tryd.prog 7 #[q.val, .int .i64 (t : Nat), .pointer (some ⟨S, 0, none⟩), mv, pv] w (StepPost w S dv mv PW 15 a b c i pc (stepI q.lk 15 a b c i s mem inp)) := by
  obtain ⟨hT, hO, hst, hd, hm, hdS, hmS, hdm, hr0, hr32, hfit, hal, heb, htn, he0, he1, he2, he3, hcb, hpc, hpc1, hpc2, hpcb, hpcs, hcode, hx0, hx1⟩ := R
  obtain ⟨dp, dcap, hdv⟩ := hd.shape
  have hS := hst.lt
  have hPC := hst.pc
  rw [hpcs] at hPC
  have hR : w.cell? ⟨S, 1, none⟩ = some (.int .i32 0) := by have h := hst.reg 0 (by omega); rw [hr0] at h; exact h
  have hD := hst.d
  rw [hdv] at hD
  have hL := hst.halted
  rw [hal] at hL
  have hH := hst.held
  have hOw : 1 < w.heap.size := hO.1
  have hstep : stepI q.lk 15 a b c i s mem inp = .ok ({ s with pc := s.pc + 1, r := if a = 0 then s.r else s.r.set a (wrap32 (s.r.getD b 0 + i)) }, mem, false, -1, 0) := by simp [stepI, -List.getD_eq_getElem?_getD]
  rw [hstep]
  refine (step_ok q.cb q.co q.nC q.ccap q.eb q.eo q.nE q.ecap t S pc s.d.length dcap 15 a b c q.sh q.lk q.st q.fin s.held x i q.nm dp mv pv w (setW w S a (wrap32 (s.r.getD b 0 + i))) false (-1) 0 ((pc : Int) + 1) hT hS hPC (hst.frozen 0) hR hD hL hH heb htn he0 he1 he2 he3 hfit hcb hpc hpc1 hpc2 hpcb hcode hx0 hx1 hdec ?_).mono ?_
  · intro W E h1 h2 hbW hX
    have hX' := hX
    obtain ⟨e0, e1, e2, e3, e4, e5, e6, e7, e8, e9, e10, f6, f7, f8, f10⟩ := hX
    have hSE : S < E := by omega
    have rA : W.cell? ⟨S, 1 + a, none⟩ = some (.int .i32 (s.r.getD a 0)) := (hbW.cell (p := ⟨S, 1 + a, none⟩) hS).trans (hst.reg a ha)
    have rB : W.cell? ⟨S, 1 + b, none⟩ = some (.int .i32 (s.r.getD b 0)) := (hbW.cell (p := ⟨S, 1 + b, none⟩) hS).trans (hst.reg b hb)
    have rC : W.cell? ⟨S, 1 + c, none⟩ = some (.int .i32 (s.r.getD c 0)) := (hbW.cell (p := ⟨S, 1 + c, none⟩) hS).trans (hst.reg c hc)
    have fA : ∀ k, W.frozen? ⟨S, k, none⟩ = false := fun k => (hbW.frozen (p := ⟨S, k, none⟩) hS).trans (hst.frozen k)
    have pC : W.cell? ⟨S, 0, none⟩ = some (.int .i64 pc) := (hbW.cell (p := ⟨S, 0, none⟩) hS).trans hPC
    have hH' : W.cell? ⟨S, 19, none⟩ = some (.int .i64 s.held) := (hbW.cell (p := ⟨S, 19, none⟩) hS).trans hH
    have hL' : W.cell? ⟨S, 18, none⟩ = some (.bool false) := (hbW.cell (p := ⟨S, 18, none⟩) hS).trans hL
    have hD' : W.cell? ⟨S, 17, none⟩ = some (.slice dp s.d.length dcap) := (hbW.cell (p := ⟨S, 17, none⟩) hS).trans hD
    have vA := hr32 a
    have vB := hr32 b
    have vC := hr32 c
    have hOW : OTab W := hO.below hbW hOw
    refine ⟨_, setW W S a (wrap32 (s.r.getD b 0 + i)), prep_addi E S a b c i pc ((pc : Int) + 1) q.lk (s.r.getD a 0) (s.r.getD b 0) (s.r.getD c 0) mv pv W e0 e1 e2 e3 e4 e5 e6 e7 e8 e9 e10 f6 f7 f8 f10 hSE h2 ha rA (fA _) hb rB vB.1 vB.2 hi hi1, hX'.done (fun k _ => setW_E hSE) ((setW_E hSE).trans e6) ((setW_E hSE).trans e7) ((setW_E hSE).trans e8) ((setW_E hSE).trans e10), setW_below hbW, setW_size, setW_pc.trans pC, setW_fr.trans (fA 0), fun k hk hkE => setW_heap (by omega)⟩
  · rintro e w' ⟨rfl, hbw⟩
    refine ⟨rfl, ?_⟩
    rw [hpcs]; exact step_done hbw hS ((Kept.refl _ _).setW (.inl rfl)) rfl setW_size (hst.setW a ha _) (hd.setW hdS) (hm.setW hmS) hdS hmS

theorem stepI_shli (q : ImN) (t S a b c pc : Nat) (s : St) (dv mv pv : Value) (mem : List Int) (x i inp : Int) (PW : World → World) (w : World) (R : Ready w q t S s dv mv mem pc x) (hdec : decV x = .tuple #[.agg #[.int .u8 16, .int .i64 a, .int .i64 b, .int .i64 c, .int .i64 i], .int .i64 0]) (ha : a < 16) (hb : b < 16) (hc : c < 16) (hi : -131072 ≤ i) (hi1 : i ≤ 131071) (hi0 : 0 ≤ i) (hi31 : i ≤ 31) :
    Calls Tryd.prog 7 #[q.val, .int .i64 (t : Nat), .pointer (some ⟨S, 0, none⟩), mv, pv] w (StepPost w S dv mv PW 16 a b c i pc (stepI q.lk 16 a b c i s mem inp)) := by
  obtain ⟨hT, hO, hst, hd, hm, hdS, hmS, hdm, hr0, hr32, hfit, hal, heb, htn, he0, he1, he2, he3, hcb, hpc, hpc1, hpc2, hpcb, hpcs, hcode, hx0, hx1⟩ := R
  obtain ⟨dp, dcap, hdv⟩ := hd.shape
  have hS := hst.lt
  have hPC := hst.pc
  rw [hpcs] at hPC
  have hR : w.cell? ⟨S, 1, none⟩ = some (.int .i32 0) := by have h := hst.reg 0 (by omega); rw [hr0] at h; exact h
  have hD := hst.d
  rw [hdv] at hD
  have hL := hst.halted
  rw [hal] at hL
  have hH := hst.held
  have hOw : 1 < w.heap.size := hO.1
  have hstep : stepI q.lk 16 a b c i s mem inp = .ok ({ s with pc := s.pc + 1, r := if a = 0 then s.r else s.r.set a (wrap32 (s.r.getD b 0 * 2 ^ i.toNat)) }, mem, false, -1, 0) := by simp [stepI, -List.getD_eq_getElem?_getD]
  rw [hstep]
  refine (step_ok q.cb q.co q.nC q.ccap q.eb q.eo q.nE q.ecap t S pc s.d.length dcap 16 a b c q.sh q.lk q.st q.fin s.held x i q.nm dp mv pv w (setW w S a (wrap32 (s.r.getD b 0 * 2 ^ i.toNat))) false (-1) 0 ((pc : Int) + 1) hT hS hPC (hst.frozen 0) hR hD hL hH heb htn he0 he1 he2 he3 hfit hcb hpc hpc1 hpc2 hpcb hcode hx0 hx1 hdec ?_).mono ?_
  · intro W E h1 h2 hbW hX
    have hX' := hX
    obtain ⟨e0, e1, e2, e3, e4, e5, e6, e7, e8, e9, e10, f6, f7, f8, f10⟩ := hX
    have hSE : S < E := by omega
    have rA : W.cell? ⟨S, 1 + a, none⟩ = some (.int .i32 (s.r.getD a 0)) := (hbW.cell (p := ⟨S, 1 + a, none⟩) hS).trans (hst.reg a ha)
    have rB : W.cell? ⟨S, 1 + b, none⟩ = some (.int .i32 (s.r.getD b 0)) := (hbW.cell (p := ⟨S, 1 + b, none⟩) hS).trans (hst.reg b hb)
    have rC : W.cell? ⟨S, 1 + c, none⟩ = some (.int .i32 (s.r.getD c 0)) := (hbW.cell (p := ⟨S, 1 + c, none⟩) hS).trans (hst.reg c hc)
    have fA : ∀ k, W.frozen? ⟨S, k, none⟩ = false := fun k => (hbW.frozen (p := ⟨S, k, none⟩) hS).trans (hst.frozen k)
    have pC : W.cell? ⟨S, 0, none⟩ = some (.int .i64 pc) := (hbW.cell (p := ⟨S, 0, none⟩) hS).trans hPC
    have hH' : W.cell? ⟨S, 19, none⟩ = some (.int .i64 s.held) := (hbW.cell (p := ⟨S, 19, none⟩) hS).trans hH
    have hL' : W.cell? ⟨S, 18, none⟩ = some (.bool false) := (hbW.cell (p := ⟨S, 18, none⟩) hS).trans hL
    have hD' : W.cell? ⟨S, 17, none⟩ = some (.slice dp s.d.length dcap) := (hbW.cell (p := ⟨S, 17, none⟩) hS).trans hD
    have vA := hr32 a
    have vB := hr32 b
    have vC := hr32 c
    have hOW : OTab W := hO.below hbW hOw
    refine ⟨_, setW W S a (wrap32 (s.r.getD b 0 * 2 ^ i.toNat)), prep_shli E S a b c i pc ((pc : Int) + 1) q.lk (s.r.getD a 0) (s.r.getD b 0) (s.r.getD c 0) mv pv W e0 e1 e2 e3 e4 e5 e6 e7 e8 e9 e10 f6 f7 f8 f10 hSE h2 ha rA (fA _) hb rB vB.1 vB.2 hi hi1 hi0 hi31, hX'.done (fun k _ => setW_E hSE) ((setW_E hSE).trans e6) ((setW_E hSE).trans e7) ((setW_E hSE).trans e8) ((setW_E hSE).trans e10), setW_below hbW, setW_size, setW_pc.trans pC, setW_fr.trans (fA 0), fun k hk hkE => setW_heap (by omega)⟩
  · rintro e w' ⟨rfl, hbw⟩
    refine ⟨rfl, ?_⟩
    rw [hpcs]; exact step_done hbw hS ((Kept.refl _ _).setW (.inl rfl)) rfl setW_size (hst.setW a ha _) (hd.setW hdS) (hm.setW hmS) hdS hmS

theorem stepI_ori (q : ImN) (t S a b c pc : Nat) (s : St) (dv mv pv : Value) (mem : List Int) (x i inp : Int) (PW : World → World) (w : World) (R : Ready w q t S s dv mv mem pc x) (hdec : decV x = .tuple #[.agg #[.int .u8 17, .int .i64 a, .int .i64 b, .int .i64 c, .int .i64 i], .int .i64 0]) (ha : a < 16) (hb : b < 16) (hc : c < 16) (hi : -131072 ≤ i) (hi1 : i ≤ 131071) (hi0 : 0 ≤ i) :
    Calls Tryd.prog 7 #[q.val, .int .i64 (t : Nat), .pointer (some ⟨S, 0, none⟩), mv, pv] w (StepPost w S dv mv PW 17 a b c i pc (stepI q.lk 17 a b c i s mem inp)) := by
  obtain ⟨hT, hO, hst, hd, hm, hdS, hmS, hdm, hr0, hr32, hfit, hal, heb, htn, he0, he1, he2, he3, hcb, hpc, hpc1, hpc2, hpcb, hpcs, hcode, hx0, hx1⟩ := R
  obtain ⟨dp, dcap, hdv⟩ := hd.shape
  have hS := hst.lt
  have hPC := hst.pc
  rw [hpcs] at hPC
  have hR : w.cell? ⟨S, 1, none⟩ = some (.int .i32 0) := by have h := hst.reg 0 (by omega); rw [hr0] at h; exact h
  have hD := hst.d
  rw [hdv] at hD
  have hL := hst.halted
  rw [hal] at hL
  have hH := hst.held
  have hOw : 1 < w.heap.size := hO.1
  have hstep : stepI q.lk 17 a b c i s mem inp = .ok ({ s with pc := s.pc + 1, r := if a = 0 then s.r else s.r.set a (bits .or .i32 (s.r.getD b 0) i) }, mem, false, -1, 0) := by simp [stepI, -List.getD_eq_getElem?_getD]
  rw [hstep]
  refine (step_ok q.cb q.co q.nC q.ccap q.eb q.eo q.nE q.ecap t S pc s.d.length dcap 17 a b c q.sh q.lk q.st q.fin s.held x i q.nm dp mv pv w (setW w S a (bits .or .i32 (s.r.getD b 0) i)) false (-1) 0 ((pc : Int) + 1) hT hS hPC (hst.frozen 0) hR hD hL hH heb htn he0 he1 he2 he3 hfit hcb hpc hpc1 hpc2 hpcb hcode hx0 hx1 hdec ?_).mono ?_
  · intro W E h1 h2 hbW hX
    have hX' := hX
    obtain ⟨e0, e1, e2, e3, e4, e5, e6, e7, e8, e9, e10, f6, f7, f8, f10⟩ := hX
    have hSE : S < E := by omega
    have rA : W.cell? ⟨S, 1 + a, none⟩ = some (.int .i32 (s.r.getD a 0)) := (hbW.cell (p := ⟨S, 1 + a, none⟩) hS).trans (hst.reg a ha)
    have rB : W.cell? ⟨S, 1 + b, none⟩ = some (.int .i32 (s.r.getD b 0)) := (hbW.cell (p := ⟨S, 1 + b, none⟩) hS).trans (hst.reg b hb)
    have rC : W.cell? ⟨S, 1 + c, none⟩ = some (.int .i32 (s.r.getD c 0)) := (hbW.cell (p := ⟨S, 1 + c, none⟩) hS).trans (hst.reg c hc)
    have fA : ∀ k, W.frozen? ⟨S, k, none⟩ = false := fun k => (hbW.frozen (p := ⟨S, k, none⟩) hS).trans (hst.frozen k)
    have pC : W.cell? ⟨S, 0, none⟩ = some (.int .i64 pc) := (hbW.cell (p := ⟨S, 0, none⟩) hS).trans hPC
    have hH' : W.cell? ⟨S, 19, none⟩ = some (.int .i64 s.held) := (hbW.cell (p := ⟨S, 19, none⟩) hS).trans hH
    have hL' : W.cell? ⟨S, 18, none⟩ = some (.bool false) := (hbW.cell (p := ⟨S, 18, none⟩) hS).trans hL
    have hD' : W.cell? ⟨S, 17, none⟩ = some (.slice dp s.d.length dcap) := (hbW.cell (p := ⟨S, 17, none⟩) hS).trans hD
    have vA := hr32 a
    have vB := hr32 b
    have vC := hr32 c
    have hOW : OTab W := hO.below hbW hOw
    refine ⟨_, setW W S a (bits .or .i32 (s.r.getD b 0) i), prep_ori E S a b c i pc ((pc : Int) + 1) q.lk (s.r.getD a 0) (s.r.getD b 0) (s.r.getD c 0) mv pv W e0 e1 e2 e3 e4 e5 e6 e7 e8 e9 e10 f6 f7 f8 f10 hSE h2 ha rA (fA _) hb rB vB.1 vB.2 hi hi1 hi0, hX'.done (fun k _ => setW_E hSE) ((setW_E hSE).trans e6) ((setW_E hSE).trans e7) ((setW_E hSE).trans e8) ((setW_E hSE).trans e10), setW_below hbW, setW_size, setW_pc.trans pC, setW_fr.trans (fA 0), fun k hk hkE => setW_heap (by omega)⟩
  · rintro e w' ⟨rfl, hbw⟩
    refine ⟨rfl, ?_⟩
    rw [hpcs]; exact step_done hbw hS ((Kept.refl _ _).setW (.inl rfl)) rfl setW_size (hst.setW a ha _) (hd.setW hdS) (hm.setW hmS) hdS hmS

theorem stepI_ari (q : ImN) (t S a b c pc : Nat) (s : St) (dv mv pv : Value) (mem : List Int) (x i inp : Int) (PW : World → World) (w : World) (n : Nat) (R : Ready w q t S s dv mv mem pc x) (hdec : decV x = .tuple #[.agg #[.int .u8 n, .int .i64 a, .int .i64 b, .int .i64 c, .int .i64 i], .int .i64 0]) (ha : a < 16) (hb : b < 16) (hc : c < 16) (hi : -131072 ≤ i) (hi1 : i ≤ 131071) (hn : 2 ≤ n) (hn' : n < 14) :
    Calls Tryd.prog 7 #[q.val, .int .i64 (t : Nat), .pointer (some ⟨S, 0, none⟩), mv, pv] w (StepPost w S dv mv PW n a b c i pc (stepI q.lk n a b c i s mem inp)) := by
  obtain ⟨hT, hO, hst, hd, hm, hdS, hmS, hdm, hr0, hr32, hfit, hal, heb, htn, he0, he1, he2, he3, hcb, hpc, hpc1, hpc2, hpcb, hpcs, hcode, hx0, hx1⟩ := R
  obtain ⟨dp, dcap, hdv⟩ := hd.shape
  have hS := hst.lt
  have hPC := hst.pc
  rw [hpcs] at hPC
  have hR : w.cell? ⟨S, 1, none⟩ = some (.int .i32 0) := by have h := hst.reg 0 (by omega); rw [hr0] at h; exact h
  have hD := hst.d
  rw [hdv] at hD
  have hL := hst.halted
  rw [hal] at hL
  have hH := hst.held
  have hOw : 1 < w.heap.size := hO.1
  by_cases hq : ariE n (s.r.getD c 0) = 0
  · have hstep : stepI q.lk n a b c i s mem inp = .ok ({ s with pc := s.pc + 1, r := if a = 0 then s.r else s.r.set a (ariV n (s.r.getD b 0) (s.r.getD c 0)) }, mem, false, -1, 0) := by simp [stepI, show n ≠ 0 by omega, show n ≠ 1 by omega, hn', hq, -List.getD_eq_getElem?_getD]
    rw [hstep]
    refine (step_ok q.cb q.co q.nC q.ccap q.eb q.eo q.nE q.ecap t S pc s.d.length dcap n a b c q.sh q.lk q.st q.fin s.held x i q.nm dp mv pv w (setW w S a (ariV n (s.r.getD b 0) (s.r.getD c 0))) false (-1) 0 ((pc : Int) + 1) hT hS hPC (hst.frozen 0) hR hD hL hH heb htn he0 he1 he2 he3 hfit hcb hpc hpc1 hpc2 hpcb hcode hx0 hx1 hdec ?_).mono ?_
    · intro W E h1 h2 hbW hX
      have hX' := hX
      obtain ⟨e0, e1, e2, e3, e4, e5, e6, e7, e8, e9, e10, f6, f7, f8, f10⟩ := hX
      have hSE : S < E := by omega
      have rA : W.cell? ⟨S, 1 + a, none⟩ = some (.int .i32 (s.r.getD a 0)) := (hbW.cell (p := ⟨S, 1 + a, none⟩) hS).trans (hst.reg a ha)
      have rB : W.cell? ⟨S, 1 + b, none⟩ = some (.int .i32 (s.r.getD b 0)) := (hbW.cell (p := ⟨S, 1 + b, none⟩) hS).trans (hst.reg b hb)
      have rC : W.cell? ⟨S, 1 + c, none⟩ = some (.int .i32 (s.r.getD c 0)) := (hbW.cell (p := ⟨S, 1 + c, none⟩) hS).trans (hst.reg c hc)
      have fA : ∀ k, W.frozen? ⟨S, k, none⟩ = false := fun k => (hbW.frozen (p := ⟨S, k, none⟩) hS).trans (hst.frozen k)
      have pC : W.cell? ⟨S, 0, none⟩ = some (.int .i64 pc) := (hbW.cell (p := ⟨S, 0, none⟩) hS).trans hPC
      have hH' : W.cell? ⟨S, 19, none⟩ = some (.int .i64 s.held) := (hbW.cell (p := ⟨S, 19, none⟩) hS).trans hH
      have hL' : W.cell? ⟨S, 18, none⟩ = some (.bool false) := (hbW.cell (p := ⟨S, 18, none⟩) hS).trans hL
      have hD' : W.cell? ⟨S, 17, none⟩ = some (.slice dp s.d.length dcap) := (hbW.cell (p := ⟨S, 17, none⟩) hS).trans hD
      have vA := hr32 a
      have vB := hr32 b
      have vC := hr32 c
      have hOW : OTab W := hO.below hbW hOw
      refine ⟨_, setW W S a (ariV n (s.r.getD b 0) (s.r.getD c 0)), (by have h := prep_ari E S a b c n i pc ((pc : Int) + 1) q.lk (s.r.getD a 0) (s.r.getD b 0) (s.r.getD c 0) mv pv W e0 e1 e2 e3 e4 e5 e6 e7 e8 e9 e10 f6 f7 f8 f10 hSE h2 hn hn' (hOW.at n hn hn') hOW.1 ha rA (fA _) hb rB vB.1 vB.2 hc rC vC.1 vC.2; rwa [hq] at h), hX'.done (fun k _ => setW_E hSE) ((setW_E hSE).trans e6) ((setW_E hSE).trans e7) ((setW_E hSE).trans e8) ((setW_E hSE).trans e10), setW_below hbW, setW_size, setW_pc.trans pC, setW_fr.trans (fA 0), fun k hk hkE => setW_heap (by omega)⟩
    · rintro e w' ⟨rfl, hbw⟩
      refine ⟨rfl, ?_⟩
      rw [if_neg (by omega)]; rw [hpcs]; exact step_done hbw hS ((Kept.refl _ _).setW (.inl rfl)) rfl setW_size (hst.setW a ha _) (hd.setW hdS) (hm.setW hmS) hdS hmS
  · have hstep : stepI q.lk n a b c i s mem inp = .error (ariE n (s.r.getD c 0)) := by simp [stepI, show n ≠ 0 by omega, show n ≠ 1 by omega, hn', hq, -List.getD_eq_getElem?_getD]
    rw [hstep]
    refine (step_trap q.cb q.co q.nC q.ccap q.eb q.eo q.nE q.ecap t S pc s.d.length dcap n a b c q.sh q.lk q.st q.fin s.held x i q.nm dp mv pv w (ariE n (s.r.getD c 0)) (by simpa using hq) hT hS hPC (hst.frozen 0) hR hD hL hH heb htn he0 he1 he2 he3 hfit hcb hpc hpc1 hpc2 hpcb hcode hx0 hx1 hdec ?_).mono ?_
    · intro W E h1 h2 hbW hX
      have hX' := hX
      obtain ⟨e0, e1, e2, e3, e4, e5, e6, e7, e8, e9, e10, f6, f7, f8, f10⟩ := hX
      have hSE : S < E := by omega
      have rA : W.cell? ⟨S, 1 + a, none⟩ = some (.int .i32 (s.r.getD a 0)) := (hbW.cell (p := ⟨S, 1 + a, none⟩) hS).trans (hst.reg a ha)
      have rB : W.cell? ⟨S, 1 + b, none⟩ = some (.int .i32 (s.r.getD b 0)) := (hbW.cell (p := ⟨S, 1 + b, none⟩) hS).trans (hst.reg b hb)
      have rC : W.cell? ⟨S, 1 + c, none⟩ = some (.int .i32 (s.r.getD c 0)) := (hbW.cell (p := ⟨S, 1 + c, none⟩) hS).trans (hst.reg c hc)
      have fA : ∀ k, W.frozen? ⟨S, k, none⟩ = false := fun k => (hbW.frozen (p := ⟨S, k, none⟩) hS).trans (hst.frozen k)
      have pC : W.cell? ⟨S, 0, none⟩ = some (.int .i64 pc) := (hbW.cell (p := ⟨S, 0, none⟩) hS).trans hPC
      have hH' : W.cell? ⟨S, 19, none⟩ = some (.int .i64 s.held) := (hbW.cell (p := ⟨S, 19, none⟩) hS).trans hH
      have hL' : W.cell? ⟨S, 18, none⟩ = some (.bool false) := (hbW.cell (p := ⟨S, 18, none⟩) hS).trans hL
      have hD' : W.cell? ⟨S, 17, none⟩ = some (.slice dp s.d.length dcap) := (hbW.cell (p := ⟨S, 17, none⟩) hS).trans hD
      have vA := hr32 a
      have vB := hr32 b
      have vC := hr32 c
      have hOW : OTab W := hO.below hbW hOw
      exact (prep_ari E S a b c n i pc ((pc : Int) + 1) q.lk (s.r.getD a 0) (s.r.getD b 0) (s.r.getD c 0) mv pv W e0 e1 e2 e3 e4 e5 e6 e7 e8 e9 e10 f6 f7 f8 f10 hSE h2 hn hn' (hOW.at n hn hn') hOW.1 ha rA (fA _) hb rB vB.1 vB.2 hc rC vC.1 vC.2).mono fun e w' ⟨f, cs, he, hb, _⟩ => ⟨_, he, hb⟩
    · rintro e w' ⟨rfl, hbw⟩
      exact ⟨rfl, hbw⟩

theorem stepI_beqz (q : ImN) (t S a b c pc : Nat) (s : St) (dv mv pv : Value) (mem : List Int) (x i inp : Int) (PW : World → World) (w : World) (R : Ready w q t S s dv mv mem pc x) (hdec : decV x = .tuple #[.agg #[.int .u8 22, .int .i64 a, .int .i64 b, .int .i64 c, .int .i64 i], .int .i64 0]) (ha : a < 16) (hb : b < 16) (hc : c < 16) (hi : -131072 ≤ i) (hi1 : i ≤ 131071)  :
    Calls Tryd.prog 7 #[q.val, .int .i64 (t : Nat), .pointer (some ⟨S, 0, none⟩), mv, pv] w (StepPost w S dv mv PW 22 a b c i pc (stepI q.lk 22 a b c i s mem inp)) := by
  obtain ⟨hT, hO, hst, hd, hm, hdS, hmS, hdm, hr0, hr32, hfit, hal, heb, htn, he0, he1, he2, he3, hcb, hpc, hpc1, hpc2, hpcb, hpcs, hcode, hx0, hx1⟩ := R
  obtain ⟨dp, dcap, hdv⟩ := hd.shape
  have hS := hst.lt
  have hPC := hst.pc
  rw [hpcs] at hPC
  have hR : w.cell? ⟨S, 1, none⟩ = some (.int .i32 0) := by have h := hst.reg 0 (by omega); rw [hr0] at h; exact h
  have hD := hst.d
  rw [hdv] at hD
  have hL := hst.halted
  rw [hal] at hL
  have hH := hst.held
  have hOw : 1 < w.heap.size := hO.1
  by_cases hq : s.r.getD a 0 = 0
  · have hstep : stepI q.lk 22 a b c i s mem inp = .ok ({ s with pc := s.pc + 1 + i }, mem, true, -1, 0) := by simp [stepI, hq, -List.getD_eq_getElem?_getD]
    rw [hstep]
    refine (step_ok q.cb q.co q.nC q.ccap q.eb q.eo q.nE q.ecap t S pc s.d.length dcap 22 a b c q.sh q.lk q.st q.fin s.held x i q.nm dp mv pv w (w) true (-1) 0 ((pc : Int) + 1 + i) hT hS hPC (hst.frozen 0) hR hD hL hH heb htn he0 he1 he2 he3 hfit hcb hpc hpc1 hpc2 hpcb hcode hx0 hx1 hdec ?_).mono ?_
    · intro W E h1 h2 hbW hX
      have hX' := hX
      obtain ⟨e0, e1, e2, e3, e4, e5, e6, e7, e8, e9, e10, f6, f7, f8, f10⟩ := hX
      have hSE : S < E := by omega
      have rA : W.cell? ⟨S, 1 + a, none⟩ = some (.int .i32 (s.r.getD a 0)) := (hbW.cell (p := ⟨S, 1 + a, none⟩) hS).trans (hst.reg a ha)
      have rB : W.cell? ⟨S, 1 + b, none⟩ = some (.int .i32 (s.r.getD b 0)) := (hbW.cell (p := ⟨S, 1 + b, none⟩) hS).trans (hst.reg b hb)
      have rC : W.cell? ⟨S, 1 + c, none⟩ = some (.int .i32 (s.r.getD c 0)) := (hbW.cell (p := ⟨S, 1 + c, none⟩) hS).trans (hst.reg c hc)
      have fA : ∀ k, W.frozen? ⟨S, k, none⟩ = false := fun k => (hbW.frozen (p := ⟨S, k, none⟩) hS).trans (hst.frozen k)
      have pC : W.cell? ⟨S, 0, none⟩ = some (.int .i64 pc) := (hbW.cell (p := ⟨S, 0, none⟩) hS).trans hPC
      have hH' : W.cell? ⟨S, 19, none⟩ = some (.int .i64 s.held) := (hbW.cell (p := ⟨S, 19, none⟩) hS).trans hH
      have hL' : W.cell? ⟨S, 18, none⟩ = some (.bool false) := (hbW.cell (p := ⟨S, 18, none⟩) hS).trans hL
      have hD' : W.cell? ⟨S, 17, none⟩ = some (.slice dp s.d.length dcap) := (hbW.cell (p := ⟨S, 17, none⟩) hS).trans hD
      have vA := hr32 a
      have vB := hr32 b
      have vC := hr32 c
      have hOW : OTab W := hO.below hbW hOw
      refine ⟨_, (W.setCell ⟨E, 6, none⟩ (.bool true)).setCell ⟨E, 10, none⟩ (.int .i64 ((pc : Int) + 1 + i)), prep_beqz_t E S a b c i pc ((pc : Int) + 1) q.lk (s.r.getD a 0) (s.r.getD b 0) (s.r.getD c 0) mv pv W e0 e1 e2 e3 e4 e5 e6 e7 e8 e9 e10 f6 f7 f8 f10 hSE h2 ha hi hi1 (by omega) (by omega) (by rw [rA, hq]), hX'.done (fun k hk => (cellE (by omega)).trans (cellE (by omega))) ((cellE (by omega)).trans (cellS e6)) ((cellE (by omega)).trans ((cellE (by omega)).trans e7)) ((cellE (by omega)).trans ((cellE (by omega)).trans e8)) (cellS ((cellE (by omega)).trans e10)), bSet h1 (bSet h1 hbW), szS.trans szS, (cellB (by omega)).trans ((cellB (by omega)).trans pC), frS.trans (frS.trans (fA 0)), fun k hk hkE => (Below.heap_setCell _ _ _ _ (by show k ≠ E; omega)).trans (Below.heap_setCell _ _ _ _ (by show k ≠ E; omega))⟩
    · rintro e w' ⟨rfl, hbw⟩
      refine ⟨rfl, ?_⟩
      rw [hpcs]; exact step_done hbw hS (Kept.refl _ _) rfl rfl hst hd hm hdS hmS
  · have hstep : stepI q.lk 22 a b c i s mem inp = .ok ({ s with pc := s.pc + 1 }, mem, false, -1, 0) := by simp [stepI, hq, -List.getD_eq_getElem?_getD]
    rw [hstep]
    refine (step_ok q.cb q.co q.nC q.ccap q.eb q.eo q.nE q.ecap t S pc s.d.length dcap 22 a b c q.sh q.lk q.st q.fin s.held x i q.nm dp mv pv w (w) false (-1) 0 ((pc : Int) + 1) hT hS hPC (hst.frozen 0) hR hD hL hH heb htn he0 he1 he2 he3 hfit hcb hpc hpc1 hpc2 hpcb hcode hx0 hx1 hdec ?_).mono ?_
    · intro W E h1 h2 hbW hX
      have hX' := hX
      obtain ⟨e0, e1, e2, e3, e4, e5, e6, e7, e8, e9, e10, f6, f7, f8, f10⟩ := hX
      have hSE : S < E := by omega
      have rA : W.cell? ⟨S, 1 + a, none⟩ = some (.int .i32 (s.r.getD a 0)) := (hbW.cell (p := ⟨S, 1 + a, none⟩) hS).trans (hst.reg a ha)
      have rB : W.cell? ⟨S, 1 + b, none⟩ = some (.int .i32 (s.r.getD b 0)) := (hbW.cell (p := ⟨S, 1 + b, none⟩) hS).trans (hst.reg b hb)
      have rC : W.cell? ⟨S, 1 + c, none⟩ = some (.int .i32 (s.r.getD c 0)) := (hbW.cell (p := ⟨S, 1 + c, none⟩) hS).trans (hst.reg c hc)
      have fA : ∀ k, W.frozen? ⟨S, k, none⟩ = false := fun k => (hbW.frozen (p := ⟨S, k, none⟩) hS).trans (hst.frozen k)
      have pC : W.cell? ⟨S, 0, none⟩ = some (.int .i64 pc) := (hbW.cell (p := ⟨S, 0, none⟩) hS).trans hPC
      have hH' : W.cell? ⟨S, 19, none⟩ = some (.int .i64 s.held) := (hbW.cell (p := ⟨S, 19, none⟩) hS).trans hH
      have hL' : W.cell? ⟨S, 18, none⟩ = some (.bool false) := (hbW.cell (p := ⟨S, 18, none⟩) hS).trans hL
      have hD' : W.cell? ⟨S, 17, none⟩ = some (.slice dp s.d.length dcap) := (hbW.cell (p := ⟨S, 17, none⟩) hS).trans hD
      have vA := hr32 a
      have vB := hr32 b
      have vC := hr32 c
      have hOW : OTab W := hO.below hbW hOw
      refine ⟨_, W.setCell ⟨E, 6, none⟩ (.bool false), prep_beqz_f E S a b c i pc ((pc : Int) + 1) q.lk (s.r.getD a 0) (s.r.getD b 0) (s.r.getD c 0) mv pv W e0 e1 e2 e3 e4 e5 e6 e7 e8 e9 e10 f6 f7 f8 f10 hSE h2 ha hi hi1 (by omega) (by omega) (by simpa using hq) rA, hX'.done (fun k hk => cellE (by omega)) (cellS e6) ((cellE (by omega)).trans e7) ((cellE (by omega)).trans e8) ((cellE (by omega)).trans e10), bSet h1 hbW, szS, (cellB (by omega)).trans pC, frS.trans (fA 0), fun k hk hkE => Below.heap_setCell _ _ _ _ (by show k ≠ E; omega)⟩
    · rintro e w' ⟨rfl, hbw⟩
      refine ⟨rfl, ?_⟩
      rw [hpcs]; exact step_done hbw hS (Kept.refl _ _) rfl rfl hst hd hm hdS hmS

theorem stepI_bnez (q : ImN) (t S a b c pc : Nat) (s : St) (dv mv pv : Value) (mem : List Int) (x i inp : Int) (PW : World → World) (w : World) (R : Ready w q t S s dv mv mem pc x) (hdec : decV x = .tuple #[.agg #[.int .u8 23, .int .i64 a, .int .i64 b, .int .i64 c, .int .i64 i], .int .i64 0]) (ha : a < 16) (hb : b < 16) (hc : c < 16) (hi : -131072 ≤ i) (hi1 : i ≤ 131071)  :
    Calls Tryd.prog 7 #[q.val, .int .i64 (t : Nat), .pointer (some ⟨S, 0, none⟩), mv, pv] w (StepPost w S dv mv PW 23 a b c i pc (stepI q.lk 23 a b c i s mem inp)) := by
  obtain ⟨hT, hO, hst, hd, hm, hdS, hmS, hdm, hr0, hr32, hfit, hal, heb, htn, he0, he1, he2, he3, hcb, hpc, hpc1, hpc2, hpcb, hpcs, hcode, hx0, hx1⟩ := R
  obtain ⟨dp, dcap, hdv⟩ := hd.shape
  have hS := hst.lt
  have hPC := hst.pc
  rw [hpcs] at hPC
  have hR : w.cell? ⟨S, 1, none⟩ = some (.int .i32 0) := by have h := hst.reg 0 (by omega); rw [hr0] at h; exact h
  have hD := hst.d
  rw [hdv] at hD
  have hL := hst.halted
  rw [hal] at hL
  have hH := hst.held
  have hOw : 1 < w.heap.size := hO.1
  by_cases hq : s.r.getD a 0 = 0
  · have hstep : stepI q.lk 23 a b c i s mem inp = .ok ({ s with pc := s.pc + 1 }, mem, false, -1, 0) := by simp [stepI, hq, -List.getD_eq_getElem?_getD]
    rw [hstep]
    refine (step_ok q.cb q.co q.nC q.ccap q.eb q.eo q.nE q.ecap t S pc s.d.length dcap 23 a b c q.sh q.lk q.st q.fin s.held x i q.nm dp mv pv w (w) false (-1) 0 ((pc : Int) + 1) hT hS hPC (hst.frozen 0) hR hD hL hH heb htn he0 he1 he2 he3 hfit hcb hpc hpc1 hpc2 hpcb hcode hx0 hx1 hdec ?_).mono ?_
    · intro W E h1 h2 hbW hX
      have hX' := hX
      obtain ⟨e0, e1, e2, e3, e4, e5, e6, e7, e8, e9, e10, f6, f7, f8, f10⟩ := hX
      have hSE : S < E := by omega
      have rA : W.cell? ⟨S, 1 + a, none⟩ = some (.int .i32 (s.r.getD a 0)) := (hbW.cell (p := ⟨S, 1 + a, none⟩) hS).trans (hst.reg a ha)
      have rB : W.cell? ⟨S, 1 + b, none⟩ = some (.int .i32 (s.r.getD b 0)) := (hbW.cell (p := ⟨S, 1 + b, none⟩) hS).trans (hst.reg b hb)
      have rC : W.cell? ⟨S, 1 + c, none⟩ = some (.int .i32 (s.r.getD c 0)) := (hbW.cell (p := ⟨S, 1 + c, none⟩) hS).trans (hst.reg c hc)
      have fA : ∀ k, W.frozen? ⟨S, k, none⟩ = false := fun k => (hbW.frozen (p := ⟨S, k, none⟩) hS).trans (hst.frozen k)
      have pC : W.cell? ⟨S, 0, none⟩ = some (.int .i64 pc) := (hbW.cell (p := ⟨S, 0, none⟩) hS).trans hPC
      have hH' : W.cell? ⟨S, 19, none⟩ = some (.int .i64 s.held) := (hbW.cell (p := ⟨S, 19, none⟩) hS).trans hH
      have hL' : W.cell? ⟨S, 18, none⟩ = some (.bool false) := (hbW.cell (p := ⟨S, 18, none⟩) hS).trans hL
      have hD' : W.cell? ⟨S, 17, none⟩ = some (.slice dp s.d.length dcap) := (hbW.cell (p := ⟨S, 17, none⟩) hS).trans hD
      have vA := hr32 a
      have vB := hr32 b
      have vC := hr32 c
      have hOW : OTab W := hO.below hbW hOw
      refine ⟨_, W.setCell ⟨E, 6, none⟩ (.bool false), prep_bnez_f E S a b c i pc ((pc : Int) + 1) q.lk (s.r.getD a 0) (s.r.getD b 0) (s.r.getD c 0) mv pv W e0 e1 e2 e3 e4 e5 e6 e7 e8 e9 e10 f6 f7 f8 f10 hSE h2 ha hi hi1 (by omega) (by omega) (by rw [rA, hq]), hX'.done (fun k hk => cellE (by omega)) (cellS e6) ((cellE (by omega)).trans e7) ((cellE (by omega)).trans e8) ((cellE (by omega)).trans e10), bSet h1 hbW, szS, (cellB (by omega)).trans pC, frS.trans (fA 0), fun k hk hkE => Below.heap_setCell _ _ _ _ (by show k ≠ E; omega)⟩
    · rintro e w' ⟨rfl, hbw⟩
      refine ⟨rfl, ?_⟩
      rw [hpcs]; exact step_done hbw hS (Kept.refl _ _) rfl rfl hst hd hm hdS hmS
  · have hstep : stepI q.lk 23 a b c i s mem inp = .ok ({ s with pc := s.pc + 1 + i }, mem, true, -1, 0) := by simp [stepI, hq, -List.getD_eq_getElem?_getD]
    rw [hstep]
    refine (step_ok q.cb q.co q.nC q.ccap q.eb q.eo q.nE q.ecap t S pc s.d.length dcap 23 a b c q.sh q.lk q.st q.fin s.held x i q.nm dp mv pv w (w) true (-1) 0 ((pc : Int) + 1 + i) hT hS hPC (hst.frozen 0) hR hD hL hH heb htn he0 he1 he2 he3 hfit hcb hpc hpc1 hpc2 hpcb hcode hx0 hx1 hdec ?_).mono ?_
    · intro W E h1 h2 hbW hX
      have hX' := hX
      obtain ⟨e0, e1, e2, e3, e4, e5, e6, e7, e8, e9, e10, f6, f7, f8, f10⟩ := hX
      have hSE : S < E := by omega
      have rA : W.cell? ⟨S, 1 + a, none⟩ = some (.int .i32 (s.r.getD a 0)) := (hbW.cell (p := ⟨S, 1 + a, none⟩) hS).trans (hst.reg a ha)
      have rB : W.cell? ⟨S, 1 + b, none⟩ = some (.int .i32 (s.r.getD b 0)) := (hbW.cell (p := ⟨S, 1 + b, none⟩) hS).trans (hst.reg b hb)
      have rC : W.cell? ⟨S, 1 + c, none⟩ = some (.int .i32 (s.r.getD c 0)) := (hbW.cell (p := ⟨S, 1 + c, none⟩) hS).trans (hst.reg c hc)
      have fA : ∀ k, W.frozen? ⟨S, k, none⟩ = false := fun k => (hbW.frozen (p := ⟨S, k, none⟩) hS).trans (hst.frozen k)
      have pC : W.cell? ⟨S, 0, none⟩ = some (.int .i64 pc) := (hbW.cell (p := ⟨S, 0, none⟩) hS).trans hPC
      have hH' : W.cell? ⟨S, 19, none⟩ = some (.int .i64 s.held) := (hbW.cell (p := ⟨S, 19, none⟩) hS).trans hH
      have hL' : W.cell? ⟨S, 18, none⟩ = some (.bool false) := (hbW.cell (p := ⟨S, 18, none⟩) hS).trans hL
      have hD' : W.cell? ⟨S, 17, none⟩ = some (.slice dp s.d.length dcap) := (hbW.cell (p := ⟨S, 17, none⟩) hS).trans hD
      have vA := hr32 a
      have vB := hr32 b
      have vC := hr32 c
      have hOW : OTab W := hO.below hbW hOw
      refine ⟨_, (W.setCell ⟨E, 6, none⟩ (.bool true)).setCell ⟨E, 10, none⟩ (.int .i64 ((pc : Int) + 1 + i)), prep_bnez_t E S a b c i pc ((pc : Int) + 1) q.lk (s.r.getD a 0) (s.r.getD b 0) (s.r.getD c 0) mv pv W e0 e1 e2 e3 e4 e5 e6 e7 e8 e9 e10 f6 f7 f8 f10 hSE h2 ha hi hi1 (by omega) (by omega) (by simpa using hq) rA, hX'.done (fun k hk => (cellE (by omega)).trans (cellE (by omega))) ((cellE (by omega)).trans (cellS e6)) ((cellE (by omega)).trans ((cellE (by omega)).trans e7)) ((cellE (by omega)).trans ((cellE (by omega)).trans e8)) (cellS ((cellE (by omega)).trans e10)), bSet h1 (bSet h1 hbW), szS.trans szS, (cellB (by omega)).trans ((cellB (by omega)).trans pC), frS.trans (frS.trans (fA 0)), fun k hk hkE => (Below.heap_setCell _ _ _ _ (by show k ≠ E; omega)).trans (Below.heap_setCell _ _ _ _ (by show k ≠ E; omega))⟩
    · rintro e w' ⟨rfl, hbw⟩
      refine ⟨rfl, ?_⟩
      rw [hpcs]; exact step_done hbw hS (Kept.refl _ _) rfl rfl hst hd hm hdS hmS

theorem stepI_jmp (q : ImN) (t S a b c pc : Nat) (s : St) (dv mv pv : Value) (mem : List Int) (x i inp : Int) (PW : World → World) (w : World) (R : Ready w q t S s dv mv mem pc x) (hdec : decV x = .tuple #[.agg #[.int .u8 24, .int .i64 a, .int .i64 b, .int .i64 c, .int .i64 i], .int .i64 0]) (ha : a < 16) (hb : b < 16) (hc : c < 16) (hi : -131072 ≤ i) (hi1 : i ≤ 131071)  :
    Calls Tryd.prog 7 #[q.val, .int .i64 (t : Nat), .pointer (some ⟨S, 0, none⟩), mv, pv] w (StepPost w S dv mv PW 24 a b c i pc (stepI q.lk 24 a b c i s mem inp)) := by
  obtain ⟨hT, hO, hst, hd, hm, hdS, hmS, hdm, hr0, hr32, hfit, hal, heb, htn, he0, he1, he2, he3, hcb, hpc, hpc1, hpc2, hpcb, hpcs, hcode, hx0, hx1⟩ := R
  obtain ⟨dp, dcap, hdv⟩ := hd.shape
  have hS := hst.lt
  have hPC := hst.pc
  rw [hpcs] at hPC
  have hR : w.cell? ⟨S, 1, none⟩ = some (.int .i32 0) := by have h := hst.reg 0 (by omega); rw [hr0] at h; exact h
  have hD := hst.d
  rw [hdv] at hD
  have hL := hst.halted
  rw [hal] at hL
  have hH := hst.held
  have hOw : 1 < w.heap.size := hO.1
  have hstep : stepI q.lk 24 a b c i s mem inp = .ok ({ s with pc := s.pc + 1 + i }, mem, true, -1, 0) := by simp [stepI, -List.getD_eq_getElem?_getD]
  rw [hstep]
  refine (step_ok q.cb q.co q.nC q.ccap q.eb q.eo q.nE q.ecap t S pc s.d.length dcap 24 a b c q.sh q.lk q.st q.fin s.held x i q.nm dp mv pv w (w) true (-1) 0 ((pc : Int) + 1 + i) hT hS hPC (hst.frozen 0) hR hD hL hH heb htn he0 he1 he2 he3 hfit hcb hpc hpc1 hpc2 hpcb hcode hx0 hx1 hdec ?_).mono ?_
  · intro W E h1 h2 hbW hX
    have hX' := hX
    obtain ⟨e0, e1, e2, e3, e4, e5, e6, e7, e8, e9, e10, f6, f7, f8, f10⟩ := hX
    have hSE : S < E := by omega
    have rA : W.cell? ⟨S, 1 + a, none⟩ = some (.int .i32 (s.r.getD a 0)) := (hbW.cell (p := ⟨S, 1 + a, none⟩) hS).trans (hst.reg a ha)
    have rB : W.cell? ⟨S, 1 + b, none⟩ = some (.int .i32 (s.r.getD b 0)) := (hbW.cell (p := ⟨S, 1 + b, none⟩) hS).trans (hst.reg b hb)
    have rC : W.cell? ⟨S, 1 + c, none⟩ = some (.int .i32 (s.r.getD c 0)) := (hbW.cell (p := ⟨S, 1 + c, none⟩) hS).trans (hst.reg c hc)
    have fA : ∀ k, W.frozen? ⟨S, k, none⟩ = false := fun k => (hbW.frozen (p := ⟨S, k, none⟩) hS).trans (hst.frozen k)
    have pC : W.cell? ⟨S, 0, none⟩ = some (.int .i64 pc) := (hbW.cell (p := ⟨S, 0, none⟩) hS).trans hPC
    have hH' : W.cell? ⟨S, 19, none⟩ = some (.int .i64 s.held) := (hbW.cell (p := ⟨S, 19, none⟩) hS).trans hH
    have hL' : W.cell? ⟨S, 18, none⟩ = some (.bool false) := (hbW.cell (p := ⟨S, 18, none⟩) hS).trans hL
    have hD' : W.cell? ⟨S, 17, none⟩ = some (.slice dp s.d.length dcap) := (hbW.cell (p := ⟨S, 17, none⟩) hS).trans hD
    have vA := hr32 a
    have vB := hr32 b
    have vC := hr32 c
    have hOW : OTab W := hO.below hbW hOw
    refine ⟨_, (W.setCell ⟨E, 6, none⟩ (.bool true)).setCell ⟨E, 10, none⟩ (.int .i64 ((pc : Int) + 1 + i)), prep_jmp E S a b c i pc ((pc : Int) + 1) q.lk (s.r.getD a 0) (s.r.getD b 0) (s.r.getD c 0) mv pv W e0 e1 e2 e3 e4 e5 e6 e7 e8 e9 e10 f6 f7 f8 f10 hSE h2 ha hi hi1 (by omega) (by omega) rA, hX'.done (fun k hk => (cellE (by omega)).trans (cellE (by omega))) ((cellE (by omega)).trans (cellS e6)) ((cellE (by omega)).trans ((cellE (by omega)).trans e7)) ((cellE (by omega)).trans ((cellE (by omega)).trans e8)) (cellS ((cellE (by omega)).trans e10)), bSet h1 (bSet h1 hbW), szS.trans szS, (cellB (by omega)).trans ((cellB (by omega)).trans pC), frS.trans (frS.trans (fA 0)), fun k hk hkE => (Below.heap_setCell _ _ _ _ (by show k ≠ E; omega)).trans (Below.heap_setCell _ _ _ _ (by show k ≠ E; omega))⟩
  · rintro e w' ⟨rfl, hbw⟩
    refine ⟨rfl, ?_⟩
    rw [hpcs]; exact step_done hbw hS (Kept.refl _ _) rfl rfl hst hd hm hdS hmS

theorem stepI_bound (q : ImN) (t S a b c pc : Nat) (s : St) (dv mv pv : Value) (mem : List Int) (x i inp : Int) (PW : World → World) (w : World) (R : Ready w q t S s dv mv mem pc x) (hdec : decV x = .tuple #[.agg #[.int .u8 25, .int .i64 a, .int .i64 b, .int .i64 c, .int .i64 i], .int .i64 0]) (ha : a < 16) (hb : b < 16) (hc : c < 16) (hi : -131072 ≤ i) (hi1 : i ≤ 131071)  :
    Calls Tryd.prog 7 #[q.val, .int .i64 (t : Nat), .pointer (some ⟨S, 0, none⟩), mv, pv] w (StepPost w S dv mv PW 25 a b c i pc (stepI q.lk 25 a b c i s mem inp)) := by
  obtain ⟨hT, hO, hst, hd, hm, hdS, hmS, hdm, hr0, hr32, hfit, hal, heb, htn, he0, he1, he2, he3, hcb, hpc, hpc1, hpc2, hpcb, hpcs, hcode, hx0, hx1⟩ := R
  obtain ⟨dp, dcap, hdv⟩ := hd.shape
  have hS := hst.lt
  have hPC := hst.pc
  rw [hpcs] at hPC
  have hR : w.cell? ⟨S, 1, none⟩ = some (.int .i32 0) := by have h := hst.reg 0 (by omega); rw [hr0] at h; exact h
  have hD := hst.d
  rw [hdv] at hD
  have hL := hst.halted
  rw [hal] at hL
  have hH := hst.held
  have hOw : 1 < w.heap.size := hO.1
  by_cases hq : 0 ≤ s.r.getD a 0 ∧ s.r.getD a 0 < i
  · have hstep : stepI q.lk 25 a b c i s mem inp = .ok ({ s with pc := s.pc + 1 }, mem, false, -1, 0) := by simp [stepI, hq, -List.getD_eq_getElem?_getD]
    rw [hstep]
    refine (step_ok q.cb q.co q.nC q.ccap q.eb q.eo q.nE q.ecap t S pc s.d.length dcap 25 a b c q.sh q.lk q.st q.fin s.held x i q.nm dp mv pv w (w) false (-1) 0 ((pc : Int) + 1) hT hS hPC (hst.frozen 0) hR hD hL hH heb htn he0 he1 he2 he3 hfit hcb hpc hpc1 hpc2 hpcb hcode hx0 hx1 hdec ?_).mono ?_
    · intro W E h1 h2 hbW hX
      have hX' := hX
      obtain ⟨e0, e1, e2, e3, e4, e5, e6, e7, e8, e9, e10, f6, f7, f8, f10⟩ := hX
      have hSE : S < E := by omega
      have rA : W.cell? ⟨S, 1 + a, none⟩ = some (.int .i32 (s.r.getD a 0)) := (hbW.cell (p := ⟨S, 1 + a, none⟩) hS).trans (hst.reg a ha)
      have rB : W.cell? ⟨S, 1 + b, none⟩ = some (.int .i32 (s.r.getD b 0)) := (hbW.cell (p := ⟨S, 1 + b, none⟩) hS).trans (hst.reg b hb)
      have rC : W.cell? ⟨S, 1 + c, none⟩ = some (.int .i32 (s.r.getD c 0)) := (hbW.cell (p := ⟨S, 1 + c, none⟩) hS).trans (hst.reg c hc)
      have fA : ∀ k, W.frozen? ⟨S, k, none⟩ = false := fun k => (hbW.frozen (p := ⟨S, k, none⟩) hS).trans (hst.frozen k)
      have pC : W.cell? ⟨S, 0, none⟩ = some (.int .i64 pc) := (hbW.cell (p := ⟨S, 0, none⟩) hS).trans hPC
      have hH' : W.cell? ⟨S, 19, none⟩ = some (.int .i64 s.held) := (hbW.cell (p := ⟨S, 19, none⟩) hS).trans hH
      have hL' : W.cell? ⟨S, 18, none⟩ = some (.bool false) := (hbW.cell (p := ⟨S, 18, none⟩) hS).trans hL
      have hD' : W.cell? ⟨S, 17, none⟩ = some (.slice dp s.d.length dcap) := (hbW.cell (p := ⟨S, 17, none⟩) hS).trans hD
      have vA := hr32 a
      have vB := hr32 b
      have vC := hr32 c
      have hOW : OTab W := hO.below hbW hOw
      refine ⟨_, W, prep_bound_ok E S a b c i pc ((pc : Int) + 1) q.lk (s.r.getD a 0) (s.r.getD b 0) (s.r.getD c 0) mv pv W e0 e1 e2 e3 e4 e5 e6 e7 e8 e9 e10 f6 f7 f8 f10 hSE h2 ha rA vA.1 vA.2 hq.1 (by simpa using hq.1) hq.2 (by simpa using hq.2), hX'.done (fun k _ => rfl) e6 e7 e8 e10, hbW, rfl, pC, fA 0, fun k _ _ => rfl⟩
    · rintro e w' ⟨rfl, hbw⟩
      refine ⟨rfl, ?_⟩
      rw [hpcs]; exact step_done hbw hS (Kept.refl _ _) rfl rfl hst hd hm hdS hmS
  · by_cases hn : s.r.getD a 0 < 0
    · have hstep : stepI q.lk 25 a b c i s mem inp = .error 11 := by simp [stepI, hq, -List.getD_eq_getElem?_getD]
      rw [hstep]
      refine (step_trap q.cb q.co q.nC q.ccap q.eb q.eo q.nE q.ecap t S pc s.d.length dcap 25 a b c q.sh q.lk q.st q.fin s.held x i q.nm dp mv pv w 11 (by decide) hT hS hPC (hst.frozen 0) hR hD hL hH heb htn he0 he1 he2 he3 hfit hcb hpc hpc1 hpc2 hpcb hcode hx0 hx1 hdec ?_).mono ?_
      · intro W E h1 h2 hbW hX
        have hX' := hX
        obtain ⟨e0, e1, e2, e3, e4, e5, e6, e7, e8, e9, e10, f6, f7, f8, f10⟩ := hX
        have hSE : S < E := by omega
        have rA : W.cell? ⟨S, 1 + a, none⟩ = some (.int .i32 (s.r.getD a 0)) := (hbW.cell (p := ⟨S, 1 + a, none⟩) hS).trans (hst.reg a ha)
        have rB : W.cell? ⟨S, 1 + b, none⟩ = some (.int .i32 (s.r.getD b 0)) := (hbW.cell (p := ⟨S, 1 + b, none⟩) hS).trans (hst.reg b hb)
        have rC : W.cell? ⟨S, 1 + c, none⟩ = some (.int .i32 (s.r.getD c 0)) := (hbW.cell (p := ⟨S, 1 + c, none⟩) hS).trans (hst.reg c hc)
        have fA : ∀ k, W.frozen? ⟨S, k, none⟩ = false := fun k => (hbW.frozen (p := ⟨S, k, none⟩) hS).trans (hst.frozen k)
        have pC : W.cell? ⟨S, 0, none⟩ = some (.int .i64 pc) := (hbW.cell (p := ⟨S, 0, none⟩) hS).trans hPC
        have hH' : W.cell? ⟨S, 19, none⟩ = some (.int .i64 s.held) := (hbW.cell (p := ⟨S, 19, none⟩) hS).trans hH
        have hL' : W.cell? ⟨S, 18, none⟩ = some (.bool false) := (hbW.cell (p := ⟨S, 18, none⟩) hS).trans hL
        have hD' : W.cell? ⟨S, 17, none⟩ = some (.slice dp s.d.length dcap) := (hbW.cell (p := ⟨S, 17, none⟩) hS).trans hD
        have vA := hr32 a
        have vB := hr32 b
        have vC := hr32 c
        have hOW : OTab W := hO.below hbW hOw
        exact (prep_bound_neg E S a b c i pc ((pc : Int) + 1) q.lk (s.r.getD a 0) (s.r.getD b 0) (s.r.getD c 0) mv pv W e0 e1 e2 e3 e4 e5 e6 e7 e8 e9 e10 f6 f7 f8 f10 hSE h2 ha rA vA.1 vA.2 hn (by simpa using hn)).mono fun e w' ⟨he, hb⟩ => ⟨_, he, hb⟩
      · rintro e w' ⟨rfl, hbw⟩
        exact ⟨rfl, hbw⟩
    · have hstep : stepI q.lk 25 a b c i s mem inp = .error 11 := by simp [stepI, hq, -List.getD_eq_getElem?_getD]
      rw [hstep]
      refine (step_trap q.cb q.co q.nC q.ccap q.eb q.eo q.nE q.ecap t S pc s.d.length dcap 25 a b c q.sh q.lk q.st q.fin s.held x i q.nm dp mv pv w 11 (by decide) hT hS hPC (hst.frozen 0) hR hD hL hH heb htn he0 he1 he2 he3 hfit hcb hpc hpc1 hpc2 hpcb hcode hx0 hx1 hdec ?_).mono ?_
      · intro W E h1 h2 hbW hX
        have hX' := hX
        obtain ⟨e0, e1, e2, e3, e4, e5, e6, e7, e8, e9, e10, f6, f7, f8, f10⟩ := hX
        have hSE : S < E := by omega
        have rA : W.cell? ⟨S, 1 + a, none⟩ = some (.int .i32 (s.r.getD a 0)) := (hbW.cell (p := ⟨S, 1 + a, none⟩) hS).trans (hst.reg a ha)
        have rB : W.cell? ⟨S, 1 + b, none⟩ = some (.int .i32 (s.r.getD b 0)) := (hbW.cell (p := ⟨S, 1 + b, none⟩) hS).trans (hst.reg b hb)
        have rC : W.cell? ⟨S, 1 + c, none⟩ = some (.int .i32 (s.r.getD c 0)) := (hbW.cell (p := ⟨S, 1 + c, none⟩) hS).trans (hst.reg c hc)
        have fA : ∀ k, W.frozen? ⟨S, k, none⟩ = false := fun k => (hbW.frozen (p := ⟨S, k, none⟩) hS).trans (hst.frozen k)
        have pC : W.cell? ⟨S, 0, none⟩ = some (.int .i64 pc) := (hbW.cell (p := ⟨S, 0, none⟩) hS).trans hPC
        have hH' : W.cell? ⟨S, 19, none⟩ = some (.int .i64 s.held) := (hbW.cell (p := ⟨S, 19, none⟩) hS).trans hH
        have hL' : W.cell? ⟨S, 18, none⟩ = some (.bool false) := (hbW.cell (p := ⟨S, 18, none⟩) hS).trans hL
        have hD' : W.cell? ⟨S, 17, none⟩ = some (.slice dp s.d.length dcap) := (hbW.cell (p := ⟨S, 17, none⟩) hS).trans hD
        have vA := hr32 a
        have vB := hr32 b
        have vC := hr32 c
        have hOW : OTab W := hO.below hbW hOw
        exact (prep_bound_over E S a b c i pc ((pc : Int) + 1) q.lk (s.r.getD a 0) (s.r.getD b 0) (s.r.getD c 0) mv pv W e0 e1 e2 e3 e4 e5 e6 e7 e8 e9 e10 f6 f7 f8 f10 hSE h2 ha rA vA.1 vA.2 (by omega) (decide_eq_false (by omega)) (by omega) (decide_eq_true (by omega))).mono fun e w' ⟨he, hb⟩ => ⟨_, he, hb⟩
      · rintro e w' ⟨rfl, hbw⟩
        exact ⟨rfl, hbw⟩

theorem stepI_out (q : ImN) (t S a b c pc : Nat) (s : St) (dv mv pv : Value) (mem : List Int) (x i inp : Int) (PW : World → World) (w : World) (R : Ready w q t S s dv mv mem pc x) (hdec : decV x = .tuple #[.agg #[.int .u8 27, .int .i64 a, .int .i64 b, .int .i64 c, .int .i64 i], .int .i64 0]) (ha : a < 16) (hb : b < 16) (hc : c < 16) (hi : -131072 ≤ i) (hi1 : i ≤ 131071)  :
    Calls Tryd.prog 7 #[q.val, .int .i64 (t : Nat), .pointer (some ⟨S, 0, none⟩), mv, pv] w (StepPost w S dv mv PW 27 a b c i pc (stepI q.lk 27 a b c i s mem inp)) := by
  obtain ⟨hT, hO, hst, hd, hm, hdS, hmS, hdm, hr0, hr32, hfit, hal, heb, htn, he0, he1, he2, he3, hcb, hpc, hpc1, hpc2, hpcb, hpcs, hcode, hx0, hx1⟩ := R
  obtain ⟨dp, dcap, hdv⟩ := hd.shape
  have hS := hst.lt
  have hPC := hst.pc
  rw [hpcs] at hPC
  have hR : w.cell? ⟨S, 1, none⟩ = some (.int .i32 0) := by have h := hst.reg 0 (by omega); rw [hr0] at h; exact h
  have hD := hst.d
  rw [hdv] at hD
  have hL := hst.halted
  rw [hal] at hL
  have hH := hst.held
  have hOw : 1 < w.heap.size := hO.1
  have hstep : stepI q.lk 27 a b c i s mem inp = .ok ({ s with pc := s.pc + 1 }, mem, false, -1, s.r.getD a 0) := by simp [stepI, -List.getD_eq_getElem?_getD]
  rw [hstep]
  refine (step_ok q.cb q.co q.nC q.ccap q.eb q.eo q.nE q.ecap t S pc s.d.length dcap 27 a b c q.sh q.lk q.st q.fin s.held x i q.nm dp mv pv w (w) false (-1) (s.r.getD a 0) ((pc : Int) + 1) hT hS hPC (hst.frozen 0) hR hD hL hH heb htn he0 he1 he2 he3 hfit hcb hpc hpc1 hpc2 hpcb hcode hx0 hx1 hdec ?_).mono ?_
  · intro W E h1 h2 hbW hX
    have hX' := hX
    obtain ⟨e0, e1, e2, e3, e4, e5, e6, e7, e8, e9, e10, f6, f7, f8, f10⟩ := hX
    have hSE : S < E := by omega
    have rA : W.cell? ⟨S, 1 + a, none⟩ = some (.int .i32 (s.r.getD a 0)) := (hbW.cell (p := ⟨S, 1 + a, none⟩) hS).trans (hst.reg a ha)
    have rB : W.cell? ⟨S, 1 + b, none⟩ = some (.int .i32 (s.r.getD b 0)) := (hbW.cell (p := ⟨S, 1 + b, none⟩) hS).trans (hst.reg b hb)
    have rC : W.cell? ⟨S, 1 + c, none⟩ = some (.int .i32 (s.r.getD c 0)) := (hbW.cell (p := ⟨S, 1 + c, none⟩) hS).trans (hst.reg c hc)
    have fA : ∀ k, W.frozen? ⟨S, k, none⟩ = false := fun k => (hbW.frozen (p := ⟨S, k, none⟩) hS).trans (hst.frozen k)
    have pC : W.cell? ⟨S, 0, none⟩ = some (.int .i64 pc) := (hbW.cell (p := ⟨S, 0, none⟩) hS).trans hPC
    have hH' : W.cell? ⟨S, 19, none⟩ = some (.int .i64 s.held) := (hbW.cell (p := ⟨S, 19, none⟩) hS).trans hH
    have hL' : W.cell? ⟨S, 18, none⟩ = some (.bool false) := (hbW.cell (p := ⟨S, 18, none⟩) hS).trans hL
    have hD' : W.cell? ⟨S, 17, none⟩ = some (.slice dp s.d.length dcap) := (hbW.cell (p := ⟨S, 17, none⟩) hS).trans hD
    have vA := hr32 a
    have vB := hr32 b
    have vC := hr32 c
    have hOW : OTab W := hO.below hbW hOw
    refine ⟨_, W.setCell ⟨E, 8, none⟩ (.int .i32 (s.r.getD a 0)), prep_out E S a b c i pc ((pc : Int) + 1) q.lk (s.r.getD a 0) (s.r.getD b 0) (s.r.getD c 0) mv pv W e0 e1 e2 e3 e4 e5 e6 e7 e8 e9 e10 f6 f7 f8 f10 hSE h2 ha rA, hX'.done (fun k hk => cellE (by omega)) ((cellE (by omega)).trans e6) ((cellE (by omega)).trans e7) (cellS e8) ((cellE (by omega)).trans e10), bSet h1 hbW, szS, (cellB (by omega)).trans pC, frS.trans (fA 0), fun k hk hkE => Below.heap_setCell _ _ _ _ (by show k ≠ E; omega)⟩
  · rintro e w' ⟨rfl, hbw⟩
    refine ⟨rfl, ?_⟩
    rw [hpcs]; exact step_done hbw hS (Kept.refl _ _) rfl rfl hst hd hm hdS hmS

theorem stepI_lock (q : ImN) (t S a b c pc : Nat) (s : St) (dv mv pv : Value) (mem : List Int) (x i inp : Int) (PW : World → World) (w : World) (R : Ready w q t S s dv mv mem pc x) (hdec : decV x = .tuple #[.agg #[.int .u8 28, .int .i64 a, .int .i64 b, .int .i64 c, .int .i64 i], .int .i64 0]) (ha : a < 16) (hb : b < 16) (hc : c < 16) (hi : -131072 ≤ i) (hi1 : i ≤ 131071)  :
    Calls Tryd.prog 7 #[q.val, .int .i64 (t : Nat), .pointer (some ⟨S, 0, none⟩), mv, pv] w (StepPost w S dv mv PW 28 a b c i pc (stepI q.lk 28 a b c i s mem inp)) := by
  obtain ⟨hT, hO, hst, hd, hm, hdS, hmS, hdm, hr0, hr32, hfit, hal, heb, htn, he0, he1, he2, he3, hcb, hpc, hpc1, hpc2, hpcb, hpcs, hcode, hx0, hx1⟩ := R
  obtain ⟨dp, dcap, hdv⟩ := hd.shape
  have hS := hst.lt
  have hPC := hst.pc
  rw [hpcs] at hPC
  have hR : w.cell? ⟨S, 1, none⟩ = some (.int .i32 0) := by have h := hst.reg 0 (by omega); rw [hr0] at h; exact h
  have hD := hst.d
  rw [hdv] at hD
  have hL := hst.halted
  rw [hal] at hL
  have hH := hst.held
  have hOw : 1 < w.heap.size := hO.1
  by_cases hq : 0 ≤ s.held ∨ q.lk ≤ i
  · by_cases hn : 0 ≤ s.held
    · have hstep : stepI q.lk 28 a b c i s mem inp = .error 12 := by simp [stepI, hq, -List.getD_eq_getElem?_getD]
      rw [hstep]
      refine (step_trap q.cb q.co q.nC q.ccap q.eb q.eo q.nE q.ecap t S pc s.d.length dcap 28 a b c q.sh q.lk q.st q.fin s.held x i q.nm dp mv pv w 12 (by decide) hT hS hPC (hst.frozen 0) hR hD hL hH heb htn he0 he1 he2 he3 hfit hcb hpc hpc1 hpc2 hpcb hcode hx0 hx1 hdec ?_).mono ?_
      · intro W E h1 h2 hbW hX
        have hX' := hX
        obtain ⟨e0, e1, e2, e3, e4, e5, e6, e7, e8, e9, e10, f6, f7, f8, f10⟩ := hX
        have hSE : S < E := by omega
        have rA : W.cell? ⟨S, 1 + a, none⟩ = some (.int .i32 (s.r.getD a 0)) := (hbW.cell (p := ⟨S, 1 + a, none⟩) hS).trans (hst.reg a ha)
        have rB : W.cell? ⟨S, 1 + b, none⟩ = some (.int .i32 (s.r.getD b 0)) := (hbW.cell (p := ⟨S, 1 + b, none⟩) hS).trans (hst.reg b hb)
        have rC : W.cell? ⟨S, 1 + c, none⟩ = some (.int .i32 (s.r.getD c 0)) := (hbW.cell (p := ⟨S, 1 + c, none⟩) hS).trans (hst.reg c hc)
        have fA : ∀ k, W.frozen? ⟨S, k, none⟩ = false := fun k => (hbW.frozen (p := ⟨S, k, none⟩) hS).trans (hst.frozen k)
        have pC : W.cell? ⟨S, 0, none⟩ = some (.int .i64 pc) := (hbW.cell (p := ⟨S, 0, none⟩) hS).trans hPC
        have hH' : W.cell? ⟨S, 19, none⟩ = some (.int .i64 s.held) := (hbW.cell (p := ⟨S, 19, none⟩) hS).trans hH
        have hL' : W.cell? ⟨S, 18, none⟩ = some (.bool false) := (hbW.cell (p := ⟨S, 18, none⟩) hS).trans hL
        have hD' : W.cell? ⟨S, 17, none⟩ = some (.slice dp s.d.length dcap) := (hbW.cell (p := ⟨S, 17, none⟩) hS).trans hD
        have vA := hr32 a
        have vB := hr32 b
        have vC := hr32 c
        have hOW : OTab W := hO.below hbW hOw
        exact (prep_lock_held E S a b c i pc ((pc : Int) + 1) q.lk (s.r.getD a 0) (s.r.getD b 0) (s.r.getD c 0) s.held mv pv W e0 e1 e2 e3 e4 e5 e6 e7 e8 e9 e10 f6 f7 f8 f10 hSE h2 hn hH' (fA _)).mono fun e w' ⟨he, hb⟩ => ⟨_, he, hb⟩
      · rintro e w' ⟨rfl, hbw⟩
        exact ⟨rfl, hbw⟩
    · have hstep : stepI q.lk 28 a b c i s mem inp = .error 12 := by simp [stepI, hq, -List.getD_eq_getElem?_getD]
      rw [hstep]
      refine (step_trap q.cb q.co q.nC q.ccap q.eb q.eo q.nE q.ecap t S pc s.d.length dcap 28 a b c q.sh q.lk q.st q.fin s.held x i q.nm dp mv pv w 12 (by decide) hT hS hPC (hst.frozen 0) hR hD hL hH heb htn he0 he1 he2 he3 hfit hcb hpc hpc1 hpc2 hpcb hcode hx0 hx1 hdec ?_).mono ?_
      · intro W E h1 h2 hbW hX
        have hX' := hX
        obtain ⟨e0, e1, e2, e3, e4, e5, e6, e7, e8, e9, e10, f6, f7, f8, f10⟩ := hX
        have hSE : S < E := by omega
        have rA : W.cell? ⟨S, 1 + a, none⟩ = some (.int .i32 (s.r.getD a 0)) := (hbW.cell (p := ⟨S, 1 + a, none⟩) hS).trans (hst.reg a ha)
        have rB : W.cell? ⟨S, 1 + b, none⟩ = some (.int .i32 (s.r.getD b 0)) := (hbW.cell (p := ⟨S, 1 + b, none⟩) hS).trans (hst.reg b hb)
        have rC : W.cell? ⟨S, 1 + c, none⟩ = some (.int .i32 (s.r.getD c 0)) := (hbW.cell (p := ⟨S, 1 + c, none⟩) hS).trans (hst.reg c hc)
        have fA : ∀ k, W.frozen? ⟨S, k, none⟩ = false := fun k => (hbW.frozen (p := ⟨S, k, none⟩) hS).trans (hst.frozen k)
        have pC : W.cell? ⟨S, 0, none⟩ = some (.int .i64 pc) := (hbW.cell (p := ⟨S, 0, none⟩) hS).trans hPC
        have hH' : W.cell? ⟨S, 19, none⟩ = some (.int .i64 s.held) := (hbW.cell (p := ⟨S, 19, none⟩) hS).trans hH
        have hL' : W.cell? ⟨S, 18, none⟩ = some (.bool false) := (hbW.cell (p := ⟨S, 18, none⟩) hS).trans hL
        have hD' : W.cell? ⟨S, 17, none⟩ = some (.slice dp s.d.length dcap) := (hbW.cell (p := ⟨S, 17, none⟩) hS).trans hD
        have vA := hr32 a
        have vB := hr32 b
        have vC := hr32 c
        have hOW : OTab W := hO.below hbW hOw
        exact (prep_lock_many E S a b c i pc ((pc : Int) + 1) q.lk (s.r.getD a 0) (s.r.getD b 0) (s.r.getD c 0) s.held mv pv W e0 e1 e2 e3 e4 e5 e6 e7 e8 e9 e10 f6 f7 f8 f10 hSE h2 (by omega) (by omega) hH' (fA _)).mono fun e w' ⟨he, hb⟩ => ⟨_, he, hb⟩
      · rintro e w' ⟨rfl, hbw⟩
        exact ⟨rfl, hbw⟩
  · have hstep : stepI q.lk 28 a b c i s mem inp = .ok ({ s with pc := s.pc + 1, held := i }, mem, false, -1, 0) := by simp [stepI, hq, -List.getD_eq_getElem?_getD]
    rw [hstep]
    refine (step_ok q.cb q.co q.nC q.ccap q.eb q.eo q.nE q.ecap t S pc s.d.length dcap 28 a b c q.sh q.lk q.st q.fin s.held x i q.nm dp mv pv w (w.setCell ⟨S, 19, none⟩ (.int .i64 i)) false (-1) 0 ((pc : Int) + 1) hT hS hPC (hst.frozen 0) hR hD hL hH heb htn he0 he1 he2 he3 hfit hcb hpc hpc1 hpc2 hpcb hcode hx0 hx1 hdec ?_).mono ?_
    · intro W E h1 h2 hbW hX
      have hX' := hX
      obtain ⟨e0, e1, e2, e3, e4, e5, e6, e7, e8, e9, e10, f6, f7, f8, f10⟩ := hX
      have hSE : S < E := by omega
      have rA : W.cell? ⟨S, 1 + a, none⟩ = some (.int .i32 (s.r.getD a 0)) := (hbW.cell (p := ⟨S, 1 + a, none⟩) hS).trans (hst.reg a ha)
      have rB : W.cell? ⟨S, 1 + b, none⟩ = some (.int .i32 (s.r.getD b 0)) := (hbW.cell (p := ⟨S, 1 + b, none⟩) hS).trans (hst.reg b hb)
      have rC : W.cell? ⟨S, 1 + c, none⟩ = some (.int .i32 (s.r.getD c 0)) := (hbW.cell (p := ⟨S, 1 + c, none⟩) hS).trans (hst.reg c hc)
      have fA : ∀ k, W.frozen? ⟨S, k, none⟩ = false := fun k => (hbW.frozen (p := ⟨S, k, none⟩) hS).trans (hst.frozen k)
      have pC : W.cell? ⟨S, 0, none⟩ = some (.int .i64 pc) := (hbW.cell (p := ⟨S, 0, none⟩) hS).trans hPC
      have hH' : W.cell? ⟨S, 19, none⟩ = some (.int .i64 s.held) := (hbW.cell (p := ⟨S, 19, none⟩) hS).trans hH
      have hL' : W.cell? ⟨S, 18, none⟩ = some (.bool false) := (hbW.cell (p := ⟨S, 18, none⟩) hS).trans hL
      have hD' : W.cell? ⟨S, 17, none⟩ = some (.slice dp s.d.length dcap) := (hbW.cell (p := ⟨S, 17, none⟩) hS).trans hD
      have vA := hr32 a
      have vB := hr32 b
      have vC := hr32 c
      have hOW : OTab W := hO.below hbW hOw
      refine ⟨_, W.setCell ⟨S, 19, none⟩ (.int .i64 i), prep_lock_ok E S a b c i pc ((pc : Int) + 1) q.lk (s.r.getD a 0) (s.r.getD b 0) (s.r.getD c 0) s.held mv pv W e0 e1 e2 e3 e4 e5 e6 e7 e8 e9 e10 f6 f7 f8 f10 hSE h2 (by omega) (by omega) hH' (fA _), hX'.done (fun k _ => cellB (by omega)) ((cellB (by omega)).trans e6) ((cellB (by omega)).trans e7) ((cellB (by omega)).trans e8) ((cellB (by omega)).trans e10), bBoth hbW, szS, (cellE (by omega)).trans pC, frS.trans (fA 0), fun k hk hkE => Below.heap_setCell _ _ _ _ (by show k ≠ S; omega)⟩
    · rintro e w' ⟨rfl, hbw⟩
      refine ⟨rfl, ?_⟩
      rw [hpcs]; exact step_done hbw hS ((Kept.refl _ _).setCell (p := ⟨S, 19, none⟩) (.inl rfl) _) rfl szS (hst.setHeld i) (hd.other (p := ⟨S, 19, none⟩) hdS _) (hm.other (p := ⟨S, 19, none⟩) hmS _) hdS hmS

theorem stepI_unlock (q : ImN) (t S a b c pc : Nat) (s : St) (dv mv pv : Value) (mem : List Int) (x i inp : Int) (PW : World → World) (w : World) (R : Ready w q t S s dv mv mem pc x) (hdec : decV x = .tuple #[.agg #[.int .u8 29, .int .i64 a, .int .i64 b, .int .i64 c, .int .i64 i], .int .i64 0]) (ha : a < 16) (hb : b < 16) (hc : c < 16) (hi : -131072 ≤ i) (hi1 : i ≤ 131071)  :
    Calls Tryd.prog 7 #[q.val, .int .i64 (t : Nat), .pointer (some ⟨S, 0, none⟩), mv, pv] w (StepPost w S dv mv PW 29 a b c i pc (stepI q.lk 29 a b c i s mem inp)) := by
  obtain ⟨hT, hO, hst, hd, hm, hdS, hmS, hdm, hr0, hr32, hfit, hal, heb, htn, he0, he1, he2, he3, hcb, hpc, hpc1, hpc2, hpcb, hpcs, hcode, hx0, hx1⟩ := R
  obtain ⟨dp, dcap, hdv⟩ := hd.shape
  have hS := hst.lt
  have hPC := hst.pc
  rw [hpcs] at hPC
  have hR : w.cell? ⟨S, 1, none⟩ = some (.int .i32 0) := by have h := hst.reg 0 (by omega); rw [hr0] at h; exact h
  have hD := hst.d
  rw [hdv] at hD
  have hL := hst.halted
  rw [hal] at hL
  have hH := hst.held
  have hOw : 1 < w.heap.size := hO.1
  by_cases hq : s.held = i
  · have hstep : stepI q.lk 29 a b c i s mem inp = .ok ({ s with pc := s.pc + 1, held := -1 }, mem, false, -1, 0) := by simp [stepI, hq, -List.getD_eq_getElem?_getD]
    rw [hstep]
    refine (step_ok q.cb q.co q.nC q.ccap q.eb q.eo q.nE q.ecap t S pc s.d.length dcap 29 a b c q.sh q.lk q.st q.fin s.held x i q.nm dp mv pv w (w.setCell ⟨S, 19, none⟩ (.int .i64 (-1))) false (-1) 0 ((pc : Int) + 1) hT hS hPC (hst.frozen 0) hR hD hL hH heb htn he0 he1 he2 he3 hfit hcb hpc hpc1 hpc2 hpcb hcode hx0 hx1 hdec ?_).mono ?_
    · intro W E h1 h2 hbW hX
      have hX' := hX
      obtain ⟨e0, e1, e2, e3, e4, e5, e6, e7, e8, e9, e10, f6, f7, f8, f10⟩ := hX
      have hSE : S < E := by omega
      have rA : W.cell? ⟨S, 1 + a, none⟩ = some (.int .i32 (s.r.getD a 0)) := (hbW.cell (p := ⟨S, 1 + a, none⟩) hS).trans (hst.reg a ha)
      have rB : W.cell? ⟨S, 1 + b, none⟩ = some (.int .i32 (s.r.getD b 0)) := (hbW.cell (p := ⟨S, 1 + b, none⟩) hS).trans (hst.reg b hb)
      have rC : W.cell? ⟨S, 1 + c, none⟩ = some (.int .i32 (s.r.getD c 0)) := (hbW.cell (p := ⟨S, 1 + c, none⟩) hS).trans (hst.reg c hc)
      have fA : ∀ k, W.frozen? ⟨S, k, none⟩ = false := fun k => (hbW.frozen (p := ⟨S, k, none⟩) hS).trans (hst.frozen k)
      have pC : W.cell? ⟨S, 0, none⟩ = some (.int .i64 pc) := (hbW.cell (p := ⟨S, 0, none⟩) hS).trans hPC
      have hH' : W.cell? ⟨S, 19, none⟩ = some (.int .i64 s.held) := (hbW.cell (p := ⟨S, 19, none⟩) hS).trans hH
      have hL' : W.cell? ⟨S, 18, none⟩ = some (.bool false) := (hbW.cell (p := ⟨S, 18, none⟩) hS).trans hL
      have hD' : W.cell? ⟨S, 17, none⟩ = some (.slice dp s.d.length dcap) := (hbW.cell (p := ⟨S, 17, none⟩) hS).trans hD
      have vA := hr32 a
      have vB := hr32 b
      have vC := hr32 c
      have hOW : OTab W := hO.below hbW hOw
      refine ⟨_, W.setCell ⟨S, 19, none⟩ (.int .i64 (-1)), prep_unlock_ok E S a b c i pc ((pc : Int) + 1) q.lk (s.r.getD a 0) (s.r.getD b 0) (s.r.getD c 0) mv pv W e0 e1 e2 e3 e4 e5 e6 e7 e8 e9 e10 f6 f7 f8 f10 hSE h2 (by rw [hH', hq]) (fA _), hX'.done (fun k _ => cellB (by omega)) ((cellB (by omega)).trans e6) ((cellB (by omega)).trans e7) ((cellB (by omega)).trans e8) ((cellB (by omega)).trans e10), bBoth hbW, szS, (cellE (by omega)).trans pC, frS.trans (fA 0), fun k hk hkE => Below.heap_setCell _ _ _ _ (by show k ≠ S; omega)⟩
    · rintro e w' ⟨rfl, hbw⟩
      refine ⟨rfl, ?_⟩
      rw [hpcs]; exact step_done hbw hS ((Kept.refl _ _).setCell (p := ⟨S, 19, none⟩) (.inl rfl) _) rfl szS (hst.setHeld (-1)) (hd.other (p := ⟨S, 19, none⟩) hdS _) (hm.other (p := ⟨S, 19, none⟩) hmS _) hdS hmS
  · have hstep : stepI q.lk 29 a b c i s mem inp = .error 12 := by simp [stepI, hq, -List.getD_eq_getElem?_getD]
    rw [hstep]
    refine (step_trap q.cb q.co q.nC q.ccap q.eb q.eo q.nE q.ecap t S pc s.d.length dcap 29 a b c q.sh q.lk q.st q.fin s.held x i q.nm dp mv pv w 12 (by decide) hT hS hPC (hst.frozen 0) hR hD hL hH heb htn he0 he1 he2 he3 hfit hcb hpc hpc1 hpc2 hpcb hcode hx0 hx1 hdec ?_).mono ?_
    · intro W E h1 h2 hbW hX
      have hX' := hX
      obtain ⟨e0, e1, e2, e3, e4, e5, e6, e7, e8, e9, e10, f6, f7, f8, f10⟩ := hX
      have hSE : S < E := by omega
      have rA : W.cell? ⟨S, 1 + a, none⟩ = some (.int .i32 (s.r.getD a 0)) := (hbW.cell (p := ⟨S, 1 + a, none⟩) hS).trans (hst.reg a ha)
      have rB : W.cell? ⟨S, 1 + b, none⟩ = some (.int .i32 (s.r.getD b 0)) := (hbW.cell (p := ⟨S, 1 + b, none⟩) hS).trans (hst.reg b hb)
      have rC : W.cell? ⟨S, 1 + c, none⟩ = some (.int .i32 (s.r.getD c 0)) := (hbW.cell (p := ⟨S, 1 + c, none⟩) hS).trans (hst.reg c hc)
      have fA : ∀ k, W.frozen? ⟨S, k, none⟩ = false := fun k => (hbW.frozen (p := ⟨S, k, none⟩) hS).trans (hst.frozen k)
      have pC : W.cell? ⟨S, 0, none⟩ = some (.int .i64 pc) := (hbW.cell (p := ⟨S, 0, none⟩) hS).trans hPC
      have hH' : W.cell? ⟨S, 19, none⟩ = some (.int .i64 s.held) := (hbW.cell (p := ⟨S, 19, none⟩) hS).trans hH
      have hL' : W.cell? ⟨S, 18, none⟩ = some (.bool false) := (hbW.cell (p := ⟨S, 18, none⟩) hS).trans hL
      have hD' : W.cell? ⟨S, 17, none⟩ = some (.slice dp s.d.length dcap) := (hbW.cell (p := ⟨S, 17, none⟩) hS).trans hD
      have vA := hr32 a
      have vB := hr32 b
      have vC := hr32 c
      have hOW : OTab W := hO.below hbW hOw
      exact (prep_unlock_bad E S a b c i pc ((pc : Int) + 1) q.lk (s.r.getD a 0) (s.r.getD b 0) (s.r.getD c 0) s.held mv pv W e0 e1 e2 e3 e4 e5 e6 e7 e8 e9 e10 f6 f7 f8 f10 hSE h2 (by simpa using hq) hH' (fA _)).mono fun e w' ⟨he, hb⟩ => ⟨_, he, hb⟩
    · rintro e w' ⟨rfl, hbw⟩
      exact ⟨rfl, hbw⟩

theorem stepI_halt (q : ImN) (t S a b c pc : Nat) (s : St) (dv mv pv : Value) (mem : List Int) (x i inp : Int) (PW : World → World) (w : World) (R : Ready w q t S s dv mv mem pc x) (hdec : decV x = .tuple #[.agg #[.int .u8 1, .int .i64 a, .int .i64 b, .int .i64 c, .int .i64 i], .int .i64 0]) (ha : a < 16) (hb : b < 16) (hc : c < 16) (hi : -131072 ≤ i) (hi1 : i ≤ 131071)  :
    Calls Tryd.prog 7 #[q.val, .int .i64 (t : Nat), .pointer (some ⟨S, 0, none⟩), mv, pv] w (StepPost w S dv mv PW 1 a b c i pc (stepI q.lk 1 a b c i s mem inp)) := by
  obtain ⟨hT, hO, hst, hd, hm, hdS, hmS, hdm, hr0, hr32, hfit, hal, heb, htn, he0, he1, he2, he3, hcb, hpc, hpc1, hpc2, hpcb, hpcs, hcode, hx0, hx1⟩ := R
  obtain ⟨dp, dcap, hdv⟩ := hd.shape
  have hS := hst.lt
  have hPC := hst.pc
  rw [hpcs] at hPC
  have hR : w.cell? ⟨S, 1, none⟩ = some (.int .i32 0) := by have h := hst.reg 0 (by omega); rw [hr0] at h; exact h
  have hD := hst.d
  rw [hdv] at hD
  have hL := hst.halted
  rw [hal] at hL
  have hH := hst.held
  have hOw : 1 < w.heap.size := hO.1
  by_cases hq : 0 ≤ s.held
  · have hstep : stepI q.lk 1 a b c i s mem inp = .error 12 := by simp [stepI, hq, -List.getD_eq_getElem?_getD]
    rw [hstep]
    refine (step_trap q.cb q.co q.nC q.ccap q.eb q.eo q.nE q.ecap t S pc s.d.length dcap 1 a b c q.sh q.lk q.st q.fin s.held x i q.nm dp mv pv w 12 (by decide) hT hS hPC (hst.frozen 0) hR hD hL hH heb htn he0 he1 he2 he3 hfit hcb hpc hpc1 hpc2 hpcb hcode hx0 hx1 hdec ?_).mono ?_
    · intro W E h1 h2 hbW hX
      have hX' := hX
      obtain ⟨e0, e1, e2, e3, e4, e5, e6, e7, e8, e9, e10, f6, f7, f8, f10⟩ := hX
      have hSE : S < E := by omega
      have rA : W.cell? ⟨S, 1 + a, none⟩ = some (.int .i32 (s.r.getD a 0)) := (hbW.cell (p := ⟨S, 1 + a, none⟩) hS).trans (hst.reg a ha)
      have rB : W.cell? ⟨S, 1 + b, none⟩ = some (.int .i32 (s.r.getD b 0)) := (hbW.cell (p := ⟨S, 1 + b, none⟩) hS).trans (hst.reg b hb)
      have rC : W.cell? ⟨S, 1 + c, none⟩ = some (.int .i32 (s.r.getD c 0)) := (hbW.cell (p := ⟨S, 1 + c, none⟩) hS).trans (hst.reg c hc)
      have fA : ∀ k, W.frozen? ⟨S, k, none⟩ = false := fun k => (hbW.frozen (p := ⟨S, k, none⟩) hS).trans (hst.frozen k)
      have pC : W.cell? ⟨S, 0, none⟩ = some (.int .i64 pc) := (hbW.cell (p := ⟨S, 0, none⟩) hS).trans hPC
      have hH' : W.cell? ⟨S, 19, none⟩ = some (.int .i64 s.held) := (hbW.cell (p := ⟨S, 19, none⟩) hS).trans hH
      have hL' : W.cell? ⟨S, 18, none⟩ = some (.bool false) := (hbW.cell (p := ⟨S, 18, none⟩) hS).trans hL
      have hD' : W.cell? ⟨S, 17, none⟩ = some (.slice dp s.d.length dcap) := (hbW.cell (p := ⟨S, 17, none⟩) hS).trans hD
      have vA := hr32 a
      have vB := hr32 b
      have vC := hr32 c
      have hOW : OTab W := hO.below hbW hOw
      exact (prep_halt_bad E S a b c i pc ((pc : Int) + 1) q.lk (s.r.getD a 0) (s.r.getD b 0) (s.r.getD c 0) s.held mv pv W e0 e1 e2 e3 e4 e5 e6 e7 e8 e9 e10 f6 f7 f8 f10 hSE h2 hq hH' (fA _)).mono fun e w' ⟨he, hb⟩ => ⟨_, he, hb⟩
    · rintro e w' ⟨rfl, hbw⟩
      exact ⟨rfl, hbw⟩
  · have hstep : stepI q.lk 1 a b c i s mem inp = .ok ({ s with halted := true }, mem, false, -1, 0) := by simp [stepI, hq, -List.getD_eq_getElem?_getD]
    rw [hstep]
    refine (step_ok q.cb q.co q.nC q.ccap q.eb q.eo q.nE q.ecap t S pc s.d.length dcap 1 a b c q.sh q.lk q.st q.fin s.held x i q.nm dp mv pv w (w.setCell ⟨S, 18, none⟩ (.bool true)) false (-1) 0 (pc : Int) hT hS hPC (hst.frozen 0) hR hD hL hH heb htn he0 he1 he2 he3 hfit hcb hpc hpc1 hpc2 hpcb hcode hx0 hx1 hdec ?_).mono ?_
    · intro W E h1 h2 hbW hX
      have hX' := hX
      obtain ⟨e0, e1, e2, e3, e4, e5, e6, e7, e8, e9, e10, f6, f7, f8, f10⟩ := hX
      have hSE : S < E := by omega
      have rA : W.cell? ⟨S, 1 + a, none⟩ = some (.int .i32 (s.r.getD a 0)) := (hbW.cell (p := ⟨S, 1 + a, none⟩) hS).trans (hst.reg a ha)
      have rB : W.cell? ⟨S, 1 + b, none⟩ = some (.int .i32 (s.r.getD b 0)) := (hbW.cell (p := ⟨S, 1 + b, none⟩) hS).trans (hst.reg b hb)
      have rC : W.cell? ⟨S, 1 + c, none⟩ = some (.int .i32 (s.r.getD c 0)) := (hbW.cell (p := ⟨S, 1 + c, none⟩) hS).trans (hst.reg c hc)
      have fA : ∀ k, W.frozen? ⟨S, k, none⟩ = false := fun k => (hbW.frozen (p := ⟨S, k, none⟩) hS).trans (hst.frozen k)
      have pC : W.cell? ⟨S, 0, none⟩ = some (.int .i64 pc) := (hbW.cell (p := ⟨S, 0, none⟩) hS).trans hPC
      have hH' : W.cell? ⟨S, 19, none⟩ = some (.int .i64 s.held) := (hbW.cell (p := ⟨S, 19, none⟩) hS).trans hH
      have hL' : W.cell? ⟨S, 18, none⟩ = some (.bool false) := (hbW.cell (p := ⟨S, 18, none⟩) hS).trans hL
      have hD' : W.cell? ⟨S, 17, none⟩ = some (.slice dp s.d.length dcap) := (hbW.cell (p := ⟨S, 17, none⟩) hS).trans hD
      have vA := hr32 a
      have vB := hr32 b
      have vC := hr32 c
      have hOW : OTab W := hO.below hbW hOw
      refine ⟨_, (W.setCell ⟨E, 10, none⟩ (.int .i64 pc)).setCell ⟨S, 18, none⟩ (.bool true), prep_halt_ok E S a b c i pc ((pc : Int) + 1) q.lk (s.r.getD a 0) (s.r.getD b 0) (s.r.getD c 0) s.held mv pv W false e0 e1 e2 e3 e4 e5 e6 e7 e8 e9 e10 f6 f7 f8 f10 hSE h2 (by omega) hH' (fA _) hL' (fA _), hX'.done (fun k _ => (cellB (by omega)).trans (cellE (by omega))) ((cellB (by omega)).trans ((cellE (by omega)).trans e6)) ((cellB (by omega)).trans ((cellE (by omega)).trans e7)) ((cellB (by omega)).trans ((cellE (by omega)).trans e8)) ((cellB (by omega)).trans (cellS e10)), bBoth (bSet h1 hbW), szS.trans szS, (cellE (by omega)).trans ((cellB (by omega)).trans pC), frS.trans (frS.trans (fA 0)), fun k hk hkE => (Below.heap_setCell _ _ _ _ (by show k ≠ S; omega)).trans (Below.heap_setCell _ _ _ _ (by show k ≠ E; omega))⟩
    · rintro e w' ⟨rfl, hbw⟩
      refine ⟨rfl, ?_⟩
      have h := step_done hbw hS ((Kept.refl _ _).setCell (p := ⟨S, 18, none⟩) (.inl rfl) _) rfl szS (hst.setHalted true) (hd.other (p := ⟨S, 18, none⟩) hdS _) (hm.other (p := ⟨S, 18, none⟩) hmS _) hdS hmS; rw [← hpcs] at h; exact h

end Go.Proofs.YtdfofelchjpioaaDoor

set_option linter.unusedVariables false
set_option linter.unusedSimpArgs false
namespace Go.Proofs.YtdfofelchjpioaaDoor
open Go.RowKit

theorem slice_parts {p q : Option Addr} {n m c d : Nat} (h : Value.slice p n c = .slice q m d) : p = q ∧ c = d := by injection h with h1 h2 h3; exact ⟨h1, h3⟩

theorem stepI_ld (q : ImN) (t S a b c pc : Nat) (s : St) (dv mv pv : Value) (mem : List Int) (x i inp : Int) (PW : World → World) (w : World) (R : Ready w q t S s dv mv mem pc x) (hdec : decV x = .tuple #[.agg #[.int .u8 18, .int .i64 a, .int .i64 b, .int .i64 c, .int .i64 i], .int .i64 0]) (ha : a < 16) (hb : b < 16) (hc : c < 16) (hi : -131072 ≤ i) (hi1 : i ≤ 131071)  :
    Calls Tryd.prog 7 #[q.val, .int .i64 (t : Nat), .pointer (some ⟨S, 0, none⟩), mv, pv] w (StepPost w S dv mv PW 18 a b c i pc (stepI q.lk 18 a b c i s mem inp)) := by
  obtain ⟨hT, hO, hst, hd, hm, hdS, hmS, hdm, hr0, hr32, hfit, hal, heb, htn, he0, he1, he2, he3, hcb, hpc, hpc1, hpc2, hpcb, hpcs, hcode, hx0, hx1⟩ := R
  obtain ⟨dp, dcap, hdv⟩ := hd.shape
  have hS := hst.lt
  have hPC := hst.pc
  rw [hpcs] at hPC
  have hR : w.cell? ⟨S, 1, none⟩ = some (.int .i32 0) := by have h := hst.reg 0 (by omega); rw [hr0] at h; exact h
  have hD := hst.d
  rw [hdv] at hD
  have hL := hst.halted
  rw [hal] at hL
  have hH := hst.held
  have hOw : 1 < w.heap.size := hO.1
  by_cases hq : 0 ≤ s.r.getD b 0 + i ∧ s.r.getD b 0 + i < s.d.length
  · obtain ⟨k, hk⟩ : ∃ k : Nat, s.r.getD b 0 + i = k := ⟨(s.r.getD b 0 + i).toNat, by omega⟩
    have hkl : k < s.d.length := by omega
    have hkt : (s.r.getD b 0 + i).toNat = k := by omega
    obtain ⟨m, off, cap, hv, hmw, hcell, hfr, hset⟩ := hd.at k hkl
    obtain ⟨rfl, rfl⟩ := slice_parts (hdv.symm.trans hv)
    have hmne : m ≠ S := fun e => hdS (by rw [hv, ← e]; rfl)
    have hstep : stepI q.lk 18 a b c i s mem inp = .ok ({ s with pc := s.pc + 1, r := if a = 0 then s.r else s.r.set a (s.d.getD k 0) }, mem, false, (k : Int), 0) := by simp [stepI, hq, hk, hkt, hkl, -List.getD_eq_getElem?_getD]
    rw [hstep]
    refine (step_ok q.cb q.co q.nC q.ccap q.eb q.eo q.nE q.ecap t S pc s.d.length dcap 18 a b c q.sh q.lk q.st q.fin s.held x i q.nm (some ⟨m, off, none⟩) mv pv w (setW w S a (s.d.getD k 0)) false k 0 ((pc : Int) + 1) hT hS hPC (hst.frozen 0) hR hD hL hH heb htn he0 he1 he2 he3 hfit hcb hpc hpc1 hpc2 hpcb hcode hx0 hx1 hdec ?_).mono ?_
    · intro W E h1 h2 hbW hX
      have hX' := hX
      obtain ⟨e0, e1, e2, e3, e4, e5, e6, e7, e8, e9, e10, f6, f7, f8, f10⟩ := hX
      have hSE : S < E := by omega
      have rA : W.cell? ⟨S, 1 + a, none⟩ = some (.int .i32 (s.r.getD a 0)) := (hbW.cell (p := ⟨S, 1 + a, none⟩) hS).trans (hst.reg a ha)
      have rB : W.cell? ⟨S, 1 + b, none⟩ = some (.int .i32 (s.r.getD b 0)) := (hbW.cell (p := ⟨S, 1 + b, none⟩) hS).trans (hst.reg b hb)
      have rC : W.cell? ⟨S, 1 + c, none⟩ = some (.int .i32 (s.r.getD c 0)) := (hbW.cell (p := ⟨S, 1 + c, none⟩) hS).trans (hst.reg c hc)
      have fA : ∀ k, W.frozen? ⟨S, k, none⟩ = false := fun k => (hbW.frozen (p := ⟨S, k, none⟩) hS).trans (hst.frozen k)
      have pC : W.cell? ⟨S, 0, none⟩ = some (.int .i64 pc) := (hbW.cell (p := ⟨S, 0, none⟩) hS).trans hPC
      have hH' : W.cell? ⟨S, 19, none⟩ = some (.int .i64 s.held) := (hbW.cell (p := ⟨S, 19, none⟩) hS).trans hH
      have hL' : W.cell? ⟨S, 18, none⟩ = some (.bool false) := (hbW.cell (p := ⟨S, 18, none⟩) hS).trans hL
      have hD' : W.cell? ⟨S, 17, none⟩ = some (.slice (some ⟨m, off, none⟩) s.d.length dcap) := (hbW.cell (p := ⟨S, 17, none⟩) hS).trans hD
      have vA := hr32 a
      have vB := hr32 b
      have vC := hr32 c
      have hOW : OTab W := hO.below hbW hOw
      have cM : W.cell? ⟨m, off + k, none⟩ = some (.int .i32 (s.d.getD k 0)) := (hbW.cell (p := ⟨m, off + k, none⟩) hmw).trans hcell
      have fM : W.frozen? ⟨m, off + k, none⟩ = false := (hbW.frozen (p := ⟨m, off + k, none⟩) hmw).trans hfr
      refine ⟨_, setW (W.setCell ⟨E, 7, none⟩ (.int .i64 k)) S a (s.d.getD k 0), prep_ld E S a b c m off s.d.length dcap k i pc ((pc : Int) + 1) q.lk (s.r.getD a 0) (s.r.getD b 0) (s.r.getD c 0) (s.d.getD k 0) mv pv W e0 e1 e2 e3 e4 e5 e6 e7 e8 e9 e10 f6 f7 f8 f10 hSE h2 (by omega) ha rA (fA _) hb rB vB.1 vB.2 hi hi1 hk hkl hD' cM fM, hX'.done (fun k _ => (setW_E hSE).trans (cellE (by omega))) ((setW_E hSE).trans ((cellE (by omega)).trans e6)) ((setW_E hSE).trans (cellS e7)) ((setW_E hSE).trans ((cellE (by omega)).trans e8)) ((setW_E hSE).trans ((cellE (by omega)).trans e10)), setW_below (bSet h1 hbW), setW_size.trans szS, setW_pc.trans ((cellB (by omega)).trans pC), setW_fr.trans (frS.trans (fA 0)), fun k hk hkE => (setW_heap (by omega)).trans (Below.heap_setCell _ _ _ _ (by show k ≠ E; omega))⟩
    · rintro e w' ⟨rfl, hbw⟩
      refine ⟨rfl, ?_⟩
      rw [hpcs]; exact step_done hbw hS ((Kept.refl _ _).setW (.inl rfl)) rfl setW_size (hst.setW a ha _) (hd.setW hdS) (hm.setW hmS) hdS hmS
  · by_cases hn : s.r.getD b 0 + i < 0
    · have hstep : stepI q.lk 18 a b c i s mem inp = .error 10 := by simp [stepI, hq, -List.getD_eq_getElem?_getD]
      rw [hstep]
      refine (step_trap q.cb q.co q.nC q.ccap q.eb q.eo q.nE q.ecap t S pc s.d.length dcap 18 a b c q.sh q.lk q.st q.fin s.held x i q.nm dp mv pv w 10 (by decide) hT hS hPC (hst.frozen 0) hR hD hL hH heb htn he0 he1 he2 he3 hfit hcb hpc hpc1 hpc2 hpcb hcode hx0 hx1 hdec ?_).mono ?_
      · intro W E h1 h2 hbW hX
        have hX' := hX
        obtain ⟨e0, e1, e2, e3, e4, e5, e6, e7, e8, e9, e10, f6, f7, f8, f10⟩ := hX
        have hSE : S < E := by omega
        have rA : W.cell? ⟨S, 1 + a, none⟩ = some (.int .i32 (s.r.getD a 0)) := (hbW.cell (p := ⟨S, 1 + a, none⟩) hS).trans (hst.reg a ha)
        have rB : W.cell? ⟨S, 1 + b, none⟩ = some (.int .i32 (s.r.getD b 0)) := (hbW.cell (p := ⟨S, 1 + b, none⟩) hS).trans (hst.reg b hb)
        have rC : W.cell? ⟨S, 1 + c, none⟩ = some (.int .i32 (s.r.getD c 0)) := (hbW.cell (p := ⟨S, 1 + c, none⟩) hS).trans (hst.reg c hc)
        have fA : ∀ k, W.frozen? ⟨S, k, none⟩ = false := fun k => (hbW.frozen (p := ⟨S, k, none⟩) hS).trans (hst.frozen k)
        have pC : W.cell? ⟨S, 0, none⟩ = some (.int .i64 pc) := (hbW.cell (p := ⟨S, 0, none⟩) hS).trans hPC
        have hH' : W.cell? ⟨S, 19, none⟩ = some (.int .i64 s.held) := (hbW.cell (p := ⟨S, 19, none⟩) hS).trans hH
        have hL' : W.cell? ⟨S, 18, none⟩ = some (.bool false) := (hbW.cell (p := ⟨S, 18, none⟩) hS).trans hL
        have hD' : W.cell? ⟨S, 17, none⟩ = some (.slice dp s.d.length dcap) := (hbW.cell (p := ⟨S, 17, none⟩) hS).trans hD
        have vA := hr32 a
        have vB := hr32 b
        have vC := hr32 c
        have hOW : OTab W := hO.below hbW hOw
        exact (prep_ld_neg E S a b c s.d.length dcap i pc ((pc : Int) + 1) q.lk (s.r.getD a 0) (s.r.getD b 0) (s.r.getD c 0) mv pv W dp e0 e1 e2 e3 e4 e5 e6 e7 e8 e9 e10 f6 f7 f8 f10 hSE h2 hb rB vB.1 vB.2 hi hi1 hn hD').mono fun e w' ⟨he, hb⟩ => ⟨_, he, hb⟩
      · rintro e w' ⟨rfl, hbw⟩
        exact ⟨rfl, hbw⟩
    · have hstep : stepI q.lk 18 a b c i s mem inp = .error 10 := by simp [stepI, hq, -List.getD_eq_getElem?_getD]
      rw [hstep]
      refine (step_trap q.cb q.co q.nC q.ccap q.eb q.eo q.nE q.ecap t S pc s.d.length dcap 18 a b c q.sh q.lk q.st q.fin s.held x i q.nm dp mv pv w 10 (by decide) hT hS hPC (hst.frozen 0) hR hD hL hH heb htn he0 he1 he2 he3 hfit hcb hpc hpc1 hpc2 hpcb hcode hx0 hx1 hdec ?_).mono ?_
      · intro W E h1 h2 hbW hX
        have hX' := hX
        obtain ⟨e0, e1, e2, e3, e4, e5, e6, e7, e8, e9, e10, f6, f7, f8, f10⟩ := hX
        have hSE : S < E := by omega
        have rA : W.cell? ⟨S, 1 + a, none⟩ = some (.int .i32 (s.r.getD a 0)) := (hbW.cell (p := ⟨S, 1 + a, none⟩) hS).trans (hst.reg a ha)
        have rB : W.cell? ⟨S, 1 + b, none⟩ = some (.int .i32 (s.r.getD b 0)) := (hbW.cell (p := ⟨S, 1 + b, none⟩) hS).trans (hst.reg b hb)
        have rC : W.cell? ⟨S, 1 + c, none⟩ = some (.int .i32 (s.r.getD c 0)) := (hbW.cell (p := ⟨S, 1 + c, none⟩) hS).trans (hst.reg c hc)
        have fA : ∀ k, W.frozen? ⟨S, k, none⟩ = false := fun k => (hbW.frozen (p := ⟨S, k, none⟩) hS).trans (hst.frozen k)
        have pC : W.cell? ⟨S, 0, none⟩ = some (.int .i64 pc) := (hbW.cell (p := ⟨S, 0, none⟩) hS).trans hPC
        have hH' : W.cell? ⟨S, 19, none⟩ = some (.int .i64 s.held) := (hbW.cell (p := ⟨S, 19, none⟩) hS).trans hH
        have hL' : W.cell? ⟨S, 18, none⟩ = some (.bool false) := (hbW.cell (p := ⟨S, 18, none⟩) hS).trans hL
        have hD' : W.cell? ⟨S, 17, none⟩ = some (.slice dp s.d.length dcap) := (hbW.cell (p := ⟨S, 17, none⟩) hS).trans hD
        have vA := hr32 a
        have vB := hr32 b
        have vC := hr32 c
        have hOW : OTab W := hO.below hbW hOw
        exact (prep_ld_over E S a b c s.d.length dcap i pc ((pc : Int) + 1) q.lk (s.r.getD a 0) (s.r.getD b 0) (s.r.getD c 0) mv pv W dp e0 e1 e2 e3 e4 e5 e6 e7 e8 e9 e10 f6 f7 f8 f10 hSE h2 hb rB vB.1 vB.2 hi hi1 (by omega) (by omega) hD').mono fun e w' ⟨he, hb⟩ => ⟨_, he, hb⟩
      · rintro e w' ⟨rfl, hbw⟩
        exact ⟨rfl, hbw⟩

theorem stepI_lds (q : ImN) (t S a b c pc : Nat) (s : St) (dv mv pv : Value) (mem : List Int) (x i inp : Int) (PW : World → World) (w : World) (R : Ready w q t S s dv mv mem pc x) (hdec : decV x = .tuple #[.agg #[.int .u8 20, .int .i64 a, .int .i64 b, .int .i64 c, .int .i64 i], .int .i64 0]) (ha : a < 16) (hb : b < 16) (hc : c < 16) (hi : -131072 ≤ i) (hi1 : i ≤ 131071)  :
    Calls Tryd.prog 7 #[q.val, .int .i64 (t : Nat), .pointer (some ⟨S, 0, none⟩), mv, pv] w (StepPost w S dv mv PW 20 a b c i pc (stepI q.lk 20 a b c i s mem inp)) := by
  obtain ⟨hT, hO, hst, hd, hm, hdS, hmS, hdm, hr0, hr32, hfit, hal, heb, htn, he0, he1, he2, he3, hcb, hpc, hpc1, hpc2, hpcb, hpcs, hcode, hx0, hx1⟩ := R
  obtain ⟨dp, dcap, hdv⟩ := hd.shape
  have hS := hst.lt
  have hPC := hst.pc
  rw [hpcs] at hPC
  have hR : w.cell? ⟨S, 1, none⟩ = some (.int .i32 0) := by have h := hst.reg 0 (by omega); rw [hr0] at h; exact h
  have hD := hst.d
  rw [hdv] at hD
  have hL := hst.halted
  rw [hal] at hL
  have hH := hst.held
  have hOw : 1 < w.heap.size := hO.1
  by_cases hq : 0 ≤ s.r.getD b 0 + i ∧ s.r.getD b 0 + i < mem.length
  · obtain ⟨k, hk⟩ : ∃ k : Nat, s.r.getD b 0 + i = k := ⟨(s.r.getD b 0 + i).toNat, by omega⟩
    have hkl : k < mem.length := by omega
    have hkt : (s.r.getD b 0 + i).toNat = k := by omega
    obtain ⟨m, off, cap, hv, hmw, hcell, hfr, hset⟩ := hm.at k hkl
    have hmne : m ≠ S := fun e => hmS (by rw [hv, ← e]; rfl)
    have hstep : stepI q.lk 20 a b c i s mem inp = .ok ({ s with pc := s.pc + 1, r := if a = 0 then s.r else s.r.set a (mem.getD k 0) }, mem, false, (k : Int), 0) := by simp [stepI, hq, hk, hkt, hkl, -List.getD_eq_getElem?_getD]
    rw [hstep]
    refine (step_ok q.cb q.co q.nC q.ccap q.eb q.eo q.nE q.ecap t S pc s.d.length dcap 20 a b c q.sh q.lk q.st q.fin s.held x i q.nm dp mv pv w (setW w S a (mem.getD k 0)) false k 0 ((pc : Int) + 1) hT hS hPC (hst.frozen 0) hR hD hL hH heb htn he0 he1 he2 he3 hfit hcb hpc hpc1 hpc2 hpcb hcode hx0 hx1 hdec ?_).mono ?_
    · intro W E h1 h2 hbW hX
      have hX' := hX
      obtain ⟨e0, e1, e2, e3, e4, e5, e6, e7, e8, e9, e10, f6, f7, f8, f10⟩ := hX
      have hSE : S < E := by omega
      have rA : W.cell? ⟨S, 1 + a, none⟩ = some (.int .i32 (s.r.getD a 0)) := (hbW.cell (p := ⟨S, 1 + a, none⟩) hS).trans (hst.reg a ha)
      have rB : W.cell? ⟨S, 1 + b, none⟩ = some (.int .i32 (s.r.getD b 0)) := (hbW.cell (p := ⟨S, 1 + b, none⟩) hS).trans (hst.reg b hb)
      have rC : W.cell? ⟨S, 1 + c, none⟩ = some (.int .i32 (s.r.getD c 0)) := (hbW.cell (p := ⟨S, 1 + c, none⟩) hS).trans (hst.reg c hc)
      have fA : ∀ k, W.frozen? ⟨S, k, none⟩ = false := fun k => (hbW.frozen (p := ⟨S, k, none⟩) hS).trans (hst.frozen k)
      have pC : W.cell? ⟨S, 0, none⟩ = some (.int .i64 pc) := (hbW.cell (p := ⟨S, 0, none⟩) hS).trans hPC
      have hH' : W.cell? ⟨S, 19, none⟩ = some (.int .i64 s.held) := (hbW.cell (p := ⟨S, 19, none⟩) hS).trans hH
      have hL' : W.cell? ⟨S, 18, none⟩ = some (.bool false) := (hbW.cell (p := ⟨S, 18, none⟩) hS).trans hL
      have hD' : W.cell? ⟨S, 17, none⟩ = some (.slice dp s.d.length dcap) := (hbW.cell (p := ⟨S, 17, none⟩) hS).trans hD
      have vA := hr32 a
      have vB := hr32 b
      have vC := hr32 c
      have hOW : OTab W := hO.below hbW hOw
      have cM : W.cell? ⟨m, off + k, none⟩ = some (.int .i32 (mem.getD k 0)) := (hbW.cell (p := ⟨m, off + k, none⟩) hmw).trans hcell
      have fM : W.frozen? ⟨m, off + k, none⟩ = false := (hbW.frozen (p := ⟨m, off + k, none⟩) hmw).trans hfr
      refine ⟨_, setW (W.setCell ⟨E, 7, none⟩ (.int .i64 k)) S a (mem.getD k 0), (by rw [hv]; exact prep_lds E S a b c m off mem.length cap k i pc ((pc : Int) + 1) q.lk (s.r.getD a 0) (s.r.getD b 0) (s.r.getD c 0) (mem.getD k 0) mv pv W e0 e1 e2 e3 e4 e5 e6 e7 e8 e9 e10 f6 f7 f8 f10 hSE h2 (by omega) ha rA (fA _) hb rB vB.1 vB.2 hi hi1 hk hkl cM fM), hX'.done (fun k _ => (setW_E hSE).trans (cellE (by omega))) ((setW_E hSE).trans ((cellE (by omega)).trans e6)) ((setW_E hSE).trans (cellS e7)) ((setW_E hSE).trans ((cellE (by omega)).trans e8)) ((setW_E hSE).trans ((cellE (by omega)).trans e10)), setW_below (bSet h1 hbW), setW_size.trans szS, setW_pc.trans ((cellB (by omega)).trans pC), setW_fr.trans (frS.trans (fA 0)), fun k hk hkE => (setW_heap (by omega)).trans (Below.heap_setCell _ _ _ _ (by show k ≠ E; omega))⟩
    · rintro e w' ⟨rfl, hbw⟩
      refine ⟨rfl, ?_⟩
      rw [hpcs]; exact step_done hbw hS ((Kept.refl _ _).setW (.inl rfl)) rfl setW_size (hst.setW a ha _) (hd.setW hdS) (hm.setW hmS) hdS hmS
  · by_cases hn : s.r.getD b 0 + i < 0
    · have hstep : stepI q.lk 20 a b c i s mem inp = .error 10 := by simp [stepI, hq, -List.getD_eq_getElem?_getD]
      rw [hstep]
      refine (step_trap q.cb q.co q.nC q.ccap q.eb q.eo q.nE q.ecap t S pc s.d.length dcap 20 a b c q.sh q.lk q.st q.fin s.held x i q.nm dp mv pv w 10 (by decide) hT hS hPC (hst.frozen 0) hR hD hL hH heb htn he0 he1 he2 he3 hfit hcb hpc hpc1 hpc2 hpcb hcode hx0 hx1 hdec ?_).mono ?_
      · intro W E h1 h2 hbW hX
        have hX' := hX
        obtain ⟨e0, e1, e2, e3, e4, e5, e6, e7, e8, e9, e10, f6, f7, f8, f10⟩ := hX
        have hSE : S < E := by omega
        have rA : W.cell? ⟨S, 1 + a, none⟩ = some (.int .i32 (s.r.getD a 0)) := (hbW.cell (p := ⟨S, 1 + a, none⟩) hS).trans (hst.reg a ha)
        have rB : W.cell? ⟨S, 1 + b, none⟩ = some (.int .i32 (s.r.getD b 0)) := (hbW.cell (p := ⟨S, 1 + b, none⟩) hS).trans (hst.reg b hb)
        have rC : W.cell? ⟨S, 1 + c, none⟩ = some (.int .i32 (s.r.getD c 0)) := (hbW.cell (p := ⟨S, 1 + c, none⟩) hS).trans (hst.reg c hc)
        have fA : ∀ k, W.frozen? ⟨S, k, none⟩ = false := fun k => (hbW.frozen (p := ⟨S, k, none⟩) hS).trans (hst.frozen k)
        have pC : W.cell? ⟨S, 0, none⟩ = some (.int .i64 pc) := (hbW.cell (p := ⟨S, 0, none⟩) hS).trans hPC
        have hH' : W.cell? ⟨S, 19, none⟩ = some (.int .i64 s.held) := (hbW.cell (p := ⟨S, 19, none⟩) hS).trans hH
        have hL' : W.cell? ⟨S, 18, none⟩ = some (.bool false) := (hbW.cell (p := ⟨S, 18, none⟩) hS).trans hL
        have hD' : W.cell? ⟨S, 17, none⟩ = some (.slice dp s.d.length dcap) := (hbW.cell (p := ⟨S, 17, none⟩) hS).trans hD
        have vA := hr32 a
        have vB := hr32 b
        have vC := hr32 c
        have hOW : OTab W := hO.below hbW hOw
        obtain ⟨mp, mcap, hmv⟩ := hm.shape; rw [hmv]; exact (prep_lds_neg E S a b c mem.length mcap i pc ((pc : Int) + 1) q.lk (s.r.getD a 0) (s.r.getD b 0) (s.r.getD c 0) mv pv W mp e0 e1 e2 e3 e4 e5 e6 e7 e8 e9 e10 f6 f7 f8 f10 hSE h2 hb rB vB.1 vB.2 hi hi1 hn).mono fun e w' ⟨he, hb⟩ => ⟨_, he, hb⟩
      · rintro e w' ⟨rfl, hbw⟩
        exact ⟨rfl, hbw⟩
    · have hstep : stepI q.lk 20 a b c i s mem inp = .error 10 := by simp [stepI, hq, -List.getD_eq_getElem?_getD]
      rw [hstep]
      refine (step_trap q.cb q.co q.nC q.ccap q.eb q.eo q.nE q.ecap t S pc s.d.length dcap 20 a b c q.sh q.lk q.st q.fin s.held x i q.nm dp mv pv w 10 (by decide) hT hS hPC (hst.frozen 0) hR hD hL hH heb htn he0 he1 he2 he3 hfit hcb hpc hpc1 hpc2 hpcb hcode hx0 hx1 hdec ?_).mono ?_
      · intro W E h1 h2 hbW hX
        have hX' := hX
        obtain ⟨e0, e1, e2, e3, e4, e5, e6, e7, e8, e9, e10, f6, f7, f8, f10⟩ := hX
        have hSE : S < E := by omega
        have rA : W.cell? ⟨S, 1 + a, none⟩ = some (.int .i32 (s.r.getD a 0)) := (hbW.cell (p := ⟨S, 1 + a, none⟩) hS).trans (hst.reg a ha)
        have rB : W.cell? ⟨S, 1 + b, none⟩ = some (.int .i32 (s.r.getD b 0)) := (hbW.cell (p := ⟨S, 1 + b, none⟩) hS).trans (hst.reg b hb)
        have rC : W.cell? ⟨S, 1 + c, none⟩ = some (.int .i32 (s.r.getD c 0)) := (hbW.cell (p := ⟨S, 1 + c, none⟩) hS).trans (hst.reg c hc)
        have fA : ∀ k, W.frozen? ⟨S, k, none⟩ = false := fun k => (hbW.frozen (p := ⟨S, k, none⟩) hS).trans (hst.frozen k)
        have pC : W.cell? ⟨S, 0, none⟩ = some (.int .i64 pc) := (hbW.cell (p := ⟨S, 0, none⟩) hS).trans hPC
        have hH' : W.cell? ⟨S, 19, none⟩ = some (.int .i64 s.held) := (hbW.cell (p := ⟨S, 19, none⟩) hS).trans hH
        have hL' : W.cell? ⟨S, 18, none⟩ = some (.bool false) := (hbW.cell (p := ⟨S, 18, none⟩) hS).trans hL
        have hD' : W.cell? ⟨S, 17, none⟩ = some (.slice dp s.d.length dcap) := (hbW.cell (p := ⟨S, 17, none⟩) hS).trans hD
        have vA := hr32 a
        have vB := hr32 b
        have vC := hr32 c
        have hOW : OTab W := hO.below hbW hOw
        obtain ⟨mp, mcap, hmv⟩ := hm.shape; rw [hmv]; exact (prep_lds_over E S a b c mem.length mcap i pc ((pc : Int) + 1) q.lk (s.r.getD a 0) (s.r.getD b 0) (s.r.getD c 0) mv pv W mp e0 e1 e2 e3 e4 e5 e6 e7 e8 e9 e10 f6 f7 f8 f10 hSE h2 hb rB vB.1 vB.2 hi hi1 (by omega) (by omega)).mono fun e w' ⟨he, hb⟩ => ⟨_, he, hb⟩
      · rintro e w' ⟨rfl, hbw⟩
        exact ⟨rfl, hbw⟩

theorem stepI_st (q : ImN) (t S a b c pc : Nat) (s : St) (dv mv pv : Value) (mem : List Int) (x i inp : Int) (PW : World → World) (w : World) (R : Ready w q t S s dv mv mem pc x) (hdec : decV x = .tuple #[.agg #[.int .u8 19, .int .i64 a, .int .i64 b, .int .i64 c, .int .i64 i], .int .i64 0]) (ha : a < 16) (hb : b < 16) (hc : c < 16) (hi : -131072 ≤ i) (hi1 : i ≤ 131071)  :
    Calls Tryd.prog 7 #[q.val, .int .i64 (t : Nat), .pointer (some ⟨S, 0, none⟩), mv, pv] w (StepPost w S dv mv PW 19 a b c i pc (stepI q.lk 19 a b c i s mem inp)) := by
  obtain ⟨hT, hO, hst, hd, hm, hdS, hmS, hdm, hr0, hr32, hfit, hal, heb, htn, he0, he1, he2, he3, hcb, hpc, hpc1, hpc2, hpcb, hpcs, hcode, hx0, hx1⟩ := R
  obtain ⟨dp, dcap, hdv⟩ := hd.shape
  have hS := hst.lt
  have hPC := hst.pc
  rw [hpcs] at hPC
  have hR : w.cell? ⟨S, 1, none⟩ = some (.int .i32 0) := by have h := hst.reg 0 (by omega); rw [hr0] at h; exact h
  have hD := hst.d
  rw [hdv] at hD
  have hL := hst.halted
  rw [hal] at hL
  have hH := hst.held
  have hOw : 1 < w.heap.size := hO.1
  by_cases hq : 0 ≤ s.r.getD b 0 + i ∧ s.r.getD b 0 + i < s.d.length
  · obtain ⟨k, hk⟩ : ∃ k : Nat, s.r.getD b 0 + i = k := ⟨(s.r.getD b 0 + i).toNat, by omega⟩
    have hkl : k < s.d.length := by omega
    have hkt : (s.r.getD b 0 + i).toNat = k := by omega
    obtain ⟨m, off, cap, hv, hmw, hcell, hfr, hset⟩ := hd.at k hkl
    obtain ⟨rfl, rfl⟩ := slice_parts (hdv.symm.trans hv)
    have hmne : m ≠ S := fun e => hdS (by rw [hv, ← e]; rfl)
    have hstep : stepI q.lk 19 a b c i s mem inp = .ok ({ s with pc := s.pc + 1, d := s.d.set k (s.r.getD a 0) }, mem, false, (k : Int), 0) := by simp [stepI, hq, hk, hkt, hkl, -List.getD_eq_getElem?_getD]
    rw [hstep]
    refine (step_ok q.cb q.co q.nC q.ccap q.eb q.eo q.nE q.ecap t S pc s.d.length dcap 19 a b c q.sh q.lk q.st q.fin s.held x i q.nm (some ⟨m, off, none⟩) mv pv w (w.setCell ⟨m, off + k, none⟩ (.int .i32 (s.r.getD a 0))) false k 0 ((pc : Int) + 1) hT hS hPC (hst.frozen 0) hR hD hL hH heb htn he0 he1 he2 he3 hfit hcb hpc hpc1 hpc2 hpcb hcode hx0 hx1 hdec ?_).mono ?_
    · intro W E h1 h2 hbW hX
      have hX' := hX
      obtain ⟨e0, e1, e2, e3, e4, e5, e6, e7, e8, e9, e10, f6, f7, f8, f10⟩ := hX
      have hSE : S < E := by omega
      have rA : W.cell? ⟨S, 1 + a, none⟩ = some (.int .i32 (s.r.getD a 0)) := (hbW.cell (p := ⟨S, 1 + a, none⟩) hS).trans (hst.reg a ha)
      have rB : W.cell? ⟨S, 1 + b, none⟩ = some (.int .i32 (s.r.getD b 0)) := (hbW.cell (p := ⟨S, 1 + b, none⟩) hS).trans (hst.reg b hb)
      have rC : W.cell? ⟨S, 1 + c, none⟩ = some (.int .i32 (s.r.getD c 0)) := (hbW.cell (p := ⟨S, 1 + c, none⟩) hS).trans (hst.reg c hc)
      have fA : ∀ k, W.frozen? ⟨S, k, none⟩ = false := fun k => (hbW.frozen (p := ⟨S, k, none⟩) hS).trans (hst.frozen k)
      have pC : W.cell? ⟨S, 0, none⟩ = some (.int .i64 pc) := (hbW.cell (p := ⟨S, 0, none⟩) hS).trans hPC
      have hH' : W.cell? ⟨S, 19, none⟩ = some (.int .i64 s.held) := (hbW.cell (p := ⟨S, 19, none⟩) hS).trans hH
      have hL' : W.cell? ⟨S, 18, none⟩ = some (.bool false) := (hbW.cell (p := ⟨S, 18, none⟩) hS).trans hL
      have hD' : W.cell? ⟨S, 17, none⟩ = some (.slice (some ⟨m, off, none⟩) s.d.length dcap) := (hbW.cell (p := ⟨S, 17, none⟩) hS).trans hD
      have vA := hr32 a
      have vB := hr32 b
      have vC := hr32 c
      have hOW : OTab W := hO.below hbW hOw
      have cM : W.cell? ⟨m, off + k, none⟩ = some (.int .i32 (s.d.getD k 0)) := (hbW.cell (p := ⟨m, off + k, none⟩) hmw).trans hcell
      have fM : W.frozen? ⟨m, off + k, none⟩ = false := (hbW.frozen (p := ⟨m, off + k, none⟩) hmw).trans hfr
      refine ⟨_, (W.setCell ⟨E, 7, none⟩ (.int .i64 k)).setCell ⟨m, off + k, none⟩ (.int .i32 (s.r.getD a 0)), prep_st E S a b c m off s.d.length dcap k i pc ((pc : Int) + 1) q.lk (s.r.getD a 0) (s.r.getD b 0) (s.r.getD c 0) (s.d.getD k 0) mv pv W e0 e1 e2 e3 e4 e5 e6 e7 e8 e9 e10 f6 f7 f8 f10 hSE h2 (by omega) ha rA (fA _) hb rB vB.1 vB.2 hi hi1 hk hkl hD' cM fM, hX'.done (fun k _ => (cellB (by omega)).trans (cellE (by omega))) ((cellB (by omega)).trans ((cellE (by omega)).trans e6)) ((cellB (by omega)).trans (cellS e7)) ((cellB (by omega)).trans ((cellE (by omega)).trans e8)) ((cellB (by omega)).trans ((cellE (by omega)).trans e10)), bBoth (bSet h1 hbW), szS.trans szS, (cellB (fun e => hmne e.symm)).trans ((cellB (by omega)).trans pC), frS.trans (frS.trans (fA 0)), fun k hk hkE => (Below.heap_setCell _ _ _ _ (by show k ≠ m; omega)).trans (Below.heap_setCell _ _ _ _ (by show k ≠ E; omega))⟩
    · rintro e w' ⟨rfl, hbw⟩
      refine ⟨rfl, ?_⟩
      rw [hpcs]; exact step_done hbw hS ((Kept.refl _ _).setCell (p := ⟨m, off + k, none⟩) (.inr (.inl (by rw [hv]; rfl))) _) rfl szS ((hst.other (p := ⟨m, off + k, none⟩) hmne _).setD _) (hset _) (hm.other (p := ⟨m, off + k, none⟩) (hdm m (by rw [hv]; rfl)) _) hdS hmS
  · by_cases hn : s.r.getD b 0 + i < 0
    · have hstep : stepI q.lk 19 a b c i s mem inp = .error 10 := by simp [stepI, hq, -List.getD_eq_getElem?_getD]
      rw [hstep]
      refine (step_trap q.cb q.co q.nC q.ccap q.eb q.eo q.nE q.ecap t S pc s.d.length dcap 19 a b c q.sh q.lk q.st q.fin s.held x i q.nm dp mv pv w 10 (by decide) hT hS hPC (hst.frozen 0) hR hD hL hH heb htn he0 he1 he2 he3 hfit hcb hpc hpc1 hpc2 hpcb hcode hx0 hx1 hdec ?_).mono ?_
      · intro W E h1 h2 hbW hX
        have hX' := hX
        obtain ⟨e0, e1, e2, e3, e4, e5, e6, e7, e8, e9, e10, f6, f7, f8, f10⟩ := hX
        have hSE : S < E := by omega
        have rA : W.cell? ⟨S, 1 + a, none⟩ = some (.int .i32 (s.r.getD a 0)) := (hbW.cell (p := ⟨S, 1 + a, none⟩) hS).trans (hst.reg a ha)
        have rB : W.cell? ⟨S, 1 + b, none⟩ = some (.int .i32 (s.r.getD b 0)) := (hbW.cell (p := ⟨S, 1 + b, none⟩) hS).trans (hst.reg b hb)
        have rC : W.cell? ⟨S, 1 + c, none⟩ = some (.int .i32 (s.r.getD c 0)) := (hbW.cell (p := ⟨S, 1 + c, none⟩) hS).trans (hst.reg c hc)
        have fA : ∀ k, W.frozen? ⟨S, k, none⟩ = false := fun k => (hbW.frozen (p := ⟨S, k, none⟩) hS).trans (hst.frozen k)
        have pC : W.cell? ⟨S, 0, none⟩ = some (.int .i64 pc) := (hbW.cell (p := ⟨S, 0, none⟩) hS).trans hPC
        have hH' : W.cell? ⟨S, 19, none⟩ = some (.int .i64 s.held) := (hbW.cell (p := ⟨S, 19, none⟩) hS).trans hH
        have hL' : W.cell? ⟨S, 18, none⟩ = some (.bool false) := (hbW.cell (p := ⟨S, 18, none⟩) hS).trans hL
        have hD' : W.cell? ⟨S, 17, none⟩ = some (.slice dp s.d.length dcap) := (hbW.cell (p := ⟨S, 17, none⟩) hS).trans hD
        have vA := hr32 a
        have vB := hr32 b
        have vC := hr32 c
        have hOW : OTab W := hO.below hbW hOw
        exact (prep_st_neg E S a b c s.d.length dcap i pc ((pc : Int) + 1) q.lk (s.r.getD a 0) (s.r.getD b 0) (s.r.getD c 0) mv pv W dp e0 e1 e2 e3 e4 e5 e6 e7 e8 e9 e10 f6 f7 f8 f10 hSE h2 hb rB vB.1 vB.2 hi hi1 hn hD').mono fun e w' ⟨he, hb⟩ => ⟨_, he, hb⟩
      · rintro e w' ⟨rfl, hbw⟩
        exact ⟨rfl, hbw⟩
    · have hstep : stepI q.lk 19 a b c i s mem inp = .error 10 := by simp [stepI, hq, -List.getD_eq_getElem?_getD]
      rw [hstep]
      refine (step_trap q.cb q.co q.nC q.ccap q.eb q.eo q.nE q.ecap t S pc s.d.length dcap 19 a b c q.sh q.lk q.st q.fin s.held x i q.nm dp mv pv w 10 (by decide) hT hS hPC (hst.frozen 0) hR hD hL hH heb htn he0 he1 he2 he3 hfit hcb hpc hpc1 hpc2 hpcb hcode hx0 hx1 hdec ?_).mono ?_
      · intro W E h1 h2 hbW hX
        have hX' := hX
        obtain ⟨e0, e1, e2, e3, e4, e5, e6, e7, e8, e9, e10, f6, f7, f8, f10⟩ := hX
        have hSE : S < E := by omega
        have rA : W.cell? ⟨S, 1 + a, none⟩ = some (.int .i32 (s.r.getD a 0)) := (hbW.cell (p := ⟨S, 1 + a, none⟩) hS).trans (hst.reg a ha)
        have rB : W.cell? ⟨S, 1 + b, none⟩ = some (.int .i32 (s.r.getD b 0)) := (hbW.cell (p := ⟨S, 1 + b, none⟩) hS).trans (hst.reg b hb)
        have rC : W.cell? ⟨S, 1 + c, none⟩ = some (.int .i32 (s.r.getD c 0)) := (hbW.cell (p := ⟨S, 1 + c, none⟩) hS).trans (hst.reg c hc)
        have fA : ∀ k, W.frozen? ⟨S, k, none⟩ = false := fun k => (hbW.frozen (p := ⟨S, k, none⟩) hS).trans (hst.frozen k)
        have pC : W.cell? ⟨S, 0, none⟩ = some (.int .i64 pc) := (hbW.cell (p := ⟨S, 0, none⟩) hS).trans hPC
        have hH' : W.cell? ⟨S, 19, none⟩ = some (.int .i64 s.held) := (hbW.cell (p := ⟨S, 19, none⟩) hS).trans hH
        have hL' : W.cell? ⟨S, 18, none⟩ = some (.bool false) := (hbW.cell (p := ⟨S, 18, none⟩) hS).trans hL
        have hD' : W.cell? ⟨S, 17, none⟩ = some (.slice dp s.d.length dcap) := (hbW.cell (p := ⟨S, 17, none⟩) hS).trans hD
        have vA := hr32 a
        have vB := hr32 b
        have vC := hr32 c
        have hOW : OTab W := hO.below hbW hOw
        exact (prep_st_over E S a b c s.d.length dcap i pc ((pc : Int) + 1) q.lk (s.r.getD a 0) (s.r.getD b 0) (s.r.getD c 0) mv pv W dp e0 e1 e2 e3 e4 e5 e6 e7 e8 e9 e10 f6 f7 f8 f10 hSE h2 hb rB vB.1 vB.2 hi hi1 (by omega) (by omega) hD').mono fun e w' ⟨he, hb⟩ => ⟨_, he, hb⟩
      · rintro e w' ⟨rfl, hbw⟩
        exact ⟨rfl, hbw⟩

theorem stepI_sts (q : ImN) (t S a b c pc : Nat) (s : St) (dv mv pv : Value) (mem : List Int) (x i inp : Int) (PW : World → World) (w : World) (R : Ready w q t S s dv mv mem pc x) (hdec : decV x = .tuple #[.agg #[.int .u8 21, .int .i64 a, .int .i64 b, .int .i64 c, .int .i64 i], .int .i64 0]) (ha : a < 16) (hb : b < 16) (hc : c < 16) (hi : -131072 ≤ i) (hi1 : i ≤ 131071)  :
    Calls Tryd.prog 7 #[q.val, .int .i64 (t : Nat), .pointer (some ⟨S, 0, none⟩), mv, pv] w (StepPost w S dv mv PW 21 a b c i pc (stepI q.lk 21 a b c i s mem inp)) := by
  obtain ⟨hT, hO, hst, hd, hm, hdS, hmS, hdm, hr0, hr32, hfit, hal, heb, htn, he0, he1, he2, he3, hcb, hpc, hpc1, hpc2, hpcb, hpcs, hcode, hx0, hx1⟩ := R
  obtain ⟨dp, dcap, hdv⟩ := hd.shape
  have hS := hst.lt
  have hPC := hst.pc
  rw [hpcs] at hPC
  have hR : w.cell? ⟨S, 1, none⟩ = some (.int .i32 0) := by have h := hst.reg 0 (by omega); rw [hr0] at h; exact h
  have hD := hst.d
  rw [hdv] at hD
  have hL := hst.halted
  rw [hal] at hL
  have hH := hst.held
  have hOw : 1 < w.heap.size := hO.1
  by_cases hq : 0 ≤ s.r.getD b 0 + i ∧ s.r.getD b 0 + i < mem.length
  · obtain ⟨k, hk⟩ : ∃ k : Nat, s.r.getD b 0 + i = k := ⟨(s.r.getD b 0 + i).toNat, by omega⟩
    have hkl : k < mem.length := by omega
    have hkt : (s.r.getD b 0 + i).toNat = k := by omega
    obtain ⟨m, off, cap, hv, hmw, hcell, hfr, hset⟩ := hm.at k hkl
    have hmne : m ≠ S := fun e => hmS (by rw [hv, ← e]; rfl)
    have hstep : stepI q.lk 21 a b c i s mem inp = .ok ({ s with pc := s.pc + 1 }, mem.set k (s.r.getD a 0), false, (k : Int), 0) := by simp [stepI, hq, hk, hkt, hkl, -List.getD_eq_getElem?_getD]
    rw [hstep]
    refine (step_ok q.cb q.co q.nC q.ccap q.eb q.eo q.nE q.ecap t S pc s.d.length dcap 21 a b c q.sh q.lk q.st q.fin s.held x i q.nm dp mv pv w (w.setCell ⟨m, off + k, none⟩ (.int .i32 (s.r.getD a 0))) false k 0 ((pc : Int) + 1) hT hS hPC (hst.frozen 0) hR hD hL hH heb htn he0 he1 he2 he3 hfit hcb hpc hpc1 hpc2 hpcb hcode hx0 hx1 hdec ?_).mono ?_
    · intro W E h1 h2 hbW hX
      have hX' := hX
      obtain ⟨e0, e1, e2, e3, e4, e5, e6, e7, e8, e9, e10, f6, f7, f8, f10⟩ := hX
      have hSE : S < E := by omega
      have rA : W.cell? ⟨S, 1 + a, none⟩ = some (.int .i32 (s.r.getD a 0)) := (hbW.cell (p := ⟨S, 1 + a, none⟩) hS).trans (hst.reg a ha)
      have rB : W.cell? ⟨S, 1 + b, none⟩ = some (.int .i32 (s.r.getD b 0)) := (hbW.cell (p := ⟨S, 1 + b, none⟩) hS).trans (hst.reg b hb)
      have rC : W.cell? ⟨S, 1 + c, none⟩ = some (.int .i32 (s.r.getD c 0)) := (hbW.cell (p := ⟨S, 1 + c, none⟩) hS).trans (hst.reg c hc)
      have fA : ∀ k, W.frozen? ⟨S, k, none⟩ = false := fun k => (hbW.frozen (p := ⟨S, k, none⟩) hS).trans (hst.frozen k)
      have pC : W.cell? ⟨S, 0, none⟩ = some (.int .i64 pc) := (hbW.cell (p := ⟨S, 0, none⟩) hS).trans hPC
      have hH' : W.cell? ⟨S, 19, none⟩ = some (.int .i64 s.held) := (hbW.cell (p := ⟨S, 19, none⟩) hS).trans hH
      have hL' : W.cell? ⟨S, 18, none⟩ = some (.bool false) := (hbW.cell (p := ⟨S, 18, none⟩) hS).trans hL
      have hD' : W.cell? ⟨S, 17, none⟩ = some (.slice dp s.d.length dcap) := (hbW.cell (p := ⟨S, 17, none⟩) hS).trans hD
      have vA := hr32 a
      have vB := hr32 b
      have vC := hr32 c
      have hOW : OTab W := hO.below hbW hOw
      have cM : W.cell? ⟨m, off + k, none⟩ = some (.int .i32 (mem.getD k 0)) := (hbW.cell (p := ⟨m, off + k, none⟩) hmw).trans hcell
      have fM : W.frozen? ⟨m, off + k, none⟩ = false := (hbW.frozen (p := ⟨m, off + k, none⟩) hmw).trans hfr
      refine ⟨_, (W.setCell ⟨E, 7, none⟩ (.int .i64 k)).setCell ⟨m, off + k, none⟩ (.int .i32 (s.r.getD a 0)), (by rw [hv]; exact prep_sts E S a b c m off mem.length cap k i pc ((pc : Int) + 1) q.lk (s.r.getD a 0) (s.r.getD b 0) (s.r.getD c 0) (mem.getD k 0) mv pv W e0 e1 e2 e3 e4 e5 e6 e7 e8 e9 e10 f6 f7 f8 f10 hSE h2 (by omega) ha rA (fA _) hb rB vB.1 vB.2 hi hi1 hk hkl cM fM), hX'.done (fun k _ => (cellB (by omega)).trans (cellE (by omega))) ((cellB (by omega)).trans ((cellE (by omega)).trans e6)) ((cellB (by omega)).trans (cellS e7)) ((cellB (by omega)).trans ((cellE (by omega)).trans e8)) ((cellB (by omega)).trans ((cellE (by omega)).trans e10)), bBoth (bSet h1 hbW), szS.trans szS, (cellB (fun e => hmne e.symm)).trans ((cellB (by omega)).trans pC), frS.trans (frS.trans (fA 0)), fun k hk hkE => (Below.heap_setCell _ _ _ _ (by show k ≠ m; omega)).trans (Below.heap_setCell _ _ _ _ (by show k ≠ E; omega))⟩
    · rintro e w' ⟨rfl, hbw⟩
      refine ⟨rfl, ?_⟩
      rw [hpcs]; exact step_done hbw hS ((Kept.refl _ _).setCell (p := ⟨m, off + k, none⟩) (.inr (.inr (by rw [hv]; rfl))) _) rfl szS (hst.other (p := ⟨m, off + k, none⟩) hmne _) (hd.other (p := ⟨m, off + k, none⟩) (fun e => hdm m e (by rw [hv]; rfl)) _) (hset _) hdS hmS
  · by_cases hn : s.r.getD b 0 + i < 0
    · have hstep : stepI q.lk 21 a b c i s mem inp = .error 10 := by simp [stepI, hq, -List.getD_eq_getElem?_getD]
      rw [hstep]
      refine (step_trap q.cb q.co q.nC q.ccap q.eb q.eo q.nE q.ecap t S pc s.d.length dcap 21 a b c q.sh q.lk q.st q.fin s.held x i q.nm dp mv pv w 10 (by decide) hT hS hPC (hst.frozen 0) hR hD hL hH heb htn he0 he1 he2 he3 hfit hcb hpc hpc1 hpc2 hpcb hcode hx0 hx1 hdec ?_).mono ?_
      · intro W E h1 h2 hbW hX
        have hX' := hX
        obtain ⟨e0, e1, e2, e3, e4, e5, e6, e7, e8, e9, e10, f6, f7, f8, f10⟩ := hX
        have hSE : S < E := by omega
        have rA : W.cell? ⟨S, 1 + a, none⟩ = some (.int .i32 (s.r.getD a 0)) := (hbW.cell (p := ⟨S, 1 + a, none⟩) hS).trans (hst.reg a ha)
        have rB : W.cell? ⟨S, 1 + b, none⟩ = some (.int .i32 (s.r.getD b 0)) := (hbW.cell (p := ⟨S, 1 + b, none⟩) hS).trans (hst.reg b hb)
        have rC : W.cell? ⟨S, 1 + c, none⟩ = some (.int .i32 (s.r.getD c 0)) := (hbW.cell (p := ⟨S, 1 + c, none⟩) hS).trans (hst.reg c hc)
        have fA : ∀ k, W.frozen? ⟨S, k, none⟩ = false := fun k => (hbW.frozen (p := ⟨S, k, none⟩) hS).trans (hst.frozen k)
        have pC : W.cell? ⟨S, 0, none⟩ = some (.int .i64 pc) := (hbW.cell (p := ⟨S, 0, none⟩) hS).trans hPC
        have hH' : W.cell? ⟨S, 19, none⟩ = some (.int .i64 s.held) := (hbW.cell (p := ⟨S, 19, none⟩) hS).trans hH
        have hL' : W.cell? ⟨S, 18, none⟩ = some (.bool false) := (hbW.cell (p := ⟨S, 18, none⟩) hS).trans hL
        have hD' : W.cell? ⟨S, 17, none⟩ = some (.slice dp s.d.length dcap) := (hbW.cell (p := ⟨S, 17, none⟩) hS).trans hD
        have vA := hr32 a
        have vB := hr32 b
        have vC := hr32 c
        have hOW : OTab W := hO.below hbW hOw
        obtain ⟨mp, mcap, hmv⟩ := hm.shape; rw [hmv]; exact (prep_sts_neg E S a b c mem.length mcap i pc ((pc : Int) + 1) q.lk (s.r.getD a 0) (s.r.getD b 0) (s.r.getD c 0) mv pv W mp e0 e1 e2 e3 e4 e5 e6 e7 e8 e9 e10 f6 f7 f8 f10 hSE h2 hb rB vB.1 vB.2 hi hi1 hn).mono fun e w' ⟨he, hb⟩ => ⟨_, he, hb⟩
      · rintro e w' ⟨rfl, hbw⟩
        exact ⟨rfl, hbw⟩
    · have hstep : stepI q.lk 21 a b c i s mem inp = .error 10 := by simp [stepI, hq, -List.getD_eq_getElem?_getD]
      rw [hstep]
      refine (step_trap q.cb q.co q.nC q.ccap q.eb q.eo q.nE q.ecap t S pc s.d.length dcap 21 a b c q.sh q.lk q.st q.fin s.held x i q.nm dp mv pv w 10 (by decide) hT hS hPC (hst.frozen 0) hR hD hL hH heb htn he0 he1 he2 he3 hfit hcb hpc hpc1 hpc2 hpcb hcode hx0 hx1 hdec ?_).mono ?_
      · intro W E h1 h2 hbW hX
        have hX' := hX
        obtain ⟨e0, e1, e2, e3, e4, e5, e6, e7, e8, e9, e10, f6, f7, f8, f10⟩ := hX
        have hSE : S < E := by omega
        have rA : W.cell? ⟨S, 1 + a, none⟩ = some (.int .i32 (s.r.getD a 0)) := (hbW.cell (p := ⟨S, 1 + a, none⟩) hS).trans (hst.reg a ha)
        have rB : W.cell? ⟨S, 1 + b, none⟩ = some (.int .i32 (s.r.getD b 0)) := (hbW.cell (p := ⟨S, 1 + b, none⟩) hS).trans (hst.reg b hb)
        have rC : W.cell? ⟨S, 1 + c, none⟩ = some (.int .i32 (s.r.getD c 0)) := (hbW.cell (p := ⟨S, 1 + c, none⟩) hS).trans (hst.reg c hc)
        have fA : ∀ k, W.frozen? ⟨S, k, none⟩ = false := fun k => (hbW.frozen (p := ⟨S, k, none⟩) hS).trans (hst.frozen k)
        have pC : W.cell? ⟨S, 0, none⟩ = some (.int .i64 pc) := (hbW.cell (p := ⟨S, 0, none⟩) hS).trans hPC
        have hH' : W.cell? ⟨S, 19, none⟩ = some (.int .i64 s.held) := (hbW.cell (p := ⟨S, 19, none⟩) hS).trans hH
        have hL' : W.cell? ⟨S, 18, none⟩ = some (.bool false) := (hbW.cell (p := ⟨S, 18, none⟩) hS).trans hL
        have hD' : W.cell? ⟨S, 17, none⟩ = some (.slice dp s.d.length dcap) := (hbW.cell (p := ⟨S, 17, none⟩) hS).trans hD
        have vA := hr32 a
        have vB := hr32 b
        have vC := hr32 c
        have hOW : OTab W := hO.below hbW hOw
        obtain ⟨mp, mcap, hmv⟩ := hm.shape; rw [hmv]; exact (prep_sts_over E S a b c mem.length mcap i pc ((pc : Int) + 1) q.lk (s.r.getD a 0) (s.r.getD b 0) (s.r.getD c 0) mv pv W mp e0 e1 e2 e3 e4 e5 e6 e7 e8 e9 e10 f6 f7 f8 f10 hSE h2 hb rB vB.1 vB.2 hi hi1 (by omega) (by omega)).mono fun e w' ⟨he, hb⟩ => ⟨_, he, hb⟩
      · rintro e w' ⟨rfl, hbw⟩
        exact ⟨rfl, hbw⟩

inductive PortIn (w : World) (S : Nat) (dv mv pv : Value) (i v : Int) (PW : World → World) : Prop
  | none (h : pv = .nilFunc) (hv : v = 0) (hP : PW = id)
  | pure (pf : Nat) (pcaps : Array Value) (h : pv = .func (.func pf) #[] pcaps) (hent : Enters Tryd.prog pf) (hP : PW = id)
      (hcall : ∀ W, Below w.heap.size w W → Calls Tryd.prog pf (#[.int .i64 i] ++ pcaps) W (fun e w' => e = .returned (.int .i32 v) ∧ Below W.heap.size W w'))
  | st (pf : Nat) (pcaps : Array Value) (pa : Addr) (pval : Value) (h : pv = .func (.func pf) #[] pcaps) (hent : Enters Tryd.prog pf) (hP : PW = fun W => W.setCell pa pval) (hpw : pa.block < w.heap.size) (hpS : pa.block ≠ S) (hpd : dv.ownBlock ≠ some pa.block) (hpm : mv.ownBlock ≠ some pa.block)
      (hcall : ∀ W, Below w.heap.size w W → Calls Tryd.prog pf (#[.int .i64 i] ++ pcaps) W (fun e w' => e = .returned (.int .i32 v) ∧ Below W.heap.size (W.setCell pa pval) w'))

theorem stepI_in (q : ImN) (t S a b c pc : Nat) (s : St) (dv mv pv : Value) (mem : List Int) (x i inp : Int) (PW : World → World) (w : World) (R : Ready w q t S s dv mv mem pc x) (hdec : decV x = .tuple #[.agg #[.int .u8 26, .int .i64 a, .int .i64 b, .int .i64 c, .int .i64 i], .int .i64 0]) (ha : a < 16) (hb : b < 16) (hc : c < 16) (hi : -131072 ≤ i) (hi1 : i ≤ 131071) (hport : PortIn w S dv mv pv i inp PW) :
    Calls Tryd.prog 7 #[q.val, .int .i64 (t : Nat), .pointer (some ⟨S, 0, none⟩), mv, pv] w (StepPost w S dv mv PW 26 a b c i pc (stepI q.lk 26 a b c i s mem inp)) := by
  obtain ⟨hT, hO, hst, hd, hm, hdS, hmS, hdm, hr0, hr32, hfit, hal, heb, htn, he0, he1, he2, he3, hcb, hpc, hpc1, hpc2, hpcb, hpcs, hcode, hx0, hx1⟩ := R
  obtain ⟨dp, dcap, hdv⟩ := hd.shape
  have hS := hst.lt
  have hPC := hst.pc
  rw [hpcs] at hPC
  have hR : w.cell? ⟨S, 1, none⟩ = some (.int .i32 0) := by have h := hst.reg 0 (by omega); rw [hr0] at h; exact h
  have hD := hst.d
  rw [hdv] at hD
  have hL := hst.halted
  rw [hal] at hL
  have hH := hst.held
  have hOw : 1 < w.heap.size := hO.1
  cases hport with
  | none h hv hP =>
    subst h hv hP
    have hstep : stepI q.lk 26 a b c i s mem 0 = .ok ({ s with pc := s.pc + 1, r := if a = 0 then s.r else s.r.set a 0 }, mem, false, -1, 0) := by simp [stepI, -List.getD_eq_getElem?_getD]
    rw [hstep]
    refine (step_ok q.cb q.co q.nC q.ccap q.eb q.eo q.nE q.ecap t S pc s.d.length dcap 26 a b c q.sh q.lk q.st q.fin s.held x i q.nm dp mv .nilFunc w (setW w S a 0) false (-1) 0 ((pc : Int) + 1) hT hS hPC (hst.frozen 0) hR hD hL hH heb htn he0 he1 he2 he3 hfit hcb hpc hpc1 hpc2 hpcb hcode hx0 hx1 hdec ?_).mono ?_
    · intro W E h1 h2 hbW hX
      have hX' := hX
      obtain ⟨e0, e1, e2, e3, e4, e5, e6, e7, e8, e9, e10, f6, f7, f8, f10⟩ := hX
      have hSE : S < E := by omega
      have rA : W.cell? ⟨S, 1 + a, none⟩ = some (.int .i32 (s.r.getD a 0)) := (hbW.cell (p := ⟨S, 1 + a, none⟩) hS).trans (hst.reg a ha)
      have rB : W.cell? ⟨S, 1 + b, none⟩ = some (.int .i32 (s.r.getD b 0)) := (hbW.cell (p := ⟨S, 1 + b, none⟩) hS).trans (hst.reg b hb)
      have rC : W.cell? ⟨S, 1 + c, none⟩ = some (.int .i32 (s.r.getD c 0)) := (hbW.cell (p := ⟨S, 1 + c, none⟩) hS).trans (hst.reg c hc)
      have fA : ∀ k, W.frozen? ⟨S, k, none⟩ = false := fun k => (hbW.frozen (p := ⟨S, k, none⟩) hS).trans (hst.frozen k)
      have pC : W.cell? ⟨S, 0, none⟩ = some (.int .i64 pc) := (hbW.cell (p := ⟨S, 0, none⟩) hS).trans hPC
      have hH' : W.cell? ⟨S, 19, none⟩ = some (.int .i64 s.held) := (hbW.cell (p := ⟨S, 19, none⟩) hS).trans hH
      have hL' : W.cell? ⟨S, 18, none⟩ = some (.bool false) := (hbW.cell (p := ⟨S, 18, none⟩) hS).trans hL
      have hD' : W.cell? ⟨S, 17, none⟩ = some (.slice dp s.d.length dcap) := (hbW.cell (p := ⟨S, 17, none⟩) hS).trans hD
      have vA := hr32 a
      have vB := hr32 b
      have vC := hr32 c
      have hOW : OTab W := hO.below hbW hOw
      refine ⟨_, setW W S a 0, prep_in_nil E S a b c i pc ((pc : Int) + 1) q.lk (s.r.getD a 0) (s.r.getD b 0) (s.r.getD c 0) mv .nilFunc W e0 e1 e2 e3 e4 e5 e6 e7 e8 e9 e10 f6 f7 f8 f10 hSE h2 ha rA (fA _), hX'.done (fun k _ => setW_E hSE) ((setW_E hSE).trans e6) ((setW_E hSE).trans e7) ((setW_E hSE).trans e8) ((setW_E hSE).trans e10), setW_below hbW, setW_size, setW_pc.trans pC, setW_fr.trans (fA 0), fun k hk hkE => setW_heap (by omega)⟩
    · rintro e w' ⟨rfl, hbw⟩
      refine ⟨rfl, ?_⟩
      rw [hpcs, if_pos rfl]; exact step_done hbw hS ((Kept.refl _ _).setW (.inl rfl)) rfl setW_size (hst.setW a ha _) (hd.setW hdS) (hm.setW hmS) hdS hmS
  | pure pf pcaps h hent hP hcall =>
    subst h hP
    have hstep : stepI q.lk 26 a b c i s mem inp = .ok ({ s with pc := s.pc + 1, r := if a = 0 then s.r else s.r.set a inp }, mem, false, -1, inp) := by simp [stepI, -List.getD_eq_getElem?_getD]
    rw [hstep]
    refine (step_ok q.cb q.co q.nC q.ccap q.eb q.eo q.nE q.ecap t S pc s.d.length dcap 26 a b c q.sh q.lk q.st q.fin s.held x i q.nm dp mv (.func (.func pf) #[] pcaps) w (setW w S a inp) false (-1) inp ((pc : Int) + 1) hT hS hPC (hst.frozen 0) hR hD hL hH heb htn he0 he1 he2 he3 hfit hcb hpc hpc1 hpc2 hpcb hcode hx0 hx1 hdec ?_).mono ?_
    · intro W E h1 h2 hbW hX
      have hX' := hX
      obtain ⟨e0, e1, e2, e3, e4, e5, e6, e7, e8, e9, e10, f6, f7, f8, f10⟩ := hX
      have hSE : S < E := by omega
      have rA : W.cell? ⟨S, 1 + a, none⟩ = some (.int .i32 (s.r.getD a 0)) := (hbW.cell (p := ⟨S, 1 + a, none⟩) hS).trans (hst.reg a ha)
      have rB : W.cell? ⟨S, 1 + b, none⟩ = some (.int .i32 (s.r.getD b 0)) := (hbW.cell (p := ⟨S, 1 + b, none⟩) hS).trans (hst.reg b hb)
      have rC : W.cell? ⟨S, 1 + c, none⟩ = some (.int .i32 (s.r.getD c 0)) := (hbW.cell (p := ⟨S, 1 + c, none⟩) hS).trans (hst.reg c hc)
      have fA : ∀ k, W.frozen? ⟨S, k, none⟩ = false := fun k => (hbW.frozen (p := ⟨S, k, none⟩) hS).trans (hst.frozen k)
      have pC : W.cell? ⟨S, 0, none⟩ = some (.int .i64 pc) := (hbW.cell (p := ⟨S, 0, none⟩) hS).trans hPC
      have hH' : W.cell? ⟨S, 19, none⟩ = some (.int .i64 s.held) := (hbW.cell (p := ⟨S, 19, none⟩) hS).trans hH
      have hL' : W.cell? ⟨S, 18, none⟩ = some (.bool false) := (hbW.cell (p := ⟨S, 18, none⟩) hS).trans hL
      have hD' : W.cell? ⟨S, 17, none⟩ = some (.slice dp s.d.length dcap) := (hbW.cell (p := ⟨S, 17, none⟩) hS).trans hD
      have vA := hr32 a
      have vB := hr32 b
      have vC := hr32 c
      have hOW : OTab W := hO.below hbW hOw
      refine ⟨_, setW ((W).setCell ⟨E, 8, none⟩ (.int .i32 inp)) S a inp, prep_in_pure E S a b c i pc ((pc : Int) + 1) q.lk (s.r.getD a 0) (s.r.getD b 0) (s.r.getD c 0) inp mv mv W pf pcaps ⟨0, 0, none⟩ mv e0 e1 e2 e3 e4 e5 e6 e7 e8 e9 e10 f6 f7 f8 f10 hSE h2 ha rA (fA _) hent (fun W' hW' => hcall W' (below_then hbW hW' (Nat.le_of_lt (by omega)))), hX'.done (fun k _ => (setW_E hSE).trans (cellE (by omega))) ((setW_E hSE).trans ((cellE (by omega)).trans e6)) ((setW_E hSE).trans ((cellE (by omega)).trans e7)) ((setW_E hSE).trans (cellS e8)) ((setW_E hSE).trans ((cellE (by omega)).trans e10)), setW_below (bSet h1 hbW), setW_size.trans szS, setW_pc.trans ((cellB (by omega)).trans pC), setW_fr.trans (frS.trans (fA 0)), fun k hk hkE => (setW_heap (by omega)).trans (Below.heap_setCell _ _ _ _ (by show k ≠ E; omega))⟩
    · rintro e w' ⟨rfl, hbw⟩
      refine ⟨rfl, ?_⟩
      rw [hpcs, if_pos rfl]; exact step_done hbw hS ((Kept.refl _ _).setW (.inl rfl)) rfl setW_size (hst.setW a ha _) (hd.setW hdS) (hm.setW hmS) hdS hmS
  | st pf pcaps pa pval h hent hP hpw hpS hpd hpm hcall =>
    subst h hP
    have hstep : stepI q.lk 26 a b c i s mem inp = .ok ({ s with pc := s.pc + 1, r := if a = 0 then s.r else s.r.set a inp }, mem, false, -1, inp) := by simp [stepI, -List.getD_eq_getElem?_getD]
    rw [hstep]
    refine (step_ok q.cb q.co q.nC q.ccap q.eb q.eo q.nE q.ecap t S pc s.d.length dcap 26 a b c q.sh q.lk q.st q.fin s.held x i q.nm dp mv (.func (.func pf) #[] pcaps) w (setW (w.setCell pa pval) S a inp) false (-1) inp ((pc : Int) + 1) hT hS hPC (hst.frozen 0) hR hD hL hH heb htn he0 he1 he2 he3 hfit hcb hpc hpc1 hpc2 hpcb hcode hx0 hx1 hdec ?_).mono ?_
    · intro W E h1 h2 hbW hX
      have hX' := hX
      obtain ⟨e0, e1, e2, e3, e4, e5, e6, e7, e8, e9, e10, f6, f7, f8, f10⟩ := hX
      have hSE : S < E := by omega
      have rA : W.cell? ⟨S, 1 + a, none⟩ = some (.int .i32 (s.r.getD a 0)) := (hbW.cell (p := ⟨S, 1 + a, none⟩) hS).trans (hst.reg a ha)
      have rB : W.cell? ⟨S, 1 + b, none⟩ = some (.int .i32 (s.r.getD b 0)) := (hbW.cell (p := ⟨S, 1 + b, none⟩) hS).trans (hst.reg b hb)
      have rC : W.cell? ⟨S, 1 + c, none⟩ = some (.int .i32 (s.r.getD c 0)) := (hbW.cell (p := ⟨S, 1 + c, none⟩) hS).trans (hst.reg c hc)
      have fA : ∀ k, W.frozen? ⟨S, k, none⟩ = false := fun k => (hbW.frozen (p := ⟨S, k, none⟩) hS).trans (hst.frozen k)
      have pC : W.cell? ⟨S, 0, none⟩ = some (.int .i64 pc) := (hbW.cell (p := ⟨S, 0, none⟩) hS).trans hPC
      have hH' : W.cell? ⟨S, 19, none⟩ = some (.int .i64 s.held) := (hbW.cell (p := ⟨S, 19, none⟩) hS).trans hH
      have hL' : W.cell? ⟨S, 18, none⟩ = some (.bool false) := (hbW.cell (p := ⟨S, 18, none⟩) hS).trans hL
      have hD' : W.cell? ⟨S, 17, none⟩ = some (.slice dp s.d.length dcap) := (hbW.cell (p := ⟨S, 17, none⟩) hS).trans hD
      have vA := hr32 a
      have vB := hr32 b
      have vC := hr32 c
      have hOW : OTab W := hO.below hbW hOw
      have kE : ∀ k, (W.setCell pa pval).cell? ⟨E, k, none⟩ = W.cell? ⟨E, k, none⟩ := fun k => World.cell?_setCell_other _ _ _ _ (by intro e; rw [e] at hpw; simp at hpw; omega)
      have kS : (W.setCell pa pval).cell? ⟨S, 0, none⟩ = W.cell? ⟨S, 0, none⟩ := World.cell?_setCell_other _ _ _ _ (by intro e; rw [e] at hpS; exact hpS rfl)
      refine ⟨_, setW (((W.setCell pa pval)).setCell ⟨E, 8, none⟩ (.int .i32 inp)) S a inp, prep_in_st E S a b c i pc ((pc : Int) + 1) q.lk (s.r.getD a 0) (s.r.getD b 0) (s.r.getD c 0) inp mv mv W pf pcaps pa pval e0 e1 e2 e3 e4 e5 e6 e7 e8 e9 e10 f6 f7 f8 f10 hSE h2 ha rA (fA _) (by omega) hpS (by omega) hent (fun W' hW' => hcall W' (below_then hbW hW' (Nat.le_of_lt (by omega)))), hX'.done (fun k _ => (setW_E hSE).trans ((cellE (by omega)).trans (kE k))) ((setW_E hSE).trans ((cellE (by omega)).trans ((kE 6).trans e6))) ((setW_E hSE).trans ((cellE (by omega)).trans ((kE 7).trans e7))) ((setW_E hSE).trans (cellS ((kE 8).trans e8))) ((setW_E hSE).trans ((cellE (by omega)).trans ((kE 10).trans e10))), setW_below (bSet h1 (bBoth hbW)), (setW_size.trans szS).trans szS, setW_pc.trans ((cellB (by omega)).trans (kS.trans pC)), setW_fr.trans (frS.trans (frS.trans (fA 0))), fun k hk hkE => (setW_heap (by omega)).trans ((Below.heap_setCell _ _ _ _ (by show k ≠ E; omega)).trans (Below.heap_setCell _ _ _ _ (by omega)))⟩
    · rintro e w' ⟨rfl, hbw⟩
      refine ⟨rfl, ?_⟩
      rw [hpcs, if_pos rfl]; exact step_done hbw hS ((Kept.refl _ _).setW (.inl rfl)) szS (setW_size.trans szS) ((hst.other (fun e => hpS e) _).setW a ha _) ((hd.other hpd _).setW hdS) ((hm.other hpm _).setW hmS) hdS hmS

end Go.Proofs.YtdfofelchjpioaaDoor

set_option linter.unusedVariables false
set_option linter.unusedSimpArgs false
namespace Go.Proofs.YtdfofelchjpioaaDoor
open Go.RowKit

structure En where
  nm : ByteArray
  st : Int
  fin : Int
  dat : Int
instance : Inhabited En := ⟨⟨⟨#[]⟩, 0, 0, 0⟩⟩
structure Im where
  code : List Int
  ents : List En
  sh : Int
  lk : Int

structure ImAt (w : World) (v : Value) (im : Im) : Prop where
  parts : ∃ cp ccap ep ecap, v = .agg #[.slice cp im.code.length ccap, .slice ep im.ents.length ecap, .int .i64 im.sh, .int .i64 im.lk] ∧
    (im.code = [] ∨ ∃ cb co, cp = some ⟨cb, co, none⟩ ∧ cb < w.heap.size ∧ ∀ k, k < im.code.length → w.cell? ⟨cb, co + k, none⟩ = some (.int .u32 (im.code.getD k 0))) ∧
    (im.ents = [] ∨ ∃ eb eo, ep = some ⟨eb, eo, none⟩ ∧ eb < w.heap.size ∧ ∀ k, k < im.ents.length → w.cell? ⟨eb, eo + k * 4, none⟩ = some (.string (im.ents.getD k default).nm) ∧
      w.cell? ⟨eb, eo + k * 4 + 1, none⟩ = some (.int .i64 (im.ents.getD k default).st) ∧ w.cell? ⟨eb, eo + k * 4 + 2, none⟩ = some (.int .i64 (im.ents.getD k default).fin) ∧ w.cell? ⟨eb, eo + k * 4 + 3, none⟩ = some (.int .i64 (im.ents.getD k default).dat))
  words : ∀ k, k < im.code.length → 0 ≤ im.code.getD k 0 ∧ im.code.getD k 0 < 4294967296
  short : im.code.length ≤ 140737488351232

theorem ImAt.below {B : Nat} {w w' : World} {v : Value} {im : Im} (h : ImAt w v im) (hb : Below B w w') (hB : w.heap.size ≤ B) : ImAt w' v im := by
  obtain ⟨⟨cp, ccap, ep, ecap, rfl, hc, he⟩, hw, hs⟩ := h
  refine ⟨⟨cp, ccap, ep, ecap, rfl, ?_, ?_⟩, hw, hs⟩
  · rcases hc with hc | ⟨cb, co, rfl, hcb, hc⟩
    · exact .inl hc
    · exact .inr ⟨cb, co, rfl, Nat.lt_of_lt_of_le hcb hb.size, fun k hk => (hb.cell (p := ⟨cb, co + k, none⟩) (Nat.lt_of_lt_of_le hcb hB)).trans (hc k hk)⟩
  · rcases he with he | ⟨eb, eo, rfl, heb, he⟩
    · exact .inl he
    · have hlt := Nat.lt_of_lt_of_le heb hB
      exact .inr ⟨eb, eo, rfl, Nat.lt_of_lt_of_le heb hb.size, fun k hk => ⟨(hb.cell (p := ⟨eb, eo + k * 4, none⟩) hlt).trans (he k hk).1, (hb.cell (p := ⟨eb, eo + k * 4 + 1, none⟩) hlt).trans (he k hk).2.1, (hb.cell (p := ⟨eb, eo + k * 4 + 2, none⟩) hlt).trans (he k hk).2.2.1, (hb.cell (p := ⟨eb, eo + k * 4 + 3, none⟩) hlt).trans (he k hk).2.2.2⟩⟩

def fitP (im : Im) (t : Int) (s : St) : Bool :=
  decide (0 ≤ t ∧ t < im.ents.length ∧ (s.d.length : Int) = (im.ents.getD t.toNat default).dat ∧ s.r.getD 0 0 = 0 ∧ (s.held = -1 ∨ (0 ≤ s.held ∧ s.held < im.lk)))

theorem fits_all (imv : Value) (im : Im) (t : Int) (S : Nat) (s : St) (dv : Value) (w : World) (hi : ImAt w imv im) (hst : StAt w S s dv) (hd : ∃ p cap, dv = .slice p s.d.length cap) :
    Calls Tryd.prog 16 #[imv, .int .i64 t, .pointer (some ⟨S, 0, none⟩)] w fun e w' => e = .returned (.bool (fitP im t s)) ∧ Below w.heap.size w w' := by
  obtain ⟨⟨cp, ccap, ep, ecap, rfl, _, he⟩, _, _⟩ := hi
  obtain ⟨dp, dcap, rfl⟩ := hd
  have hS := hst.lt
  have hD := hst.d
  have hH := hst.held
  have hR : w.cell? ⟨S, 1, none⟩ = some (.int .i32 (s.r.getD 0 0)) := hst.reg 0 (by omega)
  by_cases h0 : 0 ≤ t
  · by_cases h1 : t < im.ents.length
    · rcases he with he | ⟨eb, eo, rfl, heb, he⟩
      · rw [he] at h1; simp at h1; omega
      · obtain ⟨k, rfl⟩ := Int.eq_ofNat_of_zero_le h0
        have hk : k < im.ents.length := by omega
        have hkd : decide (k < im.ents.length) = true := by simpa using hk
        obtain ⟨_, _, _, het⟩ := he k hk
        by_cases h2 : (s.d.length : Int) = (im.ents.getD k default).dat
        · rw [← h2] at het
          by_cases h3 : s.r.getD 0 0 = 0
          · rw [h3] at hR
            by_cases h4 : s.held = -1
            · have hf : fitP im k s = true := by simp only [fitP, decide_eq_true_eq, Int.toNat_natCast]; exact ⟨h0, h1, h2, h3, .inl h4⟩
              rw [hf]
              rw [h4] at hH
              exact fits_ok1 _ none dp S _ ecap _ dcap eb eo k im.sh im.lk 0 0 0 w heb het hS hD hR hH hk h1 hkd
            · by_cases h5 : 0 ≤ s.held
              · by_cases h6 : s.held < im.lk
                · have hf : fitP im k s = true := by simp only [fitP, decide_eq_true_eq, Int.toNat_natCast]; exact ⟨h0, h1, h2, h3, .inr ⟨h5, h6⟩⟩
                  rw [hf]
                  exact fits_ok2 _ none dp S _ ecap _ dcap eb eo k im.sh im.lk 0 0 s.held w heb het hS hD hR hH hk h1 hkd h5 (by simpa using h5) (by omega) h6 (by simpa using h6)
                · have hf : fitP im k s = false := by simp only [fitP, decide_eq_false_iff_not]; rintro ⟨_, _, _, _, h⟩; rcases h with h | h <;> omega
                  rw [hf]
                  exact fits_locks _ none dp S _ ecap _ dcap eb eo k im.sh im.lk 0 0 s.held w heb het hS hD hR hH hk h1 hkd h5 (by simpa using h5) (by omega) (by omega) (by simp; omega)
              · have hf : fitP im k s = false := by simp only [fitP, decide_eq_false_iff_not]; rintro ⟨_, _, _, _, h⟩; rcases h with h | h <;> omega
                rw [hf]
                exact fits_held _ none dp S _ ecap _ dcap eb eo k im.sh im.lk 0 0 s.held w heb het hS hD hR hH hk h1 hkd (by omega) (by simp; omega)
          · have hf : fitP im k s = false := by simp only [fitP, decide_eq_false_iff_not]; rintro ⟨_, _, _, h, _⟩; exact h3 h
            rw [hf]
            exact fits_r0 _ none dp S _ ecap _ dcap eb eo k im.sh im.lk 0 (s.r.getD 0 0) s.held w heb het hS hD hR hH hk h1 hkd (beq_false_of_ne h3)
        · have hf : fitP im k s = false := by simp only [fitP, decide_eq_false_iff_not, Int.toNat_natCast]; rintro ⟨_, _, h, _, _⟩; exact h2 h
          rw [hf]
          exact fits_len _ none dp S _ ecap _ dcap eb eo k im.sh im.lk _ (s.r.getD 0 0) s.held w heb het hS hD hR hH hk h1 hkd (beq_false_of_ne h2)
    · have hf : fitP im t s = false := by simp only [fitP, decide_eq_false_iff_not]; rintro ⟨_, h, _⟩; exact h1 h
      rw [hf]
      exact fits_over _ ep dp S _ ecap _ dcap im.sh im.lk 0 (s.r.getD 0 0) s.held t w hS hD hR hH h0 (by omega) (by simp; omega)
  · have hf : fitP im t s = false := by simp only [fitP, decide_eq_false_iff_not]; rintro ⟨h, _⟩; exact h0 h
    rw [hf]
    exact fits_neg _ ep dp S _ ecap _ dcap im.sh im.lk 0 (s.r.getD 0 0) s.held t w hS hD hR hH (by omega) (by simpa using h0)

end Go.Proofs.YtdfofelchjpioaaDoor

