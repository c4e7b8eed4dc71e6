/- core.Step over the pure step: lemmas. -/
import Derived.Test.YtpachmkklppmjaaDoorCorM
import Derived.Test.YtpachmkklppmjaaDoorCorE
import Derived.Test.YtpachmkklppmjaaDoorCorF
import Derived.Test.YtpachmkklppmjaaDoorCorG
import Derived.Test.YtpachmkklppmjaaDoorCorH
import Derived.Test.YtpachmkklppmjaaDoorCorI
import Derived.Test.YtpachmkklppmjaaDoorCorJ
import Derived.Test.YtpachmkklppmjaaDoorCorK
import Derived.Test.YtpachmkklppmjaaDoorCorL
set_option linter.unusedVariables false
set_option linter.unusedSimpArgs false
namespace Go.Proofs.YtpachmkklppmjaaDoor
open Go.RowKit

theorem setW_E {W : World} {S a E k : Nat} {v : Int} (h : S < E) : (setW W S a v).cell? ⟨E, k, none⟩ = W.cell? ⟨E, k, none⟩ := by
  unfold setW; split
  · rfl
  · exact World.cell?_setCell_other _ _ _ _ (by intro e; injection e with e1 e2; omega)
theorem setW_pc {W : World} {S a : Nat} {v : Int} : (setW W S a v).cell? ⟨S, 0, none⟩ = W.cell? ⟨S, 0, none⟩ := by
  unfold setW; split
  · rfl
  · exact World.cell?_setCell_other _ _ _ _ (by intro e; injection e with e1 e2; omega)
theorem setW_fr {W : World} {S a : Nat} {v : Int} {p : Addr} : (setW W S a v).frozen? p = W.frozen? p := by
  unfold setW; split
  · rfl
  · simp [go_sem]
theorem setW_size {W : World} {S a : Nat} {v : Int} : (setW W S a v).heap.size = W.heap.size := by
  unfold setW; split
  · rfl
  · simp [World.setCell]
theorem setW_heap {W : World} {S a k : Nat} {v : Int} (h : k ≠ S) : (setW W S a v).heap[k]? = W.heap[k]? := by
  unfold setW; split
  · rfl
  · exact Below.heap_setCell _ _ _ _ h
theorem setW_below {B : Nat} {w W : World} {S a : Nat} {v : Int} (h : Below B w W) : Below B (setW w S a v) (setW W S a v) := by
  unfold setW; split
  · exact h
  · exact bBoth h
theorem StAt.setW {w : World} {S : Nat} {s : St} {dv : Value} (h : StAt w S s dv) (a : Nat) (ha : a < 16) (v : Int) : StAt (setW w S a v) S { s with r := if a = 0 then s.r else s.r.set a v } dv := by
  unfold Go.Proofs.YtpachmkklppmjaaDoor.setW; split
  · exact h
  · exact h.setReg a ha v
theorem MemAt.setW {w : World} {u : Value} {xs : List Int} (h : MemAt w u xs) {S a : Nat} {v : Int} (hS : u.ownBlock ≠ some S) : MemAt (setW w S a v) u xs := by
  unfold Go.Proofs.YtpachmkklppmjaaDoor.setW; split
  · exact h
  · exact h.other hS _
theorem Kept.setW {F : Nat → Prop} {w X : World} (h : Kept F w X) {S a : Nat} {v : Int} (hS : F S) : Kept F w (setW X S a v) := by
  unfold Go.Proofs.YtpachmkklppmjaaDoor.setW; split
  · exact h
  · exact h.setCell hS _
theorem MemAt.below {B : Nat} {w w' : World} {v : Value} {xs : List Int} (h : MemAt w v xs) (hb : Below B w w') (hB : w.heap.size ≤ B) : MemAt w' v xs := by
  obtain ⟨p, cap, rfl, h⟩ := h
  refine ⟨p, cap, rfl, ?_⟩
  rcases h with h | ⟨m, pre, post, rfl, h⟩
  · exact .inl h
  · exact .inr ⟨m, pre, post, rfl, h.below hb (Nat.lt_of_lt_of_le h.lt hB)⟩

theorem ExAt.done {W ST : World} {E n a b c : Nat} {i : Int} {pc S : Nat} {tk : Bool} {ad vl nx : Int} (hX : ExAt W E n a b c i pc S) (hs : ∀ k, k < 6 → ST.cell? ⟨E, k, none⟩ = W.cell? ⟨E, k, none⟩)
    (h6 : ST.cell? ⟨E, 6, none⟩ = some (.bool tk)) (h7 : ST.cell? ⟨E, 7, none⟩ = some (.int .i64 ad)) (h8 : ST.cell? ⟨E, 8, none⟩ = some (.int .i32 vl)) (h10 : ST.cell? ⟨E, 10, none⟩ = some (.int .i64 nx)) : ExDone ST E n a b c i pc tk ad vl nx :=
  ⟨(hs 0 (by omega)).trans hX.e0, (hs 1 (by omega)).trans hX.e1, (hs 2 (by omega)).trans hX.e2, (hs 3 (by omega)).trans hX.e3, (hs 4 (by omega)).trans hX.e4, (hs 5 (by omega)).trans hX.e5, h6, h7, h8, h10⟩

theorem step_done {w STW w' X : World} {S : Nat} {dv mv : Value} {s : St} {d mem : List Int} {nx : Int} (hb : Below w.heap.size (STW.setCell ⟨S, 0, none⟩ (.int .i64 nx)) w') (hS : S < w.heap.size) (hk : Kept (OwnF S dv mv) X STW) (hXs : X.heap.size = w.heap.size) (hz : STW.heap.size = w.heap.size)
    (hs : StAt STW S s dv) (hd : MemAt STW dv d) (hm : MemAt STW mv mem) (hdS : dv.ownBlock ≠ some S) (hmS : mv.ownBlock ≠ some S) :
    Kept (OwnF S dv mv) X w' ∧ StAt w' S { s with pc := nx } dv ∧ MemAt w' dv d ∧ MemAt w' mv mem :=
  have hz' : (STW.setCell ⟨S, 0, none⟩ (.int .i64 nx)).heap.size ≤ w.heap.size := by simp [World.setCell, hz]
  ⟨(hk.setCell (p := ⟨S, 0, none⟩) (.inl rfl) _).then (hXs ▸ hb), (hs.setPc nx).below hb hS, (hd.other (p := ⟨S, 0, none⟩) hdS _).below hb hz', (hm.other (p := ⟨S, 0, none⟩) hmS _).below hb hz'⟩

/-- The numbers of an image's value. -/
structure ImN where
  cb : Nat
  co : Nat
  nC : Nat
  ccap : Nat
  eb : Nat
  eo : Nat
  nE : Nat
  ecap : Nat
  sh : Int
  lk : Int
  st : Int
  fin : Int
  nm : ByteArray
def ImN.val (q : ImN) : Value := .agg #[.slice (some ⟨q.cb, q.co, none⟩) q.nC q.ccap, .slice (some ⟨q.eb, q.eo, none⟩) q.nE q.ecap, .int .i64 q.sh, .int .i64 q.lk]

/-- All lies ready for an instruction's execution. -/
structure Ready (w : World) (q : ImN) (t S : Nat) (s : St) (dv mv : Value) (mem : List Int) (pc : Nat) (x : Int) : Prop where
  tab : Tab w
  otab : OTab w
  stAt : StAt w S s dv
  dAt : MemAt w dv s.d
  mAt : MemAt w mv mem
  dS : dv.ownBlock ≠ some S
  mS : mv.ownBlock ≠ some S
  dm : ∀ m, dv.ownBlock = some m → mv.ownBlock ≠ some m
  r0 : s.r.getD 0 0 = 0
  r32 : ∀ k, W32 (s.r.getD k 0)
  fit : s.held = -1 ∨ (0 ≤ s.held ∧ s.held < q.lk)
  alive : s.halted = false
  eb : q.eb < w.heap.size
  tn : t < q.nE
  e0 : w.cell? ⟨q.eb, q.eo + t * 4, none⟩ = some (.string q.nm)
  e1 : w.cell? ⟨q.eb, q.eo + t * 4 + 1, none⟩ = some (.int .i64 q.st)
  e2 : w.cell? ⟨q.eb, q.eo + t * 4 + 2, none⟩ = some (.int .i64 q.fin)
  e3 : w.cell? ⟨q.eb, q.eo + t * 4 + 3, none⟩ = some (.int .i64 s.d.length)
  cb : q.cb < w.heap.size
  pcn : pc < q.nC
  pc1 : q.st ≤ pc
  pc2 : (pc : Int) < q.fin
  pcb : pc ≤ 140737488351232
  pcs : s.pc = pc
  code : w.cell? ⟨q.cb, q.co + pc, none⟩ = some (.int .u32 x)
  x0 : 0 ≤ x
  x1 : x < 4294967296

theorem cellE {W : World} {E j k : Nat} {v : Value} (h : j ≠ k) : (W.setCell ⟨E, k, none⟩ v).cell? ⟨E, j, none⟩ = W.cell? ⟨E, j, none⟩ := World.cell?_setCell_other _ _ _ _ (by intro e; injection e with e1 e2; exact h e2.symm)
theorem cellB {W : World} {E B j k : Nat} {v : Value} (h : B ≠ E) : (W.setCell ⟨E, k, none⟩ v).cell? ⟨B, j, none⟩ = W.cell? ⟨B, j, none⟩ := World.cell?_setCell_other _ _ _ _ (by intro e; injection e with e1 e2; exact h e1.symm)
theorem cellS {W : World} {E k : Nat} {u v : Value} (h : W.cell? ⟨E, k, none⟩ = some u) : (W.setCell ⟨E, k, none⟩ v).cell? ⟨E, k, none⟩ = some v := World.cell?_setCell_same _ _ _ h
theorem frS {W : World} {p q : Addr} {v : Value} : (W.setCell p v).frozen? q = W.frozen? q := by simp [go_sem]
theorem szS {W : World} {p : Addr} {v : Value} : (W.setCell p v).heap.size = W.heap.size := by simp [World.setCell]

theorem stepI_nop (q : ImN) (t S a b c pc : Nat) (s : St) (dv mv pv : Value) (mem : List Int) (x i inp : Int) (PW : World → World) (w : World) (R : Ready w q t S s dv mv mem pc x) (hdec : decV x = .tuple #[.agg #[.int .u8 0, .int .i64 a, .int .i64 b, .int .i64 c, .int .i64 i], .int .i64 0]) (ha : a < 16) (hb : b < 16) (hc : c < 16) (hi : -131072 ≤ i) (hi1 : i ≤ 131071)  :
    Calls Tryd.prog 23 #[q.val, .int .i64 (t : Nat), .pointer (some ⟨S, 0, none⟩), mv, pv] w (StepPost w S dv mv PW 0 a b c i pc (stepI q.lk 0 a b c i s mem inp)) := by
  obtain ⟨hT, hO, hst, hd, hm, hdS, hmS, hdm, hr0, hr32, hfit, hal, heb, htn, he0, he1, he2, he3, hcb, hpc, hpc1, hpc2, hpcb, hpcs, hcode, hx0, hx1⟩ := R
  obtain ⟨dp, dcap, hdv⟩ := hd.shape
  have hS := hst.lt
  have hPC := hst.pc
  rw [hpcs] at hPC
  have hR : w.cell? ⟨S, 1, none⟩ = some (.int .i32 0) := by have h := hst.reg 0 (by omega); rw [hr0] at h; exact h
  have hD := hst.d
  rw [hdv] at hD
  have hL := hst.halted
  rw [hal] at hL
  have hH := hst.held
  have hOw : 1 < w.heap.size := hO.1
  have hstep : stepI q.lk 0 a b c i s mem inp = .ok ({ s with pc := s.pc + 1 }, mem, false, -1, 0) := by simp [stepI, -List.getD_eq_getElem?_getD]
  rw [hstep]
  refine (step_ok q.cb q.co q.nC q.ccap q.eb q.eo q.nE q.ecap t S pc s.d.length dcap 0 a b c q.sh q.lk q.st q.fin s.held x i q.nm dp mv pv w (w) false (-1) 0 ((pc : Int) + 1) hT hS hPC (hst.frozen 0) hR hD hL hH heb htn he0 he1 he2 he3 hfit hcb hpc hpc1 hpc2 hpcb hcode hx0 hx1 hdec ?_).mono ?_
  · intro W E h1 h2 hbW hX
    have hX' := hX
    obtain ⟨e0, e1, e2, e3, e4, e5, e6, e7, e8, e9, e10, f6, f7, f8, f10⟩ := hX
    have hSE : S < E := by omega
    have rA : W.cell? ⟨S, 1 + a, none⟩ = some (.int .i32 (s.r.getD a 0)) := (hbW.cell (p := ⟨S, 1 + a, none⟩) hS).trans (hst.reg a ha)
    have rB : W.cell? ⟨S, 1 + b, none⟩ = some (.int .i32 (s.r.getD b 0)) := (hbW.cell (p := ⟨S, 1 + b, none⟩) hS).trans (hst.reg b hb)
    have rC : W.cell? ⟨S, 1 + c, none⟩ = some (.int .i32 (s.r.getD c 0)) := (hbW.cell (p := ⟨S, 1 + c, none⟩) hS).trans (hst.reg c hc)
    have fA : ∀ k, W.frozen? ⟨S, k, none⟩ = false := fun k => (hbW.frozen (p := ⟨S, k, none⟩) hS).trans (hst.frozen k)
    have pC : W.cell? ⟨S, 0, none⟩ = some (.int .i64 pc) := (hbW.cell (p := ⟨S, 0, none⟩) hS).trans hPC
    have hH' : W.cell? ⟨S, 19, none⟩ = some (.int .i64 s.held) := (hbW.cell (p := ⟨S, 19, none⟩) hS).trans hH
    have hL' : W.cell? ⟨S, 18, none⟩ = some (.bool false) := (hbW.cell (p := ⟨S, 18, none⟩) hS).trans hL
    have hD' : W.cell? ⟨S, 17, none⟩ = some (.slice dp s.d.length dcap) := (hbW.cell (p := ⟨S, 17, none⟩) hS).trans hD
    have vA := hr32 a
    have vB := hr32 b
    have vC := hr32 c
    have hOW : OTab W := hO.below hbW hOw
    refine ⟨_, W, prep_nop E S a b c i pc ((pc : Int) + 1) q.lk (s.r.getD a 0) (s.r.getD b 0) (s.r.getD c 0) mv pv W e0 e1 e2 e3 e4 e5 e6 e7 e8 e9 e10 f6 f7 f8 f10 hSE h2, hX'.done (fun k _ => rfl) e6 e7 e8 e10, hbW, rfl, pC, fA 0, fun k _ _ => rfl⟩
  · rintro e w' ⟨rfl, hbw⟩
    refine ⟨rfl, ?_⟩
    rw [hpcs]; exact step_done hbw hS (Kept.refl _ _) rfl rfl hst hd hm hdS hmS

theorem stepI_li (q : ImN) (t S a b c pc : Nat) (s : St) (dv mv pv : Value) (mem : List Int) (x i inp : Int) (PW : World → World) (w : World) (R : Ready w q t S s dv mv mem pc x) (hdec : decV x = .tuple #[.agg #[.int .u8 14, .int .i64 a, .int .i64 b, .int .i64 c, .int .i64 i], .int .i64 0]) (ha : a < 16) (hb : b < 16) (hc : c < 16) (hi : -131072 ≤ i) (hi1 : i ≤ 131071)  :
    Calls Tryd.prog 23 #[q.val, .int .i64 (t : Nat), .pointer (some ⟨S, 0, none⟩), mv, pv] w (StepPost w S dv mv PW 14 a b c i pc (stepI q.lk 14 a b c i s mem inp)) := by
  obtain ⟨hT, hO, hst, hd, hm, hdS, hmS, hdm, hr0, hr32, hfit, hal, heb, htn, he0, he1, he2, he3, hcb, hpc, hpc1, hpc2, hpcb, hpcs, hcode, hx0, hx1⟩ := R
  obtain ⟨dp, dcap, hdv⟩ := hd.shape
  have hS := hst.lt
  have hPC := hst.pc
  rw [hpcs] at hPC
  have hR : w.cell? ⟨S, 1, none⟩ = some (.int .i32 0) := by have h := hst.reg 0 (by omega); rw [hr0] at h; exact h
  have hD := hst.d
  rw [hdv] at hD
  have hL := hst.halted
  rw [hal] at hL
  have hH := hst.held
  have hOw : 1 < w.heap.size := hO.1
  have hstep : stepI q.lk 14 a b c i s mem inp = .ok ({ s with pc := s.pc + 1, r := if a = 0 then s.r else s.r.set a (i) }, mem, false, -1, 0) := by simp [stepI, -List.getD_eq_getElem?_getD]
  rw [hstep]
  refine (step_ok q.cb q.co q.nC q.ccap q.eb q.eo q.nE q.ecap t S pc s.d.length dcap 14 a b c q.sh q.lk q.st q.fin s.held x i q.nm dp mv pv w (setW w S a (i)) false (-1) 0 ((pc : Int) + 1) hT hS hPC (hst.frozen 0) hR hD hL hH heb htn he0 he1 he2 he3 hfit hcb hpc hpc1 hpc2 hpcb hcode hx0 hx1 hdec ?_).mono ?_
  · intro W E h1 h2 hbW hX
    have hX' := hX
    obtain ⟨e0, e1, e2, e3, e4, e5, e6, e7, e8, e9, e10, f6, f7, f8, f10⟩ := hX
    have hSE : S < E := by omega
    have rA : W.cell? ⟨S, 1 + a, none⟩ = some (.int .i32 (s.r.getD a 0)) := (hbW.cell (p := ⟨S, 1 + a, none⟩) hS).trans (hst.reg a ha)
    have rB : W.cell? ⟨S, 1 + b, none⟩ = some (.int .i32 (s.r.getD b 0)) := (hbW.cell (p := ⟨S, 1 + b, none⟩) hS).trans (hst.reg b hb)
    have rC : W.cell? ⟨S, 1 + c, none⟩ = some (.int .i32 (s.r.getD c 0)) := (hbW.cell (p := ⟨S, 1 + c, none⟩) hS).trans (hst.reg c hc)
    have fA : ∀ k, W.frozen? ⟨S, k, none⟩ = false := fun k => (hbW.frozen (p := ⟨S, k, none⟩) hS).trans (hst.frozen k)
    have pC : W.cell? ⟨S, 0, none⟩ = some (.int .i64 pc) := (hbW.cell (p := ⟨S, 0, none⟩) hS).trans hPC
    have hH' : W.cell? ⟨S, 19, none⟩ = some (.int .i64 s.held) := (hbW.cell (p := ⟨S, 19, none⟩) hS).trans hH
    have hL' : W.cell? ⟨S, 18, none⟩ = some (.bool false) := (hbW.cell (p := ⟨S, 18, none⟩) hS).trans hL
    have hD' : W.cell? ⟨S, 17, none⟩ = some (.slice dp s.d.length dcap) := (hbW.cell (p := ⟨S, 17, none⟩) hS).trans hD
    have vA := hr32 a
    have vB := hr32 b
    have vC := hr32 c
    have hOW : OTab W := hO.below hbW hOw
    refine ⟨_, setW W S a (i), prep_li E S a b c i pc ((pc : Int) + 1) q.lk (s.r.getD a 0) (s.r.getD b 0) (s.r.getD c 0) mv pv W e0 e1 e2 e3 e4 e5 e6 e7 e8 e9 e10 f6 f7 f8 f10 hSE h2 ha rA (fA _) hi hi1, hX'.done (fun k _ => setW_E hSE) ((setW_E hSE).trans e6) ((setW_E hSE).trans e7) ((setW_E hSE).trans e8) ((setW_E hSE).trans e10), setW_below hbW, setW_size, setW_pc.trans pC, setW_fr.trans (fA 0), fun k hk hkE => setW_heap (by omega)⟩
  · rintro e w' ⟨rfl, hbw⟩
    refine ⟨rfl, ?_⟩
    rw [hpcs]; exact step_done hbw hS ((Kept.refl _ _).setW (.inl rfl)) rfl setW_size (hst.setW a ha _) (hd.setW hdS) (hm.setW hmS) hdS hmS

theorem stepI_addi (q : ImN) (t S a b c pc : Nat) (s : St) (dv mv pv : Value) (mem : List Int) (x i inp : Int) (PW : World → World) (w : World) (R : Ready w q t S s dv mv mem pc x) (hdec : decV x = .tuple #[.agg #[.int .u8 15, .int .i64 a, .int .i64 b, .int .i64 c, .int .i64 i], .int .i64 0]) (ha : a < 16) (hb : b < 16) (hc : c < 16) (hi : -131072 ≤ i) (hi1 : i ≤ 131071)  :
    Calls Tryd.prog 23 #[q.val, .int .i64 (t : Nat), .pointer (some ⟨S, 0, none⟩), mv, pv] w (StepPost w S dv mv PW 15 a b c i pc (stepI q.lk 15 a b c i s mem inp)) := by
  obtain ⟨hT, hO, hst, hd, hm, hdS, hmS, hdm, hr0, hr32, hfit, hal, heb, htn, he0, he1, he2, he3, hcb, hpc, hpc1, hpc2, hpcb, hpcs, hcode, hx0, hx1⟩ := R
  obtain ⟨dp, dcap, hdv⟩ := hd.shape
  have hS := hst.lt
  have hPC := hst.pc
  rw [hpcs] at hPC
  have hR : w.cell? ⟨S, 1, none⟩ = some (.int .i32 0) := by have h := hst.reg 0 (by omega); rw [hr0] at h; exact h
  have hD := hst.d
  rw [hdv] at hD
  have hL := hst.halted
  rw [hal] at hL
  have hH := hst.held
  have hOw : 1 < w.heap.size := hO.1
  have hstep : stepI q.lk 15 a b c i s mem inp = .ok ({ s with pc := s.pc + 1, r := if a = 0 then s.r else s.r.set a (wrap32 (s.r.getD b 0 + i)) }, mem, false, -1, 0) := by simp [stepI, -List.getD_eq_getElem?_getD]
  rw [hstep]
  refine (step_ok q.cb q.co q.nC q.ccap q.eb q.eo q.nE q.ecap t S pc s.d.length dcap 15 a b c q.sh q.lk q.st q.fin s.held x i q.nm dp mv pv w (setW w S a (wrap32 (s.r.getD b 0 + i))) false (-1) 0 ((pc : Int) + 1) hT hS hPC (hst.frozen 0) hR hD hL hH heb htn he0 he1 he2 he3 hfit hcb hpc hpc1 hpc2 hpcb hcode hx0 hx1 hdec ?_).mono ?_
  · intro W E h1 h2 hbW hX
    have hX' := hX
    obtain ⟨e0, e1, e2, e3, e4, e5, e6, e7, e8, e9, e10, f6, f7, f8, f10⟩ := hX
    have hSE : S < E := by omega
    have rA : W.cell? ⟨S, 1 + a, none⟩ = some (.int .i32 (s.r.getD a 0)) := (hbW.cell (p := ⟨S, 1 + a, none⟩) hS).trans (hst.reg a ha)
    have rB : W.cell? ⟨S, 1 + b, none⟩ = some (.int .i32 (s.r.getD b 0)) := (hbW.cell (p := ⟨S, 1 + b, none⟩) hS).trans (hst.reg b hb)
    have rC : W.cell? ⟨S, 1 + c, none⟩ = some (.int .i32 (s.r.getD c 0)) := (hbW.cell (p := ⟨S, 1 + c, none⟩) hS).trans (hst.reg c hc)
    have fA : ∀ k, W.frozen? ⟨S, k, none⟩ = false := fun k => (hbW.frozen (p := ⟨S, k, none⟩) hS).trans (hst.frozen k)
    have pC : W.cell? ⟨S, 0, none⟩ = some (.int .i64 pc) := (hbW.cell (p := ⟨S, 0, none⟩) hS).trans hPC
    have hH' : W.cell? ⟨S, 19, none⟩ = some (.int .i64 s.held) := (hbW.cell (p := ⟨S, 19, none⟩) hS).trans hH
    have hL' : W.cell? ⟨S, 18, none⟩ = some (.bool false) := (hbW.cell (p := ⟨S, 18, none⟩) hS).trans hL
    have hD' : W.cell? ⟨S, 17, none⟩ = some (.slice dp s.d.length dcap) := (hbW.cell (p := ⟨S, 17, none⟩) hS).trans hD
    have vA := hr32 a
    have vB := hr32 b
    have vC := hr32 c
    have hOW : OTab W := hO.below hbW hOw
    refine ⟨_, setW W S a (wrap32 (s.r.getD b 0 + i)), prep_addi E S a b c i pc ((pc : Int) + 1) q.lk (s.r.getD a 0) (s.r.getD b 0) (s.r.getD c 0) mv pv W e0 e1 e2 e3 e4 e5 e6 e7 e8 e9 e10 f6 f7 f8 f10 hSE h2 ha rA (fA _) hb rB vB.1 vB.2 hi hi1, hX'.done (fun k _ => setW_E hSE) ((setW_E hSE).trans e6) ((setW_E hSE).trans e7) ((setW_E hSE).trans e8) ((setW_E hSE).trans e10), setW_below hbW, setW_size, setW_pc.trans pC, setW_fr.trans (fA 0), fun k hk hkE => setW_heap (by omega)⟩
  · rintro e w' ⟨rfl, hbw⟩
    refine ⟨rfl, ?_⟩
    rw [hpcs]; exact step_done hbw hS ((Kept.refl _ _).setW (.inl rfl)) rfl setW_size (hst.setW a ha _) (hd.setW hdS) (hm.setW hmS) hdS hmS

theorem stepI_shli (q : ImN) (t S a b c pc : Nat) (s : St) (dv mv pv : Value) (mem : List Int) (x i inp : Int) (PW : World → World) (w : World) (R : Ready w q t S s dv mv mem pc x) (hdec : decV x = .tuple #[.agg #[.int .u8 16, .int .i64 a, .int .i64 b, .int .i64 c, .int .i64 i], .int .i64 0]) (ha : a < 16) (hb : b < 16) (hc : c < 16) (hi : -131072 ≤ i) (hi1 : i ≤ 131071) (hi0 : 0 ≤ i) (hi31 : i ≤ 31) :
    Calls Tryd.prog 23 #[q.val, .int .i64 (t : Nat), .pointer (some ⟨S, 0, none⟩), mv, pv] w (StepPost w S dv mv PW 16 a b c i pc (stepI q.lk 16 a b c i s mem inp)) := by
  obtain ⟨hT, hO, hst, hd, hm, hdS, hmS, hdm, hr0, hr32, hfit, hal, heb, htn, he0, he1, he2, he3, hcb, hpc, hpc1, hpc2, hpcb, hpcs, hcode, hx0, hx1⟩ := R
  obtain ⟨dp, dcap, hdv⟩ := hd.shape
  have hS := hst.lt
  have hPC := hst.pc
  rw [hpcs] at hPC
  have hR : w.cell? ⟨S, 1, none⟩ = some (.int .i32 0) := by have h := hst.reg 0 (by omega); rw [hr0] at h; exact h
  have hD := hst.d
  rw [hdv] at hD
  have hL := hst.halted
  rw [hal] at hL
  have hH := hst.held
  have hOw : 1 < w.heap.size := hO.1
  have hstep : stepI q.lk 16 a b c i s mem inp = .ok ({ s with pc := s.pc + 1, r := if a = 0 then s.r else s.r.set a (wrap32 (s.r.getD b 0 * 2 ^ i.toNat)) }, mem, false, -1, 0) := by simp [stepI, -List.getD_eq_getElem?_getD]
  rw [hstep]
  refine (step_ok q.cb q.co q.nC q.ccap q.eb q.eo q.nE q.ecap t S pc s.d.length dcap 16 a b c q.sh q.lk q.st q.fin s.held x i q.nm dp mv pv w (setW w S a (wrap32 (s.r.getD b 0 * 2 ^ i.toNat))) false (-1) 0 ((pc : Int) + 1) hT hS hPC (hst.frozen 0) hR hD hL hH heb htn he0 he1 he2 he3 hfit hcb hpc hpc1 hpc2 hpcb hcode hx0 hx1 hdec ?_).mono ?_
  · intro W E h1 h2 hbW hX
    have hX' := hX
    obtain ⟨e0, e1, e2, e3, e4, e5, e6, e7, e8, e9, e10, f6, f7, f8, f10⟩ := hX
    have hSE : S < E := by omega
    have rA : W.cell? ⟨S, 1 + a, none⟩ = some (.int .i32 (s.r.getD a 0)) := (hbW.cell (p := ⟨S, 1 + a, none⟩) hS).trans (hst.reg a ha)
    have rB : W.cell? ⟨S, 1 + b, none⟩ = some (.int .i32 (s.r.getD b 0)) := (hbW.cell (p := ⟨S, 1 + b, none⟩) hS).trans (hst.reg b hb)
    have rC : W.cell? ⟨S, 1 + c, none⟩ = some (.int .i32 (s.r.getD c 0)) := (hbW.cell (p := ⟨S, 1 + c, none⟩) hS).trans (hst.reg c hc)
    have fA : ∀ k, W.frozen? ⟨S, k, none⟩ = false := fun k => (hbW.frozen (p := ⟨S, k, none⟩) hS).trans (hst.frozen k)
    have pC : W.cell? ⟨S, 0, none⟩ = some (.int .i64 pc) := (hbW.cell (p := ⟨S, 0, none⟩) hS).trans hPC
    have hH' : W.cell? ⟨S, 19, none⟩ = some (.int .i64 s.held) := (hbW.cell (p := ⟨S, 19, none⟩) hS).trans hH
    have hL' : W.cell? ⟨S, 18, none⟩ = some (.bool false) := (hbW.cell (p := ⟨S, 18, none⟩) hS).trans hL
    have hD' : W.cell? ⟨S, 17, none⟩ = some (.slice dp s.d.length dcap) := (hbW.cell (p := ⟨S, 17, none⟩) hS).trans hD
    have vA := hr32 a
    have vB := hr32 b
    have vC := hr32 c
    have hOW : OTab W := hO.below hbW hOw
    refine ⟨_, setW W S a (wrap32 (s.r.getD b 0 * 2 ^ i.toNat)), prep_shli E S a b c i pc ((pc : Int) + 1) q.lk (s.r.getD a 0) (s.r.getD b 0) (s.r.getD c 0) mv pv W e0 e1 e2 e3 e4 e5 e6 e7 e8 e9 e10 f6 f7 f8 f10 hSE h2 ha rA (fA _) hb rB vB.1 vB.2 hi hi1 hi0 hi31, hX'.done (fun k _ => setW_E hSE) ((setW_E hSE).trans e6) ((setW_E hSE).trans e7) ((setW_E hSE).trans e8) ((setW_E hSE).trans e10), setW_below hbW, setW_size, setW_pc.trans pC, setW_fr.trans (fA 0), fun k hk hkE => setW_heap (by omega)⟩
  · rintro e w' ⟨rfl, hbw⟩
    refine ⟨rfl, ?_⟩
    rw [hpcs]; exact step_done hbw hS ((Kept.refl _ _).setW (.inl rfl)) rfl setW_size (hst.setW a ha _) (hd.setW hdS) (hm.setW hmS) hdS hmS

theorem stepI_ori (q : ImN) (t S a b c pc : Nat) (s : St) (dv mv pv : Value) (mem : List Int) (x i inp : Int) (PW : World → World) (w : World) (R : Ready w q t S s dv mv mem pc x) (hdec : decV x = .tuple #[.agg #[.int .u8 17, .int .i64 a, .int .i64 b, .int .i64 c, .int .i64 i], .int .i64 0]) (ha : a < 16) (hb : b < 16) (hc : c < 16) (hi : -131072 ≤ i) (hi1 : i ≤ 131071) (hi0 : 0 ≤ i) :
    Calls Tryd.prog 23 #[q.val, .int .i64 (t : Nat), .pointer (some ⟨S, 0, none⟩), mv, pv] w (StepPost w S dv mv PW 17 a b c i pc (stepI q.lk 17 a b c i s mem inp)) := by
  obtain ⟨hT, hO, hst, hd, hm, hdS, hmS, hdm, hr0, hr32, hfit, hal, heb, htn, he0, he1, he2, he3, hcb, hpc, hpc1, hpc2, hpcb, hpcs, hcode, hx0, hx1⟩ := R
  obtain ⟨dp, dcap, hdv⟩ := hd.shape
  have hS := hst.lt
  have hPC := hst.pc
  rw [hpcs] at hPC
  have hR : w.cell? ⟨S, 1, none⟩ = some (.int .i32 0) := by have h := hst.reg 0 (by omega); rw [hr0] at h; exact h
  have hD := hst.d
  rw [hdv] at hD
  have hL := hst.halted
  rw [hal] at hL
  have hH := hst.held
  have hOw : 1 < w.heap.size := hO.1
  have hstep : stepI q.lk 17 a b c i s mem inp = .ok ({ s with pc := s.pc + 1, r := if a = 0 then s.r else s.r.set a (bits .or .i32 (s.r.getD b 0) i) }, mem, false, -1, 0) := by simp [stepI, -List.getD_eq_getElem?_getD]
  rw [hstep]
  refine (step_ok q.cb q.co q.nC q.ccap q.eb q.eo q.nE q.ecap t S pc s.d.length dcap 17 a b c q.sh q.lk q.st q.fin s.held x i q.nm dp mv pv w (setW w S a (bits .or .i32 (s.r.getD b 0) i)) false (-1) 0 ((pc : Int) + 1) hT hS hPC (hst.frozen 0) hR hD hL hH heb htn he0 he1 he2 he3 hfit hcb hpc hpc1 hpc2 hpcb hcode hx0 hx1 hdec ?_).mono ?_
  · intro W E h1 h2 hbW hX
    have hX' := hX
    obtain ⟨e0, e1, e2, e3, e4, e5, e6, e7, e8, e9, e10, f6, f7, f8, f10⟩ := hX
    have hSE : S < E := by omega
    have rA : W.cell? ⟨S, 1 + a, none⟩ = some (.int .i32 (s.r.getD a 0)) := (hbW.cell (p := ⟨S, 1 + a, none⟩) hS).trans (hst.reg a ha)
    have rB : W.cell? ⟨S, 1 + b, none⟩ = some (.int .i32 (s.r.getD b 0)) := (hbW.cell (p := ⟨S, 1 + b, none⟩) hS).trans (hst.reg b hb)
    have rC : W.cell? ⟨S, 1 + c, none⟩ = some (.int .i32 (s.r.getD c 0)) := (hbW.cell (p := ⟨S, 1 + c, none⟩) hS).trans (hst.reg c hc)
    have fA : ∀ k, W.frozen? ⟨S, k, none⟩ = false := fun k => (hbW.frozen (p := ⟨S, k, none⟩) hS).trans (hst.frozen k)
    have pC : W.cell? ⟨S, 0, none⟩ = some (.int .i64 pc) := (hbW.cell (p := ⟨S, 0, none⟩) hS).trans hPC
    have hH' : W.cell? ⟨S, 19, none⟩ = some (.int .i64 s.held) := (hbW.cell (p := ⟨S, 19, none⟩) hS).trans hH
    have hL' : W.cell? ⟨S, 18, none⟩ = some (.bool false) := (hbW.cell (p := ⟨S, 18, none⟩) hS).trans hL
    have hD' : W.cell? ⟨S, 17, none⟩ = some (.slice dp s.d.length dcap) := (hbW.cell (p := ⟨S, 17, none⟩) hS).trans hD
    have vA := hr32 a
    have vB := hr32 b
    have vC := hr32 c
    have hOW : OTab W := hO.below hbW hOw
    refine ⟨_, setW W S a (bits .or .i32 (s.r.getD b 0) i), prep_ori E S a b c i pc ((pc : Int) + 1) q.lk (s.r.getD a 0) (s.r.getD b 0) (s.r.getD c 0) mv pv W e0 e1 e2 e3 e4 e5 e6 e7 e8 e9 e10 f6 f7 f8 f10 hSE h2 ha rA (fA _) hb rB vB.1 vB.2 hi hi1 hi0, hX'.done (fun k _ => setW_E hSE) ((setW_E hSE).trans e6) ((setW_E hSE).trans e7) ((setW_E hSE).trans e8) ((setW_E hSE).trans e10), setW_below hbW, setW_size, setW_pc.trans pC, setW_fr.trans (fA 0), fun k hk hkE => setW_heap (by omega)⟩
  · rintro e w' ⟨rfl, hbw⟩
    refine ⟨rfl, ?_⟩
    rw [hpcs]; exact step_done hbw hS ((Kept.refl _ _).setW (.inl rfl)) rfl setW_size (hst.setW a ha _) (hd.setW hdS) (hm.setW hmS) hdS hmS

theorem stepI_ari (q : ImN) (t S a b c pc : Nat) (s : St) (dv mv pv : Value) (mem : List Int) (x i inp : Int) (PW : World → World) (w : World) (n : Nat) (R : Ready w q t S s dv mv mem pc x) (hdec : decV x = .tuple #[.agg #[.int .u8 n, .int .i64 a, .int .i64 b, .int .i64 c, .int .i64 i], .int .i64 0]) (ha : a < 16) (hb : b < 16) (hc : c < 16) (hi : -131072 ≤ i) (hi1 : i ≤ 131071) (hn : 2 ≤ n) (hn' : n < 14) :
    Calls Tryd.prog 23 #[q.val, .int .i64 (t : Nat), .pointer (some ⟨S, 0, none⟩), mv, pv] w (StepPost w S dv mv PW n a b c i pc (stepI q.lk n a b c i s mem inp)) := by
  obtain ⟨hT, hO, hst, hd, hm, hdS, hmS, hdm, hr0, hr32, hfit, hal, heb, htn, he0, he1, he2, he3, hcb, hpc, hpc1, hpc2, hpcb, hpcs, hcode, hx0, hx1⟩ := R
  obtain ⟨dp, dcap, hdv⟩ := hd.shape
  have hS := hst.lt
  have hPC := hst.pc
  rw [hpcs] at hPC
  have hR : w.cell? ⟨S, 1, none⟩ = some (.int .i32 0) := by have h := hst.reg 0 (by omega); rw [hr0] at h; exact h
  have hD := hst.d
  rw [hdv] at hD
  have hL := hst.halted
  rw [hal] at hL
  have hH := hst.held
  have hOw : 1 < w.heap.size := hO.1
  by_cases hq : ariE n (s.r.getD c 0) = 0
  · have hstep : stepI q.lk n a b c i s mem inp = .ok ({ s with pc := s.pc + 1, r := if a = 0 then s.r else s.r.set a (ariV n (s.r.getD b 0) (s.r.getD c 0)) }, mem, false, -1, 0) := by simp [stepI, show n ≠ 0 by omega, show n ≠ 1 by omega, hn', hq, -List.getD_eq_getElem?_getD]
    rw [hstep]
    refine (step_ok q.cb q.co q.nC q.ccap q.eb q.eo q.nE q.ecap t S pc s.d.length dcap n a b c q.sh q.lk q.st q.fin s.held x i q.nm dp mv pv w (setW w S a (ariV n (s.r.getD b 0) (s.r.getD c 0))) false (-1) 0 ((pc : Int) + 1) hT hS hPC (hst.frozen 0) hR hD hL hH heb htn he0 he1 he2 he3 hfit hcb hpc hpc1 hpc2 hpcb hcode hx0 hx1 hdec ?_).mono ?_
    · intro W E h1 h2 hbW hX
      have hX' := hX
      obtain ⟨e0, e1, e2, e3, e4, e5, e6, e7, e8, e9, e10, f6, f7, f8, f10⟩ := hX
      have hSE : S < E := by omega
      have rA : W.cell? ⟨S, 1 + a, none⟩ = some (.int .i32 (s.r.getD a 0)) := (hbW.cell (p := ⟨S, 1 + a, none⟩) hS).trans (hst.reg a ha)
      have rB : W.cell? ⟨S, 1 + b, none⟩ = some (.int .i32 (s.r.getD b 0)) := (hbW.cell (p := ⟨S, 1 + b, none⟩) hS).trans (hst.reg b hb)
      have rC : W.cell? ⟨S, 1 + c, none⟩ = some (.int .i32 (s.r.getD c 0)) := (hbW.cell (p := ⟨S, 1 + c, none⟩) hS).trans (hst.reg c hc)
      have fA : ∀ k, W.frozen? ⟨S, k, none⟩ = false := fun k => (hbW.frozen (p := ⟨S, k, none⟩) hS).trans (hst.frozen k)
      have pC : W.cell? ⟨S, 0, none⟩ = some (.int .i64 pc) := (hbW.cell (p := ⟨S, 0, none⟩) hS).trans hPC
      have hH' : W.cell? ⟨S, 19, none⟩ = some (.int .i64 s.held) := (hbW.cell (p := ⟨S, 19, none⟩) hS).trans hH
      have hL' : W.cell? ⟨S, 18, none⟩ = some (.bool false) := (hbW.cell (p := ⟨S, 18, none⟩) hS).trans hL
      have hD' : W.cell? ⟨S, 17, none⟩ = some (.slice dp s.d.length dcap) := (hbW.cell (p := ⟨S, 17, none⟩) hS).trans hD
      have vA := hr32 a
      have vB := hr32 b
      have vC := hr32 c
      have hOW : OTab W := hO.below hbW hOw
      refine ⟨_, setW W S a (ariV n (s.r.getD b 0) (s.r.getD c 0)), (by have h := prep_ari E S a b c n i pc ((pc : Int) + 1) q.lk (s.r.getD a 0) (s.r.getD b 0) (s.r.getD c 0) mv pv W e0 e1 e2 e3 e4 e5 e6 e7 e8 e9 e10 f6 f7 f8 f10 hSE h2 hn hn' (hOW.at n hn hn') hOW.1 ha rA (fA _) hb rB vB.1 vB.2 hc rC vC.1 vC.2; rwa [hq] at h), hX'.done (fun k _ => setW_E hSE) ((setW_E hSE).trans e6) ((setW_E hSE).trans e7) ((setW_E hSE).trans e8) ((setW_E hSE).trans e10), setW_below hbW, setW_size, setW_pc.trans pC, setW_fr.trans (fA 0), fun k hk hkE => setW_heap (by omega)⟩
    · rintro e w' ⟨rfl, hbw⟩
      refine ⟨rfl, ?_⟩
      rw [if_neg (by omega)]; rw [hpcs]; exact step_done hbw hS ((Kept.refl _ _).setW (.inl rfl)) rfl setW_size (hst.setW a ha _) (hd.setW hdS) (hm.setW hmS) hdS hmS
  · have hstep : stepI q.lk n a b c i s mem inp = .error (ariE n (s.r.getD c 0)) := by simp [stepI, show n ≠ 0 by omega, show n ≠ 1 by omega, hn', hq, -List.getD_eq_getElem?_getD]
    rw [hstep]
    refine (step_trap q.cb q.co q.nC q.ccap q.eb q.eo q.nE q.ecap t S pc s.d.length dcap n a b c q.sh q.lk q.st q.fin s.held x i q.nm dp mv pv w (ariE n (s.r.getD c 0)) (by simpa using hq) hT hS hPC (hst.frozen 0) hR hD hL hH heb htn he0 he1 he2 he3 hfit hcb hpc hpc1 hpc2 hpcb hcode hx0 hx1 hdec ?_).mono ?_
    · intro W E h1 h2 hbW hX
      have hX' := hX
      obtain ⟨e0, e1, e2, e3, e4, e5, e6, e7, e8, e9, e10, f6, f7, f8, f10⟩ := hX
      have hSE : S < E := by omega
      have rA : W.cell? ⟨S, 1 + a, none⟩ = some (.int .i32 (s.r.getD a 0)) := (hbW.cell (p := ⟨S, 1 + a, none⟩) hS).trans (hst.reg a ha)
      have rB : W.cell? ⟨S, 1 + b, none⟩ = some (.int .i32 (s.r.getD b 0)) := (hbW.cell (p := ⟨S, 1 + b, none⟩) hS).trans (hst.reg b hb)
      have rC : W.cell? ⟨S, 1 + c, none⟩ = some (.int .i32 (s.r.getD c 0)) := (hbW.cell (p := ⟨S, 1 + c, none⟩) hS).trans (hst.reg c hc)
      have fA : ∀ k, W.frozen? ⟨S, k, none⟩ = false := fun k => (hbW.frozen (p := ⟨S, k, none⟩) hS).trans (hst.frozen k)
      have pC : W.cell? ⟨S, 0, none⟩ = some (.int .i64 pc) := (hbW.cell (p := ⟨S, 0, none⟩) hS).trans hPC
      have hH' : W.cell? ⟨S, 19, none⟩ = some (.int .i64 s.held) := (hbW.cell (p := ⟨S, 19, none⟩) hS).trans hH
      have hL' : W.cell? ⟨S, 18, none⟩ = some (.bool false) := (hbW.cell (p := ⟨S, 18, none⟩) hS).trans hL
      have hD' : W.cell? ⟨S, 17, none⟩ = some (.slice dp s.d.length dcap) := (hbW.cell (p := ⟨S, 17, none⟩) hS).trans hD
      have vA := hr32 a
      have vB := hr32 b
      have vC := hr32 c
      have hOW : OTab W := hO.below hbW hOw
      exact (prep_ari E S a b c n i pc ((pc : Int) + 1) q.lk (s.r.getD a 0) (s.r.getD b 0) (s.r.getD c 0) mv pv W e0 e1 e2 e3 e4 e5 e6 e7 e8 e9 e10 f6 f7 f8 f10 hSE h2 hn hn' (hOW.at n hn hn') hOW.1 ha rA (fA _) hb rB vB.1 vB.2 hc rC vC.1 vC.2).mono fun e w' ⟨f, cs, he, hb, _⟩ => ⟨_, he, hb⟩
    · rintro e w' ⟨rfl, hbw⟩
      exact ⟨rfl, hbw⟩

theorem stepI_beqz (q : ImN) (t S a b c pc : Nat) (s : St) (dv mv pv : Value) (mem : List Int) (x i inp : Int) (PW : World → World) (w : World) (R : Ready w q t S s dv mv mem pc x) (hdec : decV x = .tuple #[.agg #[.int .u8 22, .int .i64 a, .int .i64 b, .int .i64 c, .int .i64 i], .int .i64 0]) (ha : a < 16) (hb : b < 16) (hc : c < 16) (hi : -131072 ≤ i) (hi1 : i ≤ 131071)  :
    Calls Tryd.prog 23 #[q.val, .int .i64 (t : Nat), .pointer (some ⟨S, 0, none⟩), mv, pv] w (StepPost w S dv mv PW 22 a b c i pc (stepI q.lk 22 a b c i s mem inp)) := by
  obtain ⟨hT, hO, hst, hd, hm, hdS, hmS, hdm, hr0, hr32, hfit, hal, heb, htn, he0, he1, he2, he3, hcb, hpc, hpc1, hpc2, hpcb, hpcs, hcode, hx0, hx1⟩ := R
  obtain ⟨dp, dcap, hdv⟩ := hd.shape
  have hS := hst.lt
  have hPC := hst.pc
  rw [hpcs] at hPC
  have hR : w.cell? ⟨S, 1, none⟩ = some (.int .i32 0) := by have h := hst.reg 0 (by omega); rw [hr0] at h; exact h
  have hD := hst.d
  rw [hdv] at hD
  have hL := hst.halted
  rw [hal] at hL
  have hH := hst.held
  have hOw : 1 < w.heap.size := hO.1
  by_cases hq : s.r.getD a 0 = 0
  · have hstep : stepI q.lk 22 a b c i s mem inp = .ok ({ s with pc := s.pc + 1 + i }, mem, true, -1, 0) := by simp [stepI, hq, -List.getD_eq_getElem?_getD]
    rw [hstep]
    refine (step_ok q.cb q.co q.nC q.ccap q.eb q.eo q.nE q.ecap t S pc s.d.length dcap 22 a b c q.sh q.lk q.st q.fin s.held x i q.nm dp mv pv w (w) true (-1) 0 ((pc : Int) + 1 + i) hT hS hPC (hst.frozen 0) hR hD hL hH heb htn he0 he1 he2 he3 hfit hcb hpc hpc1 hpc2 hpcb hcode hx0 hx1 hdec ?_).mono ?_
    · intro W E h1 h2 hbW hX
      have hX' := hX
      obtain ⟨e0, e1, e2, e3, e4, e5, e6, e7, e8, e9, e10, f6, f7, f8, f10⟩ := hX
      have hSE : S < E := by omega
      have rA : W.cell? ⟨S, 1 + a, none⟩ = some (.int .i32 (s.r.getD a 0)) := (hbW.cell (p := ⟨S, 1 + a, none⟩) hS).trans (hst.reg a ha)
      have rB : W.cell? ⟨S, 1 + b, none⟩ = some (.int .i32 (s.r.getD b 0)) := (hbW.cell (p := ⟨S, 1 + b, none⟩) hS).trans (hst.reg b hb)
      have rC : W.cell? ⟨S, 1 + c, none⟩ = some (.int .i32 (s.r.getD c 0)) := (hbW.cell (p := ⟨S, 1 + c, none⟩) hS).trans (hst.reg c hc)
      have fA : ∀ k, W.frozen? ⟨S, k, none⟩ = false := fun k => (hbW.frozen (p := ⟨S, k, none⟩) hS).trans (hst.frozen k)
      have pC : W.cell? ⟨S, 0, none⟩ = some (.int .i64 pc) := (hbW.cell (p := ⟨S, 0, none⟩) hS).trans hPC
      have hH' : W.cell? ⟨S, 19, none⟩ = some (.int .i64 s.held) := (hbW.cell (p := ⟨S, 19, none⟩) hS).trans hH
      have hL' : W.cell? ⟨S, 18, none⟩ = some (.bool false) := (hbW.cell (p := ⟨S, 18, none⟩) hS).trans hL
      have hD' : W.cell? ⟨S, 17, none⟩ = some (.slice dp s.d.length dcap) := (hbW.cell (p := ⟨S, 17, none⟩) hS).trans hD
      have vA := hr32 a
      have vB := hr32 b
      have vC := hr32 c
      have hOW : OTab W := hO.below hbW hOw
      refine ⟨_, (W.setCell ⟨E, 6, none⟩ (.bool true)).setCell ⟨E, 10, none⟩ (.int .i64 ((pc : Int) + 1 + i)), prep_beqz_t E S a b c i pc ((pc : Int) + 1) q.lk (s.r.getD a 0) (s.r.getD b 0) (s.r.getD c 0) mv pv W e0 e1 e2 e3 e4 e5 e6 e7 e8 e9 e10 f6 f7 f8 f10 hSE h2 ha hi hi1 (by omega) (by omega) (by rw [rA, hq]), hX'.done (fun k hk => (cellE (by omega)).trans (cellE (by omega))) ((cellE (by omega)).trans (cellS e6)) ((cellE (by omega)).trans ((cellE (by omega)).trans e7)) ((cellE (by omega)).trans ((cellE (by omega)).trans e8)) (cellS ((cellE (by omega)).trans e10)), bSet h1 (bSet h1 hbW), szS.trans szS, (cellB (by omega)).trans ((cellB (by omega)).trans pC), frS.trans (frS.trans (fA 0)), fun k hk hkE => (Below.heap_setCell _ _ _ _ (by show k ≠ E; omega)).trans (Below.heap_setCell _ _ _ _ (by show k ≠ E; omega))⟩
    · rintro e w' ⟨rfl, hbw⟩
      refine ⟨rfl, ?_⟩
      rw [hpcs]; exact step_done hbw hS (Kept.refl _ _) rfl rfl hst hd hm hdS hmS
  · have hstep : stepI q.lk 22 a b c i s mem inp = .ok ({ s with pc := s.pc + 1 }, mem, false, -1, 0) := by simp [stepI, hq, -List.getD_eq_getElem?_getD]
    rw [hstep]
    refine (step_ok q.cb q.co q.nC q.ccap q.eb q.eo q.nE q.ecap t S pc s.d.length dcap 22 a b c q.sh q.lk q.st q.fin s.held x i q.nm dp mv pv w (w) false (-1) 0 ((pc : Int) + 1) hT hS hPC (hst.frozen 0) hR hD hL hH heb htn he0 he1 he2 he3 hfit hcb hpc hpc1 hpc2 hpcb hcode hx0 hx1 hdec ?_).mono ?_
    · intro W E h1 h2 hbW hX
      have hX' := hX
      obtain ⟨e0, e1, e2, e3, e4, e5, e6, e7, e8, e9, e10, f6, f7, f8, f10⟩ := hX
      have hSE : S < E := by omega
      have rA : W.cell? ⟨S, 1 + a, none⟩ = some (.int .i32 (s.r.getD a 0)) := (hbW.cell (p := ⟨S, 1 + a, none⟩) hS).trans (hst.reg a ha)
      have rB : W.cell? ⟨S, 1 + b, none⟩ = some (.int .i32 (s.r.getD b 0)) := (hbW.cell (p := ⟨S, 1 + b, none⟩) hS).trans (hst.reg b hb)
      have rC : W.cell? ⟨S, 1 + c, none⟩ = some (.int .i32 (s.r.getD c 0)) := (hbW.cell (p := ⟨S, 1 + c, none⟩) hS).trans (hst.reg c hc)
      have fA : ∀ k, W.frozen? ⟨S, k, none⟩ = false := fun k => (hbW.frozen (p := ⟨S, k, none⟩) hS).trans (hst.frozen k)
      have pC : W.cell? ⟨S, 0, none⟩ = some (.int .i64 pc) := (hbW.cell (p := ⟨S, 0, none⟩) hS).trans hPC
      have hH' : W.cell? ⟨S, 19, none⟩ = some (.int .i64 s.held) := (hbW.cell (p := ⟨S, 19, none⟩) hS).trans hH
      have hL' : W.cell? ⟨S, 18, none⟩ = some (.bool false) := (hbW.cell (p := ⟨S, 18, none⟩) hS).trans hL
      have hD' : W.cell? ⟨S, 17, none⟩ = some (.slice dp s.d.length dcap) := (hbW.cell (p := ⟨S, 17, none⟩) hS).trans hD
      have vA := hr32 a
      have vB := hr32 b
      have vC := hr32 c
      have hOW : OTab W := hO.below hbW hOw
      refine ⟨_, W.setCell ⟨E, 6, none⟩ (.bool false), prep_beqz_f E S a b c i pc ((pc : Int) + 1) q.lk (s.r.getD a 0) (s.r.getD b 0) (s.r.getD c 0) mv pv W e0 e1 e2 e3 e4 e5 e6 e7 e8 e9 e10 f6 f7 f8 f10 hSE h2 ha hi hi1 (by omega) (by omega) (by simpa using hq) rA, hX'.done (fun k hk => cellE (by omega)) (cellS e6) ((cellE (by omega)).trans e7) ((cellE (by omega)).trans e8) ((cellE (by omega)).trans e10), bSet h1 hbW, szS, (cellB (by omega)).trans pC, frS.trans (fA 0), fun k hk hkE => Below.heap_setCell _ _ _ _ (by show k ≠ E; omega)⟩
    · rintro e w' ⟨rfl, hbw⟩
      refine ⟨rfl, ?_⟩
      rw [hpcs]; exact step_done hbw hS (Kept.refl _ _) rfl rfl hst hd hm hdS hmS

theorem stepI_bnez (q : ImN) (t S a b c pc : Nat) (s : St) (dv mv pv : Value) (mem : List Int) (x i inp : Int) (PW : World → World) (w : World) (R : Ready w q t S s dv mv mem pc x) (hdec : decV x = .tuple #[.agg #[.int .u8 23, .int .i64 a, .int .i64 b, .int .i64 c, .int .i64 i], .int .i64 0]) (ha : a < 16) (hb : b < 16) (hc : c < 16) (hi : -131072 ≤ i) (hi1 : i ≤ 131071)  :
    Calls Tryd.prog 23 #[q.val, .int .i64 (t : Nat), .pointer (some ⟨S, 0, none⟩), mv, pv] w (StepPost w S dv mv PW 23 a b c i pc (stepI q.lk 23 a b c i s mem inp)) := by
  obtain ⟨hT, hO, hst, hd, hm, hdS, hmS, hdm, hr0, hr32, hfit, hal, heb, htn, he0, he1, he2, he3, hcb, hpc, hpc1, hpc2, hpcb, hpcs, hcode, hx0, hx1⟩ := R
  obtain ⟨dp, dcap, hdv⟩ := hd.shape
  have hS := hst.lt
  have hPC := hst.pc
  rw [hpcs] at hPC
  have hR : w.cell? ⟨S, 1, none⟩ = some (.int .i32 0) := by have h := hst.reg 0 (by omega); rw [hr0] at h; exact h
  have hD := hst.d
  rw [hdv] at hD
  have hL := hst.halted
  rw [hal] at hL
  have hH := hst.held
  have hOw : 1 < w.heap.size := hO.1
  by_cases hq : s.r.getD a 0 = 0
  · have hstep : stepI q.lk 23 a b c i s mem inp = .ok ({ s with pc := s.pc + 1 }, mem, false, -1, 0) := by simp [stepI, hq, -List.getD_eq_getElem?_getD]
    rw [hstep]
    refine (step_ok q.cb q.co q.nC q.ccap q.eb q.eo q.nE q.ecap t S pc s.d.length dcap 23 a b c q.sh q.lk q.st q.fin s.held x i q.nm dp mv pv w (w) false (-1) 0 ((pc : Int) + 1) hT hS hPC (hst.frozen 0) hR hD hL hH heb htn he0 he1 he2 he3 hfit hcb hpc hpc1 hpc2 hpcb hcode hx0 hx1 hdec ?_).mono ?_
    · intro W E h1 h2 hbW hX
      have hX' := hX
      obtain ⟨e0, e1, e2, e3, e4, e5, e6, e7, e8, e9, e10, f6, f7, f8, f10⟩ := hX
      have hSE : S < E := by omega
      have rA : W.cell? ⟨S, 1 + a, none⟩ = some (.int .i32 (s.r.getD a 0)) := (hbW.cell (p := ⟨S, 1 + a, none⟩) hS).trans (hst.reg a ha)
      have rB : W.cell? ⟨S, 1 + b, none⟩ = some (.int .i32 (s.r.getD b 0)) := (hbW.cell (p := ⟨S, 1 + b, none⟩) hS).trans (hst.reg b hb)
      have rC : W.cell? ⟨S, 1 + c, none⟩ = some (.int .i32 (s.r.getD c 0)) := (hbW.cell (p := ⟨S, 1 + c, none⟩) hS).trans (hst.reg c hc)
      have fA : ∀ k, W.frozen? ⟨S, k, none⟩ = false := fun k => (hbW.frozen (p := ⟨S, k, none⟩) hS).trans (hst.frozen k)
      have pC : W.cell? ⟨S, 0, none⟩ = some (.int .i64 pc) := (hbW.cell (p := ⟨S, 0, none⟩) hS).trans hPC
      have hH' : W.cell? ⟨S, 19, none⟩ = some (.int .i64 s.held) := (hbW.cell (p := ⟨S, 19, none⟩) hS).trans hH
      have hL' : W.cell? ⟨S, 18, none⟩ = some (.bool false) := (hbW.cell (p := ⟨S, 18, none⟩) hS).trans hL
      have hD' : W.cell? ⟨S, 17, none⟩ = some (.slice dp s.d.length dcap) := (hbW.cell (p := ⟨S, 17, none⟩) hS).trans hD
      have vA := hr32 a
      have vB := hr32 b
      have vC := hr32 c
      have hOW : OTab W := hO.below hbW hOw
      refine ⟨_, W.setCell ⟨E, 6, none⟩ (.bool false), prep_bnez_f E S a b c i pc ((pc : Int) + 1) q.lk (s.r.getD a 0) (s.r.getD b 0) (s.r.getD c 0) mv pv W e0 e1 e2 e3 e4 e5 e6 e7 e8 e9 e10 f6 f7 f8 f10 hSE h2 ha hi hi1 (by omega) (by omega) (by rw [rA, hq]), hX'.done (fun k hk => cellE (by omega)) (cellS e6) ((cellE (by omega)).trans e7) ((cellE (by omega)).trans e8) ((cellE (by omega)).trans e10), bSet h1 hbW, szS, (cellB (by omega)).trans pC, frS.trans (fA 0), fun k hk hkE => Below.heap_setCell _ _ _ _ (by show k ≠ E; omega)⟩
    · rintro e w' ⟨rfl, hbw⟩
      refine ⟨rfl, ?_⟩
      rw [hpcs]; exact step_done hbw hS (Kept.refl _ _) rfl rfl hst hd hm hdS hmS
  · have hstep : stepI q.lk 23 a b c i s mem inp = .ok ({ s with pc := s.pc + 1 + i }, mem, true, -1, 0) := by simp [stepI, hq, -List.getD_eq_getElem?_getD]
    rw [hstep]
    refine (step_ok q.cb q.co q.nC q.ccap q.eb q.eo q.nE q.ecap t S pc s.d.length dcap 23 a b c q.sh q.lk q.st q.fin s.held x i q.nm dp mv pv w (w) true (-1) 0 ((pc : Int) + 1 + i) hT hS hPC (hst.frozen 0) hR hD hL hH heb htn he0 he1 he2 he3 hfit hcb hpc hpc1 hpc2 hpcb hcode hx0 hx1 hdec ?_).mono ?_
    · intro W E h1 h2 hbW hX
      have hX' := hX
      obtain ⟨e0, e1, e2, e3, e4, e5, e6, e7, e8, e9, e10, f6, f7, f8, f10⟩ := hX
      have hSE : S < E := by omega
      have rA : W.cell? ⟨S, 1 + a, none⟩ = some (.int .i32 (s.r.getD a 0)) := (hbW.cell (p := ⟨S, 1 + a, none⟩) hS).trans (hst.reg a ha)
      have rB : W.cell? ⟨S, 1 + b, none⟩ = some (.int .i32 (s.r.getD b 0)) := (hbW.cell (p := ⟨S, 1 + b, none⟩) hS).trans (hst.reg b hb)
      have rC : W.cell? ⟨S, 1 + c, none⟩ = some (.int .i32 (s.r.getD c 0)) := (hbW.cell (p := ⟨S, 1 + c, none⟩) hS).trans (hst.reg c hc)
      have fA : ∀ k, W.frozen? ⟨S, k, none⟩ = false := fun k => (hbW.frozen (p := ⟨S, k, none⟩) hS).trans (hst.frozen k)
      have pC : W.cell? ⟨S, 0, none⟩ = some (.int .i64 pc) := (hbW.cell (p := ⟨S, 0, none⟩) hS).trans hPC
      have hH' : W.cell? ⟨S, 19, none⟩ = some (.int .i64 s.held) := (hbW.cell (p := ⟨S, 19, none⟩) hS).trans hH
      have hL' : W.cell? ⟨S, 18, none⟩ = some (.bool false) := (hbW.cell (p := ⟨S, 18, none⟩) hS).trans hL
      have hD' : W.cell? ⟨S, 17, none⟩ = some (.slice dp s.d.length dcap) := (hbW.cell (p := ⟨S, 17, none⟩) hS).trans hD
      have vA := hr32 a
      have vB := hr32 b
      have vC := hr32 c
      have hOW : OTab W := hO.below hbW hOw
      refine ⟨_, (W.setCell ⟨E, 6, none⟩ (.bool true)).setCell ⟨E, 10, none⟩ (.int .i64 ((pc : Int) + 1 + i)), prep_bnez_t E S a b c i pc ((pc : Int) + 1) q.lk (s.r.getD a 0) (s.r.getD b 0) (s.r.getD c 0) mv pv W e0 e1 e2 e3 e4 e5 e6 e7 e8 e9 e10 f6 f7 f8 f10 hSE h2 ha hi hi1 (by omega) (by omega) (by simpa using hq) rA, hX'.done (fun k hk => (cellE (by omega)).trans (cellE (by omega))) ((cellE (by omega)).trans (cellS e6)) ((cellE (by omega)).trans ((cellE (by omega)).trans e7)) ((cellE (by omega)).trans ((cellE (by omega)).trans e8)) (cellS ((cellE (by omega)).trans e10)), bSet h1 (bSet h1 hbW), szS.trans szS, (cellB (by omega)).trans ((cellB (by omega)).trans pC), frS.trans (frS.trans (fA 0)), fun k hk hkE => (Below.heap_setCell _ _ _ _ (by show k ≠ E; omega)).trans (Below.heap_setCell _ _ _ _ (by show k ≠ E; omega))⟩
    · rintro e w' ⟨rfl, hbw⟩
      refine ⟨rfl, ?_⟩
      rw [hpcs]; exact step_done hbw hS (Kept.refl _ _) rfl rfl hst hd hm hdS hmS

theorem stepI_jmp (q : ImN) (t S a b c pc : Nat) (s : St) (dv mv pv : Value) (mem : List Int) (x i inp : Int) (PW : World → World) (w : World) (R : Ready w q t S s dv mv mem pc x) (hdec : decV x = .tuple #[.agg #[.int .u8 24, .int .i64 a, .int .i64 b, .int .i64 c, .int .i64 i], .int .i64 0]) (ha : a < 16) (hb : b < 16) (hc : c < 16) (hi : -131072 ≤ i) (hi1 : i ≤ 131071)  :
    Calls Tryd.prog 23 #[q.val, .int .i64 (t : Nat), .pointer (some ⟨S, 0, none⟩), mv, pv] w (StepPost w S dv mv PW 24 a b c i pc (stepI q.lk 24 a b c i s mem inp)) := by
  obtain ⟨hT, hO, hst, hd, hm, hdS, hmS, hdm, hr0, hr32, hfit, hal, heb, htn, he0, he1, he2, he3, hcb, hpc, hpc1, hpc2, hpcb, hpcs, hcode, hx0, hx1⟩ := R
  obtain ⟨dp, dcap, hdv⟩ := hd.shape
  have hS := hst.lt
  have hPC := hst.pc
  rw [hpcs] at hPC
  have hR : w.cell? ⟨S, 1, none⟩ = some (.int .i32 0) := by have h := hst.reg 0 (by omega); rw [hr0] at h; exact h
  have hD := hst.d
  rw [hdv] at hD
  have hL := hst.halted
  rw [hal] at hL
  have hH := hst.held
  have hOw : 1 < w.heap.size := hO.1
  have hstep : stepI q.lk 24 a b c i s mem inp = .ok ({ s with pc := s.pc + 1 + i }, mem, true, -1, 0) := by simp [stepI, -List.getD_eq_getElem?_getD]
  rw [hstep]
  refine (step_ok q.cb q.co q.nC q.ccap q.eb q.eo q.nE q.ecap t S pc s.d.length dcap 24 a b c q.sh q.lk q.st q.fin s.held x i q.nm dp mv pv w (w) true (-1) 0 ((pc : Int) + 1 + i) hT hS hPC (hst.frozen 0) hR hD hL hH heb htn he0 he1 he2 he3 hfit hcb hpc hpc1 hpc2 hpcb hcode hx0 hx1 hdec ?_).mono ?_
  · intro W E h1 h2 hbW hX
    have hX' := hX
    obtain ⟨e0, e1, e2, e3, e4, e5, e6, e7, e8, e9, e10, f6, f7, f8, f10⟩ := hX
    have hSE : S < E := by omega
    have rA : W.cell? ⟨S, 1 + a, none⟩ = some (.int .i32 (s.r.getD a 0)) := (hbW.cell (p := ⟨S, 1 + a, none⟩) hS).trans (hst.reg a ha)
    have rB : W.cell? ⟨S, 1 + b, none⟩ = some (.int .i32 (s.r.getD b 0)) := (hbW.cell (p := ⟨S, 1 + b, none⟩) hS).trans (hst.reg b hb)
    have rC : W.cell? ⟨S, 1 + c, none⟩ = some (.int .i32 (s.r.getD c 0)) := (hbW.cell (p := ⟨S, 1 + c, none⟩) hS).trans (hst.reg c hc)
    have fA : ∀ k, W.frozen? ⟨S, k, none⟩ = false := fun k => (hbW.frozen (p := ⟨S, k, none⟩) hS).trans (hst.frozen k)
    have pC : W.cell? ⟨S, 0, none⟩ = some (.int .i64 pc) := (hbW.cell (p := ⟨S, 0, none⟩) hS).trans hPC
    have hH' : W.cell? ⟨S, 19, none⟩ = some (.int .i64 s.held) := (hbW.cell (p := ⟨S, 19, none⟩) hS).trans hH
    have hL' : W.cell? ⟨S, 18, none⟩ = some (.bool false) := (hbW.cell (p := ⟨S, 18, none⟩) hS).trans hL
    have hD' : W.cell? ⟨S, 17, none⟩ = some (.slice dp s.d.length dcap) := (hbW.cell (p := ⟨S, 17, none⟩) hS).trans hD
    have vA := hr32 a
    have vB := hr32 b
    have vC := hr32 c
    have hOW : OTab W := hO.below hbW hOw
    refine ⟨_, (W.setCell ⟨E, 6, none⟩ (.bool true)).setCell ⟨E, 10, none⟩ (.int .i64 ((pc : Int) + 1 + i)), prep_jmp E S a b c i pc ((pc : Int) + 1) q.lk (s.r.getD a 0) (s.r.getD b 0) (s.r.getD c 0) mv pv W e0 e1 e2 e3 e4 e5 e6 e7 e8 e9 e10 f6 f7 f8 f10 hSE h2 ha hi hi1 (by omega) (by omega) rA, hX'.done (fun k hk => (cellE (by omega)).trans (cellE (by omega))) ((cellE (by omega)).trans (cellS e6)) ((cellE (by omega)).trans ((cellE (by omega)).trans e7)) ((cellE (by omega)).trans ((cellE (by omega)).trans e8)) (cellS ((cellE (by omega)).trans e10)), bSet h1 (bSet h1 hbW), szS.trans szS, (cellB (by omega)).trans ((cellB (by omega)).trans pC), frS.trans (frS.trans (fA 0)), fun k hk hkE => (Below.heap_setCell _ _ _ _ (by show k ≠ E; omega)).trans (Below.heap_setCell _ _ _ _ (by show k ≠ E; omega))⟩
  · rintro e w' ⟨rfl, hbw⟩
    refine ⟨rfl, ?_⟩
    rw [hpcs]; exact step_done hbw hS (Kept.refl _ _) rfl rfl hst hd hm hdS hmS

theorem stepI_bound (q : ImN) (t S a b c pc : Nat) (s : St) (dv mv pv : Value) (mem : List Int) (x i inp : Int) (PW : World → World) (w : World) (R : Ready w q t S s dv mv mem pc x) (hdec : decV x = .tuple #[.agg #[.int .u8 25, .int .i64 a, .int .i64 b, .int .i64 c, .int .i64 i], .int .i64 0]) (ha : a < 16) (hb : b < 16) (hc : c < 16) (hi : -131072 ≤ i) (hi1 : i ≤ 131071)  :
    Calls Tryd.prog 23 #[q.val, .int .i64 (t : Nat), .pointer (some ⟨S, 0, none⟩), mv, pv] w (StepPost w S dv mv PW 25 a b c i pc (stepI q.lk 25 a b c i s mem inp)) := by
  obtain ⟨hT, hO, hst, hd, hm, hdS, hmS, hdm, hr0, hr32, hfit, hal, heb, htn, he0, he1, he2, he3, hcb, hpc, hpc1, hpc2, hpcb, hpcs, hcode, hx0, hx1⟩ := R
  obtain ⟨dp, dcap, hdv⟩ := hd.shape
  have hS := hst.lt
  have hPC := hst.pc
  rw [hpcs] at hPC
  have hR : w.cell? ⟨S, 1, none⟩ = some (.int .i32 0) := by have h := hst.reg 0 (by omega); rw [hr0] at h; exact h
  have hD := hst.d
  rw [hdv] at hD
  have hL := hst.halted
  rw [hal] at hL
  have hH := hst.held
  have hOw : 1 < w.heap.size := hO.1
  by_cases hq : 0 ≤ s.r.getD a 0 ∧ s.r.getD a 0 < i
  · have hstep : stepI q.lk 25 a b c i s mem inp = .ok ({ s with pc := s.pc + 1 }, mem, false, -1, 0) := by simp [stepI, hq, -List.getD_eq_getElem?_getD]
    rw [hstep]
    refine (step_ok q.cb q.co q.nC q.ccap q.eb q.eo q.nE q.ecap t S pc s.d.length dcap 25 a b c q.sh q.lk q.st q.fin s.held x i q.nm dp mv pv w (w) false (-1) 0 ((pc : Int) + 1) hT hS hPC (hst.frozen 0) hR hD hL hH heb htn he0 he1 he2 he3 hfit hcb hpc hpc1 hpc2 hpcb hcode hx0 hx1 hdec ?_).mono ?_
    · intro W E h1 h2 hbW hX
      have hX' := hX
      obtain ⟨e0, e1, e2, e3, e4, e5, e6, e7, e8, e9, e10, f6, f7, f8, f10⟩ := hX
      have hSE : S < E := by omega
      have rA : W.cell? ⟨S, 1 + a, none⟩ = some (.int .i32 (s.r.getD a 0)) := (hbW.cell (p := ⟨S, 1 + a, none⟩) hS).trans (hst.reg a ha)
      have rB : W.cell? ⟨S, 1 + b, none⟩ = some (.int .i32 (s.r.getD b 0)) := (hbW.cell (p := ⟨S, 1 + b, none⟩) hS).trans (hst.reg b hb)
      have rC : W.cell? ⟨S, 1 + c, none⟩ = some (.int .i32 (s.r.getD c 0)) := (hbW.cell (p := ⟨S, 1 + c, none⟩) hS).trans (hst.reg c hc)
      have fA : ∀ k, W.frozen? ⟨S, k, none⟩ = false := fun k => (hbW.frozen (p := ⟨S, k, none⟩) hS).trans (hst.frozen k)
      have pC : W.cell? ⟨S, 0, none⟩ = some (.int .i64 pc) := (hbW.cell (p := ⟨S, 0, none⟩) hS).trans hPC
      have hH' : W.cell? ⟨S, 19, none⟩ = some (.int .i64 s.held) := (hbW.cell (p := ⟨S, 19, none⟩) hS).trans hH
      have hL' : W.cell? ⟨S, 18, none⟩ = some (.bool false) := (hbW.cell (p := ⟨S, 18, none⟩) hS).trans hL
      have hD' : W.cell? ⟨S, 17, none⟩ = some (.slice dp s.d.length dcap) := (hbW.cell (p := ⟨S, 17, none⟩) hS).trans hD
      have vA := hr32 a
      have vB := hr32 b
      have vC := hr32 c
      have hOW : OTab W := hO.below hbW hOw
      refine ⟨_, W, prep_bound_ok E S a b c i pc ((pc : Int) + 1) q.lk (s.r.getD a 0) (s.r.getD b 0) (s.r.getD c 0) mv pv W e0 e1 e2 e3 e4 e5 e6 e7 e8 e9 e10 f6 f7 f8 f10 hSE h2 ha rA vA.1 vA.2 hq.1 (by simpa using hq.1) hq.2 (by simpa using hq.2), hX'.done (fun k _ => rfl) e6 e7 e8 e10, hbW, rfl, pC, fA 0, fun k _ _ => rfl⟩
    · rintro e w' ⟨rfl, hbw⟩
      refine ⟨rfl, ?_⟩
      rw [hpcs]; exact step_done hbw hS (Kept.refl _ _) rfl rfl hst hd hm hdS hmS
  · by_cases hn : s.r.getD a 0 < 0
    · have hstep : stepI q.lk 25 a b c i s mem inp = .error 11 := by simp [stepI, hq, -List.getD_eq_getElem?_getD]
      rw [hstep]
      refine (step_trap q.cb q.co q.nC q.ccap q.eb q.eo q.nE q.ecap t S pc s.d.length dcap 25 a b c q.sh q.lk q.st q.fin s.held x i q.nm dp mv pv w 11 (by decide) hT hS hPC (hst.frozen 0) hR hD hL hH heb htn he0 he1 he2 he3 hfit hcb hpc hpc1 hpc2 hpcb hcode hx0 hx1 hdec ?_).mono ?_
      · intro W E h1 h2 hbW hX
        have hX' := hX
        obtain ⟨e0, e1, e2, e3, e4, e5, e6, e7, e8, e9, e10, f6, f7, f8, f10⟩ := hX
        have hSE : S < E := by omega
        have rA : W.cell? ⟨S, 1 + a, none⟩ = some (.int .i32 (s.r.getD a 0)) := (hbW.cell (p := ⟨S, 1 + a, none⟩) hS).trans (hst.reg a ha)
        have rB : W.cell? ⟨S, 1 + b, none⟩ = some (.int .i32 (s.r.getD b 0)) := (hbW.cell (p := ⟨S, 1 + b, none⟩) hS).trans (hst.reg b hb)
        have rC : W.cell? ⟨S, 1 + c, none⟩ = some (.int .i32 (s.r.getD c 0)) := (hbW.cell (p := ⟨S, 1 + c, none⟩) hS).trans (hst.reg c hc)
        have fA : ∀ k, W.frozen? ⟨S, k, none⟩ = false := fun k => (hbW.frozen (p := ⟨S, k, none⟩) hS).trans (hst.frozen k)
        have pC : W.cell? ⟨S, 0, none⟩ = some (.int .i64 pc) := (hbW.cell (p := ⟨S, 0, none⟩) hS).trans hPC
        have hH' : W.cell? ⟨S, 19, none⟩ = some (.int .i64 s.held) := (hbW.cell (p := ⟨S, 19, none⟩) hS).trans hH
        have hL' : W.cell? ⟨S, 18, none⟩ = some (.bool false) := (hbW.cell (p := ⟨S, 18, none⟩) hS).trans hL
        have hD' : W.cell? ⟨S, 17, none⟩ = some (.slice dp s.d.length dcap) := (hbW.cell (p := ⟨S, 17, none⟩) hS).trans hD
        have vA := hr32 a
        have vB := hr32 b
        have vC := hr32 c
        have hOW : OTab W := hO.below hbW hOw
        exact (prep_bound_neg E S a b c i pc ((pc : Int) + 1) q.lk (s.r.getD a 0) (s.r.getD b 0) (s.r.getD c 0) mv pv W e0 e1 e2 e3 e4 e5 e6 e7 e8 e9 e10 f6 f7 f8 f10 hSE h2 ha rA vA.1 vA.2 hn (by simpa using hn)).mono fun e w' ⟨he, hb⟩ => ⟨_, he, hb⟩
      · rintro e w' ⟨rfl, hbw⟩
        exact ⟨rfl, hbw⟩
    · have hstep : stepI q.lk 25 a b c i s mem inp = .error 11 := by simp [stepI, hq, -List.getD_eq_getElem?_getD]
      rw [hstep]
      refine (step_trap q.cb q.co q.nC q.ccap q.eb q.eo q.nE q.ecap t S pc s.d.length dcap 25 a b c q.sh q.lk q.st q.fin s.held x i q.nm dp mv pv w 11 (by decide) hT hS hPC (hst.frozen 0) hR hD hL hH heb htn he0 he1 he2 he3 hfit hcb hpc hpc1 hpc2 hpcb hcode hx0 hx1 hdec ?_).mono ?_
      · intro W E h1 h2 hbW hX
        have hX' := hX
        obtain ⟨e0, e1, e2, e3, e4, e5, e6, e7, e8, e9, e10, f6, f7, f8, f10⟩ := hX
        have hSE : S < E := by omega
        have rA : W.cell? ⟨S, 1 + a, none⟩ = some (.int .i32 (s.r.getD a 0)) := (hbW.cell (p := ⟨S, 1 + a, none⟩) hS).trans (hst.reg a ha)
        have rB : W.cell? ⟨S, 1 + b, none⟩ = some (.int .i32 (s.r.getD b 0)) := (hbW.cell (p := ⟨S, 1 + b, none⟩) hS).trans (hst.reg b hb)
        have rC : W.cell? ⟨S, 1 + c, none⟩ = some (.int .i32 (s.r.getD c 0)) := (hbW.cell (p := ⟨S, 1 + c, none⟩) hS).trans (hst.reg c hc)
        have fA : ∀ k, W.frozen? ⟨S, k, none⟩ = false := fun k => (hbW.frozen (p := ⟨S, k, none⟩) hS).trans (hst.frozen k)
        have pC : W.cell? ⟨S, 0, none⟩ = some (.int .i64 pc) := (hbW.cell (p := ⟨S, 0, none⟩) hS).trans hPC
        have hH' : W.cell? ⟨S, 19, none⟩ = some (.int .i64 s.held) := (hbW.cell (p := ⟨S, 19, none⟩) hS).trans hH
        have hL' : W.cell? ⟨S, 18, none⟩ = some (.bool false) := (hbW.cell (p := ⟨S, 18, none⟩) hS).trans hL
        have hD' : W.cell? ⟨S, 17, none⟩ = some (.slice dp s.d.length dcap) := (hbW.cell (p := ⟨S, 17, none⟩) hS).trans hD
        have vA := hr32 a
        have vB := hr32 b
        have vC := hr32 c
        have hOW : OTab W := hO.below hbW hOw
        exact (prep_bound_over E S a b c i pc ((pc : Int) + 1) q.lk (s.r.getD a 0) (s.r.getD b 0) (s.r.getD c 0) mv pv W e0 e1 e2 e3 e4 e5 e6 e7 e8 e9 e10 f6 f7 f8 f10 hSE h2 ha rA vA.1 vA.2 (by omega) (decide_eq_false (by omega)) (by omega) (decide_eq_true (by omega))).mono fun e w' ⟨he, hb⟩ => ⟨_, he, hb⟩
      · rintro e w' ⟨rfl, hbw⟩
        exact ⟨rfl, hbw⟩

theorem stepI_out (q : ImN) (t S a b c pc : Nat) (s : St) (dv mv pv : Value) (mem : List Int) (x i inp : Int) (PW : World → World) (w : World) (R : Ready w q t S s dv mv mem pc x) (hdec : decV x = .tuple #[.agg #[.int .u8 27, .int .i64 a, .int .i64 b, .int .i64 c, .int .i64 i], .int .i64 0]) (ha : a < 16) (hb : b < 16) (hc : c < 16) (hi : -131072 ≤ i) (hi1 : i ≤ 131071)  :
    Calls Tryd.prog 23 #[q.val, .int .i64 (t : Nat), .pointer (some ⟨S, 0, none⟩), mv, pv] w (StepPost w S dv mv PW 27 a b c i pc (stepI q.lk 27 a b c i s mem inp)) := by
  obtain ⟨hT, hO, hst, hd, hm, hdS, hmS, hdm, hr0, hr32, hfit, hal, heb, htn, he0, he1, he2, he3, hcb, hpc, hpc1, hpc2, hpcb, hpcs, hcode, hx0, hx1⟩ := R
  obtain ⟨dp, dcap, hdv⟩ := hd.shape
  have hS := hst.lt
  have hPC := hst.pc
  rw [hpcs] at hPC
  have hR : w.cell? ⟨S, 1, none⟩ = some (.int .i32 0) := by have h := hst.reg 0 (by omega); rw [hr0] at h; exact h
  have hD := hst.d
  rw [hdv] at hD
  have hL := hst.halted
  rw [hal] at hL
  have hH := hst.held
  have hOw : 1 < w.heap.size := hO.1
  have hstep : stepI q.lk 27 a b c i s mem inp = .ok ({ s with pc := s.pc + 1 }, mem, false, -1, s.r.getD a 0) := by simp [stepI, -List.getD_eq_getElem?_getD]
  rw [hstep]
  refine (step_ok q.cb q.co q.nC q.ccap q.eb q.eo q.nE q.ecap t S pc s.d.length dcap 27 a b c q.sh q.lk q.st q.fin s.held x i q.nm dp mv pv w (w) false (-1) (s.r.getD a 0) ((pc : Int) + 1) hT hS hPC (hst.frozen 0) hR hD hL hH heb htn he0 he1 he2 he3 hfit hcb hpc hpc1 hpc2 hpcb hcode hx0 hx1 hdec ?_).mono ?_
  · intro W E h1 h2 hbW hX
    have hX' := hX
    obtain ⟨e0, e1, e2, e3, e4, e5, e6, e7, e8, e9, e10, f6, f7, f8, f10⟩ := hX
    have hSE : S < E := by omega
    have rA : W.cell? ⟨S, 1 + a, none⟩ = some (.int .i32 (s.r.getD a 0)) := (hbW.cell (p := ⟨S, 1 + a, none⟩) hS).trans (hst.reg a ha)
    have rB : W.cell? ⟨S, 1 + b, none⟩ = some (.int .i32 (s.r.getD b 0)) := (hbW.cell (p := ⟨S, 1 + b, none⟩) hS).trans (hst.reg b hb)
    have rC : W.cell? ⟨S, 1 + c, none⟩ = some (.int .i32 (s.r.getD c 0)) := (hbW.cell (p := ⟨S, 1 + c, none⟩) hS).trans (hst.reg c hc)
    have fA : ∀ k, W.frozen? ⟨S, k, none⟩ = false := fun k => (hbW.frozen (p := ⟨S, k, none⟩) hS).trans (hst.frozen k)
    have pC : W.cell? ⟨S, 0, none⟩ = some (.int .i64 pc) := (hbW.cell (p := ⟨S, 0, none⟩) hS).trans hPC
    have hH' : W.cell? ⟨S, 19, none⟩ = some (.int .i64 s.held) := (hbW.cell (p := ⟨S, 19, none⟩) hS).trans hH
    have hL' : W.cell? ⟨S, 18, none⟩ = some (.bool false) := (hbW.cell (p := ⟨S, 18, none⟩) hS).trans hL
    have hD' : W.cell? ⟨S, 17, none⟩ = some (.slice dp s.d.length dcap) := (hbW.cell (p := ⟨S, 17, none⟩) hS).trans hD
    have vA := hr32 a
    have vB := hr32 b
    have vC := hr32 c
    have hOW : OTab W := hO.below hbW hOw
    refine ⟨_, W.setCell ⟨E, 8, none⟩ (.int .i32 (s.r.getD a 0)), prep_out E S a b c i pc ((pc : Int) + 1) q.lk (s.r.getD a 0) (s.r.getD b 0) (s.r.getD c 0) mv pv W e0 e1 e2 e3 e4 e5 e6 e7 e8 e9 e10 f6 f7 f8 f10 hSE h2 ha rA, hX'.done (fun k hk => cellE (by omega)) ((cellE (by omega)).trans e6) ((cellE (by omega)).trans e7) (cellS e8) ((cellE (by omega)).trans e10), bSet h1 hbW, szS, (cellB (by omega)).trans pC, frS.trans (fA 0), fun k hk hkE => Below.heap_setCell _ _ _ _ (by show k ≠ E; omega)⟩
  · rintro e w' ⟨rfl, hbw⟩
    refine ⟨rfl, ?_⟩
    rw [hpcs]; exact step_done hbw hS (Kept.refl _ _) rfl rfl hst hd hm hdS hmS

theorem stepI_lock (q : ImN) (t S a b c pc : Nat) (s : St) (dv mv pv : Value) (mem : List Int) (x i inp : Int) (PW : World → World) (w : World) (R : Ready w q t S s dv mv mem pc x) (hdec : decV x = .tuple #[.agg #[.int .u8 28, .int .i64 a, .int .i64 b, .int .i64 c, .int .i64 i], .int .i64 0]) (ha : a < 16) (hb : b < 16) (hc : c < 16) (hi : -131072 ≤ i) (hi1 : i ≤ 131071)  :
    Calls Tryd.prog 23 #[q.val, .int .i64 (t : Nat), .pointer (some ⟨S, 0, none⟩), mv, pv] w (StepPost w S dv mv PW 28 a b c i pc (stepI q.lk 28 a b c i s mem inp)) := by
  obtain ⟨hT, hO, hst, hd, hm, hdS, hmS, hdm, hr0, hr32, hfit, hal, heb, htn, he0, he1, he2, he3, hcb, hpc, hpc1, hpc2, hpcb, hpcs, hcode, hx0, hx1⟩ := R
  obtain ⟨dp, dcap, hdv⟩ := hd.shape
  have hS := hst.lt
  have hPC := hst.pc
  rw [hpcs] at hPC
  have hR : w.cell? ⟨S, 1, none⟩ = some (.int .i32 0) := by have h := hst.reg 0 (by omega); rw [hr0] at h; exact h
  have hD := hst.d
  rw [hdv] at hD
  have hL := hst.halted
  rw [hal] at hL
  have hH := hst.held
  have hOw : 1 < w.heap.size := hO.1
  by_cases hq : 0 ≤ s.held ∨ q.lk ≤ i
  · by_cases hn : 0 ≤ s.held
    · have hstep : stepI q.lk 28 a b c i s mem inp = .error 12 := by simp [stepI, hq, -List.getD_eq_getElem?_getD]
      rw [hstep]
      refine (step_trap q.cb q.co q.nC q.ccap q.eb q.eo q.nE q.ecap t S pc s.d.length dcap 28 a b c q.sh q.lk q.st q.fin s.held x i q.nm dp mv pv w 12 (by decide) hT hS hPC (hst.frozen 0) hR hD hL hH heb htn he0 he1 he2 he3 hfit hcb hpc hpc1 hpc2 hpcb hcode hx0 hx1 hdec ?_).mono ?_
      · intro W E h1 h2 hbW hX
        have hX' := hX
        obtain ⟨e0, e1, e2, e3, e4, e5, e6, e7, e8, e9, e10, f6, f7, f8, f10⟩ := hX
        have hSE : S < E := by omega
        have rA : W.cell? ⟨S, 1 + a, none⟩ = some (.int .i32 (s.r.getD a 0)) := (hbW.cell (p := ⟨S, 1 + a, none⟩) hS).trans (hst.reg a ha)
        have rB : W.cell? ⟨S, 1 + b, none⟩ = some (.int .i32 (s.r.getD b 0)) := (hbW.cell (p := ⟨S, 1 + b, none⟩) hS).trans (hst.reg b hb)
        have rC : W.cell? ⟨S, 1 + c, none⟩ = some (.int .i32 (s.r.getD c 0)) := (hbW.cell (p := ⟨S, 1 + c, none⟩) hS).trans (hst.reg c hc)
        have fA : ∀ k, W.frozen? ⟨S, k, none⟩ = false := fun k => (hbW.frozen (p := ⟨S, k, none⟩) hS).trans (hst.frozen k)
        have pC : W.cell? ⟨S, 0, none⟩ = some (.int .i64 pc) := (hbW.cell (p := ⟨S, 0, none⟩) hS).trans hPC
        have hH' : W.cell? ⟨S, 19, none⟩ = some (.int .i64 s.held) := (hbW.cell (p := ⟨S, 19, none⟩) hS).trans hH
        have hL' : W.cell? ⟨S, 18, none⟩ = some (.bool false) := (hbW.cell (p := ⟨S, 18, none⟩) hS).trans hL
        have hD' : W.cell? ⟨S, 17, none⟩ = some (.slice dp s.d.length dcap) := (hbW.cell (p := ⟨S, 17, none⟩) hS).trans hD
        have vA := hr32 a
        have vB := hr32 b
        have vC := hr32 c
        have hOW : OTab W := hO.below hbW hOw
        exact (prep_lock_held E S a b c i pc ((pc : Int) + 1) q.lk (s.r.getD a 0) (s.r.getD b 0) (s.r.getD c 0) s.held mv pv W e0 e1 e2 e3 e4 e5 e6 e7 e8 e9 e10 f6 f7 f8 f10 hSE h2 hn hH' (fA _)).mono fun e w' ⟨he, hb⟩ => ⟨_, he, hb⟩
      · rintro e w' ⟨rfl, hbw⟩
        exact ⟨rfl, hbw⟩
    · have hstep : stepI q.lk 28 a b c i s mem inp = .error 12 := by simp [stepI, hq, -List.getD_eq_getElem?_getD]
      rw [hstep]
      refine (step_trap q.cb q.co q.nC q.ccap q.eb q.eo q.nE q.ecap t S pc s.d.length dcap 28 a b c q.sh q.lk q.st q.fin s.held x i q.nm dp mv pv w 12 (by decide) hT hS hPC (hst.frozen 0) hR hD hL hH heb htn he0 he1 he2 he3 hfit hcb hpc hpc1 hpc2 hpcb hcode hx0 hx1 hdec ?_).mono ?_
      · intro W E h1 h2 hbW hX
        have hX' := hX
        obtain ⟨e0, e1, e2, e3, e4, e5, e6, e7, e8, e9, e10, f6, f7, f8, f10⟩ := hX
        have hSE : S < E := by omega
        have rA : W.cell? ⟨S, 1 + a, none⟩ = some (.int .i32 (s.r.getD a 0)) := (hbW.cell (p := ⟨S, 1 + a, none⟩) hS).trans (hst.reg a ha)
        have rB : W.cell? ⟨S, 1 + b, none⟩ = some (.int .i32 (s.r.getD b 0)) := (hbW.cell (p := ⟨S, 1 + b, none⟩) hS).trans (hst.reg b hb)
        have rC : W.cell? ⟨S, 1 + c, none⟩ = some (.int .i32 (s.r.getD c 0)) := (hbW.cell (p := ⟨S, 1 + c, none⟩) hS).trans (hst.reg c hc)
        have fA : ∀ k, W.frozen? ⟨S, k, none⟩ = false := fun k => (hbW.frozen (p := ⟨S, k, none⟩) hS).trans (hst.frozen k)
        have pC : W.cell? ⟨S, 0, none⟩ = some (.int .i64 pc) := (hbW.cell (p := ⟨S, 0, none⟩) hS).trans hPC
        have hH' : W.cell? ⟨S, 19, none⟩ = some (.int .i64 s.held) := (hbW.cell (p := ⟨S, 19, none⟩) hS).trans hH
        have hL' : W.cell? ⟨S, 18, none⟩ = some (.bool false) := (hbW.cell (p := ⟨S, 18, none⟩) hS).trans hL
        have hD' : W.cell? ⟨S, 17, none⟩ = some (.slice dp s.d.length dcap) := (hbW.cell (p := ⟨S, 17, none⟩) hS).trans hD
        have vA := hr32 a
        have vB := hr32 b
        have vC := hr32 c
        have hOW : OTab W := hO.below hbW hOw
        exact (prep_lock_many E S a b c i pc ((pc : Int) + 1) q.lk (s.r.getD a 0) (s.r.getD b 0) (s.r.getD c 0) s.held mv pv W e0 e1 e2 e3 e4 e5 e6 e7 e8 e9 e10 f6 f7 f8 f10 hSE h2 (by omega) (by omega) hH' (fA _)).mono fun e w' ⟨he, hb⟩ => ⟨_, he, hb⟩
      · rintro e w' ⟨rfl, hbw⟩
        exact ⟨rfl, hbw⟩
  · have hstep : stepI q.lk 28 a b c i s mem inp = .ok ({ s with pc := s.pc + 1, held := i }, mem, false, -1, 0) := by simp [stepI, hq, -List.getD_eq_getElem?_getD]
    rw [hstep]
    refine (step_ok q.cb q.co q.nC q.ccap q.eb q.eo q.nE q.ecap t S pc s.d.length dcap 28 a b c q.sh q.lk q.st q.fin s.held x i q.nm dp mv pv w (w.setCell ⟨S, 19, none⟩ (.int .i64 i)) false (-1) 0 ((pc : Int) + 1) hT hS hPC (hst.frozen 0) hR hD hL hH heb htn he0 he1 he2 he3 hfit hcb hpc hpc1 hpc2 hpcb hcode hx0 hx1 hdec ?_).mono ?_
    · intro W E h1 h2 hbW hX
      have hX' := hX
      obtain ⟨e0, e1, e2, e3, e4, e5, e6, e7, e8, e9, e10, f6, f7, f8, f10⟩ := hX
      have hSE : S < E := by omega
      have rA : W.cell? ⟨S, 1 + a, none⟩ = some (.int .i32 (s.r.getD a 0)) := (hbW.cell (p := ⟨S, 1 + a, none⟩) hS).trans (hst.reg a ha)
      have rB : W.cell? ⟨S, 1 + b, none⟩ = some (.int .i32 (s.r.getD b 0)) := (hbW.cell (p := ⟨S, 1 + b, none⟩) hS).trans (hst.reg b hb)
      have rC : W.cell? ⟨S, 1 + c, none⟩ = some (.int .i32 (s.r.getD c 0)) := (hbW.cell (p := ⟨S, 1 + c, none⟩) hS).trans (hst.reg c hc)
      have fA : ∀ k, W.frozen? ⟨S, k, none⟩ = false := fun k => (hbW.frozen (p := ⟨S, k, none⟩) hS).trans (hst.frozen k)
      have pC : W.cell? ⟨S, 0, none⟩ = some (.int .i64 pc) := (hbW.cell (p := ⟨S, 0, none⟩) hS).trans hPC
      have hH' : W.cell? ⟨S, 19, none⟩ = some (.int .i64 s.held) := (hbW.cell (p := ⟨S, 19, none⟩) hS).trans hH
      have hL' : W.cell? ⟨S, 18, none⟩ = some (.bool false) := (hbW.cell (p := ⟨S, 18, none⟩) hS).trans hL
      have hD' : W.cell? ⟨S, 17, none⟩ = some (.slice dp s.d.length dcap) := (hbW.cell (p := ⟨S, 17, none⟩) hS).trans hD
      have vA := hr32 a
      have vB := hr32 b
      have vC := hr32 c
      have hOW : OTab W := hO.below hbW hOw
      refine ⟨_, W.setCell ⟨S, 19, none⟩ (.int .i64 i), prep_lock_ok E S a b c i pc ((pc : Int) + 1) q.lk (s.r.getD a 0) (s.r.getD b 0) (s.r.getD c 0) s.held mv pv W e0 e1 e2 e3 e4 e5 e6 e7 e8 e9 e10 f6 f7 f8 f10 hSE h2 (by omega) (by omega) hH' (fA _), hX'.done (fun k _ => cellB (by omega)) ((cellB (by omega)).trans e6) ((cellB (by omega)).trans e7) ((cellB (by omega)).trans e8) ((cellB (by omega)).trans e10), bBoth hbW, szS, (cellE (by omega)).trans pC, frS.trans (fA 0), fun k hk hkE => Below.heap_setCell _ _ _ _ (by show k ≠ S; omega)⟩
    · rintro e w' ⟨rfl, hbw⟩
      refine ⟨rfl, ?_⟩
      rw [hpcs]; exact step_done hbw hS ((Kept.refl _ _).setCell (p := ⟨S, 19, none⟩) (.inl rfl) _) rfl szS (hst.setHeld i) (hd.other (p := ⟨S, 19, none⟩) hdS _) (hm.other (p := ⟨S, 19, none⟩) hmS _) hdS hmS

theorem stepI_unlock (q : ImN) (t S a b c pc : Nat) (s : St) (dv mv pv : Value) (mem : List Int) (x i inp : Int) (PW : World → World) (w : World) (R : Ready w q t S s dv mv mem pc x) (hdec : decV x = .tuple #[.agg #[.int .u8 29, .int .i64 a, .int .i64 b, .int .i64 c, .int .i64 i], .int .i64 0]) (ha : a < 16) (hb : b < 16) (hc : c < 16) (hi : -131072 ≤ i) (hi1 : i ≤ 131071)  :
    Calls Tryd.prog 23 #[q.val, .int .i64 (t : Nat), .pointer (some ⟨S, 0, none⟩), mv, pv] w (StepPost w S dv mv PW 29 a b c i pc (stepI q.lk 29 a b c i s mem inp)) := by
  obtain ⟨hT, hO, hst, hd, hm, hdS, hmS, hdm, hr0, hr32, hfit, hal, heb, htn, he0, he1, he2, he3, hcb, hpc, hpc1, hpc2, hpcb, hpcs, hcode, hx0, hx1⟩ := R
  obtain ⟨dp, dcap, hdv⟩ := hd.shape
  have hS := hst.lt
  have hPC := hst.pc
  rw [hpcs] at hPC
  have hR : w.cell? ⟨S, 1, none⟩ = some (.int .i32 0) := by have h := hst.reg 0 (by omega); rw [hr0] at h; exact h
  have hD := hst.d
  rw [hdv] at hD
  have hL := hst.halted
  rw [hal] at hL
  have hH := hst.held
  have hOw : 1 < w.heap.size := hO.1
  by_cases hq : s.held = i
  · have hstep : stepI q.lk 29 a b c i s mem inp = .ok ({ s with pc := s.pc + 1, held := -1 }, mem, false, -1, 0) := by simp [stepI, hq, -List.getD_eq_getElem?_getD]
    rw [hstep]
    refine (step_ok q.cb q.co q.nC q.ccap q.eb q.eo q.nE q.ecap t S pc s.d.length dcap 29 a b c q.sh q.lk q.st q.fin s.held x i q.nm dp mv pv w (w.setCell ⟨S, 19, none⟩ (.int .i64 (-1))) false (-1) 0 ((pc : Int) + 1) hT hS hPC (hst.frozen 0) hR hD hL hH heb htn he0 he1 he2 he3 hfit hcb hpc hpc1 hpc2 hpcb hcode hx0 hx1 hdec ?_).mono ?_
    · intro W E h1 h2 hbW hX
      have hX' := hX
      obtain ⟨e0, e1, e2, e3, e4, e5, e6, e7, e8, e9, e10, f6, f7, f8, f10⟩ := hX
      have hSE : S < E := by omega
      have rA : W.cell? ⟨S, 1 + a, none⟩ = some (.int .i32 (s.r.getD a 0)) := (hbW.cell (p := ⟨S, 1 + a, none⟩) hS).trans (hst.reg a ha)
      have rB : W.cell? ⟨S, 1 + b, none⟩ = some (.int .i32 (s.r.getD b 0)) := (hbW.cell (p := ⟨S, 1 + b, none⟩) hS).trans (hst.reg b hb)
      have rC : W.cell? ⟨S, 1 + c, none⟩ = some (.int .i32 (s.r.getD c 0)) := (hbW.cell (p := ⟨S, 1 + c, none⟩) hS).trans (hst.reg c hc)
      have fA : ∀ k, W.frozen? ⟨S, k, none⟩ = false := fun k => (hbW.frozen (p := ⟨S, k, none⟩) hS).trans (hst.frozen k)
      have pC : W.cell? ⟨S, 0, none⟩ = some (.int .i64 pc) := (hbW.cell (p := ⟨S, 0, none⟩) hS).trans hPC
      have hH' : W.cell? ⟨S, 19, none⟩ = some (.int .i64 s.held) := (hbW.cell (p := ⟨S, 19, none⟩) hS).trans hH
      have hL' : W.cell? ⟨S, 18, none⟩ = some (.bool false) := (hbW.cell (p := ⟨S, 18, none⟩) hS).trans hL
      have hD' : W.cell? ⟨S, 17, none⟩ = some (.slice dp s.d.length dcap) := (hbW.cell (p := ⟨S, 17, none⟩) hS).trans hD
      have vA := hr32 a
      have vB := hr32 b
      have vC := hr32 c
      have hOW : OTab W := hO.below hbW hOw
      refine ⟨_, W.setCell ⟨S, 19, none⟩ (.int .i64 (-1)), prep_unlock_ok E S a b c i pc ((pc : Int) + 1) q.lk (s.r.getD a 0) (s.r.getD b 0) (s.r.getD c 0) mv pv W e0 e1 e2 e3 e4 e5 e6 e7 e8 e9 e10 f6 f7 f8 f10 hSE h2 (by rw [hH', hq]) (fA _), hX'.done (fun k _ => cellB (by omega)) ((cellB (by omega)).trans e6) ((cellB (by omega)).trans e7) ((cellB (by omega)).trans e8) ((cellB (by omega)).trans e10), bBoth hbW, szS, (cellE (by omega)).trans pC, frS.trans (fA 0), fun k hk hkE => Below.heap_setCell _ _ _ _ (by show k ≠ S; omega)⟩
    · rintro e w' ⟨rfl, hbw⟩
      refine ⟨rfl, ?_⟩
      rw [hpcs]; exact step_done hbw hS ((Kept.refl _ _).setCell (p := ⟨S, 19, none⟩) (.inl rfl) _) rfl szS (hst.setHeld (-1)) (hd.other (p := ⟨S, 19, none⟩) hdS _) (hm.other (p := ⟨S, 19, none⟩) hmS _) hdS hmS
  · have hstep : stepI q.lk 29 a b c i s mem inp = .error 12 := by simp [stepI, hq, -List.getD_eq_getElem?_getD]
    rw [hstep]
    refine (step_trap q.cb q.co q.nC q.ccap q.eb q.eo q.nE q.ecap t S pc s.d.length dcap 29 a b c q.sh q.lk q.st q.fin s.held x i q.nm dp mv pv w 12 (by decide) hT hS hPC (hst.frozen 0) hR hD hL hH heb htn he0 he1 he2 he3 hfit hcb hpc hpc1 hpc2 hpcb hcode hx0 hx1 hdec ?_).mono ?_
    · intro W E h1 h2 hbW hX
      have hX' := hX
      obtain ⟨e0, e1, e2, e3, e4, e5, e6, e7, e8, e9, e10, f6, f7, f8, f10⟩ := hX
      have hSE : S < E := by omega
      have rA : W.cell? ⟨S, 1 + a, none⟩ = some (.int .i32 (s.r.getD a 0)) := (hbW.cell (p := ⟨S, 1 + a, none⟩) hS).trans (hst.reg a ha)
      have rB : W.cell? ⟨S, 1 + b, none⟩ = some (.int .i32 (s.r.getD b 0)) := (hbW.cell (p := ⟨S, 1 + b, none⟩) hS).trans (hst.reg b hb)
      have rC : W.cell? ⟨S, 1 + c, none⟩ = some (.int .i32 (s.r.getD c 0)) := (hbW.cell (p := ⟨S, 1 + c, none⟩) hS).trans (hst.reg c hc)
      have fA : ∀ k, W.frozen? ⟨S, k, none⟩ = false := fun k => (hbW.frozen (p := ⟨S, k, none⟩) hS).trans (hst.frozen k)
      have pC : W.cell? ⟨S, 0, none⟩ = some (.int .i64 pc) := (hbW.cell (p := ⟨S, 0, none⟩) hS).trans hPC
      have hH' : W.cell? ⟨S, 19, none⟩ = some (.int .i64 s.held) := (hbW.cell (p := ⟨S, 19, none⟩) hS).trans hH
      have hL' : W.cell? ⟨S, 18, none⟩ = some (.bool false) := (hbW.cell (p := ⟨S, 18, none⟩) hS).trans hL
      have hD' : W.cell? ⟨S, 17, none⟩ = some (.slice dp s.d.length dcap) := (hbW.cell (p := ⟨S, 17, none⟩) hS).trans hD
      have vA := hr32 a
      have vB := hr32 b
      have vC := hr32 c
      have hOW : OTab W := hO.below hbW hOw
      exact (prep_unlock_bad E S a b c i pc ((pc : Int) + 1) q.lk (s.r.getD a 0) (s.r.getD b 0) (s.r.getD c 0) s.held mv pv W e0 e1 e2 e3 e4 e5 e6 e7 e8 e9 e10 f6 f7 f8 f10 hSE h2 (by simpa using hq) hH' (fA _)).mono fun e w' ⟨he, hb⟩ => ⟨_, he, hb⟩
    · rintro e w' ⟨rfl, hbw⟩
      exact ⟨rfl, hbw⟩

theorem stepI_halt (q : ImN) (t S a b c pc : Nat) (s : St) (dv mv pv : Value) (mem : List Int) (x i inp : Int) (PW : World → World) (w : World) (R : Ready w q t S s dv mv mem pc x) (hdec : decV x = .tuple #[.agg #[.int .u8 1, .int .i64 a, .int .i64 b, .int .i64 c, .int .i64 i], .int .i64 0]) (ha : a < 16) (hb : b < 16) (hc : c < 16) (hi : -131072 ≤ i) (hi1 : i ≤ 131071)  :
    Calls Tryd.prog 23 #[q.val, .int .i64 (t : Nat), .pointer (some ⟨S, 0, none⟩), mv, pv] w (StepPost w S dv mv PW 1 a b c i pc (stepI q.lk 1 a b c i s mem inp)) := by
  obtain ⟨hT, hO, hst, hd, hm, hdS, hmS, hdm, hr0, hr32, hfit, hal, heb, htn, he0, he1, he2, he3, hcb, hpc, hpc1, hpc2, hpcb, hpcs, hcode, hx0, hx1⟩ := R
  obtain ⟨dp, dcap, hdv⟩ := hd.shape
  have hS := hst.lt
  have hPC := hst.pc
  rw [hpcs] at hPC
  have hR : w.cell? ⟨S, 1, none⟩ = some (.int .i32 0) := by have h := hst.reg 0 (by omega); rw [hr0] at h; exact h
  have hD := hst.d
  rw [hdv] at hD
  have hL := hst.halted
  rw [hal] at hL
  have hH := hst.held
  have hOw : 1 < w.heap.size := hO.1
  by_cases hq : 0 ≤ s.held
  · have hstep : stepI q.lk 1 a b c i s mem inp = .error 12 := by simp [stepI, hq, -List.getD_eq_getElem?_getD]
    rw [hstep]
    refine (step_trap q.cb q.co q.nC q.ccap q.eb q.eo q.nE q.ecap t S pc s.d.length dcap 1 a b c q.sh q.lk q.st q.fin s.held x i q.nm dp mv pv w 12 (by decide) hT hS hPC (hst.frozen 0) hR hD hL hH heb htn he0 he1 he2 he3 hfit hcb hpc hpc1 hpc2 hpcb hcode hx0 hx1 hdec ?_).mono ?_
    · intro W E h1 h2 hbW hX
      have hX' := hX
      obtain ⟨e0, e1, e2, e3, e4, e5, e6, e7, e8, e9, e10, f6, f7, f8, f10⟩ := hX
      have hSE : S < E := by omega
      have rA : W.cell? ⟨S, 1 + a, none⟩ = some (.int .i32 (s.r.getD a 0)) := (hbW.cell (p := ⟨S, 1 + a, none⟩) hS).trans (hst.reg a ha)
      have rB : W.cell? ⟨S, 1 + b, none⟩ = some (.int .i32 (s.r.getD b 0)) := (hbW.cell (p := ⟨S, 1 + b, none⟩) hS).trans (hst.reg b hb)
      have rC : W.cell? ⟨S, 1 + c, none⟩ = some (.int .i32 (s.r.getD c 0)) := (hbW.cell (p := ⟨S, 1 + c, none⟩) hS).trans (hst.reg c hc)
      have fA : ∀ k, W.frozen? ⟨S, k, none⟩ = false := fun k => (hbW.frozen (p := ⟨S, k, none⟩) hS).trans (hst.frozen k)
      have pC : W.cell? ⟨S, 0, none⟩ = some (.int .i64 pc) := (hbW.cell (p := ⟨S, 0, none⟩) hS).trans hPC
      have hH' : W.cell? ⟨S, 19, none⟩ = some (.int .i64 s.held) := (hbW.cell (p := ⟨S, 19, none⟩) hS).trans hH
      have hL' : W.cell? ⟨S, 18, none⟩ = some (.bool false) := (hbW.cell (p := ⟨S, 18, none⟩) hS).trans hL
      have hD' : W.cell? ⟨S, 17, none⟩ = some (.slice dp s.d.length dcap) := (hbW.cell (p := ⟨S, 17, none⟩) hS).trans hD
      have vA := hr32 a
      have vB := hr32 b
      have vC := hr32 c
      have hOW : OTab W := hO.below hbW hOw
      exact (prep_halt_bad E S a b c i pc ((pc : Int) + 1) q.lk (s.r.getD a 0) (s.r.getD b 0) (s.r.getD c 0) s.held mv pv W e0 e1 e2 e3 e4 e5 e6 e7 e8 e9 e10 f6 f7 f8 f10 hSE h2 hq hH' (fA _)).mono fun e w' ⟨he, hb⟩ => ⟨_, he, hb⟩
    · rintro e w' ⟨rfl, hbw⟩
      exact ⟨rfl, hbw⟩
  · have hstep : stepI q.lk 1 a b c i s mem inp = .ok ({ s with halted := true }, mem, false, -1, 0) := by simp [stepI, hq, -List.getD_eq_getElem?_getD]
    rw [hstep]
    refine (step_ok q.cb q.co q.nC q.ccap q.eb q.eo q.nE q.ecap t S pc s.d.length dcap 1 a b c q.sh q.lk q.st q.fin s.held x i q.nm dp mv pv w (w.setCell ⟨S, 18, none⟩ (.bool true)) false (-1) 0 (pc : Int) hT hS hPC (hst.frozen 0) hR hD hL hH heb htn he0 he1 he2 he3 hfit hcb hpc hpc1 hpc2 hpcb hcode hx0 hx1 hdec ?_).mono ?_
    · intro W E h1 h2 hbW hX
      have hX' := hX
      obtain ⟨e0, e1, e2, e3, e4, e5, e6, e7, e8, e9, e10, f6, f7, f8, f10⟩ := hX
      have hSE : S < E := by omega
      have rA : W.cell? ⟨S, 1 + a, none⟩ = some (.int .i32 (s.r.getD a 0)) := (hbW.cell (p := ⟨S, 1 + a, none⟩) hS).trans (hst.reg a ha)
      have rB : W.cell? ⟨S, 1 + b, none⟩ = some (.int .i32 (s.r.getD b 0)) := (hbW.cell (p := ⟨S, 1 + b, none⟩) hS).trans (hst.reg b hb)
      have rC : W.cell? ⟨S, 1 + c, none⟩ = some (.int .i32 (s.r.getD c 0)) := (hbW.cell (p := ⟨S, 1 + c, none⟩) hS).trans (hst.reg c hc)
      have fA : ∀ k, W.frozen? ⟨S, k, none⟩ = false := fun k => (hbW.frozen (p := ⟨S, k, none⟩) hS).trans (hst.frozen k)
      have pC : W.cell? ⟨S, 0, none⟩ = some (.int .i64 pc) := (hbW.cell (p := ⟨S, 0, none⟩) hS).trans hPC
      have hH' : W.cell? ⟨S, 19, none⟩ = some (.int .i64 s.held) := (hbW.cell (p := ⟨S, 19, none⟩) hS).trans hH
      have hL' : W.cell? ⟨S, 18, none⟩ = some (.bool false) := (hbW.cell (p := ⟨S, 18, none⟩) hS).trans hL
      have hD' : W.cell? ⟨S, 17, none⟩ = some (.slice dp s.d.length dcap) := (hbW.cell (p := ⟨S, 17, none⟩) hS).trans hD
      have vA := hr32 a
      have vB := hr32 b
      have vC := hr32 c
      have hOW : OTab W := hO.below hbW hOw
      refine ⟨_, (W.setCell ⟨E, 10, none⟩ (.int .i64 pc)).setCell ⟨S, 18, none⟩ (.bool true), prep_halt_ok E S a b c i pc ((pc : Int) + 1) q.lk (s.r.getD a 0) (s.r.getD b 0) (s.r.getD c 0) s.held mv pv W false e0 e1 e2 e3 e4 e5 e6 e7 e8 e9 e10 f6 f7 f8 f10 hSE h2 (by omega) hH' (fA _) hL' (fA _), hX'.done (fun k _ => (cellB (by omega)).trans (cellE (by omega))) ((cellB (by omega)).trans ((cellE (by omega)).trans e6)) ((cellB (by omega)).trans ((cellE (by omega)).trans e7)) ((cellB (by omega)).trans ((cellE (by omega)).trans e8)) ((cellB (by omega)).trans (cellS e10)), bBoth (bSet h1 hbW), szS.trans szS, (cellE (by omega)).trans ((cellB (by omega)).trans pC), frS.trans (frS.trans (fA 0)), fun k hk hkE => (Below.heap_setCell _ _ _ _ (by show k ≠ S; omega)).trans (Below.heap_setCell _ _ _ _ (by show k ≠ E; omega))⟩
    · rintro e w' ⟨rfl, hbw⟩
      refine ⟨rfl, ?_⟩
      have h := step_done hbw hS ((Kept.refl _ _).setCell (p := ⟨S, 18, none⟩) (.inl rfl) _) rfl szS (hst.setHalted true) (hd.other (p := ⟨S, 18, none⟩) hdS _) (hm.other (p := ⟨S, 18, none⟩) hmS _) hdS hmS; rw [← hpcs] at h; exact h

end Go.Proofs.YtpachmkklppmjaaDoor
