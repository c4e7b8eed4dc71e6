/- core.Run over the pure step. -/
import Derived.Test.YtpachmkklppmjaaDoorCorQ
import Derived.Test.YtpachmkklppmjaaDoorCorS
import Derived.Laws.AppendOwn
set_option linter.unusedVariables false
set_option linter.unusedSimpArgs false
namespace Go.Proofs.YtpachmkklppmjaaDoor
open Go.RowKit

/-- A run's configuration: the state, the shared memory, the port's state, the outputs. -/
structure Cf (σ : Type) where
  s : St
  mem : List Int
  p : σ
  out : List (Int × Int)

/-- A step of a run. -/
def cstep {σ : Type} (im : Im) (t : Int) (inp : σ → Int → Int) (nxt : σ → Int → σ) (c : Cf σ) : Except Int (Cf σ) :=
  match stepP im t c.s c.mem (inp c.p) with
  | .error er => .error er
  | .ok (f, s', m') => .ok ⟨s', m', if f.n = 26 then nxt c.p f.i else c.p, if f.n = 27 then c.out ++ [(f.i, f.vl)] else c.out⟩

/-- A run: the last configuration, the number of steps, the error number. -/
def runP {σ : Type} (im : Im) (t : Int) (inp : σ → Int → Int) (nxt : σ → Int → σ) : Nat → Cf σ → Cf σ × Nat × Int
  | fuel, c => if c.s.halted then (c, 0, 0) else match fuel with
    | 0 => (c, 0, 13)
    | fuel + 1 => match cstep im t inp nxt c with
      | .error er => (c, 0, er)
      | .ok c' => ((runP im t inp nxt fuel c').1, (runP im t inp nxt fuel c').2.1 + 1, (runP im t inp nxt fuel c').2.2)

theorem runP_halted {σ : Type} {im : Im} {t : Int} {inp : σ → Int → Int} {nxt : σ → Int → σ} {fuel : Nat} {c : Cf σ} (h : c.s.halted = true) : runP im t inp nxt fuel c = (c, 0, 0) := by
  cases fuel <;> simp [runP, h]
theorem runP_fuel {σ : Type} {im : Im} {t : Int} {inp : σ → Int → Int} {nxt : σ → Int → σ} {c : Cf σ} (h : c.s.halted = false) : runP im t inp nxt 0 c = (c, 0, 13) := by
  simp [runP, h]
theorem runP_err {σ : Type} {im : Im} {t : Int} {inp : σ → Int → Int} {nxt : σ → Int → σ} {fuel : Nat} {c : Cf σ} {er : Int} (h : c.s.halted = false) (hs : cstep im t inp nxt c = .error er) : runP im t inp nxt (fuel + 1) c = (c, 0, er) := by
  simp [runP, h, hs]
theorem runP_ok {σ : Type} {im : Im} {t : Int} {inp : σ → Int → Int} {nxt : σ → Int → σ} {fuel : Nat} {c c' : Cf σ} (h : c.s.halted = false) (hs : cstep im t inp nxt c = .ok c') :
    runP im t inp nxt (fuel + 1) c = ((runP im t inp nxt fuel c').1, (runP im t inp nxt fuel c').2.1 + 1, (runP im t inp nxt fuel c').2.2) := by
  rw [runP]; simp [h, hs]

def outCells (l : List (Int × Int)) : List Value := l.flatMap fun x => [.int .i64 x.1, .int .i32 x.2]

/-- A port through a run. -/
structure PortRun {σ : Type} (S : Nat) (dv mv pv : Value) (inp : σ → Int → Int) (nxt : σ → Int → σ) (PR : σ → World → Prop) (PF : Nat → Prop) (PW : σ → Int → World → World) : Prop where
  port : ∀ p w i, PR p w → PortIn w S dv mv pv i (inp p i) (PW p i)
  keep : ∀ p w w', PR p w → (∀ k, k < w.heap.size → PF k → w'.heap[k]? = w.heap[k]?) → PR p w'
  step : ∀ p w i, PR p w → PR (nxt p i) (PW p i w)
  frame : ∀ p w i, Kept PF w (PW p i w)
  size : ∀ p w i, (PW p i w).heap.size = w.heap.size
  apart : ∀ k, PF k → ¬ OwnF S dv mv k
  val : ∀ p i, W32 (inp p i)

/-- What a run's loop holds on to. -/
structure RunInv {σ : Type} (w : World) (im : Im) (t : Int) (S : Nat) (dv mv : Value) (inp : σ → Int → Int) (nxt : σ → Int → σ) (PR : σ → World → Prop) (PF : Nat → Prop) (fuel : Nat) (c0 : Cf σ) (cells : List Value) (c : Cf σ) (k : Nat) (ov : Value) (wr : World) : Prop where
  le : k ≤ fuel
  run : runP im t inp nxt fuel c0 = ((runP im t inp nxt (fuel - k) c).1, (runP im t inp nxt (fuel - k) c).2.1 + k, (runP im t inp nxt (fuel - k) c).2.2)
  own : wr.ownsRow (w.heap.size + 1) 72 2 ov c.out.length (outCells c.out)
  outs : c.out.length ≤ k
  kept : Kept (fun j => OwnF S dv mv j ∨ PF j) w wr
  st : StAt wr S c.s dv
  d : MemAt wr dv c.s.d
  m : MemAt wr mv c.mem
  pr : PR c.p wr
  box : RowAt wr w.heap.size cells
  r32 : ∀ j, W32 (c.s.r.getD j 0)
  d32 : ∀ j, W32 (c.s.d.getD j 0)
  m32 : ∀ j, W32 (c.mem.getD j 0)

/-- What a run asks of memory: its own blocks lie between B and the heap's end; all else that it reads lies below B. -/
structure RunPre (w : World) (B : Nat) (imv : Value) (im : Im) (S : Nat) (dv mv : Value) (PF : Nat → Prop) : Prop where
  tab : Tab w
  otab : OTab w
  im : ∀ w', Below B w w' → ImAt w' imv im
  own : ∀ k, OwnF S dv mv k ∨ PF k → B ≤ k ∧ k < w.heap.size
  glob : 0 < B ∧ 1 < B
  le : B ≤ w.heap.size
  dS : dv.ownBlock ≠ some S
  mS : mv.ownBlock ≠ some S
  dm : ∀ k, dv.ownBlock = some k → mv.ownBlock ≠ some k

theorem RunPre.below {w wr : World} {B : Nat} {imv : Value} {im : Im} {S : Nat} {dv mv : Value} {PF : Nat → Prop} (h : RunPre w B imv im S dv mv PF) (hk : Kept (fun j => OwnF S dv mv j ∨ PF j) w wr) : Below B w wr :=
  hk.below h.le fun k hf => (h.own k hf).1

theorem RunInv.set {σ : Type} {w : World} {B : Nat} {imv : Value} {im : Im} {t : Int} {S : Nat} {dv mv : Value} {inp : σ → Int → Int} {nxt : σ → Int → σ} {PR : σ → World → Prop} {PF : Nat → Prop} {fuel : Nat} {c0 : Cf σ} {cells : List Value} {c : Cf σ} {k : Nat} {ov : Value} {wr : World}
    (h : RunInv w im t S dv mv inp nxt PR PF fuel c0 cells c k ov wr) (hp : RunPre w B imv im S dv mv PF) : Set wr imv im S c.s dv mv c.mem :=
  have hb := hp.below h.kept
  ⟨hp.tab.below hb hp.glob.1, hp.otab.below hb hp.glob.2, hp.im wr hb, h.st, h.d, h.m, hp.dS, hp.mS, hp.dm, h.r32⟩

theorem ownsRow_block {w w' : World} {base : Nat} {e : TypeId} {size : Nat} {v : Value} {n : Nat} {xs : List Value} (h : w.ownsRow base e size v n xs) (hk : ∀ g, base ≤ g → g < w.heap.size → w'.heap[g]? = w.heap[g]?) : w'.ownsRow base e size v n xs := by
  obtain ⟨h1, h2⟩ := h
  refine ⟨h1, ?_⟩
  rcases h2 with h2 | ⟨g, cap, cur, a, b, c, d⟩
  · exact .inl h2
  · exact .inr ⟨g, cap, cur, a, b, (hk g b (lt_of_block c)).trans c, d⟩

theorem cstep_of {σ : Type} {im : Im} {t : Int} {inp : σ → Int → Int} {nxt : σ → Int → σ} {c : Cf σ} {f : Ef} {s' : St} {m' : List Int} (h : stepP im t c.s c.mem (inp c.p) = .ok (f, s', m')) :
    cstep im t inp nxt c = .ok ⟨s', m', if f.n = 26 then nxt c.p f.i else c.p, if f.n = 27 then c.out ++ [(f.i, f.vl)] else c.out⟩ := by
  simp [cstep, h]

/-- A round that executes a step: the world behind it, what was appended owned anew. -/
theorem RunInv.next {σ : Type} {w : World} {B : Nat} {imv pv : Value} {im : Im} {t : Int} {S : Nat} {dv mv : Value} {inp : σ → Int → Int} {nxt : σ → Int → σ} {PR : σ → World → Prop} {PF : Nat → Prop} {PW : σ → Int → World → World} {fuel : Nat} {c0 : Cf σ} {cells : List Value} {c : Cf σ} {k : Nat} {ov ov' : Value} {wr w1 w2 : World}
    (h : RunInv w im t S dv mv inp nxt PR PF fuel c0 cells c k ov wr) (hp : RunPre w B imv im S dv mv PF) (hport : PortRun S dv mv pv inp nxt PR PF PW) {f : Ef} {s' : St} {m' : List Int} (hs : stepP im t c.s c.mem (inp c.p) = .ok (f, s', m')) (hal : c.s.halted = false) (hk : k < fuel)
    (hkept : Kept (OwnF S dv mv) (if f.n = 26 then PW c.p f.i wr else wr) w1) (hst : StAt w1 S s' dv) (hd : MemAt w1 dv s'.d) (hm : MemAt w1 mv m')
    (hb : ∀ j, j < w1.heap.size → (∀ g, ov.ownBlock = some g → w.heap.size + 1 ≤ g → j ≠ g) → w2.heap[j]? = w1.heap[j]?) (hos : w2.os = w1.os) (htp : w2.tape = w1.tape) (hout : w2.output = w1.output) (hsz : w1.heap.size ≤ w2.heap.size)
    (hown : w2.ownsRow (w.heap.size + 1) 72 2 ov' (if f.n = 27 then c.out ++ [(f.i, f.vl)] else c.out).length (outCells (if f.n = 27 then c.out ++ [(f.i, f.vl)] else c.out))) :
    ∃ c' : Cf σ, RunInv w im t S dv mv inp nxt PR PF fuel c0 cells c' (k + 1) ov' w2 := by
  have hw := stepP_w32 hs (hport.val c.p) h.r32 h.d32 h.m32
  have hc := cstep_of (nxt := nxt) hs
  have kPW : Kept PF wr (if f.n = 26 then PW c.p f.i wr else wr) := by split; exact hport.frame _ _ _; exact Kept.refl _ _
  have sPW : (if f.n = 26 then PW c.p f.i wr else wr).heap.size = wr.heap.size := by split; exact hport.size _ _ _; rfl
  have k1 : Kept (fun j => OwnF S dv mv j ∨ PF j) w w1 := h.kept.trans ((kPW.mono fun _ => .inr).trans (hkept.mono fun _ => .inl))
  have low : ∀ j, j < w.heap.size + 1 → j < w1.heap.size → w2.heap[j]? = w1.heap[j]? := fun j hj hj1 => hb j hj1 fun g _ hg => by omega
  have k2 : Kept (fun j => OwnF S dv mv j ∨ PF j) w w2 := ⟨hos.trans k1.os, htp.trans k1.tape, hout.trans k1.output, Nat.le_trans k1.size hsz, fun j hj hn => (low j (by omega) (Nat.lt_of_lt_of_le hj k1.size)).trans (k1.block j hj hn)⟩
  have hown' : ∀ j, OwnF S dv mv j → j < w.heap.size := fun j hj => (hp.own j (.inl hj)).2
  have hle := h.kept.size
  have h1le : wr.heap.size ≤ w1.heap.size := by have := hkept.size; rw [sPW] at this; exact this
  refine ⟨⟨s', m', if f.n = 26 then nxt c.p f.i else c.p, if f.n = 27 then c.out ++ [(f.i, f.vl)] else c.out⟩, ?_⟩
  refine ⟨by omega, ?_, hown, ?_, k2, ?_, ?_, ?_, ?_, ?_, hw.1, hw.2.1, hw.2.2.1⟩
  · rw [h.run]
    obtain ⟨d, hd'⟩ : ∃ d, fuel - k = d + 1 := ⟨fuel - k - 1, by omega⟩
    have hd2 : fuel - (k + 1) = d := by omega
    rw [hd', runP_ok hal hc, hd2]
    simp only [Prod.mk.injEq, true_and, and_true]
    omega
  · have := h.outs
    show (if f.n = 27 then c.out ++ [(f.i, f.vl)] else c.out).length ≤ k + 1
    split
    · simp; omega
    · omega
  · exact ⟨hst.1, hst.2.block (low S (by have := hown' S (.inl rfl); omega) hst.lt)⟩
  · exact hd.block fun g hg => by
      by_cases hg1 : g < w1.heap.size
      · exact low g (by have := hown' g (.inr (.inl hg)); omega) hg1
      · have := hown' g (.inr (.inl hg)); have := k1.size; omega
  · exact hm.block fun g hg => by
      by_cases hg1 : g < w1.heap.size
      · exact low g (by have := hown' g (.inr (.inr hg)); omega) hg1
      · have := hown' g (.inr (.inr hg)); have := k1.size; omega
  · have p1 : PR (if f.n = 26 then nxt c.p f.i else c.p) (if f.n = 26 then PW c.p f.i wr else wr) := by
      split
      · exact hport.step _ _ _ h.pr
      · exact h.pr
    refine hport.keep _ _ _ p1 fun j hj hF => ?_
    have hjw := (hp.own j (.inr hF)).2
    exact (low j (by omega) (by omega)).trans (hkept.block j hj (hport.apart j hF))
  · have hn : ¬ (OwnF S dv mv w.heap.size) := fun hF => by have := hown' _ hF; omega
    have hn2 : ¬ PF w.heap.size := fun hF => by have := (hp.own _ (.inr hF)).2; omega
    have hlt := h.box.lt
    exact h.box.block ((low _ (by omega) (by omega)).trans ((hkept.block _ (by omega) hn).trans (kPW.block _ hlt hn2)))

end Go.Proofs.YtpachmkklppmjaaDoor
