/- A loop of steps beside a run: what it holds on to. A port that counts. -/
import Derived.Test.YtlmipchjmgnlfaaDoorCorBe
set_option linter.unusedVariables false
set_option linter.unusedSimpArgs false
namespace Go.Proofs.YtlmipchjmgnlfaaDoor
open Go.RowKit

structure LoopInv {σ : Type} (B : Nat) (w : World) (im : Im) (t : Int) (S : Nat) (dv mv : Value) (inp : σ → Int → Int) (nxt : σ → Int → σ) (PR : σ → World → Prop) (PF : Nat → Prop) (fuel : Nat) (c0 : Cf σ) (c : Cf σ) (k : Nat) (ov : Value) (wr : World) : Prop where
  le : k ≤ fuel
  run : runP im t inp nxt fuel c0 = ((runP im t inp nxt (fuel - k) c).1, (runP im t inp nxt (fuel - k) c).2.1 + k, (runP im t inp nxt (fuel - k) c).2.2)
  own : wr.ownsRow w.heap.size 55 2 ov c.out.length (outCells c.out)
  outs : c.out.length ≤ k
  kept : Kept (fun j => OwnF S dv mv j ∨ PF j) w wr
  side : Side B wr S dv mv c.s c.mem
  pr : PR c.p wr

theorem LoopInv.later {σ : Type} {B : Nat} {w : World} {pv : Value} {im : Im} {t : Int} {S : Nat} {dv mv : Value} {inp : σ → Int → Int} {nxt : σ → Int → σ} {PR : σ → World → Prop} {PF : Nat → Prop} {PW : σ → Int → World → World} {fuel : Nat} {c0 : Cf σ} {c : Cf σ} {k : Nat} {ov : Value} {wr w' : World}
    (h : LoopInv B w im t S dv mv inp nxt PR PF fuel c0 c k ov wr) (hport : PortRun S dv mv pv inp nxt PR PF PW) (hb : Below wr.heap.size wr w') : LoopInv B w im t S dv mv inp nxt PR PF fuel c0 c k ov w' :=
  ⟨h.le, h.run, own_below h.own hb, h.outs, h.kept.trans (Kept.of_below hb), h.side.below hb, hport.keep _ _ _ h.pr (fun k hk _ => hb.block k hk)⟩

theorem LoopInv.next {σ : Type} {B : Nat} {w : World} {pv : Value} {im : Im} {t : Int} {S : Nat} {dv mv : Value} {inp : σ → Int → Int} {nxt : σ → Int → σ} {PR : σ → World → Prop} {PF : Nat → Prop} {PW : σ → Int → World → World} {fuel : Nat} {c0 : Cf σ} {c : Cf σ} {k : Nat} {ov ov' : Value} {wr w1 w2 : World}
    (h : LoopInv B w im t S dv mv inp nxt PR PF fuel c0 c k ov wr) (hF : ∀ j, OwnF S dv mv j ∨ PF j → j < w.heap.size) (hport : PortRun S dv mv pv inp nxt PR PF PW) {f : Ef} {s' : St} {m' : List Int} (hs : stepP im t c.s c.mem (inp c.p) = .ok (f, s', m')) (hal : c.s.halted = false) (hk : k < fuel)
    (hkept : Kept (OwnF S dv mv) (if f.n = 26 then PW c.p f.i wr else wr) w1) (hst : StAt w1 S s' dv) (hd : MemAt w1 dv s'.d) (hm : MemAt w1 mv m')
    (hb : ∀ j, j < w1.heap.size → (∀ g, ov.ownBlock = some g → j ≠ g) → w2.heap[j]? = w1.heap[j]?) (hos : w2.os = w1.os) (htp : w2.tape = w1.tape) (hout : w2.output = w1.output) (hsz : w1.heap.size ≤ w2.heap.size)
    (hown : w2.ownsRow w.heap.size 55 2 ov' (if f.n = 27 then c.out ++ [(f.i, f.vl)] else c.out).length (outCells (if f.n = 27 then c.out ++ [(f.i, f.vl)] else c.out))) :
    ∃ c' : Cf σ, LoopInv B w im t S dv mv inp nxt PR PF fuel c0 c' (k + 1) ov' w2 := by
  have hw := stepP_w32 hs (hport.val c.p) h.side.r32 h.side.d32 h.side.m32
  have hc := cstep_of (nxt := nxt) hs
  have kPW : Kept PF wr (if f.n = 26 then PW c.p f.i wr else wr) := by split; exact hport.frame _ _ _; exact Kept.refl _ _
  have sPW : (if f.n = 26 then PW c.p f.i wr else wr).heap.size = wr.heap.size := by split; exact hport.size _ _ _; rfl
  have k1 : Kept (fun j => OwnF S dv mv j ∨ PF j) w w1 := h.kept.trans ((kPW.mono fun _ => .inr).trans (hkept.mono fun _ => .inl))
  have low : ∀ j, j < w.heap.size → j < w1.heap.size → w2.heap[j]? = w1.heap[j]? := fun j hj hj1 => hb j hj1 fun g hg => by have := ownBase h.own hg; omega
  have k2 : Kept (fun j => OwnF S dv mv j ∨ PF j) w w2 := ⟨hos.trans k1.os, htp.trans k1.tape, hout.trans k1.output, Nat.le_trans k1.size hsz, fun j hj hn => (low j hj (Nat.lt_of_lt_of_le hj k1.size)).trans (k1.block j hj hn)⟩
  have hle := h.kept.size
  have h1le : wr.heap.size ≤ w1.heap.size := by have := hkept.size; rw [sPW] at this; exact this
  have hS := h.side
  refine ⟨⟨s', m', if f.n = 26 then nxt c.p f.i else c.p, if f.n = 27 then c.out ++ [(f.i, f.vl)] else c.out⟩, ?_⟩
  refine ⟨by omega, ?_, hown, ?_, k2, ⟨?_, ?_, ?_, fun j hj => ⟨(hS.own j hj).1, ?_⟩, hS.dS, hS.mS, hS.dm, hw.1, hw.2.1, hw.2.2.1⟩, ?_⟩
  · rw [h.run]
    obtain ⟨d, hd'⟩ : ∃ d, fuel - k = d + 1 := ⟨fuel - k - 1, by omega⟩
    have hd2 : fuel - (k + 1) = d := by omega
    rw [hd', runP_ok hal hc, hd2]
    simp only [Prod.mk.injEq, true_and, and_true]
    omega
  · have := h.outs
    show (if f.n = 27 then c.out ++ [(f.i, f.vl)] else c.out).length ≤ k + 1
    split
    · simp; omega
    · omega
  · exact ⟨hst.1, hst.2.block (low S (hF S (.inl (.inl rfl))) hst.lt)⟩
  · exact hd.block fun g hg => by
      have hg0 := hF g (.inl (.inr (.inl hg)))
      exact low g hg0 (Nat.lt_of_lt_of_le hg0 k1.size)
  · exact hm.block fun g hg => by
      have hg0 := hF g (.inl (.inr (.inr hg)))
      exact low g hg0 (Nat.lt_of_lt_of_le hg0 k1.size)
  · have := hF j (.inl hj)
    have := k2.size
    omega
  · have p1 : PR (if f.n = 26 then nxt c.p f.i else c.p) (if f.n = 26 then PW c.p f.i wr else wr) := by
      split
      · exact hport.step _ _ _ h.pr
      · exact h.pr
    refine hport.keep _ _ _ p1 fun j hj hF' => ?_
    have hjw := hF j (.inr hF')
    exact (low j hjw (by omega)).trans (hkept.block j hj (hport.apart j hF'))

theorem LoopInv.set {σ : Type} {B : Nat} {w : World} {imv : Value} {im : Im} {t : Int} {S : Nat} {dv mv : Value} {inp : σ → Int → Int} {nxt : σ → Int → σ} {PR : σ → World → Prop} {PF : Nat → Prop} {fuel : Nat} {c0 : Cf σ} {c : Cf σ} {k : Nat} {ov : Value} {wr : World}
    (h : LoopInv B w im t S dv mv inp nxt PR PF fuel c0 c k ov wr) (hT : Tab wr) (hO : OTab wr) (hi : ImAt wr imv im) : Set wr imv im S c.s dv mv c.mem :=
  ⟨hT, hO, hi, h.side.st, h.side.d, h.side.m, h.side.dS, h.side.mS, h.side.dm, h.side.r32⟩

theorem LoopInv.ownNext {σ : Type} {B : Nat} {w : World} {pv : Value} {im : Im} {t : Int} {S : Nat} {dv mv : Value} {inp : σ → Int → Int} {nxt : σ → Int → σ} {PR : σ → World → Prop} {PF : Nat → Prop} {PW : σ → Int → World → World} {fuel : Nat} {c0 : Cf σ} {c : Cf σ} {k : Nat} {ov : Value} {wr w1 : World} {f : Ef}
    (h : LoopInv B w im t S dv mv inp nxt PR PF fuel c0 c k ov wr) (hF : ∀ j, OwnF S dv mv j ∨ PF j → j < w.heap.size) (hport : PortRun S dv mv pv inp nxt PR PF PW) (hkept : Kept (OwnF S dv mv) (if f.n = 26 then PW c.p f.i wr else wr) w1) :
    w1.ownsRow w.heap.size 55 2 ov c.out.length (outCells c.out) := by
  refine ownsRow_block h.own fun g hg hgr => ?_
  have kPW : Kept PF wr (if f.n = 26 then PW c.p f.i wr else wr) := by split; exact hport.frame _ _ _; exact Kept.refl _ _
  have hs := sizePW hport c.p f.i wr f.n
  exact (hkept.block g (by omega) (fun hf => by have := hF g (.inl hf); omega)).trans (kPW.block g hgr (fun hf => by have := hF g (.inr hf); omega))

/-- The end of the loop. -/
theorem LoopInv.done {σ : Type} {B : Nat} {w : World} {im : Im} {t : Int} {S : Nat} {dv mv : Value} {inp : σ → Int → Int} {nxt : σ → Int → σ} {PR : σ → World → Prop} {PF : Nat → Prop} {fuel : Nat} {c0 : Cf σ} {c : Cf σ} {k : Nat} {ov : Value} {wr : World} {er : Int}
    (h : LoopInv B w im t S dv mv inp nxt PR PF fuel c0 c k ov wr) (hr : runP im t inp nxt (fuel - k) c = (c, 0, er)) : runP im t inp nxt fuel c0 = (c, k, er) := by
  rw [h.run, hr]
  simp

/-- A port that counts: its cell lies in block b. -/
def cntI (p i : Int) : Int := wrap32 (p + wrap32 (wrap32 i + 1))
theorem port_count (S : Nat) (dv mv : Value) (pf b : Nat) (hent : Enters Tryd.prog pf) (hb : ¬ OwnF S dv mv b)
    (hcall : ∀ (W : World) (p i : Int), RowAt W b [.int .i32 p] → Calls Tryd.prog pf #[.int .i64 i, .pointer (some ⟨b, 0, none⟩)] W fun e w' => e = .returned (.int .i32 (cntI p i)) ∧ Below W.heap.size (W.setCell ⟨b, 0, none⟩ (.int .i32 (cntI p i))) w') :
    PortRun (σ := Int) S dv mv (.func (.func pf) #[] #[.pointer (some ⟨b, 0, none⟩)]) cntI cntI (fun p W => RowAt W b [.int .i32 p]) (fun k => k = b) (fun p i W => W.setCell ⟨b, 0, none⟩ (.int .i32 (cntI p i))) := by
  refine ⟨fun p w i hp => .st pf #[.pointer (some ⟨b, 0, none⟩)] ⟨b, 0, none⟩ (.int .i32 (cntI p i)) rfl hent rfl hp.lt (fun e => hb (.inl e)) (fun e => hb (.inr (.inl e))) (fun e => hb (.inr (.inr e))) (fun W hW => hcall W p i (hp.below hW hp.lt)),
    fun p w w' hp hk => hp.block (hk b hp.lt rfl), fun p w i hp => hp.set 0 _, fun p w i => Kept.setCell (F := fun k => k = b) (Kept.refl _ _) rfl _, fun p w i => by simp [World.setCell], fun k hk => by rw [hk]; exact hb, fun p i => W32.wrap _⟩

end Go.Proofs.YtlmipchjmgnlfaaDoor
