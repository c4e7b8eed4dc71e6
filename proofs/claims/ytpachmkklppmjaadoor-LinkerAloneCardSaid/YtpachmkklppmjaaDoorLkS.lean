/- A task runs alike wherever its code lies: a run of an image's task k is the run of the image that holds this task alone, its PC shifted. No walk here. -/
import Derived.Test.YtpachmkklppmjaaDoorCorR
set_option linter.unusedVariables false
set_option linter.unusedSimpArgs false
namespace Go.Proofs.YtpachmkklppmjaaDoor

def St.sh (s : St) (d : Int) : St := { s with pc := s.pc + d }
def shR (d : Int) : Except Int (St × List Int × Bool × Int × Int) → Except Int (St × List Int × Bool × Int × Int)
  | .error e => .error e
  | .ok (s, m, tk, ad, vl) => .ok (s.sh d, m, tk, ad, vl)
theorem shR_ite {p : Prop} [Decidable p] (d : Int) (A B : Except Int (St × List Int × Bool × Int × Int)) : shR d (if p then A else B) = if p then shR d A else shR d B := by split <;> rfl
theorem shR_err (d e : Int) : shR d (.error e) = .error e := rfl
theorem shR_ok (d : Int) (s : St) (m : List Int) (tk : Bool) (ad vl : Int) : shR d (.ok (s, m, tk, ad, vl)) = .ok (s.sh d, m, tk, ad, vl) := rfl
theorem stepI_sh (lk : Int) (n a b c : Nat) (i : Int) (s : St) (mem : List Int) (inp d : Int) : stepI lk n a b c i (s.sh d) mem inp = shR d (stepI lk n a b c i s mem inp) := by
  have e1 : s.pc + d + 1 = s.pc + 1 + d := by omega
  have e2 : s.pc + 1 + d + i = s.pc + 1 + i + d := by omega
  unfold stepI
  simp only [shR_ite, shR_err, shR_ok, St.sh, e1, e2]
  rfl
/-- The image with task k alone. -/
structure Alone (im one : Im) (k : Nat) (d : Int) : Prop where
  lt : k < im.ents.length
  st : (im.ents.getD k default).st = d
  ge : 0 ≤ d
  n1 : one.ents.length = 1
  ost : (one.ents.getD 0 default).st = 0
  ofin : (one.ents.getD 0 default).fin = (im.ents.getD k default).fin - d
  dat : (one.ents.getD 0 default).dat = (im.ents.getD k default).dat
  fin : (im.ents.getD k default).fin ≤ im.code.length
  len : (one.code.length : Int) = (im.ents.getD k default).fin - d
  code : ∀ j : Nat, j < one.code.length → one.code.getD j 0 = im.code.getD (d.toNat + j) 0
  lk : one.lk = im.lk
theorem Alone.fit {im one : Im} {k : Nat} {d : Int} (h : Alone im one k d) (s : St) : fitP im k (s.sh d) = fitP one 0 s := by
  unfold fitP
  have h1 := h.lt
  have h2 := h.n1
  congr 1
  rw [Int.toNat_natCast, show (0 : Int).toNat = 0 from rfl, h.dat, h.lk, h2]
  refine propext ⟨fun hx => ⟨by omega, by omega, hx.2.2⟩, fun hx => ⟨by omega, by omega, hx.2.2⟩⟩
def shP (d : Int) : Except Int (Ef × St × List Int) → Except Int (Ef × St × List Int)
  | .error e => .error e
  | .ok (f, s, m) => .ok ({ f with pc := f.pc + d }, s.sh d, m)
theorem stepP_sh {im one : Im} {k : Nat} {d : Int} (h : Alone im one k d) (s : St) (mem : List Int) (inp : Int → Int) : stepP im k (s.sh d) mem inp = shP d (stepP one 0 s mem inp) := by
  unfold stepP
  rw [h.fit]
  have h0 := h.ge
  have h1 := h.st
  have h2 := h.ost
  have h3 := h.ofin
  have h4 := h.fin
  have h5 := h.len
  by_cases hf : fitP one 0 s = false ∨ s.halted = true
  · rw [if_pos hf, if_pos (show fitP one 0 s = false ∨ (s.sh d).halted = true from hf)]
    rfl
  · rw [if_neg hf, if_neg (show ¬ (fitP one 0 s = false ∨ (s.sh d).halted = true) from hf)]
    dsimp only
    rw [Int.toNat_natCast, show (0 : Int).toNat = 0 from rfl]
    by_cases hp : s.pc < (one.ents.getD 0 default).st ∨ (one.ents.getD 0 default).fin ≤ s.pc ∨ s.pc < 0 ∨ (one.code.length : Int) ≤ s.pc
    · rw [if_pos hp, if_pos (show (s.sh d).pc < (im.ents.getD k default).st ∨ (im.ents.getD k default).fin ≤ (s.sh d).pc ∨ (s.sh d).pc < 0 ∨ (im.code.length : Int) ≤ (s.sh d).pc from by
        show s.pc + d < _ ∨ _ ≤ s.pc + d ∨ s.pc + d < 0 ∨ _ ≤ s.pc + d
        omega)]
      rfl
    · rw [if_neg hp, if_neg (show ¬ ((s.sh d).pc < (im.ents.getD k default).st ∨ (im.ents.getD k default).fin ≤ (s.sh d).pc ∨ (s.sh d).pc < 0 ∨ (im.code.length : Int) ≤ (s.sh d).pc) from by
        show ¬ (s.pc + d < _ ∨ _ ≤ s.pc + d ∨ s.pc + d < 0 ∨ _ ≤ s.pc + d)
        omega)]
      have hx : im.code.getD (s.sh d).pc.toNat 0 = one.code.getD s.pc.toNat 0 := by
        rw [h.code s.pc.toNat (by omega)]
        congr 1
        show (s.pc + d).toNat = _
        omega
      rw [hx]
      generalize one.code.getD s.pc.toNat 0 = x
      by_cases hd : decOk x = false
      · rw [if_pos hd, if_pos hd]
        rfl
      · rw [if_neg hd, if_neg hd, stepI_sh, h.lk]
        cases stepI im.lk (dN x) (dA x).toNat (dB x).toNat (dC x).toNat (dI x) s mem (inp (dI x)) with
        | error e => rfl
        | ok r => rfl
def Cf.sh {σ : Type} (c : Cf σ) (d : Int) : Cf σ := { c with s := c.s.sh d }
def shC {σ : Type} (d : Int) : Except Int (Cf σ) → Except Int (Cf σ)
  | .error e => .error e
  | .ok c => .ok (c.sh d)
theorem cstep_sh {σ : Type} {im one : Im} {k : Nat} {d : Int} (h : Alone im one k d) (inp : σ → Int → Int) (nxt : σ → Int → σ) (c : Cf σ) : cstep im k inp nxt (c.sh d) = shC d (cstep one 0 inp nxt c) := by
  unfold cstep
  show (match stepP im k (c.s.sh d) c.mem (inp c.p) with | .error er => _ | .ok (f, s', m') => _) = _
  rw [stepP_sh h]
  cases stepP one 0 c.s c.mem (inp c.p) with
  | error e => rfl
  | ok r => rfl
/-- The run. -/
theorem runP_sh {σ : Type} {im one : Im} {k : Nat} {d : Int} (h : Alone im one k d) (inp : σ → Int → Int) (nxt : σ → Int → σ) : ∀ (fuel : Nat) (c : Cf σ),
    runP im k inp nxt fuel (c.sh d) = ((runP one 0 inp nxt fuel c).1.sh d, (runP one 0 inp nxt fuel c).2.1, (runP one 0 inp nxt fuel c).2.2)
  | 0, c => by
    cases hh : c.s.halted with
    | true => rw [runP_halted hh, runP_halted (show (c.sh d).s.halted = true from hh)]
    | false => rw [runP_fuel hh, runP_fuel (show (c.sh d).s.halted = false from hh)]
  | fuel + 1, c => by
    cases hh : c.s.halted with
    | true => rw [runP_halted hh, runP_halted (show (c.sh d).s.halted = true from hh)]
    | false =>
      have hs := cstep_sh h inp nxt c
      cases hc : cstep one 0 inp nxt c with
      | error e =>
        rw [hc] at hs
        rw [runP_err hh hc, runP_err (show (c.sh d).s.halted = false from hh) hs]
      | ok c' =>
        rw [hc] at hs
        rw [runP_ok hh hc, runP_ok (show (c.sh d).s.halted = false from hh) hs, runP_sh h inp nxt fuel c']
end Go.Proofs.YtpachmkklppmjaaDoor
