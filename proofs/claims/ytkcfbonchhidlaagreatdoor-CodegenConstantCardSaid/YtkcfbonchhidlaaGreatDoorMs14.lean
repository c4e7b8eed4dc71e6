import Derived.Test.YtkcfbonchhidlaaGreatDoorCorN
import Derived.Test.YtkcfbonchhidlaaGreatDoorIsaP
import Derived.IntWalk
set_option linter.unusedVariables false
set_option linter.unusedSimpArgs false
namespace Go.Proofs.YtkcfbonchhidlaaGreatDoor
open Go.RowKit

inductive PortIn (w : World) (S : Nat) (dv mv pv : Value) (i v : Int) (PW : World → World) : Prop
  | none (h : pv = .nilFunc) (hv : v = 0) (hP : PW = id)
  | pure (pf : Nat) (pcaps : Array Value) (h : pv = .func (.func pf) #[] pcaps) (hent : Enters Tryz.prog pf) (hP : PW = id)
      (hcall : ∀ W, Below w.heap.size w W → Calls Tryz.prog pf (#[.int .i64 i] ++ pcaps) W (fun e w' => e = .returned (.int .i32 v) ∧ Below W.heap.size W w'))
  | st (pf : Nat) (pcaps : Array Value) (pa : Addr) (pval : Value) (h : pv = .func (.func pf) #[] pcaps) (hent : Enters Tryz.prog pf) (hP : PW = fun W => W.setCell pa pval) (hpw : pa.block < w.heap.size) (hpS : pa.block ≠ S) (hpd : dv.ownBlock ≠ some pa.block) (hpm : mv.ownBlock ≠ some pa.block)
      (hcall : ∀ W, Below w.heap.size w W → Calls Tryz.prog pf (#[.int .i64 i] ++ pcaps) W (fun e w' => e = .returned (.int .i32 v) ∧ Below W.heap.size (W.setCell pa pval) w'))

end Go.Proofs.YtkcfbonchhidlaaGreatDoor

set_option linter.unusedVariables false
set_option linter.unusedSimpArgs false
namespace Go.Proofs.YtkcfbonchhidlaaGreatDoor
open Go.RowKit

structure En where
  nm : ByteArray
  st : Int
  fin : Int
  dat : Int
instance : Inhabited En := ⟨⟨⟨#[]⟩, 0, 0, 0⟩⟩
structure Im where
  code : List Int
  ents : List En
  sh : Int
  lk : Int

structure ImAt (w : World) (v : Value) (im : Im) : Prop where
  parts : ∃ cp ccap ep ecap, v = .agg #[.slice cp im.code.length ccap, .slice ep im.ents.length ecap, .int .i64 im.sh, .int .i64 im.lk] ∧
    (im.code = [] ∨ ∃ cb co, cp = some ⟨cb, co, none⟩ ∧ cb < w.heap.size ∧ ∀ k, k < im.code.length → w.cell? ⟨cb, co + k, none⟩ = some (.int .u32 (im.code.getD k 0))) ∧
    (im.ents = [] ∨ ∃ eb eo, ep = some ⟨eb, eo, none⟩ ∧ eb < w.heap.size ∧ ∀ k, k < im.ents.length → w.cell? ⟨eb, eo + k * 4, none⟩ = some (.string (im.ents.getD k default).nm) ∧
      w.cell? ⟨eb, eo + k * 4 + 1, none⟩ = some (.int .i64 (im.ents.getD k default).st) ∧ w.cell? ⟨eb, eo + k * 4 + 2, none⟩ = some (.int .i64 (im.ents.getD k default).fin) ∧ w.cell? ⟨eb, eo + k * 4 + 3, none⟩ = some (.int .i64 (im.ents.getD k default).dat))
  words : ∀ k, k < im.code.length → 0 ≤ im.code.getD k 0 ∧ im.code.getD k 0 < 4294967296
  short : im.code.length ≤ 140737488351232

theorem ImAt.below {B : Nat} {w w' : World} {v : Value} {im : Im} (h : ImAt w v im) (hb : Below B w w') (hB : w.heap.size ≤ B) : ImAt w' v im := by
  obtain ⟨⟨cp, ccap, ep, ecap, rfl, hc, he⟩, hw, hs⟩ := h
  refine ⟨⟨cp, ccap, ep, ecap, rfl, ?_, ?_⟩, hw, hs⟩
  · rcases hc with hc | ⟨cb, co, rfl, hcb, hc⟩
    · exact .inl hc
    · exact .inr ⟨cb, co, rfl, Nat.lt_of_lt_of_le hcb hb.size, fun k hk => (hb.cell (p := ⟨cb, co + k, none⟩) (Nat.lt_of_lt_of_le hcb hB)).trans (hc k hk)⟩
  · rcases he with he | ⟨eb, eo, rfl, heb, he⟩
    · exact .inl he
    · have hlt := Nat.lt_of_lt_of_le heb hB
      exact .inr ⟨eb, eo, rfl, Nat.lt_of_lt_of_le heb hb.size, fun k hk => ⟨(hb.cell (p := ⟨eb, eo + k * 4, none⟩) hlt).trans (he k hk).1, (hb.cell (p := ⟨eb, eo + k * 4 + 1, none⟩) hlt).trans (he k hk).2.1, (hb.cell (p := ⟨eb, eo + k * 4 + 2, none⟩) hlt).trans (he k hk).2.2.1, (hb.cell (p := ⟨eb, eo + k * 4 + 3, none⟩) hlt).trans (he k hk).2.2.2⟩⟩

def fitP (im : Im) (t : Int) (s : St) : Bool :=
  decide (0 ≤ t ∧ t < im.ents.length ∧ (s.d.length : Int) = (im.ents.getD t.toNat default).dat ∧ s.r.getD 0 0 = 0 ∧ (s.held = -1 ∨ (0 ≤ s.held ∧ s.held < im.lk)))

theorem fits_all (imv : Value) (im : Im) (t : Int) (S : Nat) (s : St) (dv : Value) (w : World) (hi : ImAt w imv im) (hst : StAt w S s dv) (hd : ∃ p cap, dv = .slice p s.d.length cap) :
    Calls Tryz.prog 15 #[imv, .int .i64 t, .pointer (some ⟨S, 0, none⟩)] w fun e w' => e = .returned (.bool (fitP im t s)) ∧ Below w.heap.size w w' := by
  obtain ⟨⟨cp, ccap, ep, ecap, rfl, _, he⟩, _, _⟩ := hi
  obtain ⟨dp, dcap, rfl⟩ := hd
  have hS := hst.lt
  have hD := hst.d
  have hH := hst.held
  have hR : w.cell? ⟨S, 1, none⟩ = some (.int .i32 (s.r.getD 0 0)) := hst.reg 0 (by omega)
  by_cases h0 : 0 ≤ t
  · by_cases h1 : t < im.ents.length
    · rcases he with he | ⟨eb, eo, rfl, heb, he⟩
      · rw [he] at h1; simp at h1; omega
      · obtain ⟨k, rfl⟩ := Int.eq_ofNat_of_zero_le h0
        have hk : k < im.ents.length := by omega
        have hkd : decide (k < im.ents.length) = true := by simpa using hk
        obtain ⟨_, _, _, het⟩ := he k hk
        by_cases h2 : (s.d.length : Int) = (im.ents.getD k default).dat
        · rw [← h2] at het
          by_cases h3 : s.r.getD 0 0 = 0
          · rw [h3] at hR
            by_cases h4 : s.held = -1
            · have hf : fitP im k s = true := by simp only [fitP, decide_eq_true_eq, Int.toNat_natCast]; exact ⟨h0, h1, h2, h3, .inl h4⟩
              rw [hf]
              rw [h4] at hH
              exact fits_ok1 _ none dp S _ ecap _ dcap eb eo k im.sh im.lk 0 0 0 w heb het hS hD hR hH hk h1 hkd
            · by_cases h5 : 0 ≤ s.held
              · by_cases h6 : s.held < im.lk
                · have hf : fitP im k s = true := by simp only [fitP, decide_eq_true_eq, Int.toNat_natCast]; exact ⟨h0, h1, h2, h3, .inr ⟨h5, h6⟩⟩
                  rw [hf]
                  exact fits_ok2 _ none dp S _ ecap _ dcap eb eo k im.sh im.lk 0 0 s.held w heb het hS hD hR hH hk h1 hkd h5 (by simpa using h5) (by omega) h6 (by simpa using h6)
                · have hf : fitP im k s = false := by simp only [fitP, decide_eq_false_iff_not]; rintro ⟨_, _, _, _, h⟩; rcases h with h | h <;> omega
                  rw [hf]
                  exact fits_locks _ none dp S _ ecap _ dcap eb eo k im.sh im.lk 0 0 s.held w heb het hS hD hR hH hk h1 hkd h5 (by simpa using h5) (by omega) (by omega) (by simp; omega)
              · have hf : fitP im k s = false := by simp only [fitP, decide_eq_false_iff_not]; rintro ⟨_, _, _, _, h⟩; rcases h with h | h <;> omega
                rw [hf]
                exact fits_held _ none dp S _ ecap _ dcap eb eo k im.sh im.lk 0 0 s.held w heb het hS hD hR hH hk h1 hkd (by omega) (by simp; omega)
          · have hf : fitP im k s = false := by simp only [fitP, decide_eq_false_iff_not]; rintro ⟨_, _, _, h, _⟩; exact h3 h
            rw [hf]
            exact fits_r0 _ none dp S _ ecap _ dcap eb eo k im.sh im.lk 0 (s.r.getD 0 0) s.held w heb het hS hD hR hH hk h1 hkd (beq_false_of_ne h3)
        · have hf : fitP im k s = false := by simp only [fitP, decide_eq_false_iff_not, Int.toNat_natCast]; rintro ⟨_, _, h, _, _⟩; exact h2 h
          rw [hf]
          exact fits_len _ none dp S _ ecap _ dcap eb eo k im.sh im.lk _ (s.r.getD 0 0) s.held w heb het hS hD hR hH hk h1 hkd (beq_false_of_ne h2)
    · have hf : fitP im t s = false := by simp only [fitP, decide_eq_false_iff_not]; rintro ⟨_, h, _⟩; exact h1 h
      rw [hf]
      exact fits_over _ ep dp S _ ecap _ dcap im.sh im.lk 0 (s.r.getD 0 0) s.held t w hS hD hR hH h0 (by omega) (by simp; omega)
  · have hf : fitP im t s = false := by simp only [fitP, decide_eq_false_iff_not]; rintro ⟨h, _⟩; exact h0 h
    rw [hf]
    exact fits_neg _ ep dp S _ ecap _ dcap im.sh im.lk 0 (s.r.getD 0 0) s.held t w hS hD hR hH (by omega) (by simpa using h0)

end Go.Proofs.YtkcfbonchhidlaaGreatDoor

set_option linter.unusedVariables false
set_option linter.unusedSimpArgs false
namespace Go.Proofs.YtkcfbonchhidlaaGreatDoor
open Go.RowKit

structure Ef where
  n : Nat
  a : Nat
  b : Nat
  c : Nat
  i : Int
  pc : Int
  tk : Bool
  ad : Int
  vl : Int
def Ef.val (f : Ef) : Value := effV f.n f.a f.b f.c f.i f.pc f.tk f.ad f.vl

def decOk (x : Int) : Bool := decide (vld (dN x) (dA x) (dB x) (dC x) (dI x) = true ∧ encW (dN x) (dA x) (dB x) (dC x) (dI x) = x)

def stepP (im : Im) (t : Int) (s : St) (mem : List Int) (inp : Int → Int) : Except Int (Ef × St × List Int) :=
  if fitP im t s = false ∨ s.halted = true then .error 14
  else
    let e := im.ents.getD t.toNat default
    if s.pc < e.st ∨ e.fin ≤ s.pc ∨ s.pc < 0 ∨ (im.code.length : Int) ≤ s.pc then .error 10
    else
      let x := im.code.getD s.pc.toNat 0
      if decOk x = false then .error 3
      else match stepI im.lk (dN x) (dA x).toNat (dB x).toNat (dC x).toNat (dI x) s mem (inp (dI x)) with
        | .error er => .error er
        | .ok (s', mem', tk, ad, vl) => .ok (⟨dN x, (dA x).toNat, (dB x).toNat, (dC x).toNat, dI x, s.pc, tk, ad, vl⟩, s', mem')

def StepLeft (w : World) (S : Nat) (dv mv : Value) (PW : Int → World → World) (out : Except Int (Ef × St × List Int)) (e : Ending) (w' : World) : Prop :=
  match out with
  | .error er => e = .returned (.tuple #[effZ, .int .i64 er]) ∧ Below w.heap.size w w'
  | .ok (f, s', mem') => e = .returned (.tuple #[f.val, .int .i64 0]) ∧ Kept (OwnF S dv mv) (if f.n = 26 then PW f.i w else w) w' ∧ StAt w' S s' dv ∧ MemAt w' dv s'.d ∧ MemAt w' mv mem'

def op4 (n : Nat) : Prop := n = 1 ∨ n = 14 ∨ n = 16 ∨ n = 17
instance (n : Nat) : Decidable (op4 n) := inferInstanceAs (Decidable (_ ∨ _))
theorem step_inst (q : ImN) (t S n a b c pc : Nat) (s : St) (dv mv pv : Value) (mem : List Int) (x i inp : Int) (PW : World → World) (w : World) (R : Ready w q t S s dv mv mem pc x)
    (hdec : decV x = .tuple #[.agg #[.int .u8 n, .int .i64 a, .int .i64 b, .int .i64 c, .int .i64 i], .int .i64 0]) (hv : vld n a b c i = true) (hport : PortIn w S dv mv pv i inp PW) (h4 : op4 n) :
    Calls Tryz.prog 16 #[q.val, .int .i64 (t : Nat), .pointer (some ⟨S, 0, none⟩), mv, pv] w (StepPost w S dv mv PW n a b c i pc (stepI q.lk n a b c i s mem inp)) := by
  obtain ⟨hn, ha0, ha1, hb0, hb1, hc0, hc1, hi0, hi1⟩ := vld_bd hv
  have hp := vld_parts hv
  have ha : a < 16 := by omega
  have hb : b < 16 := by omega
  have hc : c < 16 := by omega
  match n, hn with
  | 0, _ => exact absurd h4 (by decide)
  | 1, _ => exact stepI_halt q t S a b c pc s dv mv pv mem x i inp PW w R hdec ha hb hc hi0 hi1
  | 2, _ => exact absurd h4 (by decide)
  | 3, _ => exact absurd h4 (by decide)
  | 4, _ => exact absurd h4 (by decide)
  | 5, _ => exact absurd h4 (by decide)
  | 6, _ => exact absurd h4 (by decide)
  | 7, _ => exact absurd h4 (by decide)
  | 8, _ => exact absurd h4 (by decide)
  | 9, _ => exact absurd h4 (by decide)
  | 10, _ => exact absurd h4 (by decide)
  | 11, _ => exact absurd h4 (by decide)
  | 12, _ => exact absurd h4 (by decide)
  | 13, _ => exact absurd h4 (by decide)
  | 14, _ => exact stepI_li q t S a b c pc s dv mv pv mem x i inp PW w R hdec ha hb hc hi0 hi1
  | 15, _ => exact absurd h4 (by decide)
  | 16, _ => exact stepI_shli q t S a b c pc s dv mv pv mem x i inp PW w R hdec ha hb hc hi0 hi1 (by have h := hp.2.2.2.2.1; have e : flo 16 = 0 := rfl; have u : uI 16 = true := rfl; rw [if_pos u, e] at h; exact h) (by have h := hp.2.2.2.2.2; have e : fhi 16 = 31 := rfl; have u : uI 16 = true := rfl; rw [if_pos u, e] at h; exact h)
  | 17, _ => exact stepI_ori q t S a b c pc s dv mv pv mem x i inp PW w R hdec ha hb hc hi0 hi1 (by have h := hp.2.2.2.2.1; have e : flo 17 = 0 := rfl; have u : uI 17 = true := rfl; rw [if_pos u, e] at h; exact h)
  | 18, _ => exact absurd h4 (by decide)
  | 19, _ => exact absurd h4 (by decide)
  | 20, _ => exact absurd h4 (by decide)
  | 21, _ => exact absurd h4 (by decide)
  | 22, _ => exact absurd h4 (by decide)
  | 23, _ => exact absurd h4 (by decide)
  | 24, _ => exact absurd h4 (by decide)
  | 25, _ => exact absurd h4 (by decide)
  | 26, _ => exact absurd h4 (by decide)
  | 27, _ => exact absurd h4 (by decide)
  | 28, _ => exact absurd h4 (by decide)
  | 29, _ => exact absurd h4 (by decide)
  | n + 30, h => omega

structure Set (w : World) (imv : Value) (im : Im) (S : Nat) (s : St) (dv mv : Value) (mem : List Int) : Prop where
  tab : Tab w
  otab : OTab w
  im : ImAt w imv im
  st : StAt w S s dv
  d : MemAt w dv s.d
  m : MemAt w mv mem
  dS : dv.ownBlock ≠ some S
  mS : mv.ownBlock ≠ some S
  dm : ∀ k, dv.ownBlock = some k → mv.ownBlock ≠ some k
  r32 : ∀ k, W32 (s.r.getD k 0)

theorem step_all (imv : Value) (im : Im) (t : Int) (S : Nat) (s : St) (dv mv pv : Value) (mem : List Int) (inp : Int → Int) (PW : Int → World → World) (w : World) (R : Set w imv im S s dv mv mem) (hport : ∀ i, PortIn w S dv mv pv i (inp i) (PW i)) (H4 : ∀ k, k < im.code.length → decOk (im.code.getD k 0) = true → op4 (dN (im.code.getD k 0))) :
    Calls Tryz.prog 16 #[imv, .int .i64 t, .pointer (some ⟨S, 0, none⟩), mv, pv] w (StepLeft w S dv mv PW (stepP im t s mem inp)) := by
  obtain ⟨hT, hO, hi, hst, hd, hm, hdS, hmS, hdm, hr⟩ := R
  by_cases hf : fitP im t s = true
  · have hf' := hf
    simp only [fitP, decide_eq_true_eq] at hf'
    obtain ⟨h0, h1, h2, h3, h4⟩ := hf'
    obtain ⟨⟨cp, ccap, ep, ecap, rfl, hc, he⟩, hw, hsh⟩ := hi
    obtain ⟨dp, dcap, hdv⟩ := hd.shape
    rcases he with he | ⟨eb, eo, rfl, heb, he⟩
    · rw [he] at h1; simp at h1; omega
    obtain ⟨k, rfl⟩ := Int.eq_ofNat_of_zero_le h0
    have hk : k < im.ents.length := by omega
    obtain ⟨he0, he1, he2, he3⟩ := he k hk
    rw [Int.toNat_natCast] at h2
    rw [← h2] at he3
    have hS := hst.lt
    have hR : w.cell? ⟨S, 1, none⟩ = some (.int .i32 0) := by have h := hst.reg 0 (by omega); rw [h3] at h; exact h
    have hD := hst.d
    rw [hdv] at hD
    have hH := hst.held
    have hPC := hst.pc
    by_cases hal : s.halted = true
    · have hs : stepP im k s mem inp = .error 14 := by simp [stepP, hal]
      rw [hs]
      have hL := hst.halted
      rw [hal] at hL
      exact (step_halted 0 0 0 0 eb eo im.ents.length ecap k S s.d.length dcap s.pc im.sh im.lk _ _ s.held _ dp mv pv _ w hS hPC (hst.frozen 0) hR hD hL hH heb hk he0 he1 he2 he3 h4).mono fun e w' h => h
    have hal' : s.halted = false := by simpa using hal
    have hL := hst.halted
    rw [hal'] at hL
    by_cases hp : s.pc < (im.ents.getD k default).st ∨ (im.ents.getD k default).fin ≤ s.pc ∨ s.pc < 0 ∨ (im.code.length : Int) ≤ s.pc
    · have hs : stepP im k s mem inp = .error 10 := by simp only [stepP, hf, hal']; rw [if_neg (by simp), Int.toNat_natCast, if_pos hp]
      rw [hs]
      by_cases p1 : s.pc < (im.ents.getD k default).st
      · exact (step_pc_low 0 0 im.code.length ccap eb eo im.ents.length ecap k S s.d.length dcap s.pc im.sh im.lk _ _ s.held _ dp cp mv pv w hS hPC (hst.frozen 0) hR hD hL hH heb hk he0 he1 he2 he3 h4 p1).mono fun e w' h => h
      by_cases p2 : (im.ents.getD k default).fin ≤ s.pc
      · exact (step_pc_high 0 0 im.code.length ccap eb eo im.ents.length ecap k S s.d.length dcap s.pc im.sh im.lk _ _ s.held _ dp cp mv pv w hS hPC (hst.frozen 0) hR hD hL hH heb hk he0 he1 he2 he3 h4 (by omega) p2).mono fun e w' h => h
      by_cases p3 : s.pc < 0
      · exact (step_pc_neg 0 0 im.code.length ccap eb eo im.ents.length ecap k S s.d.length dcap s.pc im.sh im.lk _ _ s.held _ dp cp mv pv w hS hPC (hst.frozen 0) hR hD hL hH heb hk he0 he1 he2 he3 h4 (by omega) (by omega) p3).mono fun e w' h => h
      · exact (step_pc_over 0 0 im.code.length ccap eb eo im.ents.length ecap k S s.d.length dcap s.pc im.sh im.lk _ _ s.held _ dp cp mv pv w hS hPC (hst.frozen 0) hR hD hL hH heb hk he0 he1 he2 he3 h4 (by omega) (by omega) (by omega) (by omega)).mono fun e w' h => h
    · obtain ⟨p, hpp⟩ : ∃ p : Nat, s.pc = p := ⟨s.pc.toNat, by omega⟩
      have hpl : p < im.code.length := by omega
      rcases hc with hc | ⟨cb, co, rfl, hcb, hc⟩
      · rw [hc] at hpl; simp at hpl
      have hcode := hc p hpl
      obtain ⟨hx0, hx1⟩ := hw p hpl
      have hpt : s.pc.toNat = p := by omega
      have hs : stepP im k s mem inp = (if decOk (im.code.getD p 0) = false then .error 3 else match stepI im.lk (dN (im.code.getD p 0)) (dA (im.code.getD p 0)).toNat (dB (im.code.getD p 0)).toNat (dC (im.code.getD p 0)).toNat (dI (im.code.getD p 0)) s mem (inp (dI (im.code.getD p 0))) with
        | .error er => .error er
        | .ok (s', mem', tk, ad, vl) => .ok (⟨dN (im.code.getD p 0), (dA (im.code.getD p 0)).toNat, (dB (im.code.getD p 0)).toNat, (dC (im.code.getD p 0)).toNat, dI (im.code.getD p 0), s.pc, tk, ad, vl⟩, s', mem')) := by
        simp only [stepP, hf, hal']
        rw [if_neg (by simp), Int.toNat_natCast, if_neg hp, hpt]
      rw [hs]
      clear hs
      have H4p := H4 p hpl
      generalize im.code.getD p 0 = x at hcode hx0 hx1 H4p ⊢
      by_cases hok : decOk x = false
      · rw [if_pos hok]
        have hdec : decV x = .tuple #[.agg #[.int .u8 ((0 : Nat) : Int), .int .i64 ((0 : Nat) : Int), .int .i64 ((0 : Nat) : Int), .int .i64 ((0 : Nat) : Int), .int .i64 0], .int .i64 3] := by
          have h := of_decide_eq_false hok
          rw [decV, decR, if_neg h]
          rfl
        rw [hpp] at hPC
        exact (step_dec cb co im.code.length ccap eb eo im.ents.length ecap k S p s.d.length dcap 0 0 0 0 im.sh im.lk _ _ s.held x 0 _ dp mv pv w hT hS hPC (hst.frozen 0) hR hD hL hH heb hk he0 he1 he2 he3 h4 hcb hpl (by omega) (by omega) (by omega) hcode hx0 hx1 hdec).mono fun e w' h => h
      · rw [if_neg hok]
        have h := of_decide_eq_true (show decOk x = true by simpa using hok)
        obtain ⟨hvd, henc⟩ := h
        have hbd := vld_bd hvd
        have eA : ((dA x).toNat : Int) = dA x := by omega
        have eB : ((dB x).toNat : Int) = dB x := by omega
        have eC : ((dC x).toNat : Int) = dC x := by omega
        have hdec : decV x = .tuple #[.agg #[.int .u8 (dN x), .int .i64 ((dA x).toNat : Nat), .int .i64 ((dB x).toNat : Nat), .int .i64 ((dC x).toNat : Nat), .int .i64 (dI x)], .int .i64 0] := by
          rw [decV, decR, if_pos ⟨hvd, henc⟩, eA, eB, eC]
        have hv2 : vld (dN x) ((dA x).toNat : Nat) ((dB x).toNat : Nat) ((dC x).toNat : Nat) (dI x) = true := by rw [eA, eB, eC]; exact hvd
        have R2 : Ready w ⟨cb, co, im.code.length, ccap, eb, eo, im.ents.length, ecap, im.sh, im.lk, (im.ents.getD k default).st, (im.ents.getD k default).fin, (im.ents.getD k default).nm⟩ k S s dv mv mem p x :=
          ⟨hT, hO, hst, hd, hm, hdS, hmS, hdm, h3, hr, h4, hal', heb, hk, he0, he1, he2, he3, hcb, hpl, by show (im.ents.getD k default).st ≤ (p : Int); omega, by show (p : Int) < (im.ents.getD k default).fin; omega, by omega, hpp, hcode, hx0, hx1⟩
        refine (step_inst _ k S (dN x) (dA x).toNat (dB x).toNat (dC x).toNat p s dv mv pv mem x (dI x) (inp (dI x)) (PW (dI x)) w R2 hdec hv2 (hport _) (H4p (by simpa using hok))).mono fun e w' h => ?_
        revert h
        show StepPost w S dv mv (PW (dI x)) _ _ _ _ _ _ (stepI im.lk _ _ _ _ _ s mem (inp (dI x))) e w' → _
        generalize stepI im.lk (dN x) (dA x).toNat (dB x).toNat (dC x).toNat (dI x) s mem (inp (dI x)) = out
        intro h
        match out, h with
        | .error er, h => exact h
        | .ok (s', mem', tk, ad, vl), h =>
          obtain ⟨h1, h2⟩ := h
          refine ⟨?_, h2⟩
          rw [h1, hpp]
          rfl
  · have hf' : fitP im t s = false := by simpa using hf
    have hs : stepP im t s mem inp = .error 14 := by simp [stepP, hf']
    rw [hs]
    have hi2 := hi
    obtain ⟨⟨cp, ccap, ep, ecap, rfl, _, _⟩, _, _⟩ := hi2
    refine (step_unfit S _ _ mv pv im.sh im.lk t w fun W hb => ?_).mono fun e w' h => h
    have h := fits_all _ im t S s dv W (hi.below hb (Nat.le_refl _)) (hst.below hb hst.lt) hd.shape
    rw [hf'] at h
    exact h

end Go.Proofs.YtkcfbonchhidlaaGreatDoor

set_option linter.unusedVariables false
set_option linter.unusedSimpArgs false
namespace Go.Proofs.YtkcfbonchhidlaaGreatDoor
open Go.RowKit

theorem W32.wrap (n : Int) : W32 (wrap32 n) := by unfold W32 wrap32; omega
theorem W32.zero : W32 0 := ⟨by omega, by omega⟩
theorem W32.bits (op : BinOp) (x y : Int) : W32 (bits op .i32 x y) := by
  unfold Go.bits
  rw [IntWalk.i32_left]
  exact W32.wrap _
theorem W32.tmod {x y : Int} (hx : W32 x) (hy : W32 y) (h0 : y ≠ 0) : W32 (x.tmod y) := by
  have h1 := Int.natAbs_tmod x y
  have h2 : x.natAbs % y.natAbs < y.natAbs := Nat.mod_lt _ (by omega)
  unfold W32 at *
  omega
theorem W32.shr {x : Int} (hx : W32 x) (k : Nat) : W32 (x / 2 ^ k) := by
  have hp : (0 : Int) < 2 ^ k := Int.pow_pos (by omega)
  generalize (2 : Int) ^ k = p at hp
  unfold W32 at *
  constructor
  · rw [Int.le_ediv_iff_mul_le hp]
    omega
  · have h3 : x / p < 2147483648 := by
      rw [Int.ediv_lt_iff_lt_mul hp]
      omega
    omega
theorem W32.ite {p : Prop} [Decidable p] {a b : Int} (ha : p → W32 a) (hb : ¬ p → W32 b) : W32 (if p then a else b) := by
  split
  · exact ha ‹_›
  · exact hb ‹_›
theorem ariV_w32 (n : Nat) {x y : Int} (hx : W32 x) (hy : W32 y) : W32 (ariV n x y) := by
  refine W32.ite (fun _ => W32.zero) (fun h => ?_)
  refine W32.ite (fun _ => W32.wrap _) fun _ => W32.ite (fun _ => W32.wrap _) fun _ => W32.ite (fun _ => W32.wrap _) fun _ => W32.ite (fun _ => W32.wrap _) fun _ => W32.ite (fun hn => W32.tmod hx hy (fun e => h ⟨.inr hn, e⟩)) fun _ =>
    W32.ite (fun _ => W32.bits _ _ _) fun _ => W32.ite (fun _ => W32.bits _ _ _) fun _ => W32.ite (fun _ => W32.bits _ _ _) fun _ => W32.ite (fun _ => W32.wrap _) fun _ => W32.ite (fun _ => hx.shr _) fun _ =>
    W32.ite (fun _ => W32.ite (fun _ => ⟨by omega, by omega⟩) fun _ => W32.zero) fun _ => W32.ite (fun _ => ⟨by omega, by omega⟩) fun _ => W32.zero
theorem w32_set {l : List Int} (h : ∀ k, W32 (l.getD k 0)) {v : Int} (hv : W32 v) (j : Nat) : ∀ k, W32 ((l.set j v).getD k 0) := by
  intro k
  rw [List.getD_eq_getElem?_getD, List.getElem?_set]
  split
  · split
    · exact hv
    · exact W32.zero
  · rw [← List.getD_eq_getElem?_getD]; exact h k
theorem w32_if {l : List Int} (h : ∀ k, W32 (l.getD k 0)) {v : Int} (hv : W32 v) (a : Nat) : ∀ k, W32 ((if a = 0 then l else l.set a v).getD k 0) := by
  split
  · exact h
  · exact w32_set h hv a

theorem ite_ok {α β : Type} {p : Prop} [Decidable p] {A B : Except α β} {o : Except α β} {Q : Prop} (ha : p → A = o → Q) (hb : ¬ p → B = o → Q) : (if p then A else B) = o → Q := by
  split
  · exact ha ‹_›
  · exact hb ‹_›

theorem ok_parts {s s' : St} {m m' : List Int} {a a' : Bool} {b b' c c' : Int} (h : (Except.ok (s, m, a, b, c) : Except Int (St × List Int × Bool × Int × Int)) = .ok (s', m', a', b', c')) : s = s' ∧ m = m' := by
  injection h with h; injection h with h1 h2; injection h2 with h2 h3; exact ⟨h1, h2⟩

theorem err_ne {x : Int} {y : St × List Int × Bool × Int × Int} (h : (Except.error x : Except Int (St × List Int × Bool × Int × Int)) = .ok y) : False := by cases h

set_option maxHeartbeats 2000000 in
theorem stepI_w32 {lk : Int} {n a b c : Nat} {i : Int} {s : St} {mem : List Int} {inp : Int} {s' : St} {mem' : List Int} {tk : Bool} {ad vl : Int} (h : stepI lk n a b c i s mem inp = .ok (s', mem', tk, ad, vl)) (hi : W32 i) (hinp : W32 inp)
    (hr : ∀ k, W32 (s.r.getD k 0)) (hd : ∀ k, W32 (s.d.getD k 0)) (hm : ∀ k, W32 (mem.getD k 0)) : (∀ k, W32 (s'.r.getD k 0)) ∧ (∀ k, W32 (s'.d.getD k 0)) ∧ (∀ k, W32 (mem'.getD k 0)) ∧ s'.d.length = s.d.length ∧ mem'.length = mem.length := by
  revert h
  unfold stepI
  simp only
  repeat' (with_reducible refine ite_ok (fun _ => ?_) (fun _ => ?_))
  all_goals intro h
  all_goals first
    | (with_reducible exact (err_ne h).elim)
    | (with_reducible obtain ⟨rfl, rfl⟩ := ok_parts h
       with_reducible first
         | exact ⟨hr, hd, hm, rfl, rfl⟩
         | exact ⟨w32_if hr (ariV_w32 _ (hr _) (hr _)) _, hd, hm, rfl, rfl⟩
         | exact ⟨w32_if hr hi _, hd, hm, rfl, rfl⟩
         | exact ⟨w32_if hr (W32.wrap _) _, hd, hm, rfl, rfl⟩
         | exact ⟨w32_if hr (W32.bits _ _ _) _, hd, hm, rfl, rfl⟩
         | exact ⟨w32_if hr (hd _) _, hd, hm, rfl, rfl⟩
         | exact ⟨w32_if hr (hm _) _, hd, hm, rfl, rfl⟩
         | exact ⟨w32_if hr hinp _, hd, hm, rfl, rfl⟩
         | exact ⟨hr, w32_set hd (hr _) _, hm, List.length_set, rfl⟩
         | exact ⟨hr, hd, w32_set hm (hr _) _, rfl, List.length_set⟩)

theorem stepP_w32 {im : Im} {t : Int} {s : St} {mem : List Int} {inp : Int → Int} {f : Ef} {s' : St} {mem' : List Int} (h : stepP im t s mem inp = .ok (f, s', mem')) (hinp : ∀ i, W32 (inp i))
    (hr : ∀ k, W32 (s.r.getD k 0)) (hd : ∀ k, W32 (s.d.getD k 0)) (hm : ∀ k, W32 (mem.getD k 0)) : (∀ k, W32 (s'.r.getD k 0)) ∧ (∀ k, W32 (s'.d.getD k 0)) ∧ (∀ k, W32 (mem'.getD k 0)) ∧ s'.d.length = s.d.length ∧ mem'.length = mem.length := by
  unfold stepP at h
  split at h
  · cases h
  · simp only at h
    split at h
    · cases h
    · split at h
      · cases h
      · rename_i hok
        have hv := (of_decide_eq_true (show decOk (im.code.getD s.pc.toNat 0) = true by simpa using hok)).1
        have hb := vld_bd hv
        have hiw : W32 (dI (im.code.getD s.pc.toNat 0)) := ⟨by omega, by omega⟩
        split at h
        · cases h
        · rename_i s2 m2 tk ad vl hs
          cases h
          exact stepI_w32 hs hiw (hinp _) hr hd hm

end Go.Proofs.YtkcfbonchhidlaaGreatDoor

