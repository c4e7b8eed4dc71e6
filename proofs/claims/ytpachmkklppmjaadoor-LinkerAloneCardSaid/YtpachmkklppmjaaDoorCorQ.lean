/- core.Step over an image, by one pure function. -/
import Derived.Test.YtpachmkklppmjaaDoorCorP
import Derived.Test.YtpachmkklppmjaaDoorIsaP
set_option linter.unusedVariables false
set_option linter.unusedSimpArgs false
namespace Go.Proofs.YtpachmkklppmjaaDoor
open Go.RowKit

/-- The effect of an instruction. -/
structure Ef where
  n : Nat
  a : Nat
  b : Nat
  c : Nat
  i : Int
  pc : Int
  tk : Bool
  ad : Int
  vl : Int
def Ef.val (f : Ef) : Value := effV f.n f.a f.b f.c f.i f.pc f.tk f.ad f.vl

/-- Whether a word is the encoding of an instruction. -/
def decOk (x : Int) : Bool := decide (vld (dN x) (dA x) (dB x) (dC x) (dI x) = true ∧ encW (dN x) (dA x) (dB x) (dC x) (dI x) = x)

/-- A step: what it does, and the effect; or the error number. -/
def stepP (im : Im) (t : Int) (s : St) (mem : List Int) (inp : Int → Int) : Except Int (Ef × St × List Int) :=
  if fitP im t s = false ∨ s.halted = true then .error 14
  else
    let e := im.ents.getD t.toNat default
    if s.pc < e.st ∨ e.fin ≤ s.pc ∨ s.pc < 0 ∨ (im.code.length : Int) ≤ s.pc then .error 10
    else
      let x := im.code.getD s.pc.toNat 0
      if decOk x = false then .error 3
      else match stepI im.lk (dN x) (dA x).toNat (dB x).toNat (dC x).toNat (dI x) s mem (inp (dI x)) with
        | .error er => .error er
        | .ok (s', mem', tk, ad, vl) => .ok (⟨dN x, (dA x).toNat, (dB x).toNat, (dC x).toNat, dI x, s.pc, tk, ad, vl⟩, s', mem')

/-- What a step leaves. -/
def StepLeft (w : World) (S : Nat) (dv mv : Value) (PW : Int → World → World) (out : Except Int (Ef × St × List Int)) (e : Ending) (w' : World) : Prop :=
  match out with
  | .error er => e = .returned (.tuple #[effZ, .int .i64 er]) ∧ Below w.heap.size w w'
  | .ok (f, s', mem') => e = .returned (.tuple #[f.val, .int .i64 0]) ∧ Kept (OwnF S dv mv) (if f.n = 26 then PW f.i w else w) w' ∧ StAt w' S s' dv ∧ MemAt w' dv s'.d ∧ MemAt w' mv mem'

theorem step_inst (q : ImN) (t S n a b c pc : Nat) (s : St) (dv mv pv : Value) (mem : List Int) (x i inp : Int) (PW : World → World) (w : World) (R : Ready w q t S s dv mv mem pc x)
    (hdec : decV x = .tuple #[.agg #[.int .u8 n, .int .i64 a, .int .i64 b, .int .i64 c, .int .i64 i], .int .i64 0]) (hv : vld n a b c i = true) (hport : PortIn w S dv mv pv i inp PW) :
    Calls Tryd.prog 23 #[q.val, .int .i64 (t : Nat), .pointer (some ⟨S, 0, none⟩), mv, pv] w (StepPost w S dv mv PW n a b c i pc (stepI q.lk n a b c i s mem inp)) := by
  obtain ⟨hn, ha0, ha1, hb0, hb1, hc0, hc1, hi0, hi1⟩ := vld_bd hv
  have hp := vld_parts hv
  have ha : a < 16 := by omega
  have hb : b < 16 := by omega
  have hc : c < 16 := by omega
  match n, hn with
  | 0, _ => exact stepI_nop q t S a b c pc s dv mv pv mem x i inp PW w R hdec ha hb hc hi0 hi1
  | 1, _ => exact stepI_halt q t S a b c pc s dv mv pv mem x i inp PW w R hdec ha hb hc hi0 hi1
  | 2, _ => exact stepI_ari q t S a b c pc s dv mv pv mem x i inp PW w 2 R hdec ha hb hc hi0 hi1 (by omega) (by omega)
  | 3, _ => exact stepI_ari q t S a b c pc s dv mv pv mem x i inp PW w 3 R hdec ha hb hc hi0 hi1 (by omega) (by omega)
  | 4, _ => exact stepI_ari q t S a b c pc s dv mv pv mem x i inp PW w 4 R hdec ha hb hc hi0 hi1 (by omega) (by omega)
  | 5, _ => exact stepI_ari q t S a b c pc s dv mv pv mem x i inp PW w 5 R hdec ha hb hc hi0 hi1 (by omega) (by omega)
  | 6, _ => exact stepI_ari q t S a b c pc s dv mv pv mem x i inp PW w 6 R hdec ha hb hc hi0 hi1 (by omega) (by omega)
  | 7, _ => exact stepI_ari q t S a b c pc s dv mv pv mem x i inp PW w 7 R hdec ha hb hc hi0 hi1 (by omega) (by omega)
  | 8, _ => exact stepI_ari q t S a b c pc s dv mv pv mem x i inp PW w 8 R hdec ha hb hc hi0 hi1 (by omega) (by omega)
  | 9, _ => exact stepI_ari q t S a b c pc s dv mv pv mem x i inp PW w 9 R hdec ha hb hc hi0 hi1 (by omega) (by omega)
  | 10, _ => exact stepI_ari q t S a b c pc s dv mv pv mem x i inp PW w 10 R hdec ha hb hc hi0 hi1 (by omega) (by omega)
  | 11, _ => exact stepI_ari q t S a b c pc s dv mv pv mem x i inp PW w 11 R hdec ha hb hc hi0 hi1 (by omega) (by omega)
  | 12, _ => exact stepI_ari q t S a b c pc s dv mv pv mem x i inp PW w 12 R hdec ha hb hc hi0 hi1 (by omega) (by omega)
  | 13, _ => exact stepI_ari q t S a b c pc s dv mv pv mem x i inp PW w 13 R hdec ha hb hc hi0 hi1 (by omega) (by omega)
  | 14, _ => exact stepI_li q t S a b c pc s dv mv pv mem x i inp PW w R hdec ha hb hc hi0 hi1
  | 15, _ => exact stepI_addi q t S a b c pc s dv mv pv mem x i inp PW w R hdec ha hb hc hi0 hi1
  | 16, _ => exact stepI_shli q t S a b c pc s dv mv pv mem x i inp PW w R hdec ha hb hc hi0 hi1 (by have h := hp.2.2.2.2.1; have e : flo 16 = 0 := rfl; have u : uI 16 = true := rfl; rw [if_pos u, e] at h; exact h) (by have h := hp.2.2.2.2.2; have e : fhi 16 = 31 := rfl; have u : uI 16 = true := rfl; rw [if_pos u, e] at h; exact h)
  | 17, _ => exact stepI_ori q t S a b c pc s dv mv pv mem x i inp PW w R hdec ha hb hc hi0 hi1 (by have h := hp.2.2.2.2.1; have e : flo 17 = 0 := rfl; have u : uI 17 = true := rfl; rw [if_pos u, e] at h; exact h)
  | 18, _ => exact stepI_ld q t S a b c pc s dv mv pv mem x i inp PW w R hdec ha hb hc hi0 hi1
  | 19, _ => exact stepI_st q t S a b c pc s dv mv pv mem x i inp PW w R hdec ha hb hc hi0 hi1
  | 20, _ => exact stepI_lds q t S a b c pc s dv mv pv mem x i inp PW w R hdec ha hb hc hi0 hi1
  | 21, _ => exact stepI_sts q t S a b c pc s dv mv pv mem x i inp PW w R hdec ha hb hc hi0 hi1
  | 22, _ => exact stepI_beqz q t S a b c pc s dv mv pv mem x i inp PW w R hdec ha hb hc hi0 hi1
  | 23, _ => exact stepI_bnez q t S a b c pc s dv mv pv mem x i inp PW w R hdec ha hb hc hi0 hi1
  | 24, _ => exact stepI_jmp q t S a b c pc s dv mv pv mem x i inp PW w R hdec ha hb hc hi0 hi1
  | 25, _ => exact stepI_bound q t S a b c pc s dv mv pv mem x i inp PW w R hdec ha hb hc hi0 hi1
  | 26, _ => exact stepI_in q t S a b c pc s dv mv pv mem x i inp PW w R hdec ha hb hc hi0 hi1 hport
  | 27, _ => exact stepI_out q t S a b c pc s dv mv pv mem x i inp PW w R hdec ha hb hc hi0 hi1
  | 28, _ => exact stepI_lock q t S a b c pc s dv mv pv mem x i inp PW w R hdec ha hb hc hi0 hi1
  | 29, _ => exact stepI_unlock q t S a b c pc s dv mv pv mem x i inp PW w R hdec ha hb hc hi0 hi1
  | n + 30, h => omega

/-- All lies ready for a step of a task. -/
structure Set (w : World) (imv : Value) (im : Im) (S : Nat) (s : St) (dv mv : Value) (mem : List Int) : Prop where
  tab : Tab w
  otab : OTab w
  im : ImAt w imv im
  st : StAt w S s dv
  d : MemAt w dv s.d
  m : MemAt w mv mem
  dS : dv.ownBlock ≠ some S
  mS : mv.ownBlock ≠ some S
  dm : ∀ k, dv.ownBlock = some k → mv.ownBlock ≠ some k
  r32 : ∀ k, W32 (s.r.getD k 0)

theorem step_all (imv : Value) (im : Im) (t : Int) (S : Nat) (s : St) (dv mv pv : Value) (mem : List Int) (inp : Int → Int) (PW : Int → World → World) (w : World) (R : Set w imv im S s dv mv mem) (hport : ∀ i, PortIn w S dv mv pv i (inp i) (PW i)) :
    Calls Tryd.prog 23 #[imv, .int .i64 t, .pointer (some ⟨S, 0, none⟩), mv, pv] w (StepLeft w S dv mv PW (stepP im t s mem inp)) := by
  obtain ⟨hT, hO, hi, hst, hd, hm, hdS, hmS, hdm, hr⟩ := R
  by_cases hf : fitP im t s = true
  · have hf' := hf
    simp only [fitP, decide_eq_true_eq] at hf'
    obtain ⟨h0, h1, h2, h3, h4⟩ := hf'
    obtain ⟨⟨cp, ccap, ep, ecap, rfl, hc, he⟩, hw, hsh⟩ := hi
    obtain ⟨dp, dcap, hdv⟩ := hd.shape
    rcases he with he | ⟨eb, eo, rfl, heb, he⟩
    · rw [he] at h1; simp at h1; omega
    obtain ⟨k, rfl⟩ := Int.eq_ofNat_of_zero_le h0
    have hk : k < im.ents.length := by omega
    obtain ⟨he0, he1, he2, he3⟩ := he k hk
    rw [Int.toNat_natCast] at h2
    rw [← h2] at he3
    have hS := hst.lt
    have hR : w.cell? ⟨S, 1, none⟩ = some (.int .i32 0) := by have h := hst.reg 0 (by omega); rw [h3] at h; exact h
    have hD := hst.d
    rw [hdv] at hD
    have hH := hst.held
    have hPC := hst.pc
    by_cases hal : s.halted = true
    · have hs : stepP im k s mem inp = .error 14 := by simp [stepP, hal]
      rw [hs]
      have hL := hst.halted
      rw [hal] at hL
      exact (step_halted 0 0 0 0 eb eo im.ents.length ecap k S s.d.length dcap s.pc im.sh im.lk _ _ s.held _ dp mv pv _ w hS hPC (hst.frozen 0) hR hD hL hH heb hk he0 he1 he2 he3 h4).mono fun e w' h => h
    have hal' : s.halted = false := by simpa using hal
    have hL := hst.halted
    rw [hal'] at hL
    by_cases hp : s.pc < (im.ents.getD k default).st ∨ (im.ents.getD k default).fin ≤ s.pc ∨ s.pc < 0 ∨ (im.code.length : Int) ≤ s.pc
    · have hs : stepP im k s mem inp = .error 10 := by simp only [stepP, hf, hal']; rw [if_neg (by simp), Int.toNat_natCast, if_pos hp]
      rw [hs]
      by_cases p1 : s.pc < (im.ents.getD k default).st
      · exact (step_pc_low 0 0 im.code.length ccap eb eo im.ents.length ecap k S s.d.length dcap s.pc im.sh im.lk _ _ s.held _ dp cp mv pv w hS hPC (hst.frozen 0) hR hD hL hH heb hk he0 he1 he2 he3 h4 p1).mono fun e w' h => h
      by_cases p2 : (im.ents.getD k default).fin ≤ s.pc
      · exact (step_pc_high 0 0 im.code.length ccap eb eo im.ents.length ecap k S s.d.length dcap s.pc im.sh im.lk _ _ s.held _ dp cp mv pv w hS hPC (hst.frozen 0) hR hD hL hH heb hk he0 he1 he2 he3 h4 (by omega) p2).mono fun e w' h => h
      by_cases p3 : s.pc < 0
      · exact (step_pc_neg 0 0 im.code.length ccap eb eo im.ents.length ecap k S s.d.length dcap s.pc im.sh im.lk _ _ s.held _ dp cp mv pv w hS hPC (hst.frozen 0) hR hD hL hH heb hk he0 he1 he2 he3 h4 (by omega) (by omega) p3).mono fun e w' h => h
      · exact (step_pc_over 0 0 im.code.length ccap eb eo im.ents.length ecap k S s.d.length dcap s.pc im.sh im.lk _ _ s.held _ dp cp mv pv w hS hPC (hst.frozen 0) hR hD hL hH heb hk he0 he1 he2 he3 h4 (by omega) (by omega) (by omega) (by omega)).mono fun e w' h => h
    · obtain ⟨p, hpp⟩ : ∃ p : Nat, s.pc = p := ⟨s.pc.toNat, by omega⟩
      have hpl : p < im.code.length := by omega
      rcases hc with hc | ⟨cb, co, rfl, hcb, hc⟩
      · rw [hc] at hpl; simp at hpl
      have hcode := hc p hpl
      obtain ⟨hx0, hx1⟩ := hw p hpl
      have hpt : s.pc.toNat = p := by omega
      have hs : stepP im k s mem inp = (if decOk (im.code.getD p 0) = false then .error 3 else match stepI im.lk (dN (im.code.getD p 0)) (dA (im.code.getD p 0)).toNat (dB (im.code.getD p 0)).toNat (dC (im.code.getD p 0)).toNat (dI (im.code.getD p 0)) s mem (inp (dI (im.code.getD p 0))) with
        | .error er => .error er
        | .ok (s', mem', tk, ad, vl) => .ok (⟨dN (im.code.getD p 0), (dA (im.code.getD p 0)).toNat, (dB (im.code.getD p 0)).toNat, (dC (im.code.getD p 0)).toNat, dI (im.code.getD p 0), s.pc, tk, ad, vl⟩, s', mem')) := by
        simp only [stepP, hf, hal']
        rw [if_neg (by simp), Int.toNat_natCast, if_neg hp, hpt]
      rw [hs]
      clear hs
      generalize im.code.getD p 0 = x at hcode hx0 hx1 ⊢
      by_cases hok : decOk x = false
      · rw [if_pos hok]
        have hdec : decV x = .tuple #[.agg #[.int .u8 ((0 : Nat) : Int), .int .i64 ((0 : Nat) : Int), .int .i64 ((0 : Nat) : Int), .int .i64 ((0 : Nat) : Int), .int .i64 0], .int .i64 3] := by
          have h := of_decide_eq_false hok
          rw [decV, decR, if_neg h]
          rfl
        rw [hpp] at hPC
        exact (step_dec cb co im.code.length ccap eb eo im.ents.length ecap k S p s.d.length dcap 0 0 0 0 im.sh im.lk _ _ s.held x 0 _ dp mv pv w hT hS hPC (hst.frozen 0) hR hD hL hH heb hk he0 he1 he2 he3 h4 hcb hpl (by omega) (by omega) (by omega) hcode hx0 hx1 hdec).mono fun e w' h => h
      · rw [if_neg hok]
        have h := of_decide_eq_true (show decOk x = true by simpa using hok)
        obtain ⟨hvd, henc⟩ := h
        have hbd := vld_bd hvd
        have eA : ((dA x).toNat : Int) = dA x := by omega
        have eB : ((dB x).toNat : Int) = dB x := by omega
        have eC : ((dC x).toNat : Int) = dC x := by omega
        have hdec : decV x = .tuple #[.agg #[.int .u8 (dN x), .int .i64 ((dA x).toNat : Nat), .int .i64 ((dB x).toNat : Nat), .int .i64 ((dC x).toNat : Nat), .int .i64 (dI x)], .int .i64 0] := by
          rw [decV, decR, if_pos ⟨hvd, henc⟩, eA, eB, eC]
        have hv2 : vld (dN x) ((dA x).toNat : Nat) ((dB x).toNat : Nat) ((dC x).toNat : Nat) (dI x) = true := by rw [eA, eB, eC]; exact hvd
        have R2 : Ready w ⟨cb, co, im.code.length, ccap, eb, eo, im.ents.length, ecap, im.sh, im.lk, (im.ents.getD k default).st, (im.ents.getD k default).fin, (im.ents.getD k default).nm⟩ k S s dv mv mem p x :=
          ⟨hT, hO, hst, hd, hm, hdS, hmS, hdm, h3, hr, h4, hal', heb, hk, he0, he1, he2, he3, hcb, hpl, by show (im.ents.getD k default).st ≤ (p : Int); omega, by show (p : Int) < (im.ents.getD k default).fin; omega, by omega, hpp, hcode, hx0, hx1⟩
        refine (step_inst _ k S (dN x) (dA x).toNat (dB x).toNat (dC x).toNat p s dv mv pv mem x (dI x) (inp (dI x)) (PW (dI x)) w R2 hdec hv2 (hport _)).mono fun e w' h => ?_
        revert h
        show StepPost w S dv mv (PW (dI x)) _ _ _ _ _ _ (stepI im.lk _ _ _ _ _ s mem (inp (dI x))) e w' → _
        generalize stepI im.lk (dN x) (dA x).toNat (dB x).toNat (dC x).toNat (dI x) s mem (inp (dI x)) = out
        intro h
        match out, h with
        | .error er, h => exact h
        | .ok (s', mem', tk, ad, vl), h =>
          obtain ⟨h1, h2⟩ := h
          refine ⟨?_, h2⟩
          rw [h1, hpp]
          rfl
  · have hf' : fitP im t s = false := by simpa using hf
    have hs : stepP im t s mem inp = .error 14 := by simp [stepP, hf']
    rw [hs]
    have hi2 := hi
    obtain ⟨⟨cp, ccap, ep, ecap, rfl, _, _⟩, _, _⟩ := hi2
    refine (step_unfit S _ _ mv pv im.sh im.lk t w fun W hb => ?_).mono fun e w' h => h
    have h := fits_all _ im t S s dv W (hi.below hb (Nat.le_refl _)) (hst.below hb hst.lt) hd.shape
    rw [hf'] at h
    exact h

end Go.Proofs.YtpachmkklppmjaaDoor
