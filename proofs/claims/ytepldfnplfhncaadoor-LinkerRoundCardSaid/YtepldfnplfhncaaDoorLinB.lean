/- Images in memory, and what Check computes, in plain words. No walk here. -/
import Derived.Test.YtepldfnplfhncaaDoorIsaKa
import Derived.Test.YtepldfnplfhncaaDoorIsaN
set_option linter.unusedVariables false
set_option linter.unusedSimpArgs false
namespace Go.Proofs.YtepldfnplfhncaaDoor
open Go.RowKit

/-- An entry of an image. -/
structure LEn where
  nm : ByteArray
  st : Int
  fin : Int
  dat : Int
instance : Inhabited LEn := ⟨⟨⟨#[]⟩, 0, 0, 0⟩⟩
/-- An image. -/
structure LIm where
  code : List Int
  ents : List LEn
  sh : Int
  lk : Int

/-- A slice of words that can be read. -/
def WdAt (w : World) (v : Value) (l : List Int) : Prop :=
  ∃ p cap, v = .slice p l.length cap ∧ ∀ k, k < l.length → ∃ m off, p = some ⟨m, off, none⟩ ∧ m < w.heap.size ∧ w.cell? ⟨m, off + k, none⟩ = some (.int .u32 (l.getD k 0))
/-- A slice of entries that can be read. -/
def EnAt (w : World) (v : Value) (l : List LEn) : Prop :=
  ∃ p cap, v = .slice p l.length cap ∧ ∀ k, k < l.length → ∃ m off, p = some ⟨m, off, none⟩ ∧ m < w.heap.size ∧ w.cell? ⟨m, off + k * 4, none⟩ = some (.string (l.getD k default).nm) ∧
    w.cell? ⟨m, off + k * 4 + 1, none⟩ = some (.int .i64 (l.getD k default).st) ∧ w.cell? ⟨m, off + k * 4 + 2, none⟩ = some (.int .i64 (l.getD k default).fin) ∧ w.cell? ⟨m, off + k * 4 + 3, none⟩ = some (.int .i64 (l.getD k default).dat)
theorem WdAt.below {B : Nat} {w w' : World} {v : Value} {l : List Int} (h : WdAt w v l) (hb : Below B w w') (hB : w.heap.size ≤ B) : WdAt w' v l := by
  obtain ⟨p, cap, hv, hc⟩ := h
  refine ⟨p, cap, hv, fun k hk => ?_⟩
  obtain ⟨m, off, hp, hm, hx⟩ := hc k hk
  exact ⟨m, off, hp, Nat.lt_of_lt_of_le hm hb.size, (hb.cell (p := ⟨m, off + k, none⟩) (Nat.lt_of_lt_of_le hm hB)).trans hx⟩
theorem EnAt.below {B : Nat} {w w' : World} {v : Value} {l : List LEn} (h : EnAt w v l) (hb : Below B w w') (hB : w.heap.size ≤ B) : EnAt w' v l := by
  obtain ⟨p, cap, hv, hc⟩ := h
  refine ⟨p, cap, hv, fun k hk => ?_⟩
  obtain ⟨m, off, hp, hm, h0, h1, h2, h3⟩ := hc k hk
  have hlt := Nat.lt_of_lt_of_le hm hB
  exact ⟨m, off, hp, Nat.lt_of_lt_of_le hm hb.size, (hb.cell (p := ⟨m, off + k * 4, none⟩) hlt).trans h0, (hb.cell (p := ⟨m, off + k * 4 + 1, none⟩) hlt).trans h1, (hb.cell (p := ⟨m, off + k * 4 + 2, none⟩) hlt).trans h2, (hb.cell (p := ⟨m, off + k * 4 + 3, none⟩) hlt).trans h3⟩
/-- An image that can be read: its two slices. -/
structure LImAt (w : World) (cv ev : Value) (im : LIm) : Prop where
  code : WdAt w cv im.code
  ents : EnAt w ev im.ents
  words : ∀ k, k < im.code.length → 0 ≤ im.code.getD k 0 ∧ im.code.getD k 0 < 4294967296
theorem LImAt.below {B : Nat} {w w' : World} {cv ev : Value} {im : LIm} (h : LImAt w cv ev im) (hb : Below B w w') (hB : w.heap.size ≤ B) : LImAt w' cv ev im := ⟨h.code.below hb hB, h.ents.below hb hB, h.words⟩

/-- The first number that is not 0, of c numbers from place i on. -/
def firstE (p : Nat → Int) : Nat → Nat → Int
  | 0, _ => 0
  | c+1, i => if p i = 0 then firstE p c (i+1) else p i
theorem firstE_end (p : Nat → Int) (n : Nat) : firstE p (n - n) n = 0 := by rw [Nat.sub_self]; rfl
theorem firstE_hit (p : Nat → Int) (n i : Nat) (h : i < n) (h0 : p i ≠ 0) : firstE p (n - i) i = p i := by
  rw [show n - i = (n - (i+1)) + 1 by omega]
  show (if p i = 0 then _ else _) = _
  rw [if_neg h0]
theorem firstE_next (p : Nat → Int) (n i : Nat) (h : i < n) (h0 : p i = 0) : firstE p (n - i) i = firstE p (n - (i+1)) (i+1) := by
  rw [show n - i = (n - (i+1)) + 1 by omega]
  show (if p i = 0 then _ else _) = _
  rw [if_pos h0]
theorem firstE_zero (p : Nat → Int) : ∀ (c i : Nat), firstE p c i = 0 ↔ ∀ j, i ≤ j → j < i + c → p j = 0
  | 0, i => ⟨fun _ j h1 h2 => by omega, fun _ => rfl⟩
  | c+1, i => by
    show (if p i = 0 then _ else _) = 0 ↔ _
    by_cases h : p i = 0
    · rw [if_pos h, firstE_zero p c (i+1)]
      exact ⟨fun h1 j h2 h3 => by by_cases e : j = i; subst e; exact h; exact h1 j (by omega) (by omega), fun h1 j h2 h3 => h1 j (by omega) (by omega)⟩
    · rw [if_neg h]
      exact ⟨fun h1 => absurd h1 h, fun h1 => absurd (h1 i (Nat.le_refl _) (by omega)) h⟩

/-- The error of one word of an entry, at a place. -/
noncomputable def wordE (lk st fin at' x : Int) : Int :=
  open Classical in
  if dOk x then
    if isBr (dN x) = true ∧ (at' + 1 + dI x < st ∨ fin ≤ at' + 1 + dI x) then 10
    else if (dN x = 28 ∨ dN x = 29) ∧ lk ≤ dI x then 12 else 0
  else 3

def datE (im : LIm) (k : Nat) : Int := if 0 ≤ (im.ents.getD k default).dat ∧ (im.ents.getD k default).dat ≤ 512 then 0 else 2
def nmE (im : LIm) (k : Nat) : Int := if 1 ≤ (im.ents.getD k default).nm.size ∧ (im.ents.getD k default).nm.size ≤ 12 then 0 else 6
/-- Where the entries before place k end. -/
def endOf (im : LIm) (k : Nat) : Int := if k = 0 then 0 else (im.ents.getD (k-1) default).fin
def stE (im : LIm) (k : Nat) : Int := if (im.ents.getD k default).st = endOf im k ∧ (im.ents.getD k default).st < (im.ents.getD k default).fin then 0 else 14
noncomputable def codeE (im : LIm) (k : Nat) : Int :=
  firstE (fun a => wordE im.lk (im.ents.getD k default).st (im.ents.getD k default).fin a (im.code.getD a 0)) ((im.ents.getD k default).fin.toNat - (im.ents.getD k default).st.toNat) (im.ents.getD k default).st.toNat
/-- The sizes of an image. -/
def sized (im : LIm) : Prop := im.code.length ≤ 4096 ∧ im.ents.length ≤ 8 ∧ (0 ≤ im.sh ∧ im.sh ≤ 64) ∧ (0 ≤ im.lk ∧ im.lk ≤ 4)
instance (im : LIm) : Decidable (sized im) := by unfold sized; exact inferInstance
/-- The error of an image. -/
noncomputable def chk (im : LIm) : Int :=
  if ¬ sized im then 2
  else if firstE (datE im) im.ents.length 0 ≠ 0 then firstE (datE im) im.ents.length 0
  else if firstE (nmE im) im.ents.length 0 ≠ 0 then firstE (nmE im) im.ents.length 0
  else if firstE (stE im) im.ents.length 0 ≠ 0 then firstE (stE im) im.ents.length 0
  else if endOf im im.ents.length ≠ (im.code.length : Int) then 14
  else firstE (codeE im) im.ents.length 0
theorem endOf_succ (im : LIm) (k : Nat) : endOf im (k+1) = (im.ents.getD k default).fin := by simp [endOf]
theorem stE_zero {im : LIm} {k : Nat} (h : stE im k = 0) : (im.ents.getD k default).st = endOf im k ∧ (im.ents.getD k default).st < (im.ents.getD k default).fin := by
  unfold stE at h
  by_cases hc : (im.ents.getD k default).st = endOf im k ∧ (im.ents.getD k default).st < (im.ents.getD k default).fin
  · exact hc
  · rw [if_neg hc] at h; cases h
/-- In an image whose entries follow one another every entry lies in the code. -/
theorem chain_in {im : LIm} (h : ∀ j, j < im.ents.length → stE im j = 0) (he : endOf im im.ents.length = (im.code.length : Int)) : ∀ k, k < im.ents.length → 0 ≤ (im.ents.getD k default).st ∧ (im.ents.getD k default).st < (im.ents.getD k default).fin ∧ (im.ents.getD k default).fin ≤ (im.code.length : Int) := by
  have low : ∀ k, k ≤ im.ents.length → 0 ≤ endOf im k := by
    intro k
    induction k with
    | zero => intro _; simp [endOf]
    | succ k ih =>
      intro hk
      have h1 := stE_zero (h k (by omega))
      have h2 := ih (by omega)
      rw [endOf_succ]; omega
  have up : ∀ d k, k + d = im.ents.length → endOf im k ≤ (im.code.length : Int) := by
    intro d
    induction d with
    | zero => intro k hk; have : k = im.ents.length := by omega
              subst this; omega
    | succ d ih =>
      intro k hk
      have h1 := stE_zero (h k (by omega))
      have h2 := ih (k+1) (by omega)
      rw [endOf_succ] at h2; omega
  intro k hk
  have h1 := stE_zero (h k hk)
  have h2 := low k (by omega)
  have h3 := up (im.ents.length - (k+1)) (k+1) (by omega)
  rw [endOf_succ] at h3
  exact ⟨by omega, h1.2, h3⟩
theorem chk_un {im : LIm} (h : ¬ sized im) : chk im = 2 := by unfold chk; rw [if_pos h]
theorem chk_d {im : LIm} (hs : sized im) {x : Int} (h : firstE (datE im) im.ents.length 0 = x) (hx : x ≠ 0) : chk im = x := by unfold chk; rw [if_neg (fun h => h hs), h, if_pos hx]
theorem chk_n {im : LIm} (hs : sized im) (hd : firstE (datE im) im.ents.length 0 = 0) {x : Int} (h : firstE (nmE im) im.ents.length 0 = x) (hx : x ≠ 0) : chk im = x := by unfold chk; rw [if_neg (fun h => h hs), hd, if_neg (fun h => h rfl), h, if_pos hx]
theorem chk_s {im : LIm} (hs : sized im) (hd : firstE (datE im) im.ents.length 0 = 0) (hn : firstE (nmE im) im.ents.length 0 = 0) {x : Int} (h : firstE (stE im) im.ents.length 0 = x) (hx : x ≠ 0) : chk im = x := by unfold chk; rw [if_neg (fun h => h hs), hd, if_neg (fun h => h rfl), hn, if_neg (fun h => h rfl), h, if_pos hx]
theorem chk_l {im : LIm} (hs : sized im) (hd : firstE (datE im) im.ents.length 0 = 0) (hn : firstE (nmE im) im.ents.length 0 = 0) (h : firstE (stE im) im.ents.length 0 = 0) (hl : endOf im im.ents.length ≠ (im.code.length : Int)) : chk im = 14 := by unfold chk; rw [if_neg (fun h => h hs), hd, if_neg (fun h => h rfl), hn, if_neg (fun h => h rfl), h, if_neg (fun h => h rfl), if_pos hl]
theorem chk_c {im : LIm} (hs : sized im) (hd : firstE (datE im) im.ents.length 0 = 0) (hn : firstE (nmE im) im.ents.length 0 = 0) (h : firstE (stE im) im.ents.length 0 = 0) (hl : endOf im im.ents.length = (im.code.length : Int)) : chk im = firstE (codeE im) im.ents.length 0 := by unfold chk; rw [if_neg (fun h => h hs), hd, if_neg (fun h => h rfl), hn, if_neg (fun h => h rfl), h, if_neg (fun h => h rfl), if_neg (fun h => h hl)]
end Go.Proofs.YtepldfnplfhncaaDoor
