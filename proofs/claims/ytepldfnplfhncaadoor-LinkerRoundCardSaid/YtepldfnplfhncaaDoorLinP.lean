/- The binary format of images that Check accepts, in plain words. No walk here. -/
import Derived.Test.YtepldfnplfhncaaDoorLinA
import Derived.Test.YtepldfnplfhncaaDoorLinB
set_option linter.unusedVariables false
set_option linter.unusedSimpArgs false
namespace Go.Proofs.YtepldfnplfhncaaDoor
open Go.RowKit

def bytesN (s : ByteArray) : List Nat := s.data.toList.map UInt8.toNat
def strN (l : List Nat) : ByteArray := ⟨(l.map UInt8.ofNat).toArray⟩
def toEnt (e : LEn) : Ent := ⟨bytesN e.nm, e.st.toNat, e.fin.toNat, e.dat.toNat⟩
def ofEnt (e : Ent) : LEn := ⟨strN e.nm, e.st, e.fin, e.dat⟩
def toImg (im : LIm) : Img := ⟨im.sh.toNat, im.lk.toNat, im.ents.map toEnt, im.code.map Int.toNat⟩
def ofImg (im : Img) : LIm := ⟨im.code.map Int.ofNat, im.ents.map ofEnt, im.sh, im.lk⟩
theorem bytesN_len (s : ByteArray) : (bytesN s).length = s.size := by simp [bytesN]
theorem strN_bytesN (s : ByteArray) : strN (bytesN s) = s := by
  unfold strN bytesN
  rw [List.map_map]
  have : (UInt8.ofNat ∘ UInt8.toNat) = id := by funext x; simp
  rw [this, List.map_id]
theorem bytesN_strN (l : List Nat) (h : ∀ c ∈ l, c < 256) : bytesN (strN l) = l := by
  unfold strN bytesN
  simp only [List.map_map]
  conv => rhs; rw [← List.map_id l]
  apply List.map_congr_left
  intro c hc
  have := h c hc
  simp [Nat.mod_eq_of_lt this]
theorem bytesN_lt (s : ByteArray) : ∀ c ∈ bytesN s, c < 256 := by
  intro c hc
  obtain ⟨x, _, rfl⟩ := List.mem_map.1 hc
  exact x.toNat_lt

/-- An entry whose numbers are not negative. -/
theorem ofEnt_toEnt (e : LEn) (h1 : 0 ≤ e.st) (h2 : 0 ≤ e.fin) (h3 : 0 ≤ e.dat) : ofEnt (toEnt e) = e := by
  obtain ⟨nm, st, fin, dat⟩ := e
  simp only [ofEnt, toEnt, strN_bytesN, LEn.mk.injEq, true_and]
  exact ⟨Int.toNat_of_nonneg h1, Int.toNat_of_nonneg h2, Int.toNat_of_nonneg h3⟩
theorem toEnt_ofEnt (e : Ent) (h : ∀ c ∈ e.nm, c < 256) : toEnt (ofEnt e) = e := by
  obtain ⟨nm, st, fin, dat⟩ := e
  simp only [ofEnt, toEnt, bytesN_strN nm h, Int.toNat_natCast]

/-- What an image that Check accepts is like. -/
structure Good (im : LIm) : Prop where
  code : im.code.length ≤ 4096
  ents : im.ents.length ≤ 8
  sh : 0 ≤ im.sh ∧ im.sh ≤ 64
  lk : 0 ≤ im.lk ∧ im.lk ≤ 4
  ent : ∀ k, k < im.ents.length → 1 ≤ (im.ents.getD k default).nm.size ∧ (im.ents.getD k default).nm.size ≤ 12 ∧ 0 ≤ (im.ents.getD k default).st ∧ (im.ents.getD k default).st ≤ 4096 ∧ 0 ≤ (im.ents.getD k default).fin ∧ (im.ents.getD k default).fin ≤ 4096 ∧ 0 ≤ (im.ents.getD k default).dat ∧ (im.ents.getD k default).dat ≤ 512
theorem chk_good {im : LIm} (h : chk im = 0) : Good im := by
  by_cases hs : sized im
  · by_cases hd : firstE (datE im) im.ents.length 0 = 0
    · by_cases hn : firstE (nmE im) im.ents.length 0 = 0
      · by_cases hst : firstE (stE im) im.ents.length 0 = 0
        · by_cases hl : endOf im im.ents.length = (im.code.length : Int)
          · have d0 := (firstE_zero _ _ _).1 hd
            have n0 := (firstE_zero _ _ _).1 hn
            have s0 := (firstE_zero _ _ _).1 hst
            have hc := chain_in (fun j hj => s0 j (Nat.zero_le _) (by omega)) hl
            obtain ⟨a, b, c, d⟩ := hs
            refine ⟨a, b, c, d, fun k hk => ?_⟩
            have h1 := d0 k (Nat.zero_le _) (by omega)
            have h2 := n0 k (Nat.zero_le _) (by omega)
            have h3 := hc k hk
            unfold datE at h1
            unfold nmE at h2
            split at h1
            · split at h2
              · rename_i p1 p2
                exact ⟨p2.1, p2.2, h3.1, by omega, by omega, by omega, p1.1, p1.2⟩
              · cases h2
            · cases h1
          · rw [chk_l hs hd hn hst hl] at h; cases h
        · rw [chk_s hs hd hn rfl hst] at h; exact absurd h hst
      · rw [chk_n hs hd rfl hn] at h; exact absurd h hn
    · rw [chk_d hs rfl hd] at h; exact absurd h hd
  · rw [chk_un hs] at h; cases h
theorem good_mem {im : LIm} (h : Good im) {e : LEn} (he : e ∈ im.ents) : 1 ≤ e.nm.size ∧ e.nm.size ≤ 12 ∧ 0 ≤ e.st ∧ e.st ≤ 4096 ∧ 0 ≤ e.fin ∧ e.fin ≤ 4096 ∧ 0 ≤ e.dat ∧ e.dat ≤ 512 := by
  obtain ⟨k, hk, rfl⟩ := List.mem_iff_getElem.1 he
  have := h.ent k hk
  rwa [List.getD_eq_getElem?_getD, List.getElem?_eq_getElem hk] at this
/-- The words of an image. -/
def WordsIn (im : LIm) : Prop := ∀ x ∈ im.code, 0 ≤ x ∧ x < 4294967296
theorem ofImg_toImg {im : LIm} (h : Good im) (hw : WordsIn im) : ofImg (toImg im) = im := by
  obtain ⟨code, ents, sh, lk⟩ := im
  simp only [ofImg, toImg, LIm.mk.injEq, List.map_map]
  refine ⟨?_, ?_, Int.toNat_of_nonneg h.sh.1, Int.toNat_of_nonneg h.lk.1⟩
  · conv => rhs; rw [← List.map_id code]
    exact List.map_congr_left fun x hx => Int.toNat_of_nonneg (hw x hx).1
  · conv => rhs; rw [← List.map_id ents]
    exact List.map_congr_left fun e he => by
      obtain ⟨_, _, a, _, b, _, c, _⟩ := good_mem h he
      exact ofEnt_toEnt e a b c
theorem toImg_ok {im : LIm} (h : Good im) (hw : WordsIn im) : imgOk (toImg im) := by
  have h1 := h.sh; have h2 := h.lk; have h3 := h.ents; have h4 := h.code
  refine ⟨?_, ?_, ?_, ?_, ?_, ?_⟩
  · show im.sh.toNat < _; omega
  · show im.lk.toNat < _; omega
  · show (im.ents.map toEnt).length < _; rw [List.length_map]; omega
  · intro e he
    obtain ⟨x, hx, rfl⟩ := List.mem_map.1 he
    obtain ⟨a1, a2, a3, a4, a5, a6, a7, a8⟩ := good_mem h hx
    exact ⟨by show (bytesN x.nm).length < _; rw [bytesN_len]; omega, by show x.st.toNat < _; omega, by show x.fin.toNat < _; omega, by show x.dat.toNat < _; omega⟩
  · show (im.code.map Int.toNat).length < _; rw [List.length_map]; omega
  · intro c hc
    obtain ⟨x, hx, rfl⟩ := List.mem_map.1 hc
    have := hw x hx
    omega
theorem imgB_lt (im : Img) (h : ∀ e ∈ im.ents, ∀ c ∈ e.nm, c < 256) : ∀ c ∈ imgB im, c < 256 := by
  intro c hc
  unfold imgB at hc
  simp only [List.mem_append, List.mem_flatMap] at hc
  rcases hc with hc | hc | hc | ⟨e, he, hc⟩ | hc | ⟨x, _, hc⟩
  · exact be_byte _ _ c hc
  · exact be_byte _ _ c hc
  · exact be_byte _ _ c hc
  · unfold entB at hc
    simp only [List.mem_append] at hc
    rcases hc with hc | hc | hc | hc | hc
    · exact be_byte _ _ c hc
    · exact h e he c hc
    · exact be_byte _ _ c hc
    · exact be_byte _ _ c hc
    · exact be_byte _ _ c hc
  · exact be_byte _ _ c hc
  · exact be_byte _ _ c hc
theorem toImg_lt (im : LIm) : ∀ c ∈ imgB (toImg im), c < 256 := imgB_lt _ fun e he c hc => by
  obtain ⟨x, _, rfl⟩ := List.mem_map.1 he
  exact bytesN_lt _ c hc

/-- What Decode returns: an error and an image. -/
def zeroIm : LIm := ⟨[], [], 0, 0⟩
noncomputable def decP (l : List Nat) : Int × LIm :=
  if (imgR (l, false)).2.2 = true then (4, zeroIm)
  else if (imgR (l, false)).2.1 ≠ [] then (3, zeroIm)
  else if chk (ofImg (imgR (l, false)).1) ≠ 0 then (chk (ofImg (imgR (l, false)).1), zeroIm)
  else (0, ofImg (imgR (l, false)).1)
theorem dec_round {im : LIm} (h : chk im = 0) (hw : WordsIn im) : decP (imgB (toImg im)) = (0, im) := by
  have hg := chk_good h
  have hr := img_more _ (toImg_ok hg hw) []
  rw [List.append_nil] at hr
  unfold decP
  rw [hr]
  simp only [ofImg_toImg hg hw, h, ne_eq, not_true_eq_false, if_false, Bool.false_eq_true]
theorem dec_any {l : List Nat} (hl : ∀ c ∈ l, c < 256) (h : (decP l).1 = 0) : ∃ im, decP l = (0, im) ∧ chk im = 0 ∧ WordsIn im ∧ imgB (toImg im) = l := by
  unfold decP at h ⊢
  by_cases h1 : (imgR (l, false)).2.2 = true
  · rw [if_pos h1] at h; cases h
  · rw [if_neg h1] at h ⊢
    by_cases h2 : (imgR (l, false)).2.1 ≠ []
    · rw [if_pos h2] at h; cases h
    · rw [if_neg h2] at h ⊢
      by_cases h3 : chk (ofImg (imgR (l, false)).1) ≠ 0
      · rw [if_pos h3] at h; exact absurd h h3
      · rw [if_neg h3] at h ⊢
        obtain ⟨t1, t2⟩ := img_reads.taken l hl (by simpa using h1)
        have h2' : (imgR (l, false)).2.1 = [] := by simpa using h2
        rw [h2', List.append_nil] at t1
        generalize (imgR (l, false)).1 = x at t1 t2 h3 ⊢
        refine ⟨ofImg x, rfl, by simpa using h3, ?_, ?_⟩
        · intro y hy
          obtain ⟨c, hc, rfl⟩ := List.mem_map.1 hy
          have := t2.2.2.2.2.2 c hc
          exact ⟨Int.natCast_nonneg _, by show (c : Int) < _; omega⟩
        · have hx : toImg (ofImg x) = x := by
            obtain ⟨sh, lk, ents, code⟩ := x
            simp only [toImg, ofImg, Img.mk.injEq, List.map_map, Int.toNat_natCast, true_and]
            constructor
            · conv => rhs; rw [← List.map_id ents]
              refine List.map_congr_left fun e he => toEnt_ofEnt e fun c hc => hl c ?_
              rw [t1]
              unfold imgB
              simp only [List.mem_append, List.mem_flatMap]
              refine .inr (.inr (.inr (.inl ⟨e, he, ?_⟩)))
              unfold entB
              simp only [List.mem_append]
              exact .inr (.inl hc)
            · conv => rhs; rw [← List.map_id code]
              exact List.map_congr_left fun c _ => Int.toNat_natCast c
          rw [hx]; exact t1.symm
theorem dec_fail {l : List Nat} (h : (decP l).1 ≠ 0) : (decP l).2 = zeroIm := by
  unfold decP at h ⊢
  by_cases h1 : (imgR (l, false)).2.2 = true
  · rw [if_pos h1]
  · rw [if_neg h1] at h ⊢
    by_cases h2 : (imgR (l, false)).2.1 ≠ []
    · rw [if_pos h2]
    · rw [if_neg h2] at h ⊢
      by_cases h3 : chk (ofImg (imgR (l, false)).1) ≠ 0
      · rw [if_pos h3]
      · rw [if_neg h3] at h; exact absurd rfl h
theorem dec_cut {im : LIm} (h : chk im = 0) (hw : WordsIn im) {n : Nat} (hn : n < (imgB (toImg im)).length) : (decP ((imgB (toImg im)).take n)).1 = 4 := by
  unfold decP
  rw [if_pos (img_cut _ (toImg_ok (chk_good h) hw) (toImg_lt im) n hn)]
theorem dec_more {im : LIm} (h : chk im = 0) (hw : WordsIn im) (c : Nat) : (decP (imgB (toImg im) ++ [c])).1 = 3 := by
  unfold decP
  rw [img_more _ (toImg_ok (chk_good h) hw) [c]]
  simp
theorem imgB_pos (im : Img) : 0 < (imgB im).length := by
  unfold imgB
  rw [List.length_append, be_len]
  omega
end Go.Proofs.YtepldfnplfhncaaDoor
