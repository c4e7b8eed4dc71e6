/- core.Fits and core.Step over an image, by one pure function each. -/
import Derived.Test.YtpachmkklppmjaaDoorCorO
set_option linter.unusedVariables false
set_option linter.unusedSimpArgs false
namespace Go.Proofs.YtpachmkklppmjaaDoor
open Go.RowKit

/-- A task of an image. -/
structure En where
  nm : ByteArray
  st : Int
  fin : Int
  dat : Int
instance : Inhabited En := ⟨⟨⟨#[]⟩, 0, 0, 0⟩⟩
/-- An image. -/
structure Im where
  code : List Int
  ents : List En
  sh : Int
  lk : Int

/-- An image lies in memory. -/
structure ImAt (w : World) (v : Value) (im : Im) : Prop where
  parts : ∃ cp ccap ep ecap, v = .agg #[.slice cp im.code.length ccap, .slice ep im.ents.length ecap, .int .i64 im.sh, .int .i64 im.lk] ∧
    (im.code = [] ∨ ∃ cb co, cp = some ⟨cb, co, none⟩ ∧ cb < w.heap.size ∧ ∀ k, k < im.code.length → w.cell? ⟨cb, co + k, none⟩ = some (.int .u32 (im.code.getD k 0))) ∧
    (im.ents = [] ∨ ∃ eb eo, ep = some ⟨eb, eo, none⟩ ∧ eb < w.heap.size ∧ ∀ k, k < im.ents.length → w.cell? ⟨eb, eo + k * 4, none⟩ = some (.string (im.ents.getD k default).nm) ∧
      w.cell? ⟨eb, eo + k * 4 + 1, none⟩ = some (.int .i64 (im.ents.getD k default).st) ∧ w.cell? ⟨eb, eo + k * 4 + 2, none⟩ = some (.int .i64 (im.ents.getD k default).fin) ∧ w.cell? ⟨eb, eo + k * 4 + 3, none⟩ = some (.int .i64 (im.ents.getD k default).dat))
  words : ∀ k, k < im.code.length → 0 ≤ im.code.getD k 0 ∧ im.code.getD k 0 < 4294967296
  short : im.code.length ≤ 140737488351232

theorem ImAt.below {B : Nat} {w w' : World} {v : Value} {im : Im} (h : ImAt w v im) (hb : Below B w w') (hB : w.heap.size ≤ B) : ImAt w' v im := by
  obtain ⟨⟨cp, ccap, ep, ecap, rfl, hc, he⟩, hw, hs⟩ := h
  refine ⟨⟨cp, ccap, ep, ecap, rfl, ?_, ?_⟩, hw, hs⟩
  · rcases hc with hc | ⟨cb, co, rfl, hcb, hc⟩
    · exact .inl hc
    · exact .inr ⟨cb, co, rfl, Nat.lt_of_lt_of_le hcb hb.size, fun k hk => (hb.cell (p := ⟨cb, co + k, none⟩) (Nat.lt_of_lt_of_le hcb hB)).trans (hc k hk)⟩
  · rcases he with he | ⟨eb, eo, rfl, heb, he⟩
    · exact .inl he
    · have hlt := Nat.lt_of_lt_of_le heb hB
      exact .inr ⟨eb, eo, rfl, Nat.lt_of_lt_of_le heb hb.size, fun k hk => ⟨(hb.cell (p := ⟨eb, eo + k * 4, none⟩) hlt).trans (he k hk).1, (hb.cell (p := ⟨eb, eo + k * 4 + 1, none⟩) hlt).trans (he k hk).2.1, (hb.cell (p := ⟨eb, eo + k * 4 + 2, none⟩) hlt).trans (he k hk).2.2.1, (hb.cell (p := ⟨eb, eo + k * 4 + 3, none⟩) hlt).trans (he k hk).2.2.2⟩⟩

/-- Whether a state fits a task. -/
def fitP (im : Im) (t : Int) (s : St) : Bool :=
  decide (0 ≤ t ∧ t < im.ents.length ∧ (s.d.length : Int) = (im.ents.getD t.toNat default).dat ∧ s.r.getD 0 0 = 0 ∧ (s.held = -1 ∨ (0 ≤ s.held ∧ s.held < im.lk)))

theorem fits_all (imv : Value) (im : Im) (t : Int) (S : Nat) (s : St) (dv : Value) (w : World) (hi : ImAt w imv im) (hst : StAt w S s dv) (hd : ∃ p cap, dv = .slice p s.d.length cap) :
    Calls Tryd.prog 22 #[imv, .int .i64 t, .pointer (some ⟨S, 0, none⟩)] w fun e w' => e = .returned (.bool (fitP im t s)) ∧ Below w.heap.size w w' := by
  obtain ⟨⟨cp, ccap, ep, ecap, rfl, _, he⟩, _, _⟩ := hi
  obtain ⟨dp, dcap, rfl⟩ := hd
  have hS := hst.lt
  have hD := hst.d
  have hH := hst.held
  have hR : w.cell? ⟨S, 1, none⟩ = some (.int .i32 (s.r.getD 0 0)) := hst.reg 0 (by omega)
  by_cases h0 : 0 ≤ t
  · by_cases h1 : t < im.ents.length
    · rcases he with he | ⟨eb, eo, rfl, heb, he⟩
      · rw [he] at h1; simp at h1; omega
      · obtain ⟨k, rfl⟩ := Int.eq_ofNat_of_zero_le h0
        have hk : k < im.ents.length := by omega
        have hkd : decide (k < im.ents.length) = true := by simpa using hk
        obtain ⟨_, _, _, het⟩ := he k hk
        by_cases h2 : (s.d.length : Int) = (im.ents.getD k default).dat
        · rw [← h2] at het
          by_cases h3 : s.r.getD 0 0 = 0
          · rw [h3] at hR
            by_cases h4 : s.held = -1
            · have hf : fitP im k s = true := by simp only [fitP, decide_eq_true_eq, Int.toNat_natCast]; exact ⟨h0, h1, h2, h3, .inl h4⟩
              rw [hf]
              rw [h4] at hH
              exact fits_ok1 _ none dp S _ ecap _ dcap eb eo k im.sh im.lk 0 0 0 w heb het hS hD hR hH hk h1 hkd
            · by_cases h5 : 0 ≤ s.held
              · by_cases h6 : s.held < im.lk
                · have hf : fitP im k s = true := by simp only [fitP, decide_eq_true_eq, Int.toNat_natCast]; exact ⟨h0, h1, h2, h3, .inr ⟨h5, h6⟩⟩
                  rw [hf]
                  exact fits_ok2 _ none dp S _ ecap _ dcap eb eo k im.sh im.lk 0 0 s.held w heb het hS hD hR hH hk h1 hkd h5 (by simpa using h5) (by omega) h6 (by simpa using h6)
                · have hf : fitP im k s = false := by simp only [fitP, decide_eq_false_iff_not]; rintro ⟨_, _, _, _, h⟩; rcases h with h | h <;> omega
                  rw [hf]
                  exact fits_locks _ none dp S _ ecap _ dcap eb eo k im.sh im.lk 0 0 s.held w heb het hS hD hR hH hk h1 hkd h5 (by simpa using h5) (by omega) (by omega) (by simp; omega)
              · have hf : fitP im k s = false := by simp only [fitP, decide_eq_false_iff_not]; rintro ⟨_, _, _, _, h⟩; rcases h with h | h <;> omega
                rw [hf]
                exact fits_held _ none dp S _ ecap _ dcap eb eo k im.sh im.lk 0 0 s.held w heb het hS hD hR hH hk h1 hkd (by omega) (by simp; omega)
          · have hf : fitP im k s = false := by simp only [fitP, decide_eq_false_iff_not]; rintro ⟨_, _, _, h, _⟩; exact h3 h
            rw [hf]
            exact fits_r0 _ none dp S _ ecap _ dcap eb eo k im.sh im.lk 0 (s.r.getD 0 0) s.held w heb het hS hD hR hH hk h1 hkd (beq_false_of_ne h3)
        · have hf : fitP im k s = false := by simp only [fitP, decide_eq_false_iff_not, Int.toNat_natCast]; rintro ⟨_, _, h, _, _⟩; exact h2 h
          rw [hf]
          exact fits_len _ none dp S _ ecap _ dcap eb eo k im.sh im.lk _ (s.r.getD 0 0) s.held w heb het hS hD hR hH hk h1 hkd (beq_false_of_ne h2)
    · have hf : fitP im t s = false := by simp only [fitP, decide_eq_false_iff_not]; rintro ⟨_, h, _⟩; exact h1 h
      rw [hf]
      exact fits_over _ ep dp S _ ecap _ dcap im.sh im.lk 0 (s.r.getD 0 0) s.held t w hS hD hR hH h0 (by omega) (by simp; omega)
  · have hf : fitP im t s = false := by simp only [fitP, decide_eq_false_iff_not]; rintro ⟨h, _⟩; exact h0 h
    rw [hf]
    exact fits_neg _ ep dp S _ ecap _ dcap im.sh im.lk 0 (s.r.getD 0 0) s.held t w hS hD hR hH (by omega) (by simpa using h0)

end Go.Proofs.YtpachmkklppmjaaDoor
