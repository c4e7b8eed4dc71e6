/- The law CoreFuel, joined. -/
import Derived.Test.YtlmipchjmgnlfaaDoorCorBk
set_option linter.unusedVariables false
set_option linter.unusedSimpArgs false
namespace Go.Proofs.YtlmipchjmgnlfaaDoor
open Go.RowKit

theorem fuelLaw_any (s : St) (dp cp ep : Option Addr) (dcap ccap ecap : Nat) (im : Im) (t : Int) (mp : Option Addr) (mcap : Nat) (sh : List Int) (fuel first : Int) (w : World) (hT : Tab w) (hO : OTab w) (hr : s.r.length = 16) (him : im.code.length ≤ 200 → ImAt w (.agg #[.slice cp im.code.length ccap, .slice ep im.ents.length ecap, .int .i64 im.sh, .int .i64 im.lk]) im)
    (hrd : RdAt w (.slice dp s.d.length dcap) s.d) (hn0 : ∀ c, Value.slice dp s.d.length dcap = .slice none 0 c → c = 0) (hrm : RdAt w (.slice mp sh.length mcap) sh) (hm0 : ∀ c, Value.slice mp sh.length mcap = .slice none 0 c → c = 0)
    (r32 : ∀ j, W32 (s.r.getD j 0)) (d32 : ∀ j, W32 (s.d.getD j 0)) (m32 : ∀ j, W32 (sh.getD j 0)) (hf : 0 ≤ fuel ∧ fuel ≤ 255) (hf1 : 0 ≤ first ∧ first ≤ 255) :
    Calls Tryd.prog 6 #[.agg #[.slice cp im.code.length ccap, .slice ep im.ents.length ecap, .int .i64 im.sh, .int .i64 im.lk], .int .i64 t, stV s (.slice dp s.d.length dcap), .slice mp sh.length mcap, .int .u8 fuel, .int .u8 first] w fun e w' => e = .returned (.bool true) ∧ Below w.heap.size w w' := by
  obtain ⟨fu, rfl⟩ := Int.eq_ofNat_of_zero_le hf.1
  obtain ⟨fi, rfl⟩ := Int.eq_ofNat_of_zero_le hf1.1
  have hG : 1 < w.heap.size ∧ 0 < w.heap.size := ⟨hO.1, by have := hT.size; omega⟩
  have hk : min fi fu ≤ fu := Nat.min_le_right _ _
  rcases h2 : runQ im t (fun _ i => wrap32 (wrap32 i - 3)) (fun _ _ => ()) (min fi fu) ⟨s, sh, (), []⟩ with ⟨c2, n2, e2⟩
  have l2 := runQ_len (im := im) (t := t) (inp := fun (_ : Unit) i => wrap32 (wrap32 i - 3)) (nxt := fun _ _ => ()) (min fi fu) ⟨s, sh, (), []⟩
  have o2 := runQ_outs (im := im) (t := t) (inp := fun (_ : Unit) i => wrap32 (wrap32 i - 3)) (nxt := fun _ _ => ()) (min fi fu) ⟨s, sh, (), []⟩ rfl
  have s2 := runQ_steps (im := im) (t := t) (inp := fun (_ : Unit) i => wrap32 (wrap32 i - 3)) (nxt := fun _ _ => ()) (min fi fu) ⟨s, sh, (), []⟩
  rw [h2] at l2 o2 s2
  by_cases h13 : e2 = 13
  · subst h13
    rcases h3 : runQ im t (fun _ i => wrap32 (wrap32 i - 3)) (fun _ _ => ()) (fu - min fi fu) c2.fresh with ⟨c3, n3, e3⟩
    have l3 := runQ_len (im := im) (t := t) (inp := fun (_ : Unit) i => wrap32 (wrap32 i - 3)) (nxt := fun _ _ => ()) (fu - min fi fu) c2.fresh
    have o3 := runQ_outs (im := im) (t := t) (inp := fun (_ : Unit) i => wrap32 (wrap32 i - 3)) (nxt := fun _ _ => ()) (fu - min fi fu) c2.fresh rfl
    have s3 := runQ_steps (im := im) (t := t) (inp := fun (_ : Unit) i => wrap32 (wrap32 i - 3)) (nxt := fun _ _ => ()) (fu - min fi fu) c2.fresh
    rw [h3] at l3 o3 s3
    have hres := fuel_rest (im := im) (t := t) (inp := fun (_ : Unit) i => wrap32 (wrap32 i - 3)) (nxt := fun _ _ => ()) (c := ⟨s, sh, (), []⟩) hk (by rw [h2])
    rw [h2] at hres
    simp only [h3] at hres
    have h1 : runQ im t (fun _ i => wrap32 (wrap32 i - 3)) (fun _ _ => ()) fu ⟨s, sh, (), []⟩ = (⟨c3.s, c3.mem, (), c2.out ++ c3.out⟩, n2 + n3, e3) := by
      rcases hq : runQ im t (fun (_ : Unit) i => wrap32 (wrap32 i - 3)) (fun _ _ => ()) fu ⟨s, sh, (), []⟩ with ⟨⟨s1, m1, p1, u1⟩, n1, e1⟩
      rw [hq] at hres
      obtain ⟨a, b, c, d, e⟩ := hres
      simp only at a b c d e
      subst a b c d e
      rfl
    simp only at l2 l3 o2 o3 s2 s3
    exact fuelLaw_rest s dp cp ep dcap ccap ecap im t mp mcap sh fu fi w hT hO hr him hrd hn0 hrm hm0 r32 d32 m32 (by omega) (by omega) hG c2 c3 n2 n3 e3 h1 h2 h3 (l3.1.trans l2.1) (l3.2.trans l2.2) (by omega) (by omega)
  · have h1 := fuel_same (im := im) (t := t) (inp := fun (_ : Unit) i => wrap32 (wrap32 i - 3)) (nxt := fun _ _ => ()) (c := ⟨s, sh, (), []⟩) hk (by rw [h2]; exact h13)
    rw [h2] at h1
    simp only at l2 o2 s2
    exact fuelLaw_same s dp cp ep dcap ccap ecap im t mp mcap sh fu fi w hT hO hr him hrd hn0 hrm hm0 r32 d32 m32 (by omega) (by omega) hG c2 n2 e2 h1 h2 (by simpa using h13) l2.1 l2.2 (by omega) (by omega)

end Go.Proofs.YtlmipchjmgnlfaaDoor
