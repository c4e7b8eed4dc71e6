/- The law CoreRuns, joined. -/
import Derived.Test.YtlmipchjmgnlfaaDoorCorBj
set_option linter.unusedVariables false
set_option linter.unusedSimpArgs false
namespace Go.Proofs.YtlmipchjmgnlfaaDoor
open Go.RowKit

theorem runsLaw_all (s : St) (dp cp ep : Option Addr) (dcap ccap ecap : Nat) (im : Im) (t : Int) (mp : Option Addr) (mcap : Nat) (sh : List Int) (fuel : Int) (w : World) (hT : Tab w) (hO : OTab w) (hr : s.r.length = 16) (him : im.code.length ≤ 200 → ImAt w (.agg #[.slice cp im.code.length ccap, .slice ep im.ents.length ecap, .int .i64 im.sh, .int .i64 im.lk]) im)
    (hrd : RdAt w (.slice dp s.d.length dcap) s.d) (hn0 : ∀ c, Value.slice dp s.d.length dcap = .slice none 0 c → c = 0) (hrm : RdAt w (.slice mp sh.length mcap) sh) (hm0 : ∀ c, Value.slice mp sh.length mcap = .slice none 0 c → c = 0)
    (r32 : ∀ j, W32 (s.r.getD j 0)) (d32 : ∀ j, W32 (s.d.getD j 0)) (m32 : ∀ j, W32 (sh.getD j 0)) (hf : -9223372036854775808 ≤ fuel ∧ fuel ≤ 9223372036854775807) :
    Calls Tryd.prog 4 #[.agg #[.slice cp im.code.length ccap, .slice ep im.ents.length ecap, .int .i64 im.sh, .int .i64 im.lk], .int .i64 t, stV s (.slice dp s.d.length dcap), .slice mp sh.length mcap, .int .i64 fuel] w fun e w' => e = .returned (.bool true) ∧ Below w.heap.size w w' := by
  have hG : 1 < w.heap.size ∧ 0 < w.heap.size := ⟨hO.1, by have := hT.size; omega⟩
  by_cases hfu : fuel ≤ 300
  · rcases h1 : runQ im t cntI cntI fuel.toNat ⟨s, sh, 0, []⟩ with ⟨c1, n1, e1⟩
    have l1 := runQ_len (im := im) (t := t) (inp := cntI) (nxt := cntI) fuel.toNat ⟨s, sh, 0, []⟩
    have o1 := runQ_outs (im := im) (t := t) (inp := cntI) (nxt := cntI) fuel.toNat ⟨s, sh, 0, []⟩ rfl
    have s1 := runQ_steps (im := im) (t := t) (inp := cntI) (nxt := cntI) fuel.toNat ⟨s, sh, 0, []⟩
    rw [h1] at l1 o1 s1
    simp only at l1 o1 s1
    exact runsLaw_any s dp cp ep dcap ccap ecap im t mp mcap sh fuel w hT hO hr him hrd hn0 hrm hm0 r32 d32 m32 hG hf.1 hf.2 c1 n1 e1 (fun _ => h1) (fun _ => l1.1) (fun _ => l1.2) (fun _ => by omega) (fun _ => by omega)
  · exact runsLaw_any s dp cp ep dcap ccap ecap im t mp mcap sh fuel w hT hO hr him hrd hn0 hrm hm0 r32 d32 m32 hG hf.1 hf.2 ⟨s, sh, 0, []⟩ 0 0 (fun h => absurd h hfu) (fun h => absurd h hfu) (fun h => absurd h hfu) (fun h => absurd h hfu) (fun h => absurd h hfu)

end Go.Proofs.YtlmipchjmgnlfaaDoor
