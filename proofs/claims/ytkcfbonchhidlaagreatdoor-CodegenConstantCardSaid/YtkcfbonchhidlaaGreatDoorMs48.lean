import Derived.Test.YtkcfbonchhidlaaGreatDoorRows
import Derived.WalkKit
import Derived.ProofKit
import Derived.OpenShut
import Derived.Deep.DeepHandedRow
import Derived.Lib.SmallJoins
import Derived.Test.YtkcfbonchhidlaaGreatDoorMs18
import Derived.Deep.Matrix
import Derived.Test.YtkcfbonchhidlaaGreatDoorCards
import Derived.Test.YtkcfbonchhidlaaGreatDoorTie
import Derived.Test.YtkcfbonchhidlaaGreatDoorMs00
import Derived.Test.YtkcfbonchhidlaaGreatDoorMs19
import Derived.Test.YtkcfbonchhidlaaGreatDoorMs01
import Derived.Test.YtkcfbonchhidlaaGreatDoorCorD
import Derived.Test.YtkcfbonchhidlaaGreatDoorMs35
import Derived.Test.YtkcfbonchhidlaaGreatDoorCoT
import Derived.Test.YtkcfbonchhidlaaGreatDoorIsaP
set_option linter.unusedVariables false
set_option linter.unusedSimpArgs false
set_option maxRecDepth 20000
namespace Go.Proofs.YtkcfbonchhidlaaGreatDoor
open Go.Joins Go.ChangeShapes Go.WideShapes Go.ChangeAt Go.RowKit Go.Deep

section
variable {H : Type} {enc : TypeId × Value → H} {P : Program} {w : World} {base : Nat} {spare : Nat → Bool} {held : Bool}
theorem trodAll_carry (hl : laidOutB P = true) {W W' : World} (hb : Below W.heap.size W W') :
    ∀ (ts : List TypeId) (vs : List Value) (ds : List (DataW H)) (ps : List MemPlace), (∀ t ∈ ts, P.readableRec t = true ∧ t < P.types.size) → DataW.TrodAll enc P W 0 (fun _ => true) true ts vs ds ps → (∀ x ∈ ps, x.block < W.heap.size) →
      DataW.TrodAll enc P W' 0 (fun b => decide (b < W.heap.size)) true ts vs ds ps
  | [], vs, ds, ps, _, h, _ => by
    obtain ⟨rfl, rfl, rfl⟩ := trodAll_nil h
    exact trodAll_mk0
  | t :: ts, vs, ds, ps, hr, h, hlt => by
    obtain ⟨v0, vs0, d0, ds0, p0, q0, rfl, rfl, rfl, h0, r0⟩ := trodAll_cons h
    exact trodAll_cons_mk (Below.trod hl (hr t (by simp)).1 (hr t (by simp)).2 h0 hb (fun x hx => hlt x (by simp [hx])))
      (trodAll_carry hl hb ts vs0 ds0 q0 (fun u hu => hr u (by simp [hu])) r0 (fun x hx => hlt x (by simp [hx])))

theorem law_post {f : Func} {s : ChangeSpec} {apart : Bool} {W W' : World} {args : Array Value} {ds gs : List (DataW H)} {before : List MemPlace} {tb : TypeId} (hl : laidOutB P = true)
    (hread : f.params.toList.all (fun t => P.readableRec t && decide (t < P.types.size)) = true) (hvars : s.vars = []) (hrt : f.resultTypes = #[tb]) (hub : P.underlying tb = some .bool)
    (hW : DataW.Whole enc P f.params.toList s.vars apart W args.toList ds gs before) (hb : Below W.heap.size W W')
    (hfn : (s.fn H (ds ++ gs)).results = [.lit (.bool true)] ∧ (s.fn H (ds ++ gs)).args = ds ∧ (s.fn H (ds ++ gs)).vars = []) :
    s.post enc P f apart true false false W args (.bool true) W' := by
  have hW' := hW
  obtain ⟨p, q, hA, hV, rfl, _, _⟩ := hW
  have hlt := hW'.lt
  obtain ⟨e1, e2, e3⟩ := hfn
  have hq : q = [] := by
    rw [hvars] at hV
    exact (trodVars_none hV).2
  subst hq
  refine ⟨ds, gs, _, [], p, [], hW', ?_, ?_, ?_, hb.frame _, fun h => by cases h⟩
  · rw [e1, hrt]
    exact trodAll_mk1 (shut_bool hub _)
  · rw [e2]
    refine trodAll_carry hl hb _ _ _ _ (fun t ht => ?_) hA (fun x hx => hlt x (by simp [hx]))
    have := List.all_eq_true.1 hread t ht
    simpa using this
  · rw [hvars, e3]
    rfl
end



section
variable {H : Type} {enc : TypeId × Value → H} {w : World} {base : Nat} {held : Bool}
end
theorem own : ownKnob Tryz.prog.godebug = none := by kernel_rfl
theorem laidOut : laidOutB Tryz.prog = true := by kernel_rfl
end Go.Proofs.YtkcfbonchhidlaaGreatDoor

set_option linter.unusedVariables false
set_option linter.unusedSimpArgs false
set_option maxRecDepth 20000
namespace Go.Proofs.YtkcfbonchhidlaaGreatDoor
open Go.Joins Go.ChangeShapes Go.WideShapes Go.ChangeAt Go.RowKit Go.Deep

theorem tabz_flat : flatD 2 (Rows.laid_math_bits_deBruijn64tab (H := Unit)) = (List.range 64).map fun j => .int .u8 (Lib.deBruijn64tab.getD j 0) := by kernel_rfl
theorem tabz_of_laid {w : World} {nm : String} {rest : List (String × DataW Unit)} (hg : Tryz.prog.globalNamed nm = some 3) (h : laidMet Tryz.prog ((nm, Rows.laid_math_bits_deBruijn64tab) :: rest) w) : TabZ w := by
  obtain ⟨et, fr, hc⟩ := cells_of_head (g := 3) (t := 172) 2 hg (by kernel_rfl) (by kernel_rfl) h
  rw [tabz_flat] at hc
  refine ⟨?_, fun i hi => ?_⟩
  · rcases Nat.lt_or_ge 3 w.heap.size with h | h
    · exact h
    · rw [Array.getElem?_eq_none (by omega)] at hc; cases hc
  · unfold World.cell?
    rw [hc]
    simp [hi]
def layObj (cs : Array Value) : Obj → Obj
  | .cells _ t frozen => .cells cs t frozen
  | o => o
end Go.Proofs.YtkcfbonchhidlaaGreatDoor

set_option linter.unusedVariables false
set_option linter.unusedSimpArgs false
set_option maxRecDepth 20000
namespace Go.Proofs.YtkcfbonchhidlaaGreatDoor
open Go.Joins Go.ChangeShapes Go.WideShapes Go.ChangeAt Go.RowKit Go.Deep

theorem laidMet_tail {P : Program} {w : World} {x : String × DataW Unit} {rest : List (String × DataW Unit)} (h : laidMet P (x :: rest) w) : laidMet P rest w := by
  obtain ⟨ps, hv, hn, hh⟩ := h
  obtain ⟨nm, d⟩ := x
  obtain ⟨g, t, cs, fuel, p, q, h1, h2, h3, h4, h5, h6⟩ := hv
  subst h6
  exact ⟨q, h5, (List.nodup_append.1 hn).2.1, fun b off hm => hh b off (by simp [hm])⟩
theorem otab_of_laid {w : World} {nm : String} {x : String × DataW Unit} (hg : Tryz.prog.globalNamed nm = some 1) (h : laidMet Tryz.prog [x, (nm, Rows.laid_ontime_core_operators)] w) : OTab w := by
  obtain ⟨et, fr, hc⟩ := cells_of_head (g := 1) (t := 140) 2 hg (by kernel_rfl) (by kernel_rfl) (laidMet_tail h)
  refine ⟨?_, fun i _ => ?_⟩
  · rcases Nat.lt_or_ge 1 w.heap.size with h | h
    · exact h
    · rw [Array.getElem?_eq_none (by omega)] at hc; cases hc
  · unfold World.cell?
    rw [hc]
    simp
noncomputable def laidWorldK (os : Os) : World :=
  { World.holding Tryz.prog os ⟨#[], #[], []⟩ with heap := (((World.holding Tryz.prog os ⟨#[], #[], []⟩).heap.modify 0 (layObj fcells.toArray)).modify 3 (layObj (flatD 2 (Rows.laid_math_bits_deBruijn64tab (H := Unit))).toArray)).modify 1 (layObj (flatD 2 (Rows.laid_ontime_core_operators (H := Unit))).toArray) }
end Go.Proofs.YtkcfbonchhidlaaGreatDoor

set_option linter.unusedVariables false
set_option linter.unusedSimpArgs false
namespace Go.Proofs.YtkcfbonchhidlaaGreatDoor
open Go.RowKit

theorem i32_or_low (h y : Int) (hh : -131072 ≤ h ∧ h < 131072) (hy : 0 ≤ y ∧ y < 16384) : bits .or .i32 (h * 16384) y = h * 16384 + y := by
  show IntKind.i32.wrap ((BitVec.ofInt 32 (h * 16384) ||| BitVec.ofInt 32 y).toNat : Int) = _
  rw [BitVec.toNat_or, BitVec.toNat_ofInt, BitVec.toNat_ofInt]
  obtain ⟨q, hq⟩ : ∃ q : Nat, ((h * 16384) % ((2 ^ 32 : Nat) : Int)).toNat = 2 ^ 14 * q := ⟨((h % 262144).toNat), by omega⟩
  have h2 : (y % ((2 ^ 32 : Nat) : Int)).toNat = y.toNat := by omega
  rw [hq, h2, ← Nat.two_pow_add_eq_or_of_lt (by omega), ← hq]
  have e : ((((h * 16384) % ((2 ^ 32 : Nat) : Int)).toNat + y.toNat : Nat) : Int) = (h * 16384) % 4294967296 + y := by omega
  rw [e]
  rw [IntKind.wrap_i32]
  omega

def encG (g : GI) : Int := encW g.op g.a g.b g.c g.imm
def haltG : GI := ⟨1, 0, 0, 0, 0⟩
def conL (r n : Int) : List GI := constG r n ++ [haltG]
def conIm (r n : Int) : Im := ⟨(conL r n).map encG, [⟨⟨#[116]⟩, 0, (conL r n).length, 0⟩], 0, 0⟩
def zeros : List Int := [0, 0, 0, 0, 0, 0, 0, 0, 0, 0, 0, 0, 0, 0, 0, 0]
def conC : Cf Unit := ⟨⟨0, zeros, [], false, -1⟩, [], (), []⟩
theorem con_step {L : List GI} {nm : ByteArray} {s : St} {mem : List Int} {inp : Int → Int} (k : Nat) (hk : k < L.length) (hpc : s.pc = k) (h0 : s.r.getD 0 0 = 0) (hd : s.d = []) (hh : s.held = -1) (hal : s.halted = false) (hv : vG (L.getD k default) = true) :
    stepP ⟨L.map encG, [⟨nm, 0, L.length, 0⟩], 0, 0⟩ 0 s mem inp = match stepI 0 (L.getD k default).op (L.getD k default).a.toNat (L.getD k default).b.toNat (L.getD k default).c.toNat (L.getD k default).imm s mem (inp (L.getD k default).imm) with
      | .error er => .error er
      | .ok (s', mem', tk, ad, vl) => .ok (⟨(L.getD k default).op, (L.getD k default).a.toNat, (L.getD k default).b.toNat, (L.getD k default).c.toNat, (L.getD k default).imm, s.pc, tk, ad, vl⟩, s', mem') := by
  have hx : (L.map encG).getD k 0 = encG (L.getD k default) := by
    rw [List.getD_eq_getElem?_getD, List.getElem?_map, List.getD_eq_getElem?_getD, List.getElem?_eq_getElem hk]; rfl
  generalize L.getD k default = g at hx hv ⊢
  obtain ⟨e0, e1, e2, e3, e4⟩ := dec_enc (show vld g.op g.a g.b g.c g.imm = true from hv)
  have hdk : decOk (encG g) = true := by
    unfold decOk encG
    rw [e0, e1, e2, e3, e4]
    exact decide_eq_true ⟨hv, rfl⟩
  unfold stepP
  have hf : fitP ⟨L.map encG, [⟨nm, 0, L.length, 0⟩], 0, 0⟩ 0 s = true := by
    unfold fitP
    rw [h0, hd, hh]
    exact decide_eq_true ⟨by decide, by simp, rfl, rfl, .inl rfl⟩
  rw [if_neg (by rw [hf, hal]; simp)]
  show (if s.pc < 0 ∨ (L.length : Int) ≤ s.pc ∨ s.pc < 0 ∨ ((L.map encG).length : Int) ≤ s.pc then _ else _) = _
  rw [if_neg (by rw [List.length_map]; omega), hpc, Int.toNat_natCast]
  show (if decOk ((L.map encG).getD k 0) = false then _ else _) = _
  rw [hx, hdk, if_neg (by decide)]
  show (match stepI 0 (dN (encG g)) (dA (encG g)).toNat (dB (encG g)).toNat (dC (encG g)).toNat (dI (encG g)) s mem (inp (dI (encG g))) with | .error er => _ | .ok (s', mem', tk, ad, vl) => _) = _
  unfold encG
  rw [e0, e1, e2, e3, e4]
theorem zeros_set (r : Nat) (v : Int) (hr : r ≠ 0) : (zeros.set r v).getD 0 0 = 0 := by
  rw [List.getD_eq_getElem?_getD, List.getElem?_set_ne hr]; rfl
theorem zeros_at (r : Nat) (v : Int) (hr : r < 16) : (zeros.set r v).getD r 0 = v := by
  rw [List.getD_eq_getElem?_getD, List.getElem?_set_self (by simpa [zeros] using hr)]; rfl
theorem const_all (r n : Int) (hn : W32 n) : ∀ k, k < (conL r n).length → vG ((conL r n).getD k default) = true := by
  have hn' : -2147483648 ≤ n ∧ n ≤ 2147483647 := hn
  have hh : vG haltG = true := vG_halt
  unfold conL constG
  split
  · intro k hk
    have : k = 0 := by simpa using hk
    subst this; exact hh
  · split
    · intro k hk
      have hk : k < 2 := hk
      rcases (show k = 0 ∨ k = 1 by omega) with rfl | rfl
      · exact vG_ai (by decide) ⟨rfl, rfl, rfl, rfl⟩ ⟨rfl, rfl⟩ (by omega) (by show -131072 ≤ _ ∧ _ ≤ 131071; omega)
      · exact hh
    · intro k hk
      have hk : k < 4 := hk
      rcases (show k = 0 ∨ k = 1 ∨ k = 2 ∨ k = 3 by omega) with rfl | rfl | rfl | rfl
      · exact vG_ai (by decide) ⟨rfl, rfl, rfl, rfl⟩ ⟨rfl, rfl⟩ (by omega) (by show -131072 ≤ _ ∧ _ ≤ 131071; omega)
      · exact vG_abi (by decide) ⟨rfl, rfl, rfl, rfl⟩ ⟨rfl, rfl⟩ (by omega) (by omega) (by decide)
      · exact vG_abi (by decide) ⟨rfl, rfl, rfl, rfl⟩ ⟨rfl, rfl⟩ (by omega) (by omega) (by show 0 ≤ _ ∧ _ ≤ 16383; omega)
      · exact hh
def conEnd (pc : Int) (R : List Int) : Cf Unit := ⟨⟨pc, R, [], true, -1⟩, [], (), []⟩
theorem con_next {L : List GI} {nm : ByteArray} {inp : Unit → Int → Int} {nxt : Unit → Int → Unit} {pc : Int} {R : List Int} (k : Nat) (hk : k < L.length) (hpc : pc = k) (h0 : R.getD 0 0 = 0) (hv : vG (L.getD k default) = true) {R' : List Int} {ad vl : Int}
    (hs : stepI 0 (L.getD k default).op (L.getD k default).a.toNat (L.getD k default).b.toNat (L.getD k default).c.toNat (L.getD k default).imm ⟨pc, R, [], false, -1⟩ [] (inp () (L.getD k default).imm) = .ok (⟨pc + 1, R', [], false, -1⟩, [], false, ad, vl)) (hn : (L.getD k default).op ≠ 27) :
    cstep ⟨L.map encG, [⟨nm, 0, L.length, 0⟩], 0, 0⟩ 0 inp nxt ⟨⟨pc, R, [], false, -1⟩, [], (), []⟩ = .ok ⟨⟨pc + 1, R', [], false, -1⟩, [], (), []⟩ := by
  unfold cstep
  rw [con_step k hk hpc h0 rfl rfl rfl hv]
  rw [show (⟨⟨pc, R, [], false, -1⟩, [], (), []⟩ : Cf Unit).p = () from rfl, show (⟨⟨pc, R, [], false, -1⟩, [], (), []⟩ : Cf Unit).s = ⟨pc, R, [], false, -1⟩ from rfl, show (⟨⟨pc, R, [], false, -1⟩, [], (), []⟩ : Cf Unit).mem = [] from rfl, hs]
  generalize L.getD k default = g at hn
  simp [hn]
theorem con_halt {L : List GI} {nm : ByteArray} {inp : Unit → Int → Int} {nxt : Unit → Int → Unit} {pc : Int} {R : List Int} (k : Nat) (hk : k < L.length) (hpc : pc = k) (h0 : R.getD 0 0 = 0) (hg : L.getD k default = haltG) :
    cstep ⟨L.map encG, [⟨nm, 0, L.length, 0⟩], 0, 0⟩ 0 inp nxt ⟨⟨pc, R, [], false, -1⟩, [], (), []⟩ = .ok (conEnd pc R) := by
  unfold cstep
  rw [con_step k hk hpc h0 rfl rfl rfl (by rw [hg]; exact vG_halt), hg]
  rfl
theorem run_next {im : Im} {inp : Unit → Int → Int} {nxt : Unit → Int → Unit} {c c' e : Cf Unit} {f k : Nat} {er : Int} (hc : cstep im 0 inp nxt c = .ok c') (hal : c.s.halted = false) (hr : runP im 0 inp nxt f c' = (e, k, er)) : runP im 0 inp nxt (f + 1) c = (e, k + 1, er) := by rw [runP_ok hal hc, hr]
theorem con_fit (r n : Int) : fitP (conIm r n) 0 conC.s = true := by
  unfold fitP
  exact decide_eq_true ⟨by decide, by simp [conIm], rfl, rfl, .inl rfl⟩
theorem const_op4 (r n : Int) (g : GI) (hg : g ∈ conL r n) : op4 g.op := by
  unfold conL constG at hg
  rw [List.mem_append] at hg
  rcases hg with hg | hg
  · split at hg
    · cases hg
    · split at hg
      · obtain rfl := List.mem_singleton.1 hg
        exact .inr (.inl rfl)
      · rcases List.mem_cons.1 hg with rfl | hg
        · exact .inr (.inl rfl)
        · rcases List.mem_cons.1 hg with rfl | hg
          · exact .inr (.inr (.inl rfl))
          · obtain rfl := List.mem_singleton.1 hg
            exact .inr (.inr (.inr rfl))
  · obtain rfl := List.mem_singleton.1 hg
    exact .inl rfl
theorem con_op4 (r n : Int) (hn : W32 n) : ∀ k, k < (conIm r n).code.length → decOk ((conIm r n).code.getD k 0) = true → op4 (dN ((conIm r n).code.getD k 0)) := by
  intro k hk _
  have hk2 : k < (conL r n).length := by simpa [conIm] using hk
  have hx : (conIm r n).code.getD k 0 = encG ((conL r n).getD k default) := by
    show ((conL r n).map encG).getD k 0 = _
    rw [List.getD_eq_getElem?_getD, List.getElem?_map, List.getD_eq_getElem?_getD, List.getElem?_eq_getElem hk2]; rfl
  have hv := const_all r n hn k hk2
  have hm := const_op4 r n ((conL r n).getD k default) (by rw [List.getD_eq_getElem?_getD, List.getElem?_eq_getElem hk2]; exact List.getElem_mem hk2)
  rw [hx]
  generalize (conL r n).getD k default = g at hv hm ⊢
  unfold encG
  rw [(dec_enc (show vld g.op g.a g.b g.c g.imm = true from hv)).1]
  exact hm
theorem con_run (r n : Int) (hn : W32 n) : ∃ pc R k, runP (conIm r n) 0 (fun (_ : Unit) _ => 0) (fun _ _ => ()) 9 conC = (conEnd pc R, k, 0) ∧ R.length = 16 ∧ (∀ j, W32 (R.getD j 0)) ∧ ∀ j : Nat, j < 16 → R.getD j 0 = if (j : Int) = r ∧ 0 < r then n else 0 := by
  have hn' : -2147483648 ≤ n ∧ n ≤ 2147483647 := hn
  have hv := const_all r n hn
  have key : ∀ (v : Int) (rn : Nat), 1 ≤ rn → rn < 16 → W32 v → (zeros.set rn v).length = 16 ∧ (∀ j, W32 ((zeros.set rn v).getD j 0)) ∧ ∀ j : Nat, j < 16 → (zeros.set rn v).getD j 0 = if (j : Int) = (rn : Int) ∧ 0 < (rn : Int) then v else 0 := by
    intro v rn h1 h2 h3
    have hat : ∀ j : Nat, (zeros.set rn v).getD j 0 = if j = rn then v else 0 := by
      intro j
      by_cases e : j = rn
      · subst e; rw [if_pos rfl]; exact zeros_at j v h2
      · rw [if_neg e, List.getD_eq_getElem?_getD, List.getElem?_set_ne (fun h => e h.symm)]
        by_cases hj : j < 16
        · have : ∀ i : Fin 16, (zeros[i.1]?).getD 0 = 0 := by decide
          exact this ⟨j, hj⟩
        · rw [List.getElem?_eq_none (by simp [zeros]; omega)]; rfl
    refine ⟨by simp [zeros], fun j => ?_, fun j hj => ?_⟩
    · rw [hat]
      split
      · exact h3
      · exact W32.zero
    · rw [hat]
      by_cases e : j = rn
      · rw [if_pos e, if_pos ⟨by omega, by omega⟩]
      · rw [if_neg e, if_neg (fun h => e (by omega))]
  by_cases h1 : r < 1 ∨ 16 ≤ r
  · have hL : conL r n = [haltG] := by unfold conL constG; rw [if_pos h1]; rfl
    unfold conIm
    rw [hL]
    refine ⟨0, zeros, 1, ?_, rfl, fun j => ?_, fun j hj => ?_⟩
    · exact run_next (con_halt (L := [haltG]) (R := zeros) (pc := 0) 0 (by decide) rfl rfl rfl) rfl (runP_halted rfl)
    · have : ∀ i : Nat, zeros.getD i 0 = 0 := by
        intro i
        by_cases hi : i < 16
        · have : ∀ i : Fin 16, zeros.getD i.1 0 = 0 := by decide
          exact this ⟨i, hi⟩
        · rw [List.getD_eq_getElem?_getD, List.getElem?_eq_none (by simp [zeros]; omega)]; rfl
      rw [this]; exact W32.zero
    · have : ∀ i : Fin 16, zeros.getD i.1 0 = 0 := by decide
      rw [this ⟨j, hj⟩, if_neg (by omega)]
  · obtain ⟨rn, rfl⟩ := Int.eq_ofNat_of_zero_le (show 0 ≤ r by omega)
    have hr1 : 1 ≤ rn := by omega
    have hr2 : rn < 16 := by omega
    have hr0 : rn ≠ 0 := by omega
    by_cases h2 : -131072 ≤ n ∧ n < 131072
    · have hL : conL rn n = [⟨14, rn, 0, 0, n⟩, haltG] := by unfold conL constG; rw [if_neg h1, if_pos h2]; rfl
      rw [hL] at hv
      unfold conIm
      rw [hL]
      refine ⟨1, zeros.set rn n, 2, ?_, key n rn hr1 hr2 hn⟩
      exact run_next (con_next (L := [⟨14, rn, 0, 0, n⟩, haltG]) (pc := 0) (R := zeros) 0 (by simp) rfl rfl (hv 0 (by simp)) (R' := zeros.set rn n) (ad := -1) (vl := 0) (by simp [stepI, hr0]) (by simp)) rfl
        (run_next (con_halt (L := [⟨14, rn, 0, 0, n⟩, haltG]) (pc := 0 + 1) (R := zeros.set rn n) 1 (by simp) rfl (zeros_set rn n hr0) rfl) rfl (runP_halted rfl))
    · have hL : conL rn n = [⟨14, rn, 0, 0, n / 16384⟩, ⟨16, rn, rn, 0, 14⟩, ⟨17, rn, rn, 0, n % 16384⟩, haltG] := by unfold conL constG; rw [if_neg h1, if_neg h2]; rfl
      rw [hL] at hv
      unfold conIm
      rw [hL]
      have hw : wrap32 (n / 16384 * 2 ^ 14) = n / 16384 * 16384 := by
        rw [show (2 : Int) ^ 14 = 16384 by decide]
        unfold wrap32
        omega
      have ho : bits .or .i32 (n / 16384 * 16384) (n % 16384) = n := by rw [i32_or_low _ _ (by omega) (by omega)]; omega
      refine ⟨3, zeros.set rn n, 4, ?_, key n rn hr1 hr2 hn⟩
      have s1 : stepI 0 16 (rn : Int).toNat (rn : Int).toNat (0 : Int).toNat 14 ⟨0 + 1, zeros.set rn (n / 16384), [], false, -1⟩ [] 0 = .ok (⟨0 + 1 + 1, zeros.set rn (n / 16384 * 16384), [], false, -1⟩, [], false, -1, 0) := by
        have e := zeros_at rn (n / 16384) hr2
        unfold stepI
        simp only [Int.toNat_natCast]
        rw [e, show (14 : Int).toNat = 14 from rfl, hw]
        simp [hr0]
      have s2 : stepI 0 17 (rn : Int).toNat (rn : Int).toNat (0 : Int).toNat (n % 16384) ⟨0 + 1 + 1, zeros.set rn (n / 16384 * 16384), [], false, -1⟩ [] 0 = .ok (⟨0 + 1 + 1 + 1, zeros.set rn n, [], false, -1⟩, [], false, -1, 0) := by
        have e := zeros_at rn (n / 16384 * 16384) hr2
        unfold stepI
        simp only [Int.toNat_natCast]
        rw [e, ho]
        simp [hr0]
      exact run_next (con_next (L := [⟨14, rn, 0, 0, n / 16384⟩, ⟨16, rn, rn, 0, 14⟩, ⟨17, rn, rn, 0, n % 16384⟩, haltG]) (pc := 0) (R := zeros) 0 (by simp) rfl rfl (hv 0 (by simp)) (R' := zeros.set rn (n / 16384)) (ad := -1) (vl := 0) (by simp [stepI, hr0]) (by simp)) rfl
        (run_next (con_next (L := [⟨14, rn, 0, 0, n / 16384⟩, ⟨16, rn, rn, 0, 14⟩, ⟨17, rn, rn, 0, n % 16384⟩, haltG]) (pc := 0 + 1) (R := zeros.set rn (n / 16384)) 1 (by simp) rfl (zeros_set rn _ hr0) (hv 1 (by simp)) (R' := zeros.set rn (n / 16384 * 16384)) (ad := -1) (vl := 0) s1 (by simp)) rfl
        (run_next (con_next (L := [⟨14, rn, 0, 0, n / 16384⟩, ⟨16, rn, rn, 0, 14⟩, ⟨17, rn, rn, 0, n % 16384⟩, haltG]) (pc := 0 + 1 + 1) (R := zeros.set rn (n / 16384 * 16384)) 2 (by simp) rfl (zeros_set rn _ hr0) (hv 2 (by simp)) (R' := zeros.set rn n) (ad := -1) (vl := 0) s2 (by simp)) rfl
        (run_next (con_halt (L := [⟨14, rn, 0, 0, n / 16384⟩, ⟨16, rn, rn, 0, 14⟩, ⟨17, rn, rn, 0, n % 16384⟩, haltG]) (pc := 0 + 1 + 1 + 1) (R := zeros.set rn n) 3 (by simp) rfl (zeros_set rn n hr0) rfl) rfl (runP_halted rfl))))
end Go.Proofs.YtkcfbonchhidlaaGreatDoor

