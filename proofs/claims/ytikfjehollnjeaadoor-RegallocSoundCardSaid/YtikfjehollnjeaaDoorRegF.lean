/- The reference's Color. -/
import Derived.Test.YtikfjehollnjeaaDoorRegE
set_option linter.unusedVariables false
set_option linter.unusedSimpArgs false
namespace Go.Proofs.YtikfjehollnjeaaDoor
open Go.RowKit

def lenOf : Value → Nat | .slice _ n _ => n | _ => 0
theorem ownBase0 {w : World} {base : Nat} {e : TypeId} {size : Nat} {v : Value} {n : Nat} {xs : List Value} (h : w.ownsRow base e size v n xs) {k : Nat} (hk : v.ownBlock = some k) : base ≤ k := (h.lt k hk).1
theorem own_empty (w : World) (base B : Nat) (hB : B = w.heap.size) (hb : base ≤ B) : (w.alloc (.cells #[] 3)).ownsRow base 3 1 (.slice (some ⟨B, 0, none⟩) 0 0) 0 [] := by
  subst hB
  exact World.ownsRow_made w #[] 0 hb (Nat.zero_le _) rfl
theorem upI_snoc (g : List Nat) (a : Nat) : upI (g ++ [a]) = upI g ++ [(a : Int)] := by simp [upI]
theorem upI_len (g : List Nat) : (upI g).length = g.length := by simp [upI]
theorem upI_get (g : List Nat) (j : Nat) (hj : j < g.length) : (upI g).getD j 0 = (g.getD j 0 : Nat) := by
  simp only [upI, List.getD_eq_getElem?_getD, List.getElem?_map, List.getElem?_eq_getElem hj]; rfl
theorem mark_next {w : World} {G n : Nat} {g : List Nat} (h : MarkAt w G n g) (a : Nat) : MarkAt (w.setCell ⟨G, a, none⟩ (.bool true)) G n (g ++ [a]) := by
  refine (h.set a (.bool true)).congr fun i hi => ?_
  by_cases e : i = a
  · subst e
    rw [if_pos rfl]
    have : (g ++ [i]).contains i = true := List.contains_iff_mem.2 (by simp)
    rw [this]
  · rw [if_neg e]
    have : (g ++ [a]).contains i = g.contains i := by
      rw [Bool.eq_iff_iff, List.contains_iff_mem, List.contains_iff_mem, List.mem_append, List.mem_singleton]
      exact ⟨fun h => h.resolve_right e, .inl⟩
    rw [this]
theorem mark_made (w : World) (n : Nat) : MarkAt (w.alloc (.cells (madeCells #[Value.bool false] n) 4)) w.heap.size n [] := World.rowIs_made w _ n _
theorem col_set {w : World} {O n : Nat} {out : List Int} (h : ColAt w O n out) (hn : out.length = n) (a : Nat) (ha : a < n) (x : Int) : ColAt (w.setCell ⟨O, a, none⟩ (.int .i64 x)) O n (out.set a x) := by
  refine (h.set a (.int .i64 x)).congr fun i hi => ?_
  rw [getD_set _ _ _ _ (by omega)]
  by_cases e : i = a
  · subst e; rw [if_pos rfl, if_pos rfl]
  · rw [if_neg e, if_neg (fun h => e h.symm)]
theorem own_of_row {w : World} {O n : Nat} {out : List Int} (h : ColAt w O n out) (hn : out.length = n) (hl : n ≤ 1000000) (base : Nat) (hb : base ≤ O) : w.ownsRow base 3 1 (.slice (some ⟨O, 0, none⟩) n n) n (out.map (Value.int .i64)) := by
  obtain ⟨c, hc, hs, hx⟩ := h
  refine ⟨by simp [hn], .inr ⟨O, n, c, rfl, hb, hc, Nat.le_refl _, by unfold maxLen; omega, by omega, ?_⟩⟩
  apply List.ext_getElem?
  intro j
  rw [Nat.mul_one]
  by_cases hj : j < n
  · rw [List.getElem?_take_of_lt hj, Array.getElem?_toList, hx j hj, List.getElem?_map, List.getElem?_eq_getElem (by omega)]
    show some (Value.int .i64 (out.getD j (-1))) = _
    rw [List.getD_eq_getElem?_getD, List.getElem?_eq_getElem (by omega)]; rfl
  · rw [List.getElem?_take_eq_none (by omega), List.getElem?_eq_none (by simp; omega)]
theorem rdI_at {w : World} {v : Value} {xs : List Int} (h : RdI w v xs) (k : Nat) (hk : k < xs.length) : ∃ m off cap, v = .slice (some ⟨m, off, none⟩) xs.length cap ∧ m < w.heap.size ∧ w.cell? ⟨m, off + k, none⟩ = some (.int .i64 (xs.getD k 0)) := by
  obtain ⟨p, cap, hv, hc⟩ := h
  obtain ⟨m, off, rfl, hm, hx⟩ := hc k hk
  exact ⟨m, off, cap, hv, hm, hx⟩
theorem RowsMax.mono {e : List (List Int)} {a b : Nat} (h : RowsMax e a) (hab : a ≤ b) : RowsMax e b := fun i => Nat.le_trans (h i) hab
theorem removeG_done (n : Nat) (A : Nat → Nat → Bool) (k : Int) (g : List Nat) (h : removeG n A k (n - n) g = removeG n A k n []) : g = removeG n A k n [] := by rw [Nat.sub_self] at h; exact h
theorem removeG_more (n : Nat) (A : Nat → Nat → Bool) (k : Int) (g : List Nat) (a m : Nat) (ha : nextG n A k g = (a : Int)) (hm : m < n) : removeG n A k (n - m) g = removeG n A k (n - (m+1)) (g ++ [a]) := by
  rw [show n - m = (n - (m+1)) + 1 by omega]
  show removeG n A k (n - (m+1)) (g ++ [(nextG n A k g).toNat]) = _
  rw [ha, Int.toNat_natCast]
/-- what is left of the stack: its first k places, from the last on -/
def selK (n : Nat) (A : Nat → Nat → Bool) (c : Int) (g : List Nat) (k : Nat) (out : List Int) : List Int := selectG n A c (g.take k).reverse out
theorem selK_zero (n : Nat) (A : Nat → Nat → Bool) (c : Int) (g : List Nat) (out : List Int) : selK n A c g 0 out = out := rfl
theorem selK_next (n : Nat) (A : Nat → Nat → Bool) (c : Int) (g : List Nat) (k : Nat) (out : List Int) (hk : k < g.length) : selK n A c g (k+1) out = selK n A c g k (out.set (g.getD k 0) (pickG n A c out (g.getD k 0))) := by
  unfold selK
  rw [List.take_succ_eq_append_getElem hk, List.reverse_append, List.getD_eq_getElem?_getD, List.getElem?_eq_getElem hk]
  rfl
theorem selK_all (n : Nat) (A : Nat → Nat → Bool) (c : Int) (g : List Nat) (out : List Int) : selK n A c g g.length out = selectG n A c g.reverse out := by unfold selK; rw [List.take_length]

set_option maxHeartbeats 1600000 in
theorem refcolor_pos (v : Value) (e : List (List Int)) (c : Int) (w : World) (h : RdR w v e) (hm : RowsMax e 100000) (hn : e.length ≤ 1000) (hc : 0 ≤ c) (hcb : c ≤ 1000) :
    Calls Tryd.prog 29 #[v, .int .i64 c] w fun r w' => ∃ V, r = .returned V ∧ w'.ownsRow w.heap.size 3 1 V e.length ((colorG e.length (adjG e) c).map (Value.int .i64)) ∧ Below w.heap.size w w' := by
  obtain ⟨p, cap, rfl⟩ := h.shape
  have HR := Lib.hid h
  have HM := Lib.hid hm
  clear h hm
  have hmkB := run_make_row' (P := Tryd.prog) 98 4 (.bool false) 1 Tryd.underlying98 infoB rfl .i64 .i64 e.length (by omega) (by omega)
  have hmkI := run_make_row' (P := Tryd.prog) 38 3 (.int .i64 0) 8 Tryd.underlying38 infoI rfl .i64 .i64 e.length (by omega) (by omega)
  go_enter Tryd.func29, Tryd.ntmps29
  go_wp2_with fail
  go_loopw [7] (fun s7 wr => ∃ (g : List Nat) (q : Option Addr) (cp : Nat), s7 = .slice q (upI g).length cp ∧ Hid (wr.ownsRow (w.heap.size + 1) 3 1 (.slice q (upI g).length cp) (upI g).length ((upI g).map (Value.int .i64))) ∧ Hid (MarkAt wr w.heap.size e.length g) ∧ Hid (Below w.heap.size w wr) ∧ w.heap.size + 1 < wr.heap.size ∧ (upI g).length ≤ e.length ∧ Hid (removeG e.length (adjG e) c (e.length - g.length) g = removeG e.length (adjG e) c e.length []) ) (fun s7 _ => e.length - lenOf s7)
  case atStart =>
    refine ⟨[], _, _, rfl, ?_, ?_, ?_, ?_, Nat.zero_le _, rfl⟩
    · exact own_empty _ _ _ (by simp) (Nat.le_refl _)
    · exact (mark_made w e.length).alloc _
    · exact bAlloc (by simp) (bAlloc (Nat.le_refl _) (Below.refl _ _))
    · simp
  case round =>
    obtain ⟨g, q, cp, rfl, HO, HMk, HB, hz1, hk, HS⟩ := hrel
    obtain ⟨w1, rfl⟩ : ∃ W : World, W = wr := ⟨_, rfl⟩
    by_cases hlt : (upI g).length < e.length
    · have hltI : ((upI g).length : Int) < e.length := by omega
      have h1 := next_any _ e w.heap.size g c w1 (HR.out.below HB.out (Nat.le_refl _)) HM.out HMk.out (by omega)
      obtain ⟨a0, a1, a2⟩ := nextG_ok (n := e.length) (A := adjG e) (k := c) (g := g) (by rw [← upI_len]; exact hlt)
      obtain ⟨a, ha⟩ := Int.eq_ofNat_of_zero_le a0
      rw [ha] at h1 a1
      have H1 := Lib.hid h1
      have HA := Lib.hid ha
      have HA2 := Lib.hid a2
      clear h1 ha a2 a0
      have haN : a < e.length := by omega
      have hfz : w1.frozen? ⟨w.heap.size, a, none⟩ = false := HMk.out.frozen a
      have hcl : w1.cell? ⟨w.heap.size, a, none⟩ = some (.bool (g.contains a)) := HMk.out.cell haN
      have hgl := HMk.out.lt
      go_wp2_with fail
      refine H1.out.mono ?_
      rintro r w' ⟨rfl, rfl⟩
      clear H1
      go_wp2_with (first | (at_builtin; refine wpList_append_one rfl _ _ rfl (w.heap.size + 1) _ (upI g) rfl ?own _ _ (a : Int) rfl ?cell ?len ?bs ?_))
      case own => exact (ownsRow_setCell_below HO.out (by show w.heap.size < _; omega) _).alloc _
      case cell => simp [go_sem]
      case len => omega
      case bs => simp [World.setCell]; omega
      intro p2 cp2 w2 hO2 hg2 _
      have hB2 : Below w.heap.size w w2 := Below.grown (bAlloc (by simp [World.setCell]; omega) (bSet (by exact Nat.le_refl _) HB.out)) hg2 (by simp [World.setCell]; omega) (fun k hk => by have := ownBase0 HO.out hk; omega)
      have hM2 : MarkAt w2 w.heap.size e.length (g ++ [a]) := by
        refine World.rowIs.of_block ((mark_next HMk.out a).alloc _) (hg2.block _ (by simp [World.setCell]; omega) (fun e => ?_))
        have := ownBase0 HO.out e.symm
        omega
      have hz2 := hg2.size
      go_wp2_with fail
      go_roundw
      case rel =>
        refine ⟨g ++ [a], p2, cp2, by simp [upI_snoc], by unfold Hid; simpa [upI_snoc] using hO2, hM2, hB2, ?_, by rw [upI_snoc]; simp; omega, ?_⟩
        · simp [World.setCell] at hz2; omega
        · show _ = _
          rw [← HS.out, removeG_more _ _ _ _ _ _ HA.out (by rw [← upI_len]; exact hlt)]
          simp
      case measure => simp [lenOf]; omega
    · have hgn : g.length = e.length := by rw [← upI_len]; omega
      have hg := HS.out
      rw [hgn] at hg
      have hge := removeG_done _ _ _ _ hg
      obtain ⟨-, hnd, hmem⟩ := removed (n := e.length) (A := adjG e) (k := c)
      rw [← hge] at hnd hmem
      have HG := Lib.hid hge
      have HMem := Lib.hid hmem
      have HNd := Lib.hid hnd
      clear hg hge hnd hmem HS HMk
      have HR1 := Lib.hid (HR.out.below HB.out (Nat.le_refl _))
      have HI1 := Lib.hid (RdI.of_own HO.out)
      clear HO
      have hul := upI_len g
      go_wp2_with fail
      go_loopw [10] (fun s10 wr => ∃ k : Nat, s10 = .int .i64 k ∧ k ≤ e.length ∧ Hid (wr.rowIs w1.heap.size 3 e.length (fun i => .int .i64 (if i < k then -1 else 0))) ∧ Hid (Below w1.heap.size w1 wr)) (fun s10 _ => e.length - (intOf s10).toNat)
      case atStart => exact ⟨0, rfl, Nat.zero_le _, (World.rowIs_made w1 _ e.length _).congr (fun i _ => by rw [if_neg (by omega)]), bAlloc (Nat.le_refl _) (Below.refl _ _)⟩
      case round =>
        obtain ⟨k, rfl, hk2, HW, HB2⟩ := hrel
        obtain ⟨w2, rfl⟩ : ∃ W : World, W = wr := ⟨_, rfl⟩
        have hsz := HW.out.lt
        by_cases hlt2 : k < e.length
        · have hltI : (k : Int) < e.length := by omega
          have hfz : w2.frozen? ⟨w1.heap.size, k, none⟩ = false := HW.out.frozen k
          have hcl : w2.cell? ⟨w1.heap.size, k, none⟩ = some (.int .i64 0) := by rw [HW.out.cell hlt2, if_neg (by omega)]
          go_wp2_with fail
          go_roundw
          case rel =>
            refine ⟨k + 1, by go_num, by omega, (HW.out.set k _).congr fun i hi => ?_, bSet (Nat.le_refl _) HB2.out⟩
            by_cases e1 : i = k
            · subst e1; rw [if_pos rfl, if_pos (by omega)]
            · rw [if_neg e1]
              by_cases e2 : i < k
              · rw [if_pos e2, if_pos (by omega)]
              · rw [if_neg e2, if_neg (by omega)]
          case measure => simp [intOf]; omega
        · have hC : ColAt w2 w1.heap.size e.length (List.replicate e.length (-1)) := HW.out.congr fun i hi => by
            rw [if_pos (by omega), List.getD_eq_getElem?_getD, List.getElem?_replicate, if_pos hi]; rfl
          have HC := Lib.hid hC
          clear hC HW
          go_wp2_with fail
          go_loopw [11] (fun s11 wr => ∃ (k : Nat) (out : List Int), s11 = .int .i64 ((k : Int) - 1) ∧ k ≤ e.length ∧ out.length = e.length ∧ Hid (ColAt wr w1.heap.size e.length out) ∧ Hid (Below w1.heap.size w1 wr) ∧ Hid (∀ b ∈ g.take k, out.getD b (-1) = -1) ∧ Hid (selK e.length (adjG e) c g k out = colorG e.length (adjG e) c)) (fun s11 _ => (intOf s11 + 1).toNat)
          case atStart =>
            refine ⟨e.length, _, by go_num, Nat.le_refl _, by simp, HC, HB2, fun b _ => by simp only [List.getD_eq_getElem?_getD, List.getElem?_replicate]; split <;> rfl, ?_⟩
            show _ = _
            have hs := selK_all e.length (adjG e) c g (List.replicate e.length (-1))
            rw [hgn] at hs
            rw [hs, HG.out]; rfl
          case round =>
            obtain ⟨k', out, rfl, hk3, hol, HC3, HB3, HL3, HS3⟩ := hrel
            obtain ⟨w3, rfl⟩ : ∃ W : World, W = wr := ⟨_, rfl⟩
            have hsz3 := HC3.out.lt
            by_cases hk0 : k' = 0
            · subst hk0
              go_wp2_with fail
              go_ret
              refine ⟨_, rfl, ?_, bThen HB3.out HB.out.size HB.out⟩
              rw [← HS3.out, selK_zero]
              exact own_of_row HC3.out hol (by omega) _ HB.out.size
            · obtain ⟨k, rfl⟩ : ∃ k, k' = k + 1 := ⟨k' - 1, by omega⟩
              have hke : (((k + 1 : Nat) : Int) - 1) = (k : Int) := by omega
              rw [hke]
              have hkg : k < g.length := by omega
              have hI3 := HI1.out.below HB3.out (Nat.le_refl _)
              obtain ⟨ms, os, cs, es, hms, hxs⟩ := rdI_at hI3 k (by rw [upI_len]; exact hkg)
              injection es with es1 es2 es3
              subst es1 es3
              rw [upI_get g k hkg] at hxs
              have hN := selK_next e.length (adjG e) c g k out hkg
              have haL : g.getD k 0 < e.length := (HMem.out _).1 (by rw [List.getD_eq_getElem?_getD, List.getElem?_eq_getElem hkg]; exact List.getElem_mem _)
              have hlow : out.getD (g.getD k 0) (-1) = -1 := HL3.out _ (by rw [List.getD_eq_getElem?_getD, List.getElem?_eq_getElem hkg]; exact List.mem_iff_getElem.2 ⟨k, by rw [List.length_take]; omega, by rw [List.getElem_take]; rfl⟩)
              have hrest : ∀ b ∈ g.take k, b ≠ g.getD k 0 ∧ out.getD b (-1) = -1 := fun b hb => by
                obtain ⟨i, hi, ei⟩ := List.mem_iff_getElem.1 hb
                rw [List.length_take] at hi
                rw [List.getElem_take] at ei
                refine ⟨fun e1 => ?_, HL3.out b (List.mem_iff_getElem.2 ⟨i, by rw [List.length_take]; omega, by rw [List.getElem_take]; exact ei⟩)⟩
                rw [List.getD_eq_getElem?_getD, List.getElem?_eq_getElem hkg, ← ei] at e1
                exact List.pairwise_iff_getElem.1 HNd.out i k (by omega) hkg (by omega) e1
              generalize g.getD k 0 = a at hxs hN haL hlow hrest
              have HRest := Lib.hid hrest
              have HLow := Lib.hid hlow
              clear hrest hlow
              have HN := Lib.hid hN
              have HR3 := Lib.hid (HR1.out.below HB3.out (Nat.le_refl _))
              clear hN hI3
              have haI : (a : Int) < e.length := by omega
              have hkI : (k : Int) < e.length := by omega
              have hul2 : ((upI g).length : Int) = e.length := by omega
              have hklt : (k : Int) < (upI g).length := by omega
              go_wp2_with fail
              go_loopw [13] (fun s13 wx => ∃ (j : Nat) (o : List Int), s13 = .int .i64 j ∧ (j : Int) ≤ 1000 ∧ Hid (ColAt wx w1.heap.size e.length o) ∧ Hid (Below w1.heap.size w1 wx) ∧ Hid ((o = out ∧ o.getD a (-1) = -1 ∧ ∀ d, d < j → freeG e.length (adjG e) out a d = false) ∨ (0 ≤ o.getD a (-1) ∧ o = out.set a (pickG e.length (adjG e) c out a))) ∧ o.length = e.length) (fun s13 _ => (1001 - intOf s13).toNat)
              case atStart => exact ⟨0, out, rfl, by omega, HC3, HB3, .inl ⟨rfl, HLow.out, fun d hd => by omega⟩, hol⟩
              case round =>
                obtain ⟨j, o, rfl, hj, HCx, HBx, HCase, hox⟩ := hrel
                obtain ⟨w4, rfl⟩ : ∃ W : World, W = wr := ⟨_, rfl⟩
                have hsz4 := HCx.out.lt
                have hfz4 : w4.frozen? ⟨w1.heap.size, a, none⟩ = false := HCx.out.frozen a
                have hcl4 : w4.cell? ⟨w1.heap.size, a, none⟩ = some (.int .i64 (o.getD a (-1))) := HCx.out.cell haL
                by_cases hgo : (j : Int) < c ∧ o.getD a (-1) < 0
                · obtain ⟨e1, e2, e3⟩ : o = out ∧ o.getD a (-1) = -1 ∧ ∀ d, d < j → freeG e.length (adjG e) out a d = false := HCase.out.resolve_right fun h => by have := h.1; have := hgo.2; omega
                  clear HCase
                  subst e1
                  rw [e2] at hcl4
                  have hgo1 := hgo.1
                  have hE3 := Lib.hid e3
                  clear hgo e2 e3
                  have H1 := Lib.hid (free_any _ e w1.heap.size o a j w4 (HR1.out.below HBx.out (Nat.le_refl _)) HM.out HCx.out haL (by omega))
                  generalize ht : freeG e.length (adjG e) o a j = t at H1
                  have HT := Lib.hid ht
                  clear ht
                  cases t
                  · go_wp2_with fail
                    refine H1.out.mono ?_
                    rintro r w' ⟨rfl, rfl⟩
                    go_wp2_with fail
                    go_roundw
                    case rel =>
                      refine ⟨j + 1, o, by go_num, by omega, HCx, HBx, .inl ⟨rfl, HLow.out, fun d hd => ?_⟩, hox⟩
                      rcases Nat.lt_succ_iff_lt_or_eq.1 hd with h | rfl
                      · exact hE3.out d h
                      · exact HT.out
                    case measure => simp [intOf]; omega
                  · go_wp2_with fail
                    refine H1.out.mono ?_
                    rintro r w' ⟨rfl, rfl⟩
                    go_wp2_with fail
                    go_roundw
                    case rel =>
                      have hpk : pickG e.length (adjG e) c o a = (j : Int) := by rw [pickG_least _ _ _ _ _ j HT.out hE3.out, if_pos hgo1]
                      refine ⟨j + 1, o.set a j, by go_num, by omega, col_set HCx.out hox a haL _, bSet (Nat.le_refl _) HBx.out, .inr ⟨?_, by rw [hpk]⟩, by simpa using hox⟩
                      rw [getD_set _ _ _ _ (by omega), if_pos rfl]; omega
                    case measure => simp [intOf]; omega
                · have hoe : o = out.set a (pickG e.length (adjG e) c out a) := by
                    rcases HCase.out with ⟨e1, e2, e3⟩ | ⟨_, e1⟩
                    · have hjK : ¬ (j : Int) < c := fun h => hgo ⟨h, by omega⟩
                      have hpk : pickG e.length (adjG e) c out a = -1 := by
                        unfold pickG
                        rw [(find_range_none _ _).2 (fun d hd => e3 d (by omega))]
                      rw [hpk, e1, ← HLow.out]
                      refine List.ext_getElem (by simp) fun i h1 h2 => ?_
                      rw [List.getElem_set]
                      by_cases e4 : a = i
                      · subst e4
                        rw [if_pos rfl, List.getD_eq_getElem?_getD, List.getElem?_eq_getElem (by omega)]; rfl
                      · rw [if_neg e4]
                    · exact e1
                  have HOE := Lib.hid hoe
                  clear hoe
                  have hgo2 : ¬ (j : Int) < c ∨ ((j : Int) < c ∧ ¬ o.getD a (-1) < 0) := by
                    by_cases h : (j : Int) < c
                    · exact .inr ⟨h, fun h2 => hgo ⟨h, h2⟩⟩
                    · exact .inl h
                  clear hgo HCase
                  generalize o.getD a (-1) = x at hcl4 hgo2
                  rcases hgo2 with hg2 | ⟨hg2, hg3⟩
                  all_goals (
                    go_wp2_with fail
                    go_roundw
                    case rel =>
                      refine ⟨k, rfl, by omega, o, hox, HCx, fun b hb => ?_, ?_⟩
                      · obtain ⟨r1, r2⟩ := HRest.out b hb
                        rw [← List.getD_eq_getElem?_getD, HOE.out, getD_set _ _ _ _ (by omega), if_neg (fun e => r1 e.symm)]
                        exact r2
                      · show _ = _
                        rw [← HS3.out, HN.out, ← HOE.out]
                    case measure => simp [intOf]; omega)

set_option maxHeartbeats 1600000 in
theorem refcolor_neg (v : Value) (e : List (List Int)) (c : Int) (w : World) (h : RdR w v e) (hm : RowsMax e 100000) (hn : e.length ≤ 1000) (hc : c < 0) (hcb : c ≤ 1000) :
    Calls Tryd.prog 29 #[v, .int .i64 c] w fun r w' => ∃ V, r = .returned V ∧ w'.ownsRow w.heap.size 3 1 V e.length ((colorG e.length (adjG e) 0).map (Value.int .i64)) ∧ Below w.heap.size w w' := by
  obtain ⟨p, cap, rfl⟩ := h.shape
  have HR := Lib.hid h
  have HM := Lib.hid hm
  clear h hm
  have hmkB := run_make_row' (P := Tryd.prog) 98 4 (.bool false) 1 Tryd.underlying98 infoB rfl .i64 .i64 e.length (by omega) (by omega)
  have hmkI := run_make_row' (P := Tryd.prog) 38 3 (.int .i64 0) 8 Tryd.underlying38 infoI rfl .i64 .i64 e.length (by omega) (by omega)
  go_enter Tryd.func29, Tryd.ntmps29
  go_wp2_with fail
  go_loopw [7] (fun s7 wr => ∃ (g : List Nat) (q : Option Addr) (cp : Nat), s7 = .slice q (upI g).length cp ∧ Hid (wr.ownsRow (w.heap.size + 1) 3 1 (.slice q (upI g).length cp) (upI g).length ((upI g).map (Value.int .i64))) ∧ Hid (MarkAt wr w.heap.size e.length g) ∧ Hid (Below w.heap.size w wr) ∧ w.heap.size + 1 < wr.heap.size ∧ (upI g).length ≤ e.length ∧ Hid (removeG e.length (adjG e) 0 (e.length - g.length) g = removeG e.length (adjG e) 0 e.length []) ) (fun s7 _ => e.length - lenOf s7)
  case atStart =>
    refine ⟨[], _, _, rfl, ?_, ?_, ?_, ?_, Nat.zero_le _, rfl⟩
    · exact own_empty _ _ _ (by simp) (Nat.le_refl _)
    · exact (mark_made w e.length).alloc _
    · exact bAlloc (by simp) (bAlloc (Nat.le_refl _) (Below.refl _ _))
    · simp
  case round =>
    obtain ⟨g, q, cp, rfl, HO, HMk, HB, hz1, hk, HS⟩ := hrel
    obtain ⟨w1, rfl⟩ : ∃ W : World, W = wr := ⟨_, rfl⟩
    by_cases hlt : (upI g).length < e.length
    · have hltI : ((upI g).length : Int) < e.length := by omega
      have h1 := next_any _ e w.heap.size g 0 w1 (HR.out.below HB.out (Nat.le_refl _)) HM.out HMk.out (by omega)
      obtain ⟨a0, a1, a2⟩ := nextG_ok (n := e.length) (A := adjG e) (k := 0) (g := g) (by rw [← upI_len]; exact hlt)
      obtain ⟨a, ha⟩ := Int.eq_ofNat_of_zero_le a0
      rw [ha] at h1 a1
      have H1 := Lib.hid h1
      have HA := Lib.hid ha
      have HA2 := Lib.hid a2
      clear h1 ha a2 a0
      have haN : a < e.length := by omega
      have hfz : w1.frozen? ⟨w.heap.size, a, none⟩ = false := HMk.out.frozen a
      have hcl : w1.cell? ⟨w.heap.size, a, none⟩ = some (.bool (g.contains a)) := HMk.out.cell haN
      have hgl := HMk.out.lt
      go_wp2_with fail
      refine H1.out.mono ?_
      rintro r w' ⟨rfl, rfl⟩
      clear H1
      go_wp2_with (first | (at_builtin; refine wpList_append_one rfl _ _ rfl (w.heap.size + 1) _ (upI g) rfl ?own _ _ (a : Int) rfl ?cell ?len ?bs ?_))
      case own => exact (ownsRow_setCell_below HO.out (by show w.heap.size < _; omega) _).alloc _
      case cell => simp [go_sem]
      case len => omega
      case bs => simp [World.setCell]; omega
      intro p2 cp2 w2 hO2 hg2 _
      have hB2 : Below w.heap.size w w2 := Below.grown (bAlloc (by simp [World.setCell]; omega) (bSet (by exact Nat.le_refl _) HB.out)) hg2 (by simp [World.setCell]; omega) (fun k hk => by have := ownBase0 HO.out hk; omega)
      have hM2 : MarkAt w2 w.heap.size e.length (g ++ [a]) := by
        refine World.rowIs.of_block ((mark_next HMk.out a).alloc _) (hg2.block _ (by simp [World.setCell]; omega) (fun e => ?_))
        have := ownBase0 HO.out e.symm
        omega
      have hz2 := hg2.size
      go_wp2_with fail
      go_roundw
      case rel =>
        refine ⟨g ++ [a], p2, cp2, by simp [upI_snoc], by unfold Hid; simpa [upI_snoc] using hO2, hM2, hB2, ?_, by rw [upI_snoc]; simp; omega, ?_⟩
        · simp [World.setCell] at hz2; omega
        · show _ = _
          rw [← HS.out, removeG_more _ _ _ _ _ _ HA.out (by rw [← upI_len]; exact hlt)]
          simp
      case measure => simp [lenOf]; omega
    · have hgn : g.length = e.length := by rw [← upI_len]; omega
      have hg := HS.out
      rw [hgn] at hg
      have hge := removeG_done _ _ _ _ hg
      obtain ⟨-, hnd, hmem⟩ := removed (n := e.length) (A := adjG e) (k := 0)
      rw [← hge] at hnd hmem
      have HG := Lib.hid hge
      have HMem := Lib.hid hmem
      have HNd := Lib.hid hnd
      clear hg hge hnd hmem HS HMk
      have HR1 := Lib.hid (HR.out.below HB.out (Nat.le_refl _))
      have HI1 := Lib.hid (RdI.of_own HO.out)
      clear HO
      have hul := upI_len g
      go_wp2_with fail
      go_loopw [10] (fun s10 wr => ∃ k : Nat, s10 = .int .i64 k ∧ k ≤ e.length ∧ Hid (wr.rowIs w1.heap.size 3 e.length (fun i => .int .i64 (if i < k then -1 else 0))) ∧ Hid (Below w1.heap.size w1 wr)) (fun s10 _ => e.length - (intOf s10).toNat)
      case atStart => exact ⟨0, rfl, Nat.zero_le _, (World.rowIs_made w1 _ e.length _).congr (fun i _ => by rw [if_neg (by omega)]), bAlloc (Nat.le_refl _) (Below.refl _ _)⟩
      case round =>
        obtain ⟨k, rfl, hk2, HW, HB2⟩ := hrel
        obtain ⟨w2, rfl⟩ : ∃ W : World, W = wr := ⟨_, rfl⟩
        have hsz := HW.out.lt
        by_cases hlt2 : k < e.length
        · have hltI : (k : Int) < e.length := by omega
          have hfz : w2.frozen? ⟨w1.heap.size, k, none⟩ = false := HW.out.frozen k
          have hcl : w2.cell? ⟨w1.heap.size, k, none⟩ = some (.int .i64 0) := by rw [HW.out.cell hlt2, if_neg (by omega)]
          go_wp2_with fail
          go_roundw
          case rel =>
            refine ⟨k + 1, by go_num, by omega, (HW.out.set k _).congr fun i hi => ?_, bSet (Nat.le_refl _) HB2.out⟩
            by_cases e1 : i = k
            · subst e1; rw [if_pos rfl, if_pos (by omega)]
            · rw [if_neg e1]
              by_cases e2 : i < k
              · rw [if_pos e2, if_pos (by omega)]
              · rw [if_neg e2, if_neg (by omega)]
          case measure => simp [intOf]; omega
        · have hC : ColAt w2 w1.heap.size e.length (List.replicate e.length (-1)) := HW.out.congr fun i hi => by
            rw [if_pos (by omega), List.getD_eq_getElem?_getD, List.getElem?_replicate, if_pos hi]; rfl
          have HC := Lib.hid hC
          clear hC HW
          go_wp2_with fail
          go_loopw [11] (fun s11 wr => ∃ (k : Nat) (out : List Int), s11 = .int .i64 ((k : Int) - 1) ∧ k ≤ e.length ∧ out.length = e.length ∧ Hid (ColAt wr w1.heap.size e.length out) ∧ Hid (Below w1.heap.size w1 wr) ∧ Hid (∀ b ∈ g.take k, out.getD b (-1) = -1) ∧ Hid (selK e.length (adjG e) 0 g k out = colorG e.length (adjG e) 0)) (fun s11 _ => (intOf s11 + 1).toNat)
          case atStart =>
            refine ⟨e.length, _, by go_num, Nat.le_refl _, by simp, HC, HB2, fun b _ => by simp only [List.getD_eq_getElem?_getD, List.getElem?_replicate]; split <;> rfl, ?_⟩
            show _ = _
            have hs := selK_all e.length (adjG e) 0 g (List.replicate e.length (-1))
            rw [hgn] at hs
            rw [hs, HG.out]; rfl
          case round =>
            obtain ⟨k', out, rfl, hk3, hol, HC3, HB3, HL3, HS3⟩ := hrel
            obtain ⟨w3, rfl⟩ : ∃ W : World, W = wr := ⟨_, rfl⟩
            have hsz3 := HC3.out.lt
            by_cases hk0 : k' = 0
            · subst hk0
              go_wp2_with fail
              go_ret
              refine ⟨_, rfl, ?_, bThen HB3.out HB.out.size HB.out⟩
              rw [← HS3.out, selK_zero]
              exact own_of_row HC3.out hol (by omega) _ HB.out.size
            · obtain ⟨k, rfl⟩ : ∃ k, k' = k + 1 := ⟨k' - 1, by omega⟩
              have hke : (((k + 1 : Nat) : Int) - 1) = (k : Int) := by omega
              rw [hke]
              have hkg : k < g.length := by omega
              have hI3 := HI1.out.below HB3.out (Nat.le_refl _)
              obtain ⟨ms, os, cs, es, hms, hxs⟩ := rdI_at hI3 k (by rw [upI_len]; exact hkg)
              injection es with es1 es2 es3
              subst es1 es3
              rw [upI_get g k hkg] at hxs
              have hN := selK_next e.length (adjG e) 0 g k out hkg
              have haL : g.getD k 0 < e.length := (HMem.out _).1 (by rw [List.getD_eq_getElem?_getD, List.getElem?_eq_getElem hkg]; exact List.getElem_mem _)
              have hlow : out.getD (g.getD k 0) (-1) = -1 := HL3.out _ (by rw [List.getD_eq_getElem?_getD, List.getElem?_eq_getElem hkg]; exact List.mem_iff_getElem.2 ⟨k, by rw [List.length_take]; omega, by rw [List.getElem_take]; rfl⟩)
              have hrest : ∀ b ∈ g.take k, b ≠ g.getD k 0 ∧ out.getD b (-1) = -1 := fun b hb => by
                obtain ⟨i, hi, ei⟩ := List.mem_iff_getElem.1 hb
                rw [List.length_take] at hi
                rw [List.getElem_take] at ei
                refine ⟨fun e1 => ?_, HL3.out b (List.mem_iff_getElem.2 ⟨i, by rw [List.length_take]; omega, by rw [List.getElem_take]; exact ei⟩)⟩
                rw [List.getD_eq_getElem?_getD, List.getElem?_eq_getElem hkg, ← ei] at e1
                exact List.pairwise_iff_getElem.1 HNd.out i k (by omega) hkg (by omega) e1
              generalize g.getD k 0 = a at hxs hN haL hlow hrest
              have HRest := Lib.hid hrest
              have HLow := Lib.hid hlow
              clear hrest hlow
              have HN := Lib.hid hN
              have HR3 := Lib.hid (HR1.out.below HB3.out (Nat.le_refl _))
              clear hN hI3
              have haI : (a : Int) < e.length := by omega
              have hkI : (k : Int) < e.length := by omega
              have hul2 : ((upI g).length : Int) = e.length := by omega
              have hklt : (k : Int) < (upI g).length := by omega
              go_wp2_with fail
              go_loopw [13] (fun s13 wx => ∃ (j : Nat) (o : List Int), s13 = .int .i64 j ∧ (j : Int) ≤ 1000 ∧ Hid (ColAt wx w1.heap.size e.length o) ∧ Hid (Below w1.heap.size w1 wx) ∧ Hid ((o = out ∧ o.getD a (-1) = -1 ∧ ∀ d, d < j → freeG e.length (adjG e) out a d = false) ∨ (0 ≤ o.getD a (-1) ∧ o = out.set a (pickG e.length (adjG e) 0 out a))) ∧ o.length = e.length) (fun s13 _ => (1001 - intOf s13).toNat)
              case atStart => exact ⟨0, out, rfl, by omega, HC3, HB3, .inl ⟨rfl, HLow.out, fun d hd => by omega⟩, hol⟩
              case round =>
                obtain ⟨j, o, rfl, hj, HCx, HBx, HCase, hox⟩ := hrel
                obtain ⟨w4, rfl⟩ : ∃ W : World, W = wr := ⟨_, rfl⟩
                have hsz4 := HCx.out.lt
                have hfz4 : w4.frozen? ⟨w1.heap.size, a, none⟩ = false := HCx.out.frozen a
                have hcl4 : w4.cell? ⟨w1.heap.size, a, none⟩ = some (.int .i64 (o.getD a (-1))) := HCx.out.cell haL
                by_cases hgo : (j : Int) < 0 ∧ o.getD a (-1) < 0
                · exact absurd hgo.1 (by omega)
                · have hoe : o = out.set a (pickG e.length (adjG e) 0 out a) := by
                    rcases HCase.out with ⟨e1, e2, e3⟩ | ⟨_, e1⟩
                    · have hjK : ¬ (j : Int) < 0 := fun h => hgo ⟨h, by omega⟩
                      have hpk : pickG e.length (adjG e) 0 out a = -1 := by
                        unfold pickG
                        rw [(find_range_none _ _).2 (fun d hd => e3 d (by omega))]
                      rw [hpk, e1, ← HLow.out]
                      refine List.ext_getElem (by simp) fun i h1 h2 => ?_
                      rw [List.getElem_set]
                      by_cases e4 : a = i
                      · subst e4
                        rw [if_pos rfl, List.getD_eq_getElem?_getD, List.getElem?_eq_getElem (by omega)]; rfl
                      · rw [if_neg e4]
                    · exact e1
                  have HOE := Lib.hid hoe
                  clear hoe
                  have hgo2 : ¬ (j : Int) < 0 ∨ ((j : Int) < 0 ∧ ¬ o.getD a (-1) < 0) := by
                    by_cases h : (j : Int) < 0
                    · exact .inr ⟨h, fun h2 => hgo ⟨h, h2⟩⟩
                    · exact .inl h
                  clear hgo HCase
                  generalize o.getD a (-1) = x at hcl4 hgo2
                  rcases hgo2 with hg2 | ⟨hg2, hg3⟩
                  all_goals (
                    go_wp2_with fail
                    go_roundw
                    case rel =>
                      refine ⟨k, rfl, by omega, o, hox, HCx, fun b hb => ?_, ?_⟩
                      · obtain ⟨r1, r2⟩ := HRest.out b hb
                        rw [← List.getD_eq_getElem?_getD, HOE.out, getD_set _ _ _ _ (by omega), if_neg (fun e => r1 e.symm)]
                        exact r2
                      · show _ = _
                        rw [← HS3.out, HN.out, ← HOE.out]
                    case measure => simp [intOf]; omega)

end Go.Proofs.YtikfjehollnjeaaDoor
