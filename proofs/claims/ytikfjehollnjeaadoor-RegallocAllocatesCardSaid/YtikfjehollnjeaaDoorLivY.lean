/- The law RegallocAllocates. -/
import Derived.Test.YtikfjehollnjeaaDoorLivU
import Derived.Test.YtikfjehollnjeaaDoorLivW
import Derived.Test.YtikfjehollnjeaaDoorLivV
import Derived.Test.YtikfjehollnjeaaDoorRegJ
import Derived.Deep.AppendLies
import Derived.Deep.RegionHeld3
set_option linter.unusedVariables false
set_option linter.unusedSimpArgs false
namespace Go.Proofs.YtikfjehollnjeaaDoor
open Go.RowKit

/-- The allocation that the law lays itself: the box of color 0 at b, its places in a block behind it. -/
def WantAt (W2 : World) (n : Int) (P : Nat → Int × Int) (i : Nat) (w : World) : Prop :=
  ∃ p cap, AlBox w W2.heap.size (.slice p i cap) n ∧ w.ownsRow (W2.heap.size + 1) 42 2 (.slice p i cap) i (plList P i) ∧ Below W2.heap.size W2 w
theorem WantAt.start (W2 : World) (n : Int) (P : Nat → Int × Int) : WantAt W2 n P 0 (W2.alloc (.cells #[.slice none 0 0, .int .i64 n] 30)) :=
  ⟨none, 0, AlBox.made W2 _ n, World.ownsRow_nil _ _ _ _, bAlloc (Nat.le_refl _) (Below.refl _ _)⟩
theorem AlBox.put0 {w : World} {b : Nat} {v : Value} {s : Int} (h : AlBox w b v s) (u : Value) : AlBox (w.setCell ⟨b, 0, none⟩ u) b u s := by
  obtain ⟨h1, h2, h3, h4⟩ := h
  refine ⟨by simpa [World.setCell] using h1, fun k => ?_, ?_, ?_⟩
  · rw [World.frozen?_setCell]; exact h2 k
  · exact World.cell?_setCell_same _ _ _ h3
  · exact (World.cell?_setCell_other _ _ _ _ (by simp)).trans h4

theorem WantAt.next {W2 w w8 : World} {n : Int} {P : Nat → Int × Int} {i gg cap' : Nat} {p : Option Addr} {cap : Nat} {x y : Int} (hbx : AlBox w W2.heap.size (.slice p i cap) n) (hown : w.ownsRow (W2.heap.size + 1) 42 2 (.slice p i cap) i (plList P i)) (hbl : Below W2.heap.size W2 w) (hp : P i = (x, y))
    (h8 : w8.ownsRow (W2.heap.size + 1) 42 2 (.slice (some ⟨gg, 0, none⟩) (i + 1) cap') (i + 1) (plList P i ++ [.int .i64 x, .int .i64 y])) (hg : ((w.alloc (.cells #[.int .i64 x, .int .i64 y] 42)).drew).grownBy w8 (Value.slice p i cap).ownBlock) :
    WantAt W2 n P (i + 1) (w8.setCell ⟨W2.heap.size, 0, none⟩ (.slice (some ⟨gg, 0, none⟩) (i + 1) cap')) := by
  have hb1 : Below w.heap.size w ((w.alloc (.cells #[.int .i64 x, .int .i64 y] 42)).drew) := (bAlloc (Nat.le_refl _) (Below.refl _ _)).drew
  have hlow : ∀ k, (Value.slice p i cap).ownBlock = some k → W2.heap.size + 1 ≤ k := fun k hk => (hown.lt k hk).1
  have hsz := hb1.size
  have hb8 : w8.heap[W2.heap.size]? = w.heap[W2.heap.size]? := (hg.block _ (Nat.lt_of_lt_of_le hbx.1 hsz) (fun e => by have := hlow _ e.symm; omega)).trans (hb1.block _ hbx.1)
  have hgg : W2.heap.size + 1 ≤ gg := (h8.lt gg rfl).1
  refine ⟨some ⟨gg, 0, none⟩, cap', (hbx.of_block hb8).put0 _, ?_, bSet (Nat.le_refl _) ((hbl.trans (hb1.mono hbl.size)).grown hg (Nat.le_trans hbl.size hsz) (fun k hk => by have := hlow k hk; omega))⟩
  rw [plList_next, hp]
  have h9 : ∀ k, (Value.slice (some ⟨gg, 0, none⟩) (i + 1) cap').ownBlock = some k → (w8.setCell ⟨W2.heap.size, 0, none⟩ (.slice (some ⟨gg, 0, none⟩) (i + 1) cap')).heap[k]? = w8.heap[k]? := fun k hk => by
    cases hk
    exact Below.heap_setCell _ _ _ _ (fun e => by have e : gg = W2.heap.size := e; omega)
  exact own0_block h8 h9

theorem info28 : (Tryd.prog.info? 42).map (fun i => (i.zero, i.size, i.bytes)) = some (some (.agg #[.int .i64 0, .int .i64 0]), 2, 16) := by kernel_rfl

set_option maxHeartbeats 6400000 in
set_option maxRecDepth 100000 in
theorem allocates_any (nm : ByteArray) (R0 : Int) (ap : Option Addr) (an ac : Nat) (bv : Value) (bs : List IBlk) (w : World) (hB : BksAt w bv bs) (hl : bs.length ≤ 9223372036854775807) (ha : an ≤ 9223372036854775807) (hcl : ∀ k, k < bs.length → (bs.getD k default).code.length ≤ 9223372036854775807) (hT : TabZ w) :
    Calls Tryd.prog 3 #[.agg #[.string nm, .int .i64 R0, .slice ap an ac, bv]] w fun e w' => e = .returned (.bool true) ∧ Below w.heap.size w w' := by
  obtain ⟨bp, bcap, rfl⟩ := hB.shape
  have hb0 : Below w.heap.size w (w.alloc (.cells #[.string nm, .int .i64 R0, .slice ap an ac, .slice bp bs.length bcap] 25)) := bAlloc (Nat.le_refl _) (Below.refl _ _)
  have HBX := Lib.hid (BoxAt.made (fun _ => 0) w [.string nm, .int .i64 R0, .slice ap an ac, .slice bp bs.length bcap] 25)
  have HB0 := Lib.hid hb0
  have HB := Lib.hid hB
  have HT := Lib.hid hT
  have HCL := Lib.hid hcl
  clear hb0 hB hT hcl
  go_enter Tryd.func3, Tryd.ntmps3
  go_wp2_with fail
  refine (awake_any _).mono ?_
  rintro e w1 ⟨rfl, hb1⟩
  have hx1 := HBX.out.below hb1
  have d0 := hx1.at 0 rfl
  have d1 := hx1.at 1 rfl
  have d2 := hx1.at 2 rfl
  have d3 := hx1.at 3 rfl
  have l1 := hx1.lt
  have HB1 := Lib.hid (HB0.out.trans (hb1.mono HB0.out.size))
  have HX1 := Lib.hid hx1
  have HG := Lib.hid (great_any nm R0 ap an ac _ bs w1 (HB.out.below HB1.out (Nat.le_refl _)) hl ha HCL.out)
  clear hb1 hx1 HBX HB0
  go_wp2_with fail
  refine HG.out.mono ?_
  rintro e w2 ⟨G, rfl, hb2, hg⟩
  have HB2 := Lib.hid (HB1.out.trans (hb2.mono HB1.out.size))
  have hx2 := HX1.out.below hb2
  have HX2 := Lib.hid hx2
  clear HG
  cases G with
  | true =>
    clear d0 d1 d2 d3 l1 hb2 hx2 hg
    go_wp2_with fail
    go_ret
    exact ⟨rfl, HB2.out⟩
  | false =>
    obtain ⟨r1, r2, r3, r4⟩ := hg rfl
    obtain ⟨R, rfl⟩ := Int.eq_ofNat_of_zero_le r1
    clear d0 d1 d2 d3 l1 hb2 HX1 hg
    have d0 := hx2.at 0 rfl
    have d1 := hx2.at 1 rfl
    have d2 := hx2.at 2 rfl
    have d3 := hx2.at 3 rfl
    have l1 := hx2.lt
    have HC1 : Hid (∀ k, k < bs.length → (bs.getD k default).code.length ≤ 1000) := (show ∀ k, _ → _ from fun k hk => Nat.le_trans (r4 k hk) (by omega))
    have hR : R ≤ 30 := by omega
    clear hx2 r4
    by_cases hwf : wfF R bs = true
    · have HWF := Lib.hid hwf
      have HA := Lib.hid (alloc_any nm R ap an ac _ bs w2 (by omega) (HB.out.below HB2.out (Nat.le_refl _)) (by omega) HC1.out hwf (HT.out.below HB2.out HT.out.1))
      have hEL := edgesL_len R bs
      have hEM := edgesL_max hwf (by omega)
      clear hwf
      go_wp2_with fail
      refine HA.out.mono ?_
      rintro e w3 ⟨C, S, A, g, hC, hS, hAq, rfl, hPl, hb3⟩
      have HB3 := Lib.hid (HB2.out.trans (hb3.mono HB2.out.size))
      have hx3 := HX2.out.below hb3
      have HX3 := Lib.hid hx3
      clear d0 d1 d2 d3 l1 HA hb3
      have d0 := hx3.at 0 rfl
      have d1 := hx3.at 1 rfl
      have d2 := hx3.at 2 rfl
      have d3 := hx3.at 3 rfl
      have l1 := hx3.lt
      clear hx3
      generalize hn : slN A S.length = n
      have HN := Lib.hid hn
      clear hn
      have hb4 : Below w3.heap.size w3 (w3.alloc (.cells #[.slice (some ⟨g, 0, none⟩) R R, .int .i64 n] 30)) := bAlloc (Nat.le_refl _) (Below.refl _ _)
      have HX4 := Lib.hid (HX3.out.below hb4)
      have HAB := Lib.hid (AlBox.made w3 (.slice (some ⟨g, 0, none⟩) R R) n)
      have HB4 := Lib.hid (HB3.out.trans (hb4.mono HB3.out.size))
      have HI := Lib.hid (interf_any nm R _ ap an ac _ bs _ (by omega) rfl (HB.out.below HB4.out (Nat.le_refl _)) (by omega) HC1.out HWF.out (HT.out.below HB4.out HT.out.1))
      have HP4 := Lib.hid ((hPl.rd R).below hb4 (Nat.le_refl _))
      generalize edgesL R bs = E at HI hEL hEM hC hAq
      have HC := Lib.hid hC
      have HS := Lib.hid hS
      have HAQ := Lib.hid hAq
      have HEL := Lib.hid hEL
      have HEM := Lib.hid hEM
      clear hb4 hPl hC hS hAq hEL hEM
      go_wp2_with fail
      refine HI.out.mono ?_
      rintro e w5 ⟨ev, rfl, hE, hb5⟩
      have HB5 := Lib.hid (HB4.out.trans (hb5.mono HB4.out.size))
      have HAB5 := Lib.hid (HAB.out.of_block (hb5.block _ HAB.out.1))
      have HP5 := Lib.hid (HP4.out.below hb5 (Nat.le_refl _))
      have hpl := places_any ev E w5 hE HEM.out (by rw [HEL.out]; omega)
      rw [HEL.out] at hpl
      have HPL := Lib.hid hpl
      clear hb5 HI HX3 HX4 HAB HP4 hE hpl d0 d1 d2 d3 l1
      go_wp2_with fail
      refine HPL.out.mono ?_
      rintro e w6 ⟨C', S', A', g1, g2, hC', hS', hA', rfl, hf1, hf2, hb6⟩
      obtain rfl : C' = C := hC'.trans HC.out.symm
      obtain rfl : S' = S := hS'.trans HS.out.symm
      obtain rfl : A' = A := hA'.trans HAQ.out.symm
      rw [HN.out]
      have HB6 := Lib.hid (HB5.out.trans (hb6.mono HB5.out.size))
      have HAB6 := Lib.hid (HAB5.out.of_block (hb6.block _ HAB5.out.1))
      have HP6 := Lib.hid (HP5.out.below hb6 (Nat.le_refl _))
      have HF1 := Lib.hid hf1
      have HF2 := Lib.hid hf2
      have HW := Lib.hid (WantAt.start w6 n (placesG C' S' A' R))
      have hl1 := World.rowIs.lt hf1
      have hl2 := World.rowIs.lt hf2
      have hl3 := HAB6.out.1
      obtain ⟨i0, hi0, hz0, hz1, hz2⟩ := info_parts info28
      have HZ := Lib.hid (⟨hi0, hz0, hz1, hz2⟩ : _ ∧ _ ∧ _ ∧ _)
      have HPS : Hid (∀ a, a < R → placesG C' S' A' R a = (regF C' R a, sloS S' A' S'.length a)) := (show ∀ a, a < R → _ from fun a ha => by rw [hS']; exact places_same C' A' R a ha)
      clear hC' hS' hA' hb6 HPL HAB5 HP5 hf1 hf2 hi0 hz0 hz1 hz2
      generalize regF C' R = f1 at HF1 HPS
      generalize sloS S' A' S'.length = f2 at HF2 HPS
      generalize placesG C' S' A' R = P at HW HPS HP6
      go_wp2_with fail
      go_loopw [46] (fun s46 wx => ∃ i : Nat, s46 = .int .i64 i ∧ i ≤ R ∧ Hid (WantAt w6 n P i wx)) (fun s46 _ => R - (intOf s46).toNat)
      case atStart => exact ⟨0, rfl, Nat.zero_le _, HW⟩
      case round =>
        obtain ⟨i, rfl, hi, HW7⟩ := hrel
        obtain ⟨w7, rfl⟩ : ∃ W : World, W = wr := ⟨_, rfl⟩
        by_cases hlt : i < R
        · have hiI : (i : Int) < R := by omega
          have hi0I : (0 : Int) ≤ (i : Int) := Int.natCast_nonneg _
          obtain ⟨p, cap, hbx, hown, hbl⟩ := HW7.out
          obtain ⟨hi0, hz0, hz1, hz2⟩ := HZ.out
          have a0 := hbx.2.2.1
          have af := hbx.2.1 0
          have al := hbx.1
          have hc1 := (hbl.cell (p := ⟨g1, i, none⟩) hl1).trans (World.rowIs.cell HF1.out hlt)
          have hc2 := (hbl.cell (p := ⟨g2, i, none⟩) hl2).trans (World.rowIs.cell HF2.out hlt)
          have lg1 : g1 < w7.heap.size := Nat.lt_of_lt_of_le hl1 hbl.size
          have lg2 : g2 < w7.heap.size := Nat.lt_of_lt_of_le hl2 hbl.size
          have HPX := Lib.hid (HPS.out i hlt)
          generalize f1 i = x at hc1 HPX
          generalize f2 i = y at hc2 HPX
          have ane : (Value.slice p i cap).ownBlock ≠ some w6.heap.size := fun e => by have := (hown.lt _ e).1; omega
          have an1 : (Value.slice p i cap).ownBlock ≠ some g1 := fun e => by have := (hown.lt _ e).1; omega
          have an2 : (Value.slice p i cap).ownBlock ≠ some g2 := fun e => by have := (hown.lt _ e).1; omega
          have HOWN := Lib.hid hown
          have HBX := Lib.hid hbx
          have HBL := Lib.hid hbl
          have hbs := hbl.size
          have hbd : Below w7.heap.size w7 ((w7.alloc (.cells #[.int .i64 x, .int .i64 y] 42)).drew) := (bAlloc (Nat.le_refl _) (Below.refl _ _)).drew
          have faz : ((w7.alloc (.cells #[.int .i64 x, .int .i64 y] 42)).drew).frozen? ⟨w6.heap.size, 0, none⟩ = false := (hbd.frozen (p := ⟨w6.heap.size, 0, none⟩) al).trans af
          have faz0 : ((w7.alloc (.cells #[.int .i64 x, .int .i64 y] 42)).drew).cell? ⟨w6.heap.size, 0, none⟩ = some (.slice p i cap) := (hbd.cell (p := ⟨w6.heap.size, 0, none⟩) al).trans a0
          have faz1 : ((w7.alloc (.cells #[.int .i64 x, .int .i64 y] 42)).drew).cell? ⟨g1, i, none⟩ = some (.int .i64 x) := (hbd.cell (p := ⟨g1, i, none⟩) lg1).trans hc1
          have faz2 : ((w7.alloc (.cells #[.int .i64 x, .int .i64 y] 42)).drew).cell? ⟨g2, i, none⟩ = some (.int .i64 y) := (hbd.cell (p := ⟨g2, i, none⟩) lg2).trans hc2
          clear hown hbx hbl hbd
          go_wp2_with fail
          -- BEGIN drawn
          refine wp_region_held_drew (S := fun w' => w'.cell? ⟨g1, i, none⟩ = some (.int .i64 x) ∧ w'.cell? ⟨g2, i, none⟩ = some (.int .i64 y)) (by kernel_rfl) ⟨hc1, hc2⟩ (fun hHeld => ?_)
          refine wpAnyH_take (i := 0) (oi := _) (v := ?_) rfl (by kernel_rfl) (by kernel_rfl) (by kernel_rfl) (fun _ _ _ h => h) (Or.inl ⟨by rfl, ?_⟩) hHeld ?_
          rotate_left
          · intro w hSw; (try dsimp only at hSw); (try obtain ⟨hSw1, hSw2⟩ := hSw); go_simp; try (with_reducible rfl)
          try simp only [Act.put, List.setIfInBounds_toArray, List.set_cons_zero, List.set_cons_succ]
          refine wpAnyH_take (i := 2) (oi := _) (v := ?_) rfl (by kernel_rfl) (by kernel_rfl) (by kernel_rfl) (fun _ _ _ h => h) (Or.inl ⟨by rfl, ?_⟩) hHeld ?_
          rotate_left
          · intro w hSw; (try dsimp only at hSw); (try obtain ⟨hSw1, hSw2⟩ := hSw); go_simp; try (with_reducible rfl)
          try simp only [Act.put, List.setIfInBounds_toArray, List.set_cons_zero, List.set_cons_succ]
          refine wpAnyH_take (i := 3) (oi := _) (v := ?_) rfl (by kernel_rfl) (by kernel_rfl) (by kernel_rfl) (fun _ _ _ h => h) (Or.inl ⟨by rfl, ?_⟩) hHeld ?_
          rotate_left
          · intro w hSw; (try dsimp only at hSw); (try obtain ⟨hSw1, hSw2⟩ := hSw); go_simp; try (with_reducible rfl)
          try simp only [Act.put, List.setIfInBounds_toArray, List.set_cons_zero, List.set_cons_succ]
          refine wpAnyH_take (i := 4) (oi := _) (v := ?_) rfl (by kernel_rfl) (by kernel_rfl) (by kernel_rfl) (fun _ _ _ h => h) (Or.inl ⟨by rfl, ?_⟩) hHeld ?_
          rotate_left
          · intro w hSw; (try dsimp only at hSw); (try obtain ⟨hSw1, hSw2⟩ := hSw); go_simp; try (with_reducible rfl)
          try simp only [Act.put, List.setIfInBounds_toArray, List.set_cons_zero, List.set_cons_succ]
          refine wpAnyH_take (i := 5) (oi := _) (v := ?_) rfl (by kernel_rfl) (by kernel_rfl) (by kernel_rfl) (fun _ _ _ h => h) (Or.inl ⟨by rfl, ?_⟩) hHeld ?_
          rotate_left
          · intro w hSw; (try dsimp only at hSw); (try obtain ⟨hSw1, hSw2⟩ := hSw); go_simp; try (with_reducible rfl)
          try simp only [Act.put, List.setIfInBounds_toArray, List.set_cons_zero, List.set_cons_succ]
          refine wpAnyH_take (i := 6) (oi := _) (v := ?_) rfl (by kernel_rfl) (by kernel_rfl) (by kernel_rfl) (fun _ _ _ h => h) (Or.inl ⟨by rfl, ?_⟩) hHeld ?_
          rotate_left
          · intro w hSw; (try dsimp only at hSw); (try obtain ⟨hSw1, hSw2⟩ := hSw); go_simp; try (with_reducible rfl)
          try simp only [Act.put, List.setIfInBounds_toArray, List.set_cons_zero, List.set_cons_succ]
          refine wpAnyH_take (i := 7) (oi := _) (v := ?_) rfl (by kernel_rfl) (by kernel_rfl) (by kernel_rfl) (fun _ _ _ h => h) (Or.inl ⟨by rfl, ?_⟩) hHeld ?_
          rotate_left
          · intro w hSw; (try dsimp only at hSw); (try obtain ⟨hSw1, hSw2⟩ := hSw); go_simp; try (with_reducible rfl)
          try simp only [Act.put, List.setIfInBounds_toArray, List.set_cons_zero, List.set_cons_succ]
          refine wpAnyH_take (i := 8) (oi := _) (v := ?_) rfl (by kernel_rfl) (by kernel_rfl) (by kernel_rfl) (fun _ _ _ h => h) (Or.inl ⟨by rfl, ?_⟩) hHeld ?_
          rotate_left
          · intro w hSw; (try dsimp only at hSw); (try obtain ⟨hSw1, hSw2⟩ := hSw); go_simp; try (with_reducible rfl)
          try simp only [Act.put, List.setIfInBounds_toArray, List.set_cons_zero, List.set_cons_succ]
          refine wpAnyH_take (i := 9) (oi := _) (v := ?_) rfl (by kernel_rfl) (by kernel_rfl) (by kernel_rfl) (fun _ _ _ h => h) (Or.inl ⟨by rfl, ?_⟩) hHeld ?_
          rotate_left
          · intro w hSw; (try dsimp only at hSw); (try obtain ⟨hSw1, hSw2⟩ := hSw); go_simp; try (with_reducible rfl)
          try simp only [Act.put, List.setIfInBounds_toArray, List.set_cons_zero, List.set_cons_succ]
          refine wpAnyH_take (i := 10) (oi := _) (v := ?_) rfl (by kernel_rfl) (by kernel_rfl) (by kernel_rfl) (fun _ _ _ h => h) (Or.inl ⟨by rfl, ?_⟩) hHeld ?_
          rotate_left
          · intro w hSw; (try dsimp only at hSw); (try obtain ⟨hSw1, hSw2⟩ := hSw); go_simp; try (with_reducible rfl)
          try simp only [Act.put, List.setIfInBounds_toArray, List.set_cons_zero, List.set_cons_succ]
          refine wpAnyH_ready (rs := [1, 11]) (by kernel_rfl) (by simp) ?_
          refine AllReadyH.cons rfl (fun K hK => ?_) (AllReadyH.cons rfl (fun K hK => ?_) AllReadyH.nil)
          · skip
            go_simp
            first | (refine hK.out _ _ hHeld (fun hHeld => ?_)) | (go_wp2_with fail; refine hK.out _ _ hHeld (fun hHeld => ?_))
            clear hK K
            try simp only [Act.put, List.setIfInBounds_toArray, List.set_cons_zero, List.set_cons_succ]
            refine wpAnyH_ready (rs := [11]) (by kernel_rfl) (by simp) ?_
            refine AllReadyH.cons rfl (fun K hK => ?_) AllReadyH.nil
            go_simp
            first | (refine hK.out _ _ ⟨faz1, faz2⟩ (fun hHeld => ?_)) | (go_wp2_with fail; refine hK.out _ _ ⟨faz1, faz2⟩ (fun hHeld => ?_))
            clear hK K
            try simp only [Act.put, List.setIfInBounds_toArray, List.set_cons_zero, List.set_cons_succ]
            refine wpAnyH_ready (rs := [12]) (by kernel_rfl) (by simp) ?_
            refine AllReadyH.cons rfl (fun K hK => ?_) AllReadyH.nil
            refine step_append_lies _ (by rfl) _ _ _ (by rfl) (w6.heap.size + 1) 42 i0 _ 2 16 Tryd.underlying28 hi0 hz0 hz1 hz2 rfl (by omega) (.slice p i cap) i _ (by rfl) ((HOWN.out.alloc _).drew) ⟨w7.heap.size, 0, none⟩ 1 1 [.int .i64 x, .int .i64 y] (by rfl) (by rfl) (World.news_of_block (cs := #[.int .i64 x, .int .i64 y]) (t := 42) (fr := (0, 0)) (heap_alloc_new w7 _)) (by simp [Value.oneCell']) (by omega) (by unfold maxLen; omega) (by omega) (by simp; omega) (w7.heap.size + 1) (by simp) ?_
            intro gg cap' w8 hown8 hgrow hat hlt8
            have fx8 := (hgrow.frozen_far ⟨w6.heap.size, 0, none⟩ (by simp; omega) (Ne.symm ane)).trans faz
            have cx8 := (hgrow.cell_far ⟨w6.heap.size, 0, none⟩ (by simp; omega) (Ne.symm ane)).trans faz0
            have lx8 : w6.heap.size < w8.heap.size := by have := hgrow.size; simp at this; omega
            refine hK.out _ _ ⟨(hgrow.cell_far _ (by simp; omega) (Ne.symm an1)).trans faz1, (hgrow.cell_far _ (by simp; omega) (Ne.symm an2)).trans faz2⟩ (fun hHeld => ?_)
            clear hK K
            try simp only [Act.put, List.setIfInBounds_toArray, List.set_cons_zero, List.set_cons_succ]
            refine wpAnyH_take (i := 13) (oi := _) (v := ?_) rfl (by kernel_rfl) (by kernel_rfl) (by kernel_rfl) (fun _ _ _ h => h) (Or.inl ⟨by rfl, ?_⟩) hHeld ?_
            rotate_left
            · intro w hSw; (try dsimp only at hSw); (try obtain ⟨hSw1, hSw2⟩ := hSw); go_simp; try (with_reducible rfl)
            try simp only [Act.put, List.setIfInBounds_toArray, List.set_cons_zero, List.set_cons_succ]
            refine wpAnyH_ready (rs := [14]) (by kernel_rfl) (by simp) ?_
            refine AllReadyH.cons rfl (fun K hK => ?_) AllReadyH.nil
            go_simp
            first | (refine hK.out _ _ ?_ (fun hHeld => ?_)) | (go_wp2_with fail; refine hK.out _ _ ?_ (fun hHeld => ?_))
            · exact ⟨(World.cell?_setCell_other _ _ _ _ (by intro e; injection e with e _; omega)).trans hHeld.1, (World.cell?_setCell_other _ _ _ _ (by intro e; injection e with e _; omega)).trans hHeld.2⟩
            clear hK K
            try simp only [Act.put, List.setIfInBounds_toArray, List.set_cons_zero, List.set_cons_succ]
            refine wpAnyH_done (by kernel_rfl) ?_ _
            have hHQ := WantAt.next HBX.out HOWN.out HBL.out HPX.out hown8 hgrow
            have HW9 := Lib.hid hHQ
            clear hHeld hHQ hown8 hgrow hat fx8 cx8
            go_wp2_with fail
            go_roundw
            case rel => exact ⟨i + 1, by go_num, by omega, HW9⟩
            case measure => simp [intOf]; omega
          · skip
            go_simp
            first | (refine hK.out _ _ ⟨faz1, faz2⟩ (fun hHeld => ?_)) | (go_wp2_with fail; refine hK.out _ _ ⟨faz1, faz2⟩ (fun hHeld => ?_))
            clear hK K
            try simp only [Act.put, List.setIfInBounds_toArray, List.set_cons_zero, List.set_cons_succ]
            refine wpAnyH_ready (rs := [1]) (by kernel_rfl) (by simp) ?_
            refine AllReadyH.cons rfl (fun K hK => ?_) AllReadyH.nil
            go_simp
            first | (refine hK.out _ _ hHeld (fun hHeld => ?_)) | (go_wp2_with fail; refine hK.out _ _ hHeld (fun hHeld => ?_))
            clear hK K
            try simp only [Act.put, List.setIfInBounds_toArray, List.set_cons_zero, List.set_cons_succ]
            refine wpAnyH_ready (rs := [12]) (by kernel_rfl) (by simp) ?_
            refine AllReadyH.cons rfl (fun K hK => ?_) AllReadyH.nil
            refine step_append_lies _ (by rfl) _ _ _ (by rfl) (w6.heap.size + 1) 42 i0 _ 2 16 Tryd.underlying28 hi0 hz0 hz1 hz2 rfl (by omega) (.slice p i cap) i _ (by rfl) ((HOWN.out.alloc _).drew) ⟨w7.heap.size, 0, none⟩ 1 1 [.int .i64 x, .int .i64 y] (by rfl) (by rfl) (World.news_of_block (cs := #[.int .i64 x, .int .i64 y]) (t := 42) (fr := (0, 0)) (heap_alloc_new w7 _)) (by simp [Value.oneCell']) (by omega) (by unfold maxLen; omega) (by omega) (by simp; omega) (w7.heap.size + 1) (by simp) ?_
            intro gg cap' w8 hown8 hgrow hat hlt8
            have fx8 := (hgrow.frozen_far ⟨w6.heap.size, 0, none⟩ (by simp; omega) (Ne.symm ane)).trans faz
            have cx8 := (hgrow.cell_far ⟨w6.heap.size, 0, none⟩ (by simp; omega) (Ne.symm ane)).trans faz0
            have lx8 : w6.heap.size < w8.heap.size := by have := hgrow.size; simp at this; omega
            refine hK.out _ _ ⟨(hgrow.cell_far _ (by simp; omega) (Ne.symm an1)).trans faz1, (hgrow.cell_far _ (by simp; omega) (Ne.symm an2)).trans faz2⟩ (fun hHeld => ?_)
            clear hK K
            try simp only [Act.put, List.setIfInBounds_toArray, List.set_cons_zero, List.set_cons_succ]
            refine wpAnyH_take (i := 13) (oi := _) (v := ?_) rfl (by kernel_rfl) (by kernel_rfl) (by kernel_rfl) (fun _ _ _ h => h) (Or.inl ⟨by rfl, ?_⟩) hHeld ?_
            rotate_left
            · intro w hSw; (try dsimp only at hSw); (try obtain ⟨hSw1, hSw2⟩ := hSw); go_simp; try (with_reducible rfl)
            try simp only [Act.put, List.setIfInBounds_toArray, List.set_cons_zero, List.set_cons_succ]
            refine wpAnyH_ready (rs := [14]) (by kernel_rfl) (by simp) ?_
            refine AllReadyH.cons rfl (fun K hK => ?_) AllReadyH.nil
            go_simp
            first | (refine hK.out _ _ ?_ (fun hHeld => ?_)) | (go_wp2_with fail; refine hK.out _ _ ?_ (fun hHeld => ?_))
            · exact ⟨(World.cell?_setCell_other _ _ _ _ (by intro e; injection e with e _; omega)).trans hHeld.1, (World.cell?_setCell_other _ _ _ _ (by intro e; injection e with e _; omega)).trans hHeld.2⟩
            clear hK K
            try simp only [Act.put, List.setIfInBounds_toArray, List.set_cons_zero, List.set_cons_succ]
            refine wpAnyH_done (by kernel_rfl) ?_ _
            have hHQ := WantAt.next HBX.out HOWN.out HBL.out HPX.out hown8 hgrow
            have HW9 := Lib.hid hHQ
            clear hHeld hHQ hown8 hgrow hat fx8 cx8
            go_wp2_with fail
            go_roundw
            case rel => exact ⟨i + 1, by go_num, by omega, HW9⟩
            case measure => simp [intOf]; omega
          -- END drawn
        · have hiR : i = R := by omega
          subst hiR
          obtain ⟨p, cap, hbx, hown, hbl⟩ := HW7.out
          have a0 := hbx.2.2.1
          have a1 := hbx.2.2.2
          have al := hbx.1
          have hab := HAB6.out.of_block (hbl.block _ HAB6.out.1)
          have b0 := hab.2.2.1
          have b1 := hab.2.2.2
          have bl := hab.1
          have HS7 := Lib.hid (same_eq (.slice (some ⟨g, 0, none⟩) i i) (.slice p i cap) i n P w7 (HP6.out.below hbl (Nat.le_refl _)) (PlRd.of_own hown) (by omega))
          have HB7 := Lib.hid (HB6.out.trans (hbl.mono HB6.out.size))
          clear hbx hab hbl hown
          go_wp2_with fail
          refine HS7.out.mono ?_
          rintro e w8 ⟨rfl, hb8⟩
          have HB8 := Lib.hid (HB7.out.trans (hb8.mono HB7.out.size))
          go_wp2_with fail
          go_ret
          exact ⟨rfl, HB8.out⟩
    · have hwf : wfF R bs = false := by simpa using hwf
      have HWF := Lib.hid hwf
      have HA := Lib.hid (alloc_no nm R ap an ac _ bs w2 (HB.out.below HB2.out (Nat.le_refl _)) (by omega) HC1.out hwf)
      clear hwf
      go_wp2_with fail
      refine HA.out.mono ?_
      rintro e w3 ⟨rfl, hb3⟩
      have HB3 := Lib.hid (HB2.out.trans (hb3.mono HB2.out.size))
      have hx3 := HX2.out.below hb3
      have HX3 := Lib.hid hx3
      clear d0 d1 d2 d3 l1 HA hb3
      have d0 := hx3.at 0 rfl
      have d1 := hx3.at 1 rfl
      have d2 := hx3.at 2 rfl
      have d3 := hx3.at 3 rfl
      have l1 := hx3.lt
      clear hx3
      have hb4 : Below w3.heap.size w3 (w3.alloc (.cells #[.slice none 0 0, .int .i64 0] 30)) := bAlloc (Nat.le_refl _) (Below.refl _ _)
      have HX4 := Lib.hid (HX3.out.below hb4)
      have HAB := Lib.hid (AlBox.made w3 (.slice none 0 0) 0)
      have HB4 := Lib.hid (HB3.out.trans (hb4.mono HB3.out.size))
      have HI := Lib.hid (interf_no nm R ap an ac _ bs _ (HB.out.below HB4.out (Nat.le_refl _)) (by omega) HC1.out HWF.out)
      clear hb4
      go_wp2_with fail
      refine HI.out.mono ?_
      rintro e w5 ⟨rfl, hb5⟩
      have HB5 := Lib.hid (HB4.out.trans (hb5.mono HB4.out.size))
      have hab := HAB.out.of_block (hb5.block _ HAB.out.1)
      have a0 := hab.2.2.1
      have a1 := hab.2.2.2
      have al := hab.1
      clear hab hb5 HI HX3 HX4 HAB d0 d1 d2 d3 l1
      have HS := Lib.hid (same_eq (.slice none 0 0) (.slice none 0 0) 0 0 (fun _ => (0, 0)) w5 (PlRd.nil _ _) (PlRd.nil _ _) (by omega))
      go_wp2_with fail
      refine HS.out.mono ?_
      rintro e w6 ⟨rfl, hb6⟩
      have HB6 := Lib.hid (HB5.out.trans (hb6.mono HB5.out.size))
      go_wp2_with fail
      go_ret
      exact ⟨rfl, HB6.out⟩
end Go.Proofs.YtikfjehollnjeaaDoor
