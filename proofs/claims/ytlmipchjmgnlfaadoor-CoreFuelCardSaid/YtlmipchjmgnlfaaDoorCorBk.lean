/- The law CoreFuel: a head that ends for want of fuel. -/
import Derived.Test.YtlmipchjmgnlfaaDoorCorBf
import Derived.Deep.RegionHeld3
set_option linter.unusedVariables false
set_option linter.unusedSimpArgs false
namespace Go.Proofs.YtlmipchjmgnlfaaDoor
open Go.RowKit

set_option maxHeartbeats 6400000 in
set_option maxRecDepth 100000 in
theorem fuelLaw_rest (s : St) (dp cp ep : Option Addr) (dcap ccap ecap : Nat) (im : Im) (t : Int) (mp : Option Addr) (mcap : Nat) (sh : List Int) (fuel first : Nat) (w : World) (hT : Tab w) (hO : OTab w) (hr : s.r.length = 16) (him : im.code.length ≤ 200 → ImAt w (.agg #[.slice cp im.code.length ccap, .slice ep im.ents.length ecap, .int .i64 im.sh, .int .i64 im.lk]) im) (hrd : RdAt w (.slice dp s.d.length dcap) s.d) (hn0 : ∀ c, Value.slice dp s.d.length dcap = .slice none 0 c → c = 0)
    (hrm : RdAt w (.slice mp sh.length mcap) sh) (hm0 : ∀ c, Value.slice mp sh.length mcap = .slice none 0 c → c = 0) (R32 : Hid (∀ j, W32 (s.r.getD j 0))) (D32 : Hid (∀ j, W32 (s.d.getD j 0))) (M32 : Hid (∀ j, W32 (sh.getD j 0))) (hf0 : fuel ≤ 255) (hf1 : first ≤ 255) (hG : 1 < w.heap.size ∧ 0 < w.heap.size) (c2 c3 : Cf Unit) (n2 n3 : Nat) (e3 : Int) (hr1 : Hid (runQ im t (fun _ i => wrap32 (wrap32 i - 3)) (fun _ _ => ()) fuel ⟨s, sh, (), []⟩ = (⟨c3.s, c3.mem, (), c2.out ++ c3.out⟩, n2 + n3, e3))) (hr2 : Hid (runQ im t (fun _ i => wrap32 (wrap32 i - 3)) (fun _ _ => ()) (min first fuel) ⟨s, sh, (), []⟩ = (c2, n2, 13))) (hr3 : Hid (runQ im t (fun _ i => wrap32 (wrap32 i - 3)) (fun _ _ => ()) (fuel - min first fuel) c2.fresh = (c3, n3, e3))) (HDL : Hid (c3.s.d.length = s.d.length)) (HML : Hid (c3.mem.length = sh.length)) (hol : c2.out.length + c3.out.length ≤ 255) (hnl : n2 + n3 ≤ 255) :
    Calls Tryd.prog 6 #[.agg #[.slice cp im.code.length ccap, .slice ep im.ents.length ecap, .int .i64 im.sh, .int .i64 im.lk], .int .i64 t, stV s (.slice dp s.d.length dcap), .slice mp sh.length mcap, .int .u8 fuel, .int .u8 first] w fun e w' => e = .returned (.bool true) ∧ Below w.heap.size w w' := by
  have HI : Hid ((Tryd.prog.info? 29).map (·.size) = some (stCells s (.slice dp s.d.length dcap)).toArray.size) := (show _ = _ by rw [List.size_toArray, stCells_len hr]; exact infoState)
  have SM := Lib.hid (fun (w : World) => smallS s cp ep dp mp im.code.length ccap im.ents.length ecap s.d.length dcap sh.length mcap im.sh im.lk w hr)
  go_enter Tryd.func6, Tryd.ntmps6
  go_wp2_with fail
  refine (awake_any _ (hT.of_below (bAlloc (by simp) (bAlloc (Nat.le_refl _) (Below.refl _ _)))) (hO.of_below (bAlloc (by simp) (bAlloc (Nat.le_refl _) (Below.refl _ _))))).mono ?_
  rintro e w1 ⟨rfl, hb1⟩
  have hB1 : Below w.heap.size w w1 := below_then (bAlloc (by simp) (bAlloc (Nat.le_refl _) (Below.refl _ _))) hb1 (by simp; omega)
  have hI1 : RowAt w1 w.heap.size [.slice cp im.code.length ccap, .slice ep im.ents.length ecap, .int .i64 im.sh, .int .i64 im.lk] := RowAt.below (B := w.heap.size + 1 + 1) ⟨_, (Below.heap_alloc _ _ _ (by simp)).trans (heap_alloc_new _ _)⟩ (hb1.mono (by simp)) (by omega)
  have hS1 : RowAt w1 (w.heap.size + 1) (stCells s (.slice dp s.d.length dcap)) := RowAt.below (B := w.heap.size + 1 + 1) ⟨_, heap_at1 _ _ _⟩ (hb1.mono (by simp)) (by omega)
  clear hb1
  have i0 := hI1.cell 0
  have i1 := hI1.cell 1
  have i2 := hI1.cell 2
  have i3 := hI1.cell 3
  simp only [List.getElem?_cons_zero, List.getElem?_cons_succ] at i0 i1 i2 i3
  obtain ⟨tS, hS1'⟩ := hS1
  have HS := Lib.hid hS1'
  clear hS1'
  cases hsm : smallB im.code.length im.ents.length s.d.length sh.length
  · rw [hsm, if_neg (by simp)] at SM
    go_wp2_with (first | (refine wpList_load_row rfl 29 (.tmp 8) rfl (w.heap.size + 1) rfl tS _ (0, 0) _ HS.out Tryd.underlying29 rfl HI.out ?_))
    refine (SM.out _).mono ?_
    rintro e w2 ⟨rfl, hb2⟩
    go_wp2_with fail
    go_ret
    exact ⟨rfl, below_then hB1 hb2 hB1.size⟩
  · rw [hsm, if_pos (by simp)] at SM
    have hsz : im.code.length ≤ 200 ∧ im.ents.length ≤ 8 ∧ s.d.length ≤ 100 ∧ sh.length ≤ 100 := by simpa [smallB] using hsm
    clear hsm
    go_wp2_with (first | (refine wpList_load_row rfl 29 (.tmp 8) rfl (w.heap.size + 1) rfl tS _ (0, 0) _ HS.out Tryd.underlying29 rfl HI.out ?_))
    refine (SM.out _).mono ?_
    rintro e w2 ⟨rfl, hb2⟩
    have hB2 : Below w.heap.size w w2 := below_then hB1 hb2 hB1.size
    have hI2 := hI1.below hb2 hI1.lt
    have hS2 : RowAt w2 (w.heap.size + 1) (stCells s (.slice dp s.d.length dcap)) := RowAt.below ⟨tS, HS.out⟩ hb2 (lt_of_block HS.out)
    have him2 := (him hsz.1).below hB2 (Nat.le_refl _)
    clear hb2 i0 i1 i2 i3 hI1 HS SM
    have hlS := hS2.lt
    have hlI := hI2.lt
    obtain ⟨i0, hi0, hz0, hz1, hz2⟩ := info_parts Tryd.info32
    obtain ⟨k0, hk0, hkz0, hkz1, hkz2⟩ := info_parts Tryd.infoOut
    have hxi := Tryd.underlying27
    have hxo := Tryd.underlying50
    have HI20 : (Tryd.prog.info? 29).map (·.size) = some (stCells s (.slice dp s.d.length dcap)).length := by rw [stCells_len hr]; exact infoState
    have hrd2 := hrd.below hB2 (Nat.le_refl _)
    have hrm2 := hrm.below hB2 (Nat.le_refl _)
    have hz2' := hB2.size
    go_wp2_with fail
    refine two_meet w2 s (.slice dp s.d.length dcap) 42 44 43 45 14 15 ?_ ?_
    · skip
      refine wp_region_held_drew (S := fun W => Below w2.heap.size w2 W) (by kernel_rfl) (Below.refl _ _).drew (fun hHeld => ?_)
      generalize w2.drew = v0 at hHeld ⊢
      have hz0 := hHeld.size
      refine wpAnyH_take (i := 0) (oi := { dst := some 42, op := Go.Op.load 29 (Go.Operand.tmp 8), type := 29, pos := "law.go:256", after := #[], guard := none }) rfl (by kernel_rfl) (by kernel_rfl) (by kernel_rfl) (fun _ _ _ h => nomatch h.1) (yieldsIf_load_mid rfl 29 (.tmp 8) rfl (w.heap.size + 1) 0 rfl (stCells s (.slice dp s.d.length dcap)) _ (fun w hb => (hS2.below hb hlS).range) Tryd.underlying29 rfl HI20) hHeld ?_
      try simp only [Act.put, List.setIfInBounds_toArray, List.set_cons_zero, List.set_cons_succ]
      refine wpAnyH_take (i := 2) (oi := { dst := some 44, op := Go.Op.load 29 (Go.Operand.tmp 8), type := 29, pos := "law.go:256", after := #[], guard := none }) rfl (by kernel_rfl) (by kernel_rfl) (by kernel_rfl) (fun _ _ _ h => nomatch h.1) (yieldsIf_load_mid rfl 29 (.tmp 8) rfl (w.heap.size + 1) 0 rfl (stCells s (.slice dp s.d.length dcap)) _ (fun w hb => (hS2.below hb hlS).range) Tryd.underlying29 rfl HI20) hHeld ?_
      try simp only [Act.put, List.setIfInBounds_toArray, List.set_cons_zero, List.set_cons_succ]
      refine wpAnyH_ready (rs := [1, 4, 5]) (by kernel_rfl) (by simp) ?_
      refine AllReadyH.cons (o := { dst := some 43, op := Go.Op.call { callee := Go.Callee.value (Go.Operand.func 12), args := #[Go.Operand.tmp 42], argTypes := #[29] }, type := 29, pos := "law.go:256", after := #[{ on := 0, ground := Go.Ground.data }], guard := none }) rfl (fun K hK => ?_) (AllReadyH.cons (o := { dst := some 14, op := Go.Op.alloc 29, type := 0, pos := "law.go:256", after := #[], guard := none }) rfl (fun K hK => ?_) (AllReadyH.cons (o := { dst := some 15, op := Go.Op.alloc 29, type := 0, pos := "law.go:256", after := #[], guard := none }) rfl (fun K hK => ?_) AllReadyH.nil))
      · skip
        go_simp
        refine (copyS s dp s.d.length dcap _ hr rfl (hrd2.below hHeld (Nat.le_refl _)) hn0 (by omega)).mono ?_
        rintro e v1 ⟨px, cx, rfl, hC, hown⟩
        first | (refine hK.out _ _ ?_ (fun hHeld => ?_)) | (go_wp2_with fail; refine hK.out _ _ ?_ (fun hHeld => ?_))
        · exact hHeld.trans (hC.mono hHeld.size)
        clear hK K
        try simp only [Act.put, List.setIfInBounds_toArray, List.set_cons_zero, List.set_cons_succ]
        have mx1 := MemAt.of_owns hown
        have hz1 := hC.size
        have ox : ∀ k, (Value.slice px s.d.length cx).ownBlock = some k → v0.heap.size ≤ k ∧ k < v1.heap.size := fun k hk => ⟨by have := ownBase hown hk; omega, own_lt hown hk⟩
        clear hown
        clear hC
        refine wpAnyH_ready (rs := [3, 4, 5]) (by kernel_rfl) (by simp) ?_
        refine AllReadyH.cons (o := { dst := some 45, op := Go.Op.call { callee := Go.Callee.value (Go.Operand.func 12), args := #[Go.Operand.tmp 44], argTypes := #[29] }, type := 29, pos := "law.go:256", after := #[{ on := 2, ground := Go.Ground.data }, { on := 1, ground := Go.Ground.chain }], guard := none }) rfl (fun K hK => ?_) (AllReadyH.cons (o := { dst := some 14, op := Go.Op.alloc 29, type := 0, pos := "law.go:256", after := #[], guard := none }) rfl (fun K hK => ?_) (AllReadyH.cons (o := { dst := some 15, op := Go.Op.alloc 29, type := 0, pos := "law.go:256", after := #[], guard := none }) rfl (fun K hK => ?_) AllReadyH.nil))
        · skip
          go_simp
          refine (copyS s dp s.d.length dcap _ hr rfl (hrd2.below hHeld (Nat.le_refl _)) hn0 (by omega)).mono ?_
          rintro e v2 ⟨py, cy, rfl, hC, hown⟩
          first | (refine hK.out _ _ ?_ (fun hHeld => ?_)) | (go_wp2_with fail; refine hK.out _ _ ?_ (fun hHeld => ?_))
          · exact hHeld.trans (hC.mono hHeld.size)
          clear hK K
          try simp only [Act.put, List.setIfInBounds_toArray, List.set_cons_zero, List.set_cons_succ]
          have my2 := MemAt.of_owns hown
          have hz2 := hC.size
          have oy : ∀ k, (Value.slice py s.d.length cy).ownBlock = some k → v1.heap.size ≤ k ∧ k < v2.heap.size := fun k hk => ⟨by have := ownBase hown hk; omega, own_lt hown hk⟩
          clear hown
          have mx2 := mx1.below hC (Nat.le_refl _)
          clear hC
          refine wpAnyH_ready (rs := [4, 5]) (by kernel_rfl) (by simp) ?_
          refine AllReadyH.cons (o := { dst := some 14, op := Go.Op.alloc 29, type := 0, pos := "law.go:256", after := #[], guard := none }) rfl (fun K hK => ?_) (AllReadyH.cons (o := { dst := some 15, op := Go.Op.alloc 29, type := 0, pos := "law.go:256", after := #[], guard := none }) rfl (fun K hK => ?_) AllReadyH.nil)
          · skip
            go_simp
            refine hK.out _ _ ?_ (fun hHeld => ?_)
            · exact bAlloc hHeld.size hHeld
            clear hK K
            try simp only [Act.put, List.setIfInBounds_toArray, List.set_cons_zero, List.set_cons_succ]
            have hC : Below v2.heap.size v2 (v2.alloc (.cells #[.int .i64 0, .int .i32 0, .int .i32 0, .int .i32 0, .int .i32 0, .int .i32 0, .int .i32 0, .int .i32 0, .int .i32 0, .int .i32 0, .int .i32 0, .int .i32 0, .int .i32 0, .int .i32 0, .int .i32 0, .int .i32 0, .int .i32 0, .slice none 0 0, .bool false, .int .i64 0] 29)) := bAlloc (Nat.le_refl _) (Below.refl _ _)
            have x3 := RowAt.alloc_new v2 [.int .i64 0, .int .i32 0, .int .i32 0, .int .i32 0, .int .i32 0, .int .i32 0, .int .i32 0, .int .i32 0, .int .i32 0, .int .i32 0, .int .i32 0, .int .i32 0, .int .i32 0, .int .i32 0, .int .i32 0, .int .i32 0, .int .i32 0, .slice none 0 0, .bool false, .int .i64 0] 29
            have hz3 : v2.heap.size < (v2.alloc (.cells #[.int .i64 0, .int .i32 0, .int .i32 0, .int .i32 0, .int .i32 0, .int .i32 0, .int .i32 0, .int .i32 0, .int .i32 0, .int .i32 0, .int .i32 0, .int .i32 0, .int .i32 0, .int .i32 0, .int .i32 0, .int .i32 0, .int .i32 0, .slice none 0 0, .bool false, .int .i64 0] 29)).heap.size := by simp
            have bdx : v2.heap.size ≤ v2.heap.size := Nat.le_refl _
            generalize v2.alloc (.cells #[.int .i64 0, .int .i32 0, .int .i32 0, .int .i32 0, .int .i32 0, .int .i32 0, .int .i32 0, .int .i32 0, .int .i32 0, .int .i32 0, .int .i32 0, .int .i32 0, .int .i32 0, .int .i32 0, .int .i32 0, .int .i32 0, .int .i32 0, .slice none 0 0, .bool false, .int .i64 0] 29) = v3 at hHeld hC x3 hz3 ⊢
            have mx3 := mx2.below hC (Nat.le_refl _)
            have my3 := my2.below hC (Nat.le_refl _)
            clear hC
            refine wpAnyH_ready (rs := [5]) (by kernel_rfl) (by simp) ?_
            refine AllReadyH.cons (o := { dst := some 15, op := Go.Op.alloc 29, type := 0, pos := "law.go:256", after := #[], guard := none }) rfl (fun K hK => ?_) AllReadyH.nil
            go_simp
            refine hK.out _ _ ?_ (fun hHeld => ?_)
            · exact bAlloc hHeld.size hHeld
            clear hK K
            try simp only [Act.put, List.setIfInBounds_toArray, List.set_cons_zero, List.set_cons_succ]
            have hC : Below v3.heap.size v3 (v3.alloc (.cells #[.int .i64 0, .int .i32 0, .int .i32 0, .int .i32 0, .int .i32 0, .int .i32 0, .int .i32 0, .int .i32 0, .int .i32 0, .int .i32 0, .int .i32 0, .int .i32 0, .int .i32 0, .int .i32 0, .int .i32 0, .int .i32 0, .int .i32 0, .slice none 0 0, .bool false, .int .i64 0] 29)) := bAlloc (Nat.le_refl _) (Below.refl _ _)
            have y4 := RowAt.alloc_new v3 [.int .i64 0, .int .i32 0, .int .i32 0, .int .i32 0, .int .i32 0, .int .i32 0, .int .i32 0, .int .i32 0, .int .i32 0, .int .i32 0, .int .i32 0, .int .i32 0, .int .i32 0, .int .i32 0, .int .i32 0, .int .i32 0, .int .i32 0, .slice none 0 0, .bool false, .int .i64 0] 29
            have hz4 : v3.heap.size < (v3.alloc (.cells #[.int .i64 0, .int .i32 0, .int .i32 0, .int .i32 0, .int .i32 0, .int .i32 0, .int .i32 0, .int .i32 0, .int .i32 0, .int .i32 0, .int .i32 0, .int .i32 0, .int .i32 0, .int .i32 0, .int .i32 0, .int .i32 0, .int .i32 0, .slice none 0 0, .bool false, .int .i64 0] 29)).heap.size := by simp
            have bdy : v3.heap.size ≤ v3.heap.size := Nat.le_refl _
            generalize v3.alloc (.cells #[.int .i64 0, .int .i32 0, .int .i32 0, .int .i32 0, .int .i32 0, .int .i32 0, .int .i32 0, .int .i32 0, .int .i32 0, .int .i32 0, .int .i32 0, .int .i32 0, .int .i32 0, .int .i32 0, .int .i32 0, .int .i32 0, .int .i32 0, .slice none 0 0, .bool false, .int .i64 0] 29) = v4 at hHeld hC y4 hz4 ⊢
            have x4 := x3.below hC x3.lt
            have mx4 := mx3.below hC (Nat.le_refl _)
            have my4 := my3.below hC (Nat.le_refl _)
            clear hC
            refine wpAnyH_ready (rs := [6]) (by kernel_rfl) (by simp) ?_
            refine AllReadyH.cons (o := { dst := none, op := Go.Op.store 29 (Go.Operand.tmp 14) (Go.Operand.tmp 43), type := 0, pos := "law.go:256", after := #[{ on := 4, ground := Go.Ground.data }, { on := 1, ground := Go.Ground.data }, { on := 3, ground := Go.Ground.chain }, { on := 0, ground := Go.Ground.phase }, { on := 1, ground := Go.Ground.phase }, { on := 2, ground := Go.Ground.textOnly Go.Departure.lateStores }, { on := 3, ground := Go.Ground.phase }, { on := 4, ground := Go.Ground.phase }, { on := 5, ground := Go.Ground.phase }], guard := none }) rfl (fun K hK => ?_) AllReadyH.nil
            obtain ⟨tzx, hz⟩ := x4
            have hbx := lt_of_block hz
            have hby := y4.lt
            refine step_store_row rfl 29 (.tmp 14) (.tmp 43) rfl (v2.heap.size) _ rfl rfl tzx _ hz (by rw [List.size_toArray, stCells_len hr]; exact infoState) (by first | (rw [List.size_toArray, List.size_toArray, stCells_len hr]; rfl) | (rw [List.size_toArray, stCells_len hr]; rfl)) (stCells_one s _ _ _) ?_
            refine hK.out _ _ ?_ (fun hHeld => ?_)
            · exact bRow (by have := hHeld.size; omega) hHeld
            clear hK K
            try simp only [Act.put, List.setIfInBounds_toArray, List.set_cons_zero, List.set_cons_succ]
            have x5 : RowAt (v4.setRow (v2.heap.size) (stCells s (.slice px s.d.length cx)).toArray) (v2.heap.size) (stCells s (.slice px s.d.length cx)) := ⟨_, setRow_heap _ _ _ _ _ _ hz⟩
            have hz5 : v4.heap.size ≤ (v4.setRow (v2.heap.size) (stCells s (.slice px s.d.length cx)).toArray).heap.size := by rw [setRow_size]; exact Nat.le_refl _
            have y5 := y4.block (setRow_block v4 (v2.heap.size) (stCells s (.slice px s.d.length cx)).toArray (by omega))
            have mx5 := mx4.block (fun k hk => setRow_block v4 (v2.heap.size) (stCells s (.slice px s.d.length cx)).toArray (by have := ox k hk; omega))
            have my5 := my4.block (fun k hk => setRow_block v4 (v2.heap.size) (stCells s (.slice px s.d.length cx)).toArray (by have := oy k hk; omega))
            clear hz
            generalize v4.setRow (v2.heap.size) (stCells s (.slice px s.d.length cx)).toArray = v5 at hHeld hz5 x5 y5 mx5 my5 ⊢
            refine wpAnyH_ready (rs := [7]) (by kernel_rfl) (by simp) ?_
            refine AllReadyH.cons (o := { dst := none, op := Go.Op.store 29 (Go.Operand.tmp 15) (Go.Operand.tmp 45), type := 0, pos := "law.go:256", after := #[{ on := 5, ground := Go.Ground.data }, { on := 3, ground := Go.Ground.data }, { on := 6, ground := Go.Ground.chain }, { on := 0, ground := Go.Ground.phase }, { on := 1, ground := Go.Ground.phase }, { on := 2, ground := Go.Ground.phase }, { on := 3, ground := Go.Ground.phase }, { on := 4, ground := Go.Ground.phase }, { on := 5, ground := Go.Ground.phase }, { on := 6, ground := Go.Ground.phase }], guard := none }) rfl (fun K hK => ?_) AllReadyH.nil
            obtain ⟨tzy, hz⟩ := y5
            refine step_store_row rfl 29 (.tmp 15) (.tmp 45) rfl (v3.heap.size) _ rfl rfl tzy _ hz (by rw [List.size_toArray, stCells_len hr]; exact infoState) (by first | (rw [List.size_toArray, List.size_toArray, stCells_len hr]; rfl) | (rw [List.size_toArray, stCells_len hr]; rfl)) (stCells_one s _ _ _) ?_
            refine hK.out _ _ ?_ (fun hHeld => ?_)
            · exact bRow (by have := hHeld.size; omega) hHeld
            clear hK K
            try simp only [Act.put, List.setIfInBounds_toArray, List.set_cons_zero, List.set_cons_succ]
            have y6 : RowAt (v5.setRow (v3.heap.size) (stCells s (.slice py s.d.length cy)).toArray) (v3.heap.size) (stCells s (.slice py s.d.length cy)) := ⟨_, setRow_heap _ _ _ _ _ _ hz⟩
            have hz6 : v5.heap.size ≤ (v5.setRow (v3.heap.size) (stCells s (.slice py s.d.length cy)).toArray).heap.size := by rw [setRow_size]; exact Nat.le_refl _
            have x6 := x5.block (setRow_block v5 (v3.heap.size) (stCells s (.slice py s.d.length cy)).toArray (by omega))
            have mx6 := mx5.block (fun k hk => setRow_block v5 (v3.heap.size) (stCells s (.slice py s.d.length cy)).toArray (by have := ox k hk; omega))
            have my6 := my5.block (fun k hk => setRow_block v5 (v3.heap.size) (stCells s (.slice py s.d.length cy)).toArray (by have := oy k hk; omega))
            clear hz
            generalize v5.setRow (v3.heap.size) (stCells s (.slice py s.d.length cy)).toArray = v6 at hHeld hz6 x6 y6 mx6 my6 ⊢
            refine wpAnyH_done (by kernel_rfl) ?_ _
            exact ⟨rfl, v2.heap.size, v3.heap.size, px, cx, py, cy, by first | rfl | (simp only [put6, Act.put, List.setIfInBounds_toArray, List.set_cons_zero, List.set_cons_succ]), ⟨hHeld, ⟨hr, x6⟩, ⟨hr, y6⟩, mx6, my6, by omega, by omega, fun k hk => by have h1 := ox k hk; exact ⟨by omega, by omega, by omega, by omega, fun h => by have h2 := oy k h; omega⟩, fun k hk => by have h1 := oy k hk; exact ⟨by omega, by omega, by omega, by omega, fun h => by have h2 := ox k h; omega⟩, by omega⟩⟩
          · skip
            go_simp
            refine hK.out _ _ ?_ (fun hHeld => ?_)
            · exact bAlloc hHeld.size hHeld
            clear hK K
            try simp only [Act.put, List.setIfInBounds_toArray, List.set_cons_zero, List.set_cons_succ]
            have hC : Below v2.heap.size v2 (v2.alloc (.cells #[.int .i64 0, .int .i32 0, .int .i32 0, .int .i32 0, .int .i32 0, .int .i32 0, .int .i32 0, .int .i32 0, .int .i32 0, .int .i32 0, .int .i32 0, .int .i32 0, .int .i32 0, .int .i32 0, .int .i32 0, .int .i32 0, .int .i32 0, .slice none 0 0, .bool false, .int .i64 0] 29)) := bAlloc (Nat.le_refl _) (Below.refl _ _)
            have y3 := RowAt.alloc_new v2 [.int .i64 0, .int .i32 0, .int .i32 0, .int .i32 0, .int .i32 0, .int .i32 0, .int .i32 0, .int .i32 0, .int .i32 0, .int .i32 0, .int .i32 0, .int .i32 0, .int .i32 0, .int .i32 0, .int .i32 0, .int .i32 0, .int .i32 0, .slice none 0 0, .bool false, .int .i64 0] 29
            have hz3 : v2.heap.size < (v2.alloc (.cells #[.int .i64 0, .int .i32 0, .int .i32 0, .int .i32 0, .int .i32 0, .int .i32 0, .int .i32 0, .int .i32 0, .int .i32 0, .int .i32 0, .int .i32 0, .int .i32 0, .int .i32 0, .int .i32 0, .int .i32 0, .int .i32 0, .int .i32 0, .slice none 0 0, .bool false, .int .i64 0] 29)).heap.size := by simp
            have bdy : v2.heap.size ≤ v2.heap.size := Nat.le_refl _
            generalize v2.alloc (.cells #[.int .i64 0, .int .i32 0, .int .i32 0, .int .i32 0, .int .i32 0, .int .i32 0, .int .i32 0, .int .i32 0, .int .i32 0, .int .i32 0, .int .i32 0, .int .i32 0, .int .i32 0, .int .i32 0, .int .i32 0, .int .i32 0, .int .i32 0, .slice none 0 0, .bool false, .int .i64 0] 29) = v3 at hHeld hC y3 hz3 ⊢
            have mx3 := mx2.below hC (Nat.le_refl _)
            have my3 := my2.below hC (Nat.le_refl _)
            clear hC
            refine wpAnyH_ready (rs := [4]) (by kernel_rfl) (by simp) ?_
            refine AllReadyH.cons (o := { dst := some 14, op := Go.Op.alloc 29, type := 0, pos := "law.go:256", after := #[], guard := none }) rfl (fun K hK => ?_) AllReadyH.nil
            go_simp
            refine hK.out _ _ ?_ (fun hHeld => ?_)
            · exact bAlloc hHeld.size hHeld
            clear hK K
            try simp only [Act.put, List.setIfInBounds_toArray, List.set_cons_zero, List.set_cons_succ]
            have hC : Below v3.heap.size v3 (v3.alloc (.cells #[.int .i64 0, .int .i32 0, .int .i32 0, .int .i32 0, .int .i32 0, .int .i32 0, .int .i32 0, .int .i32 0, .int .i32 0, .int .i32 0, .int .i32 0, .int .i32 0, .int .i32 0, .int .i32 0, .int .i32 0, .int .i32 0, .int .i32 0, .slice none 0 0, .bool false, .int .i64 0] 29)) := bAlloc (Nat.le_refl _) (Below.refl _ _)
            have x4 := RowAt.alloc_new v3 [.int .i64 0, .int .i32 0, .int .i32 0, .int .i32 0, .int .i32 0, .int .i32 0, .int .i32 0, .int .i32 0, .int .i32 0, .int .i32 0, .int .i32 0, .int .i32 0, .int .i32 0, .int .i32 0, .int .i32 0, .int .i32 0, .int .i32 0, .slice none 0 0, .bool false, .int .i64 0] 29
            have hz4 : v3.heap.size < (v3.alloc (.cells #[.int .i64 0, .int .i32 0, .int .i32 0, .int .i32 0, .int .i32 0, .int .i32 0, .int .i32 0, .int .i32 0, .int .i32 0, .int .i32 0, .int .i32 0, .int .i32 0, .int .i32 0, .int .i32 0, .int .i32 0, .int .i32 0, .int .i32 0, .slice none 0 0, .bool false, .int .i64 0] 29)).heap.size := by simp
            have bdx : v3.heap.size ≤ v3.heap.size := Nat.le_refl _
            generalize v3.alloc (.cells #[.int .i64 0, .int .i32 0, .int .i32 0, .int .i32 0, .int .i32 0, .int .i32 0, .int .i32 0, .int .i32 0, .int .i32 0, .int .i32 0, .int .i32 0, .int .i32 0, .int .i32 0, .int .i32 0, .int .i32 0, .int .i32 0, .int .i32 0, .slice none 0 0, .bool false, .int .i64 0] 29) = v4 at hHeld hC x4 hz4 ⊢
            have y4 := y3.below hC y3.lt
            have mx4 := mx3.below hC (Nat.le_refl _)
            have my4 := my3.below hC (Nat.le_refl _)
            clear hC
            refine wpAnyH_ready (rs := [6]) (by kernel_rfl) (by simp) ?_
            refine AllReadyH.cons (o := { dst := none, op := Go.Op.store 29 (Go.Operand.tmp 14) (Go.Operand.tmp 43), type := 0, pos := "law.go:256", after := #[{ on := 4, ground := Go.Ground.data }, { on := 1, ground := Go.Ground.data }, { on := 3, ground := Go.Ground.chain }, { on := 0, ground := Go.Ground.phase }, { on := 1, ground := Go.Ground.phase }, { on := 2, ground := Go.Ground.textOnly Go.Departure.lateStores }, { on := 3, ground := Go.Ground.phase }, { on := 4, ground := Go.Ground.phase }, { on := 5, ground := Go.Ground.phase }], guard := none }) rfl (fun K hK => ?_) AllReadyH.nil
            obtain ⟨tzx, hz⟩ := x4
            have hbx := lt_of_block hz
            have hby := y4.lt
            refine step_store_row rfl 29 (.tmp 14) (.tmp 43) rfl (v3.heap.size) _ rfl rfl tzx _ hz (by rw [List.size_toArray, stCells_len hr]; exact infoState) (by first | (rw [List.size_toArray, List.size_toArray, stCells_len hr]; rfl) | (rw [List.size_toArray, stCells_len hr]; rfl)) (stCells_one s _ _ _) ?_
            refine hK.out _ _ ?_ (fun hHeld => ?_)
            · exact bRow (by have := hHeld.size; omega) hHeld
            clear hK K
            try simp only [Act.put, List.setIfInBounds_toArray, List.set_cons_zero, List.set_cons_succ]
            have x5 : RowAt (v4.setRow (v3.heap.size) (stCells s (.slice px s.d.length cx)).toArray) (v3.heap.size) (stCells s (.slice px s.d.length cx)) := ⟨_, setRow_heap _ _ _ _ _ _ hz⟩
            have hz5 : v4.heap.size ≤ (v4.setRow (v3.heap.size) (stCells s (.slice px s.d.length cx)).toArray).heap.size := by rw [setRow_size]; exact Nat.le_refl _
            have y5 := y4.block (setRow_block v4 (v3.heap.size) (stCells s (.slice px s.d.length cx)).toArray (by omega))
            have mx5 := mx4.block (fun k hk => setRow_block v4 (v3.heap.size) (stCells s (.slice px s.d.length cx)).toArray (by have := ox k hk; omega))
            have my5 := my4.block (fun k hk => setRow_block v4 (v3.heap.size) (stCells s (.slice px s.d.length cx)).toArray (by have := oy k hk; omega))
            clear hz
            generalize v4.setRow (v3.heap.size) (stCells s (.slice px s.d.length cx)).toArray = v5 at hHeld hz5 y5 x5 mx5 my5 ⊢
            refine wpAnyH_ready (rs := [7]) (by kernel_rfl) (by simp) ?_
            refine AllReadyH.cons (o := { dst := none, op := Go.Op.store 29 (Go.Operand.tmp 15) (Go.Operand.tmp 45), type := 0, pos := "law.go:256", after := #[{ on := 5, ground := Go.Ground.data }, { on := 3, ground := Go.Ground.data }, { on := 6, ground := Go.Ground.chain }, { on := 0, ground := Go.Ground.phase }, { on := 1, ground := Go.Ground.phase }, { on := 2, ground := Go.Ground.phase }, { on := 3, ground := Go.Ground.phase }, { on := 4, ground := Go.Ground.phase }, { on := 5, ground := Go.Ground.phase }, { on := 6, ground := Go.Ground.phase }], guard := none }) rfl (fun K hK => ?_) AllReadyH.nil
            obtain ⟨tzy, hz⟩ := y5
            refine step_store_row rfl 29 (.tmp 15) (.tmp 45) rfl (v2.heap.size) _ rfl rfl tzy _ hz (by rw [List.size_toArray, stCells_len hr]; exact infoState) (by first | (rw [List.size_toArray, List.size_toArray, stCells_len hr]; rfl) | (rw [List.size_toArray, stCells_len hr]; rfl)) (stCells_one s _ _ _) ?_
            refine hK.out _ _ ?_ (fun hHeld => ?_)
            · exact bRow (by have := hHeld.size; omega) hHeld
            clear hK K
            try simp only [Act.put, List.setIfInBounds_toArray, List.set_cons_zero, List.set_cons_succ]
            have y6 : RowAt (v5.setRow (v2.heap.size) (stCells s (.slice py s.d.length cy)).toArray) (v2.heap.size) (stCells s (.slice py s.d.length cy)) := ⟨_, setRow_heap _ _ _ _ _ _ hz⟩
            have hz6 : v5.heap.size ≤ (v5.setRow (v2.heap.size) (stCells s (.slice py s.d.length cy)).toArray).heap.size := by rw [setRow_size]; exact Nat.le_refl _
            have x6 := x5.block (setRow_block v5 (v2.heap.size) (stCells s (.slice py s.d.length cy)).toArray (by omega))
            have mx6 := mx5.block (fun k hk => setRow_block v5 (v2.heap.size) (stCells s (.slice py s.d.length cy)).toArray (by have := ox k hk; omega))
            have my6 := my5.block (fun k hk => setRow_block v5 (v2.heap.size) (stCells s (.slice py s.d.length cy)).toArray (by have := oy k hk; omega))
            clear hz
            generalize v5.setRow (v2.heap.size) (stCells s (.slice py s.d.length cy)).toArray = v6 at hHeld hz6 y6 x6 mx6 my6 ⊢
            refine wpAnyH_done (by kernel_rfl) ?_ _
            exact ⟨rfl, v3.heap.size, v2.heap.size, px, cx, py, cy, by first | rfl | (simp only [put6, Act.put, List.setIfInBounds_toArray, List.set_cons_zero, List.set_cons_succ]), ⟨hHeld, ⟨hr, x6⟩, ⟨hr, y6⟩, mx6, my6, by omega, by omega, fun k hk => by have h1 := ox k hk; exact ⟨by omega, by omega, by omega, by omega, fun h => by have h2 := oy k h; omega⟩, fun k hk => by have h1 := oy k hk; exact ⟨by omega, by omega, by omega, by omega, fun h => by have h2 := ox k h; omega⟩, by omega⟩⟩
        · skip
          go_simp
          refine hK.out _ _ ?_ (fun hHeld => ?_)
          · exact bAlloc hHeld.size hHeld
          clear hK K
          try simp only [Act.put, List.setIfInBounds_toArray, List.set_cons_zero, List.set_cons_succ]
          have hC : Below v1.heap.size v1 (v1.alloc (.cells #[.int .i64 0, .int .i32 0, .int .i32 0, .int .i32 0, .int .i32 0, .int .i32 0, .int .i32 0, .int .i32 0, .int .i32 0, .int .i32 0, .int .i32 0, .int .i32 0, .int .i32 0, .int .i32 0, .int .i32 0, .int .i32 0, .int .i32 0, .slice none 0 0, .bool false, .int .i64 0] 29)) := bAlloc (Nat.le_refl _) (Below.refl _ _)
          have x2 := RowAt.alloc_new v1 [.int .i64 0, .int .i32 0, .int .i32 0, .int .i32 0, .int .i32 0, .int .i32 0, .int .i32 0, .int .i32 0, .int .i32 0, .int .i32 0, .int .i32 0, .int .i32 0, .int .i32 0, .int .i32 0, .int .i32 0, .int .i32 0, .int .i32 0, .slice none 0 0, .bool false, .int .i64 0] 29
          have hz2 : v1.heap.size < (v1.alloc (.cells #[.int .i64 0, .int .i32 0, .int .i32 0, .int .i32 0, .int .i32 0, .int .i32 0, .int .i32 0, .int .i32 0, .int .i32 0, .int .i32 0, .int .i32 0, .int .i32 0, .int .i32 0, .int .i32 0, .int .i32 0, .int .i32 0, .int .i32 0, .slice none 0 0, .bool false, .int .i64 0] 29)).heap.size := by simp
          have bdx : v1.heap.size ≤ v1.heap.size := Nat.le_refl _
          generalize v1.alloc (.cells #[.int .i64 0, .int .i32 0, .int .i32 0, .int .i32 0, .int .i32 0, .int .i32 0, .int .i32 0, .int .i32 0, .int .i32 0, .int .i32 0, .int .i32 0, .int .i32 0, .int .i32 0, .int .i32 0, .int .i32 0, .int .i32 0, .int .i32 0, .slice none 0 0, .bool false, .int .i64 0] 29) = v2 at hHeld hC x2 hz2 ⊢
          have mx2 := mx1.below hC (Nat.le_refl _)
          clear hC
          refine wpAnyH_ready (rs := [3, 5]) (by kernel_rfl) (by simp) ?_
          refine AllReadyH.cons (o := { dst := some 45, op := Go.Op.call { callee := Go.Callee.value (Go.Operand.func 12), args := #[Go.Operand.tmp 44], argTypes := #[29] }, type := 29, pos := "law.go:256", after := #[{ on := 2, ground := Go.Ground.data }, { on := 1, ground := Go.Ground.chain }], guard := none }) rfl (fun K hK => ?_) (AllReadyH.cons (o := { dst := some 15, op := Go.Op.alloc 29, type := 0, pos := "law.go:256", after := #[], guard := none }) rfl (fun K hK => ?_) AllReadyH.nil)
          · skip
            go_simp
            refine (copyS s dp s.d.length dcap _ hr rfl (hrd2.below hHeld (Nat.le_refl _)) hn0 (by omega)).mono ?_
            rintro e v3 ⟨py, cy, rfl, hC, hown⟩
            first | (refine hK.out _ _ ?_ (fun hHeld => ?_)) | (go_wp2_with fail; refine hK.out _ _ ?_ (fun hHeld => ?_))
            · exact hHeld.trans (hC.mono hHeld.size)
            clear hK K
            try simp only [Act.put, List.setIfInBounds_toArray, List.set_cons_zero, List.set_cons_succ]
            have my3 := MemAt.of_owns hown
            have hz3 := hC.size
            have oy : ∀ k, (Value.slice py s.d.length cy).ownBlock = some k → v2.heap.size ≤ k ∧ k < v3.heap.size := fun k hk => ⟨by have := ownBase hown hk; omega, own_lt hown hk⟩
            clear hown
            have x3 := x2.below hC x2.lt
            have mx3 := mx2.below hC (Nat.le_refl _)
            clear hC
            refine wpAnyH_ready (rs := [5]) (by kernel_rfl) (by simp) ?_
            refine AllReadyH.cons (o := { dst := some 15, op := Go.Op.alloc 29, type := 0, pos := "law.go:256", after := #[], guard := none }) rfl (fun K hK => ?_) AllReadyH.nil
            go_simp
            refine hK.out _ _ ?_ (fun hHeld => ?_)
            · exact bAlloc hHeld.size hHeld
            clear hK K
            try simp only [Act.put, List.setIfInBounds_toArray, List.set_cons_zero, List.set_cons_succ]
            have hC : Below v3.heap.size v3 (v3.alloc (.cells #[.int .i64 0, .int .i32 0, .int .i32 0, .int .i32 0, .int .i32 0, .int .i32 0, .int .i32 0, .int .i32 0, .int .i32 0, .int .i32 0, .int .i32 0, .int .i32 0, .int .i32 0, .int .i32 0, .int .i32 0, .int .i32 0, .int .i32 0, .slice none 0 0, .bool false, .int .i64 0] 29)) := bAlloc (Nat.le_refl _) (Below.refl _ _)
            have y4 := RowAt.alloc_new v3 [.int .i64 0, .int .i32 0, .int .i32 0, .int .i32 0, .int .i32 0, .int .i32 0, .int .i32 0, .int .i32 0, .int .i32 0, .int .i32 0, .int .i32 0, .int .i32 0, .int .i32 0, .int .i32 0, .int .i32 0, .int .i32 0, .int .i32 0, .slice none 0 0, .bool false, .int .i64 0] 29
            have hz4 : v3.heap.size < (v3.alloc (.cells #[.int .i64 0, .int .i32 0, .int .i32 0, .int .i32 0, .int .i32 0, .int .i32 0, .int .i32 0, .int .i32 0, .int .i32 0, .int .i32 0, .int .i32 0, .int .i32 0, .int .i32 0, .int .i32 0, .int .i32 0, .int .i32 0, .int .i32 0, .slice none 0 0, .bool false, .int .i64 0] 29)).heap.size := by simp
            have bdy : v3.heap.size ≤ v3.heap.size := Nat.le_refl _
            generalize v3.alloc (.cells #[.int .i64 0, .int .i32 0, .int .i32 0, .int .i32 0, .int .i32 0, .int .i32 0, .int .i32 0, .int .i32 0, .int .i32 0, .int .i32 0, .int .i32 0, .int .i32 0, .int .i32 0, .int .i32 0, .int .i32 0, .int .i32 0, .int .i32 0, .slice none 0 0, .bool false, .int .i64 0] 29) = v4 at hHeld hC y4 hz4 ⊢
            have x4 := x3.below hC x3.lt
            have mx4 := mx3.below hC (Nat.le_refl _)
            have my4 := my3.below hC (Nat.le_refl _)
            clear hC
            refine wpAnyH_ready (rs := [6]) (by kernel_rfl) (by simp) ?_
            refine AllReadyH.cons (o := { dst := none, op := Go.Op.store 29 (Go.Operand.tmp 14) (Go.Operand.tmp 43), type := 0, pos := "law.go:256", after := #[{ on := 4, ground := Go.Ground.data }, { on := 1, ground := Go.Ground.data }, { on := 3, ground := Go.Ground.chain }, { on := 0, ground := Go.Ground.phase }, { on := 1, ground := Go.Ground.phase }, { on := 2, ground := Go.Ground.textOnly Go.Departure.lateStores }, { on := 3, ground := Go.Ground.phase }, { on := 4, ground := Go.Ground.phase }, { on := 5, ground := Go.Ground.phase }], guard := none }) rfl (fun K hK => ?_) AllReadyH.nil
            obtain ⟨tzx, hz⟩ := x4
            have hbx := lt_of_block hz
            have hby := y4.lt
            refine step_store_row rfl 29 (.tmp 14) (.tmp 43) rfl (v1.heap.size) _ rfl rfl tzx _ hz (by rw [List.size_toArray, stCells_len hr]; exact infoState) (by first | (rw [List.size_toArray, List.size_toArray, stCells_len hr]; rfl) | (rw [List.size_toArray, stCells_len hr]; rfl)) (stCells_one s _ _ _) ?_
            refine hK.out _ _ ?_ (fun hHeld => ?_)
            · exact bRow (by have := hHeld.size; omega) hHeld
            clear hK K
            try simp only [Act.put, List.setIfInBounds_toArray, List.set_cons_zero, List.set_cons_succ]
            have x5 : RowAt (v4.setRow (v1.heap.size) (stCells s (.slice px s.d.length cx)).toArray) (v1.heap.size) (stCells s (.slice px s.d.length cx)) := ⟨_, setRow_heap _ _ _ _ _ _ hz⟩
            have hz5 : v4.heap.size ≤ (v4.setRow (v1.heap.size) (stCells s (.slice px s.d.length cx)).toArray).heap.size := by rw [setRow_size]; exact Nat.le_refl _
            have y5 := y4.block (setRow_block v4 (v1.heap.size) (stCells s (.slice px s.d.length cx)).toArray (by omega))
            have mx5 := mx4.block (fun k hk => setRow_block v4 (v1.heap.size) (stCells s (.slice px s.d.length cx)).toArray (by have := ox k hk; omega))
            have my5 := my4.block (fun k hk => setRow_block v4 (v1.heap.size) (stCells s (.slice px s.d.length cx)).toArray (by have := oy k hk; omega))
            clear hz
            generalize v4.setRow (v1.heap.size) (stCells s (.slice px s.d.length cx)).toArray = v5 at hHeld hz5 x5 y5 mx5 my5 ⊢
            refine wpAnyH_ready (rs := [7]) (by kernel_rfl) (by simp) ?_
            refine AllReadyH.cons (o := { dst := none, op := Go.Op.store 29 (Go.Operand.tmp 15) (Go.Operand.tmp 45), type := 0, pos := "law.go:256", after := #[{ on := 5, ground := Go.Ground.data }, { on := 3, ground := Go.Ground.data }, { on := 6, ground := Go.Ground.chain }, { on := 0, ground := Go.Ground.phase }, { on := 1, ground := Go.Ground.phase }, { on := 2, ground := Go.Ground.phase }, { on := 3, ground := Go.Ground.phase }, { on := 4, ground := Go.Ground.phase }, { on := 5, ground := Go.Ground.phase }, { on := 6, ground := Go.Ground.phase }], guard := none }) rfl (fun K hK => ?_) AllReadyH.nil
            obtain ⟨tzy, hz⟩ := y5
            refine step_store_row rfl 29 (.tmp 15) (.tmp 45) rfl (v3.heap.size) _ rfl rfl tzy _ hz (by rw [List.size_toArray, stCells_len hr]; exact infoState) (by first | (rw [List.size_toArray, List.size_toArray, stCells_len hr]; rfl) | (rw [List.size_toArray, stCells_len hr]; rfl)) (stCells_one s _ _ _) ?_
            refine hK.out _ _ ?_ (fun hHeld => ?_)
            · exact bRow (by have := hHeld.size; omega) hHeld
            clear hK K
            try simp only [Act.put, List.setIfInBounds_toArray, List.set_cons_zero, List.set_cons_succ]
            have y6 : RowAt (v5.setRow (v3.heap.size) (stCells s (.slice py s.d.length cy)).toArray) (v3.heap.size) (stCells s (.slice py s.d.length cy)) := ⟨_, setRow_heap _ _ _ _ _ _ hz⟩
            have hz6 : v5.heap.size ≤ (v5.setRow (v3.heap.size) (stCells s (.slice py s.d.length cy)).toArray).heap.size := by rw [setRow_size]; exact Nat.le_refl _
            have x6 := x5.block (setRow_block v5 (v3.heap.size) (stCells s (.slice py s.d.length cy)).toArray (by omega))
            have mx6 := mx5.block (fun k hk => setRow_block v5 (v3.heap.size) (stCells s (.slice py s.d.length cy)).toArray (by have := ox k hk; omega))
            have my6 := my5.block (fun k hk => setRow_block v5 (v3.heap.size) (stCells s (.slice py s.d.length cy)).toArray (by have := oy k hk; omega))
            clear hz
            generalize v5.setRow (v3.heap.size) (stCells s (.slice py s.d.length cy)).toArray = v6 at hHeld hz6 x6 y6 mx6 my6 ⊢
            refine wpAnyH_done (by kernel_rfl) ?_ _
            exact ⟨rfl, v1.heap.size, v3.heap.size, px, cx, py, cy, by first | rfl | (simp only [put6, Act.put, List.setIfInBounds_toArray, List.set_cons_zero, List.set_cons_succ]), ⟨hHeld, ⟨hr, x6⟩, ⟨hr, y6⟩, mx6, my6, by omega, by omega, fun k hk => by have h1 := ox k hk; exact ⟨by omega, by omega, by omega, by omega, fun h => by have h2 := oy k h; omega⟩, fun k hk => by have h1 := oy k hk; exact ⟨by omega, by omega, by omega, by omega, fun h => by have h2 := ox k h; omega⟩, by omega⟩⟩
          · skip
            go_simp
            refine hK.out _ _ ?_ (fun hHeld => ?_)
            · exact bAlloc hHeld.size hHeld
            clear hK K
            try simp only [Act.put, List.setIfInBounds_toArray, List.set_cons_zero, List.set_cons_succ]
            have hC : Below v2.heap.size v2 (v2.alloc (.cells #[.int .i64 0, .int .i32 0, .int .i32 0, .int .i32 0, .int .i32 0, .int .i32 0, .int .i32 0, .int .i32 0, .int .i32 0, .int .i32 0, .int .i32 0, .int .i32 0, .int .i32 0, .int .i32 0, .int .i32 0, .int .i32 0, .int .i32 0, .slice none 0 0, .bool false, .int .i64 0] 29)) := bAlloc (Nat.le_refl _) (Below.refl _ _)
            have y3 := RowAt.alloc_new v2 [.int .i64 0, .int .i32 0, .int .i32 0, .int .i32 0, .int .i32 0, .int .i32 0, .int .i32 0, .int .i32 0, .int .i32 0, .int .i32 0, .int .i32 0, .int .i32 0, .int .i32 0, .int .i32 0, .int .i32 0, .int .i32 0, .int .i32 0, .slice none 0 0, .bool false, .int .i64 0] 29
            have hz3 : v2.heap.size < (v2.alloc (.cells #[.int .i64 0, .int .i32 0, .int .i32 0, .int .i32 0, .int .i32 0, .int .i32 0, .int .i32 0, .int .i32 0, .int .i32 0, .int .i32 0, .int .i32 0, .int .i32 0, .int .i32 0, .int .i32 0, .int .i32 0, .int .i32 0, .int .i32 0, .slice none 0 0, .bool false, .int .i64 0] 29)).heap.size := by simp
            have bdy : v2.heap.size ≤ v2.heap.size := Nat.le_refl _
            generalize v2.alloc (.cells #[.int .i64 0, .int .i32 0, .int .i32 0, .int .i32 0, .int .i32 0, .int .i32 0, .int .i32 0, .int .i32 0, .int .i32 0, .int .i32 0, .int .i32 0, .int .i32 0, .int .i32 0, .int .i32 0, .int .i32 0, .int .i32 0, .int .i32 0, .slice none 0 0, .bool false, .int .i64 0] 29) = v3 at hHeld hC y3 hz3 ⊢
            have x3 := x2.below hC x2.lt
            have mx3 := mx2.below hC (Nat.le_refl _)
            clear hC
            refine wpAnyH_ready (rs := [3]) (by kernel_rfl) (by simp) ?_
            refine AllReadyH.cons (o := { dst := some 45, op := Go.Op.call { callee := Go.Callee.value (Go.Operand.func 12), args := #[Go.Operand.tmp 44], argTypes := #[29] }, type := 29, pos := "law.go:256", after := #[{ on := 2, ground := Go.Ground.data }, { on := 1, ground := Go.Ground.chain }], guard := none }) rfl (fun K hK => ?_) AllReadyH.nil
            go_simp
            refine (copyS s dp s.d.length dcap _ hr rfl (hrd2.below hHeld (Nat.le_refl _)) hn0 (by omega)).mono ?_
            rintro e v4 ⟨py, cy, rfl, hC, hown⟩
            first | (refine hK.out _ _ ?_ (fun hHeld => ?_)) | (go_wp2_with fail; refine hK.out _ _ ?_ (fun hHeld => ?_))
            · exact hHeld.trans (hC.mono hHeld.size)
            clear hK K
            try simp only [Act.put, List.setIfInBounds_toArray, List.set_cons_zero, List.set_cons_succ]
            have my4 := MemAt.of_owns hown
            have hz4 := hC.size
            have oy : ∀ k, (Value.slice py s.d.length cy).ownBlock = some k → v3.heap.size ≤ k ∧ k < v4.heap.size := fun k hk => ⟨by have := ownBase hown hk; omega, own_lt hown hk⟩
            clear hown
            have x4 := x3.below hC x3.lt
            have y4 := y3.below hC y3.lt
            have mx4 := mx3.below hC (Nat.le_refl _)
            clear hC
            refine wpAnyH_ready (rs := [6]) (by kernel_rfl) (by simp) ?_
            refine AllReadyH.cons (o := { dst := none, op := Go.Op.store 29 (Go.Operand.tmp 14) (Go.Operand.tmp 43), type := 0, pos := "law.go:256", after := #[{ on := 4, ground := Go.Ground.data }, { on := 1, ground := Go.Ground.data }, { on := 3, ground := Go.Ground.chain }, { on := 0, ground := Go.Ground.phase }, { on := 1, ground := Go.Ground.phase }, { on := 2, ground := Go.Ground.textOnly Go.Departure.lateStores }, { on := 3, ground := Go.Ground.phase }, { on := 4, ground := Go.Ground.phase }, { on := 5, ground := Go.Ground.phase }], guard := none }) rfl (fun K hK => ?_) AllReadyH.nil
            obtain ⟨tzx, hz⟩ := x4
            have hbx := lt_of_block hz
            have hby := y4.lt
            refine step_store_row rfl 29 (.tmp 14) (.tmp 43) rfl (v1.heap.size) _ rfl rfl tzx _ hz (by rw [List.size_toArray, stCells_len hr]; exact infoState) (by first | (rw [List.size_toArray, List.size_toArray, stCells_len hr]; rfl) | (rw [List.size_toArray, stCells_len hr]; rfl)) (stCells_one s _ _ _) ?_
            refine hK.out _ _ ?_ (fun hHeld => ?_)
            · exact bRow (by have := hHeld.size; omega) hHeld
            clear hK K
            try simp only [Act.put, List.setIfInBounds_toArray, List.set_cons_zero, List.set_cons_succ]
            have x5 : RowAt (v4.setRow (v1.heap.size) (stCells s (.slice px s.d.length cx)).toArray) (v1.heap.size) (stCells s (.slice px s.d.length cx)) := ⟨_, setRow_heap _ _ _ _ _ _ hz⟩
            have hz5 : v4.heap.size ≤ (v4.setRow (v1.heap.size) (stCells s (.slice px s.d.length cx)).toArray).heap.size := by rw [setRow_size]; exact Nat.le_refl _
            have y5 := y4.block (setRow_block v4 (v1.heap.size) (stCells s (.slice px s.d.length cx)).toArray (by omega))
            have mx5 := mx4.block (fun k hk => setRow_block v4 (v1.heap.size) (stCells s (.slice px s.d.length cx)).toArray (by have := ox k hk; omega))
            have my5 := my4.block (fun k hk => setRow_block v4 (v1.heap.size) (stCells s (.slice px s.d.length cx)).toArray (by have := oy k hk; omega))
            clear hz
            generalize v4.setRow (v1.heap.size) (stCells s (.slice px s.d.length cx)).toArray = v5 at hHeld hz5 x5 y5 mx5 my5 ⊢
            refine wpAnyH_ready (rs := [7]) (by kernel_rfl) (by simp) ?_
            refine AllReadyH.cons (o := { dst := none, op := Go.Op.store 29 (Go.Operand.tmp 15) (Go.Operand.tmp 45), type := 0, pos := "law.go:256", after := #[{ on := 5, ground := Go.Ground.data }, { on := 3, ground := Go.Ground.data }, { on := 6, ground := Go.Ground.chain }, { on := 0, ground := Go.Ground.phase }, { on := 1, ground := Go.Ground.phase }, { on := 2, ground := Go.Ground.phase }, { on := 3, ground := Go.Ground.phase }, { on := 4, ground := Go.Ground.phase }, { on := 5, ground := Go.Ground.phase }, { on := 6, ground := Go.Ground.phase }], guard := none }) rfl (fun K hK => ?_) AllReadyH.nil
            obtain ⟨tzy, hz⟩ := y5
            refine step_store_row rfl 29 (.tmp 15) (.tmp 45) rfl (v2.heap.size) _ rfl rfl tzy _ hz (by rw [List.size_toArray, stCells_len hr]; exact infoState) (by first | (rw [List.size_toArray, List.size_toArray, stCells_len hr]; rfl) | (rw [List.size_toArray, stCells_len hr]; rfl)) (stCells_one s _ _ _) ?_
            refine hK.out _ _ ?_ (fun hHeld => ?_)
            · exact bRow (by have := hHeld.size; omega) hHeld
            clear hK K
            try simp only [Act.put, List.setIfInBounds_toArray, List.set_cons_zero, List.set_cons_succ]
            have y6 : RowAt (v5.setRow (v2.heap.size) (stCells s (.slice py s.d.length cy)).toArray) (v2.heap.size) (stCells s (.slice py s.d.length cy)) := ⟨_, setRow_heap _ _ _ _ _ _ hz⟩
            have hz6 : v5.heap.size ≤ (v5.setRow (v2.heap.size) (stCells s (.slice py s.d.length cy)).toArray).heap.size := by rw [setRow_size]; exact Nat.le_refl _
            have x6 := x5.block (setRow_block v5 (v2.heap.size) (stCells s (.slice py s.d.length cy)).toArray (by omega))
            have mx6 := mx5.block (fun k hk => setRow_block v5 (v2.heap.size) (stCells s (.slice py s.d.length cy)).toArray (by have := ox k hk; omega))
            have my6 := my5.block (fun k hk => setRow_block v5 (v2.heap.size) (stCells s (.slice py s.d.length cy)).toArray (by have := oy k hk; omega))
            clear hz
            generalize v5.setRow (v2.heap.size) (stCells s (.slice py s.d.length cy)).toArray = v6 at hHeld hz6 x6 y6 mx6 my6 ⊢
            refine wpAnyH_done (by kernel_rfl) ?_ _
            exact ⟨rfl, v1.heap.size, v2.heap.size, px, cx, py, cy, by first | rfl | (simp only [put6, Act.put, List.setIfInBounds_toArray, List.set_cons_zero, List.set_cons_succ]), ⟨hHeld, ⟨hr, x6⟩, ⟨hr, y6⟩, mx6, my6, by omega, by omega, fun k hk => by have h1 := ox k hk; exact ⟨by omega, by omega, by omega, by omega, fun h => by have h2 := oy k h; omega⟩, fun k hk => by have h1 := oy k hk; exact ⟨by omega, by omega, by omega, by omega, fun h => by have h2 := ox k h; omega⟩, by omega⟩⟩
        · skip
          go_simp
          refine hK.out _ _ ?_ (fun hHeld => ?_)
          · exact bAlloc hHeld.size hHeld
          clear hK K
          try simp only [Act.put, List.setIfInBounds_toArray, List.set_cons_zero, List.set_cons_succ]
          have hC : Below v1.heap.size v1 (v1.alloc (.cells #[.int .i64 0, .int .i32 0, .int .i32 0, .int .i32 0, .int .i32 0, .int .i32 0, .int .i32 0, .int .i32 0, .int .i32 0, .int .i32 0, .int .i32 0, .int .i32 0, .int .i32 0, .int .i32 0, .int .i32 0, .int .i32 0, .int .i32 0, .slice none 0 0, .bool false, .int .i64 0] 29)) := bAlloc (Nat.le_refl _) (Below.refl _ _)
          have y2 := RowAt.alloc_new v1 [.int .i64 0, .int .i32 0, .int .i32 0, .int .i32 0, .int .i32 0, .int .i32 0, .int .i32 0, .int .i32 0, .int .i32 0, .int .i32 0, .int .i32 0, .int .i32 0, .int .i32 0, .int .i32 0, .int .i32 0, .int .i32 0, .int .i32 0, .slice none 0 0, .bool false, .int .i64 0] 29
          have hz2 : v1.heap.size < (v1.alloc (.cells #[.int .i64 0, .int .i32 0, .int .i32 0, .int .i32 0, .int .i32 0, .int .i32 0, .int .i32 0, .int .i32 0, .int .i32 0, .int .i32 0, .int .i32 0, .int .i32 0, .int .i32 0, .int .i32 0, .int .i32 0, .int .i32 0, .int .i32 0, .slice none 0 0, .bool false, .int .i64 0] 29)).heap.size := by simp
          have bdy : v1.heap.size ≤ v1.heap.size := Nat.le_refl _
          generalize v1.alloc (.cells #[.int .i64 0, .int .i32 0, .int .i32 0, .int .i32 0, .int .i32 0, .int .i32 0, .int .i32 0, .int .i32 0, .int .i32 0, .int .i32 0, .int .i32 0, .int .i32 0, .int .i32 0, .int .i32 0, .int .i32 0, .int .i32 0, .int .i32 0, .slice none 0 0, .bool false, .int .i64 0] 29) = v2 at hHeld hC y2 hz2 ⊢
          have mx2 := mx1.below hC (Nat.le_refl _)
          clear hC
          refine wpAnyH_ready (rs := [3, 4]) (by kernel_rfl) (by simp) ?_
          refine AllReadyH.cons (o := { dst := some 45, op := Go.Op.call { callee := Go.Callee.value (Go.Operand.func 12), args := #[Go.Operand.tmp 44], argTypes := #[29] }, type := 29, pos := "law.go:256", after := #[{ on := 2, ground := Go.Ground.data }, { on := 1, ground := Go.Ground.chain }], guard := none }) rfl (fun K hK => ?_) (AllReadyH.cons (o := { dst := some 14, op := Go.Op.alloc 29, type := 0, pos := "law.go:256", after := #[], guard := none }) rfl (fun K hK => ?_) AllReadyH.nil)
          · skip
            go_simp
            refine (copyS s dp s.d.length dcap _ hr rfl (hrd2.below hHeld (Nat.le_refl _)) hn0 (by omega)).mono ?_
            rintro e v3 ⟨py, cy, rfl, hC, hown⟩
            first | (refine hK.out _ _ ?_ (fun hHeld => ?_)) | (go_wp2_with fail; refine hK.out _ _ ?_ (fun hHeld => ?_))
            · exact hHeld.trans (hC.mono hHeld.size)
            clear hK K
            try simp only [Act.put, List.setIfInBounds_toArray, List.set_cons_zero, List.set_cons_succ]
            have my3 := MemAt.of_owns hown
            have hz3 := hC.size
            have oy : ∀ k, (Value.slice py s.d.length cy).ownBlock = some k → v2.heap.size ≤ k ∧ k < v3.heap.size := fun k hk => ⟨by have := ownBase hown hk; omega, own_lt hown hk⟩
            clear hown
            have y3 := y2.below hC y2.lt
            have mx3 := mx2.below hC (Nat.le_refl _)
            clear hC
            refine wpAnyH_ready (rs := [4]) (by kernel_rfl) (by simp) ?_
            refine AllReadyH.cons (o := { dst := some 14, op := Go.Op.alloc 29, type := 0, pos := "law.go:256", after := #[], guard := none }) rfl (fun K hK => ?_) AllReadyH.nil
            go_simp
            refine hK.out _ _ ?_ (fun hHeld => ?_)
            · exact bAlloc hHeld.size hHeld
            clear hK K
            try simp only [Act.put, List.setIfInBounds_toArray, List.set_cons_zero, List.set_cons_succ]
            have hC : Below v3.heap.size v3 (v3.alloc (.cells #[.int .i64 0, .int .i32 0, .int .i32 0, .int .i32 0, .int .i32 0, .int .i32 0, .int .i32 0, .int .i32 0, .int .i32 0, .int .i32 0, .int .i32 0, .int .i32 0, .int .i32 0, .int .i32 0, .int .i32 0, .int .i32 0, .int .i32 0, .slice none 0 0, .bool false, .int .i64 0] 29)) := bAlloc (Nat.le_refl _) (Below.refl _ _)
            have x4 := RowAt.alloc_new v3 [.int .i64 0, .int .i32 0, .int .i32 0, .int .i32 0, .int .i32 0, .int .i32 0, .int .i32 0, .int .i32 0, .int .i32 0, .int .i32 0, .int .i32 0, .int .i32 0, .int .i32 0, .int .i32 0, .int .i32 0, .int .i32 0, .int .i32 0, .slice none 0 0, .bool false, .int .i64 0] 29
            have hz4 : v3.heap.size < (v3.alloc (.cells #[.int .i64 0, .int .i32 0, .int .i32 0, .int .i32 0, .int .i32 0, .int .i32 0, .int .i32 0, .int .i32 0, .int .i32 0, .int .i32 0, .int .i32 0, .int .i32 0, .int .i32 0, .int .i32 0, .int .i32 0, .int .i32 0, .int .i32 0, .slice none 0 0, .bool false, .int .i64 0] 29)).heap.size := by simp
            have bdx : v3.heap.size ≤ v3.heap.size := Nat.le_refl _
            generalize v3.alloc (.cells #[.int .i64 0, .int .i32 0, .int .i32 0, .int .i32 0, .int .i32 0, .int .i32 0, .int .i32 0, .int .i32 0, .int .i32 0, .int .i32 0, .int .i32 0, .int .i32 0, .int .i32 0, .int .i32 0, .int .i32 0, .int .i32 0, .int .i32 0, .slice none 0 0, .bool false, .int .i64 0] 29) = v4 at hHeld hC x4 hz4 ⊢
            have y4 := y3.below hC y3.lt
            have mx4 := mx3.below hC (Nat.le_refl _)
            have my4 := my3.below hC (Nat.le_refl _)
            clear hC
            refine wpAnyH_ready (rs := [6]) (by kernel_rfl) (by simp) ?_
            refine AllReadyH.cons (o := { dst := none, op := Go.Op.store 29 (Go.Operand.tmp 14) (Go.Operand.tmp 43), type := 0, pos := "law.go:256", after := #[{ on := 4, ground := Go.Ground.data }, { on := 1, ground := Go.Ground.data }, { on := 3, ground := Go.Ground.chain }, { on := 0, ground := Go.Ground.phase }, { on := 1, ground := Go.Ground.phase }, { on := 2, ground := Go.Ground.textOnly Go.Departure.lateStores }, { on := 3, ground := Go.Ground.phase }, { on := 4, ground := Go.Ground.phase }, { on := 5, ground := Go.Ground.phase }], guard := none }) rfl (fun K hK => ?_) AllReadyH.nil
            obtain ⟨tzx, hz⟩ := x4
            have hbx := lt_of_block hz
            have hby := y4.lt
            refine step_store_row rfl 29 (.tmp 14) (.tmp 43) rfl (v3.heap.size) _ rfl rfl tzx _ hz (by rw [List.size_toArray, stCells_len hr]; exact infoState) (by first | (rw [List.size_toArray, List.size_toArray, stCells_len hr]; rfl) | (rw [List.size_toArray, stCells_len hr]; rfl)) (stCells_one s _ _ _) ?_
            refine hK.out _ _ ?_ (fun hHeld => ?_)
            · exact bRow (by have := hHeld.size; omega) hHeld
            clear hK K
            try simp only [Act.put, List.setIfInBounds_toArray, List.set_cons_zero, List.set_cons_succ]
            have x5 : RowAt (v4.setRow (v3.heap.size) (stCells s (.slice px s.d.length cx)).toArray) (v3.heap.size) (stCells s (.slice px s.d.length cx)) := ⟨_, setRow_heap _ _ _ _ _ _ hz⟩
            have hz5 : v4.heap.size ≤ (v4.setRow (v3.heap.size) (stCells s (.slice px s.d.length cx)).toArray).heap.size := by rw [setRow_size]; exact Nat.le_refl _
            have y5 := y4.block (setRow_block v4 (v3.heap.size) (stCells s (.slice px s.d.length cx)).toArray (by omega))
            have mx5 := mx4.block (fun k hk => setRow_block v4 (v3.heap.size) (stCells s (.slice px s.d.length cx)).toArray (by have := ox k hk; omega))
            have my5 := my4.block (fun k hk => setRow_block v4 (v3.heap.size) (stCells s (.slice px s.d.length cx)).toArray (by have := oy k hk; omega))
            clear hz
            generalize v4.setRow (v3.heap.size) (stCells s (.slice px s.d.length cx)).toArray = v5 at hHeld hz5 y5 x5 mx5 my5 ⊢
            refine wpAnyH_ready (rs := [7]) (by kernel_rfl) (by simp) ?_
            refine AllReadyH.cons (o := { dst := none, op := Go.Op.store 29 (Go.Operand.tmp 15) (Go.Operand.tmp 45), type := 0, pos := "law.go:256", after := #[{ on := 5, ground := Go.Ground.data }, { on := 3, ground := Go.Ground.data }, { on := 6, ground := Go.Ground.chain }, { on := 0, ground := Go.Ground.phase }, { on := 1, ground := Go.Ground.phase }, { on := 2, ground := Go.Ground.phase }, { on := 3, ground := Go.Ground.phase }, { on := 4, ground := Go.Ground.phase }, { on := 5, ground := Go.Ground.phase }, { on := 6, ground := Go.Ground.phase }], guard := none }) rfl (fun K hK => ?_) AllReadyH.nil
            obtain ⟨tzy, hz⟩ := y5
            refine step_store_row rfl 29 (.tmp 15) (.tmp 45) rfl (v1.heap.size) _ rfl rfl tzy _ hz (by rw [List.size_toArray, stCells_len hr]; exact infoState) (by first | (rw [List.size_toArray, List.size_toArray, stCells_len hr]; rfl) | (rw [List.size_toArray, stCells_len hr]; rfl)) (stCells_one s _ _ _) ?_
            refine hK.out _ _ ?_ (fun hHeld => ?_)
            · exact bRow (by have := hHeld.size; omega) hHeld
            clear hK K
            try simp only [Act.put, List.setIfInBounds_toArray, List.set_cons_zero, List.set_cons_succ]
            have y6 : RowAt (v5.setRow (v1.heap.size) (stCells s (.slice py s.d.length cy)).toArray) (v1.heap.size) (stCells s (.slice py s.d.length cy)) := ⟨_, setRow_heap _ _ _ _ _ _ hz⟩
            have hz6 : v5.heap.size ≤ (v5.setRow (v1.heap.size) (stCells s (.slice py s.d.length cy)).toArray).heap.size := by rw [setRow_size]; exact Nat.le_refl _
            have x6 := x5.block (setRow_block v5 (v1.heap.size) (stCells s (.slice py s.d.length cy)).toArray (by omega))
            have mx6 := mx5.block (fun k hk => setRow_block v5 (v1.heap.size) (stCells s (.slice py s.d.length cy)).toArray (by have := ox k hk; omega))
            have my6 := my5.block (fun k hk => setRow_block v5 (v1.heap.size) (stCells s (.slice py s.d.length cy)).toArray (by have := oy k hk; omega))
            clear hz
            generalize v5.setRow (v1.heap.size) (stCells s (.slice py s.d.length cy)).toArray = v6 at hHeld hz6 y6 x6 mx6 my6 ⊢
            refine wpAnyH_done (by kernel_rfl) ?_ _
            exact ⟨rfl, v3.heap.size, v1.heap.size, px, cx, py, cy, by first | rfl | (simp only [put6, Act.put, List.setIfInBounds_toArray, List.set_cons_zero, List.set_cons_succ]), ⟨hHeld, ⟨hr, x6⟩, ⟨hr, y6⟩, mx6, my6, by omega, by omega, fun k hk => by have h1 := ox k hk; exact ⟨by omega, by omega, by omega, by omega, fun h => by have h2 := oy k h; omega⟩, fun k hk => by have h1 := oy k hk; exact ⟨by omega, by omega, by omega, by omega, fun h => by have h2 := ox k h; omega⟩, by omega⟩⟩
          · skip
            go_simp
            refine hK.out _ _ ?_ (fun hHeld => ?_)
            · exact bAlloc hHeld.size hHeld
            clear hK K
            try simp only [Act.put, List.setIfInBounds_toArray, List.set_cons_zero, List.set_cons_succ]
            have hC : Below v2.heap.size v2 (v2.alloc (.cells #[.int .i64 0, .int .i32 0, .int .i32 0, .int .i32 0, .int .i32 0, .int .i32 0, .int .i32 0, .int .i32 0, .int .i32 0, .int .i32 0, .int .i32 0, .int .i32 0, .int .i32 0, .int .i32 0, .int .i32 0, .int .i32 0, .int .i32 0, .slice none 0 0, .bool false, .int .i64 0] 29)) := bAlloc (Nat.le_refl _) (Below.refl _ _)
            have x3 := RowAt.alloc_new v2 [.int .i64 0, .int .i32 0, .int .i32 0, .int .i32 0, .int .i32 0, .int .i32 0, .int .i32 0, .int .i32 0, .int .i32 0, .int .i32 0, .int .i32 0, .int .i32 0, .int .i32 0, .int .i32 0, .int .i32 0, .int .i32 0, .int .i32 0, .slice none 0 0, .bool false, .int .i64 0] 29
            have hz3 : v2.heap.size < (v2.alloc (.cells #[.int .i64 0, .int .i32 0, .int .i32 0, .int .i32 0, .int .i32 0, .int .i32 0, .int .i32 0, .int .i32 0, .int .i32 0, .int .i32 0, .int .i32 0, .int .i32 0, .int .i32 0, .int .i32 0, .int .i32 0, .int .i32 0, .int .i32 0, .slice none 0 0, .bool false, .int .i64 0] 29)).heap.size := by simp
            have bdx : v2.heap.size ≤ v2.heap.size := Nat.le_refl _
            generalize v2.alloc (.cells #[.int .i64 0, .int .i32 0, .int .i32 0, .int .i32 0, .int .i32 0, .int .i32 0, .int .i32 0, .int .i32 0, .int .i32 0, .int .i32 0, .int .i32 0, .int .i32 0, .int .i32 0, .int .i32 0, .int .i32 0, .int .i32 0, .int .i32 0, .slice none 0 0, .bool false, .int .i64 0] 29) = v3 at hHeld hC x3 hz3 ⊢
            have y3 := y2.below hC y2.lt
            have mx3 := mx2.below hC (Nat.le_refl _)
            clear hC
            refine wpAnyH_ready (rs := [3]) (by kernel_rfl) (by simp) ?_
            refine AllReadyH.cons (o := { dst := some 45, op := Go.Op.call { callee := Go.Callee.value (Go.Operand.func 12), args := #[Go.Operand.tmp 44], argTypes := #[29] }, type := 29, pos := "law.go:256", after := #[{ on := 2, ground := Go.Ground.data }, { on := 1, ground := Go.Ground.chain }], guard := none }) rfl (fun K hK => ?_) AllReadyH.nil
            go_simp
            refine (copyS s dp s.d.length dcap _ hr rfl (hrd2.below hHeld (Nat.le_refl _)) hn0 (by omega)).mono ?_
            rintro e v4 ⟨py, cy, rfl, hC, hown⟩
            first | (refine hK.out _ _ ?_ (fun hHeld => ?_)) | (go_wp2_with fail; refine hK.out _ _ ?_ (fun hHeld => ?_))
            · exact hHeld.trans (hC.mono hHeld.size)
            clear hK K
            try simp only [Act.put, List.setIfInBounds_toArray, List.set_cons_zero, List.set_cons_succ]
            have my4 := MemAt.of_owns hown
            have hz4 := hC.size
            have oy : ∀ k, (Value.slice py s.d.length cy).ownBlock = some k → v3.heap.size ≤ k ∧ k < v4.heap.size := fun k hk => ⟨by have := ownBase hown hk; omega, own_lt hown hk⟩
            clear hown
            have y4 := y3.below hC y3.lt
            have x4 := x3.below hC x3.lt
            have mx4 := mx3.below hC (Nat.le_refl _)
            clear hC
            refine wpAnyH_ready (rs := [6]) (by kernel_rfl) (by simp) ?_
            refine AllReadyH.cons (o := { dst := none, op := Go.Op.store 29 (Go.Operand.tmp 14) (Go.Operand.tmp 43), type := 0, pos := "law.go:256", after := #[{ on := 4, ground := Go.Ground.data }, { on := 1, ground := Go.Ground.data }, { on := 3, ground := Go.Ground.chain }, { on := 0, ground := Go.Ground.phase }, { on := 1, ground := Go.Ground.phase }, { on := 2, ground := Go.Ground.textOnly Go.Departure.lateStores }, { on := 3, ground := Go.Ground.phase }, { on := 4, ground := Go.Ground.phase }, { on := 5, ground := Go.Ground.phase }], guard := none }) rfl (fun K hK => ?_) AllReadyH.nil
            obtain ⟨tzx, hz⟩ := x4
            have hbx := lt_of_block hz
            have hby := y4.lt
            refine step_store_row rfl 29 (.tmp 14) (.tmp 43) rfl (v2.heap.size) _ rfl rfl tzx _ hz (by rw [List.size_toArray, stCells_len hr]; exact infoState) (by first | (rw [List.size_toArray, List.size_toArray, stCells_len hr]; rfl) | (rw [List.size_toArray, stCells_len hr]; rfl)) (stCells_one s _ _ _) ?_
            refine hK.out _ _ ?_ (fun hHeld => ?_)
            · exact bRow (by have := hHeld.size; omega) hHeld
            clear hK K
            try simp only [Act.put, List.setIfInBounds_toArray, List.set_cons_zero, List.set_cons_succ]
            have x5 : RowAt (v4.setRow (v2.heap.size) (stCells s (.slice px s.d.length cx)).toArray) (v2.heap.size) (stCells s (.slice px s.d.length cx)) := ⟨_, setRow_heap _ _ _ _ _ _ hz⟩
            have hz5 : v4.heap.size ≤ (v4.setRow (v2.heap.size) (stCells s (.slice px s.d.length cx)).toArray).heap.size := by rw [setRow_size]; exact Nat.le_refl _
            have y5 := y4.block (setRow_block v4 (v2.heap.size) (stCells s (.slice px s.d.length cx)).toArray (by omega))
            have mx5 := mx4.block (fun k hk => setRow_block v4 (v2.heap.size) (stCells s (.slice px s.d.length cx)).toArray (by have := ox k hk; omega))
            have my5 := my4.block (fun k hk => setRow_block v4 (v2.heap.size) (stCells s (.slice px s.d.length cx)).toArray (by have := oy k hk; omega))
            clear hz
            generalize v4.setRow (v2.heap.size) (stCells s (.slice px s.d.length cx)).toArray = v5 at hHeld hz5 y5 x5 mx5 my5 ⊢
            refine wpAnyH_ready (rs := [7]) (by kernel_rfl) (by simp) ?_
            refine AllReadyH.cons (o := { dst := none, op := Go.Op.store 29 (Go.Operand.tmp 15) (Go.Operand.tmp 45), type := 0, pos := "law.go:256", after := #[{ on := 5, ground := Go.Ground.data }, { on := 3, ground := Go.Ground.data }, { on := 6, ground := Go.Ground.chain }, { on := 0, ground := Go.Ground.phase }, { on := 1, ground := Go.Ground.phase }, { on := 2, ground := Go.Ground.phase }, { on := 3, ground := Go.Ground.phase }, { on := 4, ground := Go.Ground.phase }, { on := 5, ground := Go.Ground.phase }, { on := 6, ground := Go.Ground.phase }], guard := none }) rfl (fun K hK => ?_) AllReadyH.nil
            obtain ⟨tzy, hz⟩ := y5
            refine step_store_row rfl 29 (.tmp 15) (.tmp 45) rfl (v1.heap.size) _ rfl rfl tzy _ hz (by rw [List.size_toArray, stCells_len hr]; exact infoState) (by first | (rw [List.size_toArray, List.size_toArray, stCells_len hr]; rfl) | (rw [List.size_toArray, stCells_len hr]; rfl)) (stCells_one s _ _ _) ?_
            refine hK.out _ _ ?_ (fun hHeld => ?_)
            · exact bRow (by have := hHeld.size; omega) hHeld
            clear hK K
            try simp only [Act.put, List.setIfInBounds_toArray, List.set_cons_zero, List.set_cons_succ]
            have y6 : RowAt (v5.setRow (v1.heap.size) (stCells s (.slice py s.d.length cy)).toArray) (v1.heap.size) (stCells s (.slice py s.d.length cy)) := ⟨_, setRow_heap _ _ _ _ _ _ hz⟩
            have hz6 : v5.heap.size ≤ (v5.setRow (v1.heap.size) (stCells s (.slice py s.d.length cy)).toArray).heap.size := by rw [setRow_size]; exact Nat.le_refl _
            have x6 := x5.block (setRow_block v5 (v1.heap.size) (stCells s (.slice py s.d.length cy)).toArray (by omega))
            have mx6 := mx5.block (fun k hk => setRow_block v5 (v1.heap.size) (stCells s (.slice py s.d.length cy)).toArray (by have := ox k hk; omega))
            have my6 := my5.block (fun k hk => setRow_block v5 (v1.heap.size) (stCells s (.slice py s.d.length cy)).toArray (by have := oy k hk; omega))
            clear hz
            generalize v5.setRow (v1.heap.size) (stCells s (.slice py s.d.length cy)).toArray = v6 at hHeld hz6 y6 x6 mx6 my6 ⊢
            refine wpAnyH_done (by kernel_rfl) ?_ _
            exact ⟨rfl, v2.heap.size, v1.heap.size, px, cx, py, cy, by first | rfl | (simp only [put6, Act.put, List.setIfInBounds_toArray, List.set_cons_zero, List.set_cons_succ]), ⟨hHeld, ⟨hr, x6⟩, ⟨hr, y6⟩, mx6, my6, by omega, by omega, fun k hk => by have h1 := ox k hk; exact ⟨by omega, by omega, by omega, by omega, fun h => by have h2 := oy k h; omega⟩, fun k hk => by have h1 := oy k hk; exact ⟨by omega, by omega, by omega, by omega, fun h => by have h2 := ox k h; omega⟩, by omega⟩⟩
      · skip
        go_simp
        refine hK.out _ _ ?_ (fun hHeld => ?_)
        · exact bAlloc hHeld.size hHeld
        clear hK K
        try simp only [Act.put, List.setIfInBounds_toArray, List.set_cons_zero, List.set_cons_succ]
        have hC : Below v0.heap.size v0 (v0.alloc (.cells #[.int .i64 0, .int .i32 0, .int .i32 0, .int .i32 0, .int .i32 0, .int .i32 0, .int .i32 0, .int .i32 0, .int .i32 0, .int .i32 0, .int .i32 0, .int .i32 0, .int .i32 0, .int .i32 0, .int .i32 0, .int .i32 0, .int .i32 0, .slice none 0 0, .bool false, .int .i64 0] 29)) := bAlloc (Nat.le_refl _) (Below.refl _ _)
        have x1 := RowAt.alloc_new v0 [.int .i64 0, .int .i32 0, .int .i32 0, .int .i32 0, .int .i32 0, .int .i32 0, .int .i32 0, .int .i32 0, .int .i32 0, .int .i32 0, .int .i32 0, .int .i32 0, .int .i32 0, .int .i32 0, .int .i32 0, .int .i32 0, .int .i32 0, .slice none 0 0, .bool false, .int .i64 0] 29
        have hz1 : v0.heap.size < (v0.alloc (.cells #[.int .i64 0, .int .i32 0, .int .i32 0, .int .i32 0, .int .i32 0, .int .i32 0, .int .i32 0, .int .i32 0, .int .i32 0, .int .i32 0, .int .i32 0, .int .i32 0, .int .i32 0, .int .i32 0, .int .i32 0, .int .i32 0, .int .i32 0, .slice none 0 0, .bool false, .int .i64 0] 29)).heap.size := by simp
        have bdx : v0.heap.size ≤ v0.heap.size := Nat.le_refl _
        generalize v0.alloc (.cells #[.int .i64 0, .int .i32 0, .int .i32 0, .int .i32 0, .int .i32 0, .int .i32 0, .int .i32 0, .int .i32 0, .int .i32 0, .int .i32 0, .int .i32 0, .int .i32 0, .int .i32 0, .int .i32 0, .int .i32 0, .int .i32 0, .int .i32 0, .slice none 0 0, .bool false, .int .i64 0] 29) = v1 at hHeld hC x1 hz1 ⊢
        clear hC
        refine wpAnyH_ready (rs := [1, 5]) (by kernel_rfl) (by simp) ?_
        refine AllReadyH.cons (o := { dst := some 43, op := Go.Op.call { callee := Go.Callee.value (Go.Operand.func 12), args := #[Go.Operand.tmp 42], argTypes := #[29] }, type := 29, pos := "law.go:256", after := #[{ on := 0, ground := Go.Ground.data }], guard := none }) rfl (fun K hK => ?_) (AllReadyH.cons (o := { dst := some 15, op := Go.Op.alloc 29, type := 0, pos := "law.go:256", after := #[], guard := none }) rfl (fun K hK => ?_) AllReadyH.nil)
        · skip
          go_simp
          refine (copyS s dp s.d.length dcap _ hr rfl (hrd2.below hHeld (Nat.le_refl _)) hn0 (by omega)).mono ?_
          rintro e v2 ⟨px, cx, rfl, hC, hown⟩
          first | (refine hK.out _ _ ?_ (fun hHeld => ?_)) | (go_wp2_with fail; refine hK.out _ _ ?_ (fun hHeld => ?_))
          · exact hHeld.trans (hC.mono hHeld.size)
          clear hK K
          try simp only [Act.put, List.setIfInBounds_toArray, List.set_cons_zero, List.set_cons_succ]
          have mx2 := MemAt.of_owns hown
          have hz2 := hC.size
          have ox : ∀ k, (Value.slice px s.d.length cx).ownBlock = some k → v1.heap.size ≤ k ∧ k < v2.heap.size := fun k hk => ⟨by have := ownBase hown hk; omega, own_lt hown hk⟩
          clear hown
          have x2 := x1.below hC x1.lt
          clear hC
          refine wpAnyH_ready (rs := [3, 5]) (by kernel_rfl) (by simp) ?_
          refine AllReadyH.cons (o := { dst := some 45, op := Go.Op.call { callee := Go.Callee.value (Go.Operand.func 12), args := #[Go.Operand.tmp 44], argTypes := #[29] }, type := 29, pos := "law.go:256", after := #[{ on := 2, ground := Go.Ground.data }, { on := 1, ground := Go.Ground.chain }], guard := none }) rfl (fun K hK => ?_) (AllReadyH.cons (o := { dst := some 15, op := Go.Op.alloc 29, type := 0, pos := "law.go:256", after := #[], guard := none }) rfl (fun K hK => ?_) AllReadyH.nil)
          · skip
            go_simp
            refine (copyS s dp s.d.length dcap _ hr rfl (hrd2.below hHeld (Nat.le_refl _)) hn0 (by omega)).mono ?_
            rintro e v3 ⟨py, cy, rfl, hC, hown⟩
            first | (refine hK.out _ _ ?_ (fun hHeld => ?_)) | (go_wp2_with fail; refine hK.out _ _ ?_ (fun hHeld => ?_))
            · exact hHeld.trans (hC.mono hHeld.size)
            clear hK K
            try simp only [Act.put, List.setIfInBounds_toArray, List.set_cons_zero, List.set_cons_succ]
            have my3 := MemAt.of_owns hown
            have hz3 := hC.size
            have oy : ∀ k, (Value.slice py s.d.length cy).ownBlock = some k → v2.heap.size ≤ k ∧ k < v3.heap.size := fun k hk => ⟨by have := ownBase hown hk; omega, own_lt hown hk⟩
            clear hown
            have x3 := x2.below hC x2.lt
            have mx3 := mx2.below hC (Nat.le_refl _)
            clear hC
            refine wpAnyH_ready (rs := [5]) (by kernel_rfl) (by simp) ?_
            refine AllReadyH.cons (o := { dst := some 15, op := Go.Op.alloc 29, type := 0, pos := "law.go:256", after := #[], guard := none }) rfl (fun K hK => ?_) AllReadyH.nil
            go_simp
            refine hK.out _ _ ?_ (fun hHeld => ?_)
            · exact bAlloc hHeld.size hHeld
            clear hK K
            try simp only [Act.put, List.setIfInBounds_toArray, List.set_cons_zero, List.set_cons_succ]
            have hC : Below v3.heap.size v3 (v3.alloc (.cells #[.int .i64 0, .int .i32 0, .int .i32 0, .int .i32 0, .int .i32 0, .int .i32 0, .int .i32 0, .int .i32 0, .int .i32 0, .int .i32 0, .int .i32 0, .int .i32 0, .int .i32 0, .int .i32 0, .int .i32 0, .int .i32 0, .int .i32 0, .slice none 0 0, .bool false, .int .i64 0] 29)) := bAlloc (Nat.le_refl _) (Below.refl _ _)
            have y4 := RowAt.alloc_new v3 [.int .i64 0, .int .i32 0, .int .i32 0, .int .i32 0, .int .i32 0, .int .i32 0, .int .i32 0, .int .i32 0, .int .i32 0, .int .i32 0, .int .i32 0, .int .i32 0, .int .i32 0, .int .i32 0, .int .i32 0, .int .i32 0, .int .i32 0, .slice none 0 0, .bool false, .int .i64 0] 29
            have hz4 : v3.heap.size < (v3.alloc (.cells #[.int .i64 0, .int .i32 0, .int .i32 0, .int .i32 0, .int .i32 0, .int .i32 0, .int .i32 0, .int .i32 0, .int .i32 0, .int .i32 0, .int .i32 0, .int .i32 0, .int .i32 0, .int .i32 0, .int .i32 0, .int .i32 0, .int .i32 0, .slice none 0 0, .bool false, .int .i64 0] 29)).heap.size := by simp
            have bdy : v3.heap.size ≤ v3.heap.size := Nat.le_refl _
            generalize v3.alloc (.cells #[.int .i64 0, .int .i32 0, .int .i32 0, .int .i32 0, .int .i32 0, .int .i32 0, .int .i32 0, .int .i32 0, .int .i32 0, .int .i32 0, .int .i32 0, .int .i32 0, .int .i32 0, .int .i32 0, .int .i32 0, .int .i32 0, .int .i32 0, .slice none 0 0, .bool false, .int .i64 0] 29) = v4 at hHeld hC y4 hz4 ⊢
            have x4 := x3.below hC x3.lt
            have mx4 := mx3.below hC (Nat.le_refl _)
            have my4 := my3.below hC (Nat.le_refl _)
            clear hC
            refine wpAnyH_ready (rs := [6]) (by kernel_rfl) (by simp) ?_
            refine AllReadyH.cons (o := { dst := none, op := Go.Op.store 29 (Go.Operand.tmp 14) (Go.Operand.tmp 43), type := 0, pos := "law.go:256", after := #[{ on := 4, ground := Go.Ground.data }, { on := 1, ground := Go.Ground.data }, { on := 3, ground := Go.Ground.chain }, { on := 0, ground := Go.Ground.phase }, { on := 1, ground := Go.Ground.phase }, { on := 2, ground := Go.Ground.textOnly Go.Departure.lateStores }, { on := 3, ground := Go.Ground.phase }, { on := 4, ground := Go.Ground.phase }, { on := 5, ground := Go.Ground.phase }], guard := none }) rfl (fun K hK => ?_) AllReadyH.nil
            obtain ⟨tzx, hz⟩ := x4
            have hbx := lt_of_block hz
            have hby := y4.lt
            refine step_store_row rfl 29 (.tmp 14) (.tmp 43) rfl (v0.heap.size) _ rfl rfl tzx _ hz (by rw [List.size_toArray, stCells_len hr]; exact infoState) (by first | (rw [List.size_toArray, List.size_toArray, stCells_len hr]; rfl) | (rw [List.size_toArray, stCells_len hr]; rfl)) (stCells_one s _ _ _) ?_
            refine hK.out _ _ ?_ (fun hHeld => ?_)
            · exact bRow (by have := hHeld.size; omega) hHeld
            clear hK K
            try simp only [Act.put, List.setIfInBounds_toArray, List.set_cons_zero, List.set_cons_succ]
            have x5 : RowAt (v4.setRow (v0.heap.size) (stCells s (.slice px s.d.length cx)).toArray) (v0.heap.size) (stCells s (.slice px s.d.length cx)) := ⟨_, setRow_heap _ _ _ _ _ _ hz⟩
            have hz5 : v4.heap.size ≤ (v4.setRow (v0.heap.size) (stCells s (.slice px s.d.length cx)).toArray).heap.size := by rw [setRow_size]; exact Nat.le_refl _
            have y5 := y4.block (setRow_block v4 (v0.heap.size) (stCells s (.slice px s.d.length cx)).toArray (by omega))
            have mx5 := mx4.block (fun k hk => setRow_block v4 (v0.heap.size) (stCells s (.slice px s.d.length cx)).toArray (by have := ox k hk; omega))
            have my5 := my4.block (fun k hk => setRow_block v4 (v0.heap.size) (stCells s (.slice px s.d.length cx)).toArray (by have := oy k hk; omega))
            clear hz
            generalize v4.setRow (v0.heap.size) (stCells s (.slice px s.d.length cx)).toArray = v5 at hHeld hz5 x5 y5 mx5 my5 ⊢
            refine wpAnyH_ready (rs := [7]) (by kernel_rfl) (by simp) ?_
            refine AllReadyH.cons (o := { dst := none, op := Go.Op.store 29 (Go.Operand.tmp 15) (Go.Operand.tmp 45), type := 0, pos := "law.go:256", after := #[{ on := 5, ground := Go.Ground.data }, { on := 3, ground := Go.Ground.data }, { on := 6, ground := Go.Ground.chain }, { on := 0, ground := Go.Ground.phase }, { on := 1, ground := Go.Ground.phase }, { on := 2, ground := Go.Ground.phase }, { on := 3, ground := Go.Ground.phase }, { on := 4, ground := Go.Ground.phase }, { on := 5, ground := Go.Ground.phase }, { on := 6, ground := Go.Ground.phase }], guard := none }) rfl (fun K hK => ?_) AllReadyH.nil
            obtain ⟨tzy, hz⟩ := y5
            refine step_store_row rfl 29 (.tmp 15) (.tmp 45) rfl (v3.heap.size) _ rfl rfl tzy _ hz (by rw [List.size_toArray, stCells_len hr]; exact infoState) (by first | (rw [List.size_toArray, List.size_toArray, stCells_len hr]; rfl) | (rw [List.size_toArray, stCells_len hr]; rfl)) (stCells_one s _ _ _) ?_
            refine hK.out _ _ ?_ (fun hHeld => ?_)
            · exact bRow (by have := hHeld.size; omega) hHeld
            clear hK K
            try simp only [Act.put, List.setIfInBounds_toArray, List.set_cons_zero, List.set_cons_succ]
            have y6 : RowAt (v5.setRow (v3.heap.size) (stCells s (.slice py s.d.length cy)).toArray) (v3.heap.size) (stCells s (.slice py s.d.length cy)) := ⟨_, setRow_heap _ _ _ _ _ _ hz⟩
            have hz6 : v5.heap.size ≤ (v5.setRow (v3.heap.size) (stCells s (.slice py s.d.length cy)).toArray).heap.size := by rw [setRow_size]; exact Nat.le_refl _
            have x6 := x5.block (setRow_block v5 (v3.heap.size) (stCells s (.slice py s.d.length cy)).toArray (by omega))
            have mx6 := mx5.block (fun k hk => setRow_block v5 (v3.heap.size) (stCells s (.slice py s.d.length cy)).toArray (by have := ox k hk; omega))
            have my6 := my5.block (fun k hk => setRow_block v5 (v3.heap.size) (stCells s (.slice py s.d.length cy)).toArray (by have := oy k hk; omega))
            clear hz
            generalize v5.setRow (v3.heap.size) (stCells s (.slice py s.d.length cy)).toArray = v6 at hHeld hz6 x6 y6 mx6 my6 ⊢
            refine wpAnyH_done (by kernel_rfl) ?_ _
            exact ⟨rfl, v0.heap.size, v3.heap.size, px, cx, py, cy, by first | rfl | (simp only [put6, Act.put, List.setIfInBounds_toArray, List.set_cons_zero, List.set_cons_succ]), ⟨hHeld, ⟨hr, x6⟩, ⟨hr, y6⟩, mx6, my6, by omega, by omega, fun k hk => by have h1 := ox k hk; exact ⟨by omega, by omega, by omega, by omega, fun h => by have h2 := oy k h; omega⟩, fun k hk => by have h1 := oy k hk; exact ⟨by omega, by omega, by omega, by omega, fun h => by have h2 := ox k h; omega⟩, by omega⟩⟩
          · skip
            go_simp
            refine hK.out _ _ ?_ (fun hHeld => ?_)
            · exact bAlloc hHeld.size hHeld
            clear hK K
            try simp only [Act.put, List.setIfInBounds_toArray, List.set_cons_zero, List.set_cons_succ]
            have hC : Below v2.heap.size v2 (v2.alloc (.cells #[.int .i64 0, .int .i32 0, .int .i32 0, .int .i32 0, .int .i32 0, .int .i32 0, .int .i32 0, .int .i32 0, .int .i32 0, .int .i32 0, .int .i32 0, .int .i32 0, .int .i32 0, .int .i32 0, .int .i32 0, .int .i32 0, .int .i32 0, .slice none 0 0, .bool false, .int .i64 0] 29)) := bAlloc (Nat.le_refl _) (Below.refl _ _)
            have y3 := RowAt.alloc_new v2 [.int .i64 0, .int .i32 0, .int .i32 0, .int .i32 0, .int .i32 0, .int .i32 0, .int .i32 0, .int .i32 0, .int .i32 0, .int .i32 0, .int .i32 0, .int .i32 0, .int .i32 0, .int .i32 0, .int .i32 0, .int .i32 0, .int .i32 0, .slice none 0 0, .bool false, .int .i64 0] 29
            have hz3 : v2.heap.size < (v2.alloc (.cells #[.int .i64 0, .int .i32 0, .int .i32 0, .int .i32 0, .int .i32 0, .int .i32 0, .int .i32 0, .int .i32 0, .int .i32 0, .int .i32 0, .int .i32 0, .int .i32 0, .int .i32 0, .int .i32 0, .int .i32 0, .int .i32 0, .int .i32 0, .slice none 0 0, .bool false, .int .i64 0] 29)).heap.size := by simp
            have bdy : v2.heap.size ≤ v2.heap.size := Nat.le_refl _
            generalize v2.alloc (.cells #[.int .i64 0, .int .i32 0, .int .i32 0, .int .i32 0, .int .i32 0, .int .i32 0, .int .i32 0, .int .i32 0, .int .i32 0, .int .i32 0, .int .i32 0, .int .i32 0, .int .i32 0, .int .i32 0, .int .i32 0, .int .i32 0, .int .i32 0, .slice none 0 0, .bool false, .int .i64 0] 29) = v3 at hHeld hC y3 hz3 ⊢
            have x3 := x2.below hC x2.lt
            have mx3 := mx2.below hC (Nat.le_refl _)
            clear hC
            refine wpAnyH_ready (rs := [3]) (by kernel_rfl) (by simp) ?_
            refine AllReadyH.cons (o := { dst := some 45, op := Go.Op.call { callee := Go.Callee.value (Go.Operand.func 12), args := #[Go.Operand.tmp 44], argTypes := #[29] }, type := 29, pos := "law.go:256", after := #[{ on := 2, ground := Go.Ground.data }, { on := 1, ground := Go.Ground.chain }], guard := none }) rfl (fun K hK => ?_) AllReadyH.nil
            go_simp
            refine (copyS s dp s.d.length dcap _ hr rfl (hrd2.below hHeld (Nat.le_refl _)) hn0 (by omega)).mono ?_
            rintro e v4 ⟨py, cy, rfl, hC, hown⟩
            first | (refine hK.out _ _ ?_ (fun hHeld => ?_)) | (go_wp2_with fail; refine hK.out _ _ ?_ (fun hHeld => ?_))
            · exact hHeld.trans (hC.mono hHeld.size)
            clear hK K
            try simp only [Act.put, List.setIfInBounds_toArray, List.set_cons_zero, List.set_cons_succ]
            have my4 := MemAt.of_owns hown
            have hz4 := hC.size
            have oy : ∀ k, (Value.slice py s.d.length cy).ownBlock = some k → v3.heap.size ≤ k ∧ k < v4.heap.size := fun k hk => ⟨by have := ownBase hown hk; omega, own_lt hown hk⟩
            clear hown
            have x4 := x3.below hC x3.lt
            have y4 := y3.below hC y3.lt
            have mx4 := mx3.below hC (Nat.le_refl _)
            clear hC
            refine wpAnyH_ready (rs := [6]) (by kernel_rfl) (by simp) ?_
            refine AllReadyH.cons (o := { dst := none, op := Go.Op.store 29 (Go.Operand.tmp 14) (Go.Operand.tmp 43), type := 0, pos := "law.go:256", after := #[{ on := 4, ground := Go.Ground.data }, { on := 1, ground := Go.Ground.data }, { on := 3, ground := Go.Ground.chain }, { on := 0, ground := Go.Ground.phase }, { on := 1, ground := Go.Ground.phase }, { on := 2, ground := Go.Ground.textOnly Go.Departure.lateStores }, { on := 3, ground := Go.Ground.phase }, { on := 4, ground := Go.Ground.phase }, { on := 5, ground := Go.Ground.phase }], guard := none }) rfl (fun K hK => ?_) AllReadyH.nil
            obtain ⟨tzx, hz⟩ := x4
            have hbx := lt_of_block hz
            have hby := y4.lt
            refine step_store_row rfl 29 (.tmp 14) (.tmp 43) rfl (v0.heap.size) _ rfl rfl tzx _ hz (by rw [List.size_toArray, stCells_len hr]; exact infoState) (by first | (rw [List.size_toArray, List.size_toArray, stCells_len hr]; rfl) | (rw [List.size_toArray, stCells_len hr]; rfl)) (stCells_one s _ _ _) ?_
            refine hK.out _ _ ?_ (fun hHeld => ?_)
            · exact bRow (by have := hHeld.size; omega) hHeld
            clear hK K
            try simp only [Act.put, List.setIfInBounds_toArray, List.set_cons_zero, List.set_cons_succ]
            have x5 : RowAt (v4.setRow (v0.heap.size) (stCells s (.slice px s.d.length cx)).toArray) (v0.heap.size) (stCells s (.slice px s.d.length cx)) := ⟨_, setRow_heap _ _ _ _ _ _ hz⟩
            have hz5 : v4.heap.size ≤ (v4.setRow (v0.heap.size) (stCells s (.slice px s.d.length cx)).toArray).heap.size := by rw [setRow_size]; exact Nat.le_refl _
            have y5 := y4.block (setRow_block v4 (v0.heap.size) (stCells s (.slice px s.d.length cx)).toArray (by omega))
            have mx5 := mx4.block (fun k hk => setRow_block v4 (v0.heap.size) (stCells s (.slice px s.d.length cx)).toArray (by have := ox k hk; omega))
            have my5 := my4.block (fun k hk => setRow_block v4 (v0.heap.size) (stCells s (.slice px s.d.length cx)).toArray (by have := oy k hk; omega))
            clear hz
            generalize v4.setRow (v0.heap.size) (stCells s (.slice px s.d.length cx)).toArray = v5 at hHeld hz5 x5 y5 mx5 my5 ⊢
            refine wpAnyH_ready (rs := [7]) (by kernel_rfl) (by simp) ?_
            refine AllReadyH.cons (o := { dst := none, op := Go.Op.store 29 (Go.Operand.tmp 15) (Go.Operand.tmp 45), type := 0, pos := "law.go:256", after := #[{ on := 5, ground := Go.Ground.data }, { on := 3, ground := Go.Ground.data }, { on := 6, ground := Go.Ground.chain }, { on := 0, ground := Go.Ground.phase }, { on := 1, ground := Go.Ground.phase }, { on := 2, ground := Go.Ground.phase }, { on := 3, ground := Go.Ground.phase }, { on := 4, ground := Go.Ground.phase }, { on := 5, ground := Go.Ground.phase }, { on := 6, ground := Go.Ground.phase }], guard := none }) rfl (fun K hK => ?_) AllReadyH.nil
            obtain ⟨tzy, hz⟩ := y5
            refine step_store_row rfl 29 (.tmp 15) (.tmp 45) rfl (v2.heap.size) _ rfl rfl tzy _ hz (by rw [List.size_toArray, stCells_len hr]; exact infoState) (by first | (rw [List.size_toArray, List.size_toArray, stCells_len hr]; rfl) | (rw [List.size_toArray, stCells_len hr]; rfl)) (stCells_one s _ _ _) ?_
            refine hK.out _ _ ?_ (fun hHeld => ?_)
            · exact bRow (by have := hHeld.size; omega) hHeld
            clear hK K
            try simp only [Act.put, List.setIfInBounds_toArray, List.set_cons_zero, List.set_cons_succ]
            have y6 : RowAt (v5.setRow (v2.heap.size) (stCells s (.slice py s.d.length cy)).toArray) (v2.heap.size) (stCells s (.slice py s.d.length cy)) := ⟨_, setRow_heap _ _ _ _ _ _ hz⟩
            have hz6 : v5.heap.size ≤ (v5.setRow (v2.heap.size) (stCells s (.slice py s.d.length cy)).toArray).heap.size := by rw [setRow_size]; exact Nat.le_refl _
            have x6 := x5.block (setRow_block v5 (v2.heap.size) (stCells s (.slice py s.d.length cy)).toArray (by omega))
            have mx6 := mx5.block (fun k hk => setRow_block v5 (v2.heap.size) (stCells s (.slice py s.d.length cy)).toArray (by have := ox k hk; omega))
            have my6 := my5.block (fun k hk => setRow_block v5 (v2.heap.size) (stCells s (.slice py s.d.length cy)).toArray (by have := oy k hk; omega))
            clear hz
            generalize v5.setRow (v2.heap.size) (stCells s (.slice py s.d.length cy)).toArray = v6 at hHeld hz6 x6 y6 mx6 my6 ⊢
            refine wpAnyH_done (by kernel_rfl) ?_ _
            exact ⟨rfl, v0.heap.size, v2.heap.size, px, cx, py, cy, by first | rfl | (simp only [put6, Act.put, List.setIfInBounds_toArray, List.set_cons_zero, List.set_cons_succ]), ⟨hHeld, ⟨hr, x6⟩, ⟨hr, y6⟩, mx6, my6, by omega, by omega, fun k hk => by have h1 := ox k hk; exact ⟨by omega, by omega, by omega, by omega, fun h => by have h2 := oy k h; omega⟩, fun k hk => by have h1 := oy k hk; exact ⟨by omega, by omega, by omega, by omega, fun h => by have h2 := ox k h; omega⟩, by omega⟩⟩
        · skip
          go_simp
          refine hK.out _ _ ?_ (fun hHeld => ?_)
          · exact bAlloc hHeld.size hHeld
          clear hK K
          try simp only [Act.put, List.setIfInBounds_toArray, List.set_cons_zero, List.set_cons_succ]
          have hC : Below v1.heap.size v1 (v1.alloc (.cells #[.int .i64 0, .int .i32 0, .int .i32 0, .int .i32 0, .int .i32 0, .int .i32 0, .int .i32 0, .int .i32 0, .int .i32 0, .int .i32 0, .int .i32 0, .int .i32 0, .int .i32 0, .int .i32 0, .int .i32 0, .int .i32 0, .int .i32 0, .slice none 0 0, .bool false, .int .i64 0] 29)) := bAlloc (Nat.le_refl _) (Below.refl _ _)
          have y2 := RowAt.alloc_new v1 [.int .i64 0, .int .i32 0, .int .i32 0, .int .i32 0, .int .i32 0, .int .i32 0, .int .i32 0, .int .i32 0, .int .i32 0, .int .i32 0, .int .i32 0, .int .i32 0, .int .i32 0, .int .i32 0, .int .i32 0, .int .i32 0, .int .i32 0, .slice none 0 0, .bool false, .int .i64 0] 29
          have hz2 : v1.heap.size < (v1.alloc (.cells #[.int .i64 0, .int .i32 0, .int .i32 0, .int .i32 0, .int .i32 0, .int .i32 0, .int .i32 0, .int .i32 0, .int .i32 0, .int .i32 0, .int .i32 0, .int .i32 0, .int .i32 0, .int .i32 0, .int .i32 0, .int .i32 0, .int .i32 0, .slice none 0 0, .bool false, .int .i64 0] 29)).heap.size := by simp
          have bdy : v1.heap.size ≤ v1.heap.size := Nat.le_refl _
          generalize v1.alloc (.cells #[.int .i64 0, .int .i32 0, .int .i32 0, .int .i32 0, .int .i32 0, .int .i32 0, .int .i32 0, .int .i32 0, .int .i32 0, .int .i32 0, .int .i32 0, .int .i32 0, .int .i32 0, .int .i32 0, .int .i32 0, .int .i32 0, .int .i32 0, .slice none 0 0, .bool false, .int .i64 0] 29) = v2 at hHeld hC y2 hz2 ⊢
          have x2 := x1.below hC x1.lt
          clear hC
          refine wpAnyH_ready (rs := [1]) (by kernel_rfl) (by simp) ?_
          refine AllReadyH.cons (o := { dst := some 43, op := Go.Op.call { callee := Go.Callee.value (Go.Operand.func 12), args := #[Go.Operand.tmp 42], argTypes := #[29] }, type := 29, pos := "law.go:256", after := #[{ on := 0, ground := Go.Ground.data }], guard := none }) rfl (fun K hK => ?_) AllReadyH.nil
          go_simp
          refine (copyS s dp s.d.length dcap _ hr rfl (hrd2.below hHeld (Nat.le_refl _)) hn0 (by omega)).mono ?_
          rintro e v3 ⟨px, cx, rfl, hC, hown⟩
          first | (refine hK.out _ _ ?_ (fun hHeld => ?_)) | (go_wp2_with fail; refine hK.out _ _ ?_ (fun hHeld => ?_))
          · exact hHeld.trans (hC.mono hHeld.size)
          clear hK K
          try simp only [Act.put, List.setIfInBounds_toArray, List.set_cons_zero, List.set_cons_succ]
          have mx3 := MemAt.of_owns hown
          have hz3 := hC.size
          have ox : ∀ k, (Value.slice px s.d.length cx).ownBlock = some k → v2.heap.size ≤ k ∧ k < v3.heap.size := fun k hk => ⟨by have := ownBase hown hk; omega, own_lt hown hk⟩
          clear hown
          have x3 := x2.below hC x2.lt
          have y3 := y2.below hC y2.lt
          clear hC
          refine wpAnyH_ready (rs := [3]) (by kernel_rfl) (by simp) ?_
          refine AllReadyH.cons (o := { dst := some 45, op := Go.Op.call { callee := Go.Callee.value (Go.Operand.func 12), args := #[Go.Operand.tmp 44], argTypes := #[29] }, type := 29, pos := "law.go:256", after := #[{ on := 2, ground := Go.Ground.data }, { on := 1, ground := Go.Ground.chain }], guard := none }) rfl (fun K hK => ?_) AllReadyH.nil
          go_simp
          refine (copyS s dp s.d.length dcap _ hr rfl (hrd2.below hHeld (Nat.le_refl _)) hn0 (by omega)).mono ?_
          rintro e v4 ⟨py, cy, rfl, hC, hown⟩
          first | (refine hK.out _ _ ?_ (fun hHeld => ?_)) | (go_wp2_with fail; refine hK.out _ _ ?_ (fun hHeld => ?_))
          · exact hHeld.trans (hC.mono hHeld.size)
          clear hK K
          try simp only [Act.put, List.setIfInBounds_toArray, List.set_cons_zero, List.set_cons_succ]
          have my4 := MemAt.of_owns hown
          have hz4 := hC.size
          have oy : ∀ k, (Value.slice py s.d.length cy).ownBlock = some k → v3.heap.size ≤ k ∧ k < v4.heap.size := fun k hk => ⟨by have := ownBase hown hk; omega, own_lt hown hk⟩
          clear hown
          have x4 := x3.below hC x3.lt
          have y4 := y3.below hC y3.lt
          have mx4 := mx3.below hC (Nat.le_refl _)
          clear hC
          refine wpAnyH_ready (rs := [6]) (by kernel_rfl) (by simp) ?_
          refine AllReadyH.cons (o := { dst := none, op := Go.Op.store 29 (Go.Operand.tmp 14) (Go.Operand.tmp 43), type := 0, pos := "law.go:256", after := #[{ on := 4, ground := Go.Ground.data }, { on := 1, ground := Go.Ground.data }, { on := 3, ground := Go.Ground.chain }, { on := 0, ground := Go.Ground.phase }, { on := 1, ground := Go.Ground.phase }, { on := 2, ground := Go.Ground.textOnly Go.Departure.lateStores }, { on := 3, ground := Go.Ground.phase }, { on := 4, ground := Go.Ground.phase }, { on := 5, ground := Go.Ground.phase }], guard := none }) rfl (fun K hK => ?_) AllReadyH.nil
          obtain ⟨tzx, hz⟩ := x4
          have hbx := lt_of_block hz
          have hby := y4.lt
          refine step_store_row rfl 29 (.tmp 14) (.tmp 43) rfl (v0.heap.size) _ rfl rfl tzx _ hz (by rw [List.size_toArray, stCells_len hr]; exact infoState) (by first | (rw [List.size_toArray, List.size_toArray, stCells_len hr]; rfl) | (rw [List.size_toArray, stCells_len hr]; rfl)) (stCells_one s _ _ _) ?_
          refine hK.out _ _ ?_ (fun hHeld => ?_)
          · exact bRow (by have := hHeld.size; omega) hHeld
          clear hK K
          try simp only [Act.put, List.setIfInBounds_toArray, List.set_cons_zero, List.set_cons_succ]
          have x5 : RowAt (v4.setRow (v0.heap.size) (stCells s (.slice px s.d.length cx)).toArray) (v0.heap.size) (stCells s (.slice px s.d.length cx)) := ⟨_, setRow_heap _ _ _ _ _ _ hz⟩
          have hz5 : v4.heap.size ≤ (v4.setRow (v0.heap.size) (stCells s (.slice px s.d.length cx)).toArray).heap.size := by rw [setRow_size]; exact Nat.le_refl _
          have y5 := y4.block (setRow_block v4 (v0.heap.size) (stCells s (.slice px s.d.length cx)).toArray (by omega))
          have mx5 := mx4.block (fun k hk => setRow_block v4 (v0.heap.size) (stCells s (.slice px s.d.length cx)).toArray (by have := ox k hk; omega))
          have my5 := my4.block (fun k hk => setRow_block v4 (v0.heap.size) (stCells s (.slice px s.d.length cx)).toArray (by have := oy k hk; omega))
          clear hz
          generalize v4.setRow (v0.heap.size) (stCells s (.slice px s.d.length cx)).toArray = v5 at hHeld hz5 x5 y5 mx5 my5 ⊢
          refine wpAnyH_ready (rs := [7]) (by kernel_rfl) (by simp) ?_
          refine AllReadyH.cons (o := { dst := none, op := Go.Op.store 29 (Go.Operand.tmp 15) (Go.Operand.tmp 45), type := 0, pos := "law.go:256", after := #[{ on := 5, ground := Go.Ground.data }, { on := 3, ground := Go.Ground.data }, { on := 6, ground := Go.Ground.chain }, { on := 0, ground := Go.Ground.phase }, { on := 1, ground := Go.Ground.phase }, { on := 2, ground := Go.Ground.phase }, { on := 3, ground := Go.Ground.phase }, { on := 4, ground := Go.Ground.phase }, { on := 5, ground := Go.Ground.phase }, { on := 6, ground := Go.Ground.phase }], guard := none }) rfl (fun K hK => ?_) AllReadyH.nil
          obtain ⟨tzy, hz⟩ := y5
          refine step_store_row rfl 29 (.tmp 15) (.tmp 45) rfl (v1.heap.size) _ rfl rfl tzy _ hz (by rw [List.size_toArray, stCells_len hr]; exact infoState) (by first | (rw [List.size_toArray, List.size_toArray, stCells_len hr]; rfl) | (rw [List.size_toArray, stCells_len hr]; rfl)) (stCells_one s _ _ _) ?_
          refine hK.out _ _ ?_ (fun hHeld => ?_)
          · exact bRow (by have := hHeld.size; omega) hHeld
          clear hK K
          try simp only [Act.put, List.setIfInBounds_toArray, List.set_cons_zero, List.set_cons_succ]
          have y6 : RowAt (v5.setRow (v1.heap.size) (stCells s (.slice py s.d.length cy)).toArray) (v1.heap.size) (stCells s (.slice py s.d.length cy)) := ⟨_, setRow_heap _ _ _ _ _ _ hz⟩
          have hz6 : v5.heap.size ≤ (v5.setRow (v1.heap.size) (stCells s (.slice py s.d.length cy)).toArray).heap.size := by rw [setRow_size]; exact Nat.le_refl _
          have x6 := x5.block (setRow_block v5 (v1.heap.size) (stCells s (.slice py s.d.length cy)).toArray (by omega))
          have mx6 := mx5.block (fun k hk => setRow_block v5 (v1.heap.size) (stCells s (.slice py s.d.length cy)).toArray (by have := ox k hk; omega))
          have my6 := my5.block (fun k hk => setRow_block v5 (v1.heap.size) (stCells s (.slice py s.d.length cy)).toArray (by have := oy k hk; omega))
          clear hz
          generalize v5.setRow (v1.heap.size) (stCells s (.slice py s.d.length cy)).toArray = v6 at hHeld hz6 x6 y6 mx6 my6 ⊢
          refine wpAnyH_done (by kernel_rfl) ?_ _
          exact ⟨rfl, v0.heap.size, v1.heap.size, px, cx, py, cy, by first | rfl | (simp only [put6, Act.put, List.setIfInBounds_toArray, List.set_cons_zero, List.set_cons_succ]), ⟨hHeld, ⟨hr, x6⟩, ⟨hr, y6⟩, mx6, my6, by omega, by omega, fun k hk => by have h1 := ox k hk; exact ⟨by omega, by omega, by omega, by omega, fun h => by have h2 := oy k h; omega⟩, fun k hk => by have h1 := oy k hk; exact ⟨by omega, by omega, by omega, by omega, fun h => by have h2 := ox k h; omega⟩, by omega⟩⟩
      · skip
        go_simp
        refine hK.out _ _ ?_ (fun hHeld => ?_)
        · exact bAlloc hHeld.size hHeld
        clear hK K
        try simp only [Act.put, List.setIfInBounds_toArray, List.set_cons_zero, List.set_cons_succ]
        have hC : Below v0.heap.size v0 (v0.alloc (.cells #[.int .i64 0, .int .i32 0, .int .i32 0, .int .i32 0, .int .i32 0, .int .i32 0, .int .i32 0, .int .i32 0, .int .i32 0, .int .i32 0, .int .i32 0, .int .i32 0, .int .i32 0, .int .i32 0, .int .i32 0, .int .i32 0, .int .i32 0, .slice none 0 0, .bool false, .int .i64 0] 29)) := bAlloc (Nat.le_refl _) (Below.refl _ _)
        have y1 := RowAt.alloc_new v0 [.int .i64 0, .int .i32 0, .int .i32 0, .int .i32 0, .int .i32 0, .int .i32 0, .int .i32 0, .int .i32 0, .int .i32 0, .int .i32 0, .int .i32 0, .int .i32 0, .int .i32 0, .int .i32 0, .int .i32 0, .int .i32 0, .int .i32 0, .slice none 0 0, .bool false, .int .i64 0] 29
        have hz1 : v0.heap.size < (v0.alloc (.cells #[.int .i64 0, .int .i32 0, .int .i32 0, .int .i32 0, .int .i32 0, .int .i32 0, .int .i32 0, .int .i32 0, .int .i32 0, .int .i32 0, .int .i32 0, .int .i32 0, .int .i32 0, .int .i32 0, .int .i32 0, .int .i32 0, .int .i32 0, .slice none 0 0, .bool false, .int .i64 0] 29)).heap.size := by simp
        have bdy : v0.heap.size ≤ v0.heap.size := Nat.le_refl _
        generalize v0.alloc (.cells #[.int .i64 0, .int .i32 0, .int .i32 0, .int .i32 0, .int .i32 0, .int .i32 0, .int .i32 0, .int .i32 0, .int .i32 0, .int .i32 0, .int .i32 0, .int .i32 0, .int .i32 0, .int .i32 0, .int .i32 0, .int .i32 0, .int .i32 0, .slice none 0 0, .bool false, .int .i64 0] 29) = v1 at hHeld hC y1 hz1 ⊢
        clear hC
        refine wpAnyH_ready (rs := [1, 4]) (by kernel_rfl) (by simp) ?_
        refine AllReadyH.cons (o := { dst := some 43, op := Go.Op.call { callee := Go.Callee.value (Go.Operand.func 12), args := #[Go.Operand.tmp 42], argTypes := #[29] }, type := 29, pos := "law.go:256", after := #[{ on := 0, ground := Go.Ground.data }], guard := none }) rfl (fun K hK => ?_) (AllReadyH.cons (o := { dst := some 14, op := Go.Op.alloc 29, type := 0, pos := "law.go:256", after := #[], guard := none }) rfl (fun K hK => ?_) AllReadyH.nil)
        · skip
          go_simp
          refine (copyS s dp s.d.length dcap _ hr rfl (hrd2.below hHeld (Nat.le_refl _)) hn0 (by omega)).mono ?_
          rintro e v2 ⟨px, cx, rfl, hC, hown⟩
          first | (refine hK.out _ _ ?_ (fun hHeld => ?_)) | (go_wp2_with fail; refine hK.out _ _ ?_ (fun hHeld => ?_))
          · exact hHeld.trans (hC.mono hHeld.size)
          clear hK K
          try simp only [Act.put, List.setIfInBounds_toArray, List.set_cons_zero, List.set_cons_succ]
          have mx2 := MemAt.of_owns hown
          have hz2 := hC.size
          have ox : ∀ k, (Value.slice px s.d.length cx).ownBlock = some k → v1.heap.size ≤ k ∧ k < v2.heap.size := fun k hk => ⟨by have := ownBase hown hk; omega, own_lt hown hk⟩
          clear hown
          have y2 := y1.below hC y1.lt
          clear hC
          refine wpAnyH_ready (rs := [3, 4]) (by kernel_rfl) (by simp) ?_
          refine AllReadyH.cons (o := { dst := some 45, op := Go.Op.call { callee := Go.Callee.value (Go.Operand.func 12), args := #[Go.Operand.tmp 44], argTypes := #[29] }, type := 29, pos := "law.go:256", after := #[{ on := 2, ground := Go.Ground.data }, { on := 1, ground := Go.Ground.chain }], guard := none }) rfl (fun K hK => ?_) (AllReadyH.cons (o := { dst := some 14, op := Go.Op.alloc 29, type := 0, pos := "law.go:256", after := #[], guard := none }) rfl (fun K hK => ?_) AllReadyH.nil)
          · skip
            go_simp
            refine (copyS s dp s.d.length dcap _ hr rfl (hrd2.below hHeld (Nat.le_refl _)) hn0 (by omega)).mono ?_
            rintro e v3 ⟨py, cy, rfl, hC, hown⟩
            first | (refine hK.out _ _ ?_ (fun hHeld => ?_)) | (go_wp2_with fail; refine hK.out _ _ ?_ (fun hHeld => ?_))
            · exact hHeld.trans (hC.mono hHeld.size)
            clear hK K
            try simp only [Act.put, List.setIfInBounds_toArray, List.set_cons_zero, List.set_cons_succ]
            have my3 := MemAt.of_owns hown
            have hz3 := hC.size
            have oy : ∀ k, (Value.slice py s.d.length cy).ownBlock = some k → v2.heap.size ≤ k ∧ k < v3.heap.size := fun k hk => ⟨by have := ownBase hown hk; omega, own_lt hown hk⟩
            clear hown
            have y3 := y2.below hC y2.lt
            have mx3 := mx2.below hC (Nat.le_refl _)
            clear hC
            refine wpAnyH_ready (rs := [4]) (by kernel_rfl) (by simp) ?_
            refine AllReadyH.cons (o := { dst := some 14, op := Go.Op.alloc 29, type := 0, pos := "law.go:256", after := #[], guard := none }) rfl (fun K hK => ?_) AllReadyH.nil
            go_simp
            refine hK.out _ _ ?_ (fun hHeld => ?_)
            · exact bAlloc hHeld.size hHeld
            clear hK K
            try simp only [Act.put, List.setIfInBounds_toArray, List.set_cons_zero, List.set_cons_succ]
            have hC : Below v3.heap.size v3 (v3.alloc (.cells #[.int .i64 0, .int .i32 0, .int .i32 0, .int .i32 0, .int .i32 0, .int .i32 0, .int .i32 0, .int .i32 0, .int .i32 0, .int .i32 0, .int .i32 0, .int .i32 0, .int .i32 0, .int .i32 0, .int .i32 0, .int .i32 0, .int .i32 0, .slice none 0 0, .bool false, .int .i64 0] 29)) := bAlloc (Nat.le_refl _) (Below.refl _ _)
            have x4 := RowAt.alloc_new v3 [.int .i64 0, .int .i32 0, .int .i32 0, .int .i32 0, .int .i32 0, .int .i32 0, .int .i32 0, .int .i32 0, .int .i32 0, .int .i32 0, .int .i32 0, .int .i32 0, .int .i32 0, .int .i32 0, .int .i32 0, .int .i32 0, .int .i32 0, .slice none 0 0, .bool false, .int .i64 0] 29
            have hz4 : v3.heap.size < (v3.alloc (.cells #[.int .i64 0, .int .i32 0, .int .i32 0, .int .i32 0, .int .i32 0, .int .i32 0, .int .i32 0, .int .i32 0, .int .i32 0, .int .i32 0, .int .i32 0, .int .i32 0, .int .i32 0, .int .i32 0, .int .i32 0, .int .i32 0, .int .i32 0, .slice none 0 0, .bool false, .int .i64 0] 29)).heap.size := by simp
            have bdx : v3.heap.size ≤ v3.heap.size := Nat.le_refl _
            generalize v3.alloc (.cells #[.int .i64 0, .int .i32 0, .int .i32 0, .int .i32 0, .int .i32 0, .int .i32 0, .int .i32 0, .int .i32 0, .int .i32 0, .int .i32 0, .int .i32 0, .int .i32 0, .int .i32 0, .int .i32 0, .int .i32 0, .int .i32 0, .int .i32 0, .slice none 0 0, .bool false, .int .i64 0] 29) = v4 at hHeld hC x4 hz4 ⊢
            have y4 := y3.below hC y3.lt
            have mx4 := mx3.below hC (Nat.le_refl _)
            have my4 := my3.below hC (Nat.le_refl _)
            clear hC
            refine wpAnyH_ready (rs := [6]) (by kernel_rfl) (by simp) ?_
            refine AllReadyH.cons (o := { dst := none, op := Go.Op.store 29 (Go.Operand.tmp 14) (Go.Operand.tmp 43), type := 0, pos := "law.go:256", after := #[{ on := 4, ground := Go.Ground.data }, { on := 1, ground := Go.Ground.data }, { on := 3, ground := Go.Ground.chain }, { on := 0, ground := Go.Ground.phase }, { on := 1, ground := Go.Ground.phase }, { on := 2, ground := Go.Ground.textOnly Go.Departure.lateStores }, { on := 3, ground := Go.Ground.phase }, { on := 4, ground := Go.Ground.phase }, { on := 5, ground := Go.Ground.phase }], guard := none }) rfl (fun K hK => ?_) AllReadyH.nil
            obtain ⟨tzx, hz⟩ := x4
            have hbx := lt_of_block hz
            have hby := y4.lt
            refine step_store_row rfl 29 (.tmp 14) (.tmp 43) rfl (v3.heap.size) _ rfl rfl tzx _ hz (by rw [List.size_toArray, stCells_len hr]; exact infoState) (by first | (rw [List.size_toArray, List.size_toArray, stCells_len hr]; rfl) | (rw [List.size_toArray, stCells_len hr]; rfl)) (stCells_one s _ _ _) ?_
            refine hK.out _ _ ?_ (fun hHeld => ?_)
            · exact bRow (by have := hHeld.size; omega) hHeld
            clear hK K
            try simp only [Act.put, List.setIfInBounds_toArray, List.set_cons_zero, List.set_cons_succ]
            have x5 : RowAt (v4.setRow (v3.heap.size) (stCells s (.slice px s.d.length cx)).toArray) (v3.heap.size) (stCells s (.slice px s.d.length cx)) := ⟨_, setRow_heap _ _ _ _ _ _ hz⟩
            have hz5 : v4.heap.size ≤ (v4.setRow (v3.heap.size) (stCells s (.slice px s.d.length cx)).toArray).heap.size := by rw [setRow_size]; exact Nat.le_refl _
            have y5 := y4.block (setRow_block v4 (v3.heap.size) (stCells s (.slice px s.d.length cx)).toArray (by omega))
            have mx5 := mx4.block (fun k hk => setRow_block v4 (v3.heap.size) (stCells s (.slice px s.d.length cx)).toArray (by have := ox k hk; omega))
            have my5 := my4.block (fun k hk => setRow_block v4 (v3.heap.size) (stCells s (.slice px s.d.length cx)).toArray (by have := oy k hk; omega))
            clear hz
            generalize v4.setRow (v3.heap.size) (stCells s (.slice px s.d.length cx)).toArray = v5 at hHeld hz5 y5 x5 mx5 my5 ⊢
            refine wpAnyH_ready (rs := [7]) (by kernel_rfl) (by simp) ?_
            refine AllReadyH.cons (o := { dst := none, op := Go.Op.store 29 (Go.Operand.tmp 15) (Go.Operand.tmp 45), type := 0, pos := "law.go:256", after := #[{ on := 5, ground := Go.Ground.data }, { on := 3, ground := Go.Ground.data }, { on := 6, ground := Go.Ground.chain }, { on := 0, ground := Go.Ground.phase }, { on := 1, ground := Go.Ground.phase }, { on := 2, ground := Go.Ground.phase }, { on := 3, ground := Go.Ground.phase }, { on := 4, ground := Go.Ground.phase }, { on := 5, ground := Go.Ground.phase }, { on := 6, ground := Go.Ground.phase }], guard := none }) rfl (fun K hK => ?_) AllReadyH.nil
            obtain ⟨tzy, hz⟩ := y5
            refine step_store_row rfl 29 (.tmp 15) (.tmp 45) rfl (v0.heap.size) _ rfl rfl tzy _ hz (by rw [List.size_toArray, stCells_len hr]; exact infoState) (by first | (rw [List.size_toArray, List.size_toArray, stCells_len hr]; rfl) | (rw [List.size_toArray, stCells_len hr]; rfl)) (stCells_one s _ _ _) ?_
            refine hK.out _ _ ?_ (fun hHeld => ?_)
            · exact bRow (by have := hHeld.size; omega) hHeld
            clear hK K
            try simp only [Act.put, List.setIfInBounds_toArray, List.set_cons_zero, List.set_cons_succ]
            have y6 : RowAt (v5.setRow (v0.heap.size) (stCells s (.slice py s.d.length cy)).toArray) (v0.heap.size) (stCells s (.slice py s.d.length cy)) := ⟨_, setRow_heap _ _ _ _ _ _ hz⟩
            have hz6 : v5.heap.size ≤ (v5.setRow (v0.heap.size) (stCells s (.slice py s.d.length cy)).toArray).heap.size := by rw [setRow_size]; exact Nat.le_refl _
            have x6 := x5.block (setRow_block v5 (v0.heap.size) (stCells s (.slice py s.d.length cy)).toArray (by omega))
            have mx6 := mx5.block (fun k hk => setRow_block v5 (v0.heap.size) (stCells s (.slice py s.d.length cy)).toArray (by have := ox k hk; omega))
            have my6 := my5.block (fun k hk => setRow_block v5 (v0.heap.size) (stCells s (.slice py s.d.length cy)).toArray (by have := oy k hk; omega))
            clear hz
            generalize v5.setRow (v0.heap.size) (stCells s (.slice py s.d.length cy)).toArray = v6 at hHeld hz6 y6 x6 mx6 my6 ⊢
            refine wpAnyH_done (by kernel_rfl) ?_ _
            exact ⟨rfl, v3.heap.size, v0.heap.size, px, cx, py, cy, by first | rfl | (simp only [put6, Act.put, List.setIfInBounds_toArray, List.set_cons_zero, List.set_cons_succ]), ⟨hHeld, ⟨hr, x6⟩, ⟨hr, y6⟩, mx6, my6, by omega, by omega, fun k hk => by have h1 := ox k hk; exact ⟨by omega, by omega, by omega, by omega, fun h => by have h2 := oy k h; omega⟩, fun k hk => by have h1 := oy k hk; exact ⟨by omega, by omega, by omega, by omega, fun h => by have h2 := ox k h; omega⟩, by omega⟩⟩
          · skip
            go_simp
            refine hK.out _ _ ?_ (fun hHeld => ?_)
            · exact bAlloc hHeld.size hHeld
            clear hK K
            try simp only [Act.put, List.setIfInBounds_toArray, List.set_cons_zero, List.set_cons_succ]
            have hC : Below v2.heap.size v2 (v2.alloc (.cells #[.int .i64 0, .int .i32 0, .int .i32 0, .int .i32 0, .int .i32 0, .int .i32 0, .int .i32 0, .int .i32 0, .int .i32 0, .int .i32 0, .int .i32 0, .int .i32 0, .int .i32 0, .int .i32 0, .int .i32 0, .int .i32 0, .int .i32 0, .slice none 0 0, .bool false, .int .i64 0] 29)) := bAlloc (Nat.le_refl _) (Below.refl _ _)
            have x3 := RowAt.alloc_new v2 [.int .i64 0, .int .i32 0, .int .i32 0, .int .i32 0, .int .i32 0, .int .i32 0, .int .i32 0, .int .i32 0, .int .i32 0, .int .i32 0, .int .i32 0, .int .i32 0, .int .i32 0, .int .i32 0, .int .i32 0, .int .i32 0, .int .i32 0, .slice none 0 0, .bool false, .int .i64 0] 29
            have hz3 : v2.heap.size < (v2.alloc (.cells #[.int .i64 0, .int .i32 0, .int .i32 0, .int .i32 0, .int .i32 0, .int .i32 0, .int .i32 0, .int .i32 0, .int .i32 0, .int .i32 0, .int .i32 0, .int .i32 0, .int .i32 0, .int .i32 0, .int .i32 0, .int .i32 0, .int .i32 0, .slice none 0 0, .bool false, .int .i64 0] 29)).heap.size := by simp
            have bdx : v2.heap.size ≤ v2.heap.size := Nat.le_refl _
            generalize v2.alloc (.cells #[.int .i64 0, .int .i32 0, .int .i32 0, .int .i32 0, .int .i32 0, .int .i32 0, .int .i32 0, .int .i32 0, .int .i32 0, .int .i32 0, .int .i32 0, .int .i32 0, .int .i32 0, .int .i32 0, .int .i32 0, .int .i32 0, .int .i32 0, .slice none 0 0, .bool false, .int .i64 0] 29) = v3 at hHeld hC x3 hz3 ⊢
            have y3 := y2.below hC y2.lt
            have mx3 := mx2.below hC (Nat.le_refl _)
            clear hC
            refine wpAnyH_ready (rs := [3]) (by kernel_rfl) (by simp) ?_
            refine AllReadyH.cons (o := { dst := some 45, op := Go.Op.call { callee := Go.Callee.value (Go.Operand.func 12), args := #[Go.Operand.tmp 44], argTypes := #[29] }, type := 29, pos := "law.go:256", after := #[{ on := 2, ground := Go.Ground.data }, { on := 1, ground := Go.Ground.chain }], guard := none }) rfl (fun K hK => ?_) AllReadyH.nil
            go_simp
            refine (copyS s dp s.d.length dcap _ hr rfl (hrd2.below hHeld (Nat.le_refl _)) hn0 (by omega)).mono ?_
            rintro e v4 ⟨py, cy, rfl, hC, hown⟩
            first | (refine hK.out _ _ ?_ (fun hHeld => ?_)) | (go_wp2_with fail; refine hK.out _ _ ?_ (fun hHeld => ?_))
            · exact hHeld.trans (hC.mono hHeld.size)
            clear hK K
            try simp only [Act.put, List.setIfInBounds_toArray, List.set_cons_zero, List.set_cons_succ]
            have my4 := MemAt.of_owns hown
            have hz4 := hC.size
            have oy : ∀ k, (Value.slice py s.d.length cy).ownBlock = some k → v3.heap.size ≤ k ∧ k < v4.heap.size := fun k hk => ⟨by have := ownBase hown hk; omega, own_lt hown hk⟩
            clear hown
            have y4 := y3.below hC y3.lt
            have x4 := x3.below hC x3.lt
            have mx4 := mx3.below hC (Nat.le_refl _)
            clear hC
            refine wpAnyH_ready (rs := [6]) (by kernel_rfl) (by simp) ?_
            refine AllReadyH.cons (o := { dst := none, op := Go.Op.store 29 (Go.Operand.tmp 14) (Go.Operand.tmp 43), type := 0, pos := "law.go:256", after := #[{ on := 4, ground := Go.Ground.data }, { on := 1, ground := Go.Ground.data }, { on := 3, ground := Go.Ground.chain }, { on := 0, ground := Go.Ground.phase }, { on := 1, ground := Go.Ground.phase }, { on := 2, ground := Go.Ground.textOnly Go.Departure.lateStores }, { on := 3, ground := Go.Ground.phase }, { on := 4, ground := Go.Ground.phase }, { on := 5, ground := Go.Ground.phase }], guard := none }) rfl (fun K hK => ?_) AllReadyH.nil
            obtain ⟨tzx, hz⟩ := x4
            have hbx := lt_of_block hz
            have hby := y4.lt
            refine step_store_row rfl 29 (.tmp 14) (.tmp 43) rfl (v2.heap.size) _ rfl rfl tzx _ hz (by rw [List.size_toArray, stCells_len hr]; exact infoState) (by first | (rw [List.size_toArray, List.size_toArray, stCells_len hr]; rfl) | (rw [List.size_toArray, stCells_len hr]; rfl)) (stCells_one s _ _ _) ?_
            refine hK.out _ _ ?_ (fun hHeld => ?_)
            · exact bRow (by have := hHeld.size; omega) hHeld
            clear hK K
            try simp only [Act.put, List.setIfInBounds_toArray, List.set_cons_zero, List.set_cons_succ]
            have x5 : RowAt (v4.setRow (v2.heap.size) (stCells s (.slice px s.d.length cx)).toArray) (v2.heap.size) (stCells s (.slice px s.d.length cx)) := ⟨_, setRow_heap _ _ _ _ _ _ hz⟩
            have hz5 : v4.heap.size ≤ (v4.setRow (v2.heap.size) (stCells s (.slice px s.d.length cx)).toArray).heap.size := by rw [setRow_size]; exact Nat.le_refl _
            have y5 := y4.block (setRow_block v4 (v2.heap.size) (stCells s (.slice px s.d.length cx)).toArray (by omega))
            have mx5 := mx4.block (fun k hk => setRow_block v4 (v2.heap.size) (stCells s (.slice px s.d.length cx)).toArray (by have := ox k hk; omega))
            have my5 := my4.block (fun k hk => setRow_block v4 (v2.heap.size) (stCells s (.slice px s.d.length cx)).toArray (by have := oy k hk; omega))
            clear hz
            generalize v4.setRow (v2.heap.size) (stCells s (.slice px s.d.length cx)).toArray = v5 at hHeld hz5 y5 x5 mx5 my5 ⊢
            refine wpAnyH_ready (rs := [7]) (by kernel_rfl) (by simp) ?_
            refine AllReadyH.cons (o := { dst := none, op := Go.Op.store 29 (Go.Operand.tmp 15) (Go.Operand.tmp 45), type := 0, pos := "law.go:256", after := #[{ on := 5, ground := Go.Ground.data }, { on := 3, ground := Go.Ground.data }, { on := 6, ground := Go.Ground.chain }, { on := 0, ground := Go.Ground.phase }, { on := 1, ground := Go.Ground.phase }, { on := 2, ground := Go.Ground.phase }, { on := 3, ground := Go.Ground.phase }, { on := 4, ground := Go.Ground.phase }, { on := 5, ground := Go.Ground.phase }, { on := 6, ground := Go.Ground.phase }], guard := none }) rfl (fun K hK => ?_) AllReadyH.nil
            obtain ⟨tzy, hz⟩ := y5
            refine step_store_row rfl 29 (.tmp 15) (.tmp 45) rfl (v0.heap.size) _ rfl rfl tzy _ hz (by rw [List.size_toArray, stCells_len hr]; exact infoState) (by first | (rw [List.size_toArray, List.size_toArray, stCells_len hr]; rfl) | (rw [List.size_toArray, stCells_len hr]; rfl)) (stCells_one s _ _ _) ?_
            refine hK.out _ _ ?_ (fun hHeld => ?_)
            · exact bRow (by have := hHeld.size; omega) hHeld
            clear hK K
            try simp only [Act.put, List.setIfInBounds_toArray, List.set_cons_zero, List.set_cons_succ]
            have y6 : RowAt (v5.setRow (v0.heap.size) (stCells s (.slice py s.d.length cy)).toArray) (v0.heap.size) (stCells s (.slice py s.d.length cy)) := ⟨_, setRow_heap _ _ _ _ _ _ hz⟩
            have hz6 : v5.heap.size ≤ (v5.setRow (v0.heap.size) (stCells s (.slice py s.d.length cy)).toArray).heap.size := by rw [setRow_size]; exact Nat.le_refl _
            have x6 := x5.block (setRow_block v5 (v0.heap.size) (stCells s (.slice py s.d.length cy)).toArray (by omega))
            have mx6 := mx5.block (fun k hk => setRow_block v5 (v0.heap.size) (stCells s (.slice py s.d.length cy)).toArray (by have := ox k hk; omega))
            have my6 := my5.block (fun k hk => setRow_block v5 (v0.heap.size) (stCells s (.slice py s.d.length cy)).toArray (by have := oy k hk; omega))
            clear hz
            generalize v5.setRow (v0.heap.size) (stCells s (.slice py s.d.length cy)).toArray = v6 at hHeld hz6 y6 x6 mx6 my6 ⊢
            refine wpAnyH_done (by kernel_rfl) ?_ _
            exact ⟨rfl, v2.heap.size, v0.heap.size, px, cx, py, cy, by first | rfl | (simp only [put6, Act.put, List.setIfInBounds_toArray, List.set_cons_zero, List.set_cons_succ]), ⟨hHeld, ⟨hr, x6⟩, ⟨hr, y6⟩, mx6, my6, by omega, by omega, fun k hk => by have h1 := ox k hk; exact ⟨by omega, by omega, by omega, by omega, fun h => by have h2 := oy k h; omega⟩, fun k hk => by have h1 := oy k hk; exact ⟨by omega, by omega, by omega, by omega, fun h => by have h2 := ox k h; omega⟩, by omega⟩⟩
        · skip
          go_simp
          refine hK.out _ _ ?_ (fun hHeld => ?_)
          · exact bAlloc hHeld.size hHeld
          clear hK K
          try simp only [Act.put, List.setIfInBounds_toArray, List.set_cons_zero, List.set_cons_succ]
          have hC : Below v1.heap.size v1 (v1.alloc (.cells #[.int .i64 0, .int .i32 0, .int .i32 0, .int .i32 0, .int .i32 0, .int .i32 0, .int .i32 0, .int .i32 0, .int .i32 0, .int .i32 0, .int .i32 0, .int .i32 0, .int .i32 0, .int .i32 0, .int .i32 0, .int .i32 0, .int .i32 0, .slice none 0 0, .bool false, .int .i64 0] 29)) := bAlloc (Nat.le_refl _) (Below.refl _ _)
          have x2 := RowAt.alloc_new v1 [.int .i64 0, .int .i32 0, .int .i32 0, .int .i32 0, .int .i32 0, .int .i32 0, .int .i32 0, .int .i32 0, .int .i32 0, .int .i32 0, .int .i32 0, .int .i32 0, .int .i32 0, .int .i32 0, .int .i32 0, .int .i32 0, .int .i32 0, .slice none 0 0, .bool false, .int .i64 0] 29
          have hz2 : v1.heap.size < (v1.alloc (.cells #[.int .i64 0, .int .i32 0, .int .i32 0, .int .i32 0, .int .i32 0, .int .i32 0, .int .i32 0, .int .i32 0, .int .i32 0, .int .i32 0, .int .i32 0, .int .i32 0, .int .i32 0, .int .i32 0, .int .i32 0, .int .i32 0, .int .i32 0, .slice none 0 0, .bool false, .int .i64 0] 29)).heap.size := by simp
          have bdx : v1.heap.size ≤ v1.heap.size := Nat.le_refl _
          generalize v1.alloc (.cells #[.int .i64 0, .int .i32 0, .int .i32 0, .int .i32 0, .int .i32 0, .int .i32 0, .int .i32 0, .int .i32 0, .int .i32 0, .int .i32 0, .int .i32 0, .int .i32 0, .int .i32 0, .int .i32 0, .int .i32 0, .int .i32 0, .int .i32 0, .slice none 0 0, .bool false, .int .i64 0] 29) = v2 at hHeld hC x2 hz2 ⊢
          have y2 := y1.below hC y1.lt
          clear hC
          refine wpAnyH_ready (rs := [1]) (by kernel_rfl) (by simp) ?_
          refine AllReadyH.cons (o := { dst := some 43, op := Go.Op.call { callee := Go.Callee.value (Go.Operand.func 12), args := #[Go.Operand.tmp 42], argTypes := #[29] }, type := 29, pos := "law.go:256", after := #[{ on := 0, ground := Go.Ground.data }], guard := none }) rfl (fun K hK => ?_) AllReadyH.nil
          go_simp
          refine (copyS s dp s.d.length dcap _ hr rfl (hrd2.below hHeld (Nat.le_refl _)) hn0 (by omega)).mono ?_
          rintro e v3 ⟨px, cx, rfl, hC, hown⟩
          first | (refine hK.out _ _ ?_ (fun hHeld => ?_)) | (go_wp2_with fail; refine hK.out _ _ ?_ (fun hHeld => ?_))
          · exact hHeld.trans (hC.mono hHeld.size)
          clear hK K
          try simp only [Act.put, List.setIfInBounds_toArray, List.set_cons_zero, List.set_cons_succ]
          have mx3 := MemAt.of_owns hown
          have hz3 := hC.size
          have ox : ∀ k, (Value.slice px s.d.length cx).ownBlock = some k → v2.heap.size ≤ k ∧ k < v3.heap.size := fun k hk => ⟨by have := ownBase hown hk; omega, own_lt hown hk⟩
          clear hown
          have y3 := y2.below hC y2.lt
          have x3 := x2.below hC x2.lt
          clear hC
          refine wpAnyH_ready (rs := [3]) (by kernel_rfl) (by simp) ?_
          refine AllReadyH.cons (o := { dst := some 45, op := Go.Op.call { callee := Go.Callee.value (Go.Operand.func 12), args := #[Go.Operand.tmp 44], argTypes := #[29] }, type := 29, pos := "law.go:256", after := #[{ on := 2, ground := Go.Ground.data }, { on := 1, ground := Go.Ground.chain }], guard := none }) rfl (fun K hK => ?_) AllReadyH.nil
          go_simp
          refine (copyS s dp s.d.length dcap _ hr rfl (hrd2.below hHeld (Nat.le_refl _)) hn0 (by omega)).mono ?_
          rintro e v4 ⟨py, cy, rfl, hC, hown⟩
          first | (refine hK.out _ _ ?_ (fun hHeld => ?_)) | (go_wp2_with fail; refine hK.out _ _ ?_ (fun hHeld => ?_))
          · exact hHeld.trans (hC.mono hHeld.size)
          clear hK K
          try simp only [Act.put, List.setIfInBounds_toArray, List.set_cons_zero, List.set_cons_succ]
          have my4 := MemAt.of_owns hown
          have hz4 := hC.size
          have oy : ∀ k, (Value.slice py s.d.length cy).ownBlock = some k → v3.heap.size ≤ k ∧ k < v4.heap.size := fun k hk => ⟨by have := ownBase hown hk; omega, own_lt hown hk⟩
          clear hown
          have y4 := y3.below hC y3.lt
          have x4 := x3.below hC x3.lt
          have mx4 := mx3.below hC (Nat.le_refl _)
          clear hC
          refine wpAnyH_ready (rs := [6]) (by kernel_rfl) (by simp) ?_
          refine AllReadyH.cons (o := { dst := none, op := Go.Op.store 29 (Go.Operand.tmp 14) (Go.Operand.tmp 43), type := 0, pos := "law.go:256", after := #[{ on := 4, ground := Go.Ground.data }, { on := 1, ground := Go.Ground.data }, { on := 3, ground := Go.Ground.chain }, { on := 0, ground := Go.Ground.phase }, { on := 1, ground := Go.Ground.phase }, { on := 2, ground := Go.Ground.textOnly Go.Departure.lateStores }, { on := 3, ground := Go.Ground.phase }, { on := 4, ground := Go.Ground.phase }, { on := 5, ground := Go.Ground.phase }], guard := none }) rfl (fun K hK => ?_) AllReadyH.nil
          obtain ⟨tzx, hz⟩ := x4
          have hbx := lt_of_block hz
          have hby := y4.lt
          refine step_store_row rfl 29 (.tmp 14) (.tmp 43) rfl (v1.heap.size) _ rfl rfl tzx _ hz (by rw [List.size_toArray, stCells_len hr]; exact infoState) (by first | (rw [List.size_toArray, List.size_toArray, stCells_len hr]; rfl) | (rw [List.size_toArray, stCells_len hr]; rfl)) (stCells_one s _ _ _) ?_
          refine hK.out _ _ ?_ (fun hHeld => ?_)
          · exact bRow (by have := hHeld.size; omega) hHeld
          clear hK K
          try simp only [Act.put, List.setIfInBounds_toArray, List.set_cons_zero, List.set_cons_succ]
          have x5 : RowAt (v4.setRow (v1.heap.size) (stCells s (.slice px s.d.length cx)).toArray) (v1.heap.size) (stCells s (.slice px s.d.length cx)) := ⟨_, setRow_heap _ _ _ _ _ _ hz⟩
          have hz5 : v4.heap.size ≤ (v4.setRow (v1.heap.size) (stCells s (.slice px s.d.length cx)).toArray).heap.size := by rw [setRow_size]; exact Nat.le_refl _
          have y5 := y4.block (setRow_block v4 (v1.heap.size) (stCells s (.slice px s.d.length cx)).toArray (by omega))
          have mx5 := mx4.block (fun k hk => setRow_block v4 (v1.heap.size) (stCells s (.slice px s.d.length cx)).toArray (by have := ox k hk; omega))
          have my5 := my4.block (fun k hk => setRow_block v4 (v1.heap.size) (stCells s (.slice px s.d.length cx)).toArray (by have := oy k hk; omega))
          clear hz
          generalize v4.setRow (v1.heap.size) (stCells s (.slice px s.d.length cx)).toArray = v5 at hHeld hz5 y5 x5 mx5 my5 ⊢
          refine wpAnyH_ready (rs := [7]) (by kernel_rfl) (by simp) ?_
          refine AllReadyH.cons (o := { dst := none, op := Go.Op.store 29 (Go.Operand.tmp 15) (Go.Operand.tmp 45), type := 0, pos := "law.go:256", after := #[{ on := 5, ground := Go.Ground.data }, { on := 3, ground := Go.Ground.data }, { on := 6, ground := Go.Ground.chain }, { on := 0, ground := Go.Ground.phase }, { on := 1, ground := Go.Ground.phase }, { on := 2, ground := Go.Ground.phase }, { on := 3, ground := Go.Ground.phase }, { on := 4, ground := Go.Ground.phase }, { on := 5, ground := Go.Ground.phase }, { on := 6, ground := Go.Ground.phase }], guard := none }) rfl (fun K hK => ?_) AllReadyH.nil
          obtain ⟨tzy, hz⟩ := y5
          refine step_store_row rfl 29 (.tmp 15) (.tmp 45) rfl (v0.heap.size) _ rfl rfl tzy _ hz (by rw [List.size_toArray, stCells_len hr]; exact infoState) (by first | (rw [List.size_toArray, List.size_toArray, stCells_len hr]; rfl) | (rw [List.size_toArray, stCells_len hr]; rfl)) (stCells_one s _ _ _) ?_
          refine hK.out _ _ ?_ (fun hHeld => ?_)
          · exact bRow (by have := hHeld.size; omega) hHeld
          clear hK K
          try simp only [Act.put, List.setIfInBounds_toArray, List.set_cons_zero, List.set_cons_succ]
          have y6 : RowAt (v5.setRow (v0.heap.size) (stCells s (.slice py s.d.length cy)).toArray) (v0.heap.size) (stCells s (.slice py s.d.length cy)) := ⟨_, setRow_heap _ _ _ _ _ _ hz⟩
          have hz6 : v5.heap.size ≤ (v5.setRow (v0.heap.size) (stCells s (.slice py s.d.length cy)).toArray).heap.size := by rw [setRow_size]; exact Nat.le_refl _
          have x6 := x5.block (setRow_block v5 (v0.heap.size) (stCells s (.slice py s.d.length cy)).toArray (by omega))
          have mx6 := mx5.block (fun k hk => setRow_block v5 (v0.heap.size) (stCells s (.slice py s.d.length cy)).toArray (by have := ox k hk; omega))
          have my6 := my5.block (fun k hk => setRow_block v5 (v0.heap.size) (stCells s (.slice py s.d.length cy)).toArray (by have := oy k hk; omega))
          clear hz
          generalize v5.setRow (v0.heap.size) (stCells s (.slice py s.d.length cy)).toArray = v6 at hHeld hz6 y6 x6 mx6 my6 ⊢
          refine wpAnyH_done (by kernel_rfl) ?_ _
          exact ⟨rfl, v1.heap.size, v0.heap.size, px, cx, py, cy, by first | rfl | (simp only [put6, Act.put, List.setIfInBounds_toArray, List.set_cons_zero, List.set_cons_succ]), ⟨hHeld, ⟨hr, x6⟩, ⟨hr, y6⟩, mx6, my6, by omega, by omega, fun k hk => by have h1 := ox k hk; exact ⟨by omega, by omega, by omega, by omega, fun h => by have h2 := oy k h; omega⟩, fun k hk => by have h1 := oy k hk; exact ⟨by omega, by omega, by omega, by omega, fun h => by have h2 := ox k h; omega⟩, by omega⟩⟩
    intro bx by' px cx py cy w3 hTwo
    simp only [put6, Act.put, List.setIfInBounds_toArray, List.set_cons_zero, List.set_cons_succ]
    have hB03 : Below w.heap.size w w3 := hB2.trans (hTwo.bel.mono hz2')
    have HO3 := Lib.hid (owns_empty w3 w3.heap.size 21 w3.heap.size rfl (Nat.le_refl _))
    have HM3 := Lib.hid (Src.of_rd (hrm.below (hB03.trans ((bAlloc (o := .cells #[] 21) (Nat.le_refl _) (Below.refl w3.heap.size w3)).mono hB03.size)) (Nat.le_refl _)) hm0)
    have H1 := Lib.hid (show ∀ u ∈ sh.map (Value.int .i32), u.oneCell' = true from fun u hu => by obtain ⟨y, _, rfl⟩ := List.mem_map.1 hu; rfl)
    go_wp2_with (first | (at_builtin; refine wpList_append_new _ rfl (.tmp 46) (.tmp 47) 27 rfl w3.heap.size 21 i0 (.int .i32 0) 1 4 hxi hi0 hz0 hz1 hz2 rfl (by decide) _ rfl HO3.out _ sh.length (sh.map (.int .i32)) rfl HM3.out H1.out ?c1 ?c2 ?c3 ?_))
    case c1 => unfold maxLen; omega
    case c2 => omega
    case c3 => simp
    intro pa ca w4 hown4 hg4
    clear HO3 HM3
    have hB34 : Below w3.heap.size w3 w4 := Below.grown (bAlloc (Nat.le_refl _) (Below.refl _ _)) hg4 (by simp) (fun k hk => by simp [Value.ownBlock] at hk; omega)
    clear hg4
    have hB04 : Below w.heap.size w w4 := hB03.trans (hB34.mono hB03.size)
    have HO4 := Lib.hid (owns_empty w4 w4.heap.size 21 w4.heap.size rfl (Nat.le_refl _))
    have HM4 := Lib.hid (Src.of_rd (hrm.below (hB04.trans ((bAlloc (o := .cells #[] 21) (Nat.le_refl _) (Below.refl w4.heap.size w4)).mono hB04.size)) (Nat.le_refl _)) hm0)
    go_wp2_with (first | (at_builtin; refine wpList_append_new _ rfl (.tmp 49) (.tmp 50) 27 rfl w4.heap.size 21 i0 (.int .i32 0) 1 4 hxi hi0 hz0 hz1 hz2 rfl (by decide) _ rfl HO4.out _ sh.length (sh.map (.int .i32)) rfl HM4.out H1.out ?d1 ?d2 ?d3 ?_))
    case d1 => unfold maxLen; omega
    case d2 => omega
    case d3 => simp
    intro pb cb w5 hown5 hg5
    clear HO4 HM4
    have hB45 : Below w4.heap.size w4 w5 := Below.grown (bAlloc (Nat.le_refl _) (Below.refl _ _)) hg5 (by simp) (fun k hk => by simp [Value.ownBlock] at hk; omega)
    clear hg5
    obtain ⟨hA, hD, hdis, hB25⟩ := both_of hTwo hB34 hown4 hB45 hown5 R32.out D32.out M32.out
    clear hTwo hB34 hown4 hB45 hown5 hB03 hB04 H1
    have HDI := Lib.hid hdis
    clear hdis
    have hI5 := hI2.below hB25 hI2.lt
    have HB5 : Below w.heap.size w w5 := hB2.trans (hB25.mono hz2')
    have hz5 := hB25.size
    have q0 := hI5.cell 0
    have q1 := hI5.cell 1
    have q2 := hI5.cell 2
    have q3 := hI5.cell 3
    simp only [List.getElem?_cons_zero, List.getElem?_cons_succ] at q0 q1 q2 q3
    have R5 := Lib.hid (run_named (.agg #[.slice cp im.code.length ccap, .slice ep im.ents.length ecap, .int .i64 im.sh, .int .i64 im.lk]) im t bx (.slice px s.d.length cx) (.slice pa sh.length ca) (.func (.func 23) #[] #[]) (fun _ i => wrap32 (wrap32 i - 3)) (fun _ _ => ()) (fun _ _ => True) (fun _ => False) (fun _ _ => id) ((fuel : Int)) ⟨s, sh, (), []⟩ ⟨c3.s, c3.mem, (), c2.out ++ c3.out⟩ (n2 + n3) e3 w2.heap.size w5 (by omega) (hT.below HB5 hG.2) (hO.below HB5 hG.1) (fun w' h => him2.below (hB25.trans h) (Nat.le_refl _)) ⟨by omega, by omega⟩ hB25.size (fun k h => h.elim) hA (fuelPortRun _ _ _) trivial rfl (by rw [Int.toNat_natCast]; exact hr1.out))
    go_wp2_with fail
    refine R5.out.mono ?_
    rintro e w6 ⟨op1, oc1, rfl, hown1, hK6, hN, -⟩
    clear R5 q0 q1 q2 q3
    have hA6 := hN
    clear hN
    have hD6 := hD.kept hK6 (fun k h => h.elim (fun h => HDI.out k h) False.elim)
    have hB56 : Below w2.heap.size w5 w6 := hK6.below hB25.size (fun k h => h.elim (fun h => (hA.own k h).1) False.elim)
    have hB26 : Below w2.heap.size w2 w6 := hB25.trans hB56
    have HB6 : Below w.heap.size w w6 := hB2.trans (hB26.mono hz2')
    have hI6 := hI2.below hB26 hI2.lt
    have hz6 := hK6.size
    clear hK6 hB56 hI5
    have q0 := hI6.cell 0
    have q1 := hI6.cell 1
    have q2 := hI6.cell 2
    have q3 := hI6.cell 3
    simp only [List.getElem?_cons_zero, List.getElem?_cons_succ] at q0 q1 q2 q3
    have R6 := Lib.hid (run_named (.agg #[.slice cp im.code.length ccap, .slice ep im.ents.length ecap, .int .i64 im.sh, .int .i64 im.lk]) im t by' (.slice py s.d.length cy) (.slice pb sh.length cb) (.func (.func 23) #[] #[]) (fun _ i => wrap32 (wrap32 i - 3)) (fun _ _ => ()) (fun _ _ => True) (fun _ => False) (fun _ _ => id) (min (first : Int) (fuel : Int)) ⟨s, sh, (), []⟩ c2 n2 13 w2.heap.size w6 (by omega) (hT.below HB6 hG.2) (hO.below HB6 hG.1) (fun w' h => him2.below (hB26.trans h) (Nat.le_refl _)) ⟨by omega, by omega⟩ hB26.size (fun k h => h.elim) hD6 (fuelPortRun _ _ _) trivial rfl (by rw [show (min (first : Int) (fuel : Int)).toNat = min first fuel by omega]; exact hr2.out))
    go_wp2_with fail
    refine R6.out.mono ?_
    rintro e w7 ⟨op2, oc2, rfl, hown2, hK7, hN, -⟩
    clear R6 q0 q1 q2 q3
    have hD7 := hN
    clear hN
    have hA7 := hA6.kept hK7 (fun k h h2 => h.elim (fun h => HDI.out k h2 h) False.elim)
    have hB67 : Below w2.heap.size w6 w7 := hK7.below hB26.size (fun k h => h.elim (fun h => (hD6.own k h).1) False.elim)
    have hB27 : Below w2.heap.size w2 w7 := hB26.trans hB67
    have HB7 : Below w.heap.size w w7 := hB2.trans (hB27.mono hz2')
    have hI7 := hI2.below hB27 hI2.lt
    have hz7 := hK7.size
    have hO7 := own_kept hown1 hK7 (fun k h => h.elim (fun h => (hD.own k h).2) False.elim) (Nat.le_refl _)
    have HO5 := Lib.hid (fun k h => (hD.own k h).2)
    clear hK7 hB67 hI6 hown1 hA6 hD6 hA hD
    have q0 := hI7.cell 0
    have q1 := hI7.cell 1
    have q2 := hI7.cell 2
    have q3 := hI7.cell 3
    simp only [List.getElem?_cons_zero, List.getElem?_cons_succ] at q0 q1 q2 q3
    have R7 := Lib.hid (run_named (.agg #[.slice cp im.code.length ccap, .slice ep im.ents.length ecap, .int .i64 im.sh, .int .i64 im.lk]) im t by' (.slice py s.d.length cy) (.slice pb sh.length cb) (.func (.func 23) #[] #[]) (fun _ i => wrap32 (wrap32 i - 3)) (fun _ _ => ()) (fun _ _ => True) (fun _ => False) (fun _ _ => id) ((fuel : Int) - min (first : Int) (fuel : Int)) c2.fresh c3 n3 e3 w2.heap.size w7 (by omega) (hT.below HB7 hG.2) (hO.below HB7 hG.1) (fun w' h => him2.below (hB27.trans h) (Nat.le_refl _)) ⟨by omega, by omega⟩ hB27.size (fun k h => h.elim) (show Side w2.heap.size w7 by' (.slice py s.d.length cy) (.slice pb sh.length cb) c2.fresh.s c2.fresh.mem from hD7) (fuelPortRun _ _ _) trivial rfl (by rw [show ((fuel : Int) - min (first : Int) (fuel : Int)).toNat = fuel - min first fuel by omega]; exact hr3.out))
    go_wp2_with fail
    refine R7.out.mono ?_
    rintro e w8 ⟨op3, oc3, rfl, hown3, hK8, hN, -⟩
    clear R7 q0 q1 q2 q3
    have hD8 := hN
    clear hN
    have hA8 := hA7.kept hK8 (fun k h h2 => h.elim (fun h => HDI.out k h2 h) False.elim)
    have hB78 : Below w2.heap.size w7 w8 := hK8.below hB27.size (fun k h => h.elim (fun h => (hD7.own k h).1) False.elim)
    have hB28 : Below w2.heap.size w2 w8 := hB27.trans hB78
    have HB8 : Below w.heap.size w w8 := hB2.trans (hB28.mono hz2')
    have hz8 := hK8.size
    have hF8 : ∀ k, OwnF by' (.slice py s.d.length cy) (.slice pb sh.length cb) k ∨ False → k < w5.heap.size := fun k h => h.elim (fun h => HO5.out k h) False.elim
    have hO8 := own_kept hO7 hK8 hF8 (Nat.le_refl _)
    have hW8 := own_kept hown2 hK8 (fun k h => by have := hF8 k h; omega) (Nat.le_refl _)
    have hV8 := own_below hown3 (Below.refl _ _)
    clear hK8 hB78 hI7 hA7 hD7 hown2 hown3 hO7 hF8 HO5
    have HO8 := Lib.hid hO8
    have HV8 := Lib.hid hV8
    have HW8 := Lib.hid hW8
    clear hO8 hV8 hW8
    have HE8 := Lib.hid (owns_empty2 w8 w8.heap.size 55 2 w8.heap.size rfl (Nat.le_refl _))
    have HS8 := Lib.hid (Src.of_own (HW8.out.alloc (.cells #[] 55)))
    have H2 := Lib.hid (show ∀ u ∈ outCells c2.out, u.oneCell' = true from outCells_one _)
    have H3 := Lib.hid (show ∀ u ∈ outCells c3.out, u.oneCell' = true from outCells_one _)
    go_wp2_with (first | (at_builtin; refine wpList_append_new _ rfl (.tmp 108) (.tmp 109) 50 rfl w8.heap.size 55 k0 (.agg #[.int .i64 0, .int .i32 0]) 2 16 hxo hk0 hkz0 hkz1 hkz2 rfl (by decide) _ rfl HE8.out _ c2.out.length (outCells c2.out) rfl HS8.out H2.out ?c1 ?c2 ?c3 ?_))
    case c1 => unfold maxLen; omega
    case c2 => omega
    case c3 => simp
    intro pe ce w9 hown9 hg9
    have hB89 : Below w8.heap.size w8 w9 := Below.grown (bAlloc (Nat.le_refl _) (Below.refl _ _)) hg9 (by simp) (fun k hk => by simp [Value.ownBlock] at hk; omega)
    have HS9 := Lib.hid (Src.of_own (own_below HV8.out hB89))
    have HE9 := Lib.hid hown9
    have hz9 := hB89.size
    clear hg9 hown9 HE8 HS8 HV8
    go_wp2_with (first | (at_builtin; refine wpList_append_src _ rfl (.tmp 110) (.tmp 111) 50 rfl w8.heap.size 55 k0 (.agg #[.int .i64 0, .int .i32 0]) 2 16 hxo hk0 hkz0 hkz1 hkz2 rfl (by decide) _ c2.out.length (outCells c2.out) rfl HE9.out _ c3.out.length (outCells c3.out) rfl HS9.out H3.out ?d1 ?d2 ?d3 ?_))
    case d1 => unfold maxLen; omega
    case d2 => omega
    case d3 => omega
    intro pf cf w10 hown10 hg10 _
    have hB810 : Below w8.heap.size w8 w10 := Below.grown hB89 hg10 hz9 (fun k hk => ownBase HE9.out hk)
    rw [← outCells_append] at hown10
    have HP := Lib.hid hown10
    have HQ := Lib.hid (own_below HO8.out hB810)
    have HB10 : Below w.heap.size w w10 := HB8.trans (hB810.mono HB8.size)
    have hr7 := hA8.st.1
    have HIx : Hid ((Tryd.prog.info? 29).map (·.size) = some (stCells c3.s (.slice px s.d.length cx)).length) := (show _ = _ by rw [stCells_len hr7]; exact infoState)
    have HIy : Hid ((Tryd.prog.info? 29).map (·.size) = some (stCells c3.s (.slice py s.d.length cy)).length) := (show _ = _ by rw [stCells_len hr7]; exact infoState)
    have hA10 := hA8.below hB810
    have hD10 := hD8.below hB810
    have HX7 := Lib.hid hA10.st.2.range
    have HY7 := Lib.hid hD10.st.2.range
    have HE := Lib.hid (equalS c3.s (.slice px s.d.length cx) (.slice py s.d.length cy) w10 hr7 hA10.d.rd hD10.d.rd (by have := HDL.out; omega))
    have HWd := Lib.hid (fun w' (hb : Below w10.heap.size w10 w') => words_any (.slice pa sh.length ca) (.slice pb sh.length cb) c3.mem c3.mem w' (hA10.m.rd.below hb (Nat.le_refl _)) (hD10.m.rd.below hb (Nat.le_refl _)) (by have := HML.out; omega))
    clear hA10 hD10 hA8 hD8 hown10 hg10 HE9 HS9 HW8 HO8 hB89 hB810 H2 H3 HDI
    go_wp2_with (first
      | (refine BigFrame.wpList_want rfl (fun K hK => wp_load_mid 29 (.tmp 14) rfl bx 0 rfl (stCells c3.s (.slice px s.d.length cx)) _ HX7.out Tryd.underlying29 rfl HIx.out (hK _ _ ?_)))
      | (refine BigFrame.wpList_want rfl (fun K hK => wp_load_mid 29 (.tmp 15) rfl by' 0 rfl (stCells c3.s (.slice py s.d.length cy)) _ HY7.out Tryd.underlying29 rfl HIy.out (hK _ _ ?_))))
    refine HE.out.mono ?_
    rintro e w11 ⟨rfl, hb11⟩
    clear HX7 HY7 HE HIx HIy
    go_wp2_with fail
    have hwd := HWd.out w11 hb11
    simp only [decide_true] at hwd
    refine hwd.mono ?_
    rintro e w12 ⟨rfl, hb12⟩
    clear hwd HWd
    have hb10 : Below w10.heap.size w10 w12 := bThen hb12 hb11.size hb11
    have HP12 := Lib.hid (own_below HP.out hb10)
    have HQ12 := Lib.hid (own_below HQ.out hb10)
    have HB12 : Below w.heap.size w w12 := HB10.trans (hb10.mono HB10.size)
    clear HP HQ hb11 hb12 hb10 HB10
    go_wp2_with fail
    obtain ⟨ll, hll⟩ : ∃ l, l = c2.out ++ c3.out := ⟨_, rfl⟩
    have hln : ll.length = c2.out.length + c3.out.length := by rw [hll, List.length_append]
    rw [← hll] at HP12 HQ12
    have HLN := Lib.hid hln
    clear hll hln
    go_loopw [29] (fun sv wr => ∃ (k n : Nat), sv = .int .i64 k ∧ k ≤ c2.out.length + c3.out.length ∧ wr = w12.drewN n) (fun sv _ => c2.out.length + c3.out.length - (intOf sv).toNat)
    case atStart => exact ⟨0, 0, rfl, Nat.zero_le _, rfl⟩
    case round =>
      obtain ⟨k, n, rfl, hk, rfl⟩ := hrel
      by_cases hlt : k < c2.out.length + c3.out.length
      · obtain ⟨g1, rfl, gs1, gc1, gd1⟩ := out_cell HQ12.out k (by have := HLN.out; omega)
        obtain ⟨g2, rfl, gs2, gc2, gd2⟩ := out_cell HP12.out k (by have := HLN.out; omega)
        generalize (ll.getD k (0, 0)).1 = va at gc1 gc2
        generalize (ll.getD k (0, 0)).2 = vb at gd1 gd2
        have hltI : (k : Int) < (c2.out.length : Int) + (c3.out.length : Int) := by omega
        have hltN : k < c2.out.length + c3.out.length := hlt
        have hneq : ∀ w, (binOp .neq 55 (.agg #[.int .i64 va, .int .i32 vb]) (.agg #[.int .i64 va, .int .i32 vb])).run Tryd.prog w = .ok (.bool false) w := fun w => neq_out va vb w
        go_wp2_with fail
        go_quiet (fail)
        go_wp2_with fail
        go_roundw
        case rel => exact ⟨k + 1, n + nq, by go_num, by omega, by simp [World.drewN_drewN]⟩
        case measure => simp [intOf]; omega
      · go_wp2_with fail
        go_ret
        exact ⟨rfl, bDrewN HB12⟩

end Go.Proofs.YtlmipchjmgnlfaaDoor
