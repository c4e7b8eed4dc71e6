/- The law CoreRuns. -/
import Derived.Test.YtlmipchjmgnlfaaDoorCorBi
import Derived.Deep.RegionHeld3
import Derived.Deep.CutBlock
set_option linter.unusedVariables false
set_option linter.unusedSimpArgs false
namespace Go.Proofs.YtlmipchjmgnlfaaDoor
open Go.RowKit

theorem cnt1 (b : Nat) (W : World) (p i : Int) (h : RowAt W b [.int .i32 p]) : Calls Tryd.prog 20 #[.int .i64 i, .pointer (some ⟨b, 0, none⟩)] W fun e w' => e = .returned (.int .i32 (cntI p i)) ∧ Below W.heap.size (W.setCell ⟨b, 0, none⟩ (.int .i32 (cntI p i))) w' := by
  have h0 := h.cell 0
  have hf := h.frozen 0
  simp only [List.getElem?_cons_zero] at h0
  go_enter Tryd.func20, Tryd.ntmps20
  go_wp2_with fail
  go_ret
  exact ⟨rfl, Below.refl _ _⟩

theorem cnt2 (b : Nat) (W : World) (p i : Int) (h : RowAt W b [.int .i32 p]) : Calls Tryd.prog 22 #[.int .i64 i, .pointer (some ⟨b, 0, none⟩)] W fun e w' => e = .returned (.int .i32 (cntI p i)) ∧ Below W.heap.size (W.setCell ⟨b, 0, none⟩ (.int .i32 (cntI p i))) w' := by
  have h0 := h.cell 0
  have hf := h.frozen 0
  simp only [List.getElem?_cons_zero] at h0
  go_enter Tryd.func22, Tryd.ntmps22
  go_wp2_with fail
  go_ret
  exact ⟨rfl, Below.refl _ _⟩

def RunsOut (B S : Nat) (dv mv : Value) (bm : Nat) (w8 : World) (c1 : Cf Int) (n1 : Nat) (e1 : Int) (sv wv cv : Value) (wx : World) : Prop :=
  wv = .int .i64 e1 ∧ cv = .int .i64 n1 ∧ ∃ p c, sv = .slice p c1.out.length c ∧ wx.ownsRow w8.heap.size 55 2 (.slice p c1.out.length c) c1.out.length (outCells c1.out) ∧ Side B wx S dv mv c1.s c1.mem ∧ Kept (fun j => OwnF S dv mv j ∨ j = bm) w8 wx
theorem runs_out {B : Nat} {w8 : World} {im : Im} {t : Int} {S : Nat} {dv mv : Value} {bm : Nat} {fuel : Nat} {c0 c c1 : Cf Int} {k n1 : Nat} {e1 er : Int} {ov : Value} {wr : World} {PR : Int → World → Prop}
    (h : LoopInv B w8 im t S dv mv cntI cntI PR (fun k => k = bm) fuel c0 c k ov wr) (hq : runP im t cntI cntI fuel c0 = (c1, n1, e1)) (hr : runP im t cntI cntI (fuel - k) c = (c, 0, er)) : RunsOut B S dv mv bm w8 c1 n1 e1 ov (.int .i64 er) (.int .i64 k) wr := by
  have hd := h.done hr
  rw [hq] at hd
  simp only [Prod.mk.injEq] at hd
  obtain ⟨rfl, rfl, rfl⟩ := hd
  obtain ⟨p, cc, hv⟩ := own_slice h.own
  subst hv
  exact ⟨rfl, rfl, p, cc, rfl, h.own, h.side, h.kept⟩

set_option maxHeartbeats 30000000 in
set_option maxRecDepth 100000 in
theorem runsLaw_any (s : St) (dp cp ep : Option Addr) (dcap ccap ecap : Nat) (im : Im) (t : Int) (mp : Option Addr) (mcap : Nat) (sh : List Int) (fuel : Int) (w : World) (hT : Tab w) (hO : OTab w) (hr : s.r.length = 16) (him : im.code.length ≤ 200 → ImAt w (.agg #[.slice cp im.code.length ccap, .slice ep im.ents.length ecap, .int .i64 im.sh, .int .i64 im.lk]) im) (hrd : RdAt w (.slice dp s.d.length dcap) s.d) (hn0 : ∀ c, Value.slice dp s.d.length dcap = .slice none 0 c → c = 0)
    (hrm : RdAt w (.slice mp sh.length mcap) sh) (hm0 : ∀ c, Value.slice mp sh.length mcap = .slice none 0 c → c = 0) (R32 : Hid (∀ j, W32 (s.r.getD j 0))) (D32 : Hid (∀ j, W32 (s.d.getD j 0))) (M32 : Hid (∀ j, W32 (sh.getD j 0))) (hG : 1 < w.heap.size ∧ 0 < w.heap.size)
    (hfl : -9223372036854775808 ≤ fuel) (hfh : fuel ≤ 9223372036854775807) (c1 : Cf Int) (n1 : Nat) (e1 : Int) (gr1 : fuel ≤ 300 → runQ im t cntI cntI fuel.toNat ⟨s, sh, 0, []⟩ = (c1, n1, e1)) (gdl : fuel ≤ 300 → c1.s.d.length = s.d.length) (gml : fuel ≤ 300 → c1.mem.length = sh.length) (gol : fuel ≤ 300 → c1.out.length ≤ 300) (gnl : fuel ≤ 300 → n1 ≤ 300) :
    Calls Tryd.prog 4 #[.agg #[.slice cp im.code.length ccap, .slice ep im.ents.length ecap, .int .i64 im.sh, .int .i64 im.lk], .int .i64 t, stV s (.slice dp s.d.length dcap), .slice mp sh.length mcap, .int .i64 fuel] w fun e w' => e = .returned (.bool true) ∧ Below w.heap.size w w' := by
  have HI : Hid ((Tryd.prog.info? 29).map (·.size) = some (stCells s (.slice dp s.d.length dcap)).toArray.size) := (show _ = _ by rw [List.size_toArray, stCells_len hr]; exact infoState)
  have SM := Lib.hid (fun (w : World) => smallS s cp ep dp mp im.code.length ccap im.ents.length ecap s.d.length dcap sh.length mcap im.sh im.lk w hr)
  go_enter Tryd.func4, Tryd.ntmps4
  go_wp2_with fail
  refine (awake_any _ (hT.of_below (bAlloc (by simp) (bAlloc (Nat.le_refl _) (Below.refl _ _)))) (hO.of_below (bAlloc (by simp) (bAlloc (Nat.le_refl _) (Below.refl _ _))))).mono ?_
  rintro e w1 ⟨rfl, hb1⟩
  have hB1 : Below w.heap.size w w1 := below_then (bAlloc (by simp) (bAlloc (Nat.le_refl _) (Below.refl _ _))) hb1 (by simp; omega)
  have hI1 : RowAt w1 w.heap.size [.slice cp im.code.length ccap, .slice ep im.ents.length ecap, .int .i64 im.sh, .int .i64 im.lk] := RowAt.below (B := w.heap.size + 1 + 1) ⟨_, (Below.heap_alloc _ _ _ (by simp)).trans (heap_alloc_new _ _)⟩ (hb1.mono (by simp)) (by omega)
  have hS1 : RowAt w1 (w.heap.size + 1) (stCells s (.slice dp s.d.length dcap)) := RowAt.below (B := w.heap.size + 1 + 1) ⟨_, heap_at1 _ _ _⟩ (hb1.mono (by simp)) (by omega)
  clear hb1
  have i0 := hI1.cell 0
  have i1 := hI1.cell 1
  have i2 := hI1.cell 2
  have i3 := hI1.cell 3
  simp only [List.getElem?_cons_zero, List.getElem?_cons_succ] at i0 i1 i2 i3
  obtain ⟨tS, hS1'⟩ := hS1
  have HS := Lib.hid hS1'
  clear hS1'
  cases hsm : smallB im.code.length im.ents.length s.d.length sh.length
  · rw [hsm, if_neg (by simp)] at SM
    go_wp2_with (first | (refine wpList_load_row rfl 29 (.tmp 7) rfl (w.heap.size + 1) rfl tS _ (0, 0) _ HS.out Tryd.underlying29 rfl HI.out ?_))
    refine (SM.out _).mono ?_
    rintro e w2 ⟨rfl, hb2⟩
    go_wp2_with fail
    go_ret
    exact ⟨rfl, below_then hB1 hb2 hB1.size⟩
  · rw [hsm, if_pos (by simp)] at SM
    have hsz : im.code.length ≤ 200 ∧ im.ents.length ≤ 8 ∧ s.d.length ≤ 100 ∧ sh.length ≤ 100 := by simpa [smallB] using hsm
    clear hsm
    go_wp2_with (first | (refine wpList_load_row rfl 29 (.tmp 7) rfl (w.heap.size + 1) rfl tS _ (0, 0) _ HS.out Tryd.underlying29 rfl HI.out ?_))
    refine (SM.out _).mono ?_
    rintro e w2 ⟨rfl, hb2⟩
    have hB2 : Below w.heap.size w w2 := below_then hB1 hb2 hB1.size
    have hI2 := hI1.below hb2 hI1.lt
    have hS2 : RowAt w2 (w.heap.size + 1) (stCells s (.slice dp s.d.length dcap)) := RowAt.below ⟨tS, HS.out⟩ hb2 (lt_of_block HS.out)
    have him2 := (him hsz.1).below hB2 (Nat.le_refl _)
    clear hb2 i0 i1 i2 i3 hI1 HS SM
    have hlS := hS2.lt
    have hlI := hI2.lt
    obtain ⟨i0, hi0, hz0, hz1, hz2⟩ := info_parts Tryd.info32
    obtain ⟨k0, hk0, hkz0, hkz1, hkz2⟩ := info_parts Tryd.infoOut
    have hxi := Tryd.underlying27
    have hxo := Tryd.underlying50
    have HI20 : (Tryd.prog.info? 29).map (·.size) = some (stCells s (.slice dp s.d.length dcap)).length := by rw [stCells_len hr]; exact infoState
    have hrd2 := hrd.below hB2 (Nat.le_refl _)
    have hrm2 := hrm.below hB2 (Nat.le_refl _)
    have hz2' := hB2.size
    by_cases hfu : 300 < fuel
    · have hfd : decide (fuel > 300) = true := by simpa using hfu
      go_wp2_with fail
      go_ret
      exact ⟨rfl, hB2⟩
    have hfd : decide (fuel > 300) = false := by simpa using hfu
    have hfu' : fuel ≤ 300 := by omega
    have hr1 := Lib.hid (gr1 hfu')
    have HDL := Lib.hid (gdl hfu')
    have HML := Lib.hid (gml hfu')
    have hol := gol hfu'
    have hnl := gnl hfu'
    clear hfu gr1 gdl gml gol gnl
    go_wp2_with fail
    refine two_meet w2 s (.slice dp s.d.length dcap) 37 39 38 40 11 12 ?_ ?_
    · skip
      refine wp_region_held_drew (S := fun W => Below w2.heap.size w2 W) (by kernel_rfl) (Below.refl _ _).drew (fun hHeld => ?_)
      generalize w2.drew = v0 at hHeld ⊢
      have hz0 := hHeld.size
      refine wpAnyH_take (i := 0) (oi := { dst := some 37, op := Go.Op.load 29 (Go.Operand.tmp 7), type := 29, pos := "law.go:79", after := #[], guard := none }) rfl (by kernel_rfl) (by kernel_rfl) (by kernel_rfl) (fun _ _ _ h => nomatch h.1) (yieldsIf_load_mid rfl 29 (.tmp 7) rfl (w.heap.size + 1) 0 rfl (stCells s (.slice dp s.d.length dcap)) _ (fun w hb => (hS2.below hb hlS).range) Tryd.underlying29 rfl HI20) hHeld ?_
      try simp only [Act.put, List.setIfInBounds_toArray, List.set_cons_zero, List.set_cons_succ]
      refine wpAnyH_take (i := 2) (oi := { dst := some 39, op := Go.Op.load 29 (Go.Operand.tmp 7), type := 29, pos := "law.go:79", after := #[], guard := none }) rfl (by kernel_rfl) (by kernel_rfl) (by kernel_rfl) (fun _ _ _ h => nomatch h.1) (yieldsIf_load_mid rfl 29 (.tmp 7) rfl (w.heap.size + 1) 0 rfl (stCells s (.slice dp s.d.length dcap)) _ (fun w hb => (hS2.below hb hlS).range) Tryd.underlying29 rfl HI20) hHeld ?_
      try simp only [Act.put, List.setIfInBounds_toArray, List.set_cons_zero, List.set_cons_succ]
      refine wpAnyH_ready (rs := [1, 4, 5]) (by kernel_rfl) (by simp) ?_
      refine AllReadyH.cons (o := { dst := some 38, op := Go.Op.call { callee := Go.Callee.value (Go.Operand.func 12), args := #[Go.Operand.tmp 37], argTypes := #[29] }, type := 29, pos := "law.go:79", after := #[{ on := 0, ground := Go.Ground.data }], guard := none }) rfl (fun K hK => ?_) (AllReadyH.cons (o := { dst := some 11, op := Go.Op.alloc 29, type := 0, pos := "law.go:79", after := #[], guard := none }) rfl (fun K hK => ?_) (AllReadyH.cons (o := { dst := some 12, op := Go.Op.alloc 29, type := 0, pos := "law.go:79", after := #[], guard := none }) rfl (fun K hK => ?_) AllReadyH.nil))
      · skip
        go_simp
        refine (copyS s dp s.d.length dcap _ hr rfl (hrd2.below hHeld (Nat.le_refl _)) hn0 (by omega)).mono ?_
        rintro e v1 ⟨px, cx, rfl, hC, hown⟩
        first | (refine hK.out _ _ ?_ (fun hHeld => ?_)) | (go_wp2_with fail; refine hK.out _ _ ?_ (fun hHeld => ?_))
        · exact hHeld.trans (hC.mono hHeld.size)
        clear hK K
        try simp only [Act.put, List.setIfInBounds_toArray, List.set_cons_zero, List.set_cons_succ]
        have mx1 := MemAt.of_owns hown
        have hz1 := hC.size
        have ox : ∀ k, (Value.slice px s.d.length cx).ownBlock = some k → v0.heap.size ≤ k ∧ k < v1.heap.size := fun k hk => ⟨by have := ownBase hown hk; omega, own_lt hown hk⟩
        clear hown
        clear hC
        refine wpAnyH_ready (rs := [3, 4, 5]) (by kernel_rfl) (by simp) ?_
        refine AllReadyH.cons (o := { dst := some 40, op := Go.Op.call { callee := Go.Callee.value (Go.Operand.func 12), args := #[Go.Operand.tmp 39], argTypes := #[29] }, type := 29, pos := "law.go:79", after := #[{ on := 2, ground := Go.Ground.data }, { on := 1, ground := Go.Ground.chain }], guard := none }) rfl (fun K hK => ?_) (AllReadyH.cons (o := { dst := some 11, op := Go.Op.alloc 29, type := 0, pos := "law.go:79", after := #[], guard := none }) rfl (fun K hK => ?_) (AllReadyH.cons (o := { dst := some 12, op := Go.Op.alloc 29, type := 0, pos := "law.go:79", after := #[], guard := none }) rfl (fun K hK => ?_) AllReadyH.nil))
        · skip
          go_simp
          refine (copyS s dp s.d.length dcap _ hr rfl (hrd2.below hHeld (Nat.le_refl _)) hn0 (by omega)).mono ?_
          rintro e v2 ⟨py, cy, rfl, hC, hown⟩
          first | (refine hK.out _ _ ?_ (fun hHeld => ?_)) | (go_wp2_with fail; refine hK.out _ _ ?_ (fun hHeld => ?_))
          · exact hHeld.trans (hC.mono hHeld.size)
          clear hK K
          try simp only [Act.put, List.setIfInBounds_toArray, List.set_cons_zero, List.set_cons_succ]
          have my2 := MemAt.of_owns hown
          have hz2 := hC.size
          have oy : ∀ k, (Value.slice py s.d.length cy).ownBlock = some k → v1.heap.size ≤ k ∧ k < v2.heap.size := fun k hk => ⟨by have := ownBase hown hk; omega, own_lt hown hk⟩
          clear hown
          have mx2 := mx1.below hC (Nat.le_refl _)
          clear hC
          refine wpAnyH_ready (rs := [4, 5]) (by kernel_rfl) (by simp) ?_
          refine AllReadyH.cons (o := { dst := some 11, op := Go.Op.alloc 29, type := 0, pos := "law.go:79", after := #[], guard := none }) rfl (fun K hK => ?_) (AllReadyH.cons (o := { dst := some 12, op := Go.Op.alloc 29, type := 0, pos := "law.go:79", after := #[], guard := none }) rfl (fun K hK => ?_) AllReadyH.nil)
          · skip
            go_simp
            refine hK.out _ _ ?_ (fun hHeld => ?_)
            · exact bAlloc hHeld.size hHeld
            clear hK K
            try simp only [Act.put, List.setIfInBounds_toArray, List.set_cons_zero, List.set_cons_succ]
            have hC : Below v2.heap.size v2 (v2.alloc (.cells #[.int .i64 0, .int .i32 0, .int .i32 0, .int .i32 0, .int .i32 0, .int .i32 0, .int .i32 0, .int .i32 0, .int .i32 0, .int .i32 0, .int .i32 0, .int .i32 0, .int .i32 0, .int .i32 0, .int .i32 0, .int .i32 0, .int .i32 0, .slice none 0 0, .bool false, .int .i64 0] 29)) := bAlloc (Nat.le_refl _) (Below.refl _ _)
            have x3 := RowAt.alloc_new v2 [.int .i64 0, .int .i32 0, .int .i32 0, .int .i32 0, .int .i32 0, .int .i32 0, .int .i32 0, .int .i32 0, .int .i32 0, .int .i32 0, .int .i32 0, .int .i32 0, .int .i32 0, .int .i32 0, .int .i32 0, .int .i32 0, .int .i32 0, .slice none 0 0, .bool false, .int .i64 0] 29
            have hz3 : v2.heap.size < (v2.alloc (.cells #[.int .i64 0, .int .i32 0, .int .i32 0, .int .i32 0, .int .i32 0, .int .i32 0, .int .i32 0, .int .i32 0, .int .i32 0, .int .i32 0, .int .i32 0, .int .i32 0, .int .i32 0, .int .i32 0, .int .i32 0, .int .i32 0, .int .i32 0, .slice none 0 0, .bool false, .int .i64 0] 29)).heap.size := by simp
            have bdx : v2.heap.size ≤ v2.heap.size := Nat.le_refl _
            generalize v2.alloc (.cells #[.int .i64 0, .int .i32 0, .int .i32 0, .int .i32 0, .int .i32 0, .int .i32 0, .int .i32 0, .int .i32 0, .int .i32 0, .int .i32 0, .int .i32 0, .int .i32 0, .int .i32 0, .int .i32 0, .int .i32 0, .int .i32 0, .int .i32 0, .slice none 0 0, .bool false, .int .i64 0] 29) = v3 at hHeld hC x3 hz3 ⊢
            have mx3 := mx2.below hC (Nat.le_refl _)
            have my3 := my2.below hC (Nat.le_refl _)
            clear hC
            refine wpAnyH_ready (rs := [5]) (by kernel_rfl) (by simp) ?_
            refine AllReadyH.cons (o := { dst := some 12, op := Go.Op.alloc 29, type := 0, pos := "law.go:79", after := #[], guard := none }) rfl (fun K hK => ?_) AllReadyH.nil
            go_simp
            refine hK.out _ _ ?_ (fun hHeld => ?_)
            · exact bAlloc hHeld.size hHeld
            clear hK K
            try simp only [Act.put, List.setIfInBounds_toArray, List.set_cons_zero, List.set_cons_succ]
            have hC : Below v3.heap.size v3 (v3.alloc (.cells #[.int .i64 0, .int .i32 0, .int .i32 0, .int .i32 0, .int .i32 0, .int .i32 0, .int .i32 0, .int .i32 0, .int .i32 0, .int .i32 0, .int .i32 0, .int .i32 0, .int .i32 0, .int .i32 0, .int .i32 0, .int .i32 0, .int .i32 0, .slice none 0 0, .bool false, .int .i64 0] 29)) := bAlloc (Nat.le_refl _) (Below.refl _ _)
            have y4 := RowAt.alloc_new v3 [.int .i64 0, .int .i32 0, .int .i32 0, .int .i32 0, .int .i32 0, .int .i32 0, .int .i32 0, .int .i32 0, .int .i32 0, .int .i32 0, .int .i32 0, .int .i32 0, .int .i32 0, .int .i32 0, .int .i32 0, .int .i32 0, .int .i32 0, .slice none 0 0, .bool false, .int .i64 0] 29
            have hz4 : v3.heap.size < (v3.alloc (.cells #[.int .i64 0, .int .i32 0, .int .i32 0, .int .i32 0, .int .i32 0, .int .i32 0, .int .i32 0, .int .i32 0, .int .i32 0, .int .i32 0, .int .i32 0, .int .i32 0, .int .i32 0, .int .i32 0, .int .i32 0, .int .i32 0, .int .i32 0, .slice none 0 0, .bool false, .int .i64 0] 29)).heap.size := by simp
            have bdy : v3.heap.size ≤ v3.heap.size := Nat.le_refl _
            generalize v3.alloc (.cells #[.int .i64 0, .int .i32 0, .int .i32 0, .int .i32 0, .int .i32 0, .int .i32 0, .int .i32 0, .int .i32 0, .int .i32 0, .int .i32 0, .int .i32 0, .int .i32 0, .int .i32 0, .int .i32 0, .int .i32 0, .int .i32 0, .int .i32 0, .slice none 0 0, .bool false, .int .i64 0] 29) = v4 at hHeld hC y4 hz4 ⊢
            have x4 := x3.below hC x3.lt
            have mx4 := mx3.below hC (Nat.le_refl _)
            have my4 := my3.below hC (Nat.le_refl _)
            clear hC
            refine wpAnyH_ready (rs := [6]) (by kernel_rfl) (by simp) ?_
            refine AllReadyH.cons (o := { dst := none, op := Go.Op.store 29 (Go.Operand.tmp 11) (Go.Operand.tmp 38), type := 0, pos := "law.go:79", after := #[{ on := 4, ground := Go.Ground.data }, { on := 1, ground := Go.Ground.data }, { on := 3, ground := Go.Ground.chain }, { on := 0, ground := Go.Ground.phase }, { on := 1, ground := Go.Ground.phase }, { on := 2, ground := Go.Ground.textOnly Go.Departure.lateStores }, { on := 3, ground := Go.Ground.phase }, { on := 4, ground := Go.Ground.phase }, { on := 5, ground := Go.Ground.phase }], guard := none }) rfl (fun K hK => ?_) AllReadyH.nil
            obtain ⟨tzx, hz⟩ := x4
            have hbx := lt_of_block hz
            have hby := y4.lt
            refine step_store_row rfl 29 (.tmp 11) (.tmp 38) rfl (v2.heap.size) _ rfl rfl tzx _ hz (by rw [List.size_toArray, stCells_len hr]; exact infoState) (by first | (rw [List.size_toArray, List.size_toArray, stCells_len hr]; rfl) | (rw [List.size_toArray, stCells_len hr]; rfl)) (stCells_one s _ _ _) ?_
            refine hK.out _ _ ?_ (fun hHeld => ?_)
            · exact bRow (by have := hHeld.size; omega) hHeld
            clear hK K
            try simp only [Act.put, List.setIfInBounds_toArray, List.set_cons_zero, List.set_cons_succ]
            have x5 : RowAt (v4.setRow (v2.heap.size) (stCells s (.slice px s.d.length cx)).toArray) (v2.heap.size) (stCells s (.slice px s.d.length cx)) := ⟨_, setRow_heap _ _ _ _ _ _ hz⟩
            have hz5 : v4.heap.size ≤ (v4.setRow (v2.heap.size) (stCells s (.slice px s.d.length cx)).toArray).heap.size := by rw [setRow_size]; exact Nat.le_refl _
            have y5 := y4.block (setRow_block v4 (v2.heap.size) (stCells s (.slice px s.d.length cx)).toArray (by omega))
            have mx5 := mx4.block (fun k hk => setRow_block v4 (v2.heap.size) (stCells s (.slice px s.d.length cx)).toArray (by have := ox k hk; omega))
            have my5 := my4.block (fun k hk => setRow_block v4 (v2.heap.size) (stCells s (.slice px s.d.length cx)).toArray (by have := oy k hk; omega))
            clear hz
            generalize v4.setRow (v2.heap.size) (stCells s (.slice px s.d.length cx)).toArray = v5 at hHeld hz5 x5 y5 mx5 my5 ⊢
            refine wpAnyH_ready (rs := [7]) (by kernel_rfl) (by simp) ?_
            refine AllReadyH.cons (o := { dst := none, op := Go.Op.store 29 (Go.Operand.tmp 12) (Go.Operand.tmp 40), type := 0, pos := "law.go:79", after := #[{ on := 5, ground := Go.Ground.data }, { on := 3, ground := Go.Ground.data }, { on := 6, ground := Go.Ground.chain }, { on := 0, ground := Go.Ground.phase }, { on := 1, ground := Go.Ground.phase }, { on := 2, ground := Go.Ground.phase }, { on := 3, ground := Go.Ground.phase }, { on := 4, ground := Go.Ground.phase }, { on := 5, ground := Go.Ground.phase }, { on := 6, ground := Go.Ground.phase }], guard := none }) rfl (fun K hK => ?_) AllReadyH.nil
            obtain ⟨tzy, hz⟩ := y5
            refine step_store_row rfl 29 (.tmp 12) (.tmp 40) rfl (v3.heap.size) _ rfl rfl tzy _ hz (by rw [List.size_toArray, stCells_len hr]; exact infoState) (by first | (rw [List.size_toArray, List.size_toArray, stCells_len hr]; rfl) | (rw [List.size_toArray, stCells_len hr]; rfl)) (stCells_one s _ _ _) ?_
            refine hK.out _ _ ?_ (fun hHeld => ?_)
            · exact bRow (by have := hHeld.size; omega) hHeld
            clear hK K
            try simp only [Act.put, List.setIfInBounds_toArray, List.set_cons_zero, List.set_cons_succ]
            have y6 : RowAt (v5.setRow (v3.heap.size) (stCells s (.slice py s.d.length cy)).toArray) (v3.heap.size) (stCells s (.slice py s.d.length cy)) := ⟨_, setRow_heap _ _ _ _ _ _ hz⟩
            have hz6 : v5.heap.size ≤ (v5.setRow (v3.heap.size) (stCells s (.slice py s.d.length cy)).toArray).heap.size := by rw [setRow_size]; exact Nat.le_refl _
            have x6 := x5.block (setRow_block v5 (v3.heap.size) (stCells s (.slice py s.d.length cy)).toArray (by omega))
            have mx6 := mx5.block (fun k hk => setRow_block v5 (v3.heap.size) (stCells s (.slice py s.d.length cy)).toArray (by have := ox k hk; omega))
            have my6 := my5.block (fun k hk => setRow_block v5 (v3.heap.size) (stCells s (.slice py s.d.length cy)).toArray (by have := oy k hk; omega))
            clear hz
            generalize v5.setRow (v3.heap.size) (stCells s (.slice py s.d.length cy)).toArray = v6 at hHeld hz6 x6 y6 mx6 my6 ⊢
            refine wpAnyH_done (by kernel_rfl) ?_ _
            exact ⟨rfl, v2.heap.size, v3.heap.size, px, cx, py, cy, by first | rfl | (simp only [put6, Act.put, List.setIfInBounds_toArray, List.set_cons_zero, List.set_cons_succ]), ⟨hHeld, ⟨hr, x6⟩, ⟨hr, y6⟩, mx6, my6, by omega, by omega, fun k hk => by have h1 := ox k hk; exact ⟨by omega, by omega, by omega, by omega, fun h => by have h2 := oy k h; omega⟩, fun k hk => by have h1 := oy k hk; exact ⟨by omega, by omega, by omega, by omega, fun h => by have h2 := ox k h; omega⟩, by omega⟩⟩
          · skip
            go_simp
            refine hK.out _ _ ?_ (fun hHeld => ?_)
            · exact bAlloc hHeld.size hHeld
            clear hK K
            try simp only [Act.put, List.setIfInBounds_toArray, List.set_cons_zero, List.set_cons_succ]
            have hC : Below v2.heap.size v2 (v2.alloc (.cells #[.int .i64 0, .int .i32 0, .int .i32 0, .int .i32 0, .int .i32 0, .int .i32 0, .int .i32 0, .int .i32 0, .int .i32 0, .int .i32 0, .int .i32 0, .int .i32 0, .int .i32 0, .int .i32 0, .int .i32 0, .int .i32 0, .int .i32 0, .slice none 0 0, .bool false, .int .i64 0] 29)) := bAlloc (Nat.le_refl _) (Below.refl _ _)
            have y3 := RowAt.alloc_new v2 [.int .i64 0, .int .i32 0, .int .i32 0, .int .i32 0, .int .i32 0, .int .i32 0, .int .i32 0, .int .i32 0, .int .i32 0, .int .i32 0, .int .i32 0, .int .i32 0, .int .i32 0, .int .i32 0, .int .i32 0, .int .i32 0, .int .i32 0, .slice none 0 0, .bool false, .int .i64 0] 29
            have hz3 : v2.heap.size < (v2.alloc (.cells #[.int .i64 0, .int .i32 0, .int .i32 0, .int .i32 0, .int .i32 0, .int .i32 0, .int .i32 0, .int .i32 0, .int .i32 0, .int .i32 0, .int .i32 0, .int .i32 0, .int .i32 0, .int .i32 0, .int .i32 0, .int .i32 0, .int .i32 0, .slice none 0 0, .bool false, .int .i64 0] 29)).heap.size := by simp
            have bdy : v2.heap.size ≤ v2.heap.size := Nat.le_refl _
            generalize v2.alloc (.cells #[.int .i64 0, .int .i32 0, .int .i32 0, .int .i32 0, .int .i32 0, .int .i32 0, .int .i32 0, .int .i32 0, .int .i32 0, .int .i32 0, .int .i32 0, .int .i32 0, .int .i32 0, .int .i32 0, .int .i32 0, .int .i32 0, .int .i32 0, .slice none 0 0, .bool false, .int .i64 0] 29) = v3 at hHeld hC y3 hz3 ⊢
            have mx3 := mx2.below hC (Nat.le_refl _)
            have my3 := my2.below hC (Nat.le_refl _)
            clear hC
            refine wpAnyH_ready (rs := [4]) (by kernel_rfl) (by simp) ?_
            refine AllReadyH.cons (o := { dst := some 11, op := Go.Op.alloc 29, type := 0, pos := "law.go:79", after := #[], guard := none }) rfl (fun K hK => ?_) AllReadyH.nil
            go_simp
            refine hK.out _ _ ?_ (fun hHeld => ?_)
            · exact bAlloc hHeld.size hHeld
            clear hK K
            try simp only [Act.put, List.setIfInBounds_toArray, List.set_cons_zero, List.set_cons_succ]
            have hC : Below v3.heap.size v3 (v3.alloc (.cells #[.int .i64 0, .int .i32 0, .int .i32 0, .int .i32 0, .int .i32 0, .int .i32 0, .int .i32 0, .int .i32 0, .int .i32 0, .int .i32 0, .int .i32 0, .int .i32 0, .int .i32 0, .int .i32 0, .int .i32 0, .int .i32 0, .int .i32 0, .slice none 0 0, .bool false, .int .i64 0] 29)) := bAlloc (Nat.le_refl _) (Below.refl _ _)
            have x4 := RowAt.alloc_new v3 [.int .i64 0, .int .i32 0, .int .i32 0, .int .i32 0, .int .i32 0, .int .i32 0, .int .i32 0, .int .i32 0, .int .i32 0, .int .i32 0, .int .i32 0, .int .i32 0, .int .i32 0, .int .i32 0, .int .i32 0, .int .i32 0, .int .i32 0, .slice none 0 0, .bool false, .int .i64 0] 29
            have hz4 : v3.heap.size < (v3.alloc (.cells #[.int .i64 0, .int .i32 0, .int .i32 0, .int .i32 0, .int .i32 0, .int .i32 0, .int .i32 0, .int .i32 0, .int .i32 0, .int .i32 0, .int .i32 0, .int .i32 0, .int .i32 0, .int .i32 0, .int .i32 0, .int .i32 0, .int .i32 0, .slice none 0 0, .bool false, .int .i64 0] 29)).heap.size := by simp
            have bdx : v3.heap.size ≤ v3.heap.size := Nat.le_refl _
            generalize v3.alloc (.cells #[.int .i64 0, .int .i32 0, .int .i32 0, .int .i32 0, .int .i32 0, .int .i32 0, .int .i32 0, .int .i32 0, .int .i32 0, .int .i32 0, .int .i32 0, .int .i32 0, .int .i32 0, .int .i32 0, .int .i32 0, .int .i32 0, .int .i32 0, .slice none 0 0, .bool false, .int .i64 0] 29) = v4 at hHeld hC x4 hz4 ⊢
            have y4 := y3.below hC y3.lt
            have mx4 := mx3.below hC (Nat.le_refl _)
            have my4 := my3.below hC (Nat.le_refl _)
            clear hC
            refine wpAnyH_ready (rs := [6]) (by kernel_rfl) (by simp) ?_
            refine AllReadyH.cons (o := { dst := none, op := Go.Op.store 29 (Go.Operand.tmp 11) (Go.Operand.tmp 38), type := 0, pos := "law.go:79", after := #[{ on := 4, ground := Go.Ground.data }, { on := 1, ground := Go.Ground.data }, { on := 3, ground := Go.Ground.chain }, { on := 0, ground := Go.Ground.phase }, { on := 1, ground := Go.Ground.phase }, { on := 2, ground := Go.Ground.textOnly Go.Departure.lateStores }, { on := 3, ground := Go.Ground.phase }, { on := 4, ground := Go.Ground.phase }, { on := 5, ground := Go.Ground.phase }], guard := none }) rfl (fun K hK => ?_) AllReadyH.nil
            obtain ⟨tzx, hz⟩ := x4
            have hbx := lt_of_block hz
            have hby := y4.lt
            refine step_store_row rfl 29 (.tmp 11) (.tmp 38) rfl (v3.heap.size) _ rfl rfl tzx _ hz (by rw [List.size_toArray, stCells_len hr]; exact infoState) (by first | (rw [List.size_toArray, List.size_toArray, stCells_len hr]; rfl) | (rw [List.size_toArray, stCells_len hr]; rfl)) (stCells_one s _ _ _) ?_
            refine hK.out _ _ ?_ (fun hHeld => ?_)
            · exact bRow (by have := hHeld.size; omega) hHeld
            clear hK K
            try simp only [Act.put, List.setIfInBounds_toArray, List.set_cons_zero, List.set_cons_succ]
            have x5 : RowAt (v4.setRow (v3.heap.size) (stCells s (.slice px s.d.length cx)).toArray) (v3.heap.size) (stCells s (.slice px s.d.length cx)) := ⟨_, setRow_heap _ _ _ _ _ _ hz⟩
            have hz5 : v4.heap.size ≤ (v4.setRow (v3.heap.size) (stCells s (.slice px s.d.length cx)).toArray).heap.size := by rw [setRow_size]; exact Nat.le_refl _
            have y5 := y4.block (setRow_block v4 (v3.heap.size) (stCells s (.slice px s.d.length cx)).toArray (by omega))
            have mx5 := mx4.block (fun k hk => setRow_block v4 (v3.heap.size) (stCells s (.slice px s.d.length cx)).toArray (by have := ox k hk; omega))
            have my5 := my4.block (fun k hk => setRow_block v4 (v3.heap.size) (stCells s (.slice px s.d.length cx)).toArray (by have := oy k hk; omega))
            clear hz
            generalize v4.setRow (v3.heap.size) (stCells s (.slice px s.d.length cx)).toArray = v5 at hHeld hz5 y5 x5 mx5 my5 ⊢
            refine wpAnyH_ready (rs := [7]) (by kernel_rfl) (by simp) ?_
            refine AllReadyH.cons (o := { dst := none, op := Go.Op.store 29 (Go.Operand.tmp 12) (Go.Operand.tmp 40), type := 0, pos := "law.go:79", after := #[{ on := 5, ground := Go.Ground.data }, { on := 3, ground := Go.Ground.data }, { on := 6, ground := Go.Ground.chain }, { on := 0, ground := Go.Ground.phase }, { on := 1, ground := Go.Ground.phase }, { on := 2, ground := Go.Ground.phase }, { on := 3, ground := Go.Ground.phase }, { on := 4, ground := Go.Ground.phase }, { on := 5, ground := Go.Ground.phase }, { on := 6, ground := Go.Ground.phase }], guard := none }) rfl (fun K hK => ?_) AllReadyH.nil
            obtain ⟨tzy, hz⟩ := y5
            refine step_store_row rfl 29 (.tmp 12) (.tmp 40) rfl (v2.heap.size) _ rfl rfl tzy _ hz (by rw [List.size_toArray, stCells_len hr]; exact infoState) (by first | (rw [List.size_toArray, List.size_toArray, stCells_len hr]; rfl) | (rw [List.size_toArray, stCells_len hr]; rfl)) (stCells_one s _ _ _) ?_
            refine hK.out _ _ ?_ (fun hHeld => ?_)
            · exact bRow (by have := hHeld.size; omega) hHeld
            clear hK K
            try simp only [Act.put, List.setIfInBounds_toArray, List.set_cons_zero, List.set_cons_succ]
            have y6 : RowAt (v5.setRow (v2.heap.size) (stCells s (.slice py s.d.length cy)).toArray) (v2.heap.size) (stCells s (.slice py s.d.length cy)) := ⟨_, setRow_heap _ _ _ _ _ _ hz⟩
            have hz6 : v5.heap.size ≤ (v5.setRow (v2.heap.size) (stCells s (.slice py s.d.length cy)).toArray).heap.size := by rw [setRow_size]; exact Nat.le_refl _
            have x6 := x5.block (setRow_block v5 (v2.heap.size) (stCells s (.slice py s.d.length cy)).toArray (by omega))
            have mx6 := mx5.block (fun k hk => setRow_block v5 (v2.heap.size) (stCells s (.slice py s.d.length cy)).toArray (by have := ox k hk; omega))
            have my6 := my5.block (fun k hk => setRow_block v5 (v2.heap.size) (stCells s (.slice py s.d.length cy)).toArray (by have := oy k hk; omega))
            clear hz
            generalize v5.setRow (v2.heap.size) (stCells s (.slice py s.d.length cy)).toArray = v6 at hHeld hz6 y6 x6 mx6 my6 ⊢
            refine wpAnyH_done (by kernel_rfl) ?_ _
            exact ⟨rfl, v3.heap.size, v2.heap.size, px, cx, py, cy, by first | rfl | (simp only [put6, Act.put, List.setIfInBounds_toArray, List.set_cons_zero, List.set_cons_succ]), ⟨hHeld, ⟨hr, x6⟩, ⟨hr, y6⟩, mx6, my6, by omega, by omega, fun k hk => by have h1 := ox k hk; exact ⟨by omega, by omega, by omega, by omega, fun h => by have h2 := oy k h; omega⟩, fun k hk => by have h1 := oy k hk; exact ⟨by omega, by omega, by omega, by omega, fun h => by have h2 := ox k h; omega⟩, by omega⟩⟩
        · skip
          go_simp
          refine hK.out _ _ ?_ (fun hHeld => ?_)
          · exact bAlloc hHeld.size hHeld
          clear hK K
          try simp only [Act.put, List.setIfInBounds_toArray, List.set_cons_zero, List.set_cons_succ]
          have hC : Below v1.heap.size v1 (v1.alloc (.cells #[.int .i64 0, .int .i32 0, .int .i32 0, .int .i32 0, .int .i32 0, .int .i32 0, .int .i32 0, .int .i32 0, .int .i32 0, .int .i32 0, .int .i32 0, .int .i32 0, .int .i32 0, .int .i32 0, .int .i32 0, .int .i32 0, .int .i32 0, .slice none 0 0, .bool false, .int .i64 0] 29)) := bAlloc (Nat.le_refl _) (Below.refl _ _)
          have x2 := RowAt.alloc_new v1 [.int .i64 0, .int .i32 0, .int .i32 0, .int .i32 0, .int .i32 0, .int .i32 0, .int .i32 0, .int .i32 0, .int .i32 0, .int .i32 0, .int .i32 0, .int .i32 0, .int .i32 0, .int .i32 0, .int .i32 0, .int .i32 0, .int .i32 0, .slice none 0 0, .bool false, .int .i64 0] 29
          have hz2 : v1.heap.size < (v1.alloc (.cells #[.int .i64 0, .int .i32 0, .int .i32 0, .int .i32 0, .int .i32 0, .int .i32 0, .int .i32 0, .int .i32 0, .int .i32 0, .int .i32 0, .int .i32 0, .int .i32 0, .int .i32 0, .int .i32 0, .int .i32 0, .int .i32 0, .int .i32 0, .slice none 0 0, .bool false, .int .i64 0] 29)).heap.size := by simp
          have bdx : v1.heap.size ≤ v1.heap.size := Nat.le_refl _
          generalize v1.alloc (.cells #[.int .i64 0, .int .i32 0, .int .i32 0, .int .i32 0, .int .i32 0, .int .i32 0, .int .i32 0, .int .i32 0, .int .i32 0, .int .i32 0, .int .i32 0, .int .i32 0, .int .i32 0, .int .i32 0, .int .i32 0, .int .i32 0, .int .i32 0, .slice none 0 0, .bool false, .int .i64 0] 29) = v2 at hHeld hC x2 hz2 ⊢
          have mx2 := mx1.below hC (Nat.le_refl _)
          clear hC
          refine wpAnyH_ready (rs := [3, 5]) (by kernel_rfl) (by simp) ?_
          refine AllReadyH.cons (o := { dst := some 40, op := Go.Op.call { callee := Go.Callee.value (Go.Operand.func 12), args := #[Go.Operand.tmp 39], argTypes := #[29] }, type := 29, pos := "law.go:79", after := #[{ on := 2, ground := Go.Ground.data }, { on := 1, ground := Go.Ground.chain }], guard := none }) rfl (fun K hK => ?_) (AllReadyH.cons (o := { dst := some 12, op := Go.Op.alloc 29, type := 0, pos := "law.go:79", after := #[], guard := none }) rfl (fun K hK => ?_) AllReadyH.nil)
          · skip
            go_simp
            refine (copyS s dp s.d.length dcap _ hr rfl (hrd2.below hHeld (Nat.le_refl _)) hn0 (by omega)).mono ?_
            rintro e v3 ⟨py, cy, rfl, hC, hown⟩
            first | (refine hK.out _ _ ?_ (fun hHeld => ?_)) | (go_wp2_with fail; refine hK.out _ _ ?_ (fun hHeld => ?_))
            · exact hHeld.trans (hC.mono hHeld.size)
            clear hK K
            try simp only [Act.put, List.setIfInBounds_toArray, List.set_cons_zero, List.set_cons_succ]
            have my3 := MemAt.of_owns hown
            have hz3 := hC.size
            have oy : ∀ k, (Value.slice py s.d.length cy).ownBlock = some k → v2.heap.size ≤ k ∧ k < v3.heap.size := fun k hk => ⟨by have := ownBase hown hk; omega, own_lt hown hk⟩
            clear hown
            have x3 := x2.below hC x2.lt
            have mx3 := mx2.below hC (Nat.le_refl _)
            clear hC
            refine wpAnyH_ready (rs := [5]) (by kernel_rfl) (by simp) ?_
            refine AllReadyH.cons (o := { dst := some 12, op := Go.Op.alloc 29, type := 0, pos := "law.go:79", after := #[], guard := none }) rfl (fun K hK => ?_) AllReadyH.nil
            go_simp
            refine hK.out _ _ ?_ (fun hHeld => ?_)
            · exact bAlloc hHeld.size hHeld
            clear hK K
            try simp only [Act.put, List.setIfInBounds_toArray, List.set_cons_zero, List.set_cons_succ]
            have hC : Below v3.heap.size v3 (v3.alloc (.cells #[.int .i64 0, .int .i32 0, .int .i32 0, .int .i32 0, .int .i32 0, .int .i32 0, .int .i32 0, .int .i32 0, .int .i32 0, .int .i32 0, .int .i32 0, .int .i32 0, .int .i32 0, .int .i32 0, .int .i32 0, .int .i32 0, .int .i32 0, .slice none 0 0, .bool false, .int .i64 0] 29)) := bAlloc (Nat.le_refl _) (Below.refl _ _)
            have y4 := RowAt.alloc_new v3 [.int .i64 0, .int .i32 0, .int .i32 0, .int .i32 0, .int .i32 0, .int .i32 0, .int .i32 0, .int .i32 0, .int .i32 0, .int .i32 0, .int .i32 0, .int .i32 0, .int .i32 0, .int .i32 0, .int .i32 0, .int .i32 0, .int .i32 0, .slice none 0 0, .bool false, .int .i64 0] 29
            have hz4 : v3.heap.size < (v3.alloc (.cells #[.int .i64 0, .int .i32 0, .int .i32 0, .int .i32 0, .int .i32 0, .int .i32 0, .int .i32 0, .int .i32 0, .int .i32 0, .int .i32 0, .int .i32 0, .int .i32 0, .int .i32 0, .int .i32 0, .int .i32 0, .int .i32 0, .int .i32 0, .slice none 0 0, .bool false, .int .i64 0] 29)).heap.size := by simp
            have bdy : v3.heap.size ≤ v3.heap.size := Nat.le_refl _
            generalize v3.alloc (.cells #[.int .i64 0, .int .i32 0, .int .i32 0, .int .i32 0, .int .i32 0, .int .i32 0, .int .i32 0, .int .i32 0, .int .i32 0, .int .i32 0, .int .i32 0, .int .i32 0, .int .i32 0, .int .i32 0, .int .i32 0, .int .i32 0, .int .i32 0, .slice none 0 0, .bool false, .int .i64 0] 29) = v4 at hHeld hC y4 hz4 ⊢
            have x4 := x3.below hC x3.lt
            have mx4 := mx3.below hC (Nat.le_refl _)
            have my4 := my3.below hC (Nat.le_refl _)
            clear hC
            refine wpAnyH_ready (rs := [6]) (by kernel_rfl) (by simp) ?_
            refine AllReadyH.cons (o := { dst := none, op := Go.Op.store 29 (Go.Operand.tmp 11) (Go.Operand.tmp 38), type := 0, pos := "law.go:79", after := #[{ on := 4, ground := Go.Ground.data }, { on := 1, ground := Go.Ground.data }, { on := 3, ground := Go.Ground.chain }, { on := 0, ground := Go.Ground.phase }, { on := 1, ground := Go.Ground.phase }, { on := 2, ground := Go.Ground.textOnly Go.Departure.lateStores }, { on := 3, ground := Go.Ground.phase }, { on := 4, ground := Go.Ground.phase }, { on := 5, ground := Go.Ground.phase }], guard := none }) rfl (fun K hK => ?_) AllReadyH.nil
            obtain ⟨tzx, hz⟩ := x4
            have hbx := lt_of_block hz
            have hby := y4.lt
            refine step_store_row rfl 29 (.tmp 11) (.tmp 38) rfl (v1.heap.size) _ rfl rfl tzx _ hz (by rw [List.size_toArray, stCells_len hr]; exact infoState) (by first | (rw [List.size_toArray, List.size_toArray, stCells_len hr]; rfl) | (rw [List.size_toArray, stCells_len hr]; rfl)) (stCells_one s _ _ _) ?_
            refine hK.out _ _ ?_ (fun hHeld => ?_)
            · exact bRow (by have := hHeld.size; omega) hHeld
            clear hK K
            try simp only [Act.put, List.setIfInBounds_toArray, List.set_cons_zero, List.set_cons_succ]
            have x5 : RowAt (v4.setRow (v1.heap.size) (stCells s (.slice px s.d.length cx)).toArray) (v1.heap.size) (stCells s (.slice px s.d.length cx)) := ⟨_, setRow_heap _ _ _ _ _ _ hz⟩
            have hz5 : v4.heap.size ≤ (v4.setRow (v1.heap.size) (stCells s (.slice px s.d.length cx)).toArray).heap.size := by rw [setRow_size]; exact Nat.le_refl _
            have y5 := y4.block (setRow_block v4 (v1.heap.size) (stCells s (.slice px s.d.length cx)).toArray (by omega))
            have mx5 := mx4.block (fun k hk => setRow_block v4 (v1.heap.size) (stCells s (.slice px s.d.length cx)).toArray (by have := ox k hk; omega))
            have my5 := my4.block (fun k hk => setRow_block v4 (v1.heap.size) (stCells s (.slice px s.d.length cx)).toArray (by have := oy k hk; omega))
            clear hz
            generalize v4.setRow (v1.heap.size) (stCells s (.slice px s.d.length cx)).toArray = v5 at hHeld hz5 x5 y5 mx5 my5 ⊢
            refine wpAnyH_ready (rs := [7]) (by kernel_rfl) (by simp) ?_
            refine AllReadyH.cons (o := { dst := none, op := Go.Op.store 29 (Go.Operand.tmp 12) (Go.Operand.tmp 40), type := 0, pos := "law.go:79", after := #[{ on := 5, ground := Go.Ground.data }, { on := 3, ground := Go.Ground.data }, { on := 6, ground := Go.Ground.chain }, { on := 0, ground := Go.Ground.phase }, { on := 1, ground := Go.Ground.phase }, { on := 2, ground := Go.Ground.phase }, { on := 3, ground := Go.Ground.phase }, { on := 4, ground := Go.Ground.phase }, { on := 5, ground := Go.Ground.phase }, { on := 6, ground := Go.Ground.phase }], guard := none }) rfl (fun K hK => ?_) AllReadyH.nil
            obtain ⟨tzy, hz⟩ := y5
            refine step_store_row rfl 29 (.tmp 12) (.tmp 40) rfl (v3.heap.size) _ rfl rfl tzy _ hz (by rw [List.size_toArray, stCells_len hr]; exact infoState) (by first | (rw [List.size_toArray, List.size_toArray, stCells_len hr]; rfl) | (rw [List.size_toArray, stCells_len hr]; rfl)) (stCells_one s _ _ _) ?_
            refine hK.out _ _ ?_ (fun hHeld => ?_)
            · exact bRow (by have := hHeld.size; omega) hHeld
            clear hK K
            try simp only [Act.put, List.setIfInBounds_toArray, List.set_cons_zero, List.set_cons_succ]
            have y6 : RowAt (v5.setRow (v3.heap.size) (stCells s (.slice py s.d.length cy)).toArray) (v3.heap.size) (stCells s (.slice py s.d.length cy)) := ⟨_, setRow_heap _ _ _ _ _ _ hz⟩
            have hz6 : v5.heap.size ≤ (v5.setRow (v3.heap.size) (stCells s (.slice py s.d.length cy)).toArray).heap.size := by rw [setRow_size]; exact Nat.le_refl _
            have x6 := x5.block (setRow_block v5 (v3.heap.size) (stCells s (.slice py s.d.length cy)).toArray (by omega))
            have mx6 := mx5.block (fun k hk => setRow_block v5 (v3.heap.size) (stCells s (.slice py s.d.length cy)).toArray (by have := ox k hk; omega))
            have my6 := my5.block (fun k hk => setRow_block v5 (v3.heap.size) (stCells s (.slice py s.d.length cy)).toArray (by have := oy k hk; omega))
            clear hz
            generalize v5.setRow (v3.heap.size) (stCells s (.slice py s.d.length cy)).toArray = v6 at hHeld hz6 x6 y6 mx6 my6 ⊢
            refine wpAnyH_done (by kernel_rfl) ?_ _
            exact ⟨rfl, v1.heap.size, v3.heap.size, px, cx, py, cy, by first | rfl | (simp only [put6, Act.put, List.setIfInBounds_toArray, List.set_cons_zero, List.set_cons_succ]), ⟨hHeld, ⟨hr, x6⟩, ⟨hr, y6⟩, mx6, my6, by omega, by omega, fun k hk => by have h1 := ox k hk; exact ⟨by omega, by omega, by omega, by omega, fun h => by have h2 := oy k h; omega⟩, fun k hk => by have h1 := oy k hk; exact ⟨by omega, by omega, by omega, by omega, fun h => by have h2 := ox k h; omega⟩, by omega⟩⟩
          · skip
            go_simp
            refine hK.out _ _ ?_ (fun hHeld => ?_)
            · exact bAlloc hHeld.size hHeld
            clear hK K
            try simp only [Act.put, List.setIfInBounds_toArray, List.set_cons_zero, List.set_cons_succ]
            have hC : Below v2.heap.size v2 (v2.alloc (.cells #[.int .i64 0, .int .i32 0, .int .i32 0, .int .i32 0, .int .i32 0, .int .i32 0, .int .i32 0, .int .i32 0, .int .i32 0, .int .i32 0, .int .i32 0, .int .i32 0, .int .i32 0, .int .i32 0, .int .i32 0, .int .i32 0, .int .i32 0, .slice none 0 0, .bool false, .int .i64 0] 29)) := bAlloc (Nat.le_refl _) (Below.refl _ _)
            have y3 := RowAt.alloc_new v2 [.int .i64 0, .int .i32 0, .int .i32 0, .int .i32 0, .int .i32 0, .int .i32 0, .int .i32 0, .int .i32 0, .int .i32 0, .int .i32 0, .int .i32 0, .int .i32 0, .int .i32 0, .int .i32 0, .int .i32 0, .int .i32 0, .int .i32 0, .slice none 0 0, .bool false, .int .i64 0] 29
            have hz3 : v2.heap.size < (v2.alloc (.cells #[.int .i64 0, .int .i32 0, .int .i32 0, .int .i32 0, .int .i32 0, .int .i32 0, .int .i32 0, .int .i32 0, .int .i32 0, .int .i32 0, .int .i32 0, .int .i32 0, .int .i32 0, .int .i32 0, .int .i32 0, .int .i32 0, .int .i32 0, .slice none 0 0, .bool false, .int .i64 0] 29)).heap.size := by simp
            have bdy : v2.heap.size ≤ v2.heap.size := Nat.le_refl _
            generalize v2.alloc (.cells #[.int .i64 0, .int .i32 0, .int .i32 0, .int .i32 0, .int .i32 0, .int .i32 0, .int .i32 0, .int .i32 0, .int .i32 0, .int .i32 0, .int .i32 0, .int .i32 0, .int .i32 0, .int .i32 0, .int .i32 0, .int .i32 0, .int .i32 0, .slice none 0 0, .bool false, .int .i64 0] 29) = v3 at hHeld hC y3 hz3 ⊢
            have x3 := x2.below hC x2.lt
            have mx3 := mx2.below hC (Nat.le_refl _)
            clear hC
            refine wpAnyH_ready (rs := [3]) (by kernel_rfl) (by simp) ?_
            refine AllReadyH.cons (o := { dst := some 40, op := Go.Op.call { callee := Go.Callee.value (Go.Operand.func 12), args := #[Go.Operand.tmp 39], argTypes := #[29] }, type := 29, pos := "law.go:79", after := #[{ on := 2, ground := Go.Ground.data }, { on := 1, ground := Go.Ground.chain }], guard := none }) rfl (fun K hK => ?_) AllReadyH.nil
            go_simp
            refine (copyS s dp s.d.length dcap _ hr rfl (hrd2.below hHeld (Nat.le_refl _)) hn0 (by omega)).mono ?_
            rintro e v4 ⟨py, cy, rfl, hC, hown⟩
            first | (refine hK.out _ _ ?_ (fun hHeld => ?_)) | (go_wp2_with fail; refine hK.out _ _ ?_ (fun hHeld => ?_))
            · exact hHeld.trans (hC.mono hHeld.size)
            clear hK K
            try simp only [Act.put, List.setIfInBounds_toArray, List.set_cons_zero, List.set_cons_succ]
            have my4 := MemAt.of_owns hown
            have hz4 := hC.size
            have oy : ∀ k, (Value.slice py s.d.length cy).ownBlock = some k → v3.heap.size ≤ k ∧ k < v4.heap.size := fun k hk => ⟨by have := ownBase hown hk; omega, own_lt hown hk⟩
            clear hown
            have x4 := x3.below hC x3.lt
            have y4 := y3.below hC y3.lt
            have mx4 := mx3.below hC (Nat.le_refl _)
            clear hC
            refine wpAnyH_ready (rs := [6]) (by kernel_rfl) (by simp) ?_
            refine AllReadyH.cons (o := { dst := none, op := Go.Op.store 29 (Go.Operand.tmp 11) (Go.Operand.tmp 38), type := 0, pos := "law.go:79", after := #[{ on := 4, ground := Go.Ground.data }, { on := 1, ground := Go.Ground.data }, { on := 3, ground := Go.Ground.chain }, { on := 0, ground := Go.Ground.phase }, { on := 1, ground := Go.Ground.phase }, { on := 2, ground := Go.Ground.textOnly Go.Departure.lateStores }, { on := 3, ground := Go.Ground.phase }, { on := 4, ground := Go.Ground.phase }, { on := 5, ground := Go.Ground.phase }], guard := none }) rfl (fun K hK => ?_) AllReadyH.nil
            obtain ⟨tzx, hz⟩ := x4
            have hbx := lt_of_block hz
            have hby := y4.lt
            refine step_store_row rfl 29 (.tmp 11) (.tmp 38) rfl (v1.heap.size) _ rfl rfl tzx _ hz (by rw [List.size_toArray, stCells_len hr]; exact infoState) (by first | (rw [List.size_toArray, List.size_toArray, stCells_len hr]; rfl) | (rw [List.size_toArray, stCells_len hr]; rfl)) (stCells_one s _ _ _) ?_
            refine hK.out _ _ ?_ (fun hHeld => ?_)
            · exact bRow (by have := hHeld.size; omega) hHeld
            clear hK K
            try simp only [Act.put, List.setIfInBounds_toArray, List.set_cons_zero, List.set_cons_succ]
            have x5 : RowAt (v4.setRow (v1.heap.size) (stCells s (.slice px s.d.length cx)).toArray) (v1.heap.size) (stCells s (.slice px s.d.length cx)) := ⟨_, setRow_heap _ _ _ _ _ _ hz⟩
            have hz5 : v4.heap.size ≤ (v4.setRow (v1.heap.size) (stCells s (.slice px s.d.length cx)).toArray).heap.size := by rw [setRow_size]; exact Nat.le_refl _
            have y5 := y4.block (setRow_block v4 (v1.heap.size) (stCells s (.slice px s.d.length cx)).toArray (by omega))
            have mx5 := mx4.block (fun k hk => setRow_block v4 (v1.heap.size) (stCells s (.slice px s.d.length cx)).toArray (by have := ox k hk; omega))
            have my5 := my4.block (fun k hk => setRow_block v4 (v1.heap.size) (stCells s (.slice px s.d.length cx)).toArray (by have := oy k hk; omega))
            clear hz
            generalize v4.setRow (v1.heap.size) (stCells s (.slice px s.d.length cx)).toArray = v5 at hHeld hz5 x5 y5 mx5 my5 ⊢
            refine wpAnyH_ready (rs := [7]) (by kernel_rfl) (by simp) ?_
            refine AllReadyH.cons (o := { dst := none, op := Go.Op.store 29 (Go.Operand.tmp 12) (Go.Operand.tmp 40), type := 0, pos := "law.go:79", after := #[{ on := 5, ground := Go.Ground.data }, { on := 3, ground := Go.Ground.data }, { on := 6, ground := Go.Ground.chain }, { on := 0, ground := Go.Ground.phase }, { on := 1, ground := Go.Ground.phase }, { on := 2, ground := Go.Ground.phase }, { on := 3, ground := Go.Ground.phase }, { on := 4, ground := Go.Ground.phase }, { on := 5, ground := Go.Ground.phase }, { on := 6, ground := Go.Ground.phase }], guard := none }) rfl (fun K hK => ?_) AllReadyH.nil
            obtain ⟨tzy, hz⟩ := y5
            refine step_store_row rfl 29 (.tmp 12) (.tmp 40) rfl (v2.heap.size) _ rfl rfl tzy _ hz (by rw [List.size_toArray, stCells_len hr]; exact infoState) (by first | (rw [List.size_toArray, List.size_toArray, stCells_len hr]; rfl) | (rw [List.size_toArray, stCells_len hr]; rfl)) (stCells_one s _ _ _) ?_
            refine hK.out _ _ ?_ (fun hHeld => ?_)
            · exact bRow (by have := hHeld.size; omega) hHeld
            clear hK K
            try simp only [Act.put, List.setIfInBounds_toArray, List.set_cons_zero, List.set_cons_succ]
            have y6 : RowAt (v5.setRow (v2.heap.size) (stCells s (.slice py s.d.length cy)).toArray) (v2.heap.size) (stCells s (.slice py s.d.length cy)) := ⟨_, setRow_heap _ _ _ _ _ _ hz⟩
            have hz6 : v5.heap.size ≤ (v5.setRow (v2.heap.size) (stCells s (.slice py s.d.length cy)).toArray).heap.size := by rw [setRow_size]; exact Nat.le_refl _
            have x6 := x5.block (setRow_block v5 (v2.heap.size) (stCells s (.slice py s.d.length cy)).toArray (by omega))
            have mx6 := mx5.block (fun k hk => setRow_block v5 (v2.heap.size) (stCells s (.slice py s.d.length cy)).toArray (by have := ox k hk; omega))
            have my6 := my5.block (fun k hk => setRow_block v5 (v2.heap.size) (stCells s (.slice py s.d.length cy)).toArray (by have := oy k hk; omega))
            clear hz
            generalize v5.setRow (v2.heap.size) (stCells s (.slice py s.d.length cy)).toArray = v6 at hHeld hz6 x6 y6 mx6 my6 ⊢
            refine wpAnyH_done (by kernel_rfl) ?_ _
            exact ⟨rfl, v1.heap.size, v2.heap.size, px, cx, py, cy, by first | rfl | (simp only [put6, Act.put, List.setIfInBounds_toArray, List.set_cons_zero, List.set_cons_succ]), ⟨hHeld, ⟨hr, x6⟩, ⟨hr, y6⟩, mx6, my6, by omega, by omega, fun k hk => by have h1 := ox k hk; exact ⟨by omega, by omega, by omega, by omega, fun h => by have h2 := oy k h; omega⟩, fun k hk => by have h1 := oy k hk; exact ⟨by omega, by omega, by omega, by omega, fun h => by have h2 := ox k h; omega⟩, by omega⟩⟩
        · skip
          go_simp
          refine hK.out _ _ ?_ (fun hHeld => ?_)
          · exact bAlloc hHeld.size hHeld
          clear hK K
          try simp only [Act.put, List.setIfInBounds_toArray, List.set_cons_zero, List.set_cons_succ]
          have hC : Below v1.heap.size v1 (v1.alloc (.cells #[.int .i64 0, .int .i32 0, .int .i32 0, .int .i32 0, .int .i32 0, .int .i32 0, .int .i32 0, .int .i32 0, .int .i32 0, .int .i32 0, .int .i32 0, .int .i32 0, .int .i32 0, .int .i32 0, .int .i32 0, .int .i32 0, .int .i32 0, .slice none 0 0, .bool false, .int .i64 0] 29)) := bAlloc (Nat.le_refl _) (Below.refl _ _)
          have y2 := RowAt.alloc_new v1 [.int .i64 0, .int .i32 0, .int .i32 0, .int .i32 0, .int .i32 0, .int .i32 0, .int .i32 0, .int .i32 0, .int .i32 0, .int .i32 0, .int .i32 0, .int .i32 0, .int .i32 0, .int .i32 0, .int .i32 0, .int .i32 0, .int .i32 0, .slice none 0 0, .bool false, .int .i64 0] 29
          have hz2 : v1.heap.size < (v1.alloc (.cells #[.int .i64 0, .int .i32 0, .int .i32 0, .int .i32 0, .int .i32 0, .int .i32 0, .int .i32 0, .int .i32 0, .int .i32 0, .int .i32 0, .int .i32 0, .int .i32 0, .int .i32 0, .int .i32 0, .int .i32 0, .int .i32 0, .int .i32 0, .slice none 0 0, .bool false, .int .i64 0] 29)).heap.size := by simp
          have bdy : v1.heap.size ≤ v1.heap.size := Nat.le_refl _
          generalize v1.alloc (.cells #[.int .i64 0, .int .i32 0, .int .i32 0, .int .i32 0, .int .i32 0, .int .i32 0, .int .i32 0, .int .i32 0, .int .i32 0, .int .i32 0, .int .i32 0, .int .i32 0, .int .i32 0, .int .i32 0, .int .i32 0, .int .i32 0, .int .i32 0, .slice none 0 0, .bool false, .int .i64 0] 29) = v2 at hHeld hC y2 hz2 ⊢
          have mx2 := mx1.below hC (Nat.le_refl _)
          clear hC
          refine wpAnyH_ready (rs := [3, 4]) (by kernel_rfl) (by simp) ?_
          refine AllReadyH.cons (o := { dst := some 40, op := Go.Op.call { callee := Go.Callee.value (Go.Operand.func 12), args := #[Go.Operand.tmp 39], argTypes := #[29] }, type := 29, pos := "law.go:79", after := #[{ on := 2, ground := Go.Ground.data }, { on := 1, ground := Go.Ground.chain }], guard := none }) rfl (fun K hK => ?_) (AllReadyH.cons (o := { dst := some 11, op := Go.Op.alloc 29, type := 0, pos := "law.go:79", after := #[], guard := none }) rfl (fun K hK => ?_) AllReadyH.nil)
          · skip
            go_simp
            refine (copyS s dp s.d.length dcap _ hr rfl (hrd2.below hHeld (Nat.le_refl _)) hn0 (by omega)).mono ?_
            rintro e v3 ⟨py, cy, rfl, hC, hown⟩
            first | (refine hK.out _ _ ?_ (fun hHeld => ?_)) | (go_wp2_with fail; refine hK.out _ _ ?_ (fun hHeld => ?_))
            · exact hHeld.trans (hC.mono hHeld.size)
            clear hK K
            try simp only [Act.put, List.setIfInBounds_toArray, List.set_cons_zero, List.set_cons_succ]
            have my3 := MemAt.of_owns hown
            have hz3 := hC.size
            have oy : ∀ k, (Value.slice py s.d.length cy).ownBlock = some k → v2.heap.size ≤ k ∧ k < v3.heap.size := fun k hk => ⟨by have := ownBase hown hk; omega, own_lt hown hk⟩
            clear hown
            have y3 := y2.below hC y2.lt
            have mx3 := mx2.below hC (Nat.le_refl _)
            clear hC
            refine wpAnyH_ready (rs := [4]) (by kernel_rfl) (by simp) ?_
            refine AllReadyH.cons (o := { dst := some 11, op := Go.Op.alloc 29, type := 0, pos := "law.go:79", after := #[], guard := none }) rfl (fun K hK => ?_) AllReadyH.nil
            go_simp
            refine hK.out _ _ ?_ (fun hHeld => ?_)
            · exact bAlloc hHeld.size hHeld
            clear hK K
            try simp only [Act.put, List.setIfInBounds_toArray, List.set_cons_zero, List.set_cons_succ]
            have hC : Below v3.heap.size v3 (v3.alloc (.cells #[.int .i64 0, .int .i32 0, .int .i32 0, .int .i32 0, .int .i32 0, .int .i32 0, .int .i32 0, .int .i32 0, .int .i32 0, .int .i32 0, .int .i32 0, .int .i32 0, .int .i32 0, .int .i32 0, .int .i32 0, .int .i32 0, .int .i32 0, .slice none 0 0, .bool false, .int .i64 0] 29)) := bAlloc (Nat.le_refl _) (Below.refl _ _)
            have x4 := RowAt.alloc_new v3 [.int .i64 0, .int .i32 0, .int .i32 0, .int .i32 0, .int .i32 0, .int .i32 0, .int .i32 0, .int .i32 0, .int .i32 0, .int .i32 0, .int .i32 0, .int .i32 0, .int .i32 0, .int .i32 0, .int .i32 0, .int .i32 0, .int .i32 0, .slice none 0 0, .bool false, .int .i64 0] 29
            have hz4 : v3.heap.size < (v3.alloc (.cells #[.int .i64 0, .int .i32 0, .int .i32 0, .int .i32 0, .int .i32 0, .int .i32 0, .int .i32 0, .int .i32 0, .int .i32 0, .int .i32 0, .int .i32 0, .int .i32 0, .int .i32 0, .int .i32 0, .int .i32 0, .int .i32 0, .int .i32 0, .slice none 0 0, .bool false, .int .i64 0] 29)).heap.size := by simp
            have bdx : v3.heap.size ≤ v3.heap.size := Nat.le_refl _
            generalize v3.alloc (.cells #[.int .i64 0, .int .i32 0, .int .i32 0, .int .i32 0, .int .i32 0, .int .i32 0, .int .i32 0, .int .i32 0, .int .i32 0, .int .i32 0, .int .i32 0, .int .i32 0, .int .i32 0, .int .i32 0, .int .i32 0, .int .i32 0, .int .i32 0, .slice none 0 0, .bool false, .int .i64 0] 29) = v4 at hHeld hC x4 hz4 ⊢
            have y4 := y3.below hC y3.lt
            have mx4 := mx3.below hC (Nat.le_refl _)
            have my4 := my3.below hC (Nat.le_refl _)
            clear hC
            refine wpAnyH_ready (rs := [6]) (by kernel_rfl) (by simp) ?_
            refine AllReadyH.cons (o := { dst := none, op := Go.Op.store 29 (Go.Operand.tmp 11) (Go.Operand.tmp 38), type := 0, pos := "law.go:79", after := #[{ on := 4, ground := Go.Ground.data }, { on := 1, ground := Go.Ground.data }, { on := 3, ground := Go.Ground.chain }, { on := 0, ground := Go.Ground.phase }, { on := 1, ground := Go.Ground.phase }, { on := 2, ground := Go.Ground.textOnly Go.Departure.lateStores }, { on := 3, ground := Go.Ground.phase }, { on := 4, ground := Go.Ground.phase }, { on := 5, ground := Go.Ground.phase }], guard := none }) rfl (fun K hK => ?_) AllReadyH.nil
            obtain ⟨tzx, hz⟩ := x4
            have hbx := lt_of_block hz
            have hby := y4.lt
            refine step_store_row rfl 29 (.tmp 11) (.tmp 38) rfl (v3.heap.size) _ rfl rfl tzx _ hz (by rw [List.size_toArray, stCells_len hr]; exact infoState) (by first | (rw [List.size_toArray, List.size_toArray, stCells_len hr]; rfl) | (rw [List.size_toArray, stCells_len hr]; rfl)) (stCells_one s _ _ _) ?_
            refine hK.out _ _ ?_ (fun hHeld => ?_)
            · exact bRow (by have := hHeld.size; omega) hHeld
            clear hK K
            try simp only [Act.put, List.setIfInBounds_toArray, List.set_cons_zero, List.set_cons_succ]
            have x5 : RowAt (v4.setRow (v3.heap.size) (stCells s (.slice px s.d.length cx)).toArray) (v3.heap.size) (stCells s (.slice px s.d.length cx)) := ⟨_, setRow_heap _ _ _ _ _ _ hz⟩
            have hz5 : v4.heap.size ≤ (v4.setRow (v3.heap.size) (stCells s (.slice px s.d.length cx)).toArray).heap.size := by rw [setRow_size]; exact Nat.le_refl _
            have y5 := y4.block (setRow_block v4 (v3.heap.size) (stCells s (.slice px s.d.length cx)).toArray (by omega))
            have mx5 := mx4.block (fun k hk => setRow_block v4 (v3.heap.size) (stCells s (.slice px s.d.length cx)).toArray (by have := ox k hk; omega))
            have my5 := my4.block (fun k hk => setRow_block v4 (v3.heap.size) (stCells s (.slice px s.d.length cx)).toArray (by have := oy k hk; omega))
            clear hz
            generalize v4.setRow (v3.heap.size) (stCells s (.slice px s.d.length cx)).toArray = v5 at hHeld hz5 y5 x5 mx5 my5 ⊢
            refine wpAnyH_ready (rs := [7]) (by kernel_rfl) (by simp) ?_
            refine AllReadyH.cons (o := { dst := none, op := Go.Op.store 29 (Go.Operand.tmp 12) (Go.Operand.tmp 40), type := 0, pos := "law.go:79", after := #[{ on := 5, ground := Go.Ground.data }, { on := 3, ground := Go.Ground.data }, { on := 6, ground := Go.Ground.chain }, { on := 0, ground := Go.Ground.phase }, { on := 1, ground := Go.Ground.phase }, { on := 2, ground := Go.Ground.phase }, { on := 3, ground := Go.Ground.phase }, { on := 4, ground := Go.Ground.phase }, { on := 5, ground := Go.Ground.phase }, { on := 6, ground := Go.Ground.phase }], guard := none }) rfl (fun K hK => ?_) AllReadyH.nil
            obtain ⟨tzy, hz⟩ := y5
            refine step_store_row rfl 29 (.tmp 12) (.tmp 40) rfl (v1.heap.size) _ rfl rfl tzy _ hz (by rw [List.size_toArray, stCells_len hr]; exact infoState) (by first | (rw [List.size_toArray, List.size_toArray, stCells_len hr]; rfl) | (rw [List.size_toArray, stCells_len hr]; rfl)) (stCells_one s _ _ _) ?_
            refine hK.out _ _ ?_ (fun hHeld => ?_)
            · exact bRow (by have := hHeld.size; omega) hHeld
            clear hK K
            try simp only [Act.put, List.setIfInBounds_toArray, List.set_cons_zero, List.set_cons_succ]
            have y6 : RowAt (v5.setRow (v1.heap.size) (stCells s (.slice py s.d.length cy)).toArray) (v1.heap.size) (stCells s (.slice py s.d.length cy)) := ⟨_, setRow_heap _ _ _ _ _ _ hz⟩
            have hz6 : v5.heap.size ≤ (v5.setRow (v1.heap.size) (stCells s (.slice py s.d.length cy)).toArray).heap.size := by rw [setRow_size]; exact Nat.le_refl _
            have x6 := x5.block (setRow_block v5 (v1.heap.size) (stCells s (.slice py s.d.length cy)).toArray (by omega))
            have mx6 := mx5.block (fun k hk => setRow_block v5 (v1.heap.size) (stCells s (.slice py s.d.length cy)).toArray (by have := ox k hk; omega))
            have my6 := my5.block (fun k hk => setRow_block v5 (v1.heap.size) (stCells s (.slice py s.d.length cy)).toArray (by have := oy k hk; omega))
            clear hz
            generalize v5.setRow (v1.heap.size) (stCells s (.slice py s.d.length cy)).toArray = v6 at hHeld hz6 y6 x6 mx6 my6 ⊢
            refine wpAnyH_done (by kernel_rfl) ?_ _
            exact ⟨rfl, v3.heap.size, v1.heap.size, px, cx, py, cy, by first | rfl | (simp only [put6, Act.put, List.setIfInBounds_toArray, List.set_cons_zero, List.set_cons_succ]), ⟨hHeld, ⟨hr, x6⟩, ⟨hr, y6⟩, mx6, my6, by omega, by omega, fun k hk => by have h1 := ox k hk; exact ⟨by omega, by omega, by omega, by omega, fun h => by have h2 := oy k h; omega⟩, fun k hk => by have h1 := oy k hk; exact ⟨by omega, by omega, by omega, by omega, fun h => by have h2 := ox k h; omega⟩, by omega⟩⟩
          · skip
            go_simp
            refine hK.out _ _ ?_ (fun hHeld => ?_)
            · exact bAlloc hHeld.size hHeld
            clear hK K
            try simp only [Act.put, List.setIfInBounds_toArray, List.set_cons_zero, List.set_cons_succ]
            have hC : Below v2.heap.size v2 (v2.alloc (.cells #[.int .i64 0, .int .i32 0, .int .i32 0, .int .i32 0, .int .i32 0, .int .i32 0, .int .i32 0, .int .i32 0, .int .i32 0, .int .i32 0, .int .i32 0, .int .i32 0, .int .i32 0, .int .i32 0, .int .i32 0, .int .i32 0, .int .i32 0, .slice none 0 0, .bool false, .int .i64 0] 29)) := bAlloc (Nat.le_refl _) (Below.refl _ _)
            have x3 := RowAt.alloc_new v2 [.int .i64 0, .int .i32 0, .int .i32 0, .int .i32 0, .int .i32 0, .int .i32 0, .int .i32 0, .int .i32 0, .int .i32 0, .int .i32 0, .int .i32 0, .int .i32 0, .int .i32 0, .int .i32 0, .int .i32 0, .int .i32 0, .int .i32 0, .slice none 0 0, .bool false, .int .i64 0] 29
            have hz3 : v2.heap.size < (v2.alloc (.cells #[.int .i64 0, .int .i32 0, .int .i32 0, .int .i32 0, .int .i32 0, .int .i32 0, .int .i32 0, .int .i32 0, .int .i32 0, .int .i32 0, .int .i32 0, .int .i32 0, .int .i32 0, .int .i32 0, .int .i32 0, .int .i32 0, .int .i32 0, .slice none 0 0, .bool false, .int .i64 0] 29)).heap.size := by simp
            have bdx : v2.heap.size ≤ v2.heap.size := Nat.le_refl _
            generalize v2.alloc (.cells #[.int .i64 0, .int .i32 0, .int .i32 0, .int .i32 0, .int .i32 0, .int .i32 0, .int .i32 0, .int .i32 0, .int .i32 0, .int .i32 0, .int .i32 0, .int .i32 0, .int .i32 0, .int .i32 0, .int .i32 0, .int .i32 0, .int .i32 0, .slice none 0 0, .bool false, .int .i64 0] 29) = v3 at hHeld hC x3 hz3 ⊢
            have y3 := y2.below hC y2.lt
            have mx3 := mx2.below hC (Nat.le_refl _)
            clear hC
            refine wpAnyH_ready (rs := [3]) (by kernel_rfl) (by simp) ?_
            refine AllReadyH.cons (o := { dst := some 40, op := Go.Op.call { callee := Go.Callee.value (Go.Operand.func 12), args := #[Go.Operand.tmp 39], argTypes := #[29] }, type := 29, pos := "law.go:79", after := #[{ on := 2, ground := Go.Ground.data }, { on := 1, ground := Go.Ground.chain }], guard := none }) rfl (fun K hK => ?_) AllReadyH.nil
            go_simp
            refine (copyS s dp s.d.length dcap _ hr rfl (hrd2.below hHeld (Nat.le_refl _)) hn0 (by omega)).mono ?_
            rintro e v4 ⟨py, cy, rfl, hC, hown⟩
            first | (refine hK.out _ _ ?_ (fun hHeld => ?_)) | (go_wp2_with fail; refine hK.out _ _ ?_ (fun hHeld => ?_))
            · exact hHeld.trans (hC.mono hHeld.size)
            clear hK K
            try simp only [Act.put, List.setIfInBounds_toArray, List.set_cons_zero, List.set_cons_succ]
            have my4 := MemAt.of_owns hown
            have hz4 := hC.size
            have oy : ∀ k, (Value.slice py s.d.length cy).ownBlock = some k → v3.heap.size ≤ k ∧ k < v4.heap.size := fun k hk => ⟨by have := ownBase hown hk; omega, own_lt hown hk⟩
            clear hown
            have y4 := y3.below hC y3.lt
            have x4 := x3.below hC x3.lt
            have mx4 := mx3.below hC (Nat.le_refl _)
            clear hC
            refine wpAnyH_ready (rs := [6]) (by kernel_rfl) (by simp) ?_
            refine AllReadyH.cons (o := { dst := none, op := Go.Op.store 29 (Go.Operand.tmp 11) (Go.Operand.tmp 38), type := 0, pos := "law.go:79", after := #[{ on := 4, ground := Go.Ground.data }, { on := 1, ground := Go.Ground.data }, { on := 3, ground := Go.Ground.chain }, { on := 0, ground := Go.Ground.phase }, { on := 1, ground := Go.Ground.phase }, { on := 2, ground := Go.Ground.textOnly Go.Departure.lateStores }, { on := 3, ground := Go.Ground.phase }, { on := 4, ground := Go.Ground.phase }, { on := 5, ground := Go.Ground.phase }], guard := none }) rfl (fun K hK => ?_) AllReadyH.nil
            obtain ⟨tzx, hz⟩ := x4
            have hbx := lt_of_block hz
            have hby := y4.lt
            refine step_store_row rfl 29 (.tmp 11) (.tmp 38) rfl (v2.heap.size) _ rfl rfl tzx _ hz (by rw [List.size_toArray, stCells_len hr]; exact infoState) (by first | (rw [List.size_toArray, List.size_toArray, stCells_len hr]; rfl) | (rw [List.size_toArray, stCells_len hr]; rfl)) (stCells_one s _ _ _) ?_
            refine hK.out _ _ ?_ (fun hHeld => ?_)
            · exact bRow (by have := hHeld.size; omega) hHeld
            clear hK K
            try simp only [Act.put, List.setIfInBounds_toArray, List.set_cons_zero, List.set_cons_succ]
            have x5 : RowAt (v4.setRow (v2.heap.size) (stCells s (.slice px s.d.length cx)).toArray) (v2.heap.size) (stCells s (.slice px s.d.length cx)) := ⟨_, setRow_heap _ _ _ _ _ _ hz⟩
            have hz5 : v4.heap.size ≤ (v4.setRow (v2.heap.size) (stCells s (.slice px s.d.length cx)).toArray).heap.size := by rw [setRow_size]; exact Nat.le_refl _
            have y5 := y4.block (setRow_block v4 (v2.heap.size) (stCells s (.slice px s.d.length cx)).toArray (by omega))
            have mx5 := mx4.block (fun k hk => setRow_block v4 (v2.heap.size) (stCells s (.slice px s.d.length cx)).toArray (by have := ox k hk; omega))
            have my5 := my4.block (fun k hk => setRow_block v4 (v2.heap.size) (stCells s (.slice px s.d.length cx)).toArray (by have := oy k hk; omega))
            clear hz
            generalize v4.setRow (v2.heap.size) (stCells s (.slice px s.d.length cx)).toArray = v5 at hHeld hz5 y5 x5 mx5 my5 ⊢
            refine wpAnyH_ready (rs := [7]) (by kernel_rfl) (by simp) ?_
            refine AllReadyH.cons (o := { dst := none, op := Go.Op.store 29 (Go.Operand.tmp 12) (Go.Operand.tmp 40), type := 0, pos := "law.go:79", after := #[{ on := 5, ground := Go.Ground.data }, { on := 3, ground := Go.Ground.data }, { on := 6, ground := Go.Ground.chain }, { on := 0, ground := Go.Ground.phase }, { on := 1, ground := Go.Ground.phase }, { on := 2, ground := Go.Ground.phase }, { on := 3, ground := Go.Ground.phase }, { on := 4, ground := Go.Ground.phase }, { on := 5, ground := Go.Ground.phase }, { on := 6, ground := Go.Ground.phase }], guard := none }) rfl (fun K hK => ?_) AllReadyH.nil
            obtain ⟨tzy, hz⟩ := y5
            refine step_store_row rfl 29 (.tmp 12) (.tmp 40) rfl (v1.heap.size) _ rfl rfl tzy _ hz (by rw [List.size_toArray, stCells_len hr]; exact infoState) (by first | (rw [List.size_toArray, List.size_toArray, stCells_len hr]; rfl) | (rw [List.size_toArray, stCells_len hr]; rfl)) (stCells_one s _ _ _) ?_
            refine hK.out _ _ ?_ (fun hHeld => ?_)
            · exact bRow (by have := hHeld.size; omega) hHeld
            clear hK K
            try simp only [Act.put, List.setIfInBounds_toArray, List.set_cons_zero, List.set_cons_succ]
            have y6 : RowAt (v5.setRow (v1.heap.size) (stCells s (.slice py s.d.length cy)).toArray) (v1.heap.size) (stCells s (.slice py s.d.length cy)) := ⟨_, setRow_heap _ _ _ _ _ _ hz⟩
            have hz6 : v5.heap.size ≤ (v5.setRow (v1.heap.size) (stCells s (.slice py s.d.length cy)).toArray).heap.size := by rw [setRow_size]; exact Nat.le_refl _
            have x6 := x5.block (setRow_block v5 (v1.heap.size) (stCells s (.slice py s.d.length cy)).toArray (by omega))
            have mx6 := mx5.block (fun k hk => setRow_block v5 (v1.heap.size) (stCells s (.slice py s.d.length cy)).toArray (by have := ox k hk; omega))
            have my6 := my5.block (fun k hk => setRow_block v5 (v1.heap.size) (stCells s (.slice py s.d.length cy)).toArray (by have := oy k hk; omega))
            clear hz
            generalize v5.setRow (v1.heap.size) (stCells s (.slice py s.d.length cy)).toArray = v6 at hHeld hz6 y6 x6 mx6 my6 ⊢
            refine wpAnyH_done (by kernel_rfl) ?_ _
            exact ⟨rfl, v2.heap.size, v1.heap.size, px, cx, py, cy, by first | rfl | (simp only [put6, Act.put, List.setIfInBounds_toArray, List.set_cons_zero, List.set_cons_succ]), ⟨hHeld, ⟨hr, x6⟩, ⟨hr, y6⟩, mx6, my6, by omega, by omega, fun k hk => by have h1 := ox k hk; exact ⟨by omega, by omega, by omega, by omega, fun h => by have h2 := oy k h; omega⟩, fun k hk => by have h1 := oy k hk; exact ⟨by omega, by omega, by omega, by omega, fun h => by have h2 := ox k h; omega⟩, by omega⟩⟩
      · skip
        go_simp
        refine hK.out _ _ ?_ (fun hHeld => ?_)
        · exact bAlloc hHeld.size hHeld
        clear hK K
        try simp only [Act.put, List.setIfInBounds_toArray, List.set_cons_zero, List.set_cons_succ]
        have hC : Below v0.heap.size v0 (v0.alloc (.cells #[.int .i64 0, .int .i32 0, .int .i32 0, .int .i32 0, .int .i32 0, .int .i32 0, .int .i32 0, .int .i32 0, .int .i32 0, .int .i32 0, .int .i32 0, .int .i32 0, .int .i32 0, .int .i32 0, .int .i32 0, .int .i32 0, .int .i32 0, .slice none 0 0, .bool false, .int .i64 0] 29)) := bAlloc (Nat.le_refl _) (Below.refl _ _)
        have x1 := RowAt.alloc_new v0 [.int .i64 0, .int .i32 0, .int .i32 0, .int .i32 0, .int .i32 0, .int .i32 0, .int .i32 0, .int .i32 0, .int .i32 0, .int .i32 0, .int .i32 0, .int .i32 0, .int .i32 0, .int .i32 0, .int .i32 0, .int .i32 0, .int .i32 0, .slice none 0 0, .bool false, .int .i64 0] 29
        have hz1 : v0.heap.size < (v0.alloc (.cells #[.int .i64 0, .int .i32 0, .int .i32 0, .int .i32 0, .int .i32 0, .int .i32 0, .int .i32 0, .int .i32 0, .int .i32 0, .int .i32 0, .int .i32 0, .int .i32 0, .int .i32 0, .int .i32 0, .int .i32 0, .int .i32 0, .int .i32 0, .slice none 0 0, .bool false, .int .i64 0] 29)).heap.size := by simp
        have bdx : v0.heap.size ≤ v0.heap.size := Nat.le_refl _
        generalize v0.alloc (.cells #[.int .i64 0, .int .i32 0, .int .i32 0, .int .i32 0, .int .i32 0, .int .i32 0, .int .i32 0, .int .i32 0, .int .i32 0, .int .i32 0, .int .i32 0, .int .i32 0, .int .i32 0, .int .i32 0, .int .i32 0, .int .i32 0, .int .i32 0, .slice none 0 0, .bool false, .int .i64 0] 29) = v1 at hHeld hC x1 hz1 ⊢
        clear hC
        refine wpAnyH_ready (rs := [1, 5]) (by kernel_rfl) (by simp) ?_
        refine AllReadyH.cons (o := { dst := some 38, op := Go.Op.call { callee := Go.Callee.value (Go.Operand.func 12), args := #[Go.Operand.tmp 37], argTypes := #[29] }, type := 29, pos := "law.go:79", after := #[{ on := 0, ground := Go.Ground.data }], guard := none }) rfl (fun K hK => ?_) (AllReadyH.cons (o := { dst := some 12, op := Go.Op.alloc 29, type := 0, pos := "law.go:79", after := #[], guard := none }) rfl (fun K hK => ?_) AllReadyH.nil)
        · skip
          go_simp
          refine (copyS s dp s.d.length dcap _ hr rfl (hrd2.below hHeld (Nat.le_refl _)) hn0 (by omega)).mono ?_
          rintro e v2 ⟨px, cx, rfl, hC, hown⟩
          first | (refine hK.out _ _ ?_ (fun hHeld => ?_)) | (go_wp2_with fail; refine hK.out _ _ ?_ (fun hHeld => ?_))
          · exact hHeld.trans (hC.mono hHeld.size)
          clear hK K
          try simp only [Act.put, List.setIfInBounds_toArray, List.set_cons_zero, List.set_cons_succ]
          have mx2 := MemAt.of_owns hown
          have hz2 := hC.size
          have ox : ∀ k, (Value.slice px s.d.length cx).ownBlock = some k → v1.heap.size ≤ k ∧ k < v2.heap.size := fun k hk => ⟨by have := ownBase hown hk; omega, own_lt hown hk⟩
          clear hown
          have x2 := x1.below hC x1.lt
          clear hC
          refine wpAnyH_ready (rs := [3, 5]) (by kernel_rfl) (by simp) ?_
          refine AllReadyH.cons (o := { dst := some 40, op := Go.Op.call { callee := Go.Callee.value (Go.Operand.func 12), args := #[Go.Operand.tmp 39], argTypes := #[29] }, type := 29, pos := "law.go:79", after := #[{ on := 2, ground := Go.Ground.data }, { on := 1, ground := Go.Ground.chain }], guard := none }) rfl (fun K hK => ?_) (AllReadyH.cons (o := { dst := some 12, op := Go.Op.alloc 29, type := 0, pos := "law.go:79", after := #[], guard := none }) rfl (fun K hK => ?_) AllReadyH.nil)
          · skip
            go_simp
            refine (copyS s dp s.d.length dcap _ hr rfl (hrd2.below hHeld (Nat.le_refl _)) hn0 (by omega)).mono ?_
            rintro e v3 ⟨py, cy, rfl, hC, hown⟩
            first | (refine hK.out _ _ ?_ (fun hHeld => ?_)) | (go_wp2_with fail; refine hK.out _ _ ?_ (fun hHeld => ?_))
            · exact hHeld.trans (hC.mono hHeld.size)
            clear hK K
            try simp only [Act.put, List.setIfInBounds_toArray, List.set_cons_zero, List.set_cons_succ]
            have my3 := MemAt.of_owns hown
            have hz3 := hC.size
            have oy : ∀ k, (Value.slice py s.d.length cy).ownBlock = some k → v2.heap.size ≤ k ∧ k < v3.heap.size := fun k hk => ⟨by have := ownBase hown hk; omega, own_lt hown hk⟩
            clear hown
            have x3 := x2.below hC x2.lt
            have mx3 := mx2.below hC (Nat.le_refl _)
            clear hC
            refine wpAnyH_ready (rs := [5]) (by kernel_rfl) (by simp) ?_
            refine AllReadyH.cons (o := { dst := some 12, op := Go.Op.alloc 29, type := 0, pos := "law.go:79", after := #[], guard := none }) rfl (fun K hK => ?_) AllReadyH.nil
            go_simp
            refine hK.out _ _ ?_ (fun hHeld => ?_)
            · exact bAlloc hHeld.size hHeld
            clear hK K
            try simp only [Act.put, List.setIfInBounds_toArray, List.set_cons_zero, List.set_cons_succ]
            have hC : Below v3.heap.size v3 (v3.alloc (.cells #[.int .i64 0, .int .i32 0, .int .i32 0, .int .i32 0, .int .i32 0, .int .i32 0, .int .i32 0, .int .i32 0, .int .i32 0, .int .i32 0, .int .i32 0, .int .i32 0, .int .i32 0, .int .i32 0, .int .i32 0, .int .i32 0, .int .i32 0, .slice none 0 0, .bool false, .int .i64 0] 29)) := bAlloc (Nat.le_refl _) (Below.refl _ _)
            have y4 := RowAt.alloc_new v3 [.int .i64 0, .int .i32 0, .int .i32 0, .int .i32 0, .int .i32 0, .int .i32 0, .int .i32 0, .int .i32 0, .int .i32 0, .int .i32 0, .int .i32 0, .int .i32 0, .int .i32 0, .int .i32 0, .int .i32 0, .int .i32 0, .int .i32 0, .slice none 0 0, .bool false, .int .i64 0] 29
            have hz4 : v3.heap.size < (v3.alloc (.cells #[.int .i64 0, .int .i32 0, .int .i32 0, .int .i32 0, .int .i32 0, .int .i32 0, .int .i32 0, .int .i32 0, .int .i32 0, .int .i32 0, .int .i32 0, .int .i32 0, .int .i32 0, .int .i32 0, .int .i32 0, .int .i32 0, .int .i32 0, .slice none 0 0, .bool false, .int .i64 0] 29)).heap.size := by simp
            have bdy : v3.heap.size ≤ v3.heap.size := Nat.le_refl _
            generalize v3.alloc (.cells #[.int .i64 0, .int .i32 0, .int .i32 0, .int .i32 0, .int .i32 0, .int .i32 0, .int .i32 0, .int .i32 0, .int .i32 0, .int .i32 0, .int .i32 0, .int .i32 0, .int .i32 0, .int .i32 0, .int .i32 0, .int .i32 0, .int .i32 0, .slice none 0 0, .bool false, .int .i64 0] 29) = v4 at hHeld hC y4 hz4 ⊢
            have x4 := x3.below hC x3.lt
            have mx4 := mx3.below hC (Nat.le_refl _)
            have my4 := my3.below hC (Nat.le_refl _)
            clear hC
            refine wpAnyH_ready (rs := [6]) (by kernel_rfl) (by simp) ?_
            refine AllReadyH.cons (o := { dst := none, op := Go.Op.store 29 (Go.Operand.tmp 11) (Go.Operand.tmp 38), type := 0, pos := "law.go:79", after := #[{ on := 4, ground := Go.Ground.data }, { on := 1, ground := Go.Ground.data }, { on := 3, ground := Go.Ground.chain }, { on := 0, ground := Go.Ground.phase }, { on := 1, ground := Go.Ground.phase }, { on := 2, ground := Go.Ground.textOnly Go.Departure.lateStores }, { on := 3, ground := Go.Ground.phase }, { on := 4, ground := Go.Ground.phase }, { on := 5, ground := Go.Ground.phase }], guard := none }) rfl (fun K hK => ?_) AllReadyH.nil
            obtain ⟨tzx, hz⟩ := x4
            have hbx := lt_of_block hz
            have hby := y4.lt
            refine step_store_row rfl 29 (.tmp 11) (.tmp 38) rfl (v0.heap.size) _ rfl rfl tzx _ hz (by rw [List.size_toArray, stCells_len hr]; exact infoState) (by first | (rw [List.size_toArray, List.size_toArray, stCells_len hr]; rfl) | (rw [List.size_toArray, stCells_len hr]; rfl)) (stCells_one s _ _ _) ?_
            refine hK.out _ _ ?_ (fun hHeld => ?_)
            · exact bRow (by have := hHeld.size; omega) hHeld
            clear hK K
            try simp only [Act.put, List.setIfInBounds_toArray, List.set_cons_zero, List.set_cons_succ]
            have x5 : RowAt (v4.setRow (v0.heap.size) (stCells s (.slice px s.d.length cx)).toArray) (v0.heap.size) (stCells s (.slice px s.d.length cx)) := ⟨_, setRow_heap _ _ _ _ _ _ hz⟩
            have hz5 : v4.heap.size ≤ (v4.setRow (v0.heap.size) (stCells s (.slice px s.d.length cx)).toArray).heap.size := by rw [setRow_size]; exact Nat.le_refl _
            have y5 := y4.block (setRow_block v4 (v0.heap.size) (stCells s (.slice px s.d.length cx)).toArray (by omega))
            have mx5 := mx4.block (fun k hk => setRow_block v4 (v0.heap.size) (stCells s (.slice px s.d.length cx)).toArray (by have := ox k hk; omega))
            have my5 := my4.block (fun k hk => setRow_block v4 (v0.heap.size) (stCells s (.slice px s.d.length cx)).toArray (by have := oy k hk; omega))
            clear hz
            generalize v4.setRow (v0.heap.size) (stCells s (.slice px s.d.length cx)).toArray = v5 at hHeld hz5 x5 y5 mx5 my5 ⊢
            refine wpAnyH_ready (rs := [7]) (by kernel_rfl) (by simp) ?_
            refine AllReadyH.cons (o := { dst := none, op := Go.Op.store 29 (Go.Operand.tmp 12) (Go.Operand.tmp 40), type := 0, pos := "law.go:79", after := #[{ on := 5, ground := Go.Ground.data }, { on := 3, ground := Go.Ground.data }, { on := 6, ground := Go.Ground.chain }, { on := 0, ground := Go.Ground.phase }, { on := 1, ground := Go.Ground.phase }, { on := 2, ground := Go.Ground.phase }, { on := 3, ground := Go.Ground.phase }, { on := 4, ground := Go.Ground.phase }, { on := 5, ground := Go.Ground.phase }, { on := 6, ground := Go.Ground.phase }], guard := none }) rfl (fun K hK => ?_) AllReadyH.nil
            obtain ⟨tzy, hz⟩ := y5
            refine step_store_row rfl 29 (.tmp 12) (.tmp 40) rfl (v3.heap.size) _ rfl rfl tzy _ hz (by rw [List.size_toArray, stCells_len hr]; exact infoState) (by first | (rw [List.size_toArray, List.size_toArray, stCells_len hr]; rfl) | (rw [List.size_toArray, stCells_len hr]; rfl)) (stCells_one s _ _ _) ?_
            refine hK.out _ _ ?_ (fun hHeld => ?_)
            · exact bRow (by have := hHeld.size; omega) hHeld
            clear hK K
            try simp only [Act.put, List.setIfInBounds_toArray, List.set_cons_zero, List.set_cons_succ]
            have y6 : RowAt (v5.setRow (v3.heap.size) (stCells s (.slice py s.d.length cy)).toArray) (v3.heap.size) (stCells s (.slice py s.d.length cy)) := ⟨_, setRow_heap _ _ _ _ _ _ hz⟩
            have hz6 : v5.heap.size ≤ (v5.setRow (v3.heap.size) (stCells s (.slice py s.d.length cy)).toArray).heap.size := by rw [setRow_size]; exact Nat.le_refl _
            have x6 := x5.block (setRow_block v5 (v3.heap.size) (stCells s (.slice py s.d.length cy)).toArray (by omega))
            have mx6 := mx5.block (fun k hk => setRow_block v5 (v3.heap.size) (stCells s (.slice py s.d.length cy)).toArray (by have := ox k hk; omega))
            have my6 := my5.block (fun k hk => setRow_block v5 (v3.heap.size) (stCells s (.slice py s.d.length cy)).toArray (by have := oy k hk; omega))
            clear hz
            generalize v5.setRow (v3.heap.size) (stCells s (.slice py s.d.length cy)).toArray = v6 at hHeld hz6 x6 y6 mx6 my6 ⊢
            refine wpAnyH_done (by kernel_rfl) ?_ _
            exact ⟨rfl, v0.heap.size, v3.heap.size, px, cx, py, cy, by first | rfl | (simp only [put6, Act.put, List.setIfInBounds_toArray, List.set_cons_zero, List.set_cons_succ]), ⟨hHeld, ⟨hr, x6⟩, ⟨hr, y6⟩, mx6, my6, by omega, by omega, fun k hk => by have h1 := ox k hk; exact ⟨by omega, by omega, by omega, by omega, fun h => by have h2 := oy k h; omega⟩, fun k hk => by have h1 := oy k hk; exact ⟨by omega, by omega, by omega, by omega, fun h => by have h2 := ox k h; omega⟩, by omega⟩⟩
          · skip
            go_simp
            refine hK.out _ _ ?_ (fun hHeld => ?_)
            · exact bAlloc hHeld.size hHeld
            clear hK K
            try simp only [Act.put, List.setIfInBounds_toArray, List.set_cons_zero, List.set_cons_succ]
            have hC : Below v2.heap.size v2 (v2.alloc (.cells #[.int .i64 0, .int .i32 0, .int .i32 0, .int .i32 0, .int .i32 0, .int .i32 0, .int .i32 0, .int .i32 0, .int .i32 0, .int .i32 0, .int .i32 0, .int .i32 0, .int .i32 0, .int .i32 0, .int .i32 0, .int .i32 0, .int .i32 0, .slice none 0 0, .bool false, .int .i64 0] 29)) := bAlloc (Nat.le_refl _) (Below.refl _ _)
            have y3 := RowAt.alloc_new v2 [.int .i64 0, .int .i32 0, .int .i32 0, .int .i32 0, .int .i32 0, .int .i32 0, .int .i32 0, .int .i32 0, .int .i32 0, .int .i32 0, .int .i32 0, .int .i32 0, .int .i32 0, .int .i32 0, .int .i32 0, .int .i32 0, .int .i32 0, .slice none 0 0, .bool false, .int .i64 0] 29
            have hz3 : v2.heap.size < (v2.alloc (.cells #[.int .i64 0, .int .i32 0, .int .i32 0, .int .i32 0, .int .i32 0, .int .i32 0, .int .i32 0, .int .i32 0, .int .i32 0, .int .i32 0, .int .i32 0, .int .i32 0, .int .i32 0, .int .i32 0, .int .i32 0, .int .i32 0, .int .i32 0, .slice none 0 0, .bool false, .int .i64 0] 29)).heap.size := by simp
            have bdy : v2.heap.size ≤ v2.heap.size := Nat.le_refl _
            generalize v2.alloc (.cells #[.int .i64 0, .int .i32 0, .int .i32 0, .int .i32 0, .int .i32 0, .int .i32 0, .int .i32 0, .int .i32 0, .int .i32 0, .int .i32 0, .int .i32 0, .int .i32 0, .int .i32 0, .int .i32 0, .int .i32 0, .int .i32 0, .int .i32 0, .slice none 0 0, .bool false, .int .i64 0] 29) = v3 at hHeld hC y3 hz3 ⊢
            have x3 := x2.below hC x2.lt
            have mx3 := mx2.below hC (Nat.le_refl _)
            clear hC
            refine wpAnyH_ready (rs := [3]) (by kernel_rfl) (by simp) ?_
            refine AllReadyH.cons (o := { dst := some 40, op := Go.Op.call { callee := Go.Callee.value (Go.Operand.func 12), args := #[Go.Operand.tmp 39], argTypes := #[29] }, type := 29, pos := "law.go:79", after := #[{ on := 2, ground := Go.Ground.data }, { on := 1, ground := Go.Ground.chain }], guard := none }) rfl (fun K hK => ?_) AllReadyH.nil
            go_simp
            refine (copyS s dp s.d.length dcap _ hr rfl (hrd2.below hHeld (Nat.le_refl _)) hn0 (by omega)).mono ?_
            rintro e v4 ⟨py, cy, rfl, hC, hown⟩
            first | (refine hK.out _ _ ?_ (fun hHeld => ?_)) | (go_wp2_with fail; refine hK.out _ _ ?_ (fun hHeld => ?_))
            · exact hHeld.trans (hC.mono hHeld.size)
            clear hK K
            try simp only [Act.put, List.setIfInBounds_toArray, List.set_cons_zero, List.set_cons_succ]
            have my4 := MemAt.of_owns hown
            have hz4 := hC.size
            have oy : ∀ k, (Value.slice py s.d.length cy).ownBlock = some k → v3.heap.size ≤ k ∧ k < v4.heap.size := fun k hk => ⟨by have := ownBase hown hk; omega, own_lt hown hk⟩
            clear hown
            have x4 := x3.below hC x3.lt
            have y4 := y3.below hC y3.lt
            have mx4 := mx3.below hC (Nat.le_refl _)
            clear hC
            refine wpAnyH_ready (rs := [6]) (by kernel_rfl) (by simp) ?_
            refine AllReadyH.cons (o := { dst := none, op := Go.Op.store 29 (Go.Operand.tmp 11) (Go.Operand.tmp 38), type := 0, pos := "law.go:79", after := #[{ on := 4, ground := Go.Ground.data }, { on := 1, ground := Go.Ground.data }, { on := 3, ground := Go.Ground.chain }, { on := 0, ground := Go.Ground.phase }, { on := 1, ground := Go.Ground.phase }, { on := 2, ground := Go.Ground.textOnly Go.Departure.lateStores }, { on := 3, ground := Go.Ground.phase }, { on := 4, ground := Go.Ground.phase }, { on := 5, ground := Go.Ground.phase }], guard := none }) rfl (fun K hK => ?_) AllReadyH.nil
            obtain ⟨tzx, hz⟩ := x4
            have hbx := lt_of_block hz
            have hby := y4.lt
            refine step_store_row rfl 29 (.tmp 11) (.tmp 38) rfl (v0.heap.size) _ rfl rfl tzx _ hz (by rw [List.size_toArray, stCells_len hr]; exact infoState) (by first | (rw [List.size_toArray, List.size_toArray, stCells_len hr]; rfl) | (rw [List.size_toArray, stCells_len hr]; rfl)) (stCells_one s _ _ _) ?_
            refine hK.out _ _ ?_ (fun hHeld => ?_)
            · exact bRow (by have := hHeld.size; omega) hHeld
            clear hK K
            try simp only [Act.put, List.setIfInBounds_toArray, List.set_cons_zero, List.set_cons_succ]
            have x5 : RowAt (v4.setRow (v0.heap.size) (stCells s (.slice px s.d.length cx)).toArray) (v0.heap.size) (stCells s (.slice px s.d.length cx)) := ⟨_, setRow_heap _ _ _ _ _ _ hz⟩
            have hz5 : v4.heap.size ≤ (v4.setRow (v0.heap.size) (stCells s (.slice px s.d.length cx)).toArray).heap.size := by rw [setRow_size]; exact Nat.le_refl _
            have y5 := y4.block (setRow_block v4 (v0.heap.size) (stCells s (.slice px s.d.length cx)).toArray (by omega))
            have mx5 := mx4.block (fun k hk => setRow_block v4 (v0.heap.size) (stCells s (.slice px s.d.length cx)).toArray (by have := ox k hk; omega))
            have my5 := my4.block (fun k hk => setRow_block v4 (v0.heap.size) (stCells s (.slice px s.d.length cx)).toArray (by have := oy k hk; omega))
            clear hz
            generalize v4.setRow (v0.heap.size) (stCells s (.slice px s.d.length cx)).toArray = v5 at hHeld hz5 x5 y5 mx5 my5 ⊢
            refine wpAnyH_ready (rs := [7]) (by kernel_rfl) (by simp) ?_
            refine AllReadyH.cons (o := { dst := none, op := Go.Op.store 29 (Go.Operand.tmp 12) (Go.Operand.tmp 40), type := 0, pos := "law.go:79", after := #[{ on := 5, ground := Go.Ground.data }, { on := 3, ground := Go.Ground.data }, { on := 6, ground := Go.Ground.chain }, { on := 0, ground := Go.Ground.phase }, { on := 1, ground := Go.Ground.phase }, { on := 2, ground := Go.Ground.phase }, { on := 3, ground := Go.Ground.phase }, { on := 4, ground := Go.Ground.phase }, { on := 5, ground := Go.Ground.phase }, { on := 6, ground := Go.Ground.phase }], guard := none }) rfl (fun K hK => ?_) AllReadyH.nil
            obtain ⟨tzy, hz⟩ := y5
            refine step_store_row rfl 29 (.tmp 12) (.tmp 40) rfl (v2.heap.size) _ rfl rfl tzy _ hz (by rw [List.size_toArray, stCells_len hr]; exact infoState) (by first | (rw [List.size_toArray, List.size_toArray, stCells_len hr]; rfl) | (rw [List.size_toArray, stCells_len hr]; rfl)) (stCells_one s _ _ _) ?_
            refine hK.out _ _ ?_ (fun hHeld => ?_)
            · exact bRow (by have := hHeld.size; omega) hHeld
            clear hK K
            try simp only [Act.put, List.setIfInBounds_toArray, List.set_cons_zero, List.set_cons_succ]
            have y6 : RowAt (v5.setRow (v2.heap.size) (stCells s (.slice py s.d.length cy)).toArray) (v2.heap.size) (stCells s (.slice py s.d.length cy)) := ⟨_, setRow_heap _ _ _ _ _ _ hz⟩
            have hz6 : v5.heap.size ≤ (v5.setRow (v2.heap.size) (stCells s (.slice py s.d.length cy)).toArray).heap.size := by rw [setRow_size]; exact Nat.le_refl _
            have x6 := x5.block (setRow_block v5 (v2.heap.size) (stCells s (.slice py s.d.length cy)).toArray (by omega))
            have mx6 := mx5.block (fun k hk => setRow_block v5 (v2.heap.size) (stCells s (.slice py s.d.length cy)).toArray (by have := ox k hk; omega))
            have my6 := my5.block (fun k hk => setRow_block v5 (v2.heap.size) (stCells s (.slice py s.d.length cy)).toArray (by have := oy k hk; omega))
            clear hz
            generalize v5.setRow (v2.heap.size) (stCells s (.slice py s.d.length cy)).toArray = v6 at hHeld hz6 x6 y6 mx6 my6 ⊢
            refine wpAnyH_done (by kernel_rfl) ?_ _
            exact ⟨rfl, v0.heap.size, v2.heap.size, px, cx, py, cy, by first | rfl | (simp only [put6, Act.put, List.setIfInBounds_toArray, List.set_cons_zero, List.set_cons_succ]), ⟨hHeld, ⟨hr, x6⟩, ⟨hr, y6⟩, mx6, my6, by omega, by omega, fun k hk => by have h1 := ox k hk; exact ⟨by omega, by omega, by omega, by omega, fun h => by have h2 := oy k h; omega⟩, fun k hk => by have h1 := oy k hk; exact ⟨by omega, by omega, by omega, by omega, fun h => by have h2 := ox k h; omega⟩, by omega⟩⟩
        · skip
          go_simp
          refine hK.out _ _ ?_ (fun hHeld => ?_)
          · exact bAlloc hHeld.size hHeld
          clear hK K
          try simp only [Act.put, List.setIfInBounds_toArray, List.set_cons_zero, List.set_cons_succ]
          have hC : Below v1.heap.size v1 (v1.alloc (.cells #[.int .i64 0, .int .i32 0, .int .i32 0, .int .i32 0, .int .i32 0, .int .i32 0, .int .i32 0, .int .i32 0, .int .i32 0, .int .i32 0, .int .i32 0, .int .i32 0, .int .i32 0, .int .i32 0, .int .i32 0, .int .i32 0, .int .i32 0, .slice none 0 0, .bool false, .int .i64 0] 29)) := bAlloc (Nat.le_refl _) (Below.refl _ _)
          have y2 := RowAt.alloc_new v1 [.int .i64 0, .int .i32 0, .int .i32 0, .int .i32 0, .int .i32 0, .int .i32 0, .int .i32 0, .int .i32 0, .int .i32 0, .int .i32 0, .int .i32 0, .int .i32 0, .int .i32 0, .int .i32 0, .int .i32 0, .int .i32 0, .int .i32 0, .slice none 0 0, .bool false, .int .i64 0] 29
          have hz2 : v1.heap.size < (v1.alloc (.cells #[.int .i64 0, .int .i32 0, .int .i32 0, .int .i32 0, .int .i32 0, .int .i32 0, .int .i32 0, .int .i32 0, .int .i32 0, .int .i32 0, .int .i32 0, .int .i32 0, .int .i32 0, .int .i32 0, .int .i32 0, .int .i32 0, .int .i32 0, .slice none 0 0, .bool false, .int .i64 0] 29)).heap.size := by simp
          have bdy : v1.heap.size ≤ v1.heap.size := Nat.le_refl _
          generalize v1.alloc (.cells #[.int .i64 0, .int .i32 0, .int .i32 0, .int .i32 0, .int .i32 0, .int .i32 0, .int .i32 0, .int .i32 0, .int .i32 0, .int .i32 0, .int .i32 0, .int .i32 0, .int .i32 0, .int .i32 0, .int .i32 0, .int .i32 0, .int .i32 0, .slice none 0 0, .bool false, .int .i64 0] 29) = v2 at hHeld hC y2 hz2 ⊢
          have x2 := x1.below hC x1.lt
          clear hC
          refine wpAnyH_ready (rs := [1]) (by kernel_rfl) (by simp) ?_
          refine AllReadyH.cons (o := { dst := some 38, op := Go.Op.call { callee := Go.Callee.value (Go.Operand.func 12), args := #[Go.Operand.tmp 37], argTypes := #[29] }, type := 29, pos := "law.go:79", after := #[{ on := 0, ground := Go.Ground.data }], guard := none }) rfl (fun K hK => ?_) AllReadyH.nil
          go_simp
          refine (copyS s dp s.d.length dcap _ hr rfl (hrd2.below hHeld (Nat.le_refl _)) hn0 (by omega)).mono ?_
          rintro e v3 ⟨px, cx, rfl, hC, hown⟩
          first | (refine hK.out _ _ ?_ (fun hHeld => ?_)) | (go_wp2_with fail; refine hK.out _ _ ?_ (fun hHeld => ?_))
          · exact hHeld.trans (hC.mono hHeld.size)
          clear hK K
          try simp only [Act.put, List.setIfInBounds_toArray, List.set_cons_zero, List.set_cons_succ]
          have mx3 := MemAt.of_owns hown
          have hz3 := hC.size
          have ox : ∀ k, (Value.slice px s.d.length cx).ownBlock = some k → v2.heap.size ≤ k ∧ k < v3.heap.size := fun k hk => ⟨by have := ownBase hown hk; omega, own_lt hown hk⟩
          clear hown
          have x3 := x2.below hC x2.lt
          have y3 := y2.below hC y2.lt
          clear hC
          refine wpAnyH_ready (rs := [3]) (by kernel_rfl) (by simp) ?_
          refine AllReadyH.cons (o := { dst := some 40, op := Go.Op.call { callee := Go.Callee.value (Go.Operand.func 12), args := #[Go.Operand.tmp 39], argTypes := #[29] }, type := 29, pos := "law.go:79", after := #[{ on := 2, ground := Go.Ground.data }, { on := 1, ground := Go.Ground.chain }], guard := none }) rfl (fun K hK => ?_) AllReadyH.nil
          go_simp
          refine (copyS s dp s.d.length dcap _ hr rfl (hrd2.below hHeld (Nat.le_refl _)) hn0 (by omega)).mono ?_
          rintro e v4 ⟨py, cy, rfl, hC, hown⟩
          first | (refine hK.out _ _ ?_ (fun hHeld => ?_)) | (go_wp2_with fail; refine hK.out _ _ ?_ (fun hHeld => ?_))
          · exact hHeld.trans (hC.mono hHeld.size)
          clear hK K
          try simp only [Act.put, List.setIfInBounds_toArray, List.set_cons_zero, List.set_cons_succ]
          have my4 := MemAt.of_owns hown
          have hz4 := hC.size
          have oy : ∀ k, (Value.slice py s.d.length cy).ownBlock = some k → v3.heap.size ≤ k ∧ k < v4.heap.size := fun k hk => ⟨by have := ownBase hown hk; omega, own_lt hown hk⟩
          clear hown
          have x4 := x3.below hC x3.lt
          have y4 := y3.below hC y3.lt
          have mx4 := mx3.below hC (Nat.le_refl _)
          clear hC
          refine wpAnyH_ready (rs := [6]) (by kernel_rfl) (by simp) ?_
          refine AllReadyH.cons (o := { dst := none, op := Go.Op.store 29 (Go.Operand.tmp 11) (Go.Operand.tmp 38), type := 0, pos := "law.go:79", after := #[{ on := 4, ground := Go.Ground.data }, { on := 1, ground := Go.Ground.data }, { on := 3, ground := Go.Ground.chain }, { on := 0, ground := Go.Ground.phase }, { on := 1, ground := Go.Ground.phase }, { on := 2, ground := Go.Ground.textOnly Go.Departure.lateStores }, { on := 3, ground := Go.Ground.phase }, { on := 4, ground := Go.Ground.phase }, { on := 5, ground := Go.Ground.phase }], guard := none }) rfl (fun K hK => ?_) AllReadyH.nil
          obtain ⟨tzx, hz⟩ := x4
          have hbx := lt_of_block hz
          have hby := y4.lt
          refine step_store_row rfl 29 (.tmp 11) (.tmp 38) rfl (v0.heap.size) _ rfl rfl tzx _ hz (by rw [List.size_toArray, stCells_len hr]; exact infoState) (by first | (rw [List.size_toArray, List.size_toArray, stCells_len hr]; rfl) | (rw [List.size_toArray, stCells_len hr]; rfl)) (stCells_one s _ _ _) ?_
          refine hK.out _ _ ?_ (fun hHeld => ?_)
          · exact bRow (by have := hHeld.size; omega) hHeld
          clear hK K
          try simp only [Act.put, List.setIfInBounds_toArray, List.set_cons_zero, List.set_cons_succ]
          have x5 : RowAt (v4.setRow (v0.heap.size) (stCells s (.slice px s.d.length cx)).toArray) (v0.heap.size) (stCells s (.slice px s.d.length cx)) := ⟨_, setRow_heap _ _ _ _ _ _ hz⟩
          have hz5 : v4.heap.size ≤ (v4.setRow (v0.heap.size) (stCells s (.slice px s.d.length cx)).toArray).heap.size := by rw [setRow_size]; exact Nat.le_refl _
          have y5 := y4.block (setRow_block v4 (v0.heap.size) (stCells s (.slice px s.d.length cx)).toArray (by omega))
          have mx5 := mx4.block (fun k hk => setRow_block v4 (v0.heap.size) (stCells s (.slice px s.d.length cx)).toArray (by have := ox k hk; omega))
          have my5 := my4.block (fun k hk => setRow_block v4 (v0.heap.size) (stCells s (.slice px s.d.length cx)).toArray (by have := oy k hk; omega))
          clear hz
          generalize v4.setRow (v0.heap.size) (stCells s (.slice px s.d.length cx)).toArray = v5 at hHeld hz5 x5 y5 mx5 my5 ⊢
          refine wpAnyH_ready (rs := [7]) (by kernel_rfl) (by simp) ?_
          refine AllReadyH.cons (o := { dst := none, op := Go.Op.store 29 (Go.Operand.tmp 12) (Go.Operand.tmp 40), type := 0, pos := "law.go:79", after := #[{ on := 5, ground := Go.Ground.data }, { on := 3, ground := Go.Ground.data }, { on := 6, ground := Go.Ground.chain }, { on := 0, ground := Go.Ground.phase }, { on := 1, ground := Go.Ground.phase }, { on := 2, ground := Go.Ground.phase }, { on := 3, ground := Go.Ground.phase }, { on := 4, ground := Go.Ground.phase }, { on := 5, ground := Go.Ground.phase }, { on := 6, ground := Go.Ground.phase }], guard := none }) rfl (fun K hK => ?_) AllReadyH.nil
          obtain ⟨tzy, hz⟩ := y5
          refine step_store_row rfl 29 (.tmp 12) (.tmp 40) rfl (v1.heap.size) _ rfl rfl tzy _ hz (by rw [List.size_toArray, stCells_len hr]; exact infoState) (by first | (rw [List.size_toArray, List.size_toArray, stCells_len hr]; rfl) | (rw [List.size_toArray, stCells_len hr]; rfl)) (stCells_one s _ _ _) ?_
          refine hK.out _ _ ?_ (fun hHeld => ?_)
          · exact bRow (by have := hHeld.size; omega) hHeld
          clear hK K
          try simp only [Act.put, List.setIfInBounds_toArray, List.set_cons_zero, List.set_cons_succ]
          have y6 : RowAt (v5.setRow (v1.heap.size) (stCells s (.slice py s.d.length cy)).toArray) (v1.heap.size) (stCells s (.slice py s.d.length cy)) := ⟨_, setRow_heap _ _ _ _ _ _ hz⟩
          have hz6 : v5.heap.size ≤ (v5.setRow (v1.heap.size) (stCells s (.slice py s.d.length cy)).toArray).heap.size := by rw [setRow_size]; exact Nat.le_refl _
          have x6 := x5.block (setRow_block v5 (v1.heap.size) (stCells s (.slice py s.d.length cy)).toArray (by omega))
          have mx6 := mx5.block (fun k hk => setRow_block v5 (v1.heap.size) (stCells s (.slice py s.d.length cy)).toArray (by have := ox k hk; omega))
          have my6 := my5.block (fun k hk => setRow_block v5 (v1.heap.size) (stCells s (.slice py s.d.length cy)).toArray (by have := oy k hk; omega))
          clear hz
          generalize v5.setRow (v1.heap.size) (stCells s (.slice py s.d.length cy)).toArray = v6 at hHeld hz6 x6 y6 mx6 my6 ⊢
          refine wpAnyH_done (by kernel_rfl) ?_ _
          exact ⟨rfl, v0.heap.size, v1.heap.size, px, cx, py, cy, by first | rfl | (simp only [put6, Act.put, List.setIfInBounds_toArray, List.set_cons_zero, List.set_cons_succ]), ⟨hHeld, ⟨hr, x6⟩, ⟨hr, y6⟩, mx6, my6, by omega, by omega, fun k hk => by have h1 := ox k hk; exact ⟨by omega, by omega, by omega, by omega, fun h => by have h2 := oy k h; omega⟩, fun k hk => by have h1 := oy k hk; exact ⟨by omega, by omega, by omega, by omega, fun h => by have h2 := ox k h; omega⟩, by omega⟩⟩
      · skip
        go_simp
        refine hK.out _ _ ?_ (fun hHeld => ?_)
        · exact bAlloc hHeld.size hHeld
        clear hK K
        try simp only [Act.put, List.setIfInBounds_toArray, List.set_cons_zero, List.set_cons_succ]
        have hC : Below v0.heap.size v0 (v0.alloc (.cells #[.int .i64 0, .int .i32 0, .int .i32 0, .int .i32 0, .int .i32 0, .int .i32 0, .int .i32 0, .int .i32 0, .int .i32 0, .int .i32 0, .int .i32 0, .int .i32 0, .int .i32 0, .int .i32 0, .int .i32 0, .int .i32 0, .int .i32 0, .slice none 0 0, .bool false, .int .i64 0] 29)) := bAlloc (Nat.le_refl _) (Below.refl _ _)
        have y1 := RowAt.alloc_new v0 [.int .i64 0, .int .i32 0, .int .i32 0, .int .i32 0, .int .i32 0, .int .i32 0, .int .i32 0, .int .i32 0, .int .i32 0, .int .i32 0, .int .i32 0, .int .i32 0, .int .i32 0, .int .i32 0, .int .i32 0, .int .i32 0, .int .i32 0, .slice none 0 0, .bool false, .int .i64 0] 29
        have hz1 : v0.heap.size < (v0.alloc (.cells #[.int .i64 0, .int .i32 0, .int .i32 0, .int .i32 0, .int .i32 0, .int .i32 0, .int .i32 0, .int .i32 0, .int .i32 0, .int .i32 0, .int .i32 0, .int .i32 0, .int .i32 0, .int .i32 0, .int .i32 0, .int .i32 0, .int .i32 0, .slice none 0 0, .bool false, .int .i64 0] 29)).heap.size := by simp
        have bdy : v0.heap.size ≤ v0.heap.size := Nat.le_refl _
        generalize v0.alloc (.cells #[.int .i64 0, .int .i32 0, .int .i32 0, .int .i32 0, .int .i32 0, .int .i32 0, .int .i32 0, .int .i32 0, .int .i32 0, .int .i32 0, .int .i32 0, .int .i32 0, .int .i32 0, .int .i32 0, .int .i32 0, .int .i32 0, .int .i32 0, .slice none 0 0, .bool false, .int .i64 0] 29) = v1 at hHeld hC y1 hz1 ⊢
        clear hC
        refine wpAnyH_ready (rs := [1, 4]) (by kernel_rfl) (by simp) ?_
        refine AllReadyH.cons (o := { dst := some 38, op := Go.Op.call { callee := Go.Callee.value (Go.Operand.func 12), args := #[Go.Operand.tmp 37], argTypes := #[29] }, type := 29, pos := "law.go:79", after := #[{ on := 0, ground := Go.Ground.data }], guard := none }) rfl (fun K hK => ?_) (AllReadyH.cons (o := { dst := some 11, op := Go.Op.alloc 29, type := 0, pos := "law.go:79", after := #[], guard := none }) rfl (fun K hK => ?_) AllReadyH.nil)
        · skip
          go_simp
          refine (copyS s dp s.d.length dcap _ hr rfl (hrd2.below hHeld (Nat.le_refl _)) hn0 (by omega)).mono ?_
          rintro e v2 ⟨px, cx, rfl, hC, hown⟩
          first | (refine hK.out _ _ ?_ (fun hHeld => ?_)) | (go_wp2_with fail; refine hK.out _ _ ?_ (fun hHeld => ?_))
          · exact hHeld.trans (hC.mono hHeld.size)
          clear hK K
          try simp only [Act.put, List.setIfInBounds_toArray, List.set_cons_zero, List.set_cons_succ]
          have mx2 := MemAt.of_owns hown
          have hz2 := hC.size
          have ox : ∀ k, (Value.slice px s.d.length cx).ownBlock = some k → v1.heap.size ≤ k ∧ k < v2.heap.size := fun k hk => ⟨by have := ownBase hown hk; omega, own_lt hown hk⟩
          clear hown
          have y2 := y1.below hC y1.lt
          clear hC
          refine wpAnyH_ready (rs := [3, 4]) (by kernel_rfl) (by simp) ?_
          refine AllReadyH.cons (o := { dst := some 40, op := Go.Op.call { callee := Go.Callee.value (Go.Operand.func 12), args := #[Go.Operand.tmp 39], argTypes := #[29] }, type := 29, pos := "law.go:79", after := #[{ on := 2, ground := Go.Ground.data }, { on := 1, ground := Go.Ground.chain }], guard := none }) rfl (fun K hK => ?_) (AllReadyH.cons (o := { dst := some 11, op := Go.Op.alloc 29, type := 0, pos := "law.go:79", after := #[], guard := none }) rfl (fun K hK => ?_) AllReadyH.nil)
          · skip
            go_simp
            refine (copyS s dp s.d.length dcap _ hr rfl (hrd2.below hHeld (Nat.le_refl _)) hn0 (by omega)).mono ?_
            rintro e v3 ⟨py, cy, rfl, hC, hown⟩
            first | (refine hK.out _ _ ?_ (fun hHeld => ?_)) | (go_wp2_with fail; refine hK.out _ _ ?_ (fun hHeld => ?_))
            · exact hHeld.trans (hC.mono hHeld.size)
            clear hK K
            try simp only [Act.put, List.setIfInBounds_toArray, List.set_cons_zero, List.set_cons_succ]
            have my3 := MemAt.of_owns hown
            have hz3 := hC.size
            have oy : ∀ k, (Value.slice py s.d.length cy).ownBlock = some k → v2.heap.size ≤ k ∧ k < v3.heap.size := fun k hk => ⟨by have := ownBase hown hk; omega, own_lt hown hk⟩
            clear hown
            have y3 := y2.below hC y2.lt
            have mx3 := mx2.below hC (Nat.le_refl _)
            clear hC
            refine wpAnyH_ready (rs := [4]) (by kernel_rfl) (by simp) ?_
            refine AllReadyH.cons (o := { dst := some 11, op := Go.Op.alloc 29, type := 0, pos := "law.go:79", after := #[], guard := none }) rfl (fun K hK => ?_) AllReadyH.nil
            go_simp
            refine hK.out _ _ ?_ (fun hHeld => ?_)
            · exact bAlloc hHeld.size hHeld
            clear hK K
            try simp only [Act.put, List.setIfInBounds_toArray, List.set_cons_zero, List.set_cons_succ]
            have hC : Below v3.heap.size v3 (v3.alloc (.cells #[.int .i64 0, .int .i32 0, .int .i32 0, .int .i32 0, .int .i32 0, .int .i32 0, .int .i32 0, .int .i32 0, .int .i32 0, .int .i32 0, .int .i32 0, .int .i32 0, .int .i32 0, .int .i32 0, .int .i32 0, .int .i32 0, .int .i32 0, .slice none 0 0, .bool false, .int .i64 0] 29)) := bAlloc (Nat.le_refl _) (Below.refl _ _)
            have x4 := RowAt.alloc_new v3 [.int .i64 0, .int .i32 0, .int .i32 0, .int .i32 0, .int .i32 0, .int .i32 0, .int .i32 0, .int .i32 0, .int .i32 0, .int .i32 0, .int .i32 0, .int .i32 0, .int .i32 0, .int .i32 0, .int .i32 0, .int .i32 0, .int .i32 0, .slice none 0 0, .bool false, .int .i64 0] 29
            have hz4 : v3.heap.size < (v3.alloc (.cells #[.int .i64 0, .int .i32 0, .int .i32 0, .int .i32 0, .int .i32 0, .int .i32 0, .int .i32 0, .int .i32 0, .int .i32 0, .int .i32 0, .int .i32 0, .int .i32 0, .int .i32 0, .int .i32 0, .int .i32 0, .int .i32 0, .int .i32 0, .slice none 0 0, .bool false, .int .i64 0] 29)).heap.size := by simp
            have bdx : v3.heap.size ≤ v3.heap.size := Nat.le_refl _
            generalize v3.alloc (.cells #[.int .i64 0, .int .i32 0, .int .i32 0, .int .i32 0, .int .i32 0, .int .i32 0, .int .i32 0, .int .i32 0, .int .i32 0, .int .i32 0, .int .i32 0, .int .i32 0, .int .i32 0, .int .i32 0, .int .i32 0, .int .i32 0, .int .i32 0, .slice none 0 0, .bool false, .int .i64 0] 29) = v4 at hHeld hC x4 hz4 ⊢
            have y4 := y3.below hC y3.lt
            have mx4 := mx3.below hC (Nat.le_refl _)
            have my4 := my3.below hC (Nat.le_refl _)
            clear hC
            refine wpAnyH_ready (rs := [6]) (by kernel_rfl) (by simp) ?_
            refine AllReadyH.cons (o := { dst := none, op := Go.Op.store 29 (Go.Operand.tmp 11) (Go.Operand.tmp 38), type := 0, pos := "law.go:79", after := #[{ on := 4, ground := Go.Ground.data }, { on := 1, ground := Go.Ground.data }, { on := 3, ground := Go.Ground.chain }, { on := 0, ground := Go.Ground.phase }, { on := 1, ground := Go.Ground.phase }, { on := 2, ground := Go.Ground.textOnly Go.Departure.lateStores }, { on := 3, ground := Go.Ground.phase }, { on := 4, ground := Go.Ground.phase }, { on := 5, ground := Go.Ground.phase }], guard := none }) rfl (fun K hK => ?_) AllReadyH.nil
            obtain ⟨tzx, hz⟩ := x4
            have hbx := lt_of_block hz
            have hby := y4.lt
            refine step_store_row rfl 29 (.tmp 11) (.tmp 38) rfl (v3.heap.size) _ rfl rfl tzx _ hz (by rw [List.size_toArray, stCells_len hr]; exact infoState) (by first | (rw [List.size_toArray, List.size_toArray, stCells_len hr]; rfl) | (rw [List.size_toArray, stCells_len hr]; rfl)) (stCells_one s _ _ _) ?_
            refine hK.out _ _ ?_ (fun hHeld => ?_)
            · exact bRow (by have := hHeld.size; omega) hHeld
            clear hK K
            try simp only [Act.put, List.setIfInBounds_toArray, List.set_cons_zero, List.set_cons_succ]
            have x5 : RowAt (v4.setRow (v3.heap.size) (stCells s (.slice px s.d.length cx)).toArray) (v3.heap.size) (stCells s (.slice px s.d.length cx)) := ⟨_, setRow_heap _ _ _ _ _ _ hz⟩
            have hz5 : v4.heap.size ≤ (v4.setRow (v3.heap.size) (stCells s (.slice px s.d.length cx)).toArray).heap.size := by rw [setRow_size]; exact Nat.le_refl _
            have y5 := y4.block (setRow_block v4 (v3.heap.size) (stCells s (.slice px s.d.length cx)).toArray (by omega))
            have mx5 := mx4.block (fun k hk => setRow_block v4 (v3.heap.size) (stCells s (.slice px s.d.length cx)).toArray (by have := ox k hk; omega))
            have my5 := my4.block (fun k hk => setRow_block v4 (v3.heap.size) (stCells s (.slice px s.d.length cx)).toArray (by have := oy k hk; omega))
            clear hz
            generalize v4.setRow (v3.heap.size) (stCells s (.slice px s.d.length cx)).toArray = v5 at hHeld hz5 y5 x5 mx5 my5 ⊢
            refine wpAnyH_ready (rs := [7]) (by kernel_rfl) (by simp) ?_
            refine AllReadyH.cons (o := { dst := none, op := Go.Op.store 29 (Go.Operand.tmp 12) (Go.Operand.tmp 40), type := 0, pos := "law.go:79", after := #[{ on := 5, ground := Go.Ground.data }, { on := 3, ground := Go.Ground.data }, { on := 6, ground := Go.Ground.chain }, { on := 0, ground := Go.Ground.phase }, { on := 1, ground := Go.Ground.phase }, { on := 2, ground := Go.Ground.phase }, { on := 3, ground := Go.Ground.phase }, { on := 4, ground := Go.Ground.phase }, { on := 5, ground := Go.Ground.phase }, { on := 6, ground := Go.Ground.phase }], guard := none }) rfl (fun K hK => ?_) AllReadyH.nil
            obtain ⟨tzy, hz⟩ := y5
            refine step_store_row rfl 29 (.tmp 12) (.tmp 40) rfl (v0.heap.size) _ rfl rfl tzy _ hz (by rw [List.size_toArray, stCells_len hr]; exact infoState) (by first | (rw [List.size_toArray, List.size_toArray, stCells_len hr]; rfl) | (rw [List.size_toArray, stCells_len hr]; rfl)) (stCells_one s _ _ _) ?_
            refine hK.out _ _ ?_ (fun hHeld => ?_)
            · exact bRow (by have := hHeld.size; omega) hHeld
            clear hK K
            try simp only [Act.put, List.setIfInBounds_toArray, List.set_cons_zero, List.set_cons_succ]
            have y6 : RowAt (v5.setRow (v0.heap.size) (stCells s (.slice py s.d.length cy)).toArray) (v0.heap.size) (stCells s (.slice py s.d.length cy)) := ⟨_, setRow_heap _ _ _ _ _ _ hz⟩
            have hz6 : v5.heap.size ≤ (v5.setRow (v0.heap.size) (stCells s (.slice py s.d.length cy)).toArray).heap.size := by rw [setRow_size]; exact Nat.le_refl _
            have x6 := x5.block (setRow_block v5 (v0.heap.size) (stCells s (.slice py s.d.length cy)).toArray (by omega))
            have mx6 := mx5.block (fun k hk => setRow_block v5 (v0.heap.size) (stCells s (.slice py s.d.length cy)).toArray (by have := ox k hk; omega))
            have my6 := my5.block (fun k hk => setRow_block v5 (v0.heap.size) (stCells s (.slice py s.d.length cy)).toArray (by have := oy k hk; omega))
            clear hz
            generalize v5.setRow (v0.heap.size) (stCells s (.slice py s.d.length cy)).toArray = v6 at hHeld hz6 y6 x6 mx6 my6 ⊢
            refine wpAnyH_done (by kernel_rfl) ?_ _
            exact ⟨rfl, v3.heap.size, v0.heap.size, px, cx, py, cy, by first | rfl | (simp only [put6, Act.put, List.setIfInBounds_toArray, List.set_cons_zero, List.set_cons_succ]), ⟨hHeld, ⟨hr, x6⟩, ⟨hr, y6⟩, mx6, my6, by omega, by omega, fun k hk => by have h1 := ox k hk; exact ⟨by omega, by omega, by omega, by omega, fun h => by have h2 := oy k h; omega⟩, fun k hk => by have h1 := oy k hk; exact ⟨by omega, by omega, by omega, by omega, fun h => by have h2 := ox k h; omega⟩, by omega⟩⟩
          · skip
            go_simp
            refine hK.out _ _ ?_ (fun hHeld => ?_)
            · exact bAlloc hHeld.size hHeld
            clear hK K
            try simp only [Act.put, List.setIfInBounds_toArray, List.set_cons_zero, List.set_cons_succ]
            have hC : Below v2.heap.size v2 (v2.alloc (.cells #[.int .i64 0, .int .i32 0, .int .i32 0, .int .i32 0, .int .i32 0, .int .i32 0, .int .i32 0, .int .i32 0, .int .i32 0, .int .i32 0, .int .i32 0, .int .i32 0, .int .i32 0, .int .i32 0, .int .i32 0, .int .i32 0, .int .i32 0, .slice none 0 0, .bool false, .int .i64 0] 29)) := bAlloc (Nat.le_refl _) (Below.refl _ _)
            have x3 := RowAt.alloc_new v2 [.int .i64 0, .int .i32 0, .int .i32 0, .int .i32 0, .int .i32 0, .int .i32 0, .int .i32 0, .int .i32 0, .int .i32 0, .int .i32 0, .int .i32 0, .int .i32 0, .int .i32 0, .int .i32 0, .int .i32 0, .int .i32 0, .int .i32 0, .slice none 0 0, .bool false, .int .i64 0] 29
            have hz3 : v2.heap.size < (v2.alloc (.cells #[.int .i64 0, .int .i32 0, .int .i32 0, .int .i32 0, .int .i32 0, .int .i32 0, .int .i32 0, .int .i32 0, .int .i32 0, .int .i32 0, .int .i32 0, .int .i32 0, .int .i32 0, .int .i32 0, .int .i32 0, .int .i32 0, .int .i32 0, .slice none 0 0, .bool false, .int .i64 0] 29)).heap.size := by simp
            have bdx : v2.heap.size ≤ v2.heap.size := Nat.le_refl _
            generalize v2.alloc (.cells #[.int .i64 0, .int .i32 0, .int .i32 0, .int .i32 0, .int .i32 0, .int .i32 0, .int .i32 0, .int .i32 0, .int .i32 0, .int .i32 0, .int .i32 0, .int .i32 0, .int .i32 0, .int .i32 0, .int .i32 0, .int .i32 0, .int .i32 0, .slice none 0 0, .bool false, .int .i64 0] 29) = v3 at hHeld hC x3 hz3 ⊢
            have y3 := y2.below hC y2.lt
            have mx3 := mx2.below hC (Nat.le_refl _)
            clear hC
            refine wpAnyH_ready (rs := [3]) (by kernel_rfl) (by simp) ?_
            refine AllReadyH.cons (o := { dst := some 40, op := Go.Op.call { callee := Go.Callee.value (Go.Operand.func 12), args := #[Go.Operand.tmp 39], argTypes := #[29] }, type := 29, pos := "law.go:79", after := #[{ on := 2, ground := Go.Ground.data }, { on := 1, ground := Go.Ground.chain }], guard := none }) rfl (fun K hK => ?_) AllReadyH.nil
            go_simp
            refine (copyS s dp s.d.length dcap _ hr rfl (hrd2.below hHeld (Nat.le_refl _)) hn0 (by omega)).mono ?_
            rintro e v4 ⟨py, cy, rfl, hC, hown⟩
            first | (refine hK.out _ _ ?_ (fun hHeld => ?_)) | (go_wp2_with fail; refine hK.out _ _ ?_ (fun hHeld => ?_))
            · exact hHeld.trans (hC.mono hHeld.size)
            clear hK K
            try simp only [Act.put, List.setIfInBounds_toArray, List.set_cons_zero, List.set_cons_succ]
            have my4 := MemAt.of_owns hown
            have hz4 := hC.size
            have oy : ∀ k, (Value.slice py s.d.length cy).ownBlock = some k → v3.heap.size ≤ k ∧ k < v4.heap.size := fun k hk => ⟨by have := ownBase hown hk; omega, own_lt hown hk⟩
            clear hown
            have y4 := y3.below hC y3.lt
            have x4 := x3.below hC x3.lt
            have mx4 := mx3.below hC (Nat.le_refl _)
            clear hC
            refine wpAnyH_ready (rs := [6]) (by kernel_rfl) (by simp) ?_
            refine AllReadyH.cons (o := { dst := none, op := Go.Op.store 29 (Go.Operand.tmp 11) (Go.Operand.tmp 38), type := 0, pos := "law.go:79", after := #[{ on := 4, ground := Go.Ground.data }, { on := 1, ground := Go.Ground.data }, { on := 3, ground := Go.Ground.chain }, { on := 0, ground := Go.Ground.phase }, { on := 1, ground := Go.Ground.phase }, { on := 2, ground := Go.Ground.textOnly Go.Departure.lateStores }, { on := 3, ground := Go.Ground.phase }, { on := 4, ground := Go.Ground.phase }, { on := 5, ground := Go.Ground.phase }], guard := none }) rfl (fun K hK => ?_) AllReadyH.nil
            obtain ⟨tzx, hz⟩ := x4
            have hbx := lt_of_block hz
            have hby := y4.lt
            refine step_store_row rfl 29 (.tmp 11) (.tmp 38) rfl (v2.heap.size) _ rfl rfl tzx _ hz (by rw [List.size_toArray, stCells_len hr]; exact infoState) (by first | (rw [List.size_toArray, List.size_toArray, stCells_len hr]; rfl) | (rw [List.size_toArray, stCells_len hr]; rfl)) (stCells_one s _ _ _) ?_
            refine hK.out _ _ ?_ (fun hHeld => ?_)
            · exact bRow (by have := hHeld.size; omega) hHeld
            clear hK K
            try simp only [Act.put, List.setIfInBounds_toArray, List.set_cons_zero, List.set_cons_succ]
            have x5 : RowAt (v4.setRow (v2.heap.size) (stCells s (.slice px s.d.length cx)).toArray) (v2.heap.size) (stCells s (.slice px s.d.length cx)) := ⟨_, setRow_heap _ _ _ _ _ _ hz⟩
            have hz5 : v4.heap.size ≤ (v4.setRow (v2.heap.size) (stCells s (.slice px s.d.length cx)).toArray).heap.size := by rw [setRow_size]; exact Nat.le_refl _
            have y5 := y4.block (setRow_block v4 (v2.heap.size) (stCells s (.slice px s.d.length cx)).toArray (by omega))
            have mx5 := mx4.block (fun k hk => setRow_block v4 (v2.heap.size) (stCells s (.slice px s.d.length cx)).toArray (by have := ox k hk; omega))
            have my5 := my4.block (fun k hk => setRow_block v4 (v2.heap.size) (stCells s (.slice px s.d.length cx)).toArray (by have := oy k hk; omega))
            clear hz
            generalize v4.setRow (v2.heap.size) (stCells s (.slice px s.d.length cx)).toArray = v5 at hHeld hz5 y5 x5 mx5 my5 ⊢
            refine wpAnyH_ready (rs := [7]) (by kernel_rfl) (by simp) ?_
            refine AllReadyH.cons (o := { dst := none, op := Go.Op.store 29 (Go.Operand.tmp 12) (Go.Operand.tmp 40), type := 0, pos := "law.go:79", after := #[{ on := 5, ground := Go.Ground.data }, { on := 3, ground := Go.Ground.data }, { on := 6, ground := Go.Ground.chain }, { on := 0, ground := Go.Ground.phase }, { on := 1, ground := Go.Ground.phase }, { on := 2, ground := Go.Ground.phase }, { on := 3, ground := Go.Ground.phase }, { on := 4, ground := Go.Ground.phase }, { on := 5, ground := Go.Ground.phase }, { on := 6, ground := Go.Ground.phase }], guard := none }) rfl (fun K hK => ?_) AllReadyH.nil
            obtain ⟨tzy, hz⟩ := y5
            refine step_store_row rfl 29 (.tmp 12) (.tmp 40) rfl (v0.heap.size) _ rfl rfl tzy _ hz (by rw [List.size_toArray, stCells_len hr]; exact infoState) (by first | (rw [List.size_toArray, List.size_toArray, stCells_len hr]; rfl) | (rw [List.size_toArray, stCells_len hr]; rfl)) (stCells_one s _ _ _) ?_
            refine hK.out _ _ ?_ (fun hHeld => ?_)
            · exact bRow (by have := hHeld.size; omega) hHeld
            clear hK K
            try simp only [Act.put, List.setIfInBounds_toArray, List.set_cons_zero, List.set_cons_succ]
            have y6 : RowAt (v5.setRow (v0.heap.size) (stCells s (.slice py s.d.length cy)).toArray) (v0.heap.size) (stCells s (.slice py s.d.length cy)) := ⟨_, setRow_heap _ _ _ _ _ _ hz⟩
            have hz6 : v5.heap.size ≤ (v5.setRow (v0.heap.size) (stCells s (.slice py s.d.length cy)).toArray).heap.size := by rw [setRow_size]; exact Nat.le_refl _
            have x6 := x5.block (setRow_block v5 (v0.heap.size) (stCells s (.slice py s.d.length cy)).toArray (by omega))
            have mx6 := mx5.block (fun k hk => setRow_block v5 (v0.heap.size) (stCells s (.slice py s.d.length cy)).toArray (by have := ox k hk; omega))
            have my6 := my5.block (fun k hk => setRow_block v5 (v0.heap.size) (stCells s (.slice py s.d.length cy)).toArray (by have := oy k hk; omega))
            clear hz
            generalize v5.setRow (v0.heap.size) (stCells s (.slice py s.d.length cy)).toArray = v6 at hHeld hz6 y6 x6 mx6 my6 ⊢
            refine wpAnyH_done (by kernel_rfl) ?_ _
            exact ⟨rfl, v2.heap.size, v0.heap.size, px, cx, py, cy, by first | rfl | (simp only [put6, Act.put, List.setIfInBounds_toArray, List.set_cons_zero, List.set_cons_succ]), ⟨hHeld, ⟨hr, x6⟩, ⟨hr, y6⟩, mx6, my6, by omega, by omega, fun k hk => by have h1 := ox k hk; exact ⟨by omega, by omega, by omega, by omega, fun h => by have h2 := oy k h; omega⟩, fun k hk => by have h1 := oy k hk; exact ⟨by omega, by omega, by omega, by omega, fun h => by have h2 := ox k h; omega⟩, by omega⟩⟩
        · skip
          go_simp
          refine hK.out _ _ ?_ (fun hHeld => ?_)
          · exact bAlloc hHeld.size hHeld
          clear hK K
          try simp only [Act.put, List.setIfInBounds_toArray, List.set_cons_zero, List.set_cons_succ]
          have hC : Below v1.heap.size v1 (v1.alloc (.cells #[.int .i64 0, .int .i32 0, .int .i32 0, .int .i32 0, .int .i32 0, .int .i32 0, .int .i32 0, .int .i32 0, .int .i32 0, .int .i32 0, .int .i32 0, .int .i32 0, .int .i32 0, .int .i32 0, .int .i32 0, .int .i32 0, .int .i32 0, .slice none 0 0, .bool false, .int .i64 0] 29)) := bAlloc (Nat.le_refl _) (Below.refl _ _)
          have x2 := RowAt.alloc_new v1 [.int .i64 0, .int .i32 0, .int .i32 0, .int .i32 0, .int .i32 0, .int .i32 0, .int .i32 0, .int .i32 0, .int .i32 0, .int .i32 0, .int .i32 0, .int .i32 0, .int .i32 0, .int .i32 0, .int .i32 0, .int .i32 0, .int .i32 0, .slice none 0 0, .bool false, .int .i64 0] 29
          have hz2 : v1.heap.size < (v1.alloc (.cells #[.int .i64 0, .int .i32 0, .int .i32 0, .int .i32 0, .int .i32 0, .int .i32 0, .int .i32 0, .int .i32 0, .int .i32 0, .int .i32 0, .int .i32 0, .int .i32 0, .int .i32 0, .int .i32 0, .int .i32 0, .int .i32 0, .int .i32 0, .slice none 0 0, .bool false, .int .i64 0] 29)).heap.size := by simp
          have bdx : v1.heap.size ≤ v1.heap.size := Nat.le_refl _
          generalize v1.alloc (.cells #[.int .i64 0, .int .i32 0, .int .i32 0, .int .i32 0, .int .i32 0, .int .i32 0, .int .i32 0, .int .i32 0, .int .i32 0, .int .i32 0, .int .i32 0, .int .i32 0, .int .i32 0, .int .i32 0, .int .i32 0, .int .i32 0, .int .i32 0, .slice none 0 0, .bool false, .int .i64 0] 29) = v2 at hHeld hC x2 hz2 ⊢
          have y2 := y1.below hC y1.lt
          clear hC
          refine wpAnyH_ready (rs := [1]) (by kernel_rfl) (by simp) ?_
          refine AllReadyH.cons (o := { dst := some 38, op := Go.Op.call { callee := Go.Callee.value (Go.Operand.func 12), args := #[Go.Operand.tmp 37], argTypes := #[29] }, type := 29, pos := "law.go:79", after := #[{ on := 0, ground := Go.Ground.data }], guard := none }) rfl (fun K hK => ?_) AllReadyH.nil
          go_simp
          refine (copyS s dp s.d.length dcap _ hr rfl (hrd2.below hHeld (Nat.le_refl _)) hn0 (by omega)).mono ?_
          rintro e v3 ⟨px, cx, rfl, hC, hown⟩
          first | (refine hK.out _ _ ?_ (fun hHeld => ?_)) | (go_wp2_with fail; refine hK.out _ _ ?_ (fun hHeld => ?_))
          · exact hHeld.trans (hC.mono hHeld.size)
          clear hK K
          try simp only [Act.put, List.setIfInBounds_toArray, List.set_cons_zero, List.set_cons_succ]
          have mx3 := MemAt.of_owns hown
          have hz3 := hC.size
          have ox : ∀ k, (Value.slice px s.d.length cx).ownBlock = some k → v2.heap.size ≤ k ∧ k < v3.heap.size := fun k hk => ⟨by have := ownBase hown hk; omega, own_lt hown hk⟩
          clear hown
          have y3 := y2.below hC y2.lt
          have x3 := x2.below hC x2.lt
          clear hC
          refine wpAnyH_ready (rs := [3]) (by kernel_rfl) (by simp) ?_
          refine AllReadyH.cons (o := { dst := some 40, op := Go.Op.call { callee := Go.Callee.value (Go.Operand.func 12), args := #[Go.Operand.tmp 39], argTypes := #[29] }, type := 29, pos := "law.go:79", after := #[{ on := 2, ground := Go.Ground.data }, { on := 1, ground := Go.Ground.chain }], guard := none }) rfl (fun K hK => ?_) AllReadyH.nil
          go_simp
          refine (copyS s dp s.d.length dcap _ hr rfl (hrd2.below hHeld (Nat.le_refl _)) hn0 (by omega)).mono ?_
          rintro e v4 ⟨py, cy, rfl, hC, hown⟩
          first | (refine hK.out _ _ ?_ (fun hHeld => ?_)) | (go_wp2_with fail; refine hK.out _ _ ?_ (fun hHeld => ?_))
          · exact hHeld.trans (hC.mono hHeld.size)
          clear hK K
          try simp only [Act.put, List.setIfInBounds_toArray, List.set_cons_zero, List.set_cons_succ]
          have my4 := MemAt.of_owns hown
          have hz4 := hC.size
          have oy : ∀ k, (Value.slice py s.d.length cy).ownBlock = some k → v3.heap.size ≤ k ∧ k < v4.heap.size := fun k hk => ⟨by have := ownBase hown hk; omega, own_lt hown hk⟩
          clear hown
          have y4 := y3.below hC y3.lt
          have x4 := x3.below hC x3.lt
          have mx4 := mx3.below hC (Nat.le_refl _)
          clear hC
          refine wpAnyH_ready (rs := [6]) (by kernel_rfl) (by simp) ?_
          refine AllReadyH.cons (o := { dst := none, op := Go.Op.store 29 (Go.Operand.tmp 11) (Go.Operand.tmp 38), type := 0, pos := "law.go:79", after := #[{ on := 4, ground := Go.Ground.data }, { on := 1, ground := Go.Ground.data }, { on := 3, ground := Go.Ground.chain }, { on := 0, ground := Go.Ground.phase }, { on := 1, ground := Go.Ground.phase }, { on := 2, ground := Go.Ground.textOnly Go.Departure.lateStores }, { on := 3, ground := Go.Ground.phase }, { on := 4, ground := Go.Ground.phase }, { on := 5, ground := Go.Ground.phase }], guard := none }) rfl (fun K hK => ?_) AllReadyH.nil
          obtain ⟨tzx, hz⟩ := x4
          have hbx := lt_of_block hz
          have hby := y4.lt
          refine step_store_row rfl 29 (.tmp 11) (.tmp 38) rfl (v1.heap.size) _ rfl rfl tzx _ hz (by rw [List.size_toArray, stCells_len hr]; exact infoState) (by first | (rw [List.size_toArray, List.size_toArray, stCells_len hr]; rfl) | (rw [List.size_toArray, stCells_len hr]; rfl)) (stCells_one s _ _ _) ?_
          refine hK.out _ _ ?_ (fun hHeld => ?_)
          · exact bRow (by have := hHeld.size; omega) hHeld
          clear hK K
          try simp only [Act.put, List.setIfInBounds_toArray, List.set_cons_zero, List.set_cons_succ]
          have x5 : RowAt (v4.setRow (v1.heap.size) (stCells s (.slice px s.d.length cx)).toArray) (v1.heap.size) (stCells s (.slice px s.d.length cx)) := ⟨_, setRow_heap _ _ _ _ _ _ hz⟩
          have hz5 : v4.heap.size ≤ (v4.setRow (v1.heap.size) (stCells s (.slice px s.d.length cx)).toArray).heap.size := by rw [setRow_size]; exact Nat.le_refl _
          have y5 := y4.block (setRow_block v4 (v1.heap.size) (stCells s (.slice px s.d.length cx)).toArray (by omega))
          have mx5 := mx4.block (fun k hk => setRow_block v4 (v1.heap.size) (stCells s (.slice px s.d.length cx)).toArray (by have := ox k hk; omega))
          have my5 := my4.block (fun k hk => setRow_block v4 (v1.heap.size) (stCells s (.slice px s.d.length cx)).toArray (by have := oy k hk; omega))
          clear hz
          generalize v4.setRow (v1.heap.size) (stCells s (.slice px s.d.length cx)).toArray = v5 at hHeld hz5 y5 x5 mx5 my5 ⊢
          refine wpAnyH_ready (rs := [7]) (by kernel_rfl) (by simp) ?_
          refine AllReadyH.cons (o := { dst := none, op := Go.Op.store 29 (Go.Operand.tmp 12) (Go.Operand.tmp 40), type := 0, pos := "law.go:79", after := #[{ on := 5, ground := Go.Ground.data }, { on := 3, ground := Go.Ground.data }, { on := 6, ground := Go.Ground.chain }, { on := 0, ground := Go.Ground.phase }, { on := 1, ground := Go.Ground.phase }, { on := 2, ground := Go.Ground.phase }, { on := 3, ground := Go.Ground.phase }, { on := 4, ground := Go.Ground.phase }, { on := 5, ground := Go.Ground.phase }, { on := 6, ground := Go.Ground.phase }], guard := none }) rfl (fun K hK => ?_) AllReadyH.nil
          obtain ⟨tzy, hz⟩ := y5
          refine step_store_row rfl 29 (.tmp 12) (.tmp 40) rfl (v0.heap.size) _ rfl rfl tzy _ hz (by rw [List.size_toArray, stCells_len hr]; exact infoState) (by first | (rw [List.size_toArray, List.size_toArray, stCells_len hr]; rfl) | (rw [List.size_toArray, stCells_len hr]; rfl)) (stCells_one s _ _ _) ?_
          refine hK.out _ _ ?_ (fun hHeld => ?_)
          · exact bRow (by have := hHeld.size; omega) hHeld
          clear hK K
          try simp only [Act.put, List.setIfInBounds_toArray, List.set_cons_zero, List.set_cons_succ]
          have y6 : RowAt (v5.setRow (v0.heap.size) (stCells s (.slice py s.d.length cy)).toArray) (v0.heap.size) (stCells s (.slice py s.d.length cy)) := ⟨_, setRow_heap _ _ _ _ _ _ hz⟩
          have hz6 : v5.heap.size ≤ (v5.setRow (v0.heap.size) (stCells s (.slice py s.d.length cy)).toArray).heap.size := by rw [setRow_size]; exact Nat.le_refl _
          have x6 := x5.block (setRow_block v5 (v0.heap.size) (stCells s (.slice py s.d.length cy)).toArray (by omega))
          have mx6 := mx5.block (fun k hk => setRow_block v5 (v0.heap.size) (stCells s (.slice py s.d.length cy)).toArray (by have := ox k hk; omega))
          have my6 := my5.block (fun k hk => setRow_block v5 (v0.heap.size) (stCells s (.slice py s.d.length cy)).toArray (by have := oy k hk; omega))
          clear hz
          generalize v5.setRow (v0.heap.size) (stCells s (.slice py s.d.length cy)).toArray = v6 at hHeld hz6 y6 x6 mx6 my6 ⊢
          refine wpAnyH_done (by kernel_rfl) ?_ _
          exact ⟨rfl, v1.heap.size, v0.heap.size, px, cx, py, cy, by first | rfl | (simp only [put6, Act.put, List.setIfInBounds_toArray, List.set_cons_zero, List.set_cons_succ]), ⟨hHeld, ⟨hr, x6⟩, ⟨hr, y6⟩, mx6, my6, by omega, by omega, fun k hk => by have h1 := ox k hk; exact ⟨by omega, by omega, by omega, by omega, fun h => by have h2 := oy k h; omega⟩, fun k hk => by have h1 := oy k hk; exact ⟨by omega, by omega, by omega, by omega, fun h => by have h2 := ox k h; omega⟩, by omega⟩⟩
    intro bx by' px cx py cy w3 hTwo
    simp only [put6, Act.put, List.setIfInBounds_toArray, List.set_cons_zero, List.set_cons_succ]
    have hB03 : Below w.heap.size w w3 := hB2.trans (hTwo.bel.mono hz2')
    have HO3 := Lib.hid (owns_empty w3 w3.heap.size 21 w3.heap.size rfl (Nat.le_refl _))
    have HM3 := Lib.hid (Src.of_rd (hrm.below (hB03.trans ((bAlloc (o := .cells #[] 21) (Nat.le_refl _) (Below.refl w3.heap.size w3)).mono hB03.size)) (Nat.le_refl _)) hm0)
    have H1 := Lib.hid (show ∀ u ∈ sh.map (Value.int .i32), u.oneCell' = true from fun u hu => by obtain ⟨y, _, rfl⟩ := List.mem_map.1 hu; rfl)
    go_wp2_with (first | (at_builtin; refine wpList_append_new _ rfl (.tmp 41) (.tmp 42) 27 rfl w3.heap.size 21 i0 (.int .i32 0) 1 4 hxi hi0 hz0 hz1 hz2 rfl (by decide) _ rfl HO3.out _ sh.length (sh.map (.int .i32)) rfl HM3.out H1.out ?c1 ?c2 ?c3 ?_))
    case c1 => unfold maxLen; omega
    case c2 => omega
    case c3 => simp
    intro pa ca w4 hown4 hg4
    clear HO3 HM3
    have hB34 : Below w3.heap.size w3 w4 := Below.grown (bAlloc (Nat.le_refl _) (Below.refl _ _)) hg4 (by simp) (fun k hk => by simp [Value.ownBlock] at hk; omega)
    clear hg4
    have hB04 : Below w.heap.size w w4 := hB03.trans (hB34.mono hB03.size)
    have HO4 := Lib.hid (owns_empty w4 w4.heap.size 21 w4.heap.size rfl (Nat.le_refl _))
    have HM4 := Lib.hid (Src.of_rd (hrm.below (hB04.trans ((bAlloc (o := .cells #[] 21) (Nat.le_refl _) (Below.refl w4.heap.size w4)).mono hB04.size)) (Nat.le_refl _)) hm0)
    go_wp2_with (first | (at_builtin; refine wpList_append_new _ rfl (.tmp 44) (.tmp 45) 27 rfl w4.heap.size 21 i0 (.int .i32 0) 1 4 hxi hi0 hz0 hz1 hz2 rfl (by decide) _ rfl HO4.out _ sh.length (sh.map (.int .i32)) rfl HM4.out H1.out ?d1 ?d2 ?d3 ?_))
    case d1 => unfold maxLen; omega
    case d2 => omega
    case d3 => simp
    intro pb cb w5 hown5 hg5
    clear HO4 HM4
    have hB45 : Below w4.heap.size w4 w5 := Below.grown (bAlloc (Nat.le_refl _) (Below.refl _ _)) hg5 (by simp) (fun k hk => by simp [Value.ownBlock] at hk; omega)
    clear hg5
    obtain ⟨hA, hD, hdis, hB25⟩ := both_of hTwo hB34 hown4 hB45 hown5 R32.out D32.out M32.out
    clear hTwo hB34 hown4 hB45 hown5 hB03 hB04 H1
    have HDI := Lib.hid hdis
    clear hdis
    clear hfd
    have hI5 := hI2.below hB25 hI2.lt
    have hlI5 := hI5.lt
    have HB5 : Below w.heap.size w w5 := hB2.trans (hB25.mono hz2')
    have hz5 := hB25.size
    have hmf : ∀ (fn : Fn) (first cap : Array Value) (w : World), (Instr.makeFunc fn first cap).run Tryd.prog w = .ok (.func fn first cap) w := fun _ _ _ _ => rfl
    have q0 := hI5.cell 0
    have q1 := hI5.cell 1
    have q2 := hI5.cell 2
    have q3 := hI5.cell 3
    simp only [List.getElem?_cons_zero, List.getElem?_cons_succ] at q0 q1 q2 q3
    go_wp2_with fail
    generalize hw6 : (w5.alloc (.cells #[.int .i32 0] 21)).alloc (.cells #[.int .i32 0] 21) = w6
    have hB56 : Below w5.heap.size w5 w6 := by rw [← hw6]; exact bAlloc (by simp) (bAlloc (Nat.le_refl _) (Below.refl _ _))
    have hn6 : RowAt w6 w5.heap.size [.int .i32 0] := ⟨21, by rw [← hw6, Below.heap_alloc _ _ _ (by simp)]; exact heap_alloc_new _ _⟩
    have hm6 : RowAt w6 (w5.heap.size + 1) [.int .i32 0] := ⟨21, by rw [← hw6]; exact heap_at1 _ _ _⟩
    have hs6 := hm6.lt
    clear hw6
    have hB26 : Below w2.heap.size w2 w6 := hB25.trans (hB56.mono hB25.size)
    have HB6 : Below w.heap.size w w6 := hB2.trans (hB26.mono hz2')
    have hA6 := hA.below hB56
    have hD6 := hD.below hB56
    have HOA := Lib.hid hA.own
    have HOD := Lib.hid hD.own
    clear hA hD q0 q1 q2 q3 hI5
    have R6 := Lib.hid (run_named (σ := Int) (.agg #[.slice cp im.code.length ccap, .slice ep im.ents.length ecap, .int .i64 im.sh, .int .i64 im.lk]) im t bx (.slice px s.d.length cx) (.slice pa sh.length ca) (.func (.func 20) #[] #[.pointer (some ⟨w5.heap.size, 0, none⟩)]) cntI cntI (fun p W => RowAt W (w5.heap.size) [.int .i32 p]) (fun k => k = w5.heap.size) (fun p i W => W.setCell ⟨w5.heap.size, 0, none⟩ (.int .i32 (cntI p i))) fuel ⟨s, sh, 0, []⟩ c1 n1 e1 w2.heap.size w6 (by omega) (hT.below HB6 hG.2) (hO.below HB6 hG.1) (fun w' h => him2.below (hB26.trans h) (Nat.le_refl _)) ⟨by omega, by omega⟩ hB26.size (fun k h => by subst h; exact ⟨by omega, by omega⟩) hA6 (port_count _ _ _ 20 w5.heap.size (enters_of Tryd.func20 (by kernel_rfl) rfl) (fun h => by have := (HOA.out _ h).2; omega) (fun W p i h => cnt1 _ W p i h)) hn6 rfl hr1.out)
    refine R6.out.mono ?_
    rintro e w7 ⟨op1, oc1, rfl, hown1, hK7, hA7, -⟩
    have hD7 := hD6.kept hK7 (fun k h h2 => h.elim (fun h => HDI.out k h h2) (fun h => by subst h; have := (HOD.out _ h2).2; omega))
    have hB67 : Below w2.heap.size w6 w7 := hK7.below hB26.size (fun k h => h.elim (fun h => (HOA.out k h).1) (fun h => by subst h; omega))
    have hm7 : RowAt w7 (w5.heap.size + 1) [.int .i32 0] := hm6.block (hK7.block _ hm6.lt (fun h => h.elim (fun h => by have := (HOA.out _ h).2; omega) (fun h => by omega)))
    have hB27 : Below w2.heap.size w2 w7 := hB26.trans hB67
    have HB7 : Below w.heap.size w w7 := hB2.trans (hB27.mono hz2')
    have hI7 := hI2.below hB27 hI2.lt
    have hlI7 := hI7.lt
    have hz7 := hK7.size
    have FI := Lib.hid (fits_all (.agg #[.slice cp im.code.length ccap, .slice ep im.ents.length ecap, .int .i64 im.sh, .int .i64 im.lk]) im t by' s (.slice py s.d.length cy) w7 (him2.below hB27 (Nat.le_refl _)) hD7.st ⟨_, _, rfl⟩)
    clear hK7 hB67 hm6 hn6 hA6 hD6 R6 hB56
    have q0 := hI7.cell 0
    have q1 := hI7.cell 1
    have q2 := hI7.cell 2
    have q3 := hI7.cell 3
    simp only [List.getElem?_cons_zero, List.getElem?_cons_succ] at q0 q1 q2 q3
    go_wp2_with fail
    refine FI.out.mono ?_
    rintro e w8 ⟨rfl, hb8⟩
    have hA8 := hA7.below hb8
    have hD8 := hD7.below hb8
    have hm8 := hm7.below hb8 hm7.lt
    have hO8 := own_below hown1 hb8
    have hB28 : Below w2.heap.size w2 w8 := hB27.trans (hb8.mono hB27.size)
    have HB8 : Below w.heap.size w w8 := hB2.trans (hB28.mono hz2')
    have hI8 := hI2.below hB28 hI2.lt
    have hlI8 := hI8.lt
    have hz8 := hb8.size
    clear hb8 hA7 hD7 hm7 hown1 FI q0 q1 q2 q3 hI7
    cases hfit : fitP im t s
    · obtain ⟨rfl, rfl, rfl⟩ : c1 = ⟨s, sh, 0, []⟩ ∧ n1 = 0 ∧ e1 = 14 := by
        have h := hr1.out
        simp only [runQ, hfit, Bool.false_eq_true, if_false, Prod.mk.injEq] at h
        exact ⟨h.1.symm, h.2.1.symm, h.2.2.symm⟩
      have HOe := Lib.hid hO8
      have hr9 := hr
      have HIx : Hid ((Tryd.prog.info? 29).map (·.size) = some (stCells s (.slice px s.d.length cx)).length) := (show _ = _ by rw [stCells_len hr]; exact infoState)
      have HIy : Hid ((Tryd.prog.info? 29).map (·.size) = some (stCells s (.slice py s.d.length cy)).length) := (show _ = _ by rw [stCells_len hr]; exact infoState)
      have HX7 := Lib.hid hA8.st.2.range
      have HY7 := Lib.hid hD8.st.2.range
      have HE := Lib.hid (equalS s (.slice px s.d.length cx) (.slice py s.d.length cy) w8 hr hA8.d.rd hD8.d.rd (by omega))
      have HWd := Lib.hid (fun w' (hb : Below w8.heap.size w8 w') => words_any (.slice pa sh.length ca) (.slice pb sh.length cb) sh sh w' (hA8.m.rd.below hb (Nat.le_refl _)) (hD8.m.rd.below hb (Nat.le_refl _)) (by omega))
      clear hA8 hD8 hO8
      go_wp2_with fail
      refine wp_loop_rounds 1 ?_
      rw [rounds_succ]
      go_wp2_with (first
        | (refine BigFrame.wpList_want rfl (fun K hK => wp_load_mid 29 (.tmp 11) rfl bx 0 rfl (stCells s (.slice px s.d.length cx)) _ HX7.out Tryd.underlying29 rfl HIx.out (hK _ _ ?_)))
        | (refine BigFrame.wpList_want rfl (fun K hK => wp_load_mid 29 (.tmp 12) rfl by' 0 rfl (stCells s (.slice py s.d.length cy)) _ HY7.out Tryd.underlying29 rfl HIy.out (hK _ _ ?_))))
      refine HE.out.mono ?_
      rintro e w11 ⟨rfl, hb11⟩
      clear HX7 HY7 HE HIx HIy
      go_wp2_with fail
      have hwd := HWd.out w11 hb11
      simp only [decide_true] at hwd
      refine hwd.mono ?_
      rintro e w12 ⟨rfl, hb12⟩
      clear hwd HWd
      have HB12 : Below w.heap.size w w12 := bThen hb12 (by have := hb11.size; have := HB8.size; omega) (bThen hb11 HB8.size HB8)
      clear hb11 hb12
      go_wp2_with fail
      refine wp_loop_rounds 1 ?_
      rw [rounds_succ]
      go_wp2_with fail
      go_ret
      exact ⟨rfl, HB12⟩
    have hq1 : runP im t cntI cntI fuel.toNat ⟨s, sh, 0, []⟩ = (c1, n1, e1) := by
      have h := hr1.out
      simpa only [runQ, hfit, if_true] using h
    have HQ1 := Lib.hid hq1
    have HFB : Hid (∀ j, OwnF by' (.slice py s.d.length cy) (.slice pb sh.length cb) j ∨ j = (w5.heap.size + 1) → j < w8.heap.size) := (show ∀ j, OwnF by' (.slice py s.d.length cy) (.slice pb sh.length cb) j ∨ j = (w5.heap.size + 1) → j < w8.heap.size from fun j h => h.elim (fun h => by have := (HOD.out j h).2; omega) (fun h => by omega))
    have HFL : Hid (∀ j, OwnF by' (.slice py s.d.length cy) (.slice pb sh.length cb) j ∨ j = (w5.heap.size + 1) → w2.heap.size ≤ j) := (show ∀ j, OwnF by' (.slice py s.d.length cy) (.slice pb sh.length cb) j ∨ j = (w5.heap.size + 1) → w2.heap.size ≤ j from fun j h => h.elim (fun h => (HOD.out j h).1) (fun h => by omega))
    have hport := port_count by' (.slice py s.d.length cy) (.slice pb sh.length cb) 22 (w5.heap.size + 1) (enters_of Tryd.func22 (by kernel_rfl) rfl) (fun h => by have := (HOD.out _ h).2; omega) (fun W p i h => cnt2 _ W p i h)
    have HP0 := Lib.hid hport
    have HL0 : Hid (LoopInv w2.heap.size w8 im t by' (.slice py s.d.length cy) (.slice pb sh.length cb) cntI cntI (fun p W => RowAt W ((w5.heap.size + 1)) [.int .i32 p]) (fun k => k = (w5.heap.size + 1)) fuel.toNat ⟨s, sh, 0, []⟩ ⟨s, sh, 0, []⟩ 0 (.slice none 0 0) w8) := (show LoopInv w2.heap.size w8 im t by' (.slice py s.d.length cy) (.slice pb sh.length cb) cntI cntI (fun p W => RowAt W ((w5.heap.size + 1)) [.int .i32 p]) (fun k => k = (w5.heap.size + 1)) fuel.toNat ⟨s, sh, 0, []⟩ ⟨s, sh, 0, []⟩ 0 (.slice none 0 0) w8 from ⟨Nat.zero_le _, by rw [Nat.sub_zero, Nat.add_zero], World.ownsRow_nil _ _ _ _, Nat.le_refl _, Kept.refl _ _, hD8, hm8⟩)
    have HA8 := Lib.hid hA8
    have HO8 := Lib.hid hO8
    have HI8 := Lib.hid hI8
    have HOA8 := HOA
    clear hport hq1 hD8 hm8 hA8 hO8 hI8
    go_upto_block 0 with fail
    go_cut [20, 21, 22, 24] (fun sv wv cv gv wx => RunsOut w2.heap.size by' (.slice py s.d.length cy) (.slice pb sh.length cb) (w5.heap.size + 1) w8 c1 n1 e1 sv wv cv wx)
    case first =>
      go_wp2_with fail
      go_loopg [20, 21, 22, 23, 24] fuel.toNat (fun g sv wv cv fv gv wr => ∃ (c : Cf Int) (k : Nat), wv = .int .i64 0 ∧ cv = .int .i64 k ∧ g = fuel.toNat - k ∧ LoopInv w2.heap.size w8 im t by' (.slice py s.d.length cy) (.slice pb sh.length cb) cntI cntI (fun p W => RowAt W ((w5.heap.size + 1)) [.int .i32 p]) (fun k => k = (w5.heap.size + 1)) fuel.toNat ⟨s, sh, 0, []⟩ c k sv wr)
      case atStart => exact ⟨_, 0, rfl, rfl, rfl, HL0.out⟩
      case round =>
        obtain ⟨c, k, rfl, rfl, rfl, hr'⟩ := hrel
        have hL := hr'.side.st.halted
        by_cases hal : c.s.halted = true
        · rw [hal] at hL
          go_wp2_with fail
          go_meet
          exact runs_out hr' HQ1.out (runP_halted hal)
        have hal' : c.s.halted = false := by simpa using hal
        rw [hal'] at hL
        clear hal
        have hle := hr'.le
        by_cases hk : (k : Int) < fuel
        · have hkd : decide (fuel ≤ (k : Int)) = false := by simpa using hk
          have hbr := hr'.kept.below hB28.size HFL.out
          have hIr := HI8.out.below hbr (by omega)
          have hbr2 : Below w2.heap.size w2 wr := hB28.trans hbr
          have hlIr := hIr.lt
          have HBr : Below w.heap.size w wr := hB2.trans (hbr2.mono hz2')
          have q0 := hIr.cell 0
          have q1 := hIr.cell 1
          have q2 := hIr.cell 2
          have q3 := hIr.cell 3
          simp only [List.getElem?_cons_zero, List.getElem?_cons_succ] at q0 q1 q2 q3
          have hstep := step_all (.agg #[.slice cp im.code.length ccap, .slice ep im.ents.length ecap, .int .i64 im.sh, .int .i64 im.lk]) im t by' c.s (.slice py s.d.length cy) (.slice pb sh.length cb) (.func (.func 22) #[] #[.pointer (some ⟨(w5.heap.size + 1), 0, none⟩)]) c.mem (cntI c.p) (fun i W => W.setCell ⟨(w5.heap.size + 1), 0, none⟩ (.int .i32 (cntI c.p i))) wr (hr'.set (hT.below HBr hG.2) (hO.below HBr hG.1) (him2.below hbr2 (Nat.le_refl _))) (fun i => HP0.out.port _ _ i hr'.pr)
          have HK := Lib.hid hk
          have hszr : w2.heap.size ≤ wr.heap.size := hbr2.size
          have hlW : w8.heap.size ≤ wr.heap.size := hr'.kept.size
          clear hk hIr hbr hbr2 HBr
          rcases hs : stepP im t c.s c.mem (cntI c.p) with er | ⟨f, s', m'⟩
          · rw [hs] at hstep
            have her : (er != 0) = true := by simpa using stepP_err hs
            have hstep' : Calls Tryd.prog 13 _ _ (fun e w' => e = .returned (.tuple #[.agg #[.int .u8 0, .int .i64 0, .int .i64 0, .int .i64 0, .int .i64 0, .int .i64 0, .bool false, .int .i64 0, .int .i32 0], .int .i64 er]) ∧ Below _ _ w') := hstep
            clear hstep
            have hrun := runP_err (nxt := cntI) (fuel := fuel.toNat - k - 1) hal' (show cstep im t cntI cntI c = .error er by simp [cstep, hs])
            have HR := Lib.hid hrun
            clear hrun hs
            go_wp2_with fail
            refine hstep'.mono ?_
            rintro e w9 ⟨rfl, hb9⟩
            clear hstep'
            have hr2 := hr'.later HP0.out hb9
            clear hb9 hr' q0 q1 q2 q3 hL
            have HR2 := Lib.hid (hr2.later HP0.out (bAlloc (o := .cells #[.int .u8 0, .int .i64 0, .int .i64 0, .int .i64 0, .int .i64 0, .int .i64 0, .bool false, .int .i64 0, .int .i32 0] 36) (Nat.le_refl _) (Below.refl _ _)))
            clear hr2
            go_wp2_with fail
            go_meet
            refine runs_out HR2.out HQ1.out ?_
            have hk := HK.out
            have e1 : fuel.toNat - k = fuel.toNat - k - 1 + 1 := by omega
            rw [e1]
            exact HR.out
          · rw [hs] at hstep
            have hstep' : Calls Tryd.prog 13 _ _ (fun e w' => e = .returned (.tuple #[.agg #[.int .u8 f.n, .int .i64 f.a, .int .i64 f.b, .int .i64 f.c, .int .i64 f.i, .int .i64 f.pc, .bool f.tk, .int .i64 f.ad, .int .i32 f.vl], .int .i64 0]) ∧ (Kept (OwnF by' (.slice py s.d.length cy) (.slice pb sh.length cb)) (if f.n = 26 then World.setCell _ ⟨(w5.heap.size + 1), 0, none⟩ (.int .i32 (cntI c.p f.i)) else _) w' ∧ StAt w' by' s' (.slice py s.d.length cy) ∧ MemAt w' (.slice py s.d.length cy) s'.d ∧ MemAt w' (.slice pb sh.length cb) m')) := hstep
            clear hstep
            have HS := Lib.hid hs
            clear hs
            by_cases h27 : f.n = 27
            · have hb27 : ((f.n : Int) == 27) = true := by simp [h27]
              go_wp2_with fail
              refine hstep'.mono ?_
              rintro e w9 ⟨rfl, h2⟩
              clear hstep' q0 q1 q2 q3 hL
              have hown := hr'.ownNext HFB.out HP0.out h2.1
              have hsz2 : w8.heap.size ≤ w9.heap.size := by have a1 := h2.1.size; have a2 := sizePW HP0.out c.p f.i wr f.n; omega
              have hlen := hr'.outs
              go_wp2_with (first | (at_builtin; refine wpList_append_own _ rfl _ _ 50 rfl w8.heap.size 55 k0 (.agg #[.int .i64 0, .int .i32 0]) 2 16 hxo hk0 hkz0 hkz1 hkz2 rfl (by decide) _ _ _ rfl ((hown.alloc _).alloc _) ⟨w9.heap.size + 1, 0, none⟩ 1 1 [.int .i64 f.i, .int .i32 f.vl] rfl rfl ?c1 ?c2 ?c3 ?c4 ?c5 ?_))
              case c1 =>
                intro j u hj
                match j, hj with
                | 0, hj => simp at hj; subst hj; simp [Addr.add, go_sem]
                | 1, hj => simp at hj; subst hj; simp [Addr.add, go_sem]
              case c2 => intro u hu; simp at hu; rcases hu with rfl | rfl <;> rfl
              case c3 => have := HK.out; unfold maxLen; omega
              case c4 => have := HK.out; omega
              case c5 => simp; omega
              intro v' w10 hown' hgrow _
              have HN := Lib.hid (hr'.next (ov' := v') HFB.out HP0.out HS.out hal' (by have := HK.out; omega) h2.1 h2.2.1 h2.2.2.1 h2.2.2.2 (w2 := w10)
                (fun j hj hne => (hgrow.block j (by simp; omega) (fun e => hne j e.symm rfl)).trans ((Below.heap_alloc _ _ _ (by simp; omega)).trans (Below.heap_alloc _ _ _ hj))) hgrow.os hgrow.tape hgrow.output (by have := hgrow.size; simp at this; omega)
                (by rw [if_pos h27]; simpa [outCells, List.flatMap_append] using hown'))
              clear h2 HS hr' hown hown' hgrow
              go_wp2_with fail
              go_roundg (fuel.toNat - (k + 1))
              case measure => have := HK.out; omega
              case rel =>
                obtain ⟨c', hc'⟩ := HN.out
                exact ⟨c', k + 1, rfl, by go_num, rfl, hc'⟩
            · have hb27 : ((f.n : Int) == 27) = false := by simp; omega
              go_wp2_with fail
              refine hstep'.mono ?_
              rintro e w9 ⟨rfl, h2⟩
              clear hstep' q0 q1 q2 q3 hL
              have HW := Lib.hid ((hr'.ownNext HFB.out HP0.out h2.1).alloc (.cells #[.int .u8 f.n, .int .i64 f.a, .int .i64 f.b, .int .i64 f.c, .int .i64 f.i, .int .i64 f.pc, .bool f.tk, .int .i64 f.ad, .int .i32 f.vl] 36))
              have HN2 := Lib.hid (hr'.next (ov' := _) HFB.out HP0.out HS.out hal' (by have := HK.out; omega) h2.1 h2.2.1 h2.2.2.1 h2.2.2.2 (w2 := w9.alloc (.cells #[.int .u8 f.n, .int .i64 f.a, .int .i64 f.b, .int .i64 f.c, .int .i64 f.i, .int .i64 f.pc, .bool f.tk, .int .i64 f.ad, .int .i32 f.vl] 36))
                (fun j hj _ => Below.heap_alloc _ _ _ hj) rfl rfl rfl (by simp) (by rw [if_neg h27]; exact HW.out))
              clear h2 HS hr' HW
              go_wp2_with fail
              go_roundg (fuel.toNat - (k + 1))
              case measure => have := HK.out; omega
              case rel =>
                obtain ⟨c', hc'⟩ := HN2.out
                exact ⟨c', k + 1, rfl, by go_num, rfl, hc'⟩
        · have hkd : decide (fuel ≤ (k : Int)) = true := by simp; omega
          go_wp2_with fail
          go_meet
          refine runs_out hr' HQ1.out ?_
          have e0 : fuel.toNat - k = 0 := by omega
          rw [e0]
          exact runP_fuel hal'
    case rest =>
      obtain ⟨rfl, rfl, ovp, ovc, rfl, hown9, hD9, hK9⟩ := hcut
      have hA9 := HA8.out.kept hK9 (fun k h h2 => h.elim (fun h => HDI.out k h2 h) (fun h => by subst h; have := (HOA.out _ h2).2; omega))
      have hO9 := own_kept HO8.out hK9 (fun k h => h.elim (fun h => by have := (HOD.out k h).2; omega) (fun h => by omega)) (Nat.le_refl _)
      have HB9 : Below w.heap.size w wc := hB2.trans ((hB28.trans (hK9.below hB28.size HFL.out)).mono hz2')
      have hr9 := hA9.st.1
      have HIx : Hid ((Tryd.prog.info? 29).map (·.size) = some (stCells c1.s (.slice px s.d.length cx)).length) := (show _ = _ by rw [stCells_len hr9]; exact infoState)
      have HIy : Hid ((Tryd.prog.info? 29).map (·.size) = some (stCells c1.s (.slice py s.d.length cy)).length) := (show _ = _ by rw [stCells_len hr9]; exact infoState)
      have HX7 := Lib.hid hA9.st.2.range
      have HY7 := Lib.hid hD9.st.2.range
      have HE := Lib.hid (equalS c1.s (.slice px s.d.length cx) (.slice py s.d.length cy) wc hr9 hA9.d.rd hD9.d.rd (by have := HDL.out; omega))
      have HWd := Lib.hid (fun w' (hb : Below wc.heap.size wc w') => words_any (.slice pa sh.length ca) (.slice pb sh.length cb) c1.mem c1.mem w' (hA9.m.rd.below hb (Nat.le_refl _)) (hD9.m.rd.below hb (Nat.le_refl _)) (by have := HML.out; omega))
      have HP := Lib.hid hO9
      have HQ := Lib.hid hown9
      clear hA9 hD9 hO9 hown9 hK9 HA8 HO8 HL0 HP0 HFB HFL HOA HOD HDI HQ1 hr9
      go_wp2_with (first
        | (refine BigFrame.wpList_want rfl (fun K hK => wp_load_mid 29 (.tmp 11) rfl bx 0 rfl (stCells c1.s (.slice px s.d.length cx)) _ HX7.out Tryd.underlying29 rfl HIx.out (hK _ _ ?_)))
        | (refine BigFrame.wpList_want rfl (fun K hK => wp_load_mid 29 (.tmp 12) rfl by' 0 rfl (stCells c1.s (.slice py s.d.length cy)) _ HY7.out Tryd.underlying29 rfl HIy.out (hK _ _ ?_))))
      refine HE.out.mono ?_
      rintro e w11 ⟨rfl, hb11⟩
      clear HX7 HY7 HE HIx HIy
      go_wp2_with fail
      have hwd := HWd.out w11 hb11
      simp only [decide_true] at hwd
      refine hwd.mono ?_
      rintro e w12 ⟨rfl, hb12⟩
      clear hwd HWd
      have hb10 : Below wc.heap.size wc w12 := bThen hb12 hb11.size hb11
      have HP12 := Lib.hid (own_below HP.out hb10)
      have HQ12 := Lib.hid (own_below HQ.out hb10)
      have HB12 : Below w.heap.size w w12 := HB9.trans (hb10.mono HB9.size)
      clear HP HQ hb11 hb12 hb10
      go_wp2_with fail
      go_loopw [25] (fun sv wr => ∃ (k n : Nat), sv = .int .i64 k ∧ k ≤ c1.out.length ∧ wr = w12.drewN n) (fun sv _ => c1.out.length - (intOf sv).toNat)
      case atStart => exact ⟨0, 0, rfl, Nat.zero_le _, rfl⟩
      case round =>
        obtain ⟨k, n, rfl, hk, rfl⟩ := hrel
        by_cases hlt : k < c1.out.length
        · obtain ⟨g1, rfl, gs1, gc1, gd1⟩ := out_cell HP12.out k hlt
          obtain ⟨g2, rfl, gs2, gc2, gd2⟩ := out_cell HQ12.out k hlt
          generalize (c1.out.getD k (0, 0)).1 = va at gc1 gc2
          generalize (c1.out.getD k (0, 0)).2 = vb at gd1 gd2
          have hltI : (k : Int) < (c1.out.length : Int) := by omega
          have hneq : ∀ w, (binOp .neq 55 (.agg #[.int .i64 va, .int .i32 vb]) (.agg #[.int .i64 va, .int .i32 vb])).run Tryd.prog w = .ok (.bool false) w := fun w => neq_out va vb w
          go_wp2_with fail
          go_quiet (fail)
          go_wp2_with fail
          go_roundw
          case rel => exact ⟨k + 1, n + nq, by go_num, by omega, by simp [World.drewN_drewN]⟩
          case measure => simp [intOf]; omega
        · go_wp2_with fail
          go_ret
          exact ⟨rfl, bDrewN HB12⟩

end Go.Proofs.YtlmipchjmgnlfaaDoor
