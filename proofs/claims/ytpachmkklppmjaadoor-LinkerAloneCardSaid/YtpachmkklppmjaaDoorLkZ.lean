/- The law LinkerAlone. -/
import Derived.Test.YtpachmkklppmjaaDoorLkX
import Derived.Deep.RegionHeld
import Derived.Deep.DeepCutAuto
set_option linter.unusedVariables false
set_option linter.unusedSimpArgs false
namespace Go.Proofs.YtpachmkklppmjaaDoor
open Go.RowKit Go.Maps Go.WideMaps

theorem one_obs {W : World} {b : Nat} {ob : LOb} {cv rv : Value} (h : RowC W b [.string ob.nm, cv, .int .i64 ob.dat, rv]) (hg : GsRd W cv ob.code) (hr : RfRd W rv ob.refs) : ObsAt W (.slice (some ⟨b, 0, none⟩) 1 1) [ob] := ⟨_, _, rfl, fun k hk => by
  obtain rfl : k = 0 := by simpa using hk
  exact ⟨b, 0, cv, rv, rfl, h.lt, ⟨h.at 0 rfl, h.at 1 rfl, h.at 2 rfl, h.at 3 rfl⟩, hg, hr⟩⟩
theorem gr_facts {S : List LSh} {l : List LOb} (h : grB S l = false) : S.length ≤ 10 ∧ l.length ≤ 10 ∧ (∀ k, k < l.length → (l.getD k default).refs.length ≤ 100) ∧ ∀ k, k < l.length → (l.getD k default).code.length ≤ 5000 := by
  unfold grB at h
  rw [Bool.or_eq_false_iff, Bool.or_eq_false_iff, List.any_eq_false] at h
  obtain ⟨h1, h2, h3⟩ := h
  have hx : ∀ k, k < l.length → (l.getD k default).refs.length ≤ 100 ∧ (l.getD k default).code.length ≤ 5000 := fun k hk => by
    have := h1 _ (mem_at2 l hk)
    simp only [Bool.or_eq_true, decide_eq_true_eq, not_or] at this
    omega
  simp only [decide_eq_false_iff_not] at h2 h3
  exact ⟨by omega, by omega, fun k hk => (hx k hk).1, fun k hk => (hx k hk).2⟩
theorem fit_one {S : List LSh} {l : List LOb} (h : LFit S l) {k : Nat} (hk : k < l.length) : LFit S [l.getD k default] := ⟨h.s, fun j hj => by
  obtain rfl : j = 0 := by simpa using hj
  exact h.o k hk, fun j hj => by
  obtain rfl : j = 0 := by simpa using hj
  exact h.r k hk⟩

theorem rd_src {W : World} {mp : Option Addr} {mc : Nat} {mem : List Int} (h : RdAt W (.slice mp mem.length mc) mem) (n : Nat) : 0 < ((mem.take n).map (Value.int .i32)).length → ∃ ad, mp = some ad ∧ ∀ j v, ((mem.take n).map (Value.int .i32))[j]? = some v → W.cell? (ad.add j) = some v := fun hpos => by
  obtain ⟨p, cap, e, hc⟩ := h
  injection e with e1 _ _
  subst e1
  rw [List.length_map, List.length_take] at hpos
  obtain ⟨m, off, rfl, hm, h0⟩ := hc 0 (by omega)
  refine ⟨_, rfl, fun j v hj => ?_⟩
  obtain ⟨hj1, hj2⟩ := List.getElem?_eq_some_iff.1 hj
  have hj3 : j < mem.length := by rw [List.length_map, List.length_take] at hj1; omega
  obtain ⟨m', off', e, _, hx⟩ := hc j hj3
  cases e
  have e2 : (⟨m, off, none⟩ : Addr).add j = ⟨m, off + j, none⟩ := by unfold Addr.add; split <;> simp_all
  rw [e2, hx, ← hj2, List.getElem_map, List.getElem_take, List.getD_eq_getElem?_getD, List.getElem?_eq_getElem hj3]
  rfl
theorem mem_keep {W W' : World} {v : Value} {xs : List Int} (h : MemAt W v xs) (hb : ∀ m, v.ownBlock = some m → m < W.heap.size → W'.heap[m]? = W.heap[m]?) : MemAt W' v xs := by
  obtain ⟨p, cap, rfl, h⟩ := h
  refine ⟨p, cap, rfl, ?_⟩
  rcases h with h | ⟨m, pre, post, rfl, h⟩
  · exact .inl h
  · exact .inr ⟨m, pre, post, rfl, h.block (hb m rfl h.lt)⟩

set_option maxHeartbeats 12800000 in
set_option maxRecDepth 100000 in
theorem alone_law (sv lv mv : Value) (tk : Nat) (S : List LSh) (l : List LOb) (mem : List Int) (w : World) (hT : Tab w) (hO : OTab w) (hG : 0 < w.heap.size ∧ 1 < w.heap.size) (hS : ShAt w sv S) (hL : ObsAt w lv l) (hM : RdAt w mv mem) (hF : LFit S l) (hll : l.length ≤ 9223372036854775807) (h32 : ∀ j, W32 (mem.getD j 0)) (htk : tk ≤ 255) :
    Calls Tryd.prog 3 #[sv, lv, .int .u8 (tk : Int), mv] w fun e w' => e = .returned (.bool true) ∧ Below w.heap.size w w' := by
  obtain ⟨sp, sc, rfl⟩ := hS.shape
  obtain ⟨lp, lc, rfl⟩ := hL.shape
  obtain ⟨mp, mc, rfl⟩ : ∃ p c, mv = .slice p mem.length c := by
    obtain ⟨p, c, e, _⟩ := hM
    exact ⟨p, c, e⟩
  have HTB := Lib.hid hT
  have HOT := Lib.hid hO
  have HGB := Lib.hid hG
  have HS := Lib.hid hS
  have HL := Lib.hid hL
  have HM := Lib.hid hM
  have HF := Lib.hid hF
  have HML := Lib.hid hll
  have H32 := Lib.hid h32
  clear hT hO hG hS hL hM hF hll h32
  go_enter Tryd.func3, Tryd.ntmps3
  go_wp2_with fail
  refine (awake22 w HTB.out).mono ?_
  rintro e w1 ⟨rfl, hb1⟩
  have HB1 := Lib.hid hb1
  clear hb1
  have HGR := Lib.hid (great_any _ _ S l w1 (HS.out.below HB1.out (Nat.le_refl _)) (HL.out.below HB1.out (Nat.le_refl _)) HML.out)
  go_wp2_with fail
  refine HGR.out.mono ?_
  rintro e w2 ⟨rfl, hb2⟩
  have HB2 := Lib.hid (HB1.out.trans (hb2.mono HB1.out.size))
  clear hb2 HGR HB1
  cases hgr : grB S l with
  | true =>
    go_wp2_with fail
    go_ret
    exact ⟨rfl, HB2.out⟩
  | false =>
    obtain ⟨hg1, hg2, hg3, hg4⟩ := gr_facts hgr
    clear hgr
    have HG3 := Lib.hid hg3
    have HG4 := Lib.hid hg4
    have HG1 := Lib.hid hg1
    have HG2 := Lib.hid hg2
    clear hg1 hg2 hg3 hg4
    by_cases h0 : l.length = 0
    · have h0I : (l.length : Int) = 0 := by omega
      go_wp2_with fail
      go_ret
      exact ⟨rfl, HB2.out⟩
    · have h0I : ¬ (l.length : Int) = 0 := by omega
      obtain ⟨k, hk⟩ : ∃ k, k = tk % l.length := ⟨_, rfl⟩
      have hkl : k < l.length := by rw [hk]; exact Nat.mod_lt _ (by omega)
      have hkI : (k : Int) < l.length := by omega
      have hrem : (tk : Int) % (l.length : Int) = (k : Int) := by rw [hk]; simp
      have hrem2 : (tk : Int).tmod (l.length : Int) = (k : Int) := by rw [hk]; rfl
      have hwt : wrap64 (tk : Int) = (tk : Int) := by unfold wrap64; omega
      clear hk hrem htk
      have HL1 := Lib.hid (link_any _ _ S l w2 (HTB.out.of_below HB2.out) (HS.out.below HB2.out (Nat.le_refl _)) (HL.out.below HB2.out (Nat.le_refl _)) HF.out HG1.out HG2.out HG3.out HG4.out)
      go_upto_region 6 with fail
      clear hwt hrem2
      go_wp2_with fail
      refine HL1.out.mono ?_
      rintro e w3 ⟨hb3, h3⟩
      have HB3 := Lib.hid (HB2.out.trans (hb3.mono HB2.out.size))
      clear hb3 HL1
      obtain ⟨lp', lc', e', hs⟩ := HL.out
      cases e'
      obtain ⟨m, off, cv, rv, rfl, hm, ⟨z0, z1, z2, z3⟩, hgs, hrf⟩ := hs k hkl
      have HOB := Lib.hid (fun (W : World) (b : Nat) (hb : Below w.heap.size w W) (h : RowC W b [.string (l.getD k default).nm, cv, .int .i64 (l.getD k default).dat, rv]) => one_obs h (hgs.below hb (Nat.le_refl _)) (hrf.below hb (Nat.le_refl _)))
      have HL2 := Lib.hid (fun (W : World) (b : Nat) (hb : Below w.heap.size w W) (h : RowC W b [.string (l.getD k default).nm, cv, .int .i64 (l.getD k default).dat, rv]) => link_any _ _ S [l.getD k default] W (HTB.out.of_below hb) (HS.out.below hb (Nat.le_refl _)) (HOB.out W b hb h) (fit_one HF.out hkl) HG1.out (by simp) (fun j hj => by
        obtain rfl : j = 0 := by simpa using hj
        exact HG3.out k hkl) (fun j hj => by
        obtain rfl : j = 0 := by simpa using hj
        exact HG4.out k hkl))
      have HAL := Lib.hid (fun (im : Im) (h : linkR S l = some im) => alone_rn h hkl)
      generalize l.getD k default = ob at z0 z1 z2 z3 HOB HL2 HAL hgs hrf
      obtain ⟨rp, rc, rfl⟩ := hrf.shape
      obtain ⟨cp, cc, rfl⟩ := hgs.shape
      have HZ := Lib.hid (And.intro hm (And.intro z0 (And.intro z1 (And.intro z2 z3))))
      clear hs hgs hrf HOB z0 z1 z2 z3 hm
      cases hlk : linkR S l with
      | none =>
        rw [hlk] at h3
        obtain ⟨er, her, rfl⟩ := h3
        clear hlk HAL
        go_upto_region 7 with fail
        obtain ⟨w4, hw4⟩ : ∃ W, W = w3.alloc (.cells #[.slice none 0 0, .slice none 0 0, .int .i64 0, .int .i64 0] 30) := ⟨_, rfl⟩
        have hb34 : Below w3.heap.size w3 w4 := by rw [hw4]; exact bAlloc (Nat.le_refl _) (Below.refl _ _)
        have HI1 := Lib.hid (show RowC w4 w3.heap.size [.slice none 0 0, .slice none 0 0, .int .i64 0, .int .i64 0] from by rw [hw4]; exact RowC.made w3 [.slice none 0 0, .slice none 0 0, .int .i64 0, .int .i64 0] 30)
        rw [← hw4]
        clear hw4
        have HB34 := Lib.hid hb34
        have HB4 := Lib.hid (HB3.out.trans (hb34.mono HB3.out.size))
        clear hb34
        obtain ⟨hm, z0, z1, z2, z3⟩ := HZ.out
        have z0 := (HB4.out.cell (p := ⟨m, off + k * 4, none⟩) hm).trans z0
        have z1 := (HB4.out.cell (p := ⟨m, off + k * 4 + 1, none⟩) hm).trans z1
        have z2 := (HB4.out.cell (p := ⟨m, off + k * 4 + 2, none⟩) hm).trans z2
        have z3 := (HB4.out.cell (p := ⟨m, off + k * 4 + 3, none⟩) hm).trans z3
        have hm4 : m < w4.heap.size := Nat.lt_of_lt_of_le hm HB4.out.size
        have HBC := Lib.hid (show Below w.heap.size w (w4.alloc (.cells #[.string ob.nm, .slice cp ob.code.length cc, .int .i64 ob.dat, .slice rp ob.refs.length rc] 38)) from bAlloc HB4.out.size HB4.out)
        have HCALL := Lib.hid (HL2.out _ _ HBC.out (RowC.made w4 [.string ob.nm, .slice cp ob.code.length cc, .int .i64 ob.dat, .slice rp ob.refs.length rc] 38))
        clear hm
        go_wp2_with fail
        refine HCALL.out.mono ?_
        rintro e w5 ⟨hb5, h5⟩
        have HB45 := Lib.hid ((bAlloc (o := .cells #[.string ob.nm, .slice cp ob.code.length cc, .int .i64 ob.dat, .slice rp ob.refs.length rc] 38) (Nat.le_refl _) (Below.refl w4.heap.size w4)).trans (hb5.mono (by simp)))
        have HB5 := Lib.hid (HB4.out.trans (HB45.out.mono HB4.out.size))
        clear z0 z1 z2 z3 hm4 hb5 HCALL HBC HL2 HZ
        have herI : ¬ er = 0 := her
        cases hl2 : linkR S [ob] with
        | none =>
          rw [hl2] at h5
          obtain ⟨er2, her2, rfl⟩ := h5
          go_wp2_with fail
          go_ret
          exact ⟨rfl, bAlloc HB5.out.size HB5.out⟩
        | some im2 =>
          rw [hl2] at h5
          obtain ⟨imv2, sl2, rfl, ⟨⟨c1, c2, c3, c4, rfl, -, -⟩, -, -⟩, -⟩ := h5
          go_wp2_with fail
          go_ret
          exact ⟨rfl, bAlloc HB5.out.size HB5.out⟩
      | some im =>
        rw [hlk] at h3
        obtain ⟨imv, sl, rfl, him, -⟩ := h3
        obtain ⟨one, d, h1, hrest⟩ := HAL.out im hlk (cpM im.sh.toNat mem)
        have HREST := Lib.hid hrest
        have HIS := Lib.hid (im_sh hlk)
        clear hrest
        have HIM3 := Lib.hid him
        obtain ⟨⟨ap, ac, bp, bc, rfl, -, -⟩, -, -⟩ := him
        clear hlk HAL
        go_upto_region 7 with fail
        obtain ⟨w4, hw4⟩ : ∃ W, W = w3.alloc (.cells #[.slice ap im.code.length ac, .slice bp im.ents.length bc, .int .i64 im.sh, .int .i64 im.lk] 30) := ⟨_, rfl⟩
        have hb34 : Below w3.heap.size w3 w4 := by rw [hw4]; exact bAlloc (Nat.le_refl _) (Below.refl _ _)
        have HI1 := Lib.hid (show RowC w4 w3.heap.size [.slice ap im.code.length ac, .slice bp im.ents.length bc, .int .i64 im.sh, .int .i64 im.lk] from by rw [hw4]; exact RowC.made w3 [.slice ap im.code.length ac, .slice bp im.ents.length bc, .int .i64 im.sh, .int .i64 im.lk] 30)
        rw [← hw4]
        clear hw4
        have HB34 := Lib.hid hb34
        have HB4 := Lib.hid (HB3.out.trans (hb34.mono HB3.out.size))
        clear hb34
        obtain ⟨hm, z0, z1, z2, z3⟩ := HZ.out
        have z0 := (HB4.out.cell (p := ⟨m, off + k * 4, none⟩) hm).trans z0
        have z1 := (HB4.out.cell (p := ⟨m, off + k * 4 + 1, none⟩) hm).trans z1
        have z2 := (HB4.out.cell (p := ⟨m, off + k * 4 + 2, none⟩) hm).trans z2
        have z3 := (HB4.out.cell (p := ⟨m, off + k * 4 + 3, none⟩) hm).trans z3
        have hm4 : m < w4.heap.size := Nat.lt_of_lt_of_le hm HB4.out.size
        have HBC := Lib.hid (show Below w.heap.size w (w4.alloc (.cells #[.string ob.nm, .slice cp ob.code.length cc, .int .i64 ob.dat, .slice rp ob.refs.length rc] 38)) from bAlloc HB4.out.size HB4.out)
        have HCALL := Lib.hid (HL2.out _ _ HBC.out (RowC.made w4 [.string ob.nm, .slice cp ob.code.length cc, .int .i64 ob.dat, .slice rp ob.refs.length rc] 38))
        clear hm
        go_wp2_with fail
        refine HCALL.out.mono ?_
        rintro e w5 ⟨hb5, h5⟩
        have HB45 := Lib.hid ((bAlloc (o := .cells #[.string ob.nm, .slice cp ob.code.length cc, .int .i64 ob.dat, .slice rp ob.refs.length rc] 38) (Nat.le_refl _) (Below.refl w4.heap.size w4)).trans (hb5.mono (by simp)))
        have HB5 := Lib.hid (HB4.out.trans (HB45.out.mono HB4.out.size))
        clear z0 z1 z2 z3 hm4 hb5 HCALL HBC HL2 HZ
        rw [h1] at h5
        obtain ⟨imv2, sl2, rfl, him2, -⟩ := h5
        have HIN5 := Lib.hid him2
        obtain ⟨⟨ap2, ac2, bp2, bc2, rfl, -, -⟩, -, hshort⟩ := him2
        have HSHO := Lib.hid hshort
        clear h1 hshort
        have HIM5 := Lib.hid ((HIM3.out.below HB34.out (Nat.le_refl _)).below HB45.out (Nat.le_refl _))
        have HI5 := Lib.hid (HI1.out.below HB45.out HI1.out.lt)
        clear HIM3 HI1 HB34 HB45
        go_upto_region 8 with fail
        obtain ⟨w6, hw6⟩ : ∃ W, W = w5.alloc (.cells #[.slice ap2 one.code.length ac2, .slice bp2 one.ents.length bc2, .int .i64 one.sh, .int .i64 one.lk] 30) := ⟨_, rfl⟩
        have hb56 : Below w5.heap.size w5 w6 := by rw [hw6]; exact bAlloc (Nat.le_refl _) (Below.refl _ _)
        have HT6 := Lib.hid (show RowC w6 w5.heap.size [.slice ap2 one.code.length ac2, .slice bp2 one.ents.length bc2, .int .i64 one.sh, .int .i64 one.lk] from by rw [hw6]; exact RowC.made w5 [.slice ap2 one.code.length ac2, .slice bp2 one.ents.length bc2, .int .i64 one.sh, .int .i64 one.lk] 30)
        rw [← hw6]
        clear hw6
        have HB6 := Lib.hid (HB5.out.trans (hb56.mono HB5.out.size))
        have HI6 := Lib.hid (HI5.out.below hb56 HI5.out.lt)
        have HIM6 := Lib.hid (HIM5.out.below hb56 (Nat.le_refl _))
        have HIN6 := Lib.hid (HIN5.out.below hb56 (Nat.le_refl _))
        clear hb56 HIM5 HIN5 HI5
        obtain ⟨b1, hb1⟩ : ∃ b, b = w3.heap.size := ⟨_, rfl⟩
        obtain ⟨b2, hb2⟩ : ∃ b, b = w5.heap.size := ⟨_, rfl⟩
        rw [← hb1] at HI6 ⊢
        rw [← hb2] at HT6 ⊢
        clear hb1 hb2
        obtain ⟨hsh, hke, hoe, hst, hda, hdb, hrn, hpc⟩ := HREST.out
        obtain ⟨hs0, hs1⟩ := HIS.out
        have hs2 : im.sh ≤ 320 := by have := HG1.out; omega
        obtain ⟨n, hn⟩ := Int.eq_ofNat_of_zero_le hs0
        have hnn : im.sh.toNat = n := by omega
        rw [hnn] at hrn hpc
        have hn320 : n ≤ 320 := by omega
        have HSH := Lib.hid hn
        have HSH2 := Lib.hid hsh
        have x2 : w6.cell? ⟨b1, 2, none⟩ = some (.int .i64 (n : Int)) := by rw [← hn]; exact HI6.out.at 2 rfl
        have xl := HI6.out.lt
        have hmk := run_make_i32 n (by omega)
        have HRN := Lib.hid hrn
        have HPC := Lib.hid hpc
        have HKE := Lib.hid hke
        have HOE := Lib.hid hoe
        have HST := Lib.hid hst
        have HDA := Lib.hid hda
        have HDB := Lib.hid hdb
        have HN3 := Lib.hid hn320
        clear HREST HIS hrn hpc hke hoe hst hda hdb hs0 hs1 hs2 hnn hn hsh hn320
        go_upto_region 12 with fail
        go_cut [16, 17] (fun s16 s17 wx => Mk2 w6 n s16 s17 wx)
        case first =>
          go_region
          all_goals (go_wp2_with fail)
          all_goals go_meet
          all_goals first
            | exact Mk2.made w6 n
            | exact (Mk2.made w6 n).swap
        case rest =>
          obtain ⟨g, h, rfl, rfl, HMK⟩ := hcut
          clear hmk x2 xl
          obtain ⟨hgh, ⟨hg6, hh6⟩, hgc, hhc, hbc⟩ := HMK.out
          have HGH := Lib.hid hgh
          have HG6 := Lib.hid hg6
          have HH6 := Lib.hid hh6
          have HGC := Lib.hid hgc
          have HHC := Lib.hid hhc
          have HBC := Lib.hid hbc
          have HMC := Lib.hid (show RdAt wc (.slice mp mem.length mc) mem from HM.out.below (HB6.out.trans (hbc.mono HB6.out.size)) (Nat.le_refl _))
          have HI32 : Hid ((Tryd.prog.info? 21).map (·.size) = some 1) := (show _ = _ by kernel_rfl)
          obtain ⟨cs, hcs⟩ : ∃ x, x = (mem.take n).map (Value.int .i32) := ⟨_, rfl⟩
          obtain ⟨zs, hzs⟩ : ∃ x, x = List.replicate n (Value.int .i32 0) := ⟨_, rfl⟩
          have HCS : Hid (cs.length = Nat.min mem.length n) := (show _ = _ by rw [hcs, List.length_map, List.length_take]; exact Nat.min_comm _ _)
          have HFI : Hid (cs.length ≤ zs.length) := (show _ ≤ _ by rw [hcs, hzs, List.length_map, List.length_take, List.length_replicate]; omega)
          have H1C : Hid (∀ v ∈ cs, v.oneCell' = true) := (show ∀ v ∈ cs, _ from fun v hv => by
            rw [hcs] at hv
            obtain ⟨x, _, rfl⟩ := List.mem_map.1 hv
            rfl)
          have HCE : Hid (cs ++ zs.drop cs.length = (cpM n mem).map (Value.int .i32)) := (show _ = _ by rw [hcs, hzs]; exact cpM_cells n mem)
          have HSR : Hid (∀ W, RdAt W (.slice mp mem.length mc) mem → 0 < cs.length → ∃ ad, mp = some ad ∧ ∀ j v, cs[j]? = some v → W.cell? (ad.add j) = some v) := (show ∀ W, _ from fun W hW => by rw [hcs]; exact rd_src hW n)
          rw [← hzs] at HGC HHC
          clear hcs hzs
          clear hgh hg6 hh6 hgc hhc hbc HMK
          go_upto_region 14 with (first | (refine wpList_copy_exact rfl _ _ 24 24 rfl 21 Tryd.underlying24 HI32.out g n n mp mem.length mc rfl rfl zs 21 HGC.out cs HCS.out (HSR.out _ HMC.out) HFI.out H1C.out ?_))
          intro w7 hg7 hk7
          rw [HCE.out] at hg7
          have HGC7 := Lib.hid hg7
          have HHC7 := Lib.hid ((hk7.block h (Array.getElem?_eq_some_iff.1 HHC.out).1 (fun e => HGH.out e.symm)).trans HHC.out)
          have HB7 := Lib.hid (HBC.out.trans (hk7.below HBC.out.size (fun j e => e ▸ HG6.out)))
          have HMC7 := Lib.hid (show RdAt w7 (.slice mp mem.length mc) mem from HM.out.below (HB6.out.trans (HB7.out.mono HB6.out.size)) (Nat.le_refl _))
          clear hg7 hk7 HGC HHC HBC HMC
          go_upto_region 15 with (first | (refine wpList_copy_exact rfl _ _ 24 24 rfl 21 Tryd.underlying24 HI32.out h n n mp mem.length mc rfl rfl zs 21 HHC7.out cs HCS.out (HSR.out _ HMC7.out) HFI.out H1C.out ?_))
          intro w8 hh8 hk8
          rw [HCE.out] at hh8
          have HG8 := Lib.hid (mem_of_row (cpM_len n mem) ((hk8.block g (Array.getElem?_eq_some_iff.1 HGC7.out).1 HGH.out).trans HGC7.out))
          have HH8 := Lib.hid (mem_of_row (cpM_len n mem) hh8)
          have HB68 := Lib.hid (HB7.out.trans (hk8.below HB7.out.size (fun j e => e ▸ HH6.out)))
          have hg8 : g < w8.heap.size := Nat.lt_of_lt_of_le (Array.getElem?_eq_some_iff.1 HGC7.out).1 hk8.size
          have hh8 : h < w8.heap.size := (Array.getElem?_eq_some_iff.1 hh8).1
          have HGL := Lib.hid hg8
          have HHL := Lib.hid hh8
          have HB8 := Lib.hid (HB6.out.trans (HB68.out.mono HB6.out.size))
          clear hh8 hg8 hk8 HGC7 HHC7 HB7 HMC7 HI32 HFI H1C HCS HCE HSR

          have hG6 : 0 < w6.heap.size ∧ 1 < w6.heap.size := by
            have h1 := HB6.out.size
            have h2 := HGB.out
            exact ⟨by omega, by omega⟩
          have HG6B := Lib.hid hG6
          clear hG6
          have HR1 := Lib.hid (show Calls Tryd.prog 7 #[_, .int .i64 (k : Int), .slice (some ⟨g, 0, none⟩) n n] w8 (RnPost (.slice (some ⟨g, 0, none⟩) n n) ((rnL one 0 (cpM n mem)).1.sh d, (rnL one 0 (cpM n mem)).2.1, (rnL one 0 (cpM n mem)).2.2) w8) from by
            rw [← HRN.out]
            exact run_any _ _ im k (cpM n mem) w6.heap.size w8 (HTB.out.of_below HB8.out) (HOT.out.of_below HB8.out) HB68.out.size HG6B.out (fun w' hb => HIM6.out.below (HB68.out.trans hb) (Nat.le_refl _)) HKE.out HDA.out HG8.out (fun j hj => by
              have e : g = j := by simpa [Value.ownBlock] using hj
              subst e
              exact ⟨HG6.out, HGL.out⟩) (cpM_w32 n H32.out))
          have HR2 := Lib.hid (fun (W : World) (hb : Below w6.heap.size w6 W) (hm : MemAt W (.slice (some ⟨h, 0, none⟩) n n) (cpM n mem)) (hl : h < W.heap.size) => run_any _ (.slice (some ⟨h, 0, none⟩) n n) one 0 (cpM n mem) w6.heap.size W (HTB.out.of_below (HB6.out.trans (hb.mono HB6.out.size))) (HOT.out.of_below (HB6.out.trans (hb.mono HB6.out.size))) hb.size HG6B.out (fun w' hb' => HIN6.out.below (hb.trans hb') (Nat.le_refl _)) HOE.out HDB.out hm (fun j hj => by
              have e : h = j := by simpa [Value.ownBlock] using hj
              subst e
              exact ⟨HH6.out, hl⟩) (cpM_w32 n H32.out))
          clear HRN
          generalize rnL one 0 (cpM n mem) = r at HR1 HR2 HPC
          obtain ⟨c, steps, er⟩ := r
          have m0 := (HI6.out.below HB68.out HI6.out.lt).at 0 rfl
          have m1 := (HI6.out.below HB68.out HI6.out.lt).at 1 rfl
          have m2 := (HI6.out.below HB68.out HI6.out.lt).at 2 rfl
          have m3 := (HI6.out.below HB68.out HI6.out.lt).at 3 rfl
          have ml := (HI6.out.below HB68.out HI6.out.lt).lt
          go_wp2_with fail
          refine HR1.out.mono ?_
          rintro e w9 ⟨ov, dv, rfl, hov, hdv, hmv, hr9, hk9, hdl9, hdn⟩
          have hdv : MemAt w9 dv c.s.d := hdv
          have hr9 : c.s.r.length = 16 := hr9
          have HRL := Lib.hid hr9
          have HOV9 := Lib.hid (show w9.ownsRow w8.heap.size 72 2 ov c.out.length (outCells c.out) from hov)
          have HDV9 := Lib.hid hdv
          have HMV9 := Lib.hid (show MemAt w9 (.slice (some ⟨g, 0, none⟩) n n) c.mem from hmv)
          have HDN := Lib.hid hdn
          have HDL := Lib.hid (show c.s.d.length ≤ 512 from hdl9)
          have HB9 := Lib.hid (HB68.out.trans (hk9.below HB68.out.size (fun j hj => by
            have e : g = j := by simpa [Value.ownBlock] using hj
            exact e ▸ HG6.out)))
          have HH9 := Lib.hid (mem_keep HH8.out (fun j hj hl => hk9.block j hl (fun e => by
            have e1 : h = j := by simpa [Value.ownBlock] using hj
            have e2 : g = j := by simpa [Value.ownBlock] using e
            exact HGH.out (e2.trans e1.symm))) : MemAt w9 (.slice (some ⟨h, 0, none⟩) n n) (cpM n mem))
          have HSZ9 := Lib.hid hk9.size
          clear hov hmv hdn hdl9 hk9 m0 m1 m2 m3 ml

          obtain ⟨dp1, dc1, rfl⟩ := hdv.shape
          obtain ⟨cs1, hcs1⟩ : ∃ x, x = stCells (c.s.sh d) (.slice dp1 c.s.d.length dc1) := ⟨_, rfl⟩
          have HCS1 := Lib.hid hcs1
          have HLN1 : Hid (cs1.length = 20) := (show _ = _ by rw [hcs1]; exact stCells_len (s := c.s.sh d) HRL.out _)
          have HA1 : Hid (cs1.toArray.all (·.oneCell') = true) := (show _ = _ by rw [hcs1]; exact stCells_one _ _ _ _)
          rw [show stV (c.sh d, steps, er).1.s (.slice dp1 c.s.d.length dc1) = Value.agg cs1.toArray from by first | (rw [hcs1]; done) | (rw [hcs1]; rfl)]
          clear hcs1
          have HR1 : Hid ((w9.alloc (.cells #[.int .i64 0, .int .i32 0, .int .i32 0, .int .i32 0, .int .i32 0, .int .i32 0, .int .i32 0, .int .i32 0, .int .i32 0, .int .i32 0, .int .i32 0, .int .i32 0, .int .i32 0, .int .i32 0, .int .i32 0, .int .i32 0, .int .i32 0, .slice none 0 0, .bool false, .int .i64 0] 42)).heap[w9.heap.size]? = some (.cells #[.int .i64 0, .int .i32 0, .int .i32 0, .int .i32 0, .int .i32 0, .int .i32 0, .int .i32 0, .int .i32 0, .int .i32 0, .int .i32 0, .int .i32 0, .int .i32 0, .int .i32 0, .int .i32 0, .int .i32 0, .int .i32 0, .int .i32 0, .slice none 0 0, .bool false, .int .i64 0] 42 (0, 0))) := (show _ = _ from heap_alloc_new _ _)
          have HIX1 : Hid ((Tryd.prog.info? 42).map (·.size) = some cs1.toArray.size) := (show _ = _ by rw [List.size_toArray, HLN1.out]; exact infoState)
          have HZ1 : Hid ((#[.int .i64 0, .int .i32 0, .int .i32 0, .int .i32 0, .int .i32 0, .int .i32 0, .int .i32 0, .int .i32 0, .int .i32 0, .int .i32 0, .int .i32 0, .int .i32 0, .int .i32 0, .int .i32 0, .int .i32 0, .int .i32 0, .int .i32 0, .slice none 0 0, .bool false, .int .i64 0] : Array Value).size = cs1.toArray.size) := (show (20 : Nat) = _ by rw [List.size_toArray, HLN1.out])
          have HX1 := Lib.hid (boxed_new w9 [.int .i64 0, .int .i32 0, .int .i32 0, .int .i32 0, .int .i32 0, .int .i32 0, .int .i32 0, .int .i32 0, .int .i32 0, .int .i32 0, .int .i32 0, .int .i32 0, .int .i32 0, .int .i32 0, .int .i32 0, .int .i32 0, .int .i32 0, .slice none 0 0, .bool false, .int .i64 0] cs1 42)
          go_upto_region 16 with (first | (refine wpList_store_row rfl 42 (.tmp 19) (.tmp 81) rfl w9.heap.size _ rfl rfl 42 _ HR1.out HIX1.out HZ1.out HA1.out ?_; simp only [put_noC]))
          obtain ⟨w10, hww10, hrow1, hbw10, -⟩ := HX1.out
          rw [hww10]
          clear hww10 HX1 HR1 HIX1 HZ1 HA1 HLN1

          have HROW1 := Lib.hid hrow1
          have HB910 := Lib.hid hbw10
          have HB10 := Lib.hid (HB9.out.trans (hbw10.mono HB9.out.size))
          have HRC := Lib.hid (HR2.out w10 HB10.out (HH9.out.below hbw10 (Nat.le_refl _)) (Nat.lt_of_lt_of_le HHL.out (Nat.le_trans HSZ9.out hbw10.size)))
          have m0 := (HT6.out.below HB10.out HT6.out.lt).at 0 rfl
          have m1 := (HT6.out.below HB10.out HT6.out.lt).at 1 rfl
          have m2 := (HT6.out.below HB10.out HT6.out.lt).at 2 rfl
          have m3 := (HT6.out.below HB10.out HT6.out.lt).at 3 rfl
          have ml := (HT6.out.below HB10.out HT6.out.lt).lt
          clear hrow1 hbw10 hdv hr9 HR1 HR2
          go_wp2_with fail
          refine HRC.out.mono ?_
          rintro e w11 ⟨ov2, dv2, rfl, hov2, hdv2, hmv2, -, hk11, -, -⟩
          have hdv2 : MemAt w11 dv2 c.s.d := hdv2
          have HOV11 := Lib.hid (show w11.ownsRow w10.heap.size 72 2 ov2 c.out.length (outCells c.out) from hov2)
          have HDV11 := Lib.hid hdv2
          have HMV11 := Lib.hid (show MemAt w11 (.slice (some ⟨h, 0, none⟩) n n) c.mem from hmv2)
          have HB11 := Lib.hid (HB10.out.trans (hk11.below HB10.out.size (fun j hj => by
            have e : h = j := by simpa [Value.ownBlock] using hj
            exact e ▸ HH6.out)))
          have HK11 : Hid (∀ j, j < w10.heap.size → j ≠ h → w11.heap[j]? = w10.heap[j]?) := (show ∀ j, _ from fun j hl hj => hk11.block j hl (fun e => by
            have e1 : h = j := by simpa [Value.ownBlock] using e
            exact hj e1.symm))
          have HSZ11 := Lib.hid hk11.size
          clear hov2 hmv2 hk11 m0 m1 m2 m3 ml

          obtain ⟨dp2, dc2, rfl⟩ := hdv2.shape
          obtain ⟨cs2, hcs2⟩ : ∃ x, x = stCells c.s (.slice dp2 c.s.d.length dc2) := ⟨_, rfl⟩
          have HCS2 := Lib.hid hcs2
          have HLN2 : Hid (cs2.length = 20) := (show _ = _ by rw [hcs2]; exact stCells_len (s := c.s) HRL.out _)
          have HA2 : Hid (cs2.toArray.all (·.oneCell') = true) := (show _ = _ by rw [hcs2]; exact stCells_one _ _ _ _)
          rw [show stV (c, steps, er).1.s (.slice dp2 c.s.d.length dc2) = Value.agg cs2.toArray from by first | (rw [hcs2]; done) | (rw [hcs2]; rfl)]
          clear hcs2
          have HR2 : Hid ((w11.alloc (.cells #[.int .i64 0, .int .i32 0, .int .i32 0, .int .i32 0, .int .i32 0, .int .i32 0, .int .i32 0, .int .i32 0, .int .i32 0, .int .i32 0, .int .i32 0, .int .i32 0, .int .i32 0, .int .i32 0, .int .i32 0, .int .i32 0, .int .i32 0, .slice none 0 0, .bool false, .int .i64 0] 42)).heap[w11.heap.size]? = some (.cells #[.int .i64 0, .int .i32 0, .int .i32 0, .int .i32 0, .int .i32 0, .int .i32 0, .int .i32 0, .int .i32 0, .int .i32 0, .int .i32 0, .int .i32 0, .int .i32 0, .int .i32 0, .int .i32 0, .int .i32 0, .int .i32 0, .int .i32 0, .slice none 0 0, .bool false, .int .i64 0] 42 (0, 0))) := (show _ = _ from heap_alloc_new _ _)
          have HIX2 : Hid ((Tryd.prog.info? 42).map (·.size) = some cs2.toArray.size) := (show _ = _ by rw [List.size_toArray, HLN2.out]; exact infoState)
          have HZ2 : Hid ((#[.int .i64 0, .int .i32 0, .int .i32 0, .int .i32 0, .int .i32 0, .int .i32 0, .int .i32 0, .int .i32 0, .int .i32 0, .int .i32 0, .int .i32 0, .int .i32 0, .int .i32 0, .int .i32 0, .int .i32 0, .int .i32 0, .int .i32 0, .slice none 0 0, .bool false, .int .i64 0] : Array Value).size = cs2.toArray.size) := (show (20 : Nat) = _ by rw [List.size_toArray, HLN2.out])
          have HX2 := Lib.hid (boxed_new w11 [.int .i64 0, .int .i32 0, .int .i32 0, .int .i32 0, .int .i32 0, .int .i32 0, .int .i32 0, .int .i32 0, .int .i32 0, .int .i32 0, .int .i32 0, .int .i32 0, .int .i32 0, .int .i32 0, .int .i32 0, .int .i32 0, .int .i32 0, .slice none 0 0, .bool false, .int .i64 0] cs2 42)
          go_upto_region 17 with (first | (refine wpList_store_row rfl 42 (.tmp 23) (.tmp 89) rfl w11.heap.size _ rfl rfl 42 _ HR2.out HIX2.out HZ2.out HA2.out ?_; simp only [put_noC]))
          obtain ⟨w12, hww12, hrow2, hbw12, -⟩ := HX2.out
          rw [hww12]
          clear hww12 HX2 HR2 HIX2 HZ2 HA2 HLN2

          have HB12 := Lib.hid (HB11.out.trans (hbw12.mono HB11.out.size))
          have HSTEP : Hid (∀ j, j < w9.heap.size → j ≠ h → w12.heap[j]? = w9.heap[j]?) := (show ∀ j, _ from fun j hl hj => by
            have h1 := HB910.out.size
            have h2 := HSZ11.out
            exact (hbw12.block j (by omega)).trans ((HK11.out j (by omega) hj).trans (HB910.out.block j hl)))
          have HO1 := Lib.hid (OuRd.of_own (ownsRow_block HOV9.out (fun j hj hl => HSTEP.out j hl (by have := HHL.out; omega))))
          have HD1 := Lib.hid (mem_keep HDV9.out (fun j hj hl => HSTEP.out j hl (by have := HDN.out j hj; have := HHL.out; omega)) : MemAt w12 (.slice dp1 c.s.d.length dc1) c.s.d)
          have HM1 := Lib.hid (mem_keep HMV9.out (fun j hj hl => HSTEP.out j hl (by
            have e : g = j := by simpa [Value.ownBlock] using hj
            exact e ▸ HGH.out)) : MemAt w12 (.slice (some ⟨g, 0, none⟩) n n) c.mem)
          have hs9 : w9.heap.size < w10.heap.size := HROW1.out.lt
          have HS1 := Lib.hid (show StAt w12 w9.heap.size (c.s.sh d) (.slice dp1 c.s.d.length dc1) from ⟨HRL.out, by
            have h2 := HSZ11.out
            have h3 := HHL.out
            have h4 := HSZ9.out
            rw [← HCS1.out]
            exact HROW1.out.block ((hbw12.block _ (by omega)).trans (HK11.out _ hs9 (by omega)))⟩)
          have HO2 := Lib.hid (OuRd.of_own (ownsRow_block HOV11.out (fun j _ hl => hbw12.block j hl)))
          have HD2 := Lib.hid (HDV11.out.below hbw12 (Nat.le_refl _))
          have HM2 := Lib.hid (HMV11.out.below hbw12 (Nat.le_refl _))
          have HS2 := Lib.hid (show StAt w12 w11.heap.size c.s (.slice dp2 c.s.d.length dc2) from ⟨HRL.out, HCS2.out ▸ hrow2⟩)
          obtain ⟨⟨_, _, ep, ec, e, _, he⟩, _, _⟩ := HIM6.out
          injection e with e
          injection e with e
          simp only [List.cons.injEq, Value.slice.injEq, true_and, and_true] at e
          obtain ⟨-, ⟨rfl, rfl⟩⟩ := e
          obtain ⟨eb, eo, rfl, heb, hee⟩ := he.resolve_left (fun h0 => by
            have := HKE.out
            rw [h0] at this
            exact absurd this (Nat.not_lt_zero _))
          have hst := (hee k HKE.out).2.1
          rw [HST.out] at hst
          have q3 := (HI6.out.below HB12.out HI6.out.lt).at 1 rfl
          have q5 := (HB12.out.cell (p := ⟨eb, eo + k * 4 + 1, none⟩) heb).trans hst
          have heb12 : eb < w12.heap.size := Nat.lt_of_lt_of_le heb HB12.out.size
          have hb112 := (HI6.out.below HB12.out HI6.out.lt).lt
          have hkeI : (k : Int) < (im.ents.length : Int) := by have := HKE.out; omega
          obtain ⟨P, hP⟩ : ∃ P, P = c.s.pc := ⟨_, rfl⟩
          have hpb : -200000 ≤ P ∧ P ≤ 140737488551233 := by
            have h1 := HPC.out
            have h2 : one.code.length ≤ 140737488351232 := HSHO.out
            have h3 : -200000 ≤ c.s.pc ∧ c.s.pc ≤ (one.code.length : Int) + 200001 := h1
            rw [hP]
            omega
          have q4 := HS1.out.pc
          have q4 : w12.cell? ⟨w9.heap.size, 0, none⟩ = some (.int .i64 (P + d)) := by rw [hP]; exact q4
          have q6 : w12.cell? ⟨w11.heap.size, 0, none⟩ = some (.int .i64 P) := by rw [hP]; exact HS2.out.pc
          have q1 := HS1.out.d
          have q2 := HS2.out.d
          have hl1 := HS1.out.lt
          have hl2 := HS2.out.lt
          have hwp : wrap64 P = P := by unfold wrap64; omega
          have hwp3 : IntKind.i64.wrap P = P := IntWalk.i64_in _ ⟨by omega, by omega⟩
          have hwp2 : wrap64 (P + d - d) = P := by rw [Int.add_sub_cancel]; exact hwp
          have HKC := Lib.hid (fun (W : World) (hb : Below w12.heap.size w12 W) => And.intro ((hb.cell (p := ⟨w9.heap.size, 17, none⟩) hl1).trans q1) (And.intro ((hb.cell (p := ⟨w11.heap.size, 17, none⟩) hl2).trans q2) (And.intro ((hb.cell (p := ⟨b1, 1, none⟩) hb112).trans q3) (And.intro ((hb.cell (p := ⟨w9.heap.size, 0, none⟩) hl1).trans q4) (And.intro ((hb.cell (p := ⟨eb, eo + k * 4 + 1, none⟩) heb12).trans q5) ((hb.cell (p := ⟨w11.heap.size, 0, none⟩) hl2).trans q6))))))
          have hcd : c.s.d.length ≤ 140737488351232 := by
            have := HDL.out
            omega
          have hcm : c.mem.length ≤ 140737488351232 := by
            obtain ⟨_, _, e, _⟩ := HM1.out
            injection e with _ e _
            have := HN3.out
            omega
          have F1 := Lib.hid (fun (W : World) (hb : Below w12.heap.size w12 W) => (outs_any ov ov2 c.out W (HO1.out.below hb (Nat.le_refl _)) (HO2.out.below hb (Nat.le_refl _))).mono (R' := fun e w' => e = .returned (.bool true) ∧ Below w12.heap.size w12 w') fun e w' h => ⟨h.1, hb.trans (h.2.mono hb.size)⟩)
          have F2 := Lib.hid (fun (W : World) (hb : Below w12.heap.size w12 W) => (words_any (.slice dp1 c.s.d.length dc1) (.slice dp2 c.s.d.length dc2) c.s.d c.s.d W (HD1.out.below hb (Nat.le_refl _)).rd (HD2.out.below hb (Nat.le_refl _)).rd hcd).mono (R' := fun e w' => e = .returned (.bool true) ∧ Below w12.heap.size w12 w') fun e w' h => ⟨by rw [h.1, decide_eq_true rfl], hb.trans (h.2.mono hb.size)⟩)
          have F3 := Lib.hid (fun (W : World) (hb : Below w12.heap.size w12 W) => (words_any (.slice (some ⟨g, 0, none⟩) n n) (.slice (some ⟨h, 0, none⟩) n n) c.mem c.mem W (HM1.out.below hb (Nat.le_refl _)).rd (HM2.out.below hb (Nat.le_refl _)).rd hcm).mono (R' := fun e w' => e = .returned (.bool true) ∧ Below w12.heap.size w12 w') fun e w' h => ⟨by rw [h.1, decide_eq_true rfl], hb.trans (h.2.mono hb.size)⟩)
          have HI16 : (Tryd.prog.info? 40).map (·.size) = some (c.s.r.map (Value.int .i32)).length := by rw [List.length_map, HRL.out]; kernel_rfl
          have HREG1 := Lib.hid (fun (W : World) (hb : Below w12.heap.size w12 W) => (show W.rangeAt w9.heap.size 1 (c.s.r.map (Value.int .i32)) from (HS1.out.below hb hl1).regs))
          have HREG2 := Lib.hid (fun (W : World) (hb : Below w12.heap.size w12 W) => (show W.rangeAt w11.heap.size 1 (c.s.r.map (Value.int .i32)) from (HS2.out.below hb hl2).regs))
          have HBW := Lib.hid (HB6.out.trans (HB12.out.mono HB6.out.size))
          clear q1 q2 q3 q4 q5 q6 hst hee he heb hpb hP hbw12 hrow2 hdv2 hcd hcm heb12 hb112
          refine wp_region_held_drew (S := fun w' => Below w12.heap.size w12 w') (by kernel_rfl) (Below.refl _ _).drew (fun hHeld => ?_)
          refine wpAnyH_take (i := 0) (oi := { dst := some 92, op := Go.Op.move (Go.Operand.tmp 21), type := 32, pos := "law.go:249", after := #[], guard := none }) (v := ?_) rfl (by kernel_rfl) (by kernel_rfl) (by kernel_rfl) (fun _ _ _ h => h) (Or.inl ⟨by rfl, ?_⟩) hHeld ?_
          rotate_left
          · intro w hSw; obtain ⟨q1, q2, q3, q4, q5, q6⟩ := HKC.out w hSw; go_simp; try (with_reducible rfl)
          try simp only [Act.put, List.setIfInBounds_toArray, List.set_cons_zero, List.set_cons_succ]
          refine wpAnyH_take (i := 1) (oi := { dst := some 93, op := Go.Op.move (Go.Operand.tmp 25), type := 32, pos := "law.go:249", after := #[], guard := none }) (v := ?_) rfl (by kernel_rfl) (by kernel_rfl) (by kernel_rfl) (fun _ _ _ h => h) (Or.inl ⟨by rfl, ?_⟩) hHeld ?_
          rotate_left
          · intro w hSw; obtain ⟨q1, q2, q3, q4, q5, q6⟩ := HKC.out w hSw; go_simp; try (with_reducible rfl)
          try simp only [Act.put, List.setIfInBounds_toArray, List.set_cons_zero, List.set_cons_succ]
          refine wpAnyH_take (i := 2) (oi := { dst := some 94, op := Go.Op.binOp Go.BinOp.eql 32 (Go.Operand.tmp 92) (Go.Operand.tmp 93) 32, type := 4, pos := "law.go:249", after := #[{ on := 0, ground := Go.Ground.data }, { on := 1, ground := Go.Ground.data }], guard := none }) (v := ?_) rfl (by kernel_rfl) (by kernel_rfl) (by kernel_rfl) (fun _ _ _ h => h) (Or.inl ⟨by rfl, ?_⟩) hHeld ?_
          rotate_left
          · intro w hSw; obtain ⟨q1, q2, q3, q4, q5, q6⟩ := HKC.out w hSw; go_simp; try (with_reducible rfl)
          try simp only [Act.put, List.setIfInBounds_toArray, List.set_cons_zero, List.set_cons_succ]
          refine wpAnyH_take (i := 3) (oi := { dst := some 95, op := Go.Op.move (Go.Operand.tmp 94), type := 4, pos := "law.go:249", after := #[{ on := 2, ground := Go.Ground.data }], guard := none }) (v := ?_) rfl (by kernel_rfl) (by kernel_rfl) (by kernel_rfl) (fun _ _ _ h => h) (Or.inl ⟨by rfl, ?_⟩) hHeld ?_
          rotate_left
          · intro w hSw; obtain ⟨q1, q2, q3, q4, q5, q6⟩ := HKC.out w hSw; go_simp; try (with_reducible rfl)
          try simp only [Act.put, List.setIfInBounds_toArray, List.set_cons_zero, List.set_cons_succ]
          refine wpAnyH_take (i := 4) (oi := { dst := some 96, op := Go.Op.move (Go.Operand.tmp 20), type := 3, pos := "law.go:249", after := #[{ on := 3, ground := Go.Ground.guard }], guard := some (3, true) }) (v := ?_) rfl (by kernel_rfl) (by kernel_rfl) (by kernel_rfl) (fun _ _ _ h => h) (Or.inl ⟨by rfl, ?_⟩) hHeld ?_
          rotate_left
          · intro w hSw; obtain ⟨q1, q2, q3, q4, q5, q6⟩ := HKC.out w hSw; go_simp; try (with_reducible rfl)
          try simp only [Act.put, List.setIfInBounds_toArray, List.set_cons_zero, List.set_cons_succ]
          refine wpAnyH_take (i := 5) (oi := { dst := some 97, op := Go.Op.move (Go.Operand.tmp 24), type := 3, pos := "law.go:249", after := #[{ on := 3, ground := Go.Ground.guard }], guard := some (3, true) }) (v := ?_) rfl (by kernel_rfl) (by kernel_rfl) (by kernel_rfl) (fun _ _ _ h => h) (Or.inl ⟨by rfl, ?_⟩) hHeld ?_
          rotate_left
          · intro w hSw; obtain ⟨q1, q2, q3, q4, q5, q6⟩ := HKC.out w hSw; go_simp; try (with_reducible rfl)
          try simp only [Act.put, List.setIfInBounds_toArray, List.set_cons_zero, List.set_cons_succ]
          refine wpAnyH_take (i := 6) (oi := { dst := some 98, op := Go.Op.binOp Go.BinOp.eql 3 (Go.Operand.tmp 96) (Go.Operand.tmp 97) 3, type := 4, pos := "law.go:249", after := #[{ on := 4, ground := Go.Ground.data }, { on := 5, ground := Go.Ground.data }, { on := 3, ground := Go.Ground.guard }], guard := some (3, true) }) (v := ?_) rfl (by kernel_rfl) (by kernel_rfl) (by kernel_rfl) (fun _ _ _ h => h) (Or.inl ⟨by rfl, ?_⟩) hHeld ?_
          rotate_left
          · intro w hSw; obtain ⟨q1, q2, q3, q4, q5, q6⟩ := HKC.out w hSw; go_simp; try (with_reducible rfl)
          try simp only [Act.put, List.setIfInBounds_toArray, List.set_cons_zero, List.set_cons_succ]
          refine wpAnyH_take (i := 7) (oi := { dst := some 99, op := Go.Op.pick (Go.Operand.tmp 95) (Go.Operand.tmp 98) (Go.Operand.const (Go.Value.bool false)), type := 4, pos := "law.go:249", after := #[{ on := 3, ground := Go.Ground.data }, { on := 6, ground := Go.Ground.data }], guard := none }) (v := ?_) rfl (by kernel_rfl) (by kernel_rfl) (by kernel_rfl) (fun _ _ _ h => h) (Or.inl ⟨by rfl, ?_⟩) hHeld ?_
          rotate_left
          · intro w hSw; obtain ⟨q1, q2, q3, q4, q5, q6⟩ := HKC.out w hSw; go_simp; try (with_reducible rfl)
          try simp only [Act.put, List.setIfInBounds_toArray, List.set_cons_zero, List.set_cons_succ]
          refine wpAnyH_take (i := 8) (oi := { dst := some 100, op := Go.Op.move (Go.Operand.tmp 99), type := 4, pos := "law.go:249", after := #[{ on := 7, ground := Go.Ground.data }, { on := 3, ground := Go.Ground.chain }], guard := none }) (v := ?_) rfl (by kernel_rfl) (by kernel_rfl) (by kernel_rfl) (fun _ _ _ h => h) (Or.inl ⟨by rfl, ?_⟩) hHeld ?_
          rotate_left
          · intro w hSw; obtain ⟨q1, q2, q3, q4, q5, q6⟩ := HKC.out w hSw; go_simp; try (with_reducible rfl)
          try simp only [Act.put, List.setIfInBounds_toArray, List.set_cons_zero, List.set_cons_succ]
          refine wpAnyH_take (i := 9) (oi := { dst := some 101, op := Go.Op.move (Go.Operand.tmp 18), type := 39, pos := "law.go:249", after := #[{ on := 8, ground := Go.Ground.guard }], guard := some (8, true) }) (v := ?_) rfl (by kernel_rfl) (by kernel_rfl) (by kernel_rfl) (fun _ _ _ h => h) (Or.inl ⟨by rfl, ?_⟩) hHeld ?_
          rotate_left
          · intro w hSw; obtain ⟨q1, q2, q3, q4, q5, q6⟩ := HKC.out w hSw; go_simp; try (with_reducible rfl)
          try simp only [Act.put, List.setIfInBounds_toArray, List.set_cons_zero, List.set_cons_succ]
          refine wpAnyH_take (i := 10) (oi := { dst := some 102, op := Go.Op.move (Go.Operand.tmp 22), type := 39, pos := "law.go:249", after := #[{ on := 8, ground := Go.Ground.guard }], guard := some (8, true) }) (v := ?_) rfl (by kernel_rfl) (by kernel_rfl) (by kernel_rfl) (fun _ _ _ h => h) (Or.inl ⟨by rfl, ?_⟩) hHeld ?_
          rotate_left
          · intro w hSw; obtain ⟨q1, q2, q3, q4, q5, q6⟩ := HKC.out w hSw; go_simp; try (with_reducible rfl)
          try simp only [Act.put, List.setIfInBounds_toArray, List.set_cons_zero, List.set_cons_succ]
          refine wpAnyH_ready (rs := [11]) (by kernel_rfl) (by simp) ?_
          refine AllReadyH.cons (o := { dst := some 103, op := Go.Op.call { callee := Go.Callee.value (Go.Operand.func 8), args := #[Go.Operand.tmp 101, Go.Operand.tmp 102], argTypes := #[39, 39] }, type := 4, pos := "law.go:249", after := #[{ on := 9, ground := Go.Ground.data }, { on := 10, ground := Go.Ground.data }, { on := 8, ground := Go.Ground.chain }, { on := 8, ground := Go.Ground.guard }], guard := some (8, true) }) rfl (fun K hK => ?_) AllReadyH.nil
          go_simp
          (with_reducible refine (F1.out _ hHeld).mono ?_); rintro e w' ⟨rfl, hS⟩
          first | (refine hK.out _ _ ?_ (fun hHeld => ?_)) | (go_wp2_with fail; refine hK.out _ _ ?_ (fun hHeld => ?_))
          · (try dsimp only); (exact hS)
          clear hK K
          try simp only [Act.put, List.setIfInBounds_toArray, List.set_cons_zero, List.set_cons_succ]
          refine wpAnyH_take (i := 12) (oi := { dst := some 104, op := Go.Op.pick (Go.Operand.tmp 100) (Go.Operand.tmp 103) (Go.Operand.const (Go.Value.bool false)), type := 4, pos := "law.go:249", after := #[{ on := 8, ground := Go.Ground.data }, { on := 11, ground := Go.Ground.data }], guard := none }) (v := ?_) rfl (by kernel_rfl) (by kernel_rfl) (by kernel_rfl) (fun _ _ _ h => h) (Or.inl ⟨by rfl, ?_⟩) hHeld ?_
          rotate_left
          · intro w hSw; obtain ⟨q1, q2, q3, q4, q5, q6⟩ := HKC.out w hSw; go_simp; try (with_reducible rfl)
          try simp only [Act.put, List.setIfInBounds_toArray, List.set_cons_zero, List.set_cons_succ]
          refine wpAnyH_take (i := 13) (oi := { dst := some 105, op := Go.Op.move (Go.Operand.tmp 104), type := 4, pos := "law.go:249", after := #[{ on := 12, ground := Go.Ground.data }, { on := 11, ground := Go.Ground.chain }], guard := none }) (v := ?_) rfl (by kernel_rfl) (by kernel_rfl) (by kernel_rfl) (fun _ _ _ h => h) (Or.inl ⟨by rfl, ?_⟩) hHeld ?_
          rotate_left
          · intro w hSw; obtain ⟨q1, q2, q3, q4, q5, q6⟩ := HKC.out w hSw; go_simp; try (with_reducible rfl)
          try simp only [Act.put, List.setIfInBounds_toArray, List.set_cons_zero, List.set_cons_succ]
          refine wpAnyH_take (i := 14) (oi := { dst := some 106, op := Go.Op.fieldAddr 42 (Go.Operand.tmp 19) 2, type := 0, pos := "law.go:249", after := #[{ on := 13, ground := Go.Ground.guard }], guard := some (13, true) }) (v := ?_) rfl (by kernel_rfl) (by kernel_rfl) (by kernel_rfl) (fun _ _ _ h => h) (Or.inl ⟨by rfl, ?_⟩) hHeld ?_
          rotate_left
          · intro w hSw; obtain ⟨q1, q2, q3, q4, q5, q6⟩ := HKC.out w hSw; go_simp; try (with_reducible rfl)
          try simp only [Act.put, List.setIfInBounds_toArray, List.set_cons_zero, List.set_cons_succ]
          refine wpAnyH_take (i := 15) (oi := { dst := some 107, op := Go.Op.load 24 (Go.Operand.tmp 106), type := 24, pos := "law.go:249", after := #[{ on := 14, ground := Go.Ground.data }, { on := 13, ground := Go.Ground.guard }], guard := some (13, true) }) (v := ?_) rfl (by kernel_rfl) (by kernel_rfl) (by kernel_rfl) (fun _ _ _ h => h) (Or.inl ⟨by rfl, ?_⟩) hHeld ?_
          rotate_left
          · intro w hSw; obtain ⟨q1, q2, q3, q4, q5, q6⟩ := HKC.out w hSw; go_simp; try (with_reducible rfl)
          try simp only [Act.put, List.setIfInBounds_toArray, List.set_cons_zero, List.set_cons_succ]
          refine wpAnyH_take (i := 16) (oi := { dst := some 108, op := Go.Op.fieldAddr 42 (Go.Operand.tmp 23) 2, type := 0, pos := "law.go:249", after := #[{ on := 13, ground := Go.Ground.guard }], guard := some (13, true) }) (v := ?_) rfl (by kernel_rfl) (by kernel_rfl) (by kernel_rfl) (fun _ _ _ h => h) (Or.inl ⟨by rfl, ?_⟩) hHeld ?_
          rotate_left
          · intro w hSw; obtain ⟨q1, q2, q3, q4, q5, q6⟩ := HKC.out w hSw; go_simp; try (with_reducible rfl)
          try simp only [Act.put, List.setIfInBounds_toArray, List.set_cons_zero, List.set_cons_succ]
          refine wpAnyH_take (i := 17) (oi := { dst := some 109, op := Go.Op.load 24 (Go.Operand.tmp 108), type := 24, pos := "law.go:249", after := #[{ on := 16, ground := Go.Ground.data }, { on := 13, ground := Go.Ground.guard }], guard := some (13, true) }) (v := ?_) rfl (by kernel_rfl) (by kernel_rfl) (by kernel_rfl) (fun _ _ _ h => h) (Or.inl ⟨by rfl, ?_⟩) hHeld ?_
          rotate_left
          · intro w hSw; obtain ⟨q1, q2, q3, q4, q5, q6⟩ := HKC.out w hSw; go_simp; try (with_reducible rfl)
          try simp only [Act.put, List.setIfInBounds_toArray, List.set_cons_zero, List.set_cons_succ]
          refine wpAnyH_ready (rs := [18]) (by kernel_rfl) (by simp) ?_
          refine AllReadyH.cons (o := { dst := some 110, op := Go.Op.call { callee := Go.Callee.value (Go.Operand.func 9), args := #[Go.Operand.tmp 107, Go.Operand.tmp 109], argTypes := #[24, 24] }, type := 4, pos := "law.go:249", after := #[{ on := 15, ground := Go.Ground.data }, { on := 17, ground := Go.Ground.data }, { on := 13, ground := Go.Ground.chain }, { on := 13, ground := Go.Ground.guard }], guard := some (13, true) }) rfl (fun K hK => ?_) AllReadyH.nil
          go_simp
          first | ((with_reducible refine (F2.out _ hHeld).mono ?_); rintro e w' ⟨rfl, hS⟩) | ((with_reducible refine (F3.out _ hHeld).mono ?_); rintro e w' ⟨rfl, hS⟩)
          first | (refine hK.out _ _ ?_ (fun hHeld => ?_)) | (go_wp2_with fail; refine hK.out _ _ ?_ (fun hHeld => ?_))
          · (try dsimp only); (exact hS)
          clear hK K
          try simp only [Act.put, List.setIfInBounds_toArray, List.set_cons_zero, List.set_cons_succ]
          refine wpAnyH_take (i := 19) (oi := { dst := some 111, op := Go.Op.pick (Go.Operand.tmp 105) (Go.Operand.tmp 110) (Go.Operand.const (Go.Value.bool false)), type := 4, pos := "law.go:249", after := #[{ on := 13, ground := Go.Ground.data }, { on := 18, ground := Go.Ground.data }], guard := none }) (v := ?_) rfl (by kernel_rfl) (by kernel_rfl) (by kernel_rfl) (fun _ _ _ h => h) (Or.inl ⟨by rfl, ?_⟩) hHeld ?_
          rotate_left
          · intro w hSw; obtain ⟨q1, q2, q3, q4, q5, q6⟩ := HKC.out w hSw; go_simp; try (with_reducible rfl)
          try simp only [Act.put, List.setIfInBounds_toArray, List.set_cons_zero, List.set_cons_succ]
          refine wpAnyH_take (i := 20) (oi := { dst := some 112, op := Go.Op.move (Go.Operand.tmp 111), type := 4, pos := "law.go:249", after := #[{ on := 19, ground := Go.Ground.data }, { on := 18, ground := Go.Ground.chain }], guard := none }) (v := ?_) rfl (by kernel_rfl) (by kernel_rfl) (by kernel_rfl) (fun _ _ _ h => h) (Or.inl ⟨by rfl, ?_⟩) hHeld ?_
          rotate_left
          · intro w hSw; obtain ⟨q1, q2, q3, q4, q5, q6⟩ := HKC.out w hSw; go_simp; try (with_reducible rfl)
          try simp only [Act.put, List.setIfInBounds_toArray, List.set_cons_zero, List.set_cons_succ]
          refine wpAnyH_take (i := 21) (oi := { dst := some 113, op := Go.Op.move (Go.Operand.tmp 16), type := 24, pos := "law.go:249", after := #[{ on := 20, ground := Go.Ground.guard }], guard := some (20, true) }) (v := ?_) rfl (by kernel_rfl) (by kernel_rfl) (by kernel_rfl) (fun _ _ _ h => h) (Or.inl ⟨by rfl, ?_⟩) hHeld ?_
          rotate_left
          · intro w hSw; obtain ⟨q1, q2, q3, q4, q5, q6⟩ := HKC.out w hSw; go_simp; try (with_reducible rfl)
          try simp only [Act.put, List.setIfInBounds_toArray, List.set_cons_zero, List.set_cons_succ]
          refine wpAnyH_take (i := 22) (oi := { dst := some 114, op := Go.Op.move (Go.Operand.tmp 17), type := 24, pos := "law.go:249", after := #[{ on := 20, ground := Go.Ground.guard }], guard := some (20, true) }) (v := ?_) rfl (by kernel_rfl) (by kernel_rfl) (by kernel_rfl) (fun _ _ _ h => h) (Or.inl ⟨by rfl, ?_⟩) hHeld ?_
          rotate_left
          · intro w hSw; obtain ⟨q1, q2, q3, q4, q5, q6⟩ := HKC.out w hSw; go_simp; try (with_reducible rfl)
          try simp only [Act.put, List.setIfInBounds_toArray, List.set_cons_zero, List.set_cons_succ]
          refine wpAnyH_ready (rs := [23]) (by kernel_rfl) (by simp) ?_
          refine AllReadyH.cons (o := { dst := some 115, op := Go.Op.call { callee := Go.Callee.value (Go.Operand.func 9), args := #[Go.Operand.tmp 113, Go.Operand.tmp 114], argTypes := #[24, 24] }, type := 4, pos := "law.go:249", after := #[{ on := 21, ground := Go.Ground.data }, { on := 22, ground := Go.Ground.data }, { on := 20, ground := Go.Ground.chain }, { on := 20, ground := Go.Ground.guard }], guard := some (20, true) }) rfl (fun K hK => ?_) AllReadyH.nil
          go_simp
          first | ((with_reducible refine (F2.out _ hHeld).mono ?_); rintro e w' ⟨rfl, hS⟩) | ((with_reducible refine (F3.out _ hHeld).mono ?_); rintro e w' ⟨rfl, hS⟩)
          first | (refine hK.out _ _ ?_ (fun hHeld => ?_)) | (go_wp2_with fail; refine hK.out _ _ ?_ (fun hHeld => ?_))
          · (try dsimp only); (exact hS)
          clear hK K
          try simp only [Act.put, List.setIfInBounds_toArray, List.set_cons_zero, List.set_cons_succ]
          refine wpAnyH_take (i := 24) (oi := { dst := some 116, op := Go.Op.pick (Go.Operand.tmp 112) (Go.Operand.tmp 115) (Go.Operand.const (Go.Value.bool false)), type := 4, pos := "law.go:249", after := #[{ on := 20, ground := Go.Ground.data }, { on := 23, ground := Go.Ground.data }], guard := none }) (v := ?_) rfl (by kernel_rfl) (by kernel_rfl) (by kernel_rfl) (fun _ _ _ h => h) (Or.inl ⟨by rfl, ?_⟩) hHeld ?_
          rotate_left
          · intro w hSw; obtain ⟨q1, q2, q3, q4, q5, q6⟩ := HKC.out w hSw; go_simp; try (with_reducible rfl)
          try simp only [Act.put, List.setIfInBounds_toArray, List.set_cons_zero, List.set_cons_succ]
          refine wpAnyH_take (i := 25) (oi := { dst := some 117, op := Go.Op.move (Go.Operand.tmp 116), type := 4, pos := "law.go:249", after := #[{ on := 24, ground := Go.Ground.data }, { on := 23, ground := Go.Ground.chain }], guard := none }) (v := ?_) rfl (by kernel_rfl) (by kernel_rfl) (by kernel_rfl) (fun _ _ _ h => h) (Or.inl ⟨by rfl, ?_⟩) hHeld ?_
          rotate_left
          · intro w hSw; obtain ⟨q1, q2, q3, q4, q5, q6⟩ := HKC.out w hSw; go_simp; try (with_reducible rfl)
          try simp only [Act.put, List.setIfInBounds_toArray, List.set_cons_zero, List.set_cons_succ]
          refine wpAnyH_take (i := 26) (oi := { dst := some 118, op := Go.Op.fieldAddr 42 (Go.Operand.tmp 19) 1, type := 0, pos := "law.go:249", after := #[{ on := 25, ground := Go.Ground.guard }], guard := some (25, true) }) (v := ?_) rfl (by kernel_rfl) (by kernel_rfl) (by kernel_rfl) (fun _ _ _ h => h) (Or.inl ⟨by rfl, ?_⟩) hHeld ?_
          rotate_left
          · intro w hSw; obtain ⟨q1, q2, q3, q4, q5, q6⟩ := HKC.out w hSw; go_simp; try (with_reducible rfl)
          try simp only [Act.put, List.setIfInBounds_toArray, List.set_cons_zero, List.set_cons_succ]
          refine wpAnyH_take (i := 27) (oi := { dst := some 119, op := Go.Op.load 40 (Go.Operand.tmp 118), type := 40, pos := "law.go:249", after := #[{ on := 26, ground := Go.Ground.data }, { on := 25, ground := Go.Ground.guard }], guard := some (25, true) }) rfl (by kernel_rfl) (by kernel_rfl) (by kernel_rfl) (fun _ _ _ h => h) (yieldsIf_load_mid rfl 40 (.tmp 118) rfl w9.heap.size 1 rfl (c.s.r.map (Value.int .i32)) _ (fun w hb => HREG1.out w hb) Tryd.underlying40 rfl HI16) hHeld ?_
          try simp only [Act.put, List.setIfInBounds_toArray, List.set_cons_zero, List.set_cons_succ]
          refine wpAnyH_take (i := 28) (oi := { dst := some 120, op := Go.Op.fieldAddr 42 (Go.Operand.tmp 23) 1, type := 0, pos := "law.go:249", after := #[{ on := 25, ground := Go.Ground.guard }], guard := some (25, true) }) (v := ?_) rfl (by kernel_rfl) (by kernel_rfl) (by kernel_rfl) (fun _ _ _ h => h) (Or.inl ⟨by rfl, ?_⟩) hHeld ?_
          rotate_left
          · intro w hSw; obtain ⟨q1, q2, q3, q4, q5, q6⟩ := HKC.out w hSw; go_simp; try (with_reducible rfl)
          try simp only [Act.put, List.setIfInBounds_toArray, List.set_cons_zero, List.set_cons_succ]
          refine wpAnyH_take (i := 29) (oi := { dst := some 121, op := Go.Op.load 40 (Go.Operand.tmp 120), type := 40, pos := "law.go:249", after := #[{ on := 28, ground := Go.Ground.data }, { on := 25, ground := Go.Ground.guard }], guard := some (25, true) }) rfl (by kernel_rfl) (by kernel_rfl) (by kernel_rfl) (fun _ _ _ h => h) (yieldsIf_load_mid rfl 40 (.tmp 120) rfl w11.heap.size 1 rfl (c.s.r.map (Value.int .i32)) _ (fun w hb => HREG2.out w hb) Tryd.underlying40 rfl HI16) hHeld ?_
          try simp only [Act.put, List.setIfInBounds_toArray, List.set_cons_zero, List.set_cons_succ]
          refine wpAnyH_take (i := 30) (oi := { dst := some 122, op := Go.Op.binOp Go.BinOp.eql 40 (Go.Operand.tmp 119) (Go.Operand.tmp 121) 40, type := 4, pos := "law.go:249", after := #[{ on := 27, ground := Go.Ground.data }, { on := 29, ground := Go.Ground.data }, { on := 25, ground := Go.Ground.guard }], guard := some (25, true) }) rfl (by kernel_rfl) (by kernel_rfl) (by kernel_rfl) (fun _ _ _ h => h) (yieldsIf_eql_regs rfl (.tmp 119) (.tmp 121) _ rfl c.s.r HRL.out rfl rfl) hHeld ?_
          try simp only [Act.put, List.setIfInBounds_toArray, List.set_cons_zero, List.set_cons_succ]
          refine wpAnyH_take (i := 31) (oi := { dst := some 123, op := Go.Op.pick (Go.Operand.tmp 117) (Go.Operand.tmp 122) (Go.Operand.const (Go.Value.bool false)), type := 4, pos := "law.go:249", after := #[{ on := 25, ground := Go.Ground.data }, { on := 30, ground := Go.Ground.data }], guard := none }) (v := ?_) rfl (by kernel_rfl) (by kernel_rfl) (by kernel_rfl) (fun _ _ _ h => h) (Or.inl ⟨by rfl, ?_⟩) hHeld ?_
          rotate_left
          · intro w hSw; obtain ⟨q1, q2, q3, q4, q5, q6⟩ := HKC.out w hSw; go_simp; try (with_reducible rfl)
          try simp only [Act.put, List.setIfInBounds_toArray, List.set_cons_zero, List.set_cons_succ]
          refine wpAnyH_take (i := 32) (oi := { dst := some 124, op := Go.Op.move (Go.Operand.tmp 123), type := 4, pos := "law.go:249", after := #[{ on := 31, ground := Go.Ground.data }, { on := 25, ground := Go.Ground.chain }], guard := none }) (v := ?_) rfl (by kernel_rfl) (by kernel_rfl) (by kernel_rfl) (fun _ _ _ h => h) (Or.inl ⟨by rfl, ?_⟩) hHeld ?_
          rotate_left
          · intro w hSw; obtain ⟨q1, q2, q3, q4, q5, q6⟩ := HKC.out w hSw; go_simp; try (with_reducible rfl)
          try simp only [Act.put, List.setIfInBounds_toArray, List.set_cons_zero, List.set_cons_succ]
          refine wpAnyH_take (i := 33) (oi := { dst := some 125, op := Go.Op.fieldAddr 42 (Go.Operand.tmp 19) 0, type := 0, pos := "law.go:249", after := #[{ on := 32, ground := Go.Ground.guard }], guard := some (32, true) }) (v := ?_) rfl (by kernel_rfl) (by kernel_rfl) (by kernel_rfl) (fun _ _ _ h => h) (Or.inl ⟨by rfl, ?_⟩) hHeld ?_
          rotate_left
          · intro w hSw; obtain ⟨q1, q2, q3, q4, q5, q6⟩ := HKC.out w hSw; go_simp; try (with_reducible rfl)
          try simp only [Act.put, List.setIfInBounds_toArray, List.set_cons_zero, List.set_cons_succ]
          refine wpAnyH_take (i := 34) (oi := { dst := some 126, op := Go.Op.load 3 (Go.Operand.tmp 125), type := 3, pos := "law.go:249", after := #[{ on := 33, ground := Go.Ground.data }, { on := 32, ground := Go.Ground.guard }], guard := some (32, true) }) (v := ?_) rfl (by kernel_rfl) (by kernel_rfl) (by kernel_rfl) (fun _ _ _ h => h) (Or.inl ⟨by rfl, ?_⟩) hHeld ?_
          rotate_left
          · intro w hSw; obtain ⟨q1, q2, q3, q4, q5, q6⟩ := HKC.out w hSw; go_simp; try (with_reducible rfl)
          try simp only [Act.put, List.setIfInBounds_toArray, List.set_cons_zero, List.set_cons_succ]
          refine wpAnyH_take (i := 35) (oi := { dst := some 127, op := Go.Op.fieldAddr 30 (Go.Operand.tmp 10) 1, type := 0, pos := "law.go:249", after := #[{ on := 32, ground := Go.Ground.guard }], guard := some (32, true) }) (v := ?_) rfl (by kernel_rfl) (by kernel_rfl) (by kernel_rfl) (fun _ _ _ h => h) (Or.inl ⟨by rfl, ?_⟩) hHeld ?_
          rotate_left
          · intro w hSw; obtain ⟨q1, q2, q3, q4, q5, q6⟩ := HKC.out w hSw; go_simp; try (with_reducible rfl)
          try simp only [Act.put, List.setIfInBounds_toArray, List.set_cons_zero, List.set_cons_succ]
          refine wpAnyH_take (i := 36) (oi := { dst := some 128, op := Go.Op.load 28 (Go.Operand.tmp 127), type := 28, pos := "law.go:249", after := #[{ on := 35, ground := Go.Ground.data }, { on := 32, ground := Go.Ground.guard }], guard := some (32, true) }) (v := ?_) rfl (by kernel_rfl) (by kernel_rfl) (by kernel_rfl) (fun _ _ _ h => h) (Or.inl ⟨by rfl, ?_⟩) hHeld ?_
          rotate_left
          · intro w hSw; obtain ⟨q1, q2, q3, q4, q5, q6⟩ := HKC.out w hSw; go_simp; try (with_reducible rfl)
          try simp only [Act.put, List.setIfInBounds_toArray, List.set_cons_zero, List.set_cons_succ]
          refine wpAnyH_take (i := 37) (oi := { dst := some 129, op := Go.Op.move (Go.Operand.tmp 9), type := 3, pos := "law.go:249", after := #[{ on := 32, ground := Go.Ground.guard }], guard := some (32, true) }) (v := ?_) rfl (by kernel_rfl) (by kernel_rfl) (by kernel_rfl) (fun _ _ _ h => h) (Or.inl ⟨by rfl, ?_⟩) hHeld ?_
          rotate_left
          · intro w hSw; obtain ⟨q1, q2, q3, q4, q5, q6⟩ := HKC.out w hSw; go_simp; try (with_reducible rfl)
          try simp only [Act.put, List.setIfInBounds_toArray, List.set_cons_zero, List.set_cons_succ]
          refine wpAnyH_take (i := 38) (oi := { dst := some 130, op := Go.Op.indexAddr 28 (Go.Operand.tmp 128) (Go.Operand.tmp 129), type := 0, pos := "law.go:249", after := #[{ on := 36, ground := Go.Ground.data }, { on := 37, ground := Go.Ground.data }, { on := 32, ground := Go.Ground.guard }], guard := some (32, true) }) (v := ?_) rfl (by kernel_rfl) (by kernel_rfl) (by kernel_rfl) (fun _ _ _ h => h) (Or.inl ⟨by rfl, ?_⟩) hHeld ?_
          rotate_left
          · intro w hSw; obtain ⟨q1, q2, q3, q4, q5, q6⟩ := HKC.out w hSw; go_simp; try (with_reducible rfl)
          try simp only [Act.put, List.setIfInBounds_toArray, List.set_cons_zero, List.set_cons_succ]
          refine wpAnyH_take (i := 39) (oi := { dst := some 131, op := Go.Op.fieldAddr 48 (Go.Operand.tmp 130) 1, type := 0, pos := "law.go:249", after := #[{ on := 38, ground := Go.Ground.data }, { on := 32, ground := Go.Ground.guard }], guard := some (32, true) }) (v := ?_) rfl (by kernel_rfl) (by kernel_rfl) (by kernel_rfl) (fun _ _ _ h => h) (Or.inl ⟨by rfl, ?_⟩) hHeld ?_
          rotate_left
          · intro w hSw; obtain ⟨q1, q2, q3, q4, q5, q6⟩ := HKC.out w hSw; go_simp; try (with_reducible rfl)
          try simp only [Act.put, List.setIfInBounds_toArray, List.set_cons_zero, List.set_cons_succ]
          refine wpAnyH_take (i := 40) (oi := { dst := some 132, op := Go.Op.load 3 (Go.Operand.tmp 131), type := 3, pos := "law.go:249", after := #[{ on := 39, ground := Go.Ground.data }, { on := 32, ground := Go.Ground.guard }], guard := some (32, true) }) (v := ?_) rfl (by kernel_rfl) (by kernel_rfl) (by kernel_rfl) (fun _ _ _ h => h) (Or.inl ⟨by rfl, ?_⟩) hHeld ?_
          rotate_left
          · intro w hSw; obtain ⟨q1, q2, q3, q4, q5, q6⟩ := HKC.out w hSw; go_simp; try (with_reducible rfl)
          try simp only [Act.put, List.setIfInBounds_toArray, List.set_cons_zero, List.set_cons_succ]
          refine wpAnyH_take (i := 41) (oi := { dst := some 133, op := Go.Op.binOp Go.BinOp.sub 3 (Go.Operand.tmp 126) (Go.Operand.tmp 132) 3, type := 3, pos := "law.go:249", after := #[{ on := 34, ground := Go.Ground.data }, { on := 40, ground := Go.Ground.data }, { on := 32, ground := Go.Ground.guard }], guard := some (32, true) }) (v := ?_) rfl (by kernel_rfl) (by kernel_rfl) (by kernel_rfl) (fun _ _ _ h => h) (Or.inl ⟨by rfl, ?_⟩) hHeld ?_
          rotate_left
          · intro w hSw; obtain ⟨q1, q2, q3, q4, q5, q6⟩ := HKC.out w hSw; go_simp; try (with_reducible rfl)
          try simp only [Act.put, List.setIfInBounds_toArray, List.set_cons_zero, List.set_cons_succ]
          refine wpAnyH_take (i := 42) (oi := { dst := some 134, op := Go.Op.fieldAddr 42 (Go.Operand.tmp 23) 0, type := 0, pos := "law.go:249", after := #[{ on := 32, ground := Go.Ground.guard }], guard := some (32, true) }) (v := ?_) rfl (by kernel_rfl) (by kernel_rfl) (by kernel_rfl) (fun _ _ _ h => h) (Or.inl ⟨by rfl, ?_⟩) hHeld ?_
          rotate_left
          · intro w hSw; obtain ⟨q1, q2, q3, q4, q5, q6⟩ := HKC.out w hSw; go_simp; try (with_reducible rfl)
          try simp only [Act.put, List.setIfInBounds_toArray, List.set_cons_zero, List.set_cons_succ]
          refine wpAnyH_take (i := 43) (oi := { dst := some 135, op := Go.Op.load 3 (Go.Operand.tmp 134), type := 3, pos := "law.go:249", after := #[{ on := 42, ground := Go.Ground.data }, { on := 32, ground := Go.Ground.guard }], guard := some (32, true) }) (v := ?_) rfl (by kernel_rfl) (by kernel_rfl) (by kernel_rfl) (fun _ _ _ h => h) (Or.inl ⟨by rfl, ?_⟩) hHeld ?_
          rotate_left
          · intro w hSw; obtain ⟨q1, q2, q3, q4, q5, q6⟩ := HKC.out w hSw; go_simp; try (with_reducible rfl)
          try simp only [Act.put, List.setIfInBounds_toArray, List.set_cons_zero, List.set_cons_succ]
          refine wpAnyH_take (i := 44) (oi := { dst := some 136, op := Go.Op.binOp Go.BinOp.eql 3 (Go.Operand.tmp 133) (Go.Operand.tmp 135) 3, type := 4, pos := "law.go:249", after := #[{ on := 41, ground := Go.Ground.data }, { on := 43, ground := Go.Ground.data }, { on := 32, ground := Go.Ground.guard }], guard := some (32, true) }) (v := ?_) rfl (by kernel_rfl) (by kernel_rfl) (by kernel_rfl) (fun _ _ _ h => h) (Or.inl ⟨by rfl, ?_⟩) hHeld ?_
          rotate_left
          · intro w hSw; obtain ⟨q1, q2, q3, q4, q5, q6⟩ := HKC.out w hSw; go_simp; try (with_reducible rfl)
          try simp only [Act.put, List.setIfInBounds_toArray, List.set_cons_zero, List.set_cons_succ]
          refine wpAnyH_take (i := 45) (oi := { dst := some 137, op := Go.Op.pick (Go.Operand.tmp 124) (Go.Operand.tmp 136) (Go.Operand.const (Go.Value.bool false)), type := 4, pos := "law.go:249", after := #[{ on := 32, ground := Go.Ground.data }, { on := 44, ground := Go.Ground.data }], guard := none }) (v := ?_) rfl (by kernel_rfl) (by kernel_rfl) (by kernel_rfl) (fun _ _ _ h => h) (Or.inl ⟨by rfl, ?_⟩) hHeld ?_
          rotate_left
          · intro w hSw; obtain ⟨q1, q2, q3, q4, q5, q6⟩ := HKC.out w hSw; go_simp; try (with_reducible rfl)
          try simp only [Act.put, List.setIfInBounds_toArray, List.set_cons_zero, List.set_cons_succ]
          refine wpAnyH_take (i := 46) (oi := { dst := some 8, op := Go.Op.assign (Go.Operand.tmp 137), type := 4, pos := "law.go:249", after := #[{ on := 45, ground := Go.Ground.data }, { on := 32, ground := Go.Ground.chain }, { on := 0, ground := Go.Ground.phase }, { on := 1, ground := Go.Ground.phase }, { on := 2, ground := Go.Ground.phase }, { on := 3, ground := Go.Ground.phase }, { on := 4, ground := Go.Ground.phase }, { on := 5, ground := Go.Ground.phase }, { on := 6, ground := Go.Ground.phase }, { on := 7, ground := Go.Ground.phase }, { on := 8, ground := Go.Ground.phase }, { on := 9, ground := Go.Ground.phase }, { on := 10, ground := Go.Ground.phase }, { on := 11, ground := Go.Ground.phase }, { on := 12, ground := Go.Ground.phase }, { on := 13, ground := Go.Ground.phase }, { on := 14, ground := Go.Ground.phase }, { on := 15, ground := Go.Ground.phase }, { on := 16, ground := Go.Ground.phase }, { on := 17, ground := Go.Ground.phase }, { on := 18, ground := Go.Ground.phase }, { on := 19, ground := Go.Ground.phase }, { on := 20, ground := Go.Ground.phase }, { on := 21, ground := Go.Ground.phase }, { on := 22, ground := Go.Ground.phase }, { on := 23, ground := Go.Ground.phase }, { on := 24, ground := Go.Ground.phase }, { on := 25, ground := Go.Ground.phase }, { on := 26, ground := Go.Ground.phase }, { on := 27, ground := Go.Ground.phase }, { on := 28, ground := Go.Ground.phase }, { on := 29, ground := Go.Ground.phase }, { on := 30, ground := Go.Ground.phase }, { on := 31, ground := Go.Ground.phase }, { on := 32, ground := Go.Ground.phase }, { on := 33, ground := Go.Ground.phase }, { on := 34, ground := Go.Ground.phase }, { on := 35, ground := Go.Ground.phase }, { on := 36, ground := Go.Ground.phase }, { on := 37, ground := Go.Ground.phase }, { on := 38, ground := Go.Ground.phase }, { on := 39, ground := Go.Ground.phase }, { on := 40, ground := Go.Ground.phase }, { on := 41, ground := Go.Ground.phase }, { on := 42, ground := Go.Ground.phase }, { on := 43, ground := Go.Ground.phase }, { on := 44, ground := Go.Ground.phase }, { on := 45, ground := Go.Ground.phase }], guard := none }) (v := ?_) rfl (by kernel_rfl) (by kernel_rfl) (by kernel_rfl) (fun _ _ _ h => h) (Or.inl ⟨by rfl, ?_⟩) hHeld ?_
          rotate_left
          · intro w hSw; obtain ⟨q1, q2, q3, q4, q5, q6⟩ := HKC.out w hSw; go_simp; try (with_reducible rfl)
          try simp only [Act.put, List.setIfInBounds_toArray, List.set_cons_zero, List.set_cons_succ]
          refine wpAnyH_done (by kernel_rfl) ?_ _
          go_wp2_with fail
          go_ret
          exact ⟨rfl, HBW.out.trans (hHeld.mono HBW.out.size)⟩
end Go.Proofs.YtpachmkklppmjaaDoor
