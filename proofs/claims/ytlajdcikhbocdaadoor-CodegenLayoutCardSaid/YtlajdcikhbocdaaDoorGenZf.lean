/- The law CodegenLayout. -/
import Derived.Test.YtlajdcikhbocdaaDoorMgL
set_option linter.unusedVariables false
set_option linter.unusedSimpArgs false
namespace Go.Proofs.YtlajdcikhbocdaaDoor
open Go.RowKit Go.Maps

set_option maxHeartbeats 1600000 in
set_option maxRecDepth 20000 in
theorem rlayout_any (av : Value) (A : List Arr) (w : World) (hA : ArsAt w av A) (hl : A.length ≤ 1000) (hm : ∀ k, k < A.length → (A.getD k default).2 ≤ 1073741824) (hlo : ∀ k, k < A.length → -9223372036854775808 ≤ (A.getD k default).2) :
    Calls Tryd.prog 17 #[av] w fun e w' => ∃ v, e = .returned (.tuple #[v, .int .i64 (addrG A A.length)]) ∧ w'.ownsRow w.heap.size 3 1 v (addrs A A.length).length ((addrs A A.length).map (Value.int .i64)) ∧ Below w.heap.size w w' := by
  obtain ⟨ap, ac, rfl⟩ := hA.shape
  have HA := Lib.hid hA
  have HM := Lib.hid hm
  have HBD := Lib.hid (addrG_bd hm)
  clear hA hm
  go_enter Tryd.func17, Tryd.ntmps17
  go_wp2_with fail
  go_loopw [4, 5, 6] (fun s4 s5 s6 wx => ∃ k : Nat, s6 = .int .i64 k ∧ s5 = .int .i64 (addrG A k) ∧ k ≤ A.length ∧ Hid (wx.ownsRow w.heap.size 3 1 s4 (addrs A k).length ((addrs A k).map (Value.int .i64))) ∧ Hid (Below w.heap.size w wx)) (fun _ _ s6 _ => A.length - (intOf s6).toNat)
  case atStart => exact ⟨0, rfl, rfl, Nat.zero_le _, World.ownsRow_nil _ _ _ _, Below.refl _ _⟩
  case round =>
    obtain ⟨k, rfl, rfl, hk, HO, HB⟩ := hrel
    obtain ⟨w1, rfl⟩ : ∃ W : World, W = wr := ⟨_, rfl⟩
    have hs1 := HB.out.size
    by_cases hlt : k < A.length
    · have hltI : (k : Int) < A.length := by omega
      obtain ⟨_, _, e1, hen⟩ := HA.out
      injection e1 with e1 e2 e3
      subst e1 e3
      obtain ⟨m, off, rfl, hm, n0, n1⟩ := hen k hlt
      clear hen e2
      have h1 := HM.out k hlt
      have h2 := HBD.out k hk
      have h3 := hlo k hlt
      have HNX := Lib.hid (addrs_next A k)
      have HAX := Lib.hid (show addrG A (k + 1) = addrG A k + max (A.getD k default).2 0 from rfl)
      have hal : (addrs A k).length + 1 ≤ 1000000 := by rw [addrs_len]; omega
      generalize A.getD k default = en at n0 n1 h1 h3 HAX
      obtain ⟨s, ln⟩ := en
      simp only at n0 n1 h1 h3 HAX
      generalize addrG A k = x at h2 HNX HAX ⊢
      generalize addrs A k = L at HO HNX hal
      have hwr : IntKind.i64.wrap (x + max ln 0) = x + max ln 0 := IntWalk.i64_in _ (by omega)
      have HN1 := Lib.hid n1
      have HOA := Lib.hid (show ∀ o : Obj, (w1.alloc o).ownsRow w.heap.size 3 1 _ L.length (L.map (Value.int .i64)) from fun o => own0_block HO.out fun b hb => (show Below w1.heap.size w1 (w1.alloc o) from bAlloc (Nat.le_refl _) (Below.refl _ _)).block b (own0_lt HO.out hb))
      clear n0 n1
      go_wp2_with (first | (at_builtin; refine wpList_append_one rfl _ _ rfl w.heap.size _ L rfl (HOA.out _) w1.heap.size 1 x rfl (by simp [go_sem]) hal (by simp; omega) ?_))
      intro p c' w2 hO hgr hd
      have HO2 : Hid (w2.ownsRow w.heap.size 3 1 (.slice p (L.length + 1) c') (L ++ [x]).length ((L ++ [x]).map (Value.int .i64))) := (show World.ownsRow _ _ _ _ _ _ _ by rw [List.length_append, List.map_append]; exact hO)
      have hB2 : Below w.heap.size w w2 := HB.out.trans ((show Below w.heap.size w1 _ from bAlloc (by omega) (Below.refl _ _)).trans ⟨hgr.os, hgr.tape, hgr.output, hgr.size, fun b hb => hgr.block b (by simp; omega) (fun e => by have := own0_ge HO.out e.symm; omega)⟩)
      have n1 : w2.cell? ⟨m, off + k * 2 + 1, none⟩ = some (.int .i64 ln) := (hB2.cell (p := ⟨m, off + k * 2 + 1, none⟩) hm).trans HN1.out
      have hm2 : m < w2.heap.size := Nat.lt_of_lt_of_le hm hB2.size
      have HB2 := Lib.hid hB2
      clear hO hgr hd hB2 HN1 hm
      go_wp2_with fail
      go_roundw
      case rel => exact ⟨k + 1, by go_num, by rw [HAX.out], by omega, by rw [HNX.out]; exact HO2.out, HB2⟩
      case measure => simp [intOf]; omega
    · have hkn : k = A.length := by omega
      subst hkn
      go_wp2_with fail
      go_ret2
      exact ⟨_, rfl, HO.out, HB.out⟩
theorem adr_below {w w' : World} {p : Option Addr} {A : List Arr} (h : ∀ k, k < A.length → ∃ m, p = some ⟨m, 0, none⟩ ∧ m < w.heap.size ∧ w.cell? ⟨m, k, none⟩ = some (.int .i64 (addrG A k))) (hb : Below w.heap.size w w') : ∀ k, k < A.length → ∃ m, p = some ⟨m, 0, none⟩ ∧ m < w'.heap.size ∧ w'.cell? ⟨m, k, none⟩ = some (.int .i64 (addrG A k)) := fun k hk => by
  obtain ⟨m, rfl, hm, hc⟩ := h k hk
  exact ⟨m, rfl, Nat.lt_of_lt_of_le hm hb.size, (hb.cell (p := ⟨m, k, none⟩) hm).trans hc⟩
theorem adr_read2 {w : World} {B : Nat} {v : Value} {A : List Arr} (h : w.ownsRow B 3 1 v (addrs A A.length).length ((addrs A A.length).map (Value.int .i64))) :
    ∃ p cap, v = .slice p A.length cap ∧ ∀ k, k < A.length → ∃ m, p = some ⟨m, 0, none⟩ ∧ m < w.heap.size ∧ w.cell? ⟨m, k, none⟩ = some (.int .i64 (addrG A k)) := adr_read h

set_option maxHeartbeats 3200000 in
set_option maxRecDepth 20000 in
theorem layoutLaw (av : Value) (A : List Arr) (w : World) (hT : Tab w) (hZ : TabZ w) (hA : ArsAt w av A) (hAl : A.length ≤ 9223372036854775807) (hlo : ∀ k, k < A.length → -9223372036854775808 ≤ (A.getD k default).2) :
    Calls Tryd.prog 5 #[av] w fun e w' => e = .returned (.bool true) ∧ Below w.heap.size w w' := by
  obtain ⟨ap, ac, rfl⟩ := hA.shape
  have HA := Lib.hid hA
  have HLO := Lib.hid hlo
  have HT := Lib.hid hT
  have HZ := Lib.hid hZ
  clear hA hlo hT hZ
  go_enter Tryd.func5, Tryd.ntmps5
  go_wp2_with fail
  refine (awake21 w HT.out HZ.out).mono ?_
  rintro e w1 ⟨rfl, hb1⟩
  have HB1 := Lib.hid hb1
  have HA1 := Lib.hid (HA.out.below hb1 (Nat.le_refl _))
  clear hb1 HA HT HZ
  by_cases h40 : 40 < A.length
  · have h40I : (A.length : Int) > 40 := by omega
    clear h40
    go_wp2_with fail
    go_ret
    exact ⟨rfl, HB1.out⟩
  have h40I : ¬ (A.length : Int) > 40 := by omega
  have hl40 : A.length ≤ 40 := by omega
  clear h40 hAl
  go_wp2_with fail
  clear h40I
  go_loopw [3] (fun s3 wx => ∃ k : Nat, s3 = .int .i64 k ∧ k ≤ A.length ∧ Hid (∀ i, i < k → (A.getD i default).2 ≤ 1073741824) ∧ Hid (Below w1.heap.size w1 wx)) (fun s3 _ => A.length - (intOf s3).toNat)
  case atStart => exact ⟨0, rfl, Nat.zero_le _, fun i hi => by omega, Below.refl _ _⟩
  case round =>
    obtain ⟨k, rfl, hk, HOK, HB⟩ := hrel
    obtain ⟨w2, rfl⟩ : ∃ W : World, W = wr := ⟨_, rfl⟩
    have HA2 := Lib.hid (HA1.out.below HB.out (Nat.le_refl _))
    by_cases hlt : k < A.length
    · have hltI : (k : Int) < A.length := by omega
      obtain ⟨_, _, e1, hen⟩ := HA2.out
      injection e1 with e1 e2 e3
      subst e1 e3
      obtain ⟨m, off, rfl, hm, n0, n1⟩ := hen k hlt
      clear hen e2
      have HNX := Lib.hid (fun (h : (A.getD k default).2 ≤ 1073741824) => (show ∀ i, i < k + 1 → (A.getD i default).2 ≤ 1073741824 from fun i hi => by
        by_cases e : i = k
        · subst e; exact h
        · exact HOK.out i (by omega)))
      generalize (A.getD k default).2 = ln at n1 HNX
      clear n0
      by_cases hbig : ln > 1073741824
      · go_wp2_with fail
        go_ret
        exact ⟨rfl, HB1.out.trans (HB.out.mono HB1.out.size)⟩
      · have HN2 := Lib.hid (HNX.out (by omega))
        go_wp2_with fail
        go_roundw
        case rel => exact ⟨k + 1, by go_num, by omega, HN2, HB⟩
        case measure => simp [intOf]; omega
    · have hkn : k = A.length := by omega
      subst hkn
      clear hlt hk
      go_wp2_with fail
      refine (layout_any _ A w2 HA2.out (by omega) HOK.out HLO.out).mono ?_
      rintro e w3 ⟨lv, rfl, hO, hb3⟩
      obtain ⟨lp, lc, rfl, hAD⟩ := adr_read2 hO
      have HAD := Lib.hid hAD
      have HA3 := Lib.hid (HA2.out.below hb3 (Nat.le_refl _))
      have HB3 := Lib.hid (HB.out.trans (hb3.mono HB.out.size))
      clear hO hb3 hAD HA2 HB
      go_wp2_with fail
      refine (rlayout_any _ A w3 HA3.out (by omega) HOK.out HLO.out).mono ?_
      rintro e w4 ⟨rv, rfl, hO, hb4⟩
      obtain ⟨rp, rc, rfl, hRD⟩ := adr_read2 hO
      have HRD := Lib.hid hRD
      have HAD4 := Lib.hid (adr_below HAD.out hb4)
      have HB4 := Lib.hid (HB3.out.trans (hb4.mono HB3.out.size))
      clear hO hb4 hRD HA3 HB3 HAD
      go_wp2_with fail
      go_loopw [8] (fun s8 wx => ∃ k : Nat, s8 = .int .i64 k ∧ k ≤ A.length ∧ Hid (Below w4.heap.size w4 wx)) (fun s8 _ => A.length - (intOf s8).toNat)
      case atStart => exact ⟨0, rfl, Nat.zero_le _, Below.refl _ _⟩
      case round =>
        obtain ⟨k, rfl, hk, HB⟩ := hrel
        obtain ⟨w5, rfl⟩ : ∃ W : World, W = wr := ⟨_, rfl⟩
        by_cases hlt : k < A.length
        · have hltI : (k : Int) < A.length := by omega
          obtain ⟨m, rfl, hm, x0⟩ := adr_below HAD4.out HB.out k hlt
          obtain ⟨m2, rfl, hm2, y0⟩ := adr_below HRD.out HB.out k hlt
          have HBN := Lib.hid (HB.out.trans ((Below.drew (Below.refl w5.heap.size w5)).mono HB.out.size))
          go_wp2_with fail
          go_region
          all_goals (
            go_wp2_with fail
            go_roundw
            case rel => exact ⟨k + 1, by go_num, by omega, HBN⟩
            case measure => simp [intOf]; omega)
        · have hkn : k = A.length := by omega
          subst hkn
          go_wp2_with fail
          go_ret
          exact ⟨rfl, HB1.out.trans ((HB4.out.mono HB1.out.size).trans (HB.out.mono (Nat.le_trans HB1.out.size HB4.out.size)))⟩
end Go.Proofs.YtlajdcikhbocdaaDoor
