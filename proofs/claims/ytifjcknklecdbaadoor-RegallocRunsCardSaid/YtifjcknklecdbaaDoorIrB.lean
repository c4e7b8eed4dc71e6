/- ir.validIns' closures and ir.validEnd, by their contracts. -/
import Derived.Test.YtifjcknklecdbaaDoorMs24
import Derived.Deep.DeepCutAuto
import Derived.Deep.CutRange
set_option linter.unusedVariables false
set_option linter.unusedSimpArgs false
namespace Go.Proofs.YtifjcknklecdbaaDoor
open Go.RowKit Go.Maps

theorem zeroB (w : World) : (zeroValue 4).run Tryd.prog w = .ok (.bool false) w := by kernel_rfl
theorem between_ir (n lo hi : Int) (w : World) : Calls Tryd.prog 25 #[.int .i64 n, .int .i64 lo, .int .i64 hi] w fun e w' => e = .returned (.bool (bw n lo hi)) ∧ w = w' := by
  by_cases h0 : lo ≤ n
  · by_cases h1 : n ≤ hi
    · rw [show bw n lo hi = true from decide_eq_true ⟨h0, h1⟩]
      go_enter Tryd.func25, Tryd.ntmps25
      go_wp2_with fail
      go_ret
      exact ⟨rfl, rfl⟩
    · rw [show bw n lo hi = false from decide_eq_false (fun h => h1 h.2)]
      go_enter Tryd.func25, Tryd.ntmps25
      go_wp2_with fail
      go_ret
      exact ⟨rfl, rfl⟩
  · rw [show bw n lo hi = false from decide_eq_false (fun h => h0 h.1)]
    go_enter Tryd.func25, Tryd.ntmps25
    go_wp2_with fail
    go_ret
    exact ⟨rfl, rfl⟩
theorem register_ir (b : Nat) (R r : Int) (w : World) (hc : w.cell? ⟨b, 1, none⟩ = some (.int .i64 R)) (hb : b < w.heap.size) :
    Calls Tryd.prog 26 #[.int .i64 r, .pointer (some ⟨b, 0, none⟩)] w fun e w' => e = .returned (.bool (okR R r)) ∧ w = w' := by
  by_cases h0 : 0 ≤ r
  · by_cases h1 : r < R
    · rw [show okR R r = true from decide_eq_true ⟨h0, h1⟩]
      go_enter Tryd.func26, Tryd.ntmps26
      go_wp2_with fail
      go_ret
      exact ⟨rfl, rfl⟩
    · rw [show okR R r = false from decide_eq_false (fun h => h1 h.2)]
      go_enter Tryd.func26, Tryd.ntmps26
      go_wp2_with fail
      go_ret
      exact ⟨rfl, rfl⟩
  · rw [show okR R r = false from decide_eq_false (fun h => h0 h.1)]
    go_enter Tryd.func26, Tryd.ntmps26
    go_wp2_with fail
    go_ret
    exact ⟨rfl, rfl⟩
/-- What a symbol must be. -/
def symK (K : Kinds) (s : ByteArray) (b : Bool) : Bool := (K s).isSome && ((K s).getD false == b)
theorem symbol_ir (ar : Bool) (bm bi m n : Nat) (K : Kinds) (s : ByteArray) (w : World) (hm : w.cell? ⟨bm, 0, none⟩ = some (.map (some m))) (hlm : bm < w.heap.size) (hi : w.cell? ⟨bi, 5, none⟩ = some (.string s)) (hli : bi < w.heap.size) (hM : MpAt w m n (mapK K)) (hs : s.size ≤ maxLen) :
    Calls Tryd.prog 27 #[.bool ar, .pointer (some ⟨bm, 0, none⟩), .pointer (some ⟨bi, 0, none⟩)] w fun e w' => e = .returned (.bool (symK K s ar)) ∧ w = w' := by
  have hl := hM.look2 (t := 54) (e := 4) Tryd.underlying54 (zeroB w) s hs
  rw [(mapK_get K s).1, (mapK_get K s).2] at hl
  have HE := Lib.hid (show symK K s ar = ((K s).isSome && ((K s).getD false == ar)) from rfl)
  generalize symK K s ar = r at HE ⊢
  generalize (K s).isSome = o at HE hl
  generalize (K s).getD false = u at HE hl
  clear hM
  go_enter Tryd.func27, Tryd.ntmps27
  cases o
  · go_wp2_with fail
    go_ret
    exact ⟨by rw [HE.out]; rfl, rfl⟩
  · go_wp2_with fail
    go_ret
    exact ⟨by rw [HE.out]; simp, rfl⟩

set_option maxHeartbeats 3200000 in
set_option maxRecDepth 20000 in
theorem validEnd_any (nm : ByteArray) (R x tg els : Int) (ap bp cp : Option Addr) (an ac bn bc cn cc kind : Nat) (code : List IIns) (w : World) (hx : -9223372036854775808 ≤ x ∧ x ≤ 9223372036854775807) :
    Calls Tryd.prog 14 #[.agg #[.string nm, .int .i64 R, .slice ap an ac, .slice bp bn bc], .agg #[.slice cp cn cc, .int .u8 kind, .int .i64 x, .int .i64 tg, .int .i64 els]] w fun e w' => e = .returned (.bool (vEnd R bn ⟨code, kind, x, tg, els⟩)) ∧ Below w.heap.size w w' := by
  obtain ⟨r, hr⟩ : ∃ r, r = vEnd R bn ⟨code, kind, x, tg, els⟩ := ⟨_, rfl⟩
  rw [← hr]
  have HR := Lib.hid hr
  clear hr
  have hb0 : Below w.heap.size w ((w.alloc (.cells #[.string nm, .int .i64 R, .slice ap an ac, .slice bp bn bc] 25)).alloc (.cells #[.slice cp cn cc, .int .u8 kind, .int .i64 x, .int .i64 tg, .int .i64 els] 52)) := bAlloc (by simp) (bAlloc (Nat.le_refl _) (Below.refl _ _))
  have hF : ((w.alloc (.cells #[.string nm, .int .i64 R, .slice ap an ac, .slice bp bn bc] 25)).alloc (.cells #[.slice cp cn cc, .int .u8 kind, .int .i64 x, .int .i64 tg, .int .i64 els] 52)).cell? ⟨w.heap.size, 1, none⟩ = some (.int .i64 R) ∧ ((w.alloc (.cells #[.string nm, .int .i64 R, .slice ap an ac, .slice bp bn bc] 25)).alloc (.cells #[.slice cp cn cc, .int .u8 kind, .int .i64 x, .int .i64 tg, .int .i64 els] 52)).cell? ⟨w.heap.size, 3, none⟩ = some (.slice bp bn bc) := ⟨by simp [go_sem], by simp [go_sem]⟩
  have hK : ((w.alloc (.cells #[.string nm, .int .i64 R, .slice ap an ac, .slice bp bn bc] 25)).alloc (.cells #[.slice cp cn cc, .int .u8 kind, .int .i64 x, .int .i64 tg, .int .i64 els] 52)).cell? ⟨w.heap.size + 1, 1, none⟩ = some (.int .u8 kind) ∧ ((w.alloc (.cells #[.string nm, .int .i64 R, .slice ap an ac, .slice bp bn bc] 25)).alloc (.cells #[.slice cp cn cc, .int .u8 kind, .int .i64 x, .int .i64 tg, .int .i64 els] 52)).cell? ⟨w.heap.size + 1, 2, none⟩ = some (.int .i64 x) ∧ ((w.alloc (.cells #[.string nm, .int .i64 R, .slice ap an ac, .slice bp bn bc] 25)).alloc (.cells #[.slice cp cn cc, .int .u8 kind, .int .i64 x, .int .i64 tg, .int .i64 els] 52)).cell? ⟨w.heap.size + 1, 3, none⟩ = some (.int .i64 tg) ∧ ((w.alloc (.cells #[.string nm, .int .i64 R, .slice ap an ac, .slice bp bn bc] 25)).alloc (.cells #[.slice cp cn cc, .int .u8 kind, .int .i64 x, .int .i64 tg, .int .i64 els] 52)).cell? ⟨w.heap.size + 1, 4, none⟩ = some (.int .i64 els) := ⟨by simp [go_sem], by simp [go_sem], by simp [go_sem], by simp [go_sem]⟩
  have hz : ((w.alloc (.cells #[.string nm, .int .i64 R, .slice ap an ac, .slice bp bn bc] 25)).alloc (.cells #[.slice cp cn cc, .int .u8 kind, .int .i64 x, .int .i64 tg, .int .i64 els] 52)).heap.size = w.heap.size + 1 + 1 := by simp
  go_enter Tryd.func14, Tryd.ntmps14
  go_upto_region 1 with fail
  generalize (w.alloc (.cells #[.string nm, .int .i64 R, .slice ap an ac, .slice bp bn bc] 25)).alloc (.cells #[.slice cp cn cc, .int .u8 kind, .int .i64 x, .int .i64 tg, .int .i64 els] 52) = w0 at hb0 hF hK hz ⊢
  obtain ⟨f1, f3⟩ := hF
  obtain ⟨k1, k2, k3, k4⟩ := hK
  have l0 : w.heap.size < w0.heap.size := by omega
  have l1 : w.heap.size + 1 < w0.heap.size := by omega
  have HB := Lib.hid hb0
  clear hb0 hz hx
  go_cut [5] (fun v wx => v = .bool (okR R x) ∧ wx = w0)
  case first =>
    by_cases h0 : 0 ≤ x
    · by_cases h1 : x < R
      · have HE := Lib.hid (show okR R x = true from decide_eq_true ⟨h0, h1⟩)
        go_wp2_with fail
        go_meet
        exact ⟨by rw [HE.out], rfl⟩
      · have HE := Lib.hid (show okR R x = false from decide_eq_false (fun h => h1 h.2))
        go_wp2_with fail
        go_meet
        exact ⟨by rw [HE.out], rfl⟩
    · have HE := Lib.hid (show okR R x = false from decide_eq_false (fun h => h0 h.1))
      go_wp2_with fail
      go_meet
      exact ⟨by rw [HE.out], rfl⟩
  case rest =>
    obtain ⟨hv5, hw5⟩ := hcut
    rw [hv5, hw5]
    clear hv5 hw5
    go_upto_region 2 with fail
    go_cut [6] (fun v wx => v = .bool (okR (bn : Int) tg) ∧ wx = w0)
    case first =>
      by_cases h0 : 0 ≤ tg
      · by_cases h1 : tg < (bn : Int)
        · have HE := Lib.hid (show okR (bn : Int) tg = true from decide_eq_true ⟨h0, h1⟩)
          go_wp2_with fail
          go_meet
          exact ⟨by rw [HE.out], rfl⟩
        · have HE := Lib.hid (show okR (bn : Int) tg = false from decide_eq_false (fun h => h1 h.2))
          go_wp2_with fail
          go_meet
          exact ⟨by rw [HE.out], rfl⟩
      · have HE := Lib.hid (show okR (bn : Int) tg = false from decide_eq_false (fun h => h0 h.1))
        go_wp2_with fail
        go_meet
        exact ⟨by rw [HE.out], rfl⟩
    case rest =>
      obtain ⟨hv6, hw6⟩ := hcut
      rw [hv6, hw6]
      clear hv6 hw6
      go_upto_region 3 with fail
      go_cut [7] (fun v wx => v = .bool (okR (bn : Int) els) ∧ wx = w0)
      case first =>
        by_cases h0 : 0 ≤ els
        · by_cases h1 : els < (bn : Int)
          · have HE := Lib.hid (show okR (bn : Int) els = true from decide_eq_true ⟨h0, h1⟩)
            go_wp2_with fail
            go_meet
            exact ⟨by rw [HE.out], rfl⟩
          · have HE := Lib.hid (show okR (bn : Int) els = false from decide_eq_false (fun h => h1 h.2))
            go_wp2_with fail
            go_meet
            exact ⟨by rw [HE.out], rfl⟩
        · have HE := Lib.hid (show okR (bn : Int) els = false from decide_eq_false (fun h => h0 h.1))
          go_wp2_with fail
          go_meet
          exact ⟨by rw [HE.out], rfl⟩
      case rest =>
        obtain ⟨hv7, hw7⟩ := hcut
        rw [hv7, hw7]
        clear hv7 hw7
        have HV1 : Hid (kind = 1 → r = ((okR bn tg && isz x) && isz els)) := (show _ → _ from fun h => by rw [HR.out]; subst h; rfl)
        have HV2 : Hid (kind = 2 → r = ((okR R x && okR bn tg) && okR bn els)) := (show _ → _ from fun h => by rw [HR.out]; subst h; rfl)
        have HV3 : Hid (kind = 3 → r = ((isz x && isz tg) && isz els)) := (show _ → _ from fun h => by rw [HR.out]; subst h; rfl)
        have HV4 : Hid (kind ≠ 1 → kind ≠ 2 → kind ≠ 3 → r = false) := (show _ → _ from fun h1 h2 h3 => by rw [HR.out]; unfold vEnd; rw [if_neg h1, if_neg h2, if_neg h3])
        generalize okR R x = bx at HV1 HV2 HV3 HV4 ⊢
        generalize okR (bn : Int) tg = bt at HV1 HV2 HV3 HV4 ⊢
        generalize okR (bn : Int) els = be at HV1 HV2 HV3 HV4 ⊢
        clear HR
        rcases (show kind = 1 ∨ kind = 2 ∨ kind = 3 ∨ (kind ≠ 1 ∧ kind ≠ 2 ∧ kind ≠ 3) by omega) with hk | hk | hk | ⟨hk1, hk2, hk3⟩
        · have hv := HV1.out hk
          have HVV := Lib.hid hv
          clear hv HV1 HV2 HV3 HV4
          subst hk
          cases bt
          · skip
            go_wp2_with fail
            go_ret
            exact ⟨by rw [HVV.out]; simp [isz], HB.out⟩
          · skip
            by_cases hx : x = 0
            · skip
              by_cases hels : els = 0
              · skip
                go_wp2_with fail
                go_ret
                exact ⟨by rw [HVV.out]; simp [isz, hx, hels], HB.out⟩
              · skip
                go_wp2_with fail
                go_ret
                exact ⟨by rw [HVV.out]; simp [isz, hx, hels], HB.out⟩
            · skip
              go_wp2_with fail
              go_ret
              exact ⟨by rw [HVV.out]; simp [isz, hx], HB.out⟩
        · have hv := HV2.out hk
          have HVV := Lib.hid hv
          clear hv HV1 HV2 HV3 HV4
          subst hk
          cases bx
          · skip
            go_wp2_with fail
            go_ret
            exact ⟨by rw [HVV.out]; simp [isz], HB.out⟩
          · cases bt
            · skip
              go_wp2_with fail
              go_ret
              exact ⟨by rw [HVV.out]; simp [isz], HB.out⟩
            · skip
              go_wp2_with fail
              go_ret
              exact ⟨by rw [HVV.out]; simp [isz], HB.out⟩
        · have hv := HV3.out hk
          have HVV := Lib.hid hv
          clear hv HV1 HV2 HV3 HV4
          subst hk
          by_cases hx : x = 0
          · skip
            by_cases htg : tg = 0
            · skip
              by_cases hels : els = 0
              · skip
                go_wp2_with fail
                go_ret
                exact ⟨by rw [HVV.out]; simp [isz, hx, htg, hels], HB.out⟩
              · skip
                go_wp2_with fail
                go_ret
                exact ⟨by rw [HVV.out]; simp [isz, hx, htg, hels], HB.out⟩
            · skip
              go_wp2_with fail
              go_ret
              exact ⟨by rw [HVV.out]; simp [isz, hx, htg], HB.out⟩
          · skip
            go_wp2_with fail
            go_ret
            exact ⟨by rw [HVV.out]; simp [isz, hx], HB.out⟩
        · have hv := HV4.out hk1 hk2 hk3
          have HVV := Lib.hid hv
          clear hv HV1 HV2 HV3 HV4
          have g1 : ((kind : Int) == 1) = false := beq_eq_false_iff_ne.2 (by omega)
          have g2 : ((kind : Int) == 2) = false := beq_eq_false_iff_ne.2 (by omega)
          have g3 : ((kind : Int) == 3) = false := beq_eq_false_iff_ne.2 (by omega)
          go_wp2_with fail
          go_ret
          exact ⟨by rw [HVV.out]; simp [isz], HB.out⟩
end Go.Proofs.YtifjcknklecdbaaDoor
