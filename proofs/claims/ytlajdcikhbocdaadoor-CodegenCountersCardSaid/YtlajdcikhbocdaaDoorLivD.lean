/- Sets of registers: the functions of liveness.set, by their contracts. -/
import Derived.Test.YtlajdcikhbocdaaDoorLivC
import Derived.Test.YtlajdcikhbocdaaDoorLivS
import Derived.Laws.AppendOwnNone
set_option linter.unusedVariables false
set_option linter.unusedSimpArgs false
namespace Go.Proofs.YtlajdcikhbocdaaDoor
open Go.RowKit

theorem SetV.keep {w w' : World} {m : Nat} {v : Value} {x : Nat} (h : SetV w m v x) (hb : ∀ k, v.ownBlock = some k → w'.heap[k]? = w.heap[k]?) : SetV w' m v x := own0_block h hb
theorem SetV.lt {w : World} {m : Nat} {v : Value} {x k : Nat} (h : SetV w m v x) (hk : v.ownBlock = some k) : k < w.heap.size := own0_lt h hk
theorem SetV.below {B : Nat} {w w' : World} {m : Nat} {v : Value} {x : Nat} (h : SetV w m v x) (hb : Below B w w') (hB : w.heap.size ≤ B) : SetV w' m v x := h.keep fun k hk => hb.block k (Nat.lt_of_lt_of_le (h.lt hk) hB)
theorem pow64 : (2 : Nat) ^ 64 = 18446744073709551616 := by decide
theorem bit_val (r : Nat) (hr : r < 64) : IntKind.u64.wrap ((2 : Int) ^ r) = ((2 ^ r : Nat) : Int) := by
  have h : 2 ^ r < 18446744073709551616 := by rw [← pow64]; exact Nat.pow_lt_pow_right (by decide) hr
  rw [IntKind.wrap_u64, show ((2 : Int) ^ r) = ((2 ^ r : Nat) : Int) by simp]
  generalize 2 ^ r = y at h ⊢
  omega
theorem add_val (x r : Nat) (hr : r < 64) (hx : x < 18446744073709551616) : bits BinOp.or IntKind.u64 (x : Int) (IntKind.u64.wrap ((2 : Int) ^ r)) = ((addB x r : Nat) : Int) := by
  rw [bit_val r hr, bits_or_u64_nat x _ hx (by rw [← pow64]; exact Nat.pow_lt_pow_right (by decide) hr)]; rfl
theorem rem_val (x r : Nat) (hr : r < 64) (hx : x < 18446744073709551616) : bits BinOp.andNot IntKind.u64 (x : Int) (IntKind.u64.wrap ((2 : Int) ^ r)) = ((remB x r : Nat) : Int) := by
  rw [bit_val r hr, u64_andNot_nat x _ hx (by rw [← pow64]; exact Nat.pow_lt_pow_right (by decide) hr)]; rfl

set_option maxRecDepth 100000 in
/-- add, where the set has a word. -/
theorem add_one (b cap x r : Nat) (w : World) (hr : r < 64) (hx : x < 18446744073709551616) (hc : w.cell? ⟨b, 0, none⟩ = some (.int .u64 x)) (hf : w.frozen? ⟨b, 0, none⟩ = false) :
    Calls Tryd.prog 63 #[.slice (some ⟨b, 0, none⟩) 1 cap, .int .i64 r] w fun e w' => e = .returned (.tuple #[]) ∧ (w.setCell ⟨b, 0, none⟩ (.int .u64 (addB x r))).drew = w' := by
  have hq : (r : Int) / 64 = 0 := by omega
  have hm : (r : Int).tmod 64 = r := Int.tmod_eq_of_lt (by omega) (by omega)
  have hw0 : IntKind.i64.wrap 0 = 0 := by decide
  have hwr : IntKind.i64.wrap (r : Int) = r := IntWalk.i64_in _ (by omega)
  have HV := Lib.hid (add_val x r hr hx)
  go_enter Tryd.func63, Tryd.ntmps63
  go_wp2_with fail
  go_still_tail 10, (by kernel_rfl)
  go_wp2_with fail
  go_end0
  exact ⟨rfl, by rw [HV.out]⟩
set_option maxRecDepth 100000 in
/-- remove, where the set has a word. -/
theorem remove_one (b cap x r : Nat) (w : World) (hr : r < 64) (hx : x < 18446744073709551616) (hc : w.cell? ⟨b, 0, none⟩ = some (.int .u64 x)) (hf : w.frozen? ⟨b, 0, none⟩ = false) :
    Calls Tryd.prog 61 #[.slice (some ⟨b, 0, none⟩) 1 cap, .int .i64 r] w fun e w' => e = .returned (.tuple #[]) ∧ (w.setCell ⟨b, 0, none⟩ (.int .u64 (remB x r))).drew = w' := by
  have hq : (r : Int) / 64 = 0 := by omega
  have hm : (r : Int).tmod 64 = r := Int.tmod_eq_of_lt (by omega) (by omega)
  have hw0 : IntKind.i64.wrap 0 = 0 := by decide
  have hwr : IntKind.i64.wrap (r : Int) = r := IntWalk.i64_in _ (by omega)
  have HV := Lib.hid (rem_val x r hr hx)
  go_enter Tryd.func61, Tryd.ntmps61
  go_wp2_with fail
  go_still_tail 10, (by kernel_rfl)
  go_wp2_with fail
  go_end0
  exact ⟨rfl, by rw [HV.out]⟩

/-- What a change of a set leaves. -/
def SetPost (m : Nat) (v : Value) (y : Nat) (w : World) (e : Ending) (w' : World) : Prop := e = .returned (.tuple #[]) ∧ SetV w' m v y ∧ w.grownBy w' v.ownBlock
theorem set_post {b cap x : Nat} {w : World} (h : SetV w 1 (.slice (some ⟨b, 0, none⟩) 1 cap) x) (y : Nat) : SetV ((w.setCell ⟨b, 0, none⟩ (.int .u64 y)).drew) 1 (.slice (some ⟨b, 0, none⟩) 1 cap) y ∧ w.grownBy ((w.setCell ⟨b, 0, none⟩ (.int .u64 y)).drew) (some b) :=
  ⟨(h.put rfl y).keep fun _ _ => rfl, ⟨rfl, rfl, rfl, by simp [World.setCell], fun k hk hne => Below.heap_setCell _ _ _ _ (fun e => hne (by rw [e]))⟩⟩
theorem set_room {m x : Nat} (hm : m ≤ 1) (hx : x < 2 ^ (64 * m)) : x < 18446744073709551616 := by
  have : m = 0 ∨ m = 1 := by omega
  rcases this with rfl | rfl
  · simp at hx; omega
  · simpa using hx
theorem add_any (m x r : Nat) (v : Value) (w : World) (hm : m ≤ 1) (hr : r < 64 * m) (hx : x < 2 ^ (64 * m)) (h : SetV w m v x) :
    Calls Tryd.prog 63 #[v, .int .i64 r] w (SetPost m v (addB x r) w) := by
  have hm1 : m = 1 := by omega
  have hx2 := set_room hm hx
  subst hm1
  obtain ⟨b, cap, rfl, hb, hc, hf⟩ := h.one
  refine (add_one b cap x r w (by omega) hx2 hc hf).mono ?_
  rintro e w' ⟨rfl, rfl⟩
  obtain ⟨h1, h2⟩ := set_post h (addB x r)
  exact ⟨rfl, h1, h2⟩
theorem remove_any (m x r : Nat) (v : Value) (w : World) (hm : m ≤ 1) (hr : r < 64 * m) (hx : x < 2 ^ (64 * m)) (h : SetV w m v x) :
    Calls Tryd.prog 61 #[v, .int .i64 r] w (SetPost m v (remB x r) w) := by
  have hm1 : m = 1 := by omega
  have hx2 := set_room hm hx
  subst hm1
  obtain ⟨b, cap, rfl, hb, hc, hf⟩ := h.one
  refine (remove_one b cap x r w (by omega) hx2 hc hf).mono ?_
  rintro e w' ⟨rfl, rfl⟩
  obtain ⟨h1, h2⟩ := set_post h (remB x r)
  exact ⟨rfl, h1, h2⟩

theorem or_val (x y : Nat) (hx : x < 18446744073709551616) (hy : y < 18446744073709551616) : bits BinOp.or IntKind.u64 (x : Int) (y : Int) = ((x ||| y : Nat) : Int) := bits_or_u64_nat x y hx hy
theorem join_any (m x y : Nat) (v t : Value) (w : World) (hm : m ≤ 1) (hx : x < 2 ^ (64 * m)) (hy : y < 2 ^ (64 * m)) (h : SetV w m v x) (ht : SetV w m t y) :
    Calls Tryd.prog 60 #[v, t] w (SetPost m v (x ||| y) w) := by
  have hmm : m = 0 ∨ m = 1 := by omega
  have hx2 := set_room hm hx
  have hy2 := set_room hm hy
  rcases hmm with rfl | rfl
  · obtain ⟨p, cap, rfl⟩ := h.nil
    obtain ⟨p2, cap2, rfl⟩ := ht.nil
    have H := Lib.hid h
    clear h ht hx hy hx2 hy2
    go_enter Tryd.func60, Tryd.ntmps60
    go_wp2_with fail
    refine wp_loop_rounds 1 ?_
    rw [rounds_succ]
    go_wp2_with fail
    go_end0
    exact ⟨rfl, H.out.any, ⟨rfl, rfl, rfl, Nat.le_refl _, fun _ _ _ => rfl⟩⟩
  · obtain ⟨b, cap, rfl, hb, hc, hf⟩ := h.one
    obtain ⟨b2, cap2, rfl, hb2, hc2, -⟩ := ht.one
    have HV := Lib.hid (or_val x y hx2 hy2)
    have H := Lib.hid h
    clear h ht hx hy hx2 hy2
    go_enter Tryd.func60, Tryd.ntmps60
    go_wp2_with fail
    refine wp_loop_rounds 2 ?_
    rw [rounds_succ]
    go_wp2_with fail
    rw [rounds_succ]
    go_wp2_with fail
    go_end0
    rw [HV.out]
    exact ⟨rfl, H.out.put rfl _, ⟨rfl, rfl, rfl, by simp [World.setCell], fun k hk hne => Below.heap_setCell _ _ _ _ (fun e => hne (by rw [e]; rfl))⟩⟩

/-- The library's table. -/
def TabZ (w : World) : Prop := 1 < w.heap.size ∧ ∀ j, j < 64 → w.cell? ⟨1, j, none⟩ = some (.int .u8 (Lib.deBruijn64tab.getD j 0))
theorem TabZ.below {B : Nat} {w w' : World} (h : TabZ w) (hb : Below B w w') (hB : 1 < B) : TabZ w' :=
  ⟨Nat.lt_of_lt_of_le h.1 hb.size, fun j hj => (hb.cell (p := ⟨1, j, none⟩) hB).trans (h.2 j hj)⟩
theorem TabZ.of_below {w w' : World} (h : TabZ w) (hb : Below w.heap.size w w') : TabZ w' := h.below hb h.1
theorem tz_key (x a : Nat) (hx : x < 18446744073709551616) (hx0 : x ≠ 0) (hlow : x &&& (18446744073709551616 - x) = a) :
    IntKind.u64.wrap (bits BinOp.and IntKind.u64 (x : Int) (IntKind.u64.wrap (-(x : Int))) * 285870213051353865) / 288230376151711744 = ((a * 285870213051353865 % 18446744073709551616 / 288230376151711744 : Nat) : Int) := by
  have e1 : IntKind.u64.wrap (-(x : Int)) = ((18446744073709551616 - x : Nat) : Int) := by rw [IntKind.wrap_u64]; omega
  rw [e1, bits_and_u64_nat x _ hx (by omega), hlow, IntKind.wrap_u64]
  omega
theorem tz_core (x k idx : Nat) (w : World) (hx0 : ((x : Int) == 0) = false)
    (key : IntKind.u64.wrap (bits BinOp.and IntKind.u64 (x : Int) (IntKind.u64.wrap (-(x : Int))) * 285870213051353865) / 288230376151711744 = (idx : Int))
    (hi : idx < 64) (hk : k < 64) (hcell : w.cell? ⟨1, idx, none⟩ = some (.int .u8 k)) :
    Calls Tryd.prog 76 #[.int .u64 x] w fun e w' => e = .returned (.int .i64 k) ∧ w = w' := by
  go_enter Tryd.func76, Tryd.ntmps76
  go_wp2_with (simp only [key])
  go_ret
  exact ⟨rfl, rfl⟩
theorem tz_any (x : Nat) (w : World) (hx0 : x ≠ 0) (hx : x < 18446744073709551616) (hT : TabZ w) : Calls Tryd.prog 76 #[.int .u64 x] w fun e w' => e = .returned (.int .i64 (Lib.ctz 64 x)) ∧ w = w' := by
  obtain ⟨hlow, hk⟩ := Lib.lowest_bit 64 x hx0 hx
  obtain ⟨hi, htab⟩ := Lib.deBruijn64_at _ hk
  have hcell := hT.2 _ hi
  rw [htab] at hcell
  exact tz_core x _ _ w (by simp; omega) (tz_key x _ hx hx0 hlow) hi hk hcell

/-- The registers of a set, as a slice of the call's own. -/
def ListPost (x : Nat) (w : World) (e : Ending) (w' : World) : Prop := ∃ v, e = .returned v ∧ RdI w' v ((bitsL x).map Int.ofNat) ∧ (∀ k, v.ownBlock = some k → w.heap.size ≤ k) ∧ Below w.heap.size w w'
theorem sub_val (x : Nat) (hx0 : x ≠ 0) (hx : x < 18446744073709551616) : IntKind.u64.wrap ((x : Int) - 1) = ((x - 1 : Nat) : Int) := by rw [IntKind.wrap_u64]; omega
theorem and_val (x y : Nat) (hx : x < 18446744073709551616) (hy : y < 18446744073709551616) : bits BinOp.and IntKind.u64 (x : Int) (y : Int) = ((x &&& y : Nat) : Int) := bits_and_u64_nat x y hx hy
theorem ctz_small (x : Nat) (hx0 : x ≠ 0) (hx : x < 18446744073709551616) : Lib.ctz 64 x < 64 := ctz_lt (R := 64) hx0 (by rw [pow64]; exact hx) (Nat.le_refl _)
/-- How many registers a set has. -/
def pcB (y : Nat) : Nat := (List.range 64).countP fun j => y.testBit j
theorem pcB_le (y : Nat) : pcB y ≤ 64 := by
  have := List.countP_le_length (p := fun j => y.testBit j) (l := List.range 64)
  simpa [pcB] using this
theorem countP_less (p q : Nat → Bool) (t : Nat) (hp : p t = true) (hq : q t = false) (hpq : ∀ j, q j = true → p j = true) : ∀ l : List Nat, t ∈ l → l.countP q + 1 ≤ l.countP p
  | [], h => by cases h
  | a :: l, h => by
    have hle : l.countP q ≤ l.countP p := List.countP_mono_left (fun x _ hx => hpq x hx)
    rw [List.countP_cons, List.countP_cons]
    by_cases e : a = t
    · subst e
      rw [if_pos hp, if_neg (by rw [hq]; exact Bool.noConfusion)]; omega
    · have := countP_less p q t hp hq hpq l (by rcases List.mem_cons.1 h with h | h; exact absurd h.symm e; exact h)
      by_cases hqa : q a = true
      · rw [if_pos hqa, if_pos (hpq a hqa)]; omega
      · rw [if_neg hqa]; omega
theorem pcB_next {y : Nat} (h0 : y ≠ 0) (hy : y < 18446744073709551616) : pcB (y &&& (y - 1)) + 1 ≤ pcB y := by
  obtain ⟨m, hm, ht⟩ := Lib.ctzFrom_spec 64 y (by omega) (by rw [pow64]; exact hy)
  generalize Lib.ctzFrom 64 y = t at hm ht
  have h1 : ∀ j, (y &&& (y - 1)).testBit j = (y.testBit j && decide (j ≠ t)) := fun j => by rw [hm]; exact low_bit t m j
  have h2 : y.testBit t = true := by rw [hm, Nat.testBit_two_pow_mul]; simp
  unfold pcB
  simp only [h1]
  exact countP_less (fun j => y.testBit j) _ t h2 (by simp) (fun j hj => by simp only [Bool.and_eq_true] at hj; exact hj.1) _ (List.mem_range.2 ht)
theorem bitsF_len : ∀ (k x : Nat), (bitsF k x).length ≤ k
  | 0, _ => by simp [bitsF]
  | k + 1, x => by
    unfold bitsF
    split
    · simp
    · have := bitsF_len k (x &&& (x - 1))
      simp; omega
set_option maxHeartbeats 1600000 in
theorem list_any (m x : Nat) (v : Value) (w : World) (hm : m ≤ 1) (hx : x < 2 ^ (64 * m)) (h : SetV w m v x) (hT : TabZ w) :
    Calls Tryd.prog 62 #[v] w (ListPost x w) := by
  have hmm : m = 0 ∨ m = 1 := by omega
  have hx2 := set_room hm hx
  rcases hmm with rfl | rfl
  · obtain ⟨p, cap, rfl⟩ := h.nil
    have h0 : x = 0 := by simpa using hx
    subst h0
    clear h hx hx2
    go_enter Tryd.func62, Tryd.ntmps62
    go_wp2_with fail
    refine wp_loop_rounds 1 ?_
    rw [rounds_succ]
    go_wp2_with fail
    go_ret
    exact ⟨_, rfl, by rw [bitsL_zero]; exact rdI_nil _, fun k hk => (by cases hk), Below.refl _ _⟩
  · obtain ⟨b, cap, rfl, hb, hc, hf⟩ := h.one
    have HT := Lib.hid hT
    clear h hx hf hT
    go_enter Tryd.func62, Tryd.ntmps62
    go_wp2_with fail
    refine wp_loop_rounds 2 ?_
    rw [rounds_succ]
    go_wp2_with fail
    go_loopw [3, 5] (fun l c wr => ∃ (ds : List Int) (y : Nat), c = .int .u64 y ∧ y < 18446744073709551616 ∧ Hid ((bitsL x).map Int.ofNat = ds ++ (bitsL y).map Int.ofNat) ∧ Hid (wr.ownsRow w.heap.size 3 1 l ds.length (ds.map (Value.int .i64))) ∧ Hid (Below w.heap.size w wr) ∧ ds.length + pcB y ≤ 64) (fun _ c _ => (intOf c).toNat)
    case atStart => exact ⟨[], x, rfl, hx2, (List.nil_append _).symm, World.ownsRow_nil _ _ _ _, Below.refl _ _, by have := pcB_le x; simp; omega⟩
    case round =>
      obtain ⟨ds, y, rfl, hy, HE, HO, HB, hpcb⟩ := hrel
      obtain ⟨w1, rfl⟩ : ∃ W : World, W = wr := ⟨_, rfl⟩
      obtain ⟨q, c, rfl⟩ := (RdI.of_own HO.out).shape
      by_cases h0 : y = 0
      · subst h0
        go_wp2_with fail
        rw [rounds_succ]
        go_wp2_with fail
        go_ret
        refine ⟨_, rfl, ?_, fun k hk => (HO.out.lt k hk).1, HB.out⟩
        have e := HE.out
        rw [bitsL_zero, List.map_nil, List.append_nil] at e
        rw [e]
        exact RdI.of_own HO.out
      · have hne : ((y : Int) != 0) = true := by simp; omega
        have HZ := Lib.hid (tz_any y w1 h0 hy (HT.out.of_below HB.out))
        have hct := ctz_small y h0 hy
        have HN := Lib.hid (bitsL_next h0)
        have HS := Lib.hid (sub_val y h0 hy)
        have HA := Lib.hid (and_val y (y - 1) hy (by omega))
        have HP := Lib.hid (and_pred_lt h0)
        have hpc := pcB_next h0 hy
        have hpd : ds.length + pcB (y &&& (y - 1)) + 1 ≤ 64 := by omega
        have hdl : ds.length ≤ 64 := by omega
        have HPD := Lib.hid hpd
        clear hpd hpc hpcb
        clear h0
        generalize Lib.ctz 64 y = z at HZ hct HN
        go_wp2_with fail
        refine HZ.out.mono ?_
        rintro e w2 ⟨rfl, rfl⟩
        go_wp2_with (first | (at_builtin; refine wpList_append_one rfl _ _ rfl w.heap.size _ ds rfl (HO.out.alloc _) _ _ (z : Int) rfl (by simp [go_sem]) (by omega) (by have := HB.out.size; simp; omega) ?_))
        intro p3 c3 w3 hO3 hg3 hd3
        have hB3 : Below w.heap.size w w3 := (bAlloc (o := .cells #[Value.int .i64 z] 3) HB.out.size HB.out).grown hg3 (by have := HB.out.size; simp; omega) fun k hk => (HO.out.lt k hk).1
        have HO3 := Lib.hid hO3
        have HB3 := Lib.hid hB3
        clear hO3 hg3 hd3 hB3
        go_wp2_with fail
        go_roundw
        case rel =>
          refine ⟨ds ++ [(z : Int)], y &&& (y - 1), by rw [HS.out, HA.out], ?_, ?_, ?_, HB3, ?_⟩
          · have := HP.out; omega
          · show _ = _
            rw [HE.out, HN.out, List.append_assoc]; rfl
          · show World.ownsRow _ _ _ _ _ _ _
            rw [List.length_append, List.map_append]; exact HO3.out
          · have := HPD.out; rw [List.length_append]; simp; omega
        case measure =>
          rw [HS.out, HA.out]
          have := HP.out
          simp [intOf]; omega
end Go.Proofs.YtlajdcikhbocdaaDoor
