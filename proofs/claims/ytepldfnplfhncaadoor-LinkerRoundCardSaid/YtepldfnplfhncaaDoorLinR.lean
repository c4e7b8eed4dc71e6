/- linker.reader: take and number, by their contracts. -/
import Derived.Test.YtepldfnplfhncaaDoorLinH
import Derived.Test.YtepldfnplfhncaaDoorLinP
set_option linter.unusedVariables false
set_option linter.unusedSimpArgs false
namespace Go.Proofs.YtepldfnplfhncaaDoor
open Go.RowKit

theorem bits_or_i64_nat (a b : Nat) (ha : a < 9223372036854775808) (hb : b < 9223372036854775808) : bits .or .i64 (a : Int) (b : Int) = ((a ||| b : Nat) : Int) := by
  have hx : a ||| b < 2 ^ 63 := Nat.or_lt_two_pow (by omega) (by omega)
  have h1 : (BitVec.ofInt 64 (a : Int)).toNat = a := by
    rw [BitVec.ofInt_natCast, BitVec.toNat_ofNat]; exact Nat.mod_eq_of_lt (by omega)
  have h2 : (BitVec.ofInt 64 (b : Int)).toNat = b := by
    rw [BitVec.ofInt_natCast, BitVec.toNat_ofNat]; exact Nat.mod_eq_of_lt (by omega)
  show IntKind.i64.wrap ((BitVec.ofInt 64 (a : Int) ||| BitVec.ofInt 64 (b : Int)).toNat : Int) = _
  rw [BitVec.toNat_or, h1, h2]
  exact IntWalk.i64_in _ (by omega)
theorem or_low (n c : Nat) (hn : n < 4294967296) (hc : c < 256) : bits .or .i64 ((n : Int) * 256) (c : Int) = ((n * 256 + c : Nat) : Int) := by
  have h1 : ((n : Int) * 256) = ((n * 256 : Nat) : Int) := by omega
  have h2 := Nat.two_pow_add_eq_or_of_lt (i := 8) (b := c) (by omega) n
  rw [h1, bits_or_i64_nat _ _ (by omega) (by omega), Nat.mul_comm n 256]
  rw [show (256 : Nat) = 2 ^ 8 from rfl, ← h2]

theorem BtAt.shape {w : World} {v : Value} {l : List Nat} (h : BtAt w v l) : ∃ p cap, v = .slice p l.length cap := by
  obtain ⟨p, cap, e, _⟩ := h
  exact ⟨p, cap, e⟩
theorem RdrAt.other {g : Nat} {w w' : World} {v : Value} {l : List Nat} {en : Bool} (h : RdrAt g w v l en) (hs : w.heap.size ≤ w'.heap.size) (hg : w'.heap[g]? = w.heap[g]?) (hb : ∀ k, v.ownBlock = some k → k < w.heap.size → w'.heap[k]? = w.heap[k]?) : RdrAt g w' v l en :=
  ⟨(World.cell?_of_block (a := ⟨g, 0, none⟩) hg).trans h.c0, (World.cell?_of_block (a := ⟨g, 1, none⟩) hg).trans h.c1, fun k => (World.frozen?_of_block (a := ⟨g, k, none⟩) hg).trans (h.fz k), by have := h.lt; omega, h.rd.block hs hb, h.ne⟩

theorem grown_set (w : World) (a : Addr) (v : Value) : w.grownBy (w.setCell a v) (some a.block) :=
  ⟨rfl, rfl, rfl, by simp [World.setCell], fun k hk hne => Below.heap_setCell _ _ _ _ (fun e => hne (by rw [e]))⟩
theorem size_set (w : World) (a : Addr) (v : Value) : (w.setCell a v).heap.size = w.heap.size := by simp [World.setCell]
theorem take_post {g k cap : Nat} {p : Option Addr} {l : List Nat} {w : World} (h : RdrAt g w (.slice p l.length cap) l false) (hk : k ≤ l.length) (v' : Value) (hv : v' = .slice (if cap = k then p else p.map (·.add k)) (l.length - k) (cap - k)) :
    BtAt (w.setCell ⟨g, 0, none⟩ v') (.slice p k cap) (l.take k) ∧ RdrAt g (w.setCell ⟨g, 0, none⟩ v') v' (l.drop k) false ∧ (v'.ownBlock = (Value.slice p l.length cap).ownBlock ∨ v'.ownBlock = none) := by
  have hp0 := h.rd.part (a := 0) (b := k) (n := k) (c := cap) (Nat.zero_le _) hk rfl rfl
  have hp1 := h.rd.part (a := k) (b := l.length) (n := l.length - k) (c := cap - k) hk (Nat.le_refl _) rfl rfl
  rw [Nat.mul_one, List.take_length, ← hv] at hp1
  have e0 : (if cap = 0 then p else p.map (·.add (0 * 1))) = p := by
    split
    · rfl
    · cases p
      · rfl
      · simp [Addr.add]
  rw [e0, List.drop_zero] at hp0
  have hown : v'.ownBlock = (Value.slice p l.length cap).ownBlock ∨ v'.ownBlock = none := by
    subst hv
    cases p with
    | none => right; split <;> rfl
    | some a =>
      left
      split
      · rfl
      · simp only [Value.ownBlock, Option.map_some]
        unfold Addr.add
        split <;> rfl
  have hne : v'.ownBlock ≠ some g := by
    rcases hown with e | e
    · rw [e]; exact h.ne
    · rw [e]; simp
  have hblk : ∀ k', k' ≠ g → (w.setCell ⟨g, 0, none⟩ v').heap[k']? = w.heap[k']? := fun k' hk' => Below.heap_setCell _ _ _ _ hk'
  refine ⟨hp0.block (by rw [size_set]; exact Nat.le_refl _) (fun k' e _ => hblk k' fun e2 => h.ne ((show (Value.slice p l.length cap).ownBlock = some k' from (by cases p <;> rfl : (Value.slice p l.length cap).ownBlock = (Value.slice p k cap).ownBlock).trans e).trans (congrArg some e2))), ⟨World.cell?_setCell_same _ _ _ h.c0, (World.cell?_setCell_other _ _ _ _ (by simp)).trans h.c1, fun k => by rw [World.frozen?_setCell]; exact h.fz k, by rw [size_set]; exact h.lt, ?_, hne⟩, hown⟩
  exact hp1.block (by rw [size_set]; exact Nat.le_refl _) (fun k' e _ => hblk k' fun e2 => hne (e.trans (congrArg some e2)))
theorem end_post {g : Nat} {v : Value} {l : List Nat} {en : Bool} {w : World} (h : RdrAt g w v l en) : RdrAt g (w.setCell ⟨g, 1, none⟩ (.bool true)) v l true :=
  ⟨(World.cell?_setCell_other _ _ _ _ (by simp)).trans h.c0, World.cell?_setCell_same _ _ _ h.c1, fun k => by rw [World.frozen?_setCell]; exact h.fz k, by rw [size_set]; exact h.lt,
    h.rd.block (by rw [size_set]; exact Nat.le_refl _) (fun k' e _ => Below.heap_setCell _ _ _ _ fun e2 => h.ne (e.trans (congrArg some e2))), h.ne⟩

def TakePost (g k : Nat) (v : Value) (l : List Nat) (en : Bool) (w : World) (e : Ending) (w' : World) : Prop :=
  ∃ u v', e = .returned u ∧ BtAt w' u (takeR k (l, en)).1 ∧ RdrAt g w' v' (takeR k (l, en)).2.1 (takeR k (l, en)).2.2 ∧ w.grownBy w' (some g) ∧ w'.heap.size = w.heap.size ∧ (v'.ownBlock = v.ownBlock ∨ v'.ownBlock = none)
def NumPost (g k : Nat) (v : Value) (l : List Nat) (en : Bool) (w : World) (e : Ending) (w' : World) : Prop :=
  ∃ v', e = .returned (.int .i64 ((numR k (l, en)).1 : Nat)) ∧ RdrAt g w' v' (numR k (l, en)).2.1 (numR k (l, en)).2.2 ∧ w.grownBy w' (some g) ∧ w'.heap.size = w.heap.size ∧ (v'.ownBlock = v.ownBlock ∨ v'.ownBlock = none)

set_option maxHeartbeats 1600000 in
theorem take_any (g k : Nat) (v : Value) (l : List Nat) (en : Bool) (w : World) (h : RdrAt g w v l en) (hk : k ≤ 1000) (hl : l.length ≤ 1000000) :
    Calls Tryd.prog 28 #[.pointer (some ⟨g, 0, none⟩), .int .i64 k] w (TakePost g k v l en w) := by
  obtain ⟨p, cap, e, hcap, -⟩ := id h.rd
  subst e
  have c0 := h.c0
  have c1 := h.c1
  have hlt := h.lt
  have fz0 := h.fz 0
  have fz1 := h.fz 1
  have HR := Lib.hid h
  clear h
  cases en
  · by_cases hlk : l.length < k
    · have hlkI : (l.length : Int) < k := by omega
      have HT : Hid (takeR k (l, false) = ([], (l, true))) := (show _ = _ by unfold takeR; rw [if_pos (.inr hlk)])
      go_enter Tryd.func28, Tryd.ntmps28
      go_wp2_with fail
      go_ret
      unfold TakePost
      rw [HT.out]
      exact ⟨_, _, rfl, BtAt.nil _, end_post HR.out, grown_set _ _ _, size_set _ _ _, .inl rfl⟩
    · have hlkI : ¬ (l.length : Int) < k := by omega
      have hkc : k ≤ cap := by omega
      have HT : Hid (takeR k (l, false) = (l.take k, (l.drop k, false))) := (show _ = _ by unfold takeR; rw [if_neg (by simp; omega)])
      have hkl : k ≤ l.length := by omega
      go_enter Tryd.func28, Tryd.ntmps28
      by_cases hck : cap = k
      · have HP := Lib.hid (take_post HR.out hkl _ rfl)
        rw [if_pos hck] at HP
        subst hck
        rw [show l.length - cap = 0 by omega, show cap - cap = 0 by omega] at HP
        go_wp2_with fail
        go_ret
        unfold TakePost
        rw [HT.out]
        exact ⟨_, _, rfl, HP.out.1, HP.out.2.1, grown_set _ _ _, size_set _ _ _, HP.out.2.2⟩
      · have HP := Lib.hid (take_post HR.out hkl _ rfl)
        rw [if_neg hck] at HP
        go_wp2_with fail
        go_ret
        unfold TakePost
        rw [HT.out]
        exact ⟨_, _, rfl, HP.out.1, HP.out.2.1, grown_set _ _ _, size_set _ _ _, HP.out.2.2⟩
  · have HT : Hid (takeR k (l, true) = ([], (l, true))) := (show _ = _ by unfold takeR; rw [if_pos (.inl rfl)])
    go_enter Tryd.func28, Tryd.ntmps28
    go_wp2_with fail
    go_ret
    unfold TakePost
    rw [HT.out]
    exact ⟨_, _, rfl, BtAt.nil _, end_post HR.out, grown_set _ _ _, size_set _ _ _, .inl rfl⟩

theorem ofB_snoc (l : List Nat) (c : Nat) : ofB (l ++ [c]) = ofB l * 256 + c := by unfold ofB; rw [List.foldl_append]; rfl
theorem takeR_len (k : Nat) (l : List Nat) (en : Bool) : (takeR k (l, en)).1.length ≤ k := by
  unfold takeR
  split
  · exact Nat.zero_le _
  · rw [List.length_take]; omega
theorem takeR_byte (k : Nat) (l : List Nat) (en : Bool) (hb : ∀ c ∈ l, c < 256) : ∀ c ∈ (takeR k (l, en)).1, c < 256 := by
  unfold takeR
  split
  · intro c hc; cases hc
  · exact fun c hc => hb c (List.mem_of_mem_take hc)

set_option maxHeartbeats 1600000 in
theorem number_any (g k : Nat) (v : Value) (l : List Nat) (en : Bool) (w : World) (h : RdrAt g w v l en) (hk : k ≤ 4) (hl : l.length ≤ 1000000) (hb : ∀ c ∈ l, c < 256) :
    Calls Tryd.prog 27 #[.pointer (some ⟨g, 0, none⟩), .int .i64 k] w (NumPost g k v l en w) := by
  have HT := Lib.hid (take_any g k v l en w h (by omega) hl)
  have HL := Lib.hid (takeR_len k l en)
  have HBy := Lib.hid (takeR_byte k l en hb)
  clear h
  unfold NumPost numR
  unfold TakePost at HT
  generalize takeR k (l, en) = t at HT HL HBy ⊢
  obtain ⟨t, r, en'⟩ := t
  go_enter Tryd.func27, Tryd.ntmps27
  go_wp2_with fail
  refine HT.out.mono ?_
  rintro e w1 ⟨u, v', rfl, hu, hr, hg, hs, ho⟩
  obtain ⟨p, cap, e, hcap, hcell⟩ := hu
  have e' : u = .slice p t.length cap := e
  clear e
  have hr' : RdrAt g w1 v' r en' := hr
  subst e'
  have hlen := HL.out
  go_wp2_with fail
  go_loopw [5, 12] (fun s5 s12 wx => ∃ j : Nat, s12 = .int .i64 j ∧ s5 = .int .i64 (ofB (t.take j) : Nat) ∧ j ≤ t.length ∧ wx = w1) (fun _ s12 _ => t.length - (intOf s12).toNat)
  case atStart => exact ⟨0, rfl, rfl, Nat.zero_le _, rfl⟩
  case round =>
    obtain ⟨j, rfl, rfl, hj, rfl⟩ := hrel
    by_cases hlt : j < t.length
    · have hltI : (j : Int) < t.length := by omega
      rcases hcell with h0 | ⟨m, off, hp, hm, hcell⟩
      · rw [h0] at hlt; simp at hlt
      · subst hp
        have hc := hcell j hlt
        clear hcell
        have h256 : t.getD j 0 < 256 := HBy.out _ (by rw [List.getD_eq_getElem?_getD, List.getElem?_eq_getElem hlt]; exact List.getElem_mem _)
        have hofb : ofB (t.take j) < 4294967296 := by
          have h1 := ofB_lt (t.take j) (fun c hc => HBy.out c (List.mem_of_mem_take hc))
          have h2 : (t.take j).length ≤ 4 := by rw [List.length_take]; omega
          exact Nat.lt_of_lt_of_le h1 (Nat.le_trans (Nat.pow_le_pow_right (by decide) h2) (by decide))
        have HN : Hid (ofB (t.take (j + 1)) = ofB (t.take j) * 256 + t.getD j 0) := (show _ = _ by rw [List.take_add_one, List.getElem?_eq_getElem hlt, Option.toList_some, ofB_snoc, List.getD_eq_getElem?_getD, List.getElem?_eq_getElem hlt]; rfl)
        generalize ofB (t.take j) = x at HN hofb ⊢
        generalize t.getD j 0 = c at HN h256 hc
        have hor := or_low x c hofb h256
        have HO := Lib.hid (show Value.int .i64 ((x : Int) * 256 + (c : Int)) = .int .i64 ((x * 256 + c : Nat) : Int) by rw [show ((x * 256 + c : Nat) : Int) = (x : Int) * 256 + c by omega])
        go_wp2_with fail
        go_roundw
        case rel => exact ⟨j + 1, by go_num, by rw [HN.out]; exact HO.out, by omega, trivial⟩
        case measure => simp [intOf]; omega
    · have hjk : j = t.length := by omega
      subst hjk
      go_wp2_with fail
      go_ret
      rw [List.take_length]
      exact ⟨v', rfl, hr, hg, hs, ho⟩
end Go.Proofs.YtepldfnplfhncaaDoor
