/- linker.Undefined and goodName, by contract. -/
import Derived.Test.YtpachmkklppmjaaDoorLkB
import Derived.Test.YtpachmkklppmjaaDoorIter
import Derived.LoopTactic
import Derived.RegionTactic
set_option linter.unusedVariables false
set_option linter.unusedSimpArgs false
namespace Go.Proofs.YtpachmkklppmjaaDoor
open Go.RowKit Go.Maps Go.Sort Go.Shelf

/-- The names of the first k shared objects, as a map tells them. -/
def knF (l : List ByteArray) : ByteArray → Option Value := fun s => if seenN l s then some (.bool true) else none
theorem knF_nil : knF [] = fun _ => none := rfl
theorem seenN_push (l : List ByteArray) (t s : ByteArray) : seenN (l ++ [t]) s = (seenN l s || decide (t = s)) := by simp [seenN]
theorem knF_push (l : List ByteArray) (t : ByteArray) : knF (l ++ [t]) = updF (knF l) t (.bool true) := by
  funext s
  unfold knF updF
  rw [seenN_push]
  by_cases h : s = t
  · subst h
    simp
  · have : ¬ t = s := fun e => h e.symm
    simp [h, this]
theorem knF_get (l : List ByteArray) (s : ByteArray) : (knF l s).getD (.bool false) = .bool (seenN l s) := by
  unfold knF
  cases seenN l s <;> rfl
theorem zeroB (w : World) : (zeroValue 4).run Tryd.prog w = .ok (.bool false) w := by kernel_rfl
/-- A map of names of which only is told whether it has any. -/
def UmAt (w : World) (b N : Nat) (U : Bool) : Prop := ∃ n D, n ≤ N ∧ MapAt w 9 b n D ∧ decide (0 < Maps.size D) = U
theorem UmAt.made (w : World) : UmAt (w.alloc (.map #[] 0)) w.heap.size 0 false := ⟨0, .map [], Nat.le_refl _, World.ownsMap_made w Tryd.prog 9 heldElem, rfl⟩
theorem UmAt.lt {w : World} {b N : Nat} {U : Bool} (h : UmAt w b N U) : b < w.heap.size := by
  obtain ⟨n, D, _, h1, _⟩ := h
  exact h1.lt
theorem UmAt.of_block {w w' : World} {b N : Nat} {U : Bool} (h : UmAt w b N U) (hb : w'.heap[b]? = w.heap[b]?) : UmAt w' b N U := by
  obtain ⟨n, D, h0, ⟨es, clock, h1, h2⟩, h3⟩ := h
  exact ⟨n, D, h0, ⟨es, clock, hb.trans h1, h2⟩, h3⟩
theorem UmAt.mono {w : World} {b N M : Nat} {U : Bool} (h : UmAt w b N U) (hM : N ≤ M) : UmAt w b M U := by
  obtain ⟨n, D, h0, h1, h2⟩ := h
  exact ⟨n, D, Nat.le_trans h0 hM, h1, h2⟩
theorem UmAt.put {w : World} {b N : Nat} {U : Bool} {t e : TypeId} (h : UmAt w b N U) (ht : Tryd.prog.underlying t = some (.map 9 e)) (s : ByteArray) (hs : s.size ≤ maxLen) (hn : N < 1000) (v : Value) :
    ∃ w', (Instr.mapUpdate t (.map (some b)) (.string s) v).run Tryd.prog w = .ok () w' ∧ UmAt w' b (N + 1) true ∧ w.grownBy w' (some b) := by
  obtain ⟨n, D, h0, h1, h2⟩ := h
  obtain ⟨w', hr, h3, h4⟩ := h1.store (val := v) keyS ht (by omega) (key_s s hs)
  refine ⟨w', hr, ⟨n + 1, _, by omega, h3, ?_⟩, h4⟩
  have h5 := Maps.size_put (k := .string s.data.toList) (World.ownsMap.tidy h1 keyS) (DataW.held v)
  refine decide_eq_true ?_
  rw [h5]
  split
  · rename_i hh
    obtain ⟨es, rfl⟩ := World.ownsMap.isMap h1
    rw [Maps.has_eq] at hh
    obtain ⟨p, hp, _⟩ := List.any_eq_true.1 hh
    rw [Maps.size_eq]
    exact List.length_pos_iff.2 (List.ne_nil_of_mem hp)
  · omega
theorem wpList_put_um {w : World} {ops : Array Oper} {rest : List Oper} {o : Oper} {a : Act} {Q : Exit → Act → World → Prop} (hg : o.guard = none) (m x u : Operand) (t e : TypeId) (hop : o.op = .mapUpdate t m x u)
    (ht : Tryd.prog.underlying t = some (.map 9 e)) (b N : Nat) (U : Bool) (h : UmAt w b N U) (hm : a.eval m = .map (some b)) (s : ByteArray) (hx : a.eval x = .string s) (hs : s.size ≤ maxLen) (hn : N < 1000) (v : Value) (hv : a.eval u = v)
    (hK : ∀ w', UmAt w' b (N + 1) true → w.grownBy w' (some b) → wpList Tryd.prog ops Q rest (a.put o.dst undef) w') : wpList Tryd.prog ops Q (o :: rest) a w := by
  refine wpList_plain hg fun K hK' => ?_
  obtain ⟨w', hr, h1, h2⟩ := h.put ht s hs hn v
  unfold Oper.wp
  simp [execOp, hop, hm, hx, hv, hr, Result.andThen]
  exact hK' _ _ (hK w' h1 h2)
theorem strKeys_len {w : World} {b n : Nat} {D : DataW Value} (h : MapAt w 9 b n D) : (strKeys D).length = Maps.size D := by
  obtain ⟨es, rfl⟩ := World.ownsMap.isMap h
  show (es.map _).length = es.length
  simp
/-- What the sorted keys are: some slice that is empty if the map is. -/
theorem sorted_um {w : World} {b N : Nat} {U : Bool} (h : UmAt w b N U) (hN : N ≤ 1000) :
    Calls Tryd.prog 25 #[.func (.func 32) #[] #[.pointer (some ⟨w.heap.size, 0, none⟩)]] (w.alloc (.cells #[.map (some b)] 82)) fun e w' => ∃ p m c, e = .returned (.slice p m c) ∧ decide (0 < m) = U ∧ Below (w.alloc (.cells #[.map (some b)] 82)).heap.size (w.alloc (.cells #[.map (some b)] 82)) w' := by
  obtain ⟨n, D, h0, h1, h2⟩ := h
  have hsz := World.ownsMap.size_le h1
  refine ((callsIn_wide (n := 5)).1 (sortedKeys_any b n D heldElem w h1 (by unfold maxLen; omega) (by omega))).mono ?_
  rintro e w' ⟨v, ss, rfl, hp, hown, _, hb⟩
  have hl : ss.length = Maps.size D := by rw [hp.length_eq, strKeys_len h1]
  rcases hown.2 with ⟨rfl, h3⟩ | ⟨g, cap, cur, rfl, _⟩
  · exact ⟨none, 0, 0, rfl, by rw [← h2, ← hl, h3], hb⟩
  · exact ⟨_, _, _, rfl, by rw [hl]; exact h2, hb⟩
theorem goodName_any (s : ByteArray) (w : World) (hs : s.size ≤ maxLen) : Calls Tryd.prog 19 #[.string s] w fun e w' => e = .returned (.bool (goodB s)) ∧ w' = w := by
  by_cases h1 : (s.size : Int) ≥ 1
  · by_cases h2 : (s.size : Int) ≤ 12
    · rw [show goodB s = true from decide_eq_true (by omega)]
      go_enter Tryd.func19, Tryd.ntmps19
      go_wp2_with fail
      go_ret
      exact ⟨rfl, rfl⟩
    · rw [show goodB s = false from decide_eq_false (by omega)]
      go_enter Tryd.func19, Tryd.ntmps19
      go_wp2_with fail
      go_ret
      exact ⟨rfl, rfl⟩
  · rw [show goodB s = false from decide_eq_false (by omega)]
    go_enter Tryd.func19, Tryd.ntmps19
    go_wp2_with fail
    go_ret
    exact ⟨rfl, rfl⟩
/-- What Undefined holds: the known names (block nb), the unknown ones (block nb + 1). -/
structure UnRel (w0 : World) (nb n : Nat) (K : List ByteArray) (N : Nat) (U : Bool) (w : World) : Prop where
  kn : MpAt w nb n (knF K)
  un : UmAt w (nb + 1) N U
  bel : Below w0.heap.size w0 w
  ge : w0.heap.size ≤ nb
section
variable {w0 w w' : World} {nb n N : Nat} {K : List ByteArray} {U : Bool}
theorem UnRel.keep (h : UnRel w0 nb n K N U w) (hb : Below w.heap.size w w') : UnRel w0 nb n K N U w' :=
  ⟨h.kn.of_block (hb.block _ h.kn.lt), h.un.of_block (hb.block _ h.un.lt), h.bel.trans (hb.mono h.bel.size), h.ge⟩
theorem UnRel.name (h : UnRel w0 nb n K N U w) {t : ByteArray} {n' : Nat} (hm : MpAt w' nb n' (updF (knF K) t (.bool true))) (hg : w.grownBy w' (some nb)) : UnRel w0 nb n' (K ++ [t]) N U w' :=
  ⟨by rw [knF_push]; exact hm, h.un.of_block (hg.block _ h.un.lt (fun e => by injection e with e; omega)), h.bel.trans ⟨hg.os, hg.tape, hg.output, hg.size, fun k hk => hg.block k (Nat.lt_of_lt_of_le hk h.bel.size) (fun e => by cases e; have := h.ge; omega)⟩, h.ge⟩
theorem UnRel.more (h : UnRel w0 nb n K N U w) {N' : Nat} {U' : Bool} (hm : UmAt w' (nb + 1) N' U') (hg : w.grownBy w' (some (nb + 1))) : UnRel w0 nb n K N' U' w' :=
  ⟨h.kn.of_block (hg.block _ h.kn.lt (fun e => by injection e with e; omega)), hm, h.bel.trans ⟨hg.os, hg.tape, hg.output, hg.size, fun k hk => hg.block k (Nat.lt_of_lt_of_le hk h.bel.size) (fun e => by cases e; have := h.ge; omega)⟩, h.ge⟩
end
def undO (S : List LSh) (rs : List GR) : Bool := rs.any fun r => !(seenN (S.map (·.1)) r.nm)
theorem undO_push (S : List LSh) (rs : List GR) (r : GR) : undO S (rs ++ [r]) = (undO S rs || !(seenN (S.map (·.1)) r.nm)) := by simp [undO]
theorem undB_push (S : List LSh) (l : List LOb) (o : LOb) : undB S (l ++ [o]) = (undB S l || undO S o.refs) := by simp [undB, undO]
theorem refV_at (l : List GR) (k : Nat) (hk : k < l.length) (j : Nat) (hj : j < 3) : (refV l)[k * 3 + j]? = (refC (l.getD k default))[j]? := flat_at (f := refC) (n := 3) (fun _ => rfl) l k hk j hj
/-- A reference of a readable slice. -/
theorem RfRd.get {w : World} {v : Value} {l : List GR} (h : RfRd w v l) {k : Nat} (hk : k < l.length) : ∃ m off cap, v = .slice (some ⟨m, off, none⟩) l.length cap ∧ m < w.heap.size ∧ w.cell? ⟨m, off + k * 3, none⟩ = some (.int .i64 (l.getD k default).at') ∧ w.cell? ⟨m, off + k * 3 + 1, none⟩ = some (.string (l.getD k default).nm) ∧ w.cell? ⟨m, off + k * 3 + 2, none⟩ = some (.bool (l.getD k default).lk) := by
  obtain ⟨p, cap, rfl, _, h⟩ := h
  rcases h with rfl | ⟨m, off, rfl, hm, hx⟩
  · simp at hk
  · refine ⟨m, off, cap, rfl, hm, ?_, ?_, ?_⟩
    · have := hx (k * 3 + 0) _ (refV_at l k hk 0 (by decide)); rwa [Nat.add_zero] at this
    · rw [Nat.add_assoc]; exact hx (k * 3 + 1) _ (refV_at l k hk 1 (by decide))
    · rw [Nat.add_assoc]; exact hx (k * 3 + 2) _ (refV_at l k hk 2 (by decide))
theorem RfRd.shape {w : World} {v : Value} {l : List GR} (h : RfRd w v l) : ∃ p cap, v = .slice p l.length cap := by
  obtain ⟨p, cap, rfl, _⟩ := h
  exact ⟨p, cap, rfl⟩

set_option maxHeartbeats 6400000 in
set_option maxRecDepth 40000 in
theorem undef_any (sv lv : Value) (S : List LSh) (l : List LOb) (w : World) (hS : ShAt w sv S) (hL : ObsAt w lv l) (hF : LFit S l) (hSl : S.length ≤ 10) (hll : l.length ≤ 10) (hrl : ∀ k, k < l.length → (l.getD k default).refs.length ≤ 100) :
    Calls Tryd.prog 20 #[sv, lv] w fun e w' => ∃ p m c, e = .returned (.slice p m c) ∧ decide (0 < m) = undB S l ∧ Below w.heap.size w w' := by
  obtain ⟨sp, sc, rfl⟩ := hS.shape
  obtain ⟨lp, lc, rfl⟩ := hL.shape
  have hmm := @run_makeMap Tryd.prog
  have hz0 : (w.alloc (.map #[] 0)).heap.size = w.heap.size + 1 := by simp
  have h0 : UnRel w w.heap.size 0 [] 0 false ((w.alloc (.map #[] 0)).alloc (.map #[] 0)) := by
    refine ⟨(MpAt.made w).of_block ?_, ?_, bAlloc (by simp) (bAlloc (Nat.le_refl _) (Below.refl _ _)), Nat.le_refl _⟩
    · exact (bAlloc (B := w.heap.size + 1) (by simp) (Below.refl _ _)).block w.heap.size (by omega)
    · have := UmAt.made (w.alloc (.map #[] 0))
      rwa [hz0] at this
  have HS := Lib.hid hS
  have HL := Lib.hid hL
  have HF := Lib.hid hF
  have HRL := Lib.hid hrl
  have H0 := Lib.hid h0
  clear hS hL hF hrl h0 hz0
  go_enter Tryd.func20, Tryd.ntmps20
  go_wp2_with fail
  go_loopw [17] (fun s17 wx => ∃ k : Nat, s17 = .int .i64 k ∧ k ≤ S.length ∧ Hid (UnRel w w.heap.size k ((S.map (·.1)).take k) 0 false wx)) (fun s17 _ => S.length - (intOf s17).toNat)
  case atStart => exact ⟨0, rfl, Nat.zero_le _, H0.out⟩
  case round =>
    clear H0
    obtain ⟨k, rfl, hk, HR⟩ := hrel
    obtain ⟨w5, rfl⟩ : ∃ W : World, W = wr := ⟨_, rfl⟩
    by_cases hlt : k < S.length
    · skip
      have hltI : (k : Int) < S.length := by omega
      obtain ⟨sp', sc', e, hs⟩ := HS.out.below HR.out.bel (Nat.le_refl _)
      cases e
      obtain ⟨m, off, rfl, hm, g0, g1⟩ := hs k hlt
      clear hs
      have HT : Hid ((S.map (·.1)).take (k + 1) = (S.map (·.1)).take k ++ [(S.getD k default).1]) := (show _ = _ by rw [← List.map_take, take_next S hlt, List.map_append, List.map_take]; rfl)
      have hsz := HF.out.s k hlt
      generalize (S.getD k default).1 = nm at g0 HT hsz
      generalize (S.getD k default).2 = ln at g1
      go_upto_region 5 with fail
      have HR6 := Lib.hid (HR.out.keep (bAlloc (o := .cells #[.string nm, .int .i64 ln] 55) (Nat.le_refl _) (Below.refl _ _)))
      have hmp := HR6.out.kn
      go_wp2_with (first | (at_mapUpdate; refine wpList_put_mp rfl _ _ _ 82 4 rfl Tryd.underlying82 w.heap.size k (knF ((S.map (·.1)).take k)) hmp rfl nm rfl hsz (by omega) (.bool true) rfl ?_))
      intro w7 hm7 hg7
      have HR7 := Lib.hid (HR6.out.name hm7 hg7)
      rw [← HT.out] at HR7
      clear hm7 hg7 hmp HR6 g0 g1 hm
      go_wp2_with fail
      go_roundw
      case rel => exact ⟨k + 1, by go_num, by omega, HR7⟩
      case measure => simp [intOf]; omega
    · skip
      obtain rfl : k = S.length := by omega
      rw [show (S.map (·.1)).take S.length = S.map (·.1) from List.take_of_length_le (by simp)] at HR
      clear hk hlt
      go_wp2_with fail
      go_loopw [27] (fun s27 wx => ∃ k : Nat, s27 = .int .i64 k ∧ k ≤ l.length ∧ Hid (UnRel w w.heap.size S.length (S.map (·.1)) (100 * k) (undB S (l.take k)) wx)) (fun s27 _ => l.length - (intOf s27).toNat)
      case atStart => exact ⟨0, rfl, Nat.zero_le _, HR.out⟩
      case round =>
        clear HR w5
        obtain ⟨k, rfl, hk, HR⟩ := hrel
        obtain ⟨w5, rfl⟩ : ∃ W : World, W = wr := ⟨_, rfl⟩
        by_cases hlt : k < l.length
        · skip
          have hltI : (k : Int) < l.length := by omega
          obtain ⟨lp', lc', e, hs⟩ := HL.out
          cases e
          obtain ⟨m, off, cv, rv, rfl, hm, ⟨z0, z1, z2, z3⟩, hgs, hrf⟩ := hs k hlt
          clear hs
          have hb := HR.out.bel
          have g0 := (hb.cell (p := ⟨m, off + k * 4, none⟩) hm).trans z0
          have g1 := (hb.cell (p := ⟨m, off + k * 4 + 1, none⟩) hm).trans z1
          have g2 := (hb.cell (p := ⟨m, off + k * 4 + 2, none⟩) hm).trans z2
          have g3 := (hb.cell (p := ⟨m, off + k * 4 + 3, none⟩) hm).trans z3
          have hm5 := Nat.lt_of_lt_of_le hm hb.size
          have HT : Hid (undB S (l.take (k + 1)) = (undB S (l.take k) || undO S (l.getD k default).refs)) := (show _ = _ by rw [take_next l hlt, undB_push])
          have HFR := Lib.hid (HF.out.r k hlt)
          have hrl := HRL.out k hlt
          obtain ⟨rp, rc, rfl⟩ := hrf.shape
          have HRF := Lib.hid (fun W (hb : Below w.heap.size w W) => hrf.below hb (Nat.le_refl _))
          obtain ⟨cp, cc, rfl⟩ := hgs.shape
          generalize (l.getD k default).nm = nm at g0
          generalize (l.getD k default).code.length = cl at g1
          generalize (l.getD k default).dat = dt at g2
          generalize (l.getD k default).refs = rs at g3 HRF HT HFR hrl
          clear hgs hrf hb z0 z1 z2 z3 hm
          go_upto_region 10 with fail
          have hbA : Below w5.heap.size w5 (w5.alloc (.cells #[.string nm, .slice cp cl cc, .int .i64 dt, .slice rp rs.length rc] 38)) := bAlloc (Nat.le_refl _) (Below.refl _ _)
          have HRA := Lib.hid (HR.out.keep hbA)
          have hrow := RowC.made w5 [.string nm, .slice cp cl cc, .int .i64 dt, .slice rp rs.length rc] 38
          change RowC (w5.alloc (.cells #[.string nm, .slice cp cl cc, .int .i64 dt, .slice rp rs.length rc] 38)) _ _ at hrow
          generalize w5.alloc (.cells #[.string nm, .slice cp cl cc, .int .i64 dt, .slice rp rs.length rc] 38) = w6 at hbA HRA hrow ⊢
          generalize w5.heap.size = bo at hrow ⊢
          have r3 := hrow.at 3 rfl
          have rl := hrow.lt
          clear g0 g1 g2 g3 hm5 hbA hrow HR
          go_wp2_with fail
          go_loopw [34] (fun s34 wx => ∃ j : Nat, s34 = .int .i64 j ∧ j ≤ rs.length ∧ Hid (UnRel w w.heap.size S.length (S.map (·.1)) (100 * k + j) (undB S (l.take k) || undO S (rs.take j)) wx)) (fun s34 _ => rs.length - (intOf s34).toNat)
          case atStart => exact ⟨0, rfl, Nat.zero_le _, by
            have e : undO S (rs.take 0) = false := rfl
            rw [e, Bool.or_false]
            exact HRA⟩
          case round =>
            clear HRA r3 rl w6
            obtain ⟨j, rfl, hj, HR⟩ := hrel
            obtain ⟨w7, rfl⟩ : ∃ W : World, W = wr := ⟨_, rfl⟩
            by_cases hjl : j < rs.length
            · skip
              have hjI : (j : Int) < rs.length := by omega
              obtain ⟨m2, off2, rc', e, hm2, y0, y1, y2⟩ := (HRF.out w7 HR.out.bel).get hjl
              cases e
              have HTR : Hid (undO S (rs.take (j + 1)) = (undO S (rs.take j) || !(seenN (S.map (·.1)) (rs.getD j default).nm))) := (show _ = _ by rw [take_next rs hjl, undO_push])
              have hsz := HFR.out j hjl
              generalize (rs.getD j default).nm = rn at y1 HTR hsz
              generalize (rs.getD j default).at' = ra at y0
              generalize (rs.getD j default).lk = rk at y2
              go_upto_region 13 with fail
              have HRB := Lib.hid (HR.out.keep (bAlloc (o := .cells #[.int .i64 ra, .string rn, .bool rk] 53) (Nat.le_refl _) (Below.refl _ _)))
              have hlk := HRB.out.kn.look (t := 82) (e := 4) Tryd.underlying82 (zeroB _) rn hsz
              rw [knF_get] at hlk
              have hum := HRB.out.un
              cases hsn : seenN (S.map (·.1)) rn with
              | true =>
                rw [hsn] at hlk HTR
                have HRC : Hid (UnRel w w.heap.size S.length (S.map (·.1)) (100 * k + (j + 1)) (undB S (l.take k) || undO S (rs.take (j + 1))) (w7.alloc (.cells #[.int .i64 ra, .string rn, .bool rk] 53))) := (show UnRel _ _ _ _ _ _ _ by
                  have h := HRB.out
                  rw [HTR.out, Bool.not_true, Bool.or_false]
                  exact ⟨h.kn, h.un.mono (by omega), h.bel, h.ge⟩)
                clear HRB hum
                go_wp2_with fail
                go_roundw
                case rel => exact ⟨j + 1, by go_num, by omega, HRC⟩
                case measure => simp [intOf]; omega
              | false =>
                rw [hsn] at hlk HTR
                go_wp2_with (first | (at_mapUpdate; refine wpList_put_um rfl _ _ _ 82 4 rfl Tryd.underlying82 (w.heap.size + 1) (100 * k + j) _ hum rfl rn rfl hsz (by omega) (.bool true) rfl ?_))
                intro w8 hm8 hg8
                have HRC : Hid (UnRel w w.heap.size S.length (S.map (·.1)) (100 * k + (j + 1)) (undB S (l.take k) || undO S (rs.take (j + 1))) w8) := (show UnRel _ _ _ _ _ _ _ by
                  rw [HTR.out, Bool.not_false, Bool.or_true, Bool.or_true]
                  exact HRB.out.more hm8 hg8)
                clear HRB hum hm8 hg8 hlk y0 y1 y2 hm2
                go_wp2_with fail
                go_roundw
                case rel => exact ⟨j + 1, by go_num, by omega, HRC⟩
                case measure => simp [intOf]; omega
            · skip
              obtain rfl : j = rs.length := by omega
              rw [List.take_length, ← HT.out] at HR
              have HRC : Hid (UnRel w w.heap.size S.length (S.map (·.1)) (100 * (k + 1)) (undB S (l.take (k + 1))) w7) := (show UnRel _ _ _ _ _ _ _ from ⟨HR.out.kn, HR.out.un.mono (by omega), HR.out.bel, HR.out.ge⟩)
              clear HR hj hjl
              go_wp2_with fail
              go_roundw
              case rel => exact ⟨k + 1, by go_num, by omega, HRC⟩
              case measure => simp [intOf]; omega
        · skip
          obtain rfl : k = l.length := by omega
          rw [List.take_length] at HR
          clear hk hlt
          go_wp2_with fail
          refine (mapKeys_any _ w5).mono ?_
          rintro e w6 ⟨rfl, rfl⟩
          go_wp2_with fail
          refine (sorted_um HR.out.un (by omega)).mono ?_
          rintro e w7 ⟨p, m, c, rfl, hU, hb7⟩
          have HB := Lib.hid (HR.out.bel.trans (((bAlloc (o := .cells #[.map (some (w.heap.size + 1))] 82) (Nat.le_refl _) (Below.refl w5.heap.size w5)).trans (hb7.mono (by simp))).mono HR.out.bel.size))
          have HU := Lib.hid hU
          clear hb7 hU
          go_wp2_with fail
          go_ret
          exact ⟨p, m, c, rfl, HU.out, HB.out⟩
end Go.Proofs.YtpachmkklppmjaaDoor
