/- The reference's put and Encode, by their contracts. -/
import Derived.Test.YtepldfnplfhncaaDoorLinS
import Derived.Deep.RegionHeld3
set_option linter.unusedVariables false
set_option linter.unusedSimpArgs false
namespace Go.Proofs.YtepldfnplfhncaaDoor
open Go.RowKit

theorem wpList_append_u8 {w : World} {ops : Array Oper} {rest : List Oper} {o : Oper} {a : Act} {Q : Exit → Act → World → Prop} (hgd : o.guard = none) (s x : Operand)
    (ho : o.op = .call { callee := .builtin .append, args := #[s, x], argTypes := #[31, 31] })
    (base : Nat) (v : Value) (l : List Nat) (hs : a.eval s = v) (hown : w.ownsRow base 5 1 v l.length (u8s l))
    (g c : Nat) (y : Nat) (hx : a.eval x = .slice (some ⟨g, 0, none⟩) 1 c) (hy : w.cell? ⟨g, 0, none⟩ = some (.int .u8 y))
    (h63 : l.length ≤ 1000000) (hbase : base ≤ w.heap.size)
    (h : ∀ p c' w', w'.ownsRow base 5 1 (.slice p (l.length + 1) c') (l.length + 1) (u8s l ++ u8s [y]) → w.grownBy w' v.ownBlock → ((Value.slice p (l.length + 1) c').ownBlock = v.ownBlock ∨ ∀ k, (Value.slice p (l.length + 1) c').ownBlock = some k → w.heap.size ≤ k) → wpList Tryd.prog ops Q rest (a.put o.dst (.slice p (l.length + 1) c')) w') : wpList Tryd.prog ops Q (o :: rest) a w := by
  refine wpList_plain hgd fun K hK => ?_
  have hw : Region.wanted o (yielded ops a.tmps) = true := by simp [Region.wanted, hgd]
  have := step_append_u8 (K := K) (Q := Q) (E := False) (ops := ops) hgd s x ho base v l hs hown g c y hx hy h63 hbase fun p c' w' h1 h2 h3 => hK _ _ (h p c' w' h1 h2 h3)
  rw [if_pos hw] at this
  exact this

/-- A row of bytes (color 1) beside rows of color 0 that are only read. -/
structure RowAt2 (B : Nat) (W0 : World) (R : List (Nat × List Value)) (col : Nat → Nat) (w : World) (v : Value) (l : List Nat) : Prop where
  row : OwnC 5 1 col 1 w v l.length (u8s l)
  low : ∀ k, k < B → col k = 0
  bel : Below B W0 w
  big : B ≤ w.heap.size
  rows : ∀ p ∈ R, RowC w p.1 p.2 ∧ col p.1 = 0
section
variable {B : Nat} {W0 w w' : World} {R : List (Nat × List Value)} {col : Nat → Nat} {v v' : Value} {l l' : List Nat}
theorem RowAt2.keep (h : RowAt2 B W0 R col w v l) (hb : Below w.heap.size w w') : RowAt2 B W0 R (paint col w.heap.size 0) w' v l := by
  refine ⟨h.row.other (Touch.of_below hb) (by decide), low_paint h.low h.big, h.bel.trans (hb.mono h.big), Nat.le_trans h.big hb.size, fun p hp => ?_⟩
  obtain ⟨h1, h2⟩ := h.rows p hp
  exact ⟨h1.below hb h1.lt, by rw [paint_lt h1.lt]; exact h2⟩
theorem RowAt2.made (h : RowAt2 B W0 R col w v l) (cs : List Value) (t : TypeId) : RowAt2 B W0 ((w.heap.size, cs) :: R) (paint col w.heap.size 0) (w.alloc (.cells cs.toArray t)) v l := by
  have hk := h.keep (w' := w.alloc (.cells cs.toArray t)) (bAlloc (Nat.le_refl _) (Below.refl _ _))
  refine ⟨hk.row, hk.low, hk.bel, hk.big, fun p hp => ?_⟩
  rcases List.mem_cons.1 hp with rfl | hp
  · exact ⟨RowC.made w cs t, paint_ge (Nat.le_refl _)⟩
  · exact hk.rows p hp
theorem RowAt2.push (h : RowAt2 B W0 R col w v l) {w2 w3 : World} {n : Nat} {t : List Nat} (hb : Below w.heap.size w w2) (hg : w2.grownBy w3 v.ownBlock) (hn : n = (l ++ t).length) (hv : w3.ownsRow 0 5 1 v' n (u8s l ++ u8s t)) (hk : v'.ownBlock = v.ownBlock ∨ ∀ k, v'.ownBlock = some k → w2.heap.size ≤ k) :
    RowAt2 B W0 R (paint col w.heap.size 1) w3 v' (l ++ t) := by
  subst hn
  obtain ⟨hc, ht⟩ := h.row.push hb hg hv hk
  have e : u8s (l ++ t) = u8s l ++ u8s t := by simp [u8s]
  refine ⟨by rw [e]; exact hc, low_paint h.low h.big, h.bel.trans (ht.below h.big fun k hk e => by rw [h.low k hk] at e; cases e), Nat.le_trans h.big ht.size, fun p hp => ?_⟩
  obtain ⟨h1, h2⟩ := h.rows p hp
  exact ⟨h1.of_block (ht.block _ h1.lt (by rw [h2]; decide)), by rw [paint_lt h1.lt]; exact h2⟩
theorem RowAt2.drop {p : Nat × List Value} (h : RowAt2 B W0 (p :: R) col w v l) : RowAt2 B W0 R col w v l := ⟨h.row, h.low, h.bel, h.big, fun q hq => h.rows q (List.mem_cons_of_mem _ hq)⟩
end
def RowRel (B : Nat) (W0 : World) (R : List (Nat × List Value)) (l : List Nat) (v : Value) (w : World) : Prop := ∃ col, RowAt2 B W0 R col w v l
section
variable {B : Nat} {W0 w w' : World} {R : List (Nat × List Value)} {v v' : Value} {l l' : List Nat}
theorem RowRel.keep (h : RowRel B W0 R l v w) (hb : Below w.heap.size w w') : RowRel B W0 R l v w' := by
  obtain ⟨col, h⟩ := h
  exact ⟨_, h.keep hb⟩
theorem RowRel.made (h : RowRel B W0 R l v w) (cs : List Value) (t : TypeId) : RowRel B W0 ((w.heap.size, cs) :: R) l v (w.alloc (.cells cs.toArray t)) := by
  obtain ⟨col, h⟩ := h
  exact ⟨_, h.made cs t⟩
theorem RowRel.push (h : RowRel B W0 R l v w) {w2 w3 : World} {n : Nat} {t : List Nat} (hb : Below w.heap.size w w2) (hg : w2.grownBy w3 v.ownBlock) (hn : n = (l ++ t).length) (hv : w3.ownsRow 0 5 1 v' n (u8s l ++ u8s t)) (hk : v'.ownBlock = v.ownBlock ∨ ∀ k, v'.ownBlock = some k → w2.heap.size ≤ k) : RowRel B W0 R (l ++ t) v' w3 := by
  obtain ⟨col, h⟩ := h
  exact ⟨_, h.push hb hg hn hv hk⟩
theorem RowRel.drop {p : Nat × List Value} (h : RowRel B W0 (p :: R) l v w) : RowRel B W0 R l v w := by
  obtain ⟨col, h⟩ := h
  exact ⟨_, h.drop⟩
theorem RowRel.at (h : RowRel B W0 R l v w) {b : Nat} {cs : List Value} (hp : (b, cs) ∈ R) : RowC w b cs := by
  obtain ⟨col, h⟩ := h
  exact (h.rows _ hp).1
theorem RowRel.bel (h : RowRel B W0 R l v w) : Below B W0 w := by
  obtain ⟨col, h⟩ := h
  exact h.bel
theorem RowRel.own (h : RowRel B W0 R l v w) (hb : Below w.heap.size w w') : w'.ownsRow 0 5 1 v l.length (u8s l) := by
  obtain ⟨col, h⟩ := h
  exact own0_block h.row.1 fun b hk => hb.block b (own0_lt h.row.1 hk)
theorem RowRel.shape (h : RowRel B W0 R l v w) : ∃ p cap, v = .slice p l.length cap := by
  obtain ⟨col, h⟩ := h
  exact h.row.shape
end

set_option maxHeartbeats 1600000 in
set_option maxRecDepth 20000 in
theorem rput_any {B n k : Nat} {W0 w : World} {R : List (Nat × List Value)} {v : Value} {l : List Nat} (h : RowRel B W0 R l v w) (hk : k ≤ 4) (hn : n < 4611686018427387904) (hl : l.length + k ≤ 1000000) :
    Calls Tryd.prog 29 #[v, .int .i64 n, .int .i64 k] w fun e w' => ∃ v', e = .returned v' ∧ Hid (RowRel B W0 R (l ++ be k n) v' w') := by
  have HB := Lib.hid h
  clear h
  go_enter Tryd.func29, Tryd.ntmps29
  go_wp2_with fail
  go_loopw [0, 7] (fun s0 s7 wx => ∃ j : Nat, s7 = .int .i64 ((k : Int) - 1 - j) ∧ j ≤ k ∧ Hid (RowRel B W0 R (l ++ beH k n j) s0 wx)) (fun _ s7 _ => (intOf s7 + 1).toNat)
  case atStart => exact ⟨0, by simp, Nat.zero_le _, by rw [show beH k n 0 = [] from rfl, List.append_nil]; exact HB.out⟩
  case round =>
    obtain ⟨j, rfl, hj, HX⟩ := hrel
    obtain ⟨w1, rfl⟩ : ∃ W : World, W = wr := ⟨_, rfl⟩
    by_cases hlt : j < k
    · obtain ⟨q, hq⟩ : ∃ q, k = j + 1 + q := ⟨k - 1 - j, by omega⟩
      rw [show (k : Int) - 1 - (j : Int) = (q : Int) by omega]
      have HQ := Lib.hid hq
      have HLT := Lib.hid hlt
      have HE : Hid ((l ++ beH k n j) ++ [n / 256 ^ q % 256] = l ++ beH k n (j + 1)) := (show _ = _ by rw [beH_next k n j (by omega), List.append_assoc, show k - 1 - j = q by omega])
      have hlen : (l ++ beH k n j).length ≤ 1000000 := by rw [List.length_append, beH_len _ _ _ (by omega)]; omega
      generalize l ++ beH k n j = L at HX HE hlen
      have HYI : Hid ((n : Int) / ((256 ^ q : Nat) : Int) % 256 = ((n / 256 ^ q % 256 : Nat) : Int)) := (show _ = _ by omega)
      generalize n / 256 ^ q % 256 = y at HE HYI
      have hw0 : IntKind.i64.wrap 0 = 0 := by decide
      have hw8 : IntKind.i64.wrap 8 = 8 := by decide
      have hw16 : IntKind.i64.wrap 16 = 16 := by decide
      have hw24 : IntKind.i64.wrap 24 = 24 := by decide
      have HO := Lib.hid (show ∀ o : Obj, (w1.alloc o).ownsRow 0 5 1 _ L.length (u8s L) from fun o => HX.out.own (bAlloc (Nat.le_refl _) (Below.refl _ _)))
      have hq4 : q = 0 ∨ q = 1 ∨ q = 2 ∨ q = 3 := by omega
      clear hq hk hj hlt
      rcases hq4 with rfl | rfl | rfl | rfl
      · go_wp2_with (first | (at_builtin; refine wpList_append_u8 rfl _ _ rfl 0 _ L rfl (HO.out _) w1.heap.size 1 y rfl (by simp [go_sem]; have h := HYI.out; simp at h; exact h) hlen (Nat.zero_le _) ?_))
        intro p c' w3 hO hgr hd
        have hK := HX.out.push (bAlloc (Nat.le_refl _) (Below.refl _ _)) hgr (by simp only [List.length_append, List.length_singleton]) hO (hd.imp id fun h b e => by have := h b e; simp at this ⊢; omega)
        rw [HE.out] at hK
        have HK := Lib.hid hK
        clear hK hO hgr hd
        go_wp2_with fail
        go_roundw
        case rel => exact ⟨j + 1, by have := HQ.out; congr 1; omega, by have := HLT.out; omega, HK⟩
        case measure => have := HQ.out; simp [intOf] <;> omega
      · go_wp2_with (first | (at_builtin; refine wpList_append_u8 rfl _ _ rfl 0 _ L rfl (HO.out _) w1.heap.size 1 y rfl (by simp [go_sem]; have h := HYI.out; simp at h; exact h) hlen (Nat.zero_le _) ?_))
        intro p c' w3 hO hgr hd
        have hK := HX.out.push (bAlloc (Nat.le_refl _) (Below.refl _ _)) hgr (by simp only [List.length_append, List.length_singleton]) hO (hd.imp id fun h b e => by have := h b e; simp at this ⊢; omega)
        rw [HE.out] at hK
        have HK := Lib.hid hK
        clear hK hO hgr hd
        go_wp2_with fail
        go_roundw
        case rel => exact ⟨j + 1, by have := HQ.out; congr 1; omega, by have := HLT.out; omega, HK⟩
        case measure => have := HQ.out; simp [intOf] <;> omega
      · go_wp2_with (first | (at_builtin; refine wpList_append_u8 rfl _ _ rfl 0 _ L rfl (HO.out _) w1.heap.size 1 y rfl (by simp [go_sem]; have h := HYI.out; simp at h; exact h) hlen (Nat.zero_le _) ?_))
        intro p c' w3 hO hgr hd
        have hK := HX.out.push (bAlloc (Nat.le_refl _) (Below.refl _ _)) hgr (by simp only [List.length_append, List.length_singleton]) hO (hd.imp id fun h b e => by have := h b e; simp at this ⊢; omega)
        rw [HE.out] at hK
        have HK := Lib.hid hK
        clear hK hO hgr hd
        go_wp2_with fail
        go_roundw
        case rel => exact ⟨j + 1, by have := HQ.out; congr 1; omega, by have := HLT.out; omega, HK⟩
        case measure => have := HQ.out; simp [intOf] <;> omega
      · go_wp2_with (first | (at_builtin; refine wpList_append_u8 rfl _ _ rfl 0 _ L rfl (HO.out _) w1.heap.size 1 y rfl (by simp [go_sem]; have h := HYI.out; simp at h; exact h) hlen (Nat.zero_le _) ?_))
        intro p c' w3 hO hgr hd
        have hK := HX.out.push (bAlloc (Nat.le_refl _) (Below.refl _ _)) hgr (by simp only [List.length_append, List.length_singleton]) hO (hd.imp id fun h b e => by have := h b e; simp at this ⊢; omega)
        rw [HE.out] at hK
        have HK := Lib.hid hK
        clear hK hO hgr hd
        go_wp2_with fail
        go_roundw
        case rel => exact ⟨j + 1, by have := HQ.out; congr 1; omega, by have := HLT.out; omega, HK⟩
        case measure => have := HQ.out; simp [intOf] <;> omega
    · have hjk : j = k := by omega
      subst hjk
      rw [show ((j : Nat) : Int) - 1 - (j : Int) = -1 by omega]
      rw [beH_all] at HX
      obtain ⟨px, cx, hxs⟩ := HX.out.shape
      go_wp2_with fail
      go_ret
      exact ⟨_, rfl, HX⟩

/-- What the reference's Encode leaves. -/
def RencPost (im : LIm) (w : World) (e : Ending) (w' : World) : Prop :=
  ∃ p cap, e = .returned (.slice p (imgB (toImg im)).length cap) ∧ w'.ownsRow 0 5 1 (.slice p (imgB (toImg im)).length cap) (imgB (toImg im)).length (u8s (imgB (toImg im))) ∧ Below w.heap.size w w'
theorem bytesN_at (s : ByteArray) (j : Nat) (h : j < s.size) : (bytesN s).take (j + 1) = (bytesN s).take j ++ [(s[j]'h).toNat] := by
  have hl : j < (bytesN s).length := by rw [bytesN_len]; exact h
  rw [List.take_add_one, List.getElem?_eq_getElem hl, Option.toList_some]
  congr 1
  simp [bytesN]
  rfl

set_option maxHeartbeats 6400000 in
set_option maxRecDepth 20000 in
theorem renc_any (cv ev : Value) (im : LIm) (w : World) (h : LImAt w cv ev im) (hg : Good im) :
    Calls Tryd.prog 14 #[.agg #[cv, ev, .int .i64 im.sh, .int .i64 im.lk]] w (RencPost im w) := by
  have hb0 : Below w.heap.size w (w.alloc (.cells #[cv, ev, .int .i64 im.sh, .int .i64 im.lk] 25)) := bAlloc (Nat.le_refl _) (Below.refl _ _)
  have hx0 : RowC (w.alloc (.cells #[cv, ev, .int .i64 im.sh, .int .i64 im.lk] 25)) w.heap.size [cv, ev, .int .i64 im.sh, .int .i64 im.lk] := RowC.made w [cv, ev, .int .i64 im.sh, .int .i64 im.lk] 25
  have HI0 := Lib.hid (h.below hb0 (Nat.le_refl _))
  have HG := Lib.hid hg
  obtain ⟨cp, ccap, rfl, -⟩ := h.code
  obtain ⟨ep, ecap, rfl, -⟩ := h.ents
  have HB0 := Lib.hid hb0
  have HX0 := Lib.hid hx0
  obtain ⟨sN, hsN⟩ := Int.eq_ofNat_of_zero_le hg.sh.1
  obtain ⟨kN, hkN⟩ := Int.eq_ofNat_of_zero_le hg.lk.1
  have hs64 : sN ≤ 64 := by have := hg.sh.2; omega
  have hk4 : kN ≤ 4 := by have := hg.lk.2; omega
  have HS := Lib.hid (show im.sh.toNat = sN by omega)
  have HK := Lib.hid (show im.lk.toNat = kN by omega)
  have hcl := hg.code
  have hel := hg.ents
  clear hb0 h hx0 hg
  rw [hsN, hkN] at HX0 HI0 HB0 ⊢
  clear hsN hkN
  go_enter Tryd.func14, Tryd.ntmps14
  go_upto_region 1 with fail
  generalize w.alloc (.cells #[.slice cp im.code.length ccap, .slice ep im.ents.length ecap, .int .i64 sN, .int .i64 kN] 25) = W0 at HI0 HB0 HX0 ⊢
  have HR0 : Hid (RowRel W0.heap.size W0 [(w.heap.size, [.slice cp im.code.length ccap, .slice ep im.ents.length ecap, .int .i64 sN, .int .i64 kN])] [] (.slice none 0 0) W0.drew) := (show RowRel _ _ _ _ _ _ from RowRel.keep (w := W0) ⟨fun _ => 0, OwnC.nil _ _ _ _ _, fun _ _ => rfl, Below.refl _ _, Nat.le_refl _, fun p hp => by rw [List.mem_singleton] at hp; subst hp; exact ⟨HX0.out, rfl⟩⟩ (Below.refl _ _).drew)
  have hmk : ∀ (W : World) (l : List Nat) (v : Value), RowRel W0.heap.size W0 [(w.heap.size, [.slice cp im.code.length ccap, .slice ep im.ents.length ecap, .int .i64 sN, .int .i64 kN])] l v W → W.cell? ⟨w.heap.size, 0, none⟩ = some (.slice cp im.code.length ccap) ∧ W.cell? ⟨w.heap.size, 1, none⟩ = some (.slice ep im.ents.length ecap) ∧ W.cell? ⟨w.heap.size, 2, none⟩ = some (.int .i64 sN) ∧ W.cell? ⟨w.heap.size, 3, none⟩ = some (.int .i64 kN) := fun W l v h => by have r := h.at (List.mem_cons_self ..); exact ⟨r.at 0 rfl, r.at 1 rfl, r.at 2 rfl, r.at 3 rfl⟩
  have HMK := Lib.hid hmk
  clear hmk
  have hs0 := HMK.out _ _ _ HR0.out
  first | go_region_held3 (fun w' => w'.cell? ⟨w.heap.size, 0, none⟩ = some (.slice cp im.code.length ccap) ∧ w'.cell? ⟨w.heap.size, 1, none⟩ = some (.slice ep im.ents.length ecap) ∧ w'.cell? ⟨w.heap.size, 2, none⟩ = some (.int .i64 sN) ∧ w'.cell? ⟨w.heap.size, 3, none⟩ = some (.int .i64 kN)) (first | exact hs0 | exact hs1 | exact hs2 | exact hs3 | assumption) (first | (go_at_call 29; refine (rput_any (k := 1) HR2.out (by decide) (by omega) (by simp [be_len])).mono ?_; rintro e w3 ⟨v3, rfl, HR3⟩; have hs3 := HMK.out _ _ _ HR3.out) | (go_at_call 29; refine (rput_any (k := 1) HR1.out (by decide) (by omega) (by simp [be_len])).mono ?_; rintro e w2 ⟨v2, rfl, HR2⟩; have hs2 := HMK.out _ _ _ HR2.out) | (go_at_call 29; refine (rput_any (k := 2) HR0.out (by decide) (by omega) (by simp)).mono ?_; rintro e w1 ⟨v1, rfl, HR1⟩; have hs1 := HMK.out _ _ _ HR1.out)) | fail
  have HP : Hid (RowRel W0.heap.size W0 [(w.heap.size, [.slice cp im.code.length ccap, .slice ep im.ents.length ecap, .int .i64 sN, .int .i64 kN])] (partE im 0) v3 w3) := (show RowRel _ _ _ _ _ _ by have h := HR3.out; rw [partE_zero, HS.out, HK.out, ← List.append_assoc]; simpa using h)
  clear HR0 HR1 HR2 HR3 hs0 hs1 hs2 hs3
  go_wp2_with fail
  go_loopw [3, 4] (fun s3 s4 wx => ∃ k : Nat, s4 = .int .i64 k ∧ k ≤ im.ents.length ∧ Hid (RowRel W0.heap.size W0 [(w.heap.size, [.slice cp im.code.length ccap, .slice ep im.ents.length ecap, .int .i64 sN, .int .i64 kN])] (partE im k) s3 wx)) (fun _ s4 _ => im.ents.length - (intOf s4).toNat)
  case atStart => exact ⟨0, rfl, Nat.zero_le _, HP⟩
  case round =>
    clear HP
    obtain ⟨k, rfl, hk, HE⟩ := hrel
    obtain ⟨w5, rfl⟩ : ∃ W : World, W = wr := ⟨_, rfl⟩
    obtain ⟨b0, b1, b2, b3⟩ := HMK.out _ _ _ HE.out
    have lb := (HE.out.at (List.mem_cons_self ..)).lt
    by_cases hlt : k < im.ents.length
    · skip
      have hltI : (k : Int) < im.ents.length := by omega
      obtain ⟨_, _, e1, hen⟩ := HI0.out.ents.below HE.out.bel (Nat.le_refl _)
      injection e1 with e1 e2 e3
      subst e1
      obtain ⟨m, off, rfl, hm, n0, n1, n2, n3⟩ := hen k hlt
      clear hen e2 e3
      obtain ⟨q1, q2, q3, q4, q5, q6, q7, q8⟩ := HG.out.ent k hlt
      have HL := Lib.hid (partE_len HG.out k)
      have HNX := Lib.hid (partE_next im k hlt)
      generalize im.ents.getD k default = en at n0 n1 n2 n3 q1 q2 q3 q4 q5 q6 q7 q8 HNX
      obtain ⟨nm, st, fin, dat⟩ := en
      simp only at n0 n1 n2 n3 q1 q2 q3 q4 q5 q6 q7 q8
      obtain ⟨stN, rfl⟩ := Int.eq_ofNat_of_zero_le q3
      obtain ⟨fnN, rfl⟩ := Int.eq_ofNat_of_zero_le q5
      obtain ⟨dtN, rfl⟩ := Int.eq_ofNat_of_zero_le q7
      have HEQ : Hid (((((partE im k ++ be 1 nm.size) ++ bytesN nm) ++ be 2 stN) ++ be 2 fnN) ++ be 2 dtN = partE im (k + 1)) := (show _ = _ by rw [HNX.out]; simp [entB, toEnt, bytesN_len, List.append_assoc])
      generalize partE im k = L at HE HL HEQ
      have hL := HL.out
      clear HNX
      have HF1 := Lib.hid (HE.out.made [.string nm, .int .i64 stN, .int .i64 fnN, .int .i64 dtN] 61)
      clear HE
      have hme : ∀ (W : World) (l : List Nat) (v : Value), RowRel W0.heap.size W0 ((w5.heap.size, [.string nm, .int .i64 stN, .int .i64 fnN, .int .i64 dtN]) :: [(w.heap.size, [.slice cp im.code.length ccap, .slice (some ⟨m, off, none⟩) im.ents.length ecap, .int .i64 sN, .int .i64 kN])]) l v W → W.cell? ⟨w5.heap.size, 0, none⟩ = some (.string nm) ∧ W.cell? ⟨w5.heap.size, 1, none⟩ = some (.int .i64 stN) ∧ W.cell? ⟨w5.heap.size, 2, none⟩ = some (.int .i64 fnN) ∧ W.cell? ⟨w5.heap.size, 3, none⟩ = some (.int .i64 dtN) ∧ w5.heap.size < W.heap.size := fun W l v h => by have r := h.at (List.mem_cons_self ..); exact ⟨r.at 0 rfl, r.at 1 rfl, r.at 2 rfl, r.at 3 rfl, r.lt⟩
      have HME := Lib.hid hme
      clear hme
      obtain ⟨g0, g1, g2, g3, gl⟩ := HME.out _ _ _ HF1.out
      go_wp2_with fail
      refine (rput_any (k := 1) HF1.out (by decide) (by omega) (by show L.length + 1 ≤ 1000000; omega)).mono ?_
      rintro e x1 ⟨v1, rfl, HF2⟩
      clear g0 g1 g2 g3 gl HF1
      go_wp2_with fail
      go_loopw [3, 6] (fun s3 s6 wx => ∃ j : Nat, s6 = .int .i64 j ∧ j ≤ nm.size ∧ Hid (RowRel W0.heap.size W0 ((w5.heap.size, [.string nm, .int .i64 stN, .int .i64 fnN, .int .i64 dtN]) :: [(w.heap.size, [.slice cp im.code.length ccap, .slice (some ⟨m, off, none⟩) im.ents.length ecap, .int .i64 sN, .int .i64 kN])]) ((L ++ be 1 nm.size) ++ (bytesN nm).take j) s3 wx)) (fun _ s6 _ => nm.size - (intOf s6).toNat)
      case atStart => exact ⟨0, rfl, Nat.zero_le _, by rw [List.take_zero, List.append_nil]; exact HF2⟩
      case round =>
        clear HF2
        obtain ⟨j, rfl, hj, HF⟩ := hrel
        obtain ⟨x2, rfl⟩ : ∃ W : World, W = wr := ⟨_, rfl⟩
        obtain ⟨g0, g1, g2, g3, gl⟩ := HME.out _ _ _ HF.out
        by_cases hltj : j < nm.size
        · skip
          have hltJ : (j : Int) < nm.size := by omega
          have HBA := Lib.hid (bytesN_at nm j hltj)
          have hlen : ((L ++ be 1 nm.size) ++ (bytesN nm).take j).length ≤ 1000000 := by simp only [List.length_append, be_len, List.length_take]; omega
          have HEJ : Hid (((L ++ be 1 nm.size) ++ (bytesN nm).take j) ++ [(nm[j]'hltj).toNat] = (L ++ be 1 nm.size) ++ (bytesN nm).take (j + 1)) := (show _ = _ by rw [HBA.out, List.append_assoc])
          generalize (L ++ be 1 nm.size) ++ (bytesN nm).take j = LJ at HF hlen HEJ
          have HO := Lib.hid (show ∀ o : Obj, (x2.alloc o).ownsRow 0 5 1 _ LJ.length (u8s LJ) from fun o => HF.out.own (bAlloc (Nat.le_refl _) (Below.refl _ _)))
          go_wp2_with (first | (at_builtin; refine wpList_append_u8 rfl _ _ rfl 0 _ LJ rfl (HO.out _) x2.heap.size 1 (nm[j]'hltj).toNat rfl (by simp [go_sem]) hlen (Nat.zero_le _) ?_))
          intro p c' x3 hO hgr hd
          have hK := HF.out.push (bAlloc (Nat.le_refl _) (Below.refl _ _)) hgr (by simp only [List.length_append, List.length_singleton]) hO (hd.imp id fun h b e => by have := h b e; simp at this ⊢; omega)
          rw [HEJ.out] at hK
          have HK2 := Lib.hid hK
          clear hK hO hgr hd
          go_wp2_with fail
          go_roundw
          case rel => exact ⟨j + 1, by go_num, by omega, HK2⟩
          case measure => simp [intOf]; omega
        · skip
          have hjn : j = nm.size := by omega
          subst hjn
          rw [List.take_of_length_le (by rw [bytesN_len]; exact Nat.le_refl _)] at HF
          have HF0 := Lib.hid (HF.out.keep (Below.refl _ _).drew)
          have hmk2 : ∀ (W : World) (l : List Nat) (v : Value), RowRel W0.heap.size W0 ((w5.heap.size, [.string nm, .int .i64 stN, .int .i64 fnN, .int .i64 dtN]) :: [(w.heap.size, [.slice cp im.code.length ccap, .slice (some ⟨m, off, none⟩) im.ents.length ecap, .int .i64 sN, .int .i64 kN])]) l v W → W.cell? ⟨w5.heap.size, 0, none⟩ = some (.string nm) ∧ W.cell? ⟨w5.heap.size, 1, none⟩ = some (.int .i64 stN) ∧ W.cell? ⟨w5.heap.size, 2, none⟩ = some (.int .i64 fnN) ∧ W.cell? ⟨w5.heap.size, 3, none⟩ = some (.int .i64 dtN) := fun W l v h => by have r := h.at (List.mem_cons_self ..); exact ⟨r.at 0 rfl, r.at 1 rfl, r.at 2 rfl, r.at 3 rfl⟩
          have HM2 := Lib.hid hmk2
          clear hmk2
          have hs0 := HM2.out _ _ _ HF0.out
          clear HF g1 g2 g3
          go_wp2_with fail
          clear g0 gl
          first | go_region_held3 (fun w' => w'.cell? ⟨w5.heap.size, 0, none⟩ = some (.string nm) ∧ w'.cell? ⟨w5.heap.size, 1, none⟩ = some (.int .i64 stN) ∧ w'.cell? ⟨w5.heap.size, 2, none⟩ = some (.int .i64 fnN) ∧ w'.cell? ⟨w5.heap.size, 3, none⟩ = some (.int .i64 dtN)) (first | exact hs0 | exact hs1 | exact hs2 | exact hs3 | assumption) (first | (go_at_call 29; refine (rput_any (k := 2) HR2.out (by decide) (by omega) (by simp only [List.length_append, be_len, bytesN_len]; omega)).mono ?_; rintro e y3 ⟨v3, rfl, HR3⟩; have hs3 := HM2.out _ _ _ HR3.out) | (go_at_call 29; refine (rput_any (k := 2) HR1.out (by decide) (by omega) (by simp only [List.length_append, be_len, bytesN_len]; omega)).mono ?_; rintro e y2 ⟨v2, rfl, HR2⟩; have hs2 := HM2.out _ _ _ HR2.out) | (go_at_call 29; refine (rput_any (k := 2) HF0.out (by decide) (by omega) (by simp only [List.length_append, be_len, bytesN_len]; omega)).mono ?_; rintro e y1 ⟨v1, rfl, HR1⟩; have hs1 := HM2.out _ _ _ HR1.out)) | fail
          rw [HEQ.out] at HR3
          have HD := Lib.hid HR3.out.drop
          clear HR1 HR2 HR3 HF0 hs0 hs1 hs2 hs3
          go_wp2_with fail
          go_roundw
          case rel => exact ⟨k + 1, by go_num, by omega, HD⟩
          case measure => simp [intOf]; omega
    · skip
      have hkn : k = im.ents.length := by omega
      subst hkn
      have hPL := partE_len HG.out im.ents.length
      have HPZ := Lib.hid (partC_zero im)
      go_wp2_with fail
      refine (rput_any (k := 2) HE.out (by decide) (by omega) (by omega)).mono ?_
      rintro e w6 ⟨v6, rfl, HE6⟩
      rw [← HPZ.out] at HE6
      clear HE hPL b0 b1 b2 b3 lb
      go_wp2_with fail
      go_loopw [3, 7] (fun s3 s7 wx => ∃ k : Nat, s7 = .int .i64 k ∧ k ≤ im.code.length ∧ Hid (RowRel W0.heap.size W0 [(w.heap.size, [.slice cp im.code.length ccap, .slice ep im.ents.length ecap, .int .i64 sN, .int .i64 kN])] (partC im k) s3 wx)) (fun _ s7 _ => im.code.length - (intOf s7).toNat)
      case atStart => exact ⟨0, rfl, Nat.zero_le _, HE6⟩
      case round =>
        clear HE6
        obtain ⟨k, rfl, hk, HE⟩ := hrel
        obtain ⟨w7, rfl⟩ : ∃ W : World, W = wr := ⟨_, rfl⟩
        obtain ⟨b0, b1, b2, b3⟩ := HMK.out _ _ _ HE.out
        have lb := (HE.out.at (List.mem_cons_self ..)).lt
        by_cases hlt : k < im.code.length
        · skip
          have hltI : (k : Int) < im.code.length := by omega
          obtain ⟨_, _, e1, hen⟩ := HI0.out.code.below HE.out.bel (Nat.le_refl _)
          injection e1 with e1 e2 e3
          subst e1
          obtain ⟨m, off, rfl, hm, n0⟩ := hen k hlt
          clear hen e2 e3
          obtain ⟨q1, q2⟩ := HI0.out.words k hlt
          have hL := partC_len HG.out k
          have HNX := Lib.hid (partC_next im k hlt)
          generalize im.code.getD k 0 = x at n0 q1 q2 HNX
          obtain ⟨xN, rfl⟩ := Int.eq_ofNat_of_zero_le q1
          rw [Int.toNat_natCast] at HNX
          go_wp2_with fail
          refine (rput_any (k := 4) HE.out (by decide) (by omega) (by omega)).mono ?_
          rintro e w8 ⟨v8, rfl, HE8⟩
          rw [← HNX.out] at HE8
          go_wp2_with fail
          go_roundw
          case rel => exact ⟨k + 1, by go_num, by omega, HE8⟩
          case measure => simp [intOf]; omega
        · skip
          have hkn : k = im.code.length := by omega
          subst hkn
          rw [partC_all] at HE
          obtain ⟨p9, c9, h9⟩ := HE.out.shape
          subst h9
          go_wp2_with fail
          go_ret
          exact ⟨_, _, rfl, HE.out.own (Below.refl _ _), HB0.out.trans (HE.out.bel.mono HB0.out.size)⟩
end Go.Proofs.YtepldfnplfhncaaDoor
