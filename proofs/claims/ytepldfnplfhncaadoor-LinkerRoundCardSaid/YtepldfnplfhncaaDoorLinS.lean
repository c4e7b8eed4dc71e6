/- linker.Encode, by its contract. -/
import Derived.Test.YtepldfnplfhncaaDoorLinM
import Derived.Test.YtepldfnplfhncaaDoorLinK
set_option linter.unusedVariables false
set_option linter.unusedSimpArgs false
namespace Go.Proofs.YtepldfnplfhncaaDoor
open Go.RowKit

/-- The binary format up to the first k entries. -/
def partE (im : LIm) (k : Nat) : List Nat := be 2 im.sh.toNat ++ (be 1 im.lk.toNat ++ (be 1 im.ents.length ++ ((im.ents.take k).map toEnt).flatMap entB))
/-- .. up to the first j words. -/
def partC (im : LIm) (j : Nat) : List Nat := partE im im.ents.length ++ (be 2 im.code.length ++ ((im.code.take j).map Int.toNat).flatMap (be 4))
theorem partE_zero (im : LIm) : partE im 0 = be 2 im.sh.toNat ++ (be 1 im.lk.toNat ++ be 1 im.ents.length) := by simp [partE]
theorem partE_next (im : LIm) (k : Nat) (h : k < im.ents.length) : partE im (k + 1) = partE im k ++ entB (toEnt (im.ents.getD k default)) := by
  unfold partE
  rw [List.take_add_one, List.getElem?_eq_getElem h, Option.toList_some, List.map_append, List.flatMap_append]
  simp only [List.map_cons, List.map_nil, List.flatMap_cons, List.flatMap_nil, List.append_nil, List.append_assoc, List.getD_eq_getElem?_getD, List.getElem?_eq_getElem h, Option.getD_some]
theorem partC_zero (im : LIm) : partC im 0 = partE im im.ents.length ++ be 2 im.code.length := by simp [partC]
theorem partC_next (im : LIm) (k : Nat) (h : k < im.code.length) : partC im (k + 1) = partC im k ++ be 4 (im.code.getD k 0).toNat := by
  unfold partC
  rw [List.take_add_one, List.getElem?_eq_getElem h, Option.toList_some, List.map_append, List.flatMap_append]
  simp only [List.map_cons, List.map_nil, List.flatMap_cons, List.flatMap_nil, List.append_nil, List.append_assoc, List.getD_eq_getElem?_getD, List.getElem?_eq_getElem h, Option.getD_some]
theorem partC_all (im : LIm) : partC im im.code.length = imgB (toImg im) := by
  simp [partC, partE, imgB, toImg, List.append_assoc]
theorem flat_len {α : Type} (f : α → List Nat) (m : Nat) : ∀ l : List α, (∀ x ∈ l, (f x).length ≤ m) → (l.flatMap f).length ≤ l.length * m
  | [], _ => by simp
  | a :: l, h => by
    rw [List.flatMap_cons, List.length_append, List.length_cons, Nat.succ_mul]
    have h1 := h a (List.mem_cons_self ..)
    have h2 := flat_len f m l fun x hx => h x (List.mem_cons_of_mem _ hx)
    omega
theorem partE_len {im : LIm} (h : Good im) (k : Nat) : (partE im k).length ≤ 1000 := by
  unfold partE
  have h1 := flat_len entB 100 ((im.ents.take k).map toEnt) (by
    intro e he
    obtain ⟨x, hx, rfl⟩ := List.mem_map.1 he
    have := good_mem h (List.mem_of_mem_take hx)
    unfold entB
    simp only [List.length_append, be_len]
    have h2 : (toEnt x).nm.length = x.nm.size := bytesN_len x.nm
    omega)
  have h2 : ((im.ents.take k).map toEnt).length ≤ 8 := by rw [List.length_map, List.length_take]; have := h.ents; omega
  simp only [List.length_append, be_len]
  have h3 : ((im.ents.take k).map toEnt).length * 100 ≤ 8 * 100 := Nat.mul_le_mul_right _ h2
  omega
theorem partC_len {im : LIm} (h : Good im) (j : Nat) : (partC im j).length ≤ 100000 := by
  unfold partC
  have h0 := partE_len h im.ents.length
  have h1 := flat_len (be 4) 4 ((im.code.take j).map Int.toNat) (by intro x _; rw [be_len]; exact Nat.le_refl _)
  have h2 : ((im.code.take j).map Int.toNat).length ≤ 4096 := by rw [List.length_map, List.length_take]; have := h.code; omega
  simp only [List.length_append, be_len]
  omega

/-- What Encode holds: its buffer (color 1), and rows of color 0 that are only read. -/
structure EncAt (B : Nat) (W0 : World) (g : Nat) (R : List (Nat × List Value)) (col : Nat → Nat) (w : World) (v : Value) (l : List Nat) : Prop where
  buf : BufC col g w v l
  low : ∀ k, k < B → col k = 0
  bel : Below B W0 w
  big : B ≤ w.heap.size
  rows : ∀ p ∈ R, RowC w p.1 p.2 ∧ col p.1 = 0
section
variable {B g : Nat} {W0 w w' : World} {R : List (Nat × List Value)} {col : Nat → Nat} {v : Value} {l l' : List Nat}
theorem EncAt.touch {col' : Nat → Nat} {v' : Value} (h : EncAt B W0 g R col w v l) (hb : BufC col' g w' v' l') (ht : Touch col 1 w w') (hc : ∀ k, k < w.heap.size → col' k = col k) : EncAt B W0 g R col' w' v' l' := by
  refine ⟨hb, fun k hk => by rw [hc k (Nat.lt_of_lt_of_le hk h.big)]; exact h.low k hk, h.bel.trans (ht.below h.big fun k hk e => by rw [h.low k hk] at e; cases e), Nat.le_trans h.big ht.size, fun p hp => ?_⟩
  obtain ⟨h1, h2⟩ := h.rows p hp
  exact ⟨h1.of_block (ht.block _ h1.lt (by rw [h2]; decide)), by rw [hc _ h1.lt]; exact h2⟩
theorem EncAt.of_put (h : EncAt B W0 g R col w v l) (hr : PutRel col w g l' w') : ∃ v' col', EncAt B W0 g R col' w' v' l' := by
  obtain ⟨v', col', hb, ht, hc⟩ := hr
  exact ⟨v', col', h.touch hb ht hc⟩
theorem EncAt.keep (h : EncAt B W0 g R col w v l) (hb : Below w.heap.size w w') : EncAt B W0 g R (paint col w.heap.size 0) w' v l := by
  refine ⟨h.buf.keep hb, low_paint h.low h.big, h.bel.trans (hb.mono h.big), Nat.le_trans h.big hb.size, fun p hp => ?_⟩
  obtain ⟨h1, h2⟩ := h.rows p hp
  exact ⟨h1.below hb h1.lt, by rw [paint_lt h1.lt]; exact h2⟩
/-- A row is made. -/
theorem EncAt.row (h : EncAt B W0 g R col w v l) (cs : List Value) (t : TypeId) : EncAt B W0 g ((w.heap.size, cs) :: R) (paint col w.heap.size 0) (w.alloc (.cells cs.toArray t)) v l := by
  have hk := h.keep (w' := w.alloc (.cells cs.toArray t)) (bAlloc (Nat.le_refl _) (Below.refl _ _))
  refine ⟨hk.buf, hk.low, hk.bel, hk.big, fun p hp => ?_⟩
  rcases List.mem_cons.1 hp with rfl | hp
  · exact ⟨RowC.made w cs t, paint_ge (Nat.le_refl _)⟩
  · exact hk.rows p hp
theorem EncAt.at (h : EncAt B W0 g R col w v l) {b : Nat} {cs : List Value} (hp : (b, cs) ∈ R) : RowC w b cs := (h.rows _ hp).1
theorem EncAt.drop {p : Nat × List Value} (h : EncAt B W0 g (p :: R) col w v l) : EncAt B W0 g R col w v l := ⟨h.buf, h.low, h.bel, h.big, fun q hq => h.rows q (List.mem_cons_of_mem _ hq)⟩
end
def EncRel (B : Nat) (W0 : World) (g : Nat) (R : List (Nat × List Value)) (l : List Nat) (w' : World) : Prop := ∃ v' col', EncAt B W0 g R col' w' v' l
section
variable {B g : Nat} {W0 w w' : World} {R : List (Nat × List Value)} {l : List Nat}
theorem EncRel.at (h : EncRel B W0 g R l w) {b : Nat} {cs : List Value} (hp : (b, cs) ∈ R) : RowC w b cs := by
  obtain ⟨v, col, h⟩ := h
  exact h.at hp
theorem EncRel.bel (h : EncRel B W0 g R l w) : Below B W0 w := by
  obtain ⟨v, col, h⟩ := h
  exact h.bel
theorem EncRel.drop {p : Nat × List Value} (h : EncRel B W0 g (p :: R) l w) : EncRel B W0 g R l w := by
  obtain ⟨v, col, h⟩ := h
  exact ⟨v, col, h.drop⟩
theorem EncRel.row (h : EncRel B W0 g R l w) (cs : List Value) (t : TypeId) : EncRel B W0 g ((w.heap.size, cs) :: R) l (w.alloc (.cells cs.toArray t)) := by
  obtain ⟨v, col, h⟩ := h
  exact ⟨v, _, h.row cs t⟩
end
theorem put_enc {B g n k : Nat} {W0 w : World} {R : List (Nat × List Value)} {l : List Nat} (h : EncRel B W0 g R l w) (hk : k ≤ 4) (hn : n < 4611686018427387904) (hl : l.length + k ≤ 1000000) :
    Calls Tryd.prog 26 #[.int .i64 n, .int .i64 k, .pointer (some ⟨g, 0, none⟩)] w fun e w' => e = .returned (.tuple #[]) ∧ Hid (EncRel B W0 g R (l ++ be k n) w') := by
  obtain ⟨v, col, h⟩ := h
  exact (put_any col g n k v l w h.buf hk hn hl).mono fun e w' ⟨he, hr⟩ => ⟨he, h.of_put hr⟩

/-- What Encode leaves. -/
def EncPost (im : LIm) (w : World) (e : Ending) (w' : World) : Prop :=
  (chk im = 0 → ∃ v, e = .returned (.tuple #[v, .int .i64 0]) ∧ w'.ownsRow 0 5 1 v (imgB (toImg im)).length (u8s (imgB (toImg im)))) ∧
  (chk im ≠ 0 → e = .returned (.tuple #[.slice none 0 0, .int .i64 (chk im)])) ∧ Below w.heap.size w w'

set_option maxHeartbeats 3200000 in
set_option maxRecDepth 20000 in
theorem enc_any (cv ev : Value) (im : LIm) (w : World) (hT : Tab w) (h : LImAt w cv ev im) :
    Calls Tryd.prog 11 #[.agg #[cv, ev, .int .i64 im.sh, .int .i64 im.lk]] w (EncPost im w) := by
  have hb0 : Below w.heap.size w (w.alloc (.cells #[cv, ev, .int .i64 im.sh, .int .i64 im.lk] 25)) := bAlloc (Nat.le_refl _) (Below.refl _ _)
  have hx0 : RowC (w.alloc (.cells #[cv, ev, .int .i64 im.sh, .int .i64 im.lk] 25)) w.heap.size [cv, ev, .int .i64 im.sh, .int .i64 im.lk] := RowC.made w [cv, ev, .int .i64 im.sh, .int .i64 im.lk] 25
  have HI0 := Lib.hid (h.below hb0 (Nat.le_refl _))
  have HT0 := Lib.hid (hT.of_below hb0)
  obtain ⟨cp, ccap, rfl, -⟩ := h.code
  obtain ⟨ep, ecap, rfl, -⟩ := h.ents
  have HB0 := Lib.hid hb0
  have HX0 := Lib.hid hx0
  clear hb0 h hT hx0
  go_enter Tryd.func11, Tryd.ntmps11
  go_wp2_with fail
  refine (check_any _ _ im _ HT0.out HI0.out).mono ?_
  rintro e w1 ⟨rfl, hb1⟩
  have HI1 := Lib.hid (HI0.out.below hb1 (Nat.le_refl _))
  have HX1 := Lib.hid (HX0.out.below hb1 HX0.out.lt)
  have HB1 := Lib.hid (HB0.out.trans (hb1.mono (by simp)))
  clear HI0 HT0 HX0 HB0 hb1
  by_cases hc : chk im = 0
  · have HG := Lib.hid (chk_good hc)
    have HC := Lib.hid hc
    rw [hc]
    obtain ⟨sN, hsN⟩ := Int.eq_ofNat_of_zero_le HG.out.sh.1
    obtain ⟨kN, hkN⟩ := Int.eq_ofNat_of_zero_le HG.out.lk.1
    rw [hsN, hkN] at HX1
    have hs64 : sN ≤ 64 := by have := HG.out.sh.2; omega
    have hk4 : kN ≤ 4 := by have := HG.out.lk.2; omega
    have HS := Lib.hid (show im.sh.toNat = sN by omega)
    have HK := Lib.hid (show im.lk.toNat = kN by omega)
    have hcl := HG.out.code
    have hel := HG.out.ents
    clear hc hsN hkN
    have hE : EncRel w1.heap.size w1 w1.heap.size [(w.heap.size, [.slice cp im.code.length ccap, .slice ep im.ents.length ecap, .int .i64 sN, .int .i64 kN])] [] (w1.alloc (.cells #[.slice none 0 0] 31)) := by
      refine ⟨.slice none 0 0, fun k => if k < w1.heap.size then 0 else 1, ⟨OwnC.nil _ _ _ _ _, by simp [go_sem], ?_, by simp [Value.ownBlock], by simp, by simp⟩, fun k hk => if_pos hk, bAlloc (Nat.le_refl _) (Below.refl _ _), by simp, ?_⟩
      · have hh := heap_alloc_new w1 (.cells #[.slice none 0 0] 31)
        unfold World.frozen?; rw [hh]; rfl
      · intro p hp
        rw [List.mem_singleton] at hp
        subst hp
        exact ⟨HX1.out.alloc _, if_pos HX1.out.lt⟩
    have HE := Lib.hid hE
    clear hE
    -- walk
    have lw1 := HX1.out.lt
    have b0 := HX1.out.at 0 rfl
    have b1 := HX1.out.at 1 rfl
    have b2 := HX1.out.at 2 rfl
    have b3 := HX1.out.at 3 rfl
    go_wp2_with fail
    refine (put_enc (k := 2) HE.out (by decide) (by omega) (by simp)).mono ?_
    rintro e w2 ⟨rfl, HE1⟩
    have r1 := HE1.out.at (List.mem_cons_self ..)
    have lr1 := r1.lt
    have c1_0 := r1.at 0 rfl
    have c1_1 := r1.at 1 rfl
    have c1_2 := r1.at 2 rfl
    have c1_3 := r1.at 3 rfl
    clear r1 b0 b1 b2 b3 lw1
    go_wp2_with fail
    refine (put_enc (k := 1) HE1.out (by decide) (by omega) (by simp [be_len])).mono ?_
    rintro e w3 ⟨rfl, HE2⟩
    have r2 := HE2.out.at (List.mem_cons_self ..)
    have lr2 := r2.lt
    have c2_0 := r2.at 0 rfl
    have c2_1 := r2.at 1 rfl
    have c2_2 := r2.at 2 rfl
    have c2_3 := r2.at 3 rfl
    clear r2 lr1 c1_0 c1_1 c1_2 c1_3
    go_wp2_with fail
    refine (put_enc (k := 1) HE2.out (by decide) (by omega) (by simp [be_len])).mono ?_
    rintro e w4 ⟨rfl, HE3⟩
    have r3 := HE3.out.at (List.mem_cons_self ..)
    have lr3 := r3.lt
    have c3_0 := r3.at 0 rfl
    have c3_1 := r3.at 1 rfl
    have c3_2 := r3.at 2 rfl
    have c3_3 := r3.at 3 rfl
    clear r3 lr2 c2_0 c2_1 c2_2 c2_3
    have HP : Hid (EncRel w1.heap.size w1 w1.heap.size [(w.heap.size, [.slice cp im.code.length ccap, .slice ep im.ents.length ecap, .int .i64 sN, .int .i64 kN])] (partE im 0) w4) := (show EncRel _ _ _ _ _ _ by have h := HE3.out; rw [partE_zero, HS.out, HK.out, ← List.append_assoc]; simpa using h)
    clear HE HE1 HE2 HE3
    go_wp2_with fail
    go_loopw [33] (fun s33 wx => ∃ k : Nat, s33 = .int .i64 k ∧ k ≤ im.ents.length ∧ Hid (EncRel w1.heap.size w1 w1.heap.size [(w.heap.size, [.slice cp im.code.length ccap, .slice ep im.ents.length ecap, .int .i64 sN, .int .i64 kN])] (partE im k) wx)) (fun s33 _ => im.ents.length - (intOf s33).toNat)
    case atStart => exact ⟨0, rfl, Nat.zero_le _, HP⟩
    case round =>
      clear HP lr3 c3_0 c3_1 c3_2 c3_3
      obtain ⟨k, rfl, hk, HE⟩ := hrel
      obtain ⟨w5, rfl⟩ : ∃ W : World, W = wr := ⟨_, rfl⟩
      by_cases hlt : k < im.ents.length
      · skip
        have hltI : (k : Int) < im.ents.length := by omega
        obtain ⟨_, _, e1, hen⟩ := HI1.out.ents.below HE.out.bel (Nat.le_refl _)
        injection e1 with e1 e2 e3
        subst e1
        obtain ⟨m, off, rfl, hm, n0, n1, n2, n3⟩ := hen k hlt
        clear hen e2 e3
        obtain ⟨q1, q2, q3, q4, q5, q6, q7, q8⟩ := HG.out.ent k hlt
        have HL := Lib.hid (partE_len HG.out k)
        have HNX := Lib.hid (partE_next im k hlt)
        generalize im.ents.getD k default = en at n0 n1 n2 n3 q1 q2 q3 q4 q5 q6 q7 q8 HNX
        obtain ⟨nm, st, fin, dat⟩ := en
        simp only at n0 n1 n2 n3 q1 q2 q3 q4 q5 q6 q7 q8
        obtain ⟨stN, rfl⟩ := Int.eq_ofNat_of_zero_le q3
        obtain ⟨fnN, rfl⟩ := Int.eq_ofNat_of_zero_le q5
        obtain ⟨dtN, rfl⟩ := Int.eq_ofNat_of_zero_le q7
        have HEQ : Hid (((((partE im k ++ be 1 nm.size) ++ bytesN nm) ++ be 2 stN) ++ be 2 fnN) ++ be 2 dtN = partE im (k + 1)) := (show _ = _ by rw [HNX.out]; simp [entB, toEnt, bytesN_len, List.append_assoc])
        generalize partE im k = L at HE HL HEQ
        have hL := HL.out
        clear HNX
        have HF1 := Lib.hid (HE.out.row [.string nm, .int .i64 stN, .int .i64 fnN, .int .i64 dtN] 61)
        have r0 := HF1.out.at (List.mem_cons_self ..)
        have g0 := r0.at 0 rfl
        have g1 := r0.at 1 rfl
        have g2 := r0.at 2 rfl
        have g3 := r0.at 3 rfl
        have gl := r0.lt
        clear r0
        go_wp2_with fail
        refine (put_enc (k := 1) HF1.out (by decide) (by omega) (by show L.length + 1 ≤ 1000000; omega)).mono ?_
        rintro e x1 ⟨rfl, HF2⟩
        have r1 := HF2.out.at (List.mem_cons_self ..)
        clear g0 g1 g2 g3 gl HF1
        have gl := r1.lt
        have g0 := r1.at 0 rfl
        have g1 := r1.at 1 rfl
        have g2 := r1.at 2 rfl
        have g3 := r1.at 3 rfl
        clear r1
        obtain ⟨v2, col2, hE2⟩ := HF2.out
        have HE2 := Lib.hid hE2
        have z0 := hE2.buf.box
        have z1 := hE2.buf.fz
        have z2 := hE2.buf.lt
        clear hE2 HF2
        have hl2 : (L ++ be 1 nm.size).length + nm.size ≤ 1000000 := by rw [List.length_append, be_len]; omega
        go_wp2_with (first | (at_builtin; refine wpList_append_text rfl _ _ rfl 0 v2 (L ++ be 1 nm.size) rfl HE2.out.buf.row.1 nm rfl hl2 (Nat.zero_le _) ?_))
        intro p3 q3' x2 hO hgr hd
        obtain ⟨z0', z1', z2', c3, hB3, hT3, hC3⟩ := HE2.out.buf.grow (Below.refl _ _) hgr (by simp only [List.length_append, bytesN_len]) hO hd
        have HF3 := Lib.hid (show EncRel _ _ _ _ _ _ from ⟨_, c3, HE2.out.touch hB3 hT3 hC3⟩)
        have r2 := HF3.out.at (List.mem_cons_self ..)
        clear g0 g1 g2 g3 gl z0 z1 z2 HE2 hO hgr hd hB3 hT3 hC3
        have gl := r2.lt
        have g0 := r2.at 0 rfl
        have g1 := r2.at 1 rfl
        have g2 := r2.at 2 rfl
        have g3 := r2.at 3 rfl
        clear r2
        go_wp2_with fail
        refine (put_enc (k := 2) HF3.out (by decide) (by omega) (by simp only [List.length_append, be_len, bytesN_len]; omega)).mono ?_
        rintro e x3 ⟨rfl, HF4⟩
        have r3 := HF4.out.at (List.mem_cons_self ..)
        clear g0 g1 g2 g3 gl HF3
        have gl := r3.lt
        have g0 := r3.at 0 rfl
        have g1 := r3.at 1 rfl
        have g2 := r3.at 2 rfl
        have g3 := r3.at 3 rfl
        clear r3
        go_wp2_with fail
        refine (put_enc (k := 2) HF4.out (by decide) (by omega) (by simp only [List.length_append, be_len, bytesN_len]; omega)).mono ?_
        rintro e x4 ⟨rfl, HF5⟩
        have r4 := HF5.out.at (List.mem_cons_self ..)
        clear g0 g1 g2 g3 gl HF4
        have gl := r4.lt
        have g0 := r4.at 0 rfl
        have g1 := r4.at 1 rfl
        have g2 := r4.at 2 rfl
        have g3 := r4.at 3 rfl
        clear r4
        go_wp2_with fail
        refine (put_enc (k := 2) HF5.out (by decide) (by omega) (by simp only [List.length_append, be_len, bytesN_len]; omega)).mono ?_
        rintro e x5 ⟨rfl, HF6⟩
        have r5 := HF6.out.at (List.mem_cons_self ..)
        clear g0 g1 g2 g3 gl HF5
        have gl := r5.lt
        have g0 := r5.at 0 rfl
        have g1 := r5.at 1 rfl
        have g2 := r5.at 2 rfl
        have g3 := r5.at 3 rfl
        clear r5
        have HD := Lib.hid HF6.out.drop
        rw [HEQ.out] at HD
        go_wp2_with fail
        go_roundw
        case rel => exact ⟨k + 1, by go_num, by omega, HD⟩
        case measure => simp [intOf]; omega
      · skip
        have hkn : k = im.ents.length := by omega
        subst hkn
        have r0 := HE.out.at (List.mem_cons_self ..)
        have lr := r0.lt
        have d0 := r0.at 0 rfl
        clear r0
        have hPL := partE_len HG.out im.ents.length
        have HPZ := Lib.hid (partC_zero im)
        go_wp2_with fail
        refine (put_enc (k := 2) HE.out (by decide) (by omega) (by omega)).mono ?_
        rintro e w6 ⟨rfl, HE6⟩
        rw [← HPZ.out] at HE6
        have r0 := HE6.out.at (List.mem_cons_self ..)
        clear lr d0
        have lr := r0.lt
        have d0 := r0.at 0 rfl
        clear r0 HE hPL
        go_wp2_with fail
        go_loopw [67] (fun s67 wx => ∃ k : Nat, s67 = .int .i64 k ∧ k ≤ im.code.length ∧ Hid (EncRel w1.heap.size w1 w1.heap.size [(w.heap.size, [.slice cp im.code.length ccap, .slice ep im.ents.length ecap, .int .i64 sN, .int .i64 kN])] (partC im k) wx)) (fun s67 _ => im.code.length - (intOf s67).toNat)
        case atStart => exact ⟨0, rfl, Nat.zero_le _, HE6⟩
        case round =>
          clear HE6 lr d0
          obtain ⟨k, rfl, hk, HE⟩ := hrel
          obtain ⟨w7, rfl⟩ : ∃ W : World, W = wr := ⟨_, rfl⟩
          by_cases hlt : k < im.code.length
          · skip
            have hltI : (k : Int) < im.code.length := by omega
            obtain ⟨_, _, e1, hen⟩ := HI1.out.code.below HE.out.bel (Nat.le_refl _)
            injection e1 with e1 e2 e3
            subst e1
            obtain ⟨m, off, rfl, hm, n0⟩ := hen k hlt
            clear hen e2 e3
            obtain ⟨q1, q2⟩ := HI1.out.words k hlt
            have hL := partC_len HG.out k
            have HNX := Lib.hid (partC_next im k hlt)
            generalize im.code.getD k 0 = x at n0 q1 q2 HNX
            obtain ⟨xN, rfl⟩ := Int.eq_ofNat_of_zero_le q1
            rw [Int.toNat_natCast] at HNX
            go_wp2_with fail
            refine (put_enc (k := 4) HE.out (by decide) (by omega) (by omega)).mono ?_
            rintro e w8 ⟨rfl, HE8⟩
            rw [← HNX.out] at HE8
            go_wp2_with fail
            go_roundw
            case rel => exact ⟨k + 1, by go_num, by omega, HE8⟩
            case measure => simp [intOf]; omega
          · skip
            have hkn : k = im.code.length := by omega
            subst hkn
            rw [partC_all] at HE
            obtain ⟨v9, c9, hE9⟩ := HE.out
            have HE9 := Lib.hid hE9
            have z0 := hE9.buf.box
            have z2 := hE9.buf.lt
            clear hE9
            go_wp2_with fail
            go_ret2
            exact ⟨fun _ => ⟨v9, rfl, HE9.out.buf.row.1⟩, fun h => absurd HC.out h, HB1.out.trans (HE9.out.bel.mono HB1.out.size)⟩
  · have HC := Lib.hid hc
    have hne : (chk im != 0) = true := by simpa using hc
    generalize hx : chk im = x at hne hc ⊢
    have HX := Lib.hid hx
    clear hx
    go_wp2_with fail
    go_ret2
    exact ⟨fun h => absurd h HC.out, fun _ => by rw [HX.out]; rfl, HB1.out⟩
end Go.Proofs.YtepldfnplfhncaaDoor
