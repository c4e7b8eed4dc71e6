/- The law RegallocLists. -/
import Derived.Test.YtdfeebkekkmcjaaRegK
set_option linter.unusedVariables false
set_option linter.unusedSimpArgs false
namespace Go.Proofs.Ytdfeebkekkmcjaa
open Go.RowKit

/-- The edges of the two graphs agree. -/
theorem colorG_congr (n : Nat) (A B : Nat → Nat → Bool) (k : Int) (h : ∀ a b, a < n → b < n → A a b = B a b) : colorG n A k = colorG n B k := by
  have hnb : ∀ a, a < n → nbs n A a = nbs n B a := fun a ha => List.filter_congr fun b hb => h a b ha (List.mem_range.1 hb)
  have hdeg : ∀ g a, a < n → degG n A g a = degG n B g a := fun g a ha => by unfold degG; rw [hnb a ha]
  have hscan : ∀ g (c i : Nat) (m : Int), i + c ≤ n → (m < 0 ∨ m.toNat < n) → scanG (degG n A g) g k c i m = scanG (degG n B g) g k c i m := by
    intro g c
    induction c with
    | zero => exact fun _ _ _ _ => rfl
    | succ c ih =>
      intro i m hi hm
      unfold scanG
      rw [hdeg g i (by omega)]
      by_cases hg : g.contains i = true
      · rw [if_pos hg, if_pos hg]; exact ih _ _ (by omega) hm
      · rw [if_neg hg, if_neg hg]
        by_cases hd : (degG n B g i : Int) < k
        · rw [if_pos hd, if_pos hd]
        · rw [if_neg hd, if_neg hd]
          have e : (m < 0 ∨ degG n A g m.toNat < degG n B g i) ↔ (m < 0 ∨ degG n B g m.toNat < degG n B g i) := by
            rcases hm with h | h
            · simp [h]
            · rw [hdeg g _ h]
          by_cases hc : m < 0 ∨ degG n B g m.toNat < degG n B g i
          · rw [if_pos (e.2 hc), if_pos hc]; exact ih _ _ (by omega) (by omega)
          · rw [if_neg (fun h => hc (e.1 h)), if_neg hc]; exact ih _ _ (by omega) hm
  have hnext : ∀ g, nextG n A k g = nextG n B k g := fun g => hscan g n 0 (-1) (by omega) (.inl (by omega))
  have hrem : ∀ c g, removeG n A k c g = removeG n B k c g := by
    intro c
    induction c with
    | zero => exact fun _ => rfl
    | succ c ih => intro g; unfold removeG; rw [hnext, ih]
  have hpick : ∀ out a, a < n → pickG n A k out a = pickG n B k out a := fun out a ha => by
    have : freeG n A out a = freeG n B out a := by funext c; unfold freeG; rw [hnb a ha]
    unfold pickG; rw [this]
  have hsel : ∀ (l : List Nat) (out : List Int), (∀ x ∈ l, x < n) → selectG n A k l out = selectG n B k l out := by
    intro l
    induction l with
    | nil => exact fun _ _ => rfl
    | cons a l ih => intro out hl; unfold selectG; rw [hpick out a (hl a (List.mem_cons_self ..)), ih _ (fun x hx => hl x (List.mem_cons_of_mem _ hx))]
  unfold colorG
  rw [hrem]
  exact hsel _ _ fun x hx => ((removed (n := n) (A := B) (k := k)).2.2 x).1 (List.mem_reverse.1 hx)

/-- What the second graph's rows hold: every listed edge stands in it, and nothing else. -/
structure Same2 (e : List (List Int)) (a : Nat) (j : Nat) (X : Nat → List Int) : Prop where
  /-- rows below a, and of row a the places from j on, have been taken over -/
  own : ∀ r b, (r < a ∨ (r = a ∧ ∃ i, j ≤ i ∧ i < (e.getD a []).length ∧ (e.getD a []).getD i 0 = b)) → r < e.length → (r < a → b ∈ e.getD r []) → b ∈ X r
  only : ∀ r b, b ∈ X r → b ∈ e.getD r [] ∨ (∃ s : Nat, s < e.length ∧ b = (s : Int) ∧ ((r : Nat) : Int) ∈ e.getD s [])

theorem Same2.adj {e : List (List Int)} {X : Nat → List Int} (h : Same2 e e.length 0 X) (f : List (List Int)) (hf : ∀ r, r < e.length → f.getD r [] = X r) (a b : Nat) (ha : a < e.length) (hb : b < e.length) : adjG f a b = adjG e a b := by
  have key : ∀ a b : Nat, a < e.length → b < e.length → adjG f a b = true → adjG e a b = true := by
    intro a b ha hb h1
    unfold adjG at h1 ⊢
    rw [Bool.and_eq_true, Bool.or_eq_true, List.contains_iff_mem, List.contains_iff_mem] at h1 ⊢
    refine ⟨h1.1, ?_⟩
    rcases h1.2 with h2 | h2
    · rw [hf a ha] at h2
      rcases h.only a b h2 with h3 | ⟨s, _, h4, h5⟩
      · exact .inl h3
      · have : s = b := by omega
        subst this; exact .inr h5
    · rw [hf b hb] at h2
      rcases h.only b a h2 with h3 | ⟨s, _, h4, h5⟩
      · exact .inr h3
      · have : s = a := by omega
        subst this; exact .inl h5
  have key2 : adjG e a b = true → adjG f a b = true := by
    intro h1
    unfold adjG at h1 ⊢
    rw [Bool.and_eq_true, Bool.or_eq_true, List.contains_iff_mem, List.contains_iff_mem] at h1 ⊢
    refine ⟨h1.1, ?_⟩
    rcases h1.2 with h2 | h2
    · left; rw [hf a ha]; exact h.own a b (.inl ha) ha (fun _ => h2)
    · right; rw [hf b hb]; exact h.own b a (.inl hb) hb (fun _ => h2)
  rw [Bool.eq_iff_iff]
  exact ⟨key a b ha hb, key2⟩
theorem Same2.start (e : List (List Int)) : Same2 e 0 (e.getD 0 []).length (fun _ => []) :=
  ⟨fun r b h hr hb => by rcases h with h | ⟨_, i, h1, h2, _⟩ <;> omega, fun r b h => by simp at h⟩
theorem Same2.row {e : List (List Int)} {a : Nat} {X : Nat → List Int} (h : Same2 e a 0 X) (ha : a < e.length) : Same2 e (a+1) (e.getD (a+1) []).length X :=
  ⟨fun r b h1 hr hb => by
    rcases h1 with h1 | ⟨_, i, h2, h3, _⟩
    · by_cases e1 : r = a
      · subst e1
        obtain ⟨i, hi, ei⟩ := List.mem_iff_getElem.1 (hb (by omega))
        refine h.own r b (.inr ⟨rfl, i, Nat.zero_le _, hi, ?_⟩) hr (fun h => by omega)
        rw [List.getD_eq_getElem?_getD, List.getElem?_eq_getElem hi]; exact ei
      · exact h.own r b (.inl (by omega)) hr (fun _ => hb h1)
    · omega, h.only⟩
/-- One place is taken over: to its own row, twice, and to the other's. -/
theorem Same2.put {e : List (List Int)} {a j : Nat} {X Y : Nat → List Int} {y : Int} (h : Same2 e a (j+1) X) (ha : a < e.length) (hj : j < (e.getD a []).length) (hy : (e.getD a []).getD j 0 = y)
    (hsub : ∀ r b, b ∈ X r → b ∈ Y r) (hin : y ∈ Y a) (honly : ∀ r b, b ∈ Y r → b ∈ X r ∨ (r = a ∧ b = y) ∨ ((r : Int) = y ∧ b = (a : Int))) : Same2 e a j Y := by
  have hmem : y ∈ e.getD a [] := by
    rw [← hy]
    generalize e.getD a [] = l at hj ⊢
    rw [List.getD_eq_getElem?_getD, List.getElem?_eq_getElem hj]; exact List.getElem_mem hj
  refine ⟨fun r b h1 hr hb => ?_, fun r b h1 => ?_⟩
  · rcases h1 with h1 | ⟨rfl, i, h2, h3, h4⟩
    · exact hsub r b (h.own r b (.inl h1) hr hb)
    · by_cases e1 : i = j
      · subst e1; rw [hy] at h4; subst h4; exact hin
      · exact hsub r b (h.own r b (.inr ⟨rfl, i, by omega, h3, h4⟩) hr hb)
  · rcases honly r b h1 with h2 | ⟨rfl, rfl⟩ | ⟨h2, rfl⟩
    · exact h.only r b h2
    · exact .inl hmem
    · exact .inr ⟨a, ha, rfl, by rw [h2]; exact hmem⟩

/-- A slice is stored into one cell: the world behind it under a name. -/
theorem wpList_store_slice {P : Program} {w : World} {ops : Array Oper} {rest : List Oper} {o : Oper} {a : Act} {Q : Exit → Act → World → Prop} (hgd : o.guard = none) (ty : TypeId) (x y : Operand) (ho : o.op = .store ty x y) (hd : o.dst = none)
    (b k : Nat) (p : Option Addr) (n c : Nat) (hx : a.eval x = .pointer (some ⟨b, k, none⟩)) (hy : a.eval y = .slice p n c) (hc : (w.cell? ⟨b, k, none⟩).isSome = true) (hf : w.frozen? ⟨b, k, none⟩ = false) (hi : (P.info? ty).map (·.size) = some 1)
    (h : ∀ w', Hid (w' = w.setCell ⟨b, k, none⟩ (.slice p n c)) → wpList P ops Q rest a w') : wpList P ops Q (o :: rest) a w := by
  refine wpList_plain hgd fun K hK => ?_
  have hr := run_storeCells_cells (P := P) b k [.slice p n c] 0 w (fun j hj => by
    have : j = 0 := by simpa using hj
    subst this; exact hc) (fun j hj => by
    have : j = 0 := by simpa using hj
    subst this; exact hf) (fun v hv => by
    have : v = .slice p n c := by simpa using hv
    subst this; rfl)
  cases hq : P.info? ty with
  | none => simp [hq] at hi
  | some i =>
    have hs : i.size = 1 := by simpa [hq] using hi
    simp only [Nat.add_zero] at hr
    have hr2 : (storeVar ty ⟨b, k, none⟩ (.slice p n c)).run P w = .ok () (w.setCell ⟨b, k, none⟩ (.slice p n c)) := by
      simp [storeVar, sizeOf, typeInfo, hq, Value.cells, hs, hr, World.setCells]
    unfold Oper.wp execOp
    simp only [ho, hx, hy, Instr.storeAt, Instr.sureAddr, Sem.run_bind, Sem.run_pure, Result.andThen_ok, hr2]
    have h2 : wpList P ops Q rest (a.put o.dst undef) (w.setCell ⟨b, k, none⟩ (.slice p n c)) := by rw [hd]; exact h _ rfl
    exact hK _ _ h2
theorem upd_sub {X : Nat → List Int} {k r : Nat} {l : List Int} {b : Int} (h : b ∈ X r) : b ∈ upd X k (X k ++ l) r := by
  by_cases e : r = k
  · subst e; rw [upd_same]; exact List.mem_append_left _ h
  · rw [upd_ne _ _ e]; exact h
theorem upd_only {X : Nat → List Int} {k r : Nat} {l : List Int} {b : Int} (h : b ∈ upd X k (X k ++ l) r) : b ∈ X r ∨ (r = k ∧ b ∈ l) := by
  by_cases e : r = k
  · subst e; rw [upd_same, List.mem_append] at h; exact h.imp id fun h => ⟨rfl, h⟩
  · rw [upd_ne _ _ e] at h; exact .inl h
theorem upd_len (X : Nat → List Int) (k : Nat) (l : List Int) (r : Nat) : (upd X k (X k ++ l) r).length ≤ (X r).length + l.length := by
  by_cases e : r = k
  · subst e; rw [upd_same, List.length_append]; exact Nat.le_refl _
  · rw [upd_ne _ _ e]; omega

set_option maxHeartbeats 6400000 in
set_option maxRecDepth 20000 in
theorem lists_any (v : Value) (e : List (List Int)) (c : Int) (w : World) (h : RdR w v e) (hn : e.length ≤ 9223372036854775807) (hc1 : 0 ≤ c) (hc2 : c ≤ 255) :
    Calls Try.prog 6 #[v, .int .u8 c] w fun r w' => r = .returned (.bool true) ∧ Below w.heap.size w w' := by
  obtain ⟨p, cap, rfl⟩ := h.shape
  have HR := Lib.hid h
  clear h
  go_enter Try.func6, Try.ntmps6
  go_wp2_with fail
  refine (awake_any w).mono ?_
  rintro r w1 ⟨rfl, hB1⟩
  have HB1 := Lib.hid hB1
  clear hB1
  go_wp2_with fail
  refine (wide_any _ e w1 (HR.out.below HB1.out (Nat.le_refl _)) hn).mono ?_
  rintro r w' ⟨⟨b, rfl, hw⟩, rfl⟩
  cases b
  · obtain ⟨h24, hm⟩ := hw rfl
    have HM := Lib.hid hm
    have HR1 := Lib.hid (HR.out.below HB1.out (Nat.le_refl _))
    clear hw hm
    have hmkR := run_make_row' (P := Try.prog) 22 26 (.slice none 0 0) 24 Try.underlying22 infoL rfl .i64 .i64 e.length (by omega) (by omega)
    go_wp2_with fail
    go_loopw [18] (fun s18 wr => ∃ (k : Nat) (V : Nat → Value) (X : Nat → List Int), s18 = .int .i64 k ∧ k ≤ e.length ∧ Hid (Rows (fun b => w1.heap.size ≤ b) wr w1.heap.size e.length V X) ∧ Hid (Same2 e k (e.getD k []).length X) ∧ Hid (∀ r, (X r).length ≤ 120 * k) ∧ Hid (Below w1.heap.size w1 wr)) (fun s18 _ => e.length - (intOf s18).toNat)
    case atStart => exact ⟨0, _, _, rfl, Nat.zero_le _, Rows.made w1 e.length (Nat.le_refl _), Same2.start e, fun r => Nat.le_refl _, bAlloc (Nat.le_refl _) (Below.refl _ _)⟩
    case round =>
      obtain ⟨k, V, X, rfl, hk, HW, HS, HL, HB⟩ := hrel
      obtain ⟨w2, rfl⟩ : ∃ W : World, W = wr := ⟨_, rfl⟩
      have hsz := HW.out.out.lt
      by_cases hlt : k < e.length
      · have hltI : (k : Int) < e.length := by omega
        obtain ⟨m1, o1, cap', q, c', e1, hm1, hx0, hr1⟩ := HR1.out.row k hlt
        injection e1 with e1 e2 e3
        subst e1 e3
        have hx1 := (HB.out.cell (p := ⟨m1, o1 + k, none⟩) hm1).trans hx0
        have hml := HM.out k
        have HPut := Lib.hid (fun (j : Nat) (X Y : Nat → List Int) (y : Int) (h : Same2 e k (j+1) X) hj hy => Same2.put (Y := Y) (y := y) h hlt hj hy)
        have HRow := Lib.hid (fun (X : Nat → List Int) (h : Same2 e k 0 X) => h.row hlt)
        generalize e.getD k [] = row at hx0 hx1 hr1 hml HPut HS
        have HROW := Lib.hid hr1
        have HX1 := Lib.hid hx0
        clear hr1 hx0
        go_wp2_with fail
        go_loopw [7] (fun s7 wx => ∃ (j : Nat) (z : Int) (U : Nat → Value) (X : Nat → List Int), s7 = .int .i64 z ∧ z = (j : Int) - 1 ∧ j ≤ row.length ∧ Hid (Rows (fun b => w1.heap.size ≤ b) wx w1.heap.size e.length U X) ∧ Hid (Same2 e k j X) ∧ Hid (∀ r, (X r).length ≤ 3 * (40 * k + (row.length - j))) ∧ Hid (Below w1.heap.size w1 wx)) (fun s7 _ => (intOf s7 + 1).toNat)
        case atStart => exact ⟨row.length, _, V, X, by go_num, by omega, Nat.le_refl _, HW, HS, fun r => by have := HL.out r; omega, HB⟩
        case round =>
          obtain ⟨j, z, U, Y, rfl, rfl, hj, HU, HSx, HLx, HBx⟩ := hrel
          obtain ⟨w3, rfl⟩ : ∃ W : World, W = wr := ⟨_, rfl⟩
          have hsz3 := HU.out.out.lt
          by_cases hj0 : j = 0
          · subst hj0
            go_wp2_with fail
            go_roundw
            case rel => exact ⟨k + 1, U, Y, by go_num, by omega, HU, HRow.out Y HSx.out, fun r => by have := HLx.out r; omega, HBx⟩
            case measure => simp [intOf]; omega
          · obtain ⟨i, rfl⟩ : ∃ i, j = i + 1 := ⟨j - 1, by omega⟩
            have hjj : (((i + 1 : Nat) : Int) - 1) = (i : Int) := by omega
            rw [hjj]
            have hlt2 : i < row.length := by omega
            have hltJ : (i : Int) < row.length := by omega
            have hx3 := (HBx.out.cell (p := ⟨m1, o1 + k, none⟩) hm1).trans HX1.out
            have hm3 : m1 < w3.heap.size := by have := HBx.out.size; omega
            obtain ⟨m2, o2, cc, e1, hm2, hy0⟩ := rdI_at (HROW.out.below HBx.out (Nat.le_refl _)) i hlt2
            injection e1 with e1 e2 e3
            subst e1 e3
            have hput := HPut.out i Y
            have HPut2 := Lib.hid (fun (Z : Nat → List Int) => hput Z _ HSx.out hlt2 rfl)
            clear hput
            generalize row.getD i 0 = y at hy0 HPut2
            obtain ⟨q4, c4, hV4, hcl4⟩ := HU.out.cell hlt
            have ho := HU.out.row k hlt
            rw [hV4] at ho
            have HO := Lib.hid ho
            have HV := Lib.hid hV4
            have hyl := HLx.out k
            clear ho hV4
            have hfz3 : w3.frozen? ⟨w1.heap.size, k, none⟩ = false := HU.out.out.frozen k
            go_wp2_with (first | (at_builtin; refine wpList_append_int rfl _ _ rfl 0 _ (Y k) rfl (HO.out.alloc _) ⟨w3.heap.size, 0, none⟩ _ [y, y] rfl ?cell (by simp; omega) (Nat.zero_le _) ?_))
            case cell =>
              intro j hj
              have hj1 : j < 2 := hj
              have hj2 : j = 0 ∨ j = 1 := by omega
              rcases hj2 with rfl | rfl <;> simp [go_sem, Addr.add]
            intro p5 c5 w5 hO5 hg5 hd5
            have hg6 : (w3.alloc (.cells #[Value.int .i64 y, Value.int .i64 y] 3)).grownBy w5 (U k).ownBlock := by rw [HV.out]; exact hg5
            obtain ⟨hR5, hs5⟩ := HU.out.pushed_out hlt hg6
            have hfz5 : w5.frozen? ⟨w1.heap.size, k, none⟩ = false := hR5.frozen k
            have hcl5 : w5.cell? ⟨w1.heap.size, k, none⟩ = some (U k) := hR5.cell hlt
            have hu6 := HU.out.pushed hlt hg6 (v := .slice p5 ((Y k).length + 2) c5) (xs := Y k ++ [y, y]) (by simpa using hO5) (by rw [HV.out]; exact hd5.imp id fun h b hb => by have := h b hb; simp; omega) (fun b hb => by have := HBx.out.size; omega)
            have hb6 := HU.out.pushed_below hlt hg6 HBx.out HBx.out.size (fun b hb => hb) (.slice p5 ((Y k).length + 2) c5)
            have HU6 := Lib.hid hu6
            have HB6 := Lib.hid hb6
            clear hg5 hg6 hO5 hd5 hR5 hu6 hb6
            have HC5 := Lib.hid (show (w5.cell? ⟨w1.heap.size, k, none⟩).isSome = true by rw [hcl5]; rfl)
            go_wp2_with (first | (refine wpList_store_slice rfl 26 (.tmp 48) (.tmp 47) rfl rfl w1.heap.size k p5 ((Y k).length + 2) c5 rfl rfl HC5.out hfz5 (by kernel_rfl) ?_))
            intro w6 hw6
            have hu6' := HU6.out
            have hb6' := HB6.out
            rw [← hw6.out] at hu6' hb6'
            clear HU6 HB6 hcl5 hfz5 HC5 hs5 hw6 HU HBx hfz3 hcl4 hx3 hm3 hsz3 HO HV HSx
            have HU6 := Lib.hid hu6'
            have HB6 := Lib.hid hb6'
            clear hu6' hb6'
            have hsz6 := HU6.out.out.lt
            by_cases hy : 0 ≤ y ∧ y < (e.length : Int)
            · obtain ⟨y1, y2⟩ := hy
              obtain ⟨yn, rfl⟩ := Int.eq_ofNat_of_zero_le y1
              have hyn : yn < e.length := by omega
              obtain ⟨q7, c7, hV7, hcl7⟩ := HU6.out.cell hyn
              have ho7 := HU6.out.row yn hyn
              rw [hV7] at ho7
              have HO7 := Lib.hid ho7
              have HV7 := Lib.hid hV7
              have hfz7 : w6.frozen? ⟨w1.heap.size, yn, none⟩ = false := HU6.out.out.frozen yn
              have hl7 := upd_len Y k [(yn : Int), yn] yn
              have hl8 := HLx.out yn
              simp only [List.length_cons, List.length_nil] at hl7
              have HSub := Lib.hid (fun r b (hb : b ∈ Y r) => upd_sub (k := k) (l := [(yn : Int), yn]) hb)
              have HIn := Lib.hid (show (yn : Int) ∈ upd Y k (Y k ++ [(yn : Int), yn]) k by rw [upd_same]; simp)
              have HOnly := Lib.hid (fun r b (hb : b ∈ upd Y k (Y k ++ [(yn : Int), yn]) r) => upd_only hb)
              have HLen := Lib.hid (fun r => upd_len Y k [(yn : Int), yn] r)
              generalize upd Y k (Y k ++ [(yn : Int), yn]) = Z at HU6 hV7 hcl7 ho7 HO7 HV7 hl7 HSub HIn HOnly HLen
              generalize upd U k (Value.slice p5 ((Y k).length + 2) c5) = U6 at HU6 hV7 ho7 HV7
              clear ho7 hV7
              go_wp2_with (first | (at_builtin; refine wpList_append_one rfl _ _ rfl 0 _ (Z yn) rfl (HO7.out.alloc _) w6.heap.size _ (k : Int) rfl (by simp [go_sem]) (by omega) (Nat.zero_le _) ?_))
              intro p8 c8 w8 hO8 hg8 hd8
              have hg9 : (w6.alloc (.cells #[Value.int .i64 k] 3)).grownBy w8 (U6 yn).ownBlock := by rw [HV7.out]; exact hg8
              obtain ⟨hR8, hs8⟩ := HU6.out.pushed_out hyn hg9
              have hfz8 : w8.frozen? ⟨w1.heap.size, yn, none⟩ = false := hR8.frozen yn
              have hcl8 : w8.cell? ⟨w1.heap.size, yn, none⟩ = some (U6 yn) := hR8.cell hyn
              have hu9 := HU6.out.pushed hyn hg9 (v := .slice p8 ((Z yn).length + 1) c8) (xs := Z yn ++ [(k : Int)]) (by simpa using hO8) (by rw [HV7.out]; exact hd8.imp id fun h b hb => by have := h b hb; simp; omega) (fun b hb => by have := HB6.out.size; omega)
              have hb9 := HU6.out.pushed_below hyn hg9 HB6.out HB6.out.size (fun b hb => hb) (.slice p8 ((Z yn).length + 1) c8)
              have HU9 := Lib.hid hu9
              have HB9 := Lib.hid hb9
              clear hg8 hg9 hO8 hd8 hR8 hu9 hb9
              go_wp2_with fail
              go_roundw
              case rel =>
                refine ⟨i, _, _, _, rfl, by omega, by omega, HU9, HPut2.out _ (fun r b hb => upd_sub (HSub.out r b hb)) (upd_sub HIn.out) (fun r b hb => ?_), fun r => ?_, HB9⟩
                · rcases upd_only hb with h1 | ⟨h1, h2⟩
                  · rcases HOnly.out r b h1 with h3 | ⟨h3, h4⟩
                    · exact .inl h3
                    · exact .inr (.inl ⟨h3, by simpa using h4⟩)
                  · exact .inr (.inr ⟨by omega, by simpa using h2⟩)
                · have := HLx.out r
                  have h1 := HLen.out r
                  have h2 := upd_len Z yn [(k : Int)] r
                  simp only [List.length_cons, List.length_nil] at h1 h2
                  omega
              case measure => first | (simp [intOf]; done) | (simp [intOf]; omega)
            · have hy2 : y < 0 ∨ (0 ≤ y ∧ ¬ y < (e.length : Int)) := by omega
              clear hy
              rcases hy2 with h1 | ⟨h1, h2⟩
              all_goals (
                go_wp2_with fail
                go_roundw
                case rel =>
                  refine ⟨i, _, _, _, rfl, by omega, by omega, HU6, HPut2.out _ (fun r b hb => ?_) ?_ (fun r b hb => ?_), fun r => ?_, HB6⟩
                  · exact upd_sub hb
                  · rw [upd_same]; simp
                  · exact (upd_only hb).imp id fun h => .inl ⟨h.1, by simpa using h.2⟩
                  · have := HLx.out r
                    have := upd_len Y k [y, y] r
                    simp only [List.length_cons, List.length_nil] at this
                    omega
                case measure => first | (simp [intOf]; done) | (simp [intOf]; omega))
      · have hkn : k = e.length := by omega
        subst hkn
        have hfl : ((List.range e.length).map X).length = e.length := by simp
        have hfx : ∀ i, i < e.length → X i = ((List.range e.length).map X).getD i [] := fun i hi => by simp [List.getD_eq_getElem?_getD, hi]
        have hrd := HW.out.rd ((List.range e.length).map X) hfl hfx e.length
        have hs2 : Same2 e e.length 0 X := by
          have h0 : (e.getD e.length []).length = 0 := by rw [List.getD_eq_getElem?_getD, List.getElem?_eq_none (by omega)]; rfl
          have h1 := HS.out
          rw [h0] at h1
          exact h1
        have hadj := hs2.adj _ (fun r hr => (hfx r hr).symm)
        have hmx : RowsMax ((List.range e.length).map X) 5000 := fun i => by
          by_cases hi : i < e.length
          · rw [← hfx i hi]; have := HL.out i; omega
          · rw [List.getD_eq_getElem?_getD, List.getElem?_eq_none (by simp; omega)]; simp
        have hcol : ∀ K, colorG ((List.range e.length).map X).length (adjG ((List.range e.length).map X)) K = colorG e.length (adjG e) K := fun K => by rw [hfl]; exact colorG_congr _ _ _ _ hadj
        generalize (List.range e.length).map X = f at hfl hrd hmx hcol
        have HRD := Lib.hid hrd
        have HMX := Lib.hid hmx
        have HCOL := Lib.hid hcol
        have HFL := Lib.hid hfl
        have HR2 := Lib.hid (HR1.out.below HB.out (Nat.le_refl _))
        have HB2 := Lib.hid (bThen HB.out HB1.out.size HB1.out)
        clear hfl hfx hrd hs2 hadj hmx hcol HW HS HL HR1 HB HB1
        have HK := Lib.hid (fun (K : Int) (h1 : -9223372036854775808 ≤ K) (h2 : K ≤ 9223372036854775807) => color_any _ e K w2 HR2.out (HM.out.mono (by omega)) (by omega) h1 h2)
        go_wp2_with fail
        refine (HK.out _ (by omega) (by omega)).mono ?_
        rintro r w3 ⟨V3, rfl, hO3, hB3⟩
        have HO3 := Lib.hid hO3
        have HB3 := Lib.hid hB3
        have hK4 := color_any _ f (c % 31) w3 (HRD.out.below hB3 (Nat.le_refl _)) HMX.out (by have := HFL.out; omega) (by omega) (by omega)
        rw [HCOL.out] at hK4
        have HK4 := Lib.hid hK4
        clear hO3 hB3 hK4
        go_wp2_with fail
        refine HK4.out.mono ?_
        rintro r w4 ⟨V4, rfl, hO4, hB4⟩
        have h3 := own0_block HO3.out fun k hk => hB4.block k (own0_lt HO3.out hk)
        have HI := Lib.hid (ints_any _ _ _ _ w4 (own_rdI h3) (own_rdI hO4) (by rw [colorG_len]; omega))
        have HB4 := Lib.hid (bThen hB4 (by have := HB3.out.size; have := HB2.out.size; omega) (bThen HB3.out HB2.out.size HB2.out))
        clear HK4 hO4 hB4 h3
        go_wp2_with fail
        refine HI.out.mono ?_
        rintro r w5 ⟨rfl, hB5⟩
        go_wp2_with fail
        go_ret
        exact ⟨by simp, bThen hB5 HB4.out.size HB4.out⟩
  · go_wp2_with fail
    go_ret
    exact ⟨rfl, HB1.out⟩
end Go.Proofs.Ytdfeebkekkmcjaa
