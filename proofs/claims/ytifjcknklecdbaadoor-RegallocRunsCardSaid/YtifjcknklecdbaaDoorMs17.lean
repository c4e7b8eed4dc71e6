import Derived.Test.YtifjcknklecdbaaDoorLivN
import Derived.Test.YtifjcknklecdbaaDoorMs16
import Derived.Laws.ResultCell
import Derived.Laws.Cells
/- The allocation, in plain Lean. No walk here. -/
set_option linter.unusedVariables false
set_option linter.unusedSimpArgs false
namespace Go.Proofs.YtifjcknklecdbaaDoor
open Go.RowKit Go.Maps Go.WideMaps

/-- The nodes without a color, among the first k. -/
def spillN (C : List Int) (k : Nat) : List Nat := (List.range k).filter (fun a => decide (C.getD a (-1) < 0))
theorem spillN_zero (C : List Int) : spillN C 0 = [] := rfl
theorem spillN_next (C : List Int) (k : Nat) : spillN C (k + 1) = if C.getD k (-1) < 0 then spillN C k ++ [k] else spillN C k := by
  unfold spillN
  rw [List.range_succ, List.filter_append]
  by_cases h : C.getD k (-1) < 0
  · rw [if_pos h, List.filter_cons_of_pos (by simpa using h)]; rfl
  · rw [if_neg h, List.filter_cons_of_neg (by simpa using h)]; simp
theorem mem_spillN {C : List Int} {k a : Nat} : a ∈ spillN C k ↔ a < k ∧ C.getD a (-1) < 0 := by
  simp [spillN, List.mem_filter, List.mem_range]
theorem spillN_nodup (C : List Int) (k : Nat) : (spillN C k).Nodup := List.Nodup.sublist List.filter_sublist List.nodup_range
theorem spillN_len (C : List Int) (k : Nat) : (spillN C k).length ≤ k := by
  have := List.length_filter_le (fun a => decide (C.getD a (-1) < 0)) (List.range k)
  rw [List.length_range] at this; exact this

/-- The place of a number in a list of nodes. -/
def posI (S : List Nat) (q : Int) : Option Int := if 0 ≤ q ∧ q.toNat ∈ S then some (S.idxOf q.toNat : Int) else none
theorem posI_nil (q : Int) : posI [] q = none := by simp [posI]
theorem posI_some {S : List Nat} {q i : Int} (h : posI S q = some i) : ∃ a j : Nat, q = (a : Int) ∧ i = (j : Int) ∧ j < S.length ∧ S.getD j 0 = a := by
  unfold posI at h
  split at h
  · rename_i h1
    injection h with h
    have hl := List.idxOf_lt_length_of_mem h1.2
    exact ⟨q.toNat, S.idxOf q.toNat, by omega, h.symm, hl, by rw [List.getD_eq_getElem?_getD, List.getElem?_eq_getElem hl]; simp⟩
  · cases h
theorem posI_at {S : List Nat} (hn : S.Nodup) {j : Nat} (hj : j < S.length) : posI S (S.getD j 0 : Nat) = some (j : Int) := by
  have e : S.getD j 0 = S[j] := by rw [List.getD_eq_getElem?_getD, List.getElem?_eq_getElem hj]; rfl
  unfold posI
  rw [e, if_pos ⟨by omega, by simp⟩]
  simp [List.Nodup.idxOf_getElem hn]
theorem posI_none {S : List Nat} {a : Nat} : posI S (a : Int) = none ↔ a ∉ S := by
  unfold posI
  by_cases h : a ∈ S
  · simp [h]
  · simp [h]
theorem posI_push (S : List Nat) (k : Nat) (hk : k ∉ S) (q : Int) : posI (S ++ [k]) q = if q = (k : Int) then some (S.length : Int) else posI S q := by
  unfold posI
  by_cases e : q = (k : Int)
  · subst e
    rw [if_pos rfl, if_pos ⟨by omega, by simp⟩]
    simp [List.idxOf_append, hk]
  · rw [if_neg e]
    by_cases h : 0 ≤ q ∧ q.toNat ∈ S
    · rw [if_pos h, if_pos ⟨h.1, List.mem_append_left _ h.2⟩, List.idxOf_append, if_pos h.2]
    · rw [if_neg h, if_neg]
      intro h2
      rcases List.mem_append.1 h2.2 with h3 | h3
      · exact h ⟨h2.1, h3⟩
      · rw [List.mem_singleton] at h3; omega

/-- The map from nodes to their places. -/
structure MapIs (D : DataW Unit) (S : List Nat) : Prop where
  has : ∀ q : Int, Maps.has D (.int .i64 q) = (posI S q).isSome
  val : ∀ q i : Int, posI S q = some i → ∀ z, D.atKey (.int .i64 q) z = .lit (.int .i64 i)
theorem MapIs.nil : MapIs (.map []) [] := ⟨fun q => by rw [posI_nil]; rfl, fun q i h => by rw [posI_nil] at h; cases h⟩
theorem MapIs.push {D : DataW Unit} {S : List Nat} (h : MapIs D S) (hD : IsMap D) {k : Nat} (hk : k ∉ S) : MapIs (D.put (.int .i64 k) (.lit (.int .i64 S.length))) (S ++ [k]) := by
  refine ⟨fun q => ?_, fun q i => ?_⟩
  · rw [posI_push S k hk]
    by_cases e : q = (k : Int)
    · subst e; rw [if_pos rfl]; exact has_put_same hD (show WideAt.IsKeyLit (Lit.int .i64 (k : Int)) from trivial) _
    · rw [if_neg e, has_put_other (fun e2 => e (by injection e2)) _]; exact h.has q
  · rw [posI_push S k hk]
    by_cases e : q = (k : Int)
    · subst e
      rw [if_pos rfl]
      intro e2 z
      injection e2 with e2
      rw [← e2]; exact atKey_put_same hD (show WideAt.IsKeyLit (Lit.int .i64 (k : Int)) from trivial) _ _
    · rw [if_neg e]
      intro e2 z
      rw [atKey_put_other (fun e2 => e (by injection e2)) _ _]; exact h.val q i e2 z

/-- The graph of the nodes without a color: row i, its first j places. -/
def amongJ (E : List (List Int)) (S : List Nat) (i j : Nat) : List Int := ((E.getD (S.getD i 0) []).take j).filterMap (posI S)
def amongR (E : List (List Int)) (S : List Nat) (i : Nat) : List Int := (E.getD (S.getD i 0) []).filterMap (posI S)
def amongE (E : List (List Int)) (S : List Nat) : List (List Int) := (List.range S.length).map (amongR E S)
theorem amongJ_zero (E : List (List Int)) (S : List Nat) (i : Nat) : amongJ E S i 0 = [] := rfl
theorem amongJ_end (E : List (List Int)) (S : List Nat) (i : Nat) : amongJ E S i (E.getD (S.getD i 0) []).length = amongR E S i := by unfold amongJ amongR; rw [List.take_length]
theorem amongJ_next (E : List (List Int)) (S : List Nat) (i j : Nat) (hj : j < (E.getD (S.getD i 0) []).length) : amongJ E S i (j + 1) = match posI S ((E.getD (S.getD i 0) []).getD j 0) with
    | none => amongJ E S i j
    | some k => amongJ E S i j ++ [k] := by
  unfold amongJ
  generalize E.getD (S.getD i 0) [] = l at hj ⊢
  rw [show l.getD j 0 = l[j] by rw [List.getD_eq_getElem?_getD, List.getElem?_eq_getElem hj]; rfl, List.take_succ_eq_append_getElem hj, List.filterMap_append]
  cases h : posI S l[j] with
  | none => simp [h]
  | some k => simp [h]
theorem amongJ_len (E : List (List Int)) (S : List Nat) (i j : Nat) : (amongJ E S i j).length ≤ (E.getD (S.getD i 0) []).length := by
  unfold amongJ
  refine Nat.le_trans (List.length_filterMap_le _ _) ?_
  rw [List.length_take]; omega
theorem amongE_len (E : List (List Int)) (S : List Nat) : (amongE E S).length = S.length := by simp [amongE]
theorem amongE_at (E : List (List Int)) (S : List Nat) {i : Nat} (hi : i < S.length) : (amongE E S).getD i [] = amongR E S i := by simp [amongE, List.getD_eq_getElem?_getD, hi]

theorem mem_amongR {E : List (List Int)} {S : List Nat} (hn : S.Nodup) {i k : Nat} (hk : k < S.length) : (k : Int) ∈ amongR E S i ↔ ((S.getD k 0 : Nat) : Int) ∈ E.getD (S.getD i 0) [] := by
  unfold amongR
  rw [List.mem_filterMap]
  constructor
  · rintro ⟨q, hq, hp⟩
    obtain ⟨a, j, rfl, hj, hjl, ha⟩ := posI_some hp
    have : j = k := by omega
    subst this
    rw [ha]; exact hq
  · intro h
    exact ⟨_, h, posI_at hn hk⟩
/-- The graph of these nodes, by the graph that they are taken of. -/
theorem amongE_adj (E : List (List Int)) (S : List Nat) (hn : S.Nodup) (a b : Nat) (ha : a < S.length) (hb : b < S.length) : adjG (amongE E S) a b = adjG E (S.getD a 0) (S.getD b 0) := by
  have hne : a ≠ b ↔ S.getD a 0 ≠ S.getD b 0 := by
    refine not_congr ⟨fun e => by rw [e], fun e => ?_⟩
    have h1 := posI_at hn ha
    rw [e, posI_at hn hb] at h1
    injection h1 with h1
    omega
  unfold adjG
  rw [amongE_at E S ha, amongE_at E S hb, Bool.eq_iff_iff]
  simp only [Bool.and_eq_true, Bool.or_eq_true, List.contains_iff_mem, bne_iff_ne, mem_amongR hn ha, mem_amongR hn hb]
  rw [← hne]

/-- The colors of these nodes, over any rows that say the same of which are adjacent. -/
theorem again_eq (E F : List (List Int)) (S : List Nat) (hn : S.Nodup) (hl : F.length = S.length) (hF : ∀ i k, i < S.length → k < S.length → adjG F i k = adjG E (S.getD i 0) (S.getD k 0)) (c : Int) : colorG F.length (adjG F) c = colorG S.length (adjG (amongE E S)) c := by
  rw [hl]
  exact colorG_congr _ _ _ _ fun a b ha hb => by rw [hF a b ha hb, amongE_adj E S hn a b ha hb]

/-- Places: registers and slots. -/
def pl1 (C : List Int) : Nat → Nat → Int × Int
  | 0 => fun _ => (0, 0)
  | k + 1 => if 0 ≤ C.getD k (-1) then upd (pl1 C k) k (2 + C.getD k (-1), -1) else pl1 C k
def pl2 (S : List Nat) (A : List Int) (P : Nat → Int × Int) : Nat → Nat → Int × Int
  | 0 => P
  | i + 1 => upd (pl2 S A P i) (S.getD i 0) (0, A.getD i (-1))
def slN (A : List Int) : Nat → Int
  | 0 => 0
  | i + 1 => max (slN A i) (A.getD i (-1) + 1)
theorem pl1_at (C : List Int) : ∀ k a, pl1 C k a = if a < k ∧ 0 ≤ C.getD a (-1) then (2 + C.getD a (-1), -1) else (0, 0)
  | 0, a => by rw [if_neg (by omega)]; rfl
  | k + 1, a => by
    unfold pl1
    by_cases h : 0 ≤ C.getD k (-1)
    · rw [if_pos h]
      by_cases e : a = k
      · subst e; rw [upd_same, if_pos ⟨by omega, h⟩]
      · rw [upd_ne _ _ e, pl1_at C k a]
        by_cases h2 : a < k ∧ 0 ≤ C.getD a (-1)
        · rw [if_pos h2, if_pos ⟨by omega, h2.2⟩]
        · rw [if_neg h2, if_neg (by omega)]
    · rw [if_neg h, pl1_at C k a]
      by_cases h2 : a < k ∧ 0 ≤ C.getD a (-1)
      · rw [if_pos h2, if_pos ⟨by omega, h2.2⟩]
      · rw [if_neg h2, if_neg]
        rintro ⟨h3, h4⟩
        by_cases e : a = k
        · subst e; exact h h4
        · exact h2 ⟨by omega, h4⟩
theorem pl2_at (S : List Nat) (A : List Int) (P : Nat → Int × Int) (hn : S.Nodup) : ∀ i a, i ≤ S.length → pl2 S A P i a = if a ∈ S.take i then (0, A.getD (S.idxOf a) (-1)) else P a
  | 0, a, _ => by rw [if_neg (by simp)]; rfl
  | i + 1, a, hi => by
    have hil : i < S.length := by omega
    have e0 : S.getD i 0 = S[i] := by rw [List.getD_eq_getElem?_getD, List.getElem?_eq_getElem hil]; rfl
    unfold pl2
    rw [List.take_succ_eq_append_getElem hil, e0]
    by_cases e : a = S[i]
    · subst e
      rw [upd_same, if_pos (List.mem_append_right _ (List.mem_singleton.2 rfl)), List.Nodup.idxOf_getElem hn]
    · rw [upd_ne _ _ e, pl2_at S A P hn i a (by omega)]
      by_cases h : a ∈ S.take i
      · rw [if_pos h, if_pos (List.mem_append_left _ h)]
      · rw [if_neg h, if_neg]
        intro h2
        rcases List.mem_append.1 h2 with h3 | h3
        · exact h h3
        · exact e (List.mem_singleton.1 h3)
/-- The allocation's places. -/
def placesG (C : List Int) (S : List Nat) (A : List Int) (n : Nat) : Nat → Int × Int := pl2 S A (pl1 C n) S.length
end Go.Proofs.YtifjcknklecdbaaDoor

/- regalloc.Allocate: what it holds in memory. No walk here. -/
set_option linter.unusedVariables false
set_option linter.unusedSimpArgs false
namespace Go.Proofs.YtifjcknklecdbaaDoor
open Go.RowKit Go.Maps Go.WideMaps

theorem infoPl : (Tryd.prog.info? 66).map (fun i => (i.zero, i.size, i.bytes)) = some (some (.agg #[.int .i64 0, .int .i64 0]), 2, 16) := by kernel_rfl
theorem run_make_pl (n : Nat) (hn : n ≤ 100000) (w : World) : (Instr.makeSlice 31 (.int .i64 (n : Int)) (.int .i64 (n : Int))).run Tryd.prog w = .ok (.slice (some ⟨w.heap.size, 0, none⟩) n n) (w.alloc (.cells (madeCells #[.int .i64 0, .int .i64 0] (n * 2)) 66)) := by
  obtain ⟨i, hi, hz, hs, hb⟩ := info_parts infoPl
  have hr := run_make (P := Tryd.prog) w 31 66 i (.agg #[.int .i64 0, .int .i64 0]) Tryd.underlying31 hi hz .i64 .i64 n (n : Int) (by omega) (by omega) (by rw [hb]; omega) (by omega)
  simp only [Int.toNat_natCast, hs, Value.cells] at hr
  exact hr

/-- The cells of a slice of places. -/
def plc (P : Nat → Int × Int) (k : Nat) : Value := .int .i64 (if k % 2 = 0 then (P (k / 2)).1 else (P (k / 2)).2)
def PlAt (w : World) (g n : Nat) (P : Nat → Int × Int) : Prop := w.rowIs g 66 (n * 2) (plc P)
theorem PlAt.made (w : World) (n : Nat) : PlAt (w.alloc (.cells (madeCells #[.int .i64 0, .int .i64 0] (n * 2)) 66)) w.heap.size n (fun _ => (0, 0)) := by
  have e : madeCells #[Value.int .i64 0, Value.int .i64 0] (n * 2) = madeCells #[Value.int .i64 0] (n * 2) := by
    unfold madeCells
    congr 1
    funext k
    have : k % 2 = 0 ∨ k % 2 = 1 := by omega
    rcases this with h | h
    · simp [h, Nat.mod_one]
    · simp [h, Nat.mod_one]
  rw [e]
  exact (World.rowIs_made w _ (n * 2) _).congr fun k _ => by unfold plc; split <;> rfl
theorem PlAt.fst {w : World} {g n : Nat} {P : Nat → Int × Int} (h : PlAt w g n P) {a : Nat} (ha : a < n) : w.cell? ⟨g, a * 2, none⟩ = some (.int .i64 (P a).1) := by
  rw [World.rowIs.cell h (by omega), plc, if_pos (by omega), show a * 2 / 2 = a by omega]
theorem PlAt.snd {w : World} {g n : Nat} {P : Nat → Int × Int} (h : PlAt w g n P) {a : Nat} (ha : a < n) : w.cell? ⟨g, a * 2 + 1, none⟩ = some (.int .i64 (P a).2) := by
  rw [World.rowIs.cell h (by omega), plc, if_neg (by omega), show (a * 2 + 1) / 2 = a by omega]
theorem PlAt.put {w : World} {g n : Nat} {P : Nat → Int × Int} (h : PlAt w g n P) (a : Nat) (x y : Int) : PlAt ((w.setCell ⟨g, a * 2, none⟩ (.int .i64 x)).setCell ⟨g, a * 2 + 1, none⟩ (.int .i64 y)) g n (upd P a (x, y)) := by
  refine ((World.rowIs.set h (a * 2) _).set (a * 2 + 1) _).congr fun k hk => ?_
  unfold plc
  by_cases e : k / 2 = a
  · rw [e, upd_same]
    by_cases e2 : k % 2 = 0
    · rw [if_neg (by omega), if_pos (by omega), if_pos e2]
    · rw [if_pos (by omega), if_neg e2]
  · rw [upd_ne _ _ e, if_neg (by omega), if_neg (by omega)]

/-- The box of an allocation: its places (a slice) and its slots. -/
def AlBox (w : World) (b : Nat) (v : Value) (s : Int) : Prop := b < w.heap.size ∧ (∀ k, w.frozen? ⟨b, k, none⟩ = false) ∧ w.cell? ⟨b, 0, none⟩ = some v ∧ w.cell? ⟨b, 1, none⟩ = some (.int .i64 s)
theorem AlBox.of_block {w w' : World} {b : Nat} {v : Value} {s : Int} (h : AlBox w b v s) (hb : w'.heap[b]? = w.heap[b]?) : AlBox w' b v s := by
  obtain ⟨h1, h2, h3, h4⟩ := h
  have hc : ∀ k, w'.cell? ⟨b, k, none⟩ = w.cell? ⟨b, k, none⟩ := fun k => World.cell?_of_block hb
  refine ⟨ltB (hb.trans (Array.getElem?_eq_getElem h1)), fun k => ?_, (hc 0).trans h3, (hc 1).trans h4⟩
  rw [← h2 k]; unfold World.frozen?; simp only [hb]
theorem AlBox.put {w : World} {b : Nat} {v : Value} {s : Int} (h : AlBox w b v s) (t : Int) : AlBox (w.setCell ⟨b, 1, none⟩ (.int .i64 t)) b v t := by
  obtain ⟨h1, h2, h3, h4⟩ := h
  refine ⟨by simpa [World.setCell] using h1, fun k => ?_, ?_, ?_⟩
  · rw [World.frozen?_setCell]; exact h2 k
  · exact (World.cell?_setCell_other _ _ _ _ (by simp)).trans h3
  · exact World.cell?_setCell_same _ _ _ h4

/-- The allocator's structures; B: where its own blocks begin. -/
structure AloAt (W1 : World) (R gp ga gm : Nat) (P : Nat → Int × Int) (s : Int) (Sm S : List Nat) (col : Nat → Nat) (w : World) (sv : Value) : Prop where
  pl : PlAt w gp R P
  box : AlBox w ga (.slice (some ⟨gp, 0, none⟩) R R) s
  mp : ∃ n D, n ≤ Sm.length ∧ w.ownsMap Tryd.prog 3 (plainElem (H := Unit) Tryd.prog 3) gm n D ∧ MapIs D Sm
  sp : IntsAt col 3 w sv (S.map Int.ofNat)
  cp : col gp = 1
  ca : col ga = 1
  cm : col gm = 2
  ne : gp ≠ ga
  low : ∀ k, k < W1.heap.size → col k = 0
  bel : Below W1.heap.size W1 w
section
variable {W1 w w' : World} {R gp ga gm : Nat} {P : Nat → Int × Int} {s : Int} {Sm S : List Nat} {col : Nat → Nat} {sv : Value}
theorem AloAt.big (h : AloAt W1 R gp ga gm P s Sm S col w sv) : W1.heap.size ≤ w.heap.size := h.bel.size
theorem AloAt.lp (h : AloAt W1 R gp ga gm P s Sm S col w sv) : gp < w.heap.size := World.rowIs.lt h.pl
theorem AloAt.la (h : AloAt W1 R gp ga gm P s Sm S col w sv) : ga < w.heap.size := h.box.1
theorem AloAt.lm (h : AloAt W1 R gp ga gm P s Sm S col w sv) : gm < w.heap.size := by
  obtain ⟨n, D, _, h1, _⟩ := h.mp
  exact h1.lt
/-- Blocks of another color turn. -/
theorem AloAt.touch (h : AloAt W1 R gp ga gm P s Sm S col w sv) {c : Nat} (ht : Touch col c w w') (h0 : c ≠ 0) (h1 : c ≠ 1) (h2 : c ≠ 2) (h3 : c ≠ 3) : AloAt W1 R gp ga gm P s Sm S (paint col w.heap.size c) w' sv := by
  obtain ⟨n, D, e1, e2, e3⟩ := h.mp
  have hm : w.grownBy w' none → w'.ownsMap Tryd.prog 3 (plainElem (H := Unit) Tryd.prog 3) gm n D := fun hg => e2.kept hg (by simp)
  refine ⟨World.rowIs.of_block h.pl (ht.block gp h.lp (by rw [h.cp]; exact fun e => h1 e.symm)), h.box.of_block (ht.block ga h.la (by rw [h.ca]; exact fun e => h1 e.symm)), ⟨n, D, e1, ?_, e3⟩, h.sp.other ht (fun e => h3 e.symm), by rw [paint_lt h.lp]; exact h.cp, by rw [paint_lt h.la]; exact h.ca, by rw [paint_lt h.lm]; exact h.cm, h.ne, low_paint h.low h.big, h.bel.trans (ht.below h.big fun k hk e => h0 (by rw [← e]; exact h.low k hk))⟩
  obtain ⟨es, clock, hb, hr⟩ := e2
  exact ⟨es, clock, (ht.block gm h.lm (by rw [h.cm]; exact fun e => h2 e.symm)).trans hb, hr⟩
theorem AloAt.tb (h : AloAt W1 R gp ga gm P s Sm S col w sv) {c : Nat} (hc : c ≠ 0) (ht : Touch col c w w') : Below W1.heap.size W1 w' := h.bel.trans (ht.below h.big fun k hk e => hc (by rw [← e]; exact h.low k hk))
theorem AloAt.mpOf (h : AloAt W1 R gp ga gm P s Sm S col w sv) (hb : w'.heap[gm]? = w.heap[gm]?) : ∃ n D, n ≤ Sm.length ∧ w'.ownsMap Tryd.prog 3 (plainElem (H := Unit) Tryd.prog 3) gm n D ∧ MapIs D Sm := by
  obtain ⟨n, D, e1, ⟨es, clock, hb2, hr⟩, e3⟩ := h.mp
  exact ⟨n, D, e1, ⟨es, clock, hb.trans hb2, hr⟩, e3⟩
theorem AloAt.set1 (h : AloAt W1 R gp ga gm P s Sm S col w sv) {P' : Nat → Int × Int} {s' : Int} (hp : PlAt w' gp R P') (hx : AlBox w' ga (.slice (some ⟨gp, 0, none⟩) R R) s') (ht : Touch col 1 w w') : AloAt W1 R gp ga gm P' s' Sm S (paint col w.heap.size 1) w' sv :=
  ⟨hp, hx, h.mpOf (ht.block gm h.lm (by rw [h.cm]; decide)), h.sp.other ht (by decide), by rw [paint_lt h.lp]; exact h.cp, by rw [paint_lt h.la]; exact h.ca, by rw [paint_lt h.lm]; exact h.cm, h.ne, low_paint h.low h.big, h.tb (by decide) ht⟩
theorem AloAt.set2 (h : AloAt W1 R gp ga gm P s Sm S col w sv) {Sm' : List Nat} (hm : ∃ n D, n ≤ Sm'.length ∧ w'.ownsMap Tryd.prog 3 (plainElem (H := Unit) Tryd.prog 3) gm n D ∧ MapIs D Sm') (ht : Touch col 2 w w') : AloAt W1 R gp ga gm P s Sm' S (paint col w.heap.size 2) w' sv :=
  ⟨World.rowIs.of_block h.pl (ht.block gp h.lp (by rw [h.cp]; decide)), h.box.of_block (ht.block ga h.la (by rw [h.ca]; decide)), hm, h.sp.other ht (by decide), by rw [paint_lt h.lp]; exact h.cp, by rw [paint_lt h.la]; exact h.ca, by rw [paint_lt h.lm]; exact h.cm, h.ne, low_paint h.low h.big, h.tb (by decide) ht⟩
theorem AloAt.set3 (h : AloAt W1 R gp ga gm P s Sm S col w sv) {S' : List Nat} {sv' : Value} (hs : IntsAt (paint col w.heap.size 3) 3 w' sv' (S'.map Int.ofNat)) (ht : Touch col 3 w w') : AloAt W1 R gp ga gm P s Sm S' (paint col w.heap.size 3) w' sv' :=
  ⟨World.rowIs.of_block h.pl (ht.block gp h.lp (by rw [h.cp]; decide)), h.box.of_block (ht.block ga h.la (by rw [h.ca]; decide)), h.mpOf (ht.block gm h.lm (by rw [h.cm]; decide)), hs, by rw [paint_lt h.lp]; exact h.cp, by rw [paint_lt h.la]; exact h.ca, by rw [paint_lt h.lm]; exact h.cm, h.ne, low_paint h.low h.big, h.tb (by decide) ht⟩
/-- A place is stored. -/
theorem AloAt.putPl (h : AloAt W1 R gp ga gm P s Sm S col w sv) (a : Nat) (x y : Int) : AloAt W1 R gp ga gm (upd P a (x, y)) s Sm S (paint col w.heap.size 1) ((w.setCell ⟨gp, a * 2, none⟩ (.int .i64 x)).setCell ⟨gp, a * 2 + 1, none⟩ (.int .i64 y)) sv ∧ Touch col 1 w ((w.setCell ⟨gp, a * 2, none⟩ (.int .i64 x)).setCell ⟨gp, a * 2 + 1, none⟩ (.int .i64 y)) := by
  have ht := (Touch.setCell (col := col) (c := 1) (w := w) (a := ⟨gp, a * 2, none⟩) h.cp (.int .i64 x)).trans (Touch.setCell (a := ⟨gp, a * 2 + 1, none⟩) h.cp (.int .i64 y))
  refine ⟨h.set1 (h.pl.put a x y) (h.box.of_block ?_) ht, ht⟩
  exact (Below.heap_setCell _ _ _ _ (fun e => h.ne e.symm)).trans (Below.heap_setCell _ _ _ _ (fun e => h.ne e.symm))
/-- The number of slots is stored. -/
theorem AloAt.putS (h : AloAt W1 R gp ga gm P s Sm S col w sv) (t : Int) : AloAt W1 R gp ga gm P t Sm S (paint col w.heap.size 1) (w.setCell ⟨ga, 1, none⟩ (.int .i64 t)) sv ∧ Touch col 1 w (w.setCell ⟨ga, 1, none⟩ (.int .i64 t)) := by
  have ht := Touch.setCell (col := col) (c := 1) (w := w) (a := ⟨ga, 1, none⟩) h.ca (.int .i64 t)
  exact ⟨h.set1 (World.rowIs.of_block h.pl (Below.heap_setCell _ _ _ _ h.ne)) (h.box.put t) ht, ht⟩
theorem AloAt.paint0 (h : AloAt W1 R gp ga gm P s Sm S col w sv) (hb : Below w.heap.size w w') : AloAt W1 R gp ga gm P s Sm S (paint col w.heap.size 0) w' sv :=
  ⟨World.rowIs.of_block h.pl (hb.block gp h.lp), h.box.of_block (hb.block ga h.la), h.mpOf (hb.block gm h.lm), ⟨(h.sp.below hb).1, fun k hk => by rw [paint_lt (own0_lt h.sp.1 hk)]; exact h.sp.2 k hk⟩, by rw [paint_lt h.lp]; exact h.cp, by rw [paint_lt h.la]; exact h.ca, by rw [paint_lt h.lm]; exact h.cm, h.ne, low_paint h.low h.big, h.bel.trans (hb.mono h.big)⟩
theorem AloAt.below (h : AloAt W1 R gp ga gm P s Sm S col w sv) (hb : Below w.heap.size w w') : AloAt W1 R gp ga gm P s Sm S (paint col w.heap.size 9) w' sv := h.touch (Touch.of_below hb) (by decide) (by decide) (by decide) (by decide)
end
/-- As they are made. -/
theorem AloAt.made (W1 : World) (R : Nat) : ∃ col, AloAt W1 R (W1.heap.size + 1) (W1.heap.size + 1 + 1) W1.heap.size (fun _ => (0, 0)) 0 [] [] col (((W1.alloc (.map #[] 0)).alloc (.cells (madeCells #[.int .i64 0, .int .i64 0] (R * 2)) 66)).alloc (.cells #[.slice (some ⟨W1.heap.size + 1, 0, none⟩) R R, .int .i64 0] 33)) (.slice none 0 0) := by
  have h1 : (W1.alloc (.map #[] 0)).heap.size = W1.heap.size + 1 := by simp
  have h2 : ((W1.alloc (.map #[] 0)).alloc (.cells (madeCells #[.int .i64 0, .int .i64 0] (R * 2)) 66)).heap.size = W1.heap.size + 1 + 1 := by simp
  have hp := PlAt.made (W1.alloc (.map #[] 0)) R
  rw [h1] at hp
  have hx := heap_alloc_new ((W1.alloc (.map #[] 0)).alloc (.cells (madeCells #[.int .i64 0, .int .i64 0] (R * 2)) 66)) (.cells #[.slice (some ⟨W1.heap.size + 1, 0, none⟩) R R, .int .i64 0] 33)
  rw [h2] at hx
  refine ⟨fun k => if k < W1.heap.size then 0 else if k = W1.heap.size then 2 else 1, World.rowIs.of_block hp (Below.heap_alloc _ _ _ (by simp)), ⟨by simp, fun k => ?_, ?_, ?_⟩, ⟨0, .map [], Nat.le_refl _, ((World.ownsMap_made _ _ _ _).alloc _).alloc _, MapIs.nil⟩, IntsAt.nil _ _ _, ?_, ?_, ?_, by omega, fun k hk => if_pos hk, bAlloc (by simp; omega) (bAlloc (by simp) (bAlloc (Nat.le_refl _) (Below.refl _ _)))⟩
  · exact by unfold World.frozen?; rw [hx]; rfl
  · simp only [World.cell?, hx, Option.isSome_none, Bool.false_eq_true, if_false]; rfl
  · simp only [World.cell?, hx, Option.isSome_none, Bool.false_eq_true, if_false]; rfl
  · show (if W1.heap.size + 1 < W1.heap.size then 0 else if W1.heap.size + 1 = W1.heap.size then 2 else 1) = 1
    rw [if_neg (by omega), if_neg (by omega)]
  · show (if W1.heap.size + 1 + 1 < W1.heap.size then 0 else if W1.heap.size + 1 + 1 = W1.heap.size then 2 else 1) = 1
    rw [if_neg (by omega), if_neg (by omega)]
  · show (if W1.heap.size < W1.heap.size then 0 else if W1.heap.size = W1.heap.size then 2 else 1) = 2
    rw [if_neg (by omega), if_pos rfl]
theorem zeroI (w : World) : (zeroValue 3).run Tryd.prog w = .ok (.int .i64 0) w := by kernel_rfl
/-- The rows of the graph of the nodes without a color, as they are made. -/
def aF (E : List (List Int)) (S : List Nat) (i j t : Nat) : List Int := if t < i then amongR E S t else if t = i then amongJ E S i j else []
theorem aF_self (E : List (List Int)) (S : List Nat) (i j : Nat) : aF E S i j i = amongJ E S i j := by unfold aF; rw [if_neg (by omega), if_pos rfl]
theorem aF_zero (E : List (List Int)) (S : List Nat) (t : Nat) : aF E S 0 0 t = [] := by
  unfold aF
  rw [if_neg (by omega)]
  split
  · rfl
  · rfl
theorem aF_upd {E : List (List Int)} {S : List Nat} {i j : Nat} {y : Int} (h : amongJ E S i (j + 1) = amongJ E S i j ++ [y]) : aF E S i (j + 1) = upd (aF E S i j) i (aF E S i j i ++ [y]) := by
  funext t
  by_cases e : t = i
  · subst e; rw [upd_same, aF_self, aF_self, h]
  · rw [upd_ne _ _ e]; unfold aF; simp only [if_neg e]
theorem aF_same {E : List (List Int)} {S : List Nat} {i j : Nat} (h : amongJ E S i (j + 1) = amongJ E S i j) : aF E S i (j + 1) = aF E S i j := by unfold aF; rw [h]
theorem aF_end {E : List (List Int)} {S : List Nat} {i n : Nat} (h : amongJ E S i n = amongR E S i) : aF E S i n = aF E S (i + 1) 0 := by
  funext t
  unfold aF
  by_cases e : t < i
  · rw [if_pos e, if_pos (by omega)]
  · rw [if_neg e]
    by_cases e2 : t = i
    · subst e2; rw [if_pos rfl, if_pos (by omega), h]
    · rw [if_neg e2, if_neg (by omega)]
      split
      · rfl
      · rfl
theorem amongE_max {E : List (List Int)} (S : List Nat) {m : Nat} (h : RowsMax E m) : RowsMax (amongE E S) m := by
  intro a
  by_cases ha : a < S.length
  · rw [amongE_at E S ha]
    exact Nat.le_trans (List.length_filterMap_le _ _) (h _)
  · rw [List.getD_eq_getElem?_getD, List.getElem?_eq_none (by rw [amongE_len]; omega)]
    simp
theorem RowsAt.rdR {col : Nat → Nat} {c : Nat} {w : World} {v : Value} {n : Nat} {f : Nat → List Int} (h : RowsAt col c w v n f) (e : List (List Int)) (hl : e.length = n) (he : ∀ i, i < n → e.getD i [] = f i) : RdR w v e := by
  obtain ⟨V, h⟩ := h
  obtain ⟨p, cap, rfl⟩ := h.shape
  subst hl
  refine ⟨p, cap, V, rfl, fun a ha => ?_⟩
  obtain ⟨g, cap', e1, hg, _, _, hc, _⟩ := h.block (by omega)
  injection e1 with e1
  have hr := h.row a ha
  refine ⟨⟨g, 0, e1, hg, by rw [Nat.zero_add]; exact hc a ha⟩, ?_⟩
  rw [he a ha]
  rw [List.length_map] at hr
  exact RdI.of_own hr
theorem AlBox.made (w : World) (v : Value) (s : Int) : AlBox (w.alloc (.cells #[v, .int .i64 s] 33)) w.heap.size v s := by
  have hx := heap_alloc_new w (.cells #[v, .int .i64 s] 33)
  refine ⟨by simp, fun k => ?_, ?_, ?_⟩
  · unfold World.frozen?; rw [hx]; rfl
  · simp only [World.cell?, hx, Option.isSome_none, Bool.false_eq_true, if_false]; rfl
  · simp only [World.cell?, hx, Option.isSome_none, Bool.false_eq_true, if_false]; rfl
theorem run_result2 {fn : Func} {p u : Tmp} (hr : fn.results = #[.cell p 33, .tmp u]) (hag : ∀ w : World, (isAgg 33).run Tryd.prog w = .ok true w) (hsz : ∀ w : World, (sizeOf 33).run Tryd.prog w = .ok 2 w) (tmps : Array Value) (w : World) (b : Nat) (v0 v1 r : Value)
    (hp : tmps.getD p undef = .pointer (some ⟨b, 0, none⟩)) (hu : tmps.getD u undef = r) (h0 : w.cell? ⟨b, 0, none⟩ = some v0) (h1 : w.cell? ⟨b, 1, none⟩ = some v1) : (results fn tmps).run Tryd.prog w = .ok (.tuple #[.agg #[v0, v1], r]) w := by
  have hl : ∀ j v, [v0, v1][j]? = some v → w.cell? ((⟨b, 0, none⟩ : Addr).add j) = some v := by
    intro j v hj
    match j, hj with
    | 0, hj => obtain rfl : v0 = v := by simpa using hj
               exact h0
    | 1, hj => obtain rfl : v1 = v := by simpa using hj
               exact h1
    | j + 2, hj => simp at hj
  rw [results_cell_tmp hr, hp, hu]
  simp only [asAddr, loadVar, Sem.run_bind, Sem.run_pure, Result.andThen, hag, hsz, if_true]
  have e := run_loadCells_list (P := Tryd.prog) _ ⟨b, 0, none⟩ [v0, v1] hl
  simp only [List.length_cons, List.length_nil] at e
  simp [e]
end Go.Proofs.YtifjcknklecdbaaDoor

