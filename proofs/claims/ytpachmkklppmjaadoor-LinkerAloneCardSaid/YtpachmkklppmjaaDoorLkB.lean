/- What Link holds, told by colors: its image's box 1, the entries 2, the words 3, the symbols 4, their map 5, the open object's code 6, all else 0. No walk here. -/
import Derived.Test.YtpachmkklppmjaaDoorLkP
import Derived.Test.YtpachmkklppmjaaDoorTou
import Derived.Test.YtpachmkklppmjaaDoorMapF
import Derived.Test.YtpachmkklppmjaaDoorCorP
import Derived.Maps.AppendAt
import Derived.Laws.ResultCell
set_option linter.unusedVariables false
set_option linter.unusedSimpArgs false
namespace Go.Proofs.YtpachmkklppmjaaDoor
open Go.RowKit Go.Maps

/-- A slice that reads as these cells, m elements of size cells each. -/
def Src (w : World) (size : Nat) (v : Value) (m : Nat) (news : List Value) : Prop :=
  ∃ p c, v = .slice p m c ∧ news.length = m * size ∧ (m = 0 → p = none → c = 0) ∧ ∀ j u, news[j]? = some u → ∃ ad, p = some ad ∧ w.cell? (ad.add j) = some u

section
variable {P : Program} (w : World)
theorem run_append_src (base : Nat) (t ty e : TypeId) (i : TypeInfo) (z : Value) (size bytes : Nat) (ht : P.underlying t = some (.slice e)) (hi : P.info? e = some i) (hz : i.zero = some z)
    (hsize : i.size = size) (hby : i.bytes = bytes) (hzs : z.cells.size = size) (hsz : 0 < size)
    (v : Value) (n : Nat) (xs : List Value) (hown : w.ownsRow base e size v n xs)
    (src : Value) (m : Nat) (news : List Value) (hm : Src w size src m news) (h1 : ∀ u ∈ news, u.oneCell' = true)
    (h63 : n + m ≤ maxLen) (hbytes : (n + m) * bytes ≤ 140737488355328) (hbase : base ≤ w.heap.size) :
    ∃ v' w', (Builtin.append_ #[t, t] ty #[v, src]).run P w = .ok v' w' ∧ w'.ownsRow base e size v' (n + m) (xs ++ news) ∧ w.grownBy w' v.ownBlock ∧ (v'.ownBlock = v.ownBlock ∨ v'.ownBlock = some w.heap.size) := by
  obtain ⟨p, c, rfl, hl, hn0, hcell⟩ := hm
  cases p with
  | none =>
    have hnews : news = [] := by
      cases news with
      | nil => rfl
      | cons u rest =>
        obtain ⟨ad, h, _⟩ := hcell 0 u rfl
        cases h
    subst hnews
    have hm0 : m = 0 := by
      rcases Nat.eq_zero_or_pos m with h | h
      · exact h
      · have := Nat.mul_pos h hsz
        simp at hl
        omega
    subst hm0
    obtain rfl := hn0 rfl rfl
    refine ⟨v, w, ?_, by simpa using hown, ⟨rfl, rfl, rfl, Nat.le_refl _, fun _ _ _ => rfl⟩, .inl rfl⟩
    rcases hown.2 with ⟨rfl, rfl⟩ | ⟨g, cap, cur, rfl, _, _, hnc, _⟩
    · simp [Builtin.append_, run_underlying ht, sizeOf, typeInfo, hi, Builtin.lenOf, Builtin.firstCells]
    · simp [Builtin.append_, run_underlying ht, sizeOf, typeInfo, hi, Builtin.lenOf, Builtin.firstCells, hnc, storeCells]
  | some ad =>
    obtain ⟨v', w', hrun, h2, h3, _, h5⟩ := run_append_own_at (P := P) w base t ty e i z size bytes ht hi hz hsize hby hzs hsz v n xs hown ad m c news hl (fun j u hj => by
      obtain ⟨ad', e', h⟩ := hcell j u hj
      cases e'
      exact h) h1 h63 hbytes hbase
    exact ⟨v', w', hrun, h2, h3, h5⟩

theorem wp_append_src {o : Oper} {a : Act} {K : Act → World → Prop} {Q : Exit → Act → World → Prop} (s x : Operand) (t : TypeId)
    (ho : o.op = .call { callee := .builtin .append, args := #[s, x], argTypes := #[t, t] })
    (base : Nat) (e : TypeId) (i : TypeInfo) (z : Value) (size bytes : Nat) (ht : P.underlying t = some (.slice e)) (hi : P.info? e = some i) (hz : i.zero = some z)
    (hsize : i.size = size) (hby : i.bytes = bytes) (hzs : z.cells.size = size) (hsz : 0 < size)
    (v : Value) (n : Nat) (xs : List Value) (hs : a.eval s = v) (hown : w.ownsRow base e size v n xs)
    (src : Value) (m : Nat) (news : List Value) (hx : a.eval x = src) (hm : Src w size src m news) (h1 : ∀ u ∈ news, u.oneCell' = true)
    (h63 : n + m ≤ maxLen) (hbytes : (n + m) * bytes ≤ 140737488355328) (hbase : base ≤ w.heap.size)
    (h : ∀ p c w', w'.ownsRow base e size (.slice p (n + m) c) (n + m) (xs ++ news) → w.grownBy w' v.ownBlock → ((Value.slice p (n + m) c).ownBlock = v.ownBlock ∨ (Value.slice p (n + m) c).ownBlock = some w.heap.size) → K (a.put o.dst (.slice p (n + m) c)) w') : o.wp P a w K Q := by
  obtain ⟨v', w', hrun, h2, h3, h4⟩ := run_append_src (P := P) w base t o.type e i z size bytes ht hi hz hsize hby hzs hsz v n xs hown src m news hm h1 h63 hbytes hbase
  have hsl : ∃ p c, v' = .slice p (n + m) c := by
    rcases h2.2 with ⟨rfl, hh⟩ | ⟨g, cap, cur, rfl, _⟩
    · exact ⟨none, 0, by rw [hh]⟩
    · exact ⟨_, _, rfl⟩
  obtain ⟨p, c, rfl⟩ := hsl
  unfold Oper.wp execOp
  simp only [ho, resolve, invoke, builtin, Sem.run_bind, Sem.run_pure, Result.andThen_ok, List.map_toArray, List.map_cons, List.map_nil, hs, hx, hrun]
  exact h p c w' h2 h3 h4

theorem wpList_append_src {ops : Array Oper} {rest : List Oper} {o : Oper} {a : Act} {Q : Exit → Act → World → Prop} (hgd : o.guard = none) (s x : Operand) (t : TypeId)
    (ho : o.op = .call { callee := .builtin .append, args := #[s, x], argTypes := #[t, t] })
    (base : Nat) (e : TypeId) (i : TypeInfo) (z : Value) (size bytes : Nat) (ht : P.underlying t = some (.slice e)) (hi : P.info? e = some i) (hz : i.zero = some z)
    (hsize : i.size = size) (hby : i.bytes = bytes) (hzs : z.cells.size = size) (hsz : 0 < size)
    (v : Value) (n : Nat) (xs : List Value) (hs : a.eval s = v) (hown : w.ownsRow base e size v n xs)
    (src : Value) (m : Nat) (news : List Value) (hx : a.eval x = src) (hm : Src w size src m news) (h1 : ∀ u ∈ news, u.oneCell' = true)
    (h63 : n + m ≤ maxLen) (hbytes : (n + m) * bytes ≤ 140737488355328) (hbase : base ≤ w.heap.size)
    (h : ∀ p c w', w'.ownsRow base e size (.slice p (n + m) c) (n + m) (xs ++ news) → w.grownBy w' v.ownBlock → ((Value.slice p (n + m) c).ownBlock = v.ownBlock ∨ (Value.slice p (n + m) c).ownBlock = some w.heap.size) → wpList P ops Q rest (a.put o.dst (.slice p (n + m) c)) w') : wpList P ops Q (o :: rest) a w :=
  wpList_plain hgd fun _ hK => wp_append_src w s x t ho base e i z size bytes ht hi hz hsize hby hzs hsz v n xs hs hown src m news hx hm h1 h63 hbytes hbase fun p c w' h2 h3 h4 => hK _ _ (h p c w' h2 h3 h4)
theorem wpList_append_new {ops : Array Oper} {rest : List Oper} {o : Oper} {a : Act} {Q : Exit → Act → World → Prop} (hgd : o.guard = none) (s x : Operand) (t : TypeId)
    (ho : o.op = .call { callee := .builtin .append, args := #[s, x], argTypes := #[t, t] })
    (base : Nat) (e : TypeId) (i : TypeInfo) (z : Value) (size bytes : Nat) (ht : P.underlying t = some (.slice e)) (hi : P.info? e = some i) (hz : i.zero = some z)
    (hsize : i.size = size) (hby : i.bytes = bytes) (hzs : z.cells.size = size) (hsz : 0 < size)
    (v : Value) (hs : a.eval s = v) (hown : w.ownsRow base e size v 0 [])
    (src : Value) (m : Nat) (news : List Value) (hx : a.eval x = src) (hm : Src w size src m news) (h1 : ∀ u ∈ news, u.oneCell' = true)
    (h63 : m ≤ maxLen) (hbytes : m * bytes ≤ 140737488355328) (hbase : base ≤ w.heap.size)
    (h : ∀ p c w', w'.ownsRow base e size (.slice p m c) m news → w.grownBy w' v.ownBlock → wpList P ops Q rest (a.put o.dst (.slice p m c)) w') : wpList P ops Q (o :: rest) a w := by
  refine wpList_append_src w hgd s x t ho base e i z size bytes ht hi hz hsize hby hzs hsz v 0 [] hs hown src m news hx hm h1 (by omega) (by rw [Nat.zero_add]; exact hbytes) hbase fun p c w' h2 h3 _ => ?_
  rw [Nat.zero_add, List.nil_append] at h2
  rw [Nat.zero_add]
  exact h p c w' h2 h3
end


/-- Shared objects that can be read. -/
def ShAt (w : World) (v : Value) (l : List LSh) : Prop :=
  ∃ p cap, v = .slice p l.length cap ∧ ∀ k, k < l.length → ∃ m off, p = some ⟨m, off, none⟩ ∧ m < w.heap.size ∧ w.cell? ⟨m, off + k * 2, none⟩ = some (.string (l.getD k default).1) ∧ w.cell? ⟨m, off + k * 2 + 1, none⟩ = some (.int .i64 (l.getD k default).2)
theorem ShAt.below {B : Nat} {w w' : World} {v : Value} {l : List LSh} (h : ShAt w v l) (hb : Below B w w') (hB : w.heap.size ≤ B) : ShAt w' v l := by
  obtain ⟨p, cap, hv, hc⟩ := h
  refine ⟨p, cap, hv, fun k hk => ?_⟩
  obtain ⟨m, off, hp, hm, h0, h1⟩ := hc k hk
  have hlt := Nat.lt_of_lt_of_le hm hB
  exact ⟨m, off, hp, Nat.lt_of_lt_of_le hm hb.size, (hb.cell (p := ⟨m, off + k * 2, none⟩) hlt).trans h0, (hb.cell (p := ⟨m, off + k * 2 + 1, none⟩) hlt).trans h1⟩
theorem ShAt.shape {w : World} {v : Value} {l : List LSh} (h : ShAt w v l) : ∃ p cap, v = .slice p l.length cap := by
  obtain ⟨p, cap, hv, _⟩ := h
  exact ⟨p, cap, hv⟩
/-- Objects that can be read. -/
def ObsAt (w : World) (v : Value) (l : List LOb) : Prop :=
  ∃ p cap, v = .slice p l.length cap ∧ ∀ k, k < l.length → ∃ m off cv rv, p = some ⟨m, off, none⟩ ∧ m < w.heap.size ∧ (w.cell? ⟨m, off + k * 4, none⟩ = some (.string (l.getD k default).nm) ∧ w.cell? ⟨m, off + k * 4 + 1, none⟩ = some cv ∧ w.cell? ⟨m, off + k * 4 + 2, none⟩ = some (.int .i64 (l.getD k default).dat) ∧ w.cell? ⟨m, off + k * 4 + 3, none⟩ = some rv) ∧ GsRd w cv (l.getD k default).code ∧ RfRd w rv (l.getD k default).refs
theorem ObsAt.below {B : Nat} {w w' : World} {v : Value} {l : List LOb} (h : ObsAt w v l) (hb : Below B w w') (hB : w.heap.size ≤ B) : ObsAt w' v l := by
  obtain ⟨p, cap, hv, hc⟩ := h
  refine ⟨p, cap, hv, fun k hk => ?_⟩
  obtain ⟨m, off, cv, rv, hp, hm, ⟨h0, h1, h2, h3⟩, h4, h5⟩ := hc k hk
  have hlt := Nat.lt_of_lt_of_le hm hB
  exact ⟨m, off, cv, rv, hp, Nat.lt_of_lt_of_le hm hb.size, ⟨(hb.cell (p := ⟨m, off + k * 4, none⟩) hlt).trans h0, (hb.cell (p := ⟨m, off + k * 4 + 1, none⟩) hlt).trans h1, (hb.cell (p := ⟨m, off + k * 4 + 2, none⟩) hlt).trans h2, (hb.cell (p := ⟨m, off + k * 4 + 3, none⟩) hlt).trans h3⟩, h4.below hb hB, h5.below hb hB⟩
theorem ObsAt.shape {w : World} {v : Value} {l : List LOb} (h : ObsAt w v l) : ∃ p cap, v = .slice p l.length cap := by
  obtain ⟨p, cap, hv, _⟩ := h
  exact ⟨p, cap, hv⟩
/-- The names fit. -/
structure LFit (S : List LSh) (l : List LOb) : Prop where
  s : ∀ k, k < S.length → (S.getD k default).1.size ≤ maxLen
  o : ∀ k, k < l.length → (l.getD k default).nm.size ≤ maxLen
  r : ∀ k, k < l.length → ∀ j, j < (l.getD k default).refs.length → ((l.getD k default).refs.getD j default).nm.size ≤ maxLen
theorem Src.of_gs {w : World} {p : Option Addr} {c : Nat} {l : List GI} (h : GsRd w (.slice p l.length c) l) (h0 : l ≠ []) : Src w 5 (.slice p l.length c) l.length (codeV l) := by
  obtain ⟨p', c', e, hc⟩ := h
  injection e with e1 _ e3
  subst e1 e3
  refine ⟨p, c, rfl, codeV_len l, fun h1 => absurd (List.length_eq_zero_iff.1 h1) h0, fun j u hj => ?_⟩
  rcases hc with hc | ⟨m, off, rfl, _, hx⟩
  · exact absurd hc h0
  · refine ⟨_, rfl, ?_⟩
    have e2 : (⟨m, off, none⟩ : Addr).add j = ⟨m, off + j, none⟩ := by unfold Addr.add; split <;> simp_all
    rw [e2]
    exact hx j u hj
theorem codeV_one : ∀ (l : List GI), ∀ u ∈ codeV l, u.oneCell' = true
  | [], u, h => by cases h
  | i :: l, u, h => by
    rcases List.mem_append.1 (show u ∈ giV i ++ codeV l from h) with h | h
    · simp [giV] at h
      rcases h with rfl | rfl | rfl | rfl | rfl <;> rfl
    · exact codeV_one l u h
/-- The cells of entries, words, symbols. -/
def entC (e : En) : List Value := [.string e.nm, .int .i64 e.st, .int .i64 e.fin, .int .i64 e.dat]
def entV (E : List En) : List Value := E.flatMap entC
def wdV (C : List Int) : List Value := C.map (Value.int .u32)
def syC (s : ByteArray × Int × Int) : List Value := [.string s.1, .int .i64 s.2.1, .int .i64 s.2.2]
def syV (L : List (ByteArray × Int × Int)) : List Value := L.flatMap syC
theorem entV_push (E : List En) (e : En) : entV (E ++ [e]) = entV E ++ entC e := by simp [entV]
theorem wdV_push (C : List Int) (x : Int) : wdV (C ++ [x]) = wdV C ++ [.int .u32 x] := by simp [wdV]
theorem syV_push (L : List (ByteArray × Int × Int)) (s : ByteArray × Int × Int) : syV (L ++ [s]) = syV L ++ syC s := by simp [syV]
theorem flat_at {α : Type} [Inhabited α] {f : α → List Value} {n : Nat} (hf : ∀ x, (f x).length = n) : ∀ (l : List α) (k : Nat), k < l.length → ∀ j, j < n → (l.flatMap f)[k * n + j]? = (f (l.getD k default))[j]?
  | [], k, h, _, _ => by simp at h
  | x :: l, 0, _, j, hj => by
    rw [List.flatMap_cons, Nat.zero_mul, Nat.zero_add, List.getElem?_append_left (by rw [hf]; exact hj)]
    rfl
  | x :: l, k + 1, h, j, hj => by
    rw [List.flatMap_cons, List.getElem?_append_right (by rw [hf, Nat.succ_mul]; omega), hf, show (k + 1) * n + j - n = k * n + j by rw [Nat.succ_mul]; omega]
    exact flat_at hf l k (by simpa using h) j hj
theorem codeV_set : ∀ (l : List GI) {j : Nat}, j < l.length → ∀ x : Int, (codeV l).set (j * 5 + 4) (.int .i64 x) = codeV (l.set j { l.getD j default with imm := x })
  | [], j, h, _ => by simp at h
  | i :: l, 0, _, x => rfl
  | i :: l, j + 1, h, x => by
    have ih := codeV_set l (j := j) (by simpa using h) x
    have e : codeV (i :: l) = giV i ++ codeV l := rfl
    rw [e, List.set_append_right _ _ (by show 5 ≤ _; omega), show (j + 1) * 5 + 4 - (giV i).length = j * 5 + 4 by show (j + 1) * 5 + 4 - 5 = _; omega, ih]
    rfl
theorem own_setCell5 {w : World} {base : Nat} {e : TypeId} {size g cap n j : Nat} {xs : List Value} (h : w.ownsRow base e size (.slice (some ⟨g, 0, none⟩) n cap) n xs) (hj : j < n * size) (u : Value) : (w.setCell ⟨g, j, none⟩ u).ownsRow base e size (.slice (some ⟨g, 0, none⟩) n cap) n (xs.set j u) := by
  obtain ⟨h1, h2⟩ := h
  refine ⟨by simpa using h1, ?_⟩
  rcases h2 with ⟨e, _⟩ | ⟨g', cap', cur, e, hb, hh, hnc, hcm, hcs, htk⟩
  · cases e
  · injection e with e1 e2 e3
    injection e1 with e1
    injection e1 with e1
    subst e1 e3
    refine .inr ⟨g, cap, cur.setIfInBounds j u, rfl, hb, ?_, hnc, hcm, by simpa using hcs, ?_⟩
    · simp [World.setCell, Array.getElem?_modify, hh]
    · rw [← htk, Array.toList_setIfInBounds, List.take_set]
/-- What Link holds. -/
structure LkAt (W0 : World) (gi gm : Nat) (C : List Int) (E : List En) (sh lk : Int) (L : List (ByteArray × Int × Int)) (n : Nat) (F : ByteArray → Option Value) (R : List (Nat × List Value)) (col : Nat → Nat) (w : World) (cv ev lv : Value) : Prop where
  low : ∀ k, k < W0.heap.size → col k = 0
  bel : Below W0.heap.size W0 w
  rows : ∀ p ∈ R, RowC w p.1 p.2 ∧ col p.1 = 0
  box : RowC w gi [cv, ev, .int .i64 sh, .int .i64 lk]
  fz : ∀ k, w.frozen? ⟨gi, k, none⟩ = false
  cg : col gi = 1
  ents : OwnC 48 4 col 2 w ev E.length (entV E)
  code : OwnC 60 1 col 3 w cv C.length (wdV C)
  syms : OwnC 57 3 col 4 w lv L.length (syV L)
  mp : MpAt w gm n F
  cm : col gm = 5
def LkRel (W0 : World) (gi gm : Nat) (C : List Int) (E : List En) (sh lk : Int) (L : List (ByteArray × Int × Int)) (n : Nat) (F : ByteArray → Option Value) (R : List (Nat × List Value)) (lv : Value) (w : World) : Prop := ∃ col cv ev, LkAt W0 gi gm C E sh lk L n F R col w cv ev lv
/-- .. and the open object's code G. -/
structure LoAt (W0 : World) (gi gm : Nat) (C : List Int) (E : List En) (sh lk : Int) (L : List (ByteArray × Int × Int)) (n : Nat) (F : ByteArray → Option Value) (R : List (Nat × List Value)) (G : List GI) (kv : Value) (col : Nat → Nat) (w : World) (cv ev lv : Value) : Prop where
  k : LkAt W0 gi gm C E sh lk L n F R col w cv ev lv
  g : OwnC 51 5 col 6 w kv G.length (codeV G)
def LoRel (W0 : World) (gi gm : Nat) (C : List Int) (E : List En) (sh lk : Int) (L : List (ByteArray × Int × Int)) (n : Nat) (F : ByteArray → Option Value) (R : List (Nat × List Value)) (G : List GI) (kv lv : Value) (w : World) : Prop := ∃ col cv ev, LoAt W0 gi gm C E sh lk L n F R G kv col w cv ev lv
theorem rowC_block {w w' : World} {l : List Value} {b : Nat} (h : RowC w b l) (hb : w'.heap[b]? = w.heap[b]?) (hs : w.heap.size ≤ w'.heap.size) : RowC w' b l :=
  ⟨Nat.lt_of_lt_of_le h.lt hs, fun k v hv => (World.cell?_of_block (a := ⟨b, k, none⟩) hb).trans (h.2 k v hv)⟩
theorem rowC_set {w : World} {l : List Value} {b : Nat} (h : RowC w b l) (k : Nat) (v : Value) : RowC (w.setCell ⟨b, k, none⟩ v) b (l.set k v) := by
  refine ⟨by simpa [World.setCell] using h.lt, fun j u hu => ?_⟩
  rw [List.getElem?_set] at hu
  by_cases e : k = j
  · subst e
    rw [if_pos rfl] at hu
    split at hu
    · rename_i hlt
      have h1 := h.2 k l[k] (List.getElem?_eq_getElem hlt)
      cases hu
      exact World.cell?_setCell_same _ _ _ h1
    · cases hu
  · rw [if_neg e] at hu
    exact (World.cell?_setCell_other _ _ _ _ (by intro e2; injection e2 with _ e2; exact e (by first | exact e2 | exact e2.symm))).trans (h.2 j u hu)
section
variable {W0 w w' w3 : World} {gi gm n : Nat} {C : List Int} {E : List En} {sh lk : Int} {L : List (ByteArray × Int × Int)} {F : ByteArray → Option Value} {R : List (Nat × List Value)} {col : Nat → Nat} {cv ev lv kv : Value} {G : List GI}
theorem LkAt.big (h : LkAt W0 gi gm C E sh lk L n F R col w cv ev lv) : W0.heap.size ≤ w.heap.size := h.bel.size
theorem LkAt.touch (h : LkAt W0 gi gm C E sh lk L n F R col w cv ev lv) {c : Nat} (ht : Touch col c w w') (h0 : c ≠ 0) (h1 : c ≠ 1) (h2 : c ≠ 2) (h3 : c ≠ 3) (h4 : c ≠ 4) (h5 : c ≠ 5) : LkAt W0 gi gm C E sh lk L n F R (paint col w.heap.size c) w' cv ev lv := by
  have hg := ht.block gi h.box.lt (by rw [h.cg]; exact fun e => h1 e.symm)
  refine ⟨low_paint h.low h.big, h.bel.trans (ht.below h.big fun k hk e => by rw [h.low k hk] at e; exact h0 e.symm), fun p hp => ?_, rowC_block h.box hg ht.size, fun k => (World.frozen?_of_block (a := ⟨gi, k, none⟩) hg).trans (h.fz k), by rw [paint_lt h.box.lt]; exact h.cg, h.ents.other ht (fun e => h2 e.symm), h.code.other ht (fun e => h3 e.symm), h.syms.other ht (fun e => h4 e.symm), h.mp.of_block (ht.block _ h.mp.lt (by rw [h.cm]; exact fun e => h5 e.symm)), by rw [paint_lt h.mp.lt]; exact h.cm⟩
  obtain ⟨r1, hc⟩ := h.rows p hp
  exact ⟨rowC_block r1 (ht.block p.1 r1.lt (by rw [hc]; exact fun e => h0 e.symm)) ht.size, by rw [paint_lt r1.lt]; exact hc⟩
theorem LkAt.keep (h : LkAt W0 gi gm C E sh lk L n F R col w cv ev lv) (hb : Below w.heap.size w w') : LkAt W0 gi gm C E sh lk L n F R (paint col w.heap.size 0) w' cv ev lv := by
  have ht : Touch col 0 w w' := Touch.of_below hb
  have hg := hb.block gi h.box.lt
  refine ⟨low_paint h.low h.big, h.bel.trans (hb.mono h.big), fun p hp => ?_, rowC_block h.box hg hb.size, fun k => (World.frozen?_of_block (a := ⟨gi, k, none⟩) hg).trans (h.fz k), by rw [paint_lt h.box.lt]; exact h.cg, h.ents.other ht (by decide), h.code.other ht (by decide), h.syms.other ht (by decide), h.mp.of_block (hb.block _ h.mp.lt), by rw [paint_lt h.mp.lt]; exact h.cm⟩
  obtain ⟨r1, hc⟩ := h.rows p hp
  exact ⟨rowC_block r1 (hb.block p.1 r1.lt) hb.size, by rw [paint_lt r1.lt]; exact hc⟩
theorem LoAt.keep (h : LoAt W0 gi gm C E sh lk L n F R G kv col w cv ev lv) (hb : Below w.heap.size w w') : LoAt W0 gi gm C E sh lk L n F R G kv (paint col w.heap.size 0) w' cv ev lv := ⟨h.k.keep hb, h.g.other (Touch.of_below hb) (by decide)⟩
theorem LkRel.keep (h : LkRel W0 gi gm C E sh lk L n F R lv w) (hb : Below w.heap.size w w') : LkRel W0 gi gm C E sh lk L n F R lv w' := by
  obtain ⟨col, cv, ev, h⟩ := h
  exact ⟨_, _, _, h.keep hb⟩
theorem LoRel.keep (h : LoRel W0 gi gm C E sh lk L n F R G kv lv w) (hb : Below w.heap.size w w') : LoRel W0 gi gm C E sh lk L n F R G kv lv w' := by
  obtain ⟨col, cv, ev, h⟩ := h
  exact ⟨_, _, _, h.keep hb⟩
theorem LkRel.bel (h : LkRel W0 gi gm C E sh lk L n F R lv w) : Below W0.heap.size W0 w := by
  obtain ⟨_, _, _, h⟩ := h
  exact h.bel
theorem LoRel.bel (h : LoRel W0 gi gm C E sh lk L n F R G kv lv w) : Below W0.heap.size W0 w := by
  obtain ⟨_, _, _, h⟩ := h
  exact h.k.bel
theorem LkRel.row (h : LkRel W0 gi gm C E sh lk L n F R lv w) (hb : Below w.heap.size w w') {b : Nat} {cs : List Value} (hr : RowC w' b cs) (hB : w.heap.size ≤ b) : LkRel W0 gi gm C E sh lk L n F ((b, cs) :: R) lv w' := by
  obtain ⟨col, cv, ev, h⟩ := h
  have hk := h.keep hb
  refine ⟨_, _, _, ⟨hk.low, hk.bel, fun p hp => ?_, hk.box, hk.fz, hk.cg, hk.ents, hk.code, hk.syms, hk.mp, hk.cm⟩⟩
  rcases List.mem_cons.1 hp with rfl | hp
  · exact ⟨hr, paint_ge hB⟩
  · exact hk.rows p hp
theorem LkRel.made (h : LkRel W0 gi gm C E sh lk L n F R lv w) (cs : List Value) (t : TypeId) : LkRel W0 gi gm C E sh lk L n F ((w.heap.size, cs) :: R) lv (w.alloc (.cells cs.toArray t)) :=
  h.row (bAlloc (Nat.le_refl _) (Below.refl _ _)) (RowC.made w cs t) (Nat.le_refl _)
theorem LkRel.sub {R' : List (Nat × List Value)} (h : LkRel W0 gi gm C E sh lk L n F R lv w) (hs : ∀ p ∈ R', p ∈ R) : LkRel W0 gi gm C E sh lk L n F R' lv w := by
  obtain ⟨col, cv, ev, hk⟩ := h
  exact ⟨_, _, _, ⟨hk.low, hk.bel, fun p hp => hk.rows p (hs p hp), hk.box, hk.fz, hk.cg, hk.ents, hk.code, hk.syms, hk.mp, hk.cm⟩⟩
theorem LkRel.drop {p : Nat × List Value} (h : LkRel W0 gi gm C E sh lk L n F (p :: R) lv w) : LkRel W0 gi gm C E sh lk L n F R lv w := h.sub fun q hq => List.mem_cons_of_mem _ hq
theorem LkRel.at (h : LkRel W0 gi gm C E sh lk L n F R lv w) {b : Nat} {cs : List Value} (hp : (b, cs) ∈ R) : RowC w b cs := by
  obtain ⟨_, _, _, h⟩ := h
  exact (h.rows _ hp).1
theorem LoRel.at (h : LoRel W0 gi gm C E sh lk L n F R G kv lv w) {b : Nat} {cs : List Value} (hp : (b, cs) ∈ R) : RowC w b cs := by
  obtain ⟨_, _, _, h⟩ := h
  exact (h.k.rows _ hp).1
/-- How it begins. -/
theorem LkRel.begin (w : World) (t : TypeId) : LkRel w w.heap.size (w.heap.size + 1) [] [] 0 0 [] 0 (fun _ => none) [] (.slice none 0 0) ((w.alloc (.cells #[.slice none 0 0, .slice none 0 0, .int .i64 0, .int .i64 0] t)).alloc (.map #[] 0)) := by
  have hb : Below w.heap.size w ((w.alloc (.cells #[.slice none 0 0, .slice none 0 0, .int .i64 0, .int .i64 0] t)).alloc (.map #[] 0)) := bAlloc (by simp) (bAlloc (Nat.le_refl _) (Below.refl _ _))
  have hbx : RowC (w.alloc (.cells #[.slice none 0 0, .slice none 0 0, .int .i64 0, .int .i64 0] t)) w.heap.size [.slice none 0 0, .slice none 0 0, .int .i64 0, .int .i64 0] := RowC.made w [.slice none 0 0, .slice none 0 0, .int .i64 0, .int .i64 0] t
  have hm := MpAt.made (w.alloc (.cells #[.slice none 0 0, .slice none 0 0, .int .i64 0, .int .i64 0] t))
  have hs : (w.alloc (.cells #[.slice none 0 0, .slice none 0 0, .int .i64 0, .int .i64 0] t)).heap.size = w.heap.size + 1 := by simp
  rw [hs] at hm
  have hblk : ((w.alloc (.cells #[.slice none 0 0, .slice none 0 0, .int .i64 0, .int .i64 0] t)).alloc (.map #[] 0)).heap[w.heap.size]? = (w.alloc (.cells #[.slice none 0 0, .slice none 0 0, .int .i64 0, .int .i64 0] t)).heap[w.heap.size]? := (bAlloc (B := w.heap.size + 1) (by simp) (Below.refl _ _)).block w.heap.size (by omega)
  refine ⟨fun k => if k = w.heap.size then 1 else if k = w.heap.size + 1 then 5 else 0, .slice none 0 0, .slice none 0 0, ⟨fun k hk => by rw [if_neg (by omega), if_neg (by omega)], hb, fun p hp => (by cases hp), rowC_block hbx hblk (by simp), fun k => ?_, if_pos rfl, OwnC.nil _ _ _ _ _, OwnC.nil _ _ _ _ _, OwnC.nil _ _ _ _ _, hm, by rw [if_neg (by omega), if_pos rfl]⟩⟩
  refine (World.frozen?_of_block (a := ⟨w.heap.size, k, none⟩) hblk).trans ?_
  unfold World.frozen?
  rw [heap_alloc_new]
  simp only [Nat.not_lt_zero, decide_false, Bool.and_false]
theorem LkAt.swap1 (h : LkAt W0 gi gm C E sh lk L n F R col w cv ev lv) {cv' ev' : Value} {C' : List Int} {E' : List En} {sh' lk' : Int} {col2 : Nat → Nat} {w2 : World} (k : Nat) (v : Value)
    (h2 : LkAt W0 gi gm C E sh lk L n F R col2 w2 cv ev lv) (hv : [cv, ev, .int .i64 sh, .int .i64 lk].set k v = [cv', ev', .int .i64 sh', .int .i64 lk']) (hE : OwnC 48 4 col2 2 w2 ev' E'.length (entV E')) (hC : OwnC 60 1 col2 3 w2 cv' C'.length (wdV C')) :
    LkAt W0 gi gm C' E' sh' lk' L n F R (paint col2 w2.heap.size 1) (w2.setCell ⟨gi, k, none⟩ v) cv' ev' lv := by
  have ht : Touch col2 1 w2 (w2.setCell ⟨gi, k, none⟩ v) := Touch.setCell (a := ⟨gi, k, none⟩) h2.cg v
  refine ⟨low_paint h2.low h2.big, h2.bel.trans (ht.below h2.big fun q hq e => by rw [h2.low q hq] at e; cases e), fun p hp => ?_, hv ▸ rowC_set h2.box k v, fun q => by rw [World.frozen?_setCell]; exact h2.fz q, by rw [paint_lt h2.box.lt]; exact h2.cg, hE.other ht (by decide), hC.other ht (by decide), h2.syms.other ht (by decide), h2.mp.of_block (ht.block _ h2.mp.lt (by rw [h2.cm]; decide)), by rw [paint_lt h2.mp.lt]; exact h2.cm⟩
  obtain ⟨r1, hc⟩ := h2.rows p hp
  exact ⟨rowC_block r1 (ht.block p.1 r1.lt (by rw [hc]; decide)) ht.size, by rw [paint_lt r1.lt]; exact hc⟩
/-- A store of the length or of the number of locks. -/
theorem LkAt.setS (h : LkAt W0 gi gm C E sh lk L n F R col w cv ev lv) (x : Int) : LkRel W0 gi gm C E x lk L n F R lv (w.setCell ⟨gi, 2, none⟩ (.int .i64 x)) := ⟨_, _, _, h.swap1 2 _ h rfl h.ents h.code⟩
theorem LkAt.setL (h : LkAt W0 gi gm C E sh lk L n F R col w cv ev lv) (x : Int) : LkRel W0 gi gm C E sh x L n F R lv (w.setCell ⟨gi, 3, none⟩ (.int .i64 x)) := ⟨_, _, _, h.swap1 3 _ h rfl h.ents h.code⟩
/-- A word more, behind the store into the image. -/
theorem LoAt.word (h : LoAt W0 gi gm C E sh lk L n F R G kv col w cv ev lv) {W2 : World} {x : Int} {v' : Value} (hb : Below w.heap.size w W2) (hg : W2.grownBy w3 cv.ownBlock) (hv : w3.ownsRow 0 60 1 v' (C.length + 1) (wdV C ++ [.int .u32 x])) (hk : v'.ownBlock = cv.ownBlock ∨ ∀ k, v'.ownBlock = some k → W2.heap.size ≤ k) :
    (w3.cell? ⟨gi, 0, none⟩ = some cv ∧ w3.frozen? ⟨gi, 0, none⟩ = false ∧ gi < w3.heap.size) ∧ LoRel W0 gi gm (C ++ [x]) E sh lk L n F R G kv lv (w3.setCell ⟨gi, 0, none⟩ v') := by
  have k := h.k
  obtain ⟨hc, ht⟩ := k.code.push hb hg hv hk
  have hblk := ht.block gi k.box.lt (by rw [k.cg]; decide)
  have h2 : LkAt W0 gi gm C E sh lk L n F R (paint col w.heap.size 3) w3 v' ev lv → True := fun _ => trivial
  have e : (C ++ [x]).length = C.length + 1 := by simp
  rw [← wdV_push, ← e] at hc
  have bx := rowC_block k.box hblk ht.size
  have fz : ∀ q, w3.frozen? ⟨gi, q, none⟩ = false := fun q => (World.frozen?_of_block (a := ⟨gi, q, none⟩) hblk).trans (k.fz q)
  have lw := low_paint (c := 3) k.low k.big
  have bl := k.bel.trans (ht.below k.big fun q hq e => by rw [k.low q hq] at e; cases e)
  have cg : paint col w.heap.size 3 gi = 1 := by rw [paint_lt k.box.lt]; exact k.cg
  have en := k.ents.other ht (by decide)
  have sy := k.syms.other ht (by decide)
  have gg := h.g.other ht (by decide)
  have mp := k.mp.of_block (ht.block _ k.mp.lt (by rw [k.cm]; decide))
  have cm : paint col w.heap.size 3 gm = 5 := by rw [paint_lt k.mp.lt]; exact k.cm
  have rw1 : ∀ p ∈ R, RowC w3 p.1 p.2 ∧ paint col w.heap.size 3 p.1 = 0 := fun p hp => by
    obtain ⟨r1, hc⟩ := k.rows p hp
    exact ⟨rowC_block r1 (ht.block p.1 r1.lt (by rw [hc]; decide)) ht.size, by rw [paint_lt r1.lt]; exact hc⟩
  generalize paint col w.heap.size 3 = col2 at *
  have t2 : Touch col2 1 w3 (w3.setCell ⟨gi, 0, none⟩ v') := Touch.setCell (a := ⟨gi, 0, none⟩) cg v'
  refine ⟨⟨bx.at 0 rfl, fz 0, bx.lt⟩, paint col2 w3.heap.size 1, v', ev, ⟨⟨low_paint lw bl.size, bl.trans (t2.below bl.size fun q hq e => by rw [lw q hq] at e; cases e), fun p hp => ?_, rowC_set bx 0 v', fun q => by rw [World.frozen?_setCell]; exact fz q, by rw [paint_lt bx.lt]; exact cg, en.other t2 (by decide), hc.other t2 (by decide), sy.other t2 (by decide), mp.of_block (t2.block _ mp.lt (by rw [cm]; decide)), by rw [paint_lt mp.lt]; exact cm⟩, gg.other t2 (by decide)⟩⟩
  obtain ⟨r1, hc⟩ := rw1 p hp
  exact ⟨rowC_block r1 (t2.block p.1 r1.lt (by rw [hc]; decide)) t2.size, by rw [paint_lt r1.lt]; exact hc⟩
/-- An entry more, behind the store into the image. -/
theorem LkAt.entry (k : LkAt W0 gi gm C E sh lk L n F R col w cv ev lv) {W2 : World} {x : En} {v' : Value} (hb : Below w.heap.size w W2) (hg : W2.grownBy w3 ev.ownBlock) (hv : w3.ownsRow 0 48 4 v' (E.length + 1) (entV E ++ entC x)) (hk : v'.ownBlock = ev.ownBlock ∨ ∀ k, v'.ownBlock = some k → W2.heap.size ≤ k) :
    (w3.cell? ⟨gi, 1, none⟩ = some ev ∧ w3.frozen? ⟨gi, 1, none⟩ = false ∧ gi < w3.heap.size) ∧ LkRel W0 gi gm C (E ++ [x]) sh lk L n F R lv (w3.setCell ⟨gi, 1, none⟩ v') := by
  obtain ⟨hc, ht⟩ := k.ents.push hb hg hv hk
  have hblk := ht.block gi k.box.lt (by rw [k.cg]; decide)
  have e : (E ++ [x]).length = E.length + 1 := by simp
  rw [← entV_push, ← e] at hc
  have bx := rowC_block k.box hblk ht.size
  have fz : ∀ q, w3.frozen? ⟨gi, q, none⟩ = false := fun q => (World.frozen?_of_block (a := ⟨gi, q, none⟩) hblk).trans (k.fz q)
  have lw := low_paint (c := 2) k.low k.big
  have bl := k.bel.trans (ht.below k.big fun q hq e => by rw [k.low q hq] at e; cases e)
  have cg : paint col w.heap.size 2 gi = 1 := by rw [paint_lt k.box.lt]; exact k.cg
  have en := k.code.other ht (by decide)
  have sy := k.syms.other ht (by decide)
  have mp := k.mp.of_block (ht.block _ k.mp.lt (by rw [k.cm]; decide))
  have cm : paint col w.heap.size 2 gm = 5 := by rw [paint_lt k.mp.lt]; exact k.cm
  have rw1 : ∀ p ∈ R, RowC w3 p.1 p.2 ∧ paint col w.heap.size 2 p.1 = 0 := fun p hp => by
    obtain ⟨r1, hc⟩ := k.rows p hp
    exact ⟨rowC_block r1 (ht.block p.1 r1.lt (by rw [hc]; decide)) ht.size, by rw [paint_lt r1.lt]; exact hc⟩
  generalize paint col w.heap.size 2 = col2 at *
  have t2 : Touch col2 1 w3 (w3.setCell ⟨gi, 1, none⟩ v') := Touch.setCell (a := ⟨gi, 1, none⟩) cg v'
  refine ⟨⟨bx.at 1 rfl, fz 1, bx.lt⟩, paint col2 w3.heap.size 1, cv, v', ⟨low_paint lw bl.size, bl.trans (t2.below bl.size fun q hq e => by rw [lw q hq] at e; cases e), fun p hp => ?_, rowC_set bx 1 v', fun q => by rw [World.frozen?_setCell]; exact fz q, by rw [paint_lt bx.lt]; exact cg, hc.other t2 (by decide), en.other t2 (by decide), sy.other t2 (by decide), mp.of_block (t2.block _ mp.lt (by rw [cm]; decide)), by rw [paint_lt mp.lt]; exact cm⟩⟩
  obtain ⟨r1, hc⟩ := rw1 p hp
  exact ⟨rowC_block r1 (t2.block p.1 r1.lt (by rw [hc]; decide)) t2.size, by rw [paint_lt r1.lt]; exact hc⟩
/-- A symbol more. -/
theorem LkAt.sym (k : LkAt W0 gi gm C E sh lk L n F R col w cv ev lv) {W2 : World} {x : ByteArray × Int × Int} {v' : Value} (hb : Below w.heap.size w W2) (hg : W2.grownBy w3 lv.ownBlock) (hv : w3.ownsRow 0 57 3 v' (L.length + 1) (syV L ++ syC x)) (hk : v'.ownBlock = lv.ownBlock ∨ ∀ k, v'.ownBlock = some k → W2.heap.size ≤ k) :
    ∃ col', LkAt W0 gi gm C E sh lk (L ++ [x]) n F R col' w3 cv ev v' := by
  obtain ⟨hc, ht⟩ := k.syms.push hb hg hv hk
  have hblk := ht.block gi k.box.lt (by rw [k.cg]; decide)
  have e : (L ++ [x]).length = L.length + 1 := by simp
  rw [← syV_push, ← e] at hc
  refine ⟨paint col w.heap.size 4, low_paint k.low k.big, k.bel.trans (ht.below k.big fun q hq e => by rw [k.low q hq] at e; cases e), fun p hp => ?_, rowC_block k.box hblk ht.size, fun q => (World.frozen?_of_block (a := ⟨gi, q, none⟩) hblk).trans (k.fz q), by rw [paint_lt k.box.lt]; exact k.cg, k.ents.other ht (by decide), k.code.other ht (by decide), hc, k.mp.of_block (ht.block _ k.mp.lt (by rw [k.cm]; decide)), by rw [paint_lt k.mp.lt]; exact k.cm⟩
  obtain ⟨r1, hc⟩ := k.rows p hp
  exact ⟨rowC_block r1 (ht.block p.1 r1.lt (by rw [hc]; decide)) ht.size, by rw [paint_lt r1.lt]; exact hc⟩
/-- A name more in the map. -/
theorem LkAt.name (k : LkAt W0 gi gm C E sh lk L n F R col w cv ev lv) {F' : ByteArray → Option Value} {n' : Nat} (hm : MpAt w' gm n' F') (hg : w.grownBy w' (some gm)) : LkRel W0 gi gm C E sh lk L n' F' R lv w' := by
  have ht : Touch col 5 w w' := Touch.of_grown hg (fun q e => by cases e; exact k.cm)
  have hblk := ht.block gi k.box.lt (by rw [k.cg]; decide)
  refine ⟨paint col w.heap.size 5, cv, ev, low_paint k.low k.big, k.bel.trans (ht.below k.big fun q hq e => by rw [k.low q hq] at e; cases e), fun p hp => ?_, rowC_block k.box hblk ht.size, fun q => (World.frozen?_of_block (a := ⟨gi, q, none⟩) hblk).trans (k.fz q), by rw [paint_lt k.box.lt]; exact k.cg, k.ents.other ht (by decide), k.code.other ht (by decide), k.syms.other ht (by decide), hm, by rw [paint_lt k.mp.lt]; exact k.cm⟩
  obtain ⟨r1, hc⟩ := k.rows p hp
  exact ⟨rowC_block r1 (ht.block p.1 r1.lt (by rw [hc]; decide)) ht.size, by rw [paint_lt r1.lt]; exact hc⟩
/-- The open object's code is laid. -/
theorem LkRel.openO (k : LkRel W0 gi gm C E sh lk L n F R lv w) (hb : Below w.heap.size w w') (hv : w'.ownsRow w.heap.size 51 5 kv G.length (codeV G)) : LoRel W0 gi gm C E sh lk L n F R G kv lv w' := by
  obtain ⟨col, cv, ev, k⟩ := k
  have ht : Touch col 6 w w' := Touch.of_below hb
  refine ⟨_, _, _, k.touch ht (by decide) (by decide) (by decide) (by decide) (by decide) (by decide), ⟨?_, fun q hq => paint_ge (hv.lt q hq).1⟩⟩
  refine ⟨hv.1, hv.2.imp id ?_⟩
  rintro ⟨g, cap, cur, h1, _, h3⟩
  exact ⟨g, cap, cur, h1, Nat.zero_le _, h3⟩
/-- An instruction of the open object is changed. -/
theorem LoAt.put {g cap : Nat} (h : LoAt W0 gi gm C E sh lk L n F R G (.slice (some ⟨g, 0, none⟩) G.length cap) col w cv ev lv) {j : Nat} (hj : j < G.length) (x : Int) :
    w.cell? ⟨g, j * 5 + 4, none⟩ = some (.int .i64 (G.getD j default).imm) ∧ w.frozen? ⟨g, j * 5 + 4, none⟩ = false ∧ g < w.heap.size ∧ LoRel W0 gi gm C E sh lk L n F R (G.set j { G.getD j default with imm := x }) (.slice (some ⟨g, 0, none⟩) G.length cap) lv (w.setCell ⟨g, j * 5 + 4, none⟩ (.int .i64 x)) := by
  obtain ⟨g2, cap2, e, hg, hc, hcell, hf⟩ := h.g.cell (j := j * 5 + 4) (by omega)
  cases e
  have h4 := codeV_at G j hj 4 (by decide)
  refine ⟨hcell.trans h4, hf, hg, ?_⟩
  have ht : Touch col 6 w (w.setCell ⟨g, j * 5 + 4, none⟩ (.int .i64 x)) := Touch.setCell (a := ⟨g, j * 5 + 4, none⟩) hc _
  refine ⟨_, cv, ev, h.k.touch ht (by decide) (by decide) (by decide) (by decide) (by decide) (by decide), ?_⟩
  have h1 := h.g.1
  have h2 : (w.setCell ⟨g, j * 5 + 4, none⟩ (.int .i64 x)).ownsRow 0 51 5 (.slice (some ⟨g, 0, none⟩) G.length cap) G.length ((codeV G).set (j * 5 + 4) (.int .i64 x)) := own_setCell5 h1 (by omega) _
  rw [codeV_set G hj x] at h2
  have e : (G.set j { G.getD j default with imm := x }).length = G.length := by simp
  refine ⟨by rw [e]; exact h2, fun q hq => by rw [paint_lt (own0_lt h1 hq)]; exact h.g.2 q hq⟩
end
theorem load_image (w : World) (b : Nat) (v0 v1 v2 v3 : Value) (h0 : w.cell? ⟨b, 0, none⟩ = some v0) (h1 : w.cell? ⟨b, 1, none⟩ = some v1) (h2 : w.cell? ⟨b, 2, none⟩ = some v2) (h3 : w.cell? ⟨b, 3, none⟩ = some v3) :
    (loadVar 30 ⟨b, 0, none⟩).run Tryd.prog w = .ok (.agg #[v0, v1, v2, v3]) w := by
  have hag : ∀ w : World, (isAgg 30).run Tryd.prog w = .ok true w := fun _ => by kernel_rfl
  have hsz : ∀ w : World, (sizeOf 30).run Tryd.prog w = .ok 4 w := fun _ => by kernel_rfl
  have hl : ∀ j v, [v0, v1, v2, v3][j]? = some v → w.cell? ((⟨b, 0, none⟩ : Addr).add j) = some v := by
    intro j v hj
    match j, hj with
    | 0, hj => obtain rfl : v0 = v := by simpa using hj
               exact h0
    | 1, hj => obtain rfl : v1 = v := by simpa using hj
               exact h1
    | 2, hj => obtain rfl : v2 = v := by simpa using hj
               exact h2
    | 3, hj => obtain rfl : v3 = v := by simpa using hj
               exact h3
    | j + 4, hj => simp at hj
  simp only [loadVar, Sem.run_bind, Sem.run_pure, Result.andThen, hag, hsz, if_true]
  have e := run_loadCells_list (P := Tryd.prog) _ ⟨b, 0, none⟩ [v0, v1, v2, v3] hl
  rw [show ([v0, v1, v2, v3] : List Value).length = 4 from rfl] at e
  simp [e, Result.andThen, Sem.run_pure]
theorem run_result_im3 {fn : Func} {p u t : Tmp} (hr : fn.results = #[.cell p 30, .tmp u, .tmp t]) (tmps : Array Value) (w : World) (b : Nat) (v0 v1 v2 v3 r q : Value)
    (hp : tmps.getD p undef = .pointer (some ⟨b, 0, none⟩)) (hu : tmps.getD u undef = r) (ht : tmps.getD t undef = q) (h0 : w.cell? ⟨b, 0, none⟩ = some v0) (h1 : w.cell? ⟨b, 1, none⟩ = some v1) (h2 : w.cell? ⟨b, 2, none⟩ = some v2) (h3 : w.cell? ⟨b, 3, none⟩ = some v3) :
    (results fn tmps).run Tryd.prog w = .ok (.tuple #[.agg #[v0, v1, v2, v3], r, q]) w := by
  have h := load_image w b v0 v1 v2 v3 h0 h1 h2 h3
  have hp' : tmps[p]?.getD undef = .pointer (some ⟨b, 0, none⟩) := by simpa using hp
  have hu' : tmps[u]?.getD undef = r := by simpa using hu
  have ht' : tmps[t]?.getD undef = q := by simpa using ht
  simp only [results, hr]
  simp [Sem.run_bind, Sem.run_pure, Result.andThen, hp', hu', ht', asAddr, h]
end Go.Proofs.YtpachmkklppmjaaDoor
