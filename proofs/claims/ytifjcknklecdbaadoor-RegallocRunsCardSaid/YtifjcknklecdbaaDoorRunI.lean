/- ir.match and slices.Clone over words, by contract. -/
import Derived.Test.YtifjcknklecdbaaDoorRunC
import Derived.Test.YtifjcknklecdbaaDoorLivX
import Derived.LoopTactic
import Derived.Maps.AppendAt
set_option linter.unusedVariables false
set_option linter.unusedSimpArgs false
namespace Go.Proofs.YtifjcknklecdbaaDoor
open Go.RowKit Go.Maps

/-- A slice of slices of words that can be read. -/
def RdR32 (w : World) (v : Value) (ls : List (List Int)) : Prop :=
  ∃ p cap, v = .slice p ls.length cap ∧ ∀ k, k < ls.length → ∃ m off q c, p = some ⟨m, off, none⟩ ∧ m < w.heap.size ∧ w.cell? ⟨m, off + k, none⟩ = some (.slice q (ls.getD k []).length c) ∧ RdI32 w (.slice q (ls.getD k []).length c) (ls.getD k [])
theorem RdR32.below {B : Nat} {w w' : World} {v : Value} {ls : List (List Int)} (h : RdR32 w v ls) (hb : Below B w w') (hB : w.heap.size ≤ B) : RdR32 w' v ls := by
  obtain ⟨p, cap, hp, hc⟩ := h
  refine ⟨p, cap, hp, fun k hk => ?_⟩
  obtain ⟨m, off, q, c, e, hm, hx, hr⟩ := hc k hk
  exact ⟨m, off, q, c, e, Nat.lt_of_lt_of_le hm hb.size, (hb.cell (p := ⟨m, off + k, none⟩) (Nat.lt_of_lt_of_le hm hB)).trans hx, hr.below hb hB⟩
theorem RdR32.shape {w : World} {v : Value} {ls : List (List Int)} (h : RdR32 w v ls) : ∃ p cap, v = .slice p ls.length cap := by
  obtain ⟨p, cap, hp, _⟩ := h
  exact ⟨p, cap, hp⟩
/-- Whether lists have the declared lengths. -/
def lensOk (A : List Arr) (ls : List (List Int)) : Prop := A.length = ls.length ∧ ∀ k, k < A.length → (A.getD k default).2 = ((ls.getD k []).length : Int)

theorem len_any (s : ByteArray) (n : Int) (p : Option Addr) (l c : Nat) (w : World) : Calls Tryd.prog 37 #[.agg #[.string s, .int .i64 n], .slice p l c] w fun e w' => e = .returned (.bool (n == (l : Int))) ∧ Below w.heap.size w w' := by
  go_enter Tryd.func37, Tryd.ntmps37
  go_wp2_with fail
  go_ret
  exact ⟨rfl, bAlloc (Nat.le_refl _) (Below.refl _ _)⟩

def EqPost (A : List Arr) (ls : List (List Int)) (w : World) (e : Ending) (w' : World) : Prop := ∃ r : Bool, e = .returned (.bool r) ∧ (r = true ↔ lensOk A ls) ∧ Below w.heap.size w w'
set_option maxHeartbeats 3200000 in
theorem equalf_any (av lv : Value) (A : List Arr) (ls : List (List Int)) (w : World) (hA : ArsAt w av A) (hL : RdR32 w lv ls) (hAl : A.length ≤ 100000) (hLl : ls.length ≤ 100000) :
    Calls Tryd.prog 36 #[av, lv, .func (.func 37) #[] #[]] w (EqPost A ls w) := by
  obtain ⟨ap, ac, rfl⟩ := hA.shape
  obtain ⟨lp, lc, rfl⟩ := hL.shape
  have HA := Lib.hid hA
  have HL := Lib.hid hL
  clear hA hL
  go_enter Tryd.func36, Tryd.ntmps36
  by_cases hl : A.length = ls.length
  · have hlN : ((A.length : Int) != (ls.length : Int)) = false := by rw [hl]; simp
    have HLN := Lib.hid hl
    clear hl
    go_wp2_with fail
    clear hlN
    go_loopw [17] (fun s17 wx => ∃ k : Nat, s17 = .int .i64 k ∧ k ≤ A.length ∧ Hid (∀ j, j < k → (A.getD j default).2 = ((ls.getD j []).length : Int)) ∧ Hid (Below w.heap.size w wx)) (fun s17 _ => A.length - (intOf s17).toNat)
    case atStart => exact ⟨0, rfl, Nat.zero_le _, fun j hj => absurd hj (Nat.not_lt_zero j), Below.refl _ _⟩
    case round =>
      obtain ⟨k, rfl, hk, HN, HB⟩ := hrel
      obtain ⟨w1, rfl⟩ : ∃ W : World, W = wr := ⟨_, rfl⟩
      by_cases hlt : k < A.length
      · have hltI : (k : Int) < A.length := by omega
        have hll : k < ls.length := by have := HLN.out; omega
        have hllI : (k : Int) < ls.length := by omega
        obtain ⟨_, _, e1, hen⟩ := HA.out.below HB.out (Nat.le_refl _)
        injection e1 with e1 e2 e3
        subst e1
        obtain ⟨m, off, rfl, hm, n0, n1⟩ := hen k hlt
        clear hen e2 e3
        obtain ⟨_, _, e1, hln⟩ := HL.out.below HB.out (Nat.le_refl _)
        injection e1 with e1 e2 e3
        subst e1
        obtain ⟨m2, off2, q2, c2, rfl, hm2, x0, _⟩ := hln k hll
        clear hln e2 e3
        obtain ⟨a, ha⟩ : ∃ a, a = A.getD k default := ⟨_, rfl⟩
        obtain ⟨n, hn⟩ : ∃ n, n = (ls.getD k []).length := ⟨_, rfl⟩
        rw [← ha] at n0 n1
        rw [← hn] at x0
        obtain ⟨s, ln⟩ := a
        simp only at n0 n1
        have HAK := Lib.hid ha
        have HNK := Lib.hid hn
        clear ha hn
        go_wp2_with fail
        refine (len_any s ln q2 n c2 _).mono ?_
        rintro e w2 ⟨rfl, hb2⟩
        have hB2 := Lib.hid (HB.out.trans (((bAlloc (Nat.le_refl _) (Below.refl _ _) : Below w1.heap.size w1 (w1.alloc (.cells #[.string s, .int .i64 ln] 56))).trans (hb2.mono (by simp))).mono HB.out.size))
        clear hb2
        by_cases he : ln = (n : Int)
        · have heb : (ln == (n : Int)) = true := by rw [beq_iff_eq]; exact he
          have HN2 := Lib.hid (show ∀ j, j < k + 1 → (A.getD j default).2 = ((ls.getD j []).length : Int) from fun j hj => by
            by_cases e : j = k
            · subst e
              rw [← HAK.out, ← HNK.out]
              exact he
            · exact HN.out j (by omega))
          clear he
          go_wp2_with fail
          go_roundw
          case rel => exact ⟨k + 1, by go_num, by omega, HN2, hB2⟩
          case measure => simp [intOf]; omega
        · have heb : (ln == (n : Int)) = false := beq_eq_false_iff_ne.2 he
          go_wp2_with fail
          go_ret
          refine ⟨_, rfl, ⟨fun h => (by cases h), fun h => absurd (h.2 k hlt) ?_⟩, hB2.out⟩
          rw [← HAK.out, ← HNK.out]
          exact he
      · have hltI : ¬ (k : Int) < A.length := by omega
        go_wp2_with fail
        go_ret
        exact ⟨_, rfl, ⟨fun _ => ⟨HLN.out, fun j hj => HN.out j (by omega)⟩, fun _ => rfl⟩, HB.out⟩
  · have hlN : ((A.length : Int) != (ls.length : Int)) = true := bne_iff_ne.2 (by omega)
    go_wp2_with fail
    go_ret
    exact ⟨_, rfl, ⟨fun h => (by cases h), fun h => absurd h.1 hl⟩, Below.refl _ _⟩
theorem match_any (av lv : Value) (A : List Arr) (ls : List (List Int)) (w : World) (hA : ArsAt w av A) (hL : RdR32 w lv ls) (hAl : A.length ≤ 100000) (hLl : ls.length ≤ 100000) :
    Calls Tryd.prog 16 #[av, lv] w (EqPost A ls w) := by
  have HE := Lib.hid (equalf_any av lv A ls w hA hL hAl hLl)
  go_enter Tryd.func16, Tryd.ntmps16
  go_wp2_with fail
  refine HE.out.mono ?_
  rintro e w2 ⟨r, rfl, hr⟩
  go_wp2_with fail
  go_ret
  exact ⟨r, rfl, hr⟩
/-- A slice that reads as these cells, m elements of size cells each. -/
def Src (w : World) (size : Nat) (v : Value) (m : Nat) (news : List Value) : Prop :=
  ∃ p c, v = .slice p m c ∧ news.length = m * size ∧ (m = 0 → p = none → c = 0) ∧ ∀ j u, news[j]? = some u → ∃ ad, p = some ad ∧ w.cell? (ad.add j) = some u

theorem Src.of_rd32 {w : World} {a : Addr} {c : Nat} {xs : List Int} (h : RdI32 w (.slice (some a) xs.length c) xs) : Src w 1 (.slice (some a) xs.length c) xs.length (xs.map (.int .i32)) := by
  obtain ⟨p, c', e, hc⟩ := h
  injection e with e1 _ e3
  subst e1 e3
  refine ⟨some a, c, rfl, by simp, fun _ hp => (by cases hp), fun j u hj => ?_⟩
  have hjl : j < xs.length := by
    obtain ⟨h, _⟩ := List.getElem?_eq_some_iff.1 hj
    simpa using h
  obtain ⟨m, off, e, _, hx⟩ := hc j hjl
  refine ⟨_, e, ?_⟩
  have hu : u = .int .i32 (xs.getD j 0) := by
    rw [List.getElem?_map, List.getElem?_eq_getElem hjl] at hj
    simp at hj
    rw [← hj, List.getD_eq_getElem?_getD, List.getElem?_eq_getElem hjl]
    rfl
  have e2 : (⟨m, off, none⟩ : Addr).add j = ⟨m, off + j, none⟩ := by unfold Addr.add; split <;> simp_all
  rw [hu, e2]
  exact hx

section
variable {P : Program} (w : World)
theorem run_append_src (base : Nat) (t ty e : TypeId) (i : TypeInfo) (z : Value) (size bytes : Nat) (ht : P.underlying t = some (.slice e)) (hi : P.info? e = some i) (hz : i.zero = some z)
    (hsize : i.size = size) (hby : i.bytes = bytes) (hzs : z.cells.size = size) (hsz : 0 < size)
    (v : Value) (n : Nat) (xs : List Value) (hown : w.ownsRow base e size v n xs)
    (src : Value) (m : Nat) (news : List Value) (hm : Src w size src m news) (h1 : ∀ u ∈ news, u.oneCell' = true)
    (h63 : n + m ≤ maxLen) (hbytes : (n + m) * bytes ≤ 140737488355328) (hbase : base ≤ w.heap.size) :
    ∃ v' w', (Builtin.append_ #[t, t] ty #[v, src]).run P w = .ok v' w' ∧ w'.ownsRow base e size v' (n + m) (xs ++ news) ∧ w.grownBy w' v.ownBlock ∧ (v'.ownBlock = v.ownBlock ∨ v'.ownBlock = some w.heap.size) := by
  obtain ⟨p, c, rfl, hl, hn0, hcell⟩ := hm
  cases p with
  | none =>
    have hnews : news = [] := by
      cases news with
      | nil => rfl
      | cons u rest =>
        obtain ⟨ad, h, _⟩ := hcell 0 u rfl
        cases h
    subst hnews
    have hm0 : m = 0 := by
      rcases Nat.eq_zero_or_pos m with h | h
      · exact h
      · have := Nat.mul_pos h hsz
        simp at hl
        omega
    subst hm0
    obtain rfl := hn0 rfl rfl
    refine ⟨v, w, ?_, by simpa using hown, ⟨rfl, rfl, rfl, Nat.le_refl _, fun _ _ _ => rfl⟩, .inl rfl⟩
    rcases hown.2 with ⟨rfl, rfl⟩ | ⟨g, cap, cur, rfl, _, _, hnc, _⟩
    · simp [Builtin.append_, run_underlying ht, sizeOf, typeInfo, hi, Builtin.lenOf, Builtin.firstCells]
    · simp [Builtin.append_, run_underlying ht, sizeOf, typeInfo, hi, Builtin.lenOf, Builtin.firstCells, hnc, storeCells]
  | some ad =>
    obtain ⟨v', w', hrun, h2, h3, _, h5⟩ := run_append_own_at (P := P) w base t ty e i z size bytes ht hi hz hsize hby hzs hsz v n xs hown ad m c news hl (fun j u hj => by
      obtain ⟨ad', e', h⟩ := hcell j u hj
      cases e'
      exact h) h1 h63 hbytes hbase
    exact ⟨v', w', hrun, h2, h3, h5⟩

theorem wp_append_src {o : Oper} {a : Act} {K : Act → World → Prop} {Q : Exit → Act → World → Prop} (s x : Operand) (t : TypeId)
    (ho : o.op = .call { callee := .builtin .append, args := #[s, x], argTypes := #[t, t] })
    (base : Nat) (e : TypeId) (i : TypeInfo) (z : Value) (size bytes : Nat) (ht : P.underlying t = some (.slice e)) (hi : P.info? e = some i) (hz : i.zero = some z)
    (hsize : i.size = size) (hby : i.bytes = bytes) (hzs : z.cells.size = size) (hsz : 0 < size)
    (v : Value) (n : Nat) (xs : List Value) (hs : a.eval s = v) (hown : w.ownsRow base e size v n xs)
    (src : Value) (m : Nat) (news : List Value) (hx : a.eval x = src) (hm : Src w size src m news) (h1 : ∀ u ∈ news, u.oneCell' = true)
    (h63 : n + m ≤ maxLen) (hbytes : (n + m) * bytes ≤ 140737488355328) (hbase : base ≤ w.heap.size)
    (h : ∀ p c w', w'.ownsRow base e size (.slice p (n + m) c) (n + m) (xs ++ news) → w.grownBy w' v.ownBlock → ((Value.slice p (n + m) c).ownBlock = v.ownBlock ∨ (Value.slice p (n + m) c).ownBlock = some w.heap.size) → K (a.put o.dst (.slice p (n + m) c)) w') : o.wp P a w K Q := by
  obtain ⟨v', w', hrun, h2, h3, h4⟩ := run_append_src (P := P) w base t o.type e i z size bytes ht hi hz hsize hby hzs hsz v n xs hown src m news hm h1 h63 hbytes hbase
  have hsl : ∃ p c, v' = .slice p (n + m) c := by
    rcases h2.2 with ⟨rfl, hh⟩ | ⟨g, cap, cur, rfl, _⟩
    · exact ⟨none, 0, by rw [hh]⟩
    · exact ⟨_, _, rfl⟩
  obtain ⟨p, c, rfl⟩ := hsl
  unfold Oper.wp execOp
  simp only [ho, resolve, invoke, builtin, Sem.run_bind, Sem.run_pure, Result.andThen_ok, List.map_toArray, List.map_cons, List.map_nil, hs, hx, hrun]
  exact h p c w' h2 h3 h4

theorem wpList_append_src {ops : Array Oper} {rest : List Oper} {o : Oper} {a : Act} {Q : Exit → Act → World → Prop} (hgd : o.guard = none) (s x : Operand) (t : TypeId)
    (ho : o.op = .call { callee := .builtin .append, args := #[s, x], argTypes := #[t, t] })
    (base : Nat) (e : TypeId) (i : TypeInfo) (z : Value) (size bytes : Nat) (ht : P.underlying t = some (.slice e)) (hi : P.info? e = some i) (hz : i.zero = some z)
    (hsize : i.size = size) (hby : i.bytes = bytes) (hzs : z.cells.size = size) (hsz : 0 < size)
    (v : Value) (n : Nat) (xs : List Value) (hs : a.eval s = v) (hown : w.ownsRow base e size v n xs)
    (src : Value) (m : Nat) (news : List Value) (hx : a.eval x = src) (hm : Src w size src m news) (h1 : ∀ u ∈ news, u.oneCell' = true)
    (h63 : n + m ≤ maxLen) (hbytes : (n + m) * bytes ≤ 140737488355328) (hbase : base ≤ w.heap.size)
    (h : ∀ p c w', w'.ownsRow base e size (.slice p (n + m) c) (n + m) (xs ++ news) → w.grownBy w' v.ownBlock → ((Value.slice p (n + m) c).ownBlock = v.ownBlock ∨ (Value.slice p (n + m) c).ownBlock = some w.heap.size) → wpList P ops Q rest (a.put o.dst (.slice p (n + m) c)) w') : wpList P ops Q (o :: rest) a w :=
  wpList_plain hgd fun _ hK => wp_append_src w s x t ho base e i z size bytes ht hi hz hsize hby hzs hsz v n xs hs hown src m news hx hm h1 h63 hbytes hbase fun p c w' h2 h3 h4 => hK _ _ (h p c w' h2 h3 h4)
theorem wpList_append_new {ops : Array Oper} {rest : List Oper} {o : Oper} {a : Act} {Q : Exit → Act → World → Prop} (hgd : o.guard = none) (s x : Operand) (t : TypeId)
    (ho : o.op = .call { callee := .builtin .append, args := #[s, x], argTypes := #[t, t] })
    (base : Nat) (e : TypeId) (i : TypeInfo) (z : Value) (size bytes : Nat) (ht : P.underlying t = some (.slice e)) (hi : P.info? e = some i) (hz : i.zero = some z)
    (hsize : i.size = size) (hby : i.bytes = bytes) (hzs : z.cells.size = size) (hsz : 0 < size)
    (v : Value) (hs : a.eval s = v) (hown : w.ownsRow base e size v 0 [])
    (src : Value) (m : Nat) (news : List Value) (hx : a.eval x = src) (hm : Src w size src m news) (h1 : ∀ u ∈ news, u.oneCell' = true)
    (h63 : m ≤ maxLen) (hbytes : m * bytes ≤ 140737488355328) (hbase : base ≤ w.heap.size)
    (h : ∀ p c w', w'.ownsRow base e size (.slice p m c) m news → w.grownBy w' v.ownBlock → wpList P ops Q rest (a.put o.dst (.slice p m c)) w') : wpList P ops Q (o :: rest) a w := by
  refine wpList_append_src w hgd s x t ho base e i z size bytes ht hi hz hsize hby hzs hsz v 0 [] hs hown src m news hx hm h1 (by omega) (by rw [Nat.zero_add]; exact hbytes) hbase fun p c w' h2 h3 _ => ?_
  rw [Nat.zero_add, List.nil_append] at h2
  rw [Nat.zero_add]
  exact h p c w' h2 h3
end

theorem info32z : (Tryd.prog.info? 21).map (fun i => (i.zero, i.size, i.bytes)) = some (some (.int .i32 0), 1, 4) := by kernel_rfl
def ClPost (xs : List Int) (w : World) (e : Ending) (w' : World) : Prop := ∃ v', e = .returned v' ∧ w'.ownsRow w.heap.size 21 1 v' xs.length (xs.map (.int .i32)) ∧ Below w.heap.size w w'
theorem clone_any (v : Value) (xs : List Int) (w : World) (h : RdI32 w v xs) (hl : xs.length ≤ 35184372087808) : Calls Tryd.prog 17 #[v] w (ClPost xs w) := by
  obtain ⟨p, c, rfl, hc⟩ := h
  obtain ⟨i, hi, hie⟩ := Option.map_eq_some_iff.1 info32z
  simp only [Prod.mk.injEq] at hie
  cases p with
  | none =>
    have h0 : xs = [] := by
      cases xs with
      | nil => rfl
      | cons a l =>
        obtain ⟨m, off, e, _⟩ := hc 0 (by simp)
        cases e
    subst h0
    have heq := fun (w : World) => run_eql_slice_nil (P := Tryd.prog) w 27 21 none 0 c Tryd.underlying27
    go_enter Tryd.func17, Tryd.ntmps17
    go_wp2_with fail
    go_ret
    exact ⟨_, rfl, World.ownsRow_nil _ _ _ _, Below.refl _ _⟩
  | some a =>
    have heq := fun (w : World) => run_eql_slice_nil (P := Tryd.prog) w 27 21 (some a) xs.length c Tryd.underlying27
    have hrd : RdI32 w (.slice (some a) xs.length c) xs := ⟨_, _, rfl, hc⟩
    have HM := Lib.hid (Src.of_rd32 (hrd.below (bAlloc (o := .cells #[] 21) (Nat.le_refl _) (Below.refl w.heap.size w)) (Nat.le_refl _)))
    have HO : Hid ((w.alloc (.cells #[] 21)).ownsRow w.heap.size 21 1 (.slice (some ⟨w.heap.size, 0, none⟩) 0 0) 0 []) := (show World.ownsRow _ _ _ _ _ _ _ from World.ownsRow_made (e := 21) (size := 1) (base := w.heap.size) w #[] 0 (Nat.le_refl _) (Nat.zero_le _) rfl)
    have H1 := Lib.hid (show ∀ u ∈ xs.map (Value.int .i32), u.oneCell' = true from fun u hu => by obtain ⟨y, _, rfl⟩ := List.mem_map.1 hu; rfl)
    clear hc hrd
    go_enter Tryd.func17, Tryd.ntmps17
    go_wp2_with (first | (at_builtin; refine wpList_append_new _ rfl _ _ 27 rfl w.heap.size 21 i (.int .i32 0) 1 4 Tryd.underlying27 hi hie.1 hie.2.1 hie.2.2 rfl (by decide) _ rfl HO.out _ xs.length (xs.map (.int .i32)) rfl HM.out H1.out ?c1 ?c2 ?c3 ?_))
    case c1 => unfold maxLen; omega
    case c2 => omega
    case c3 => simp
    intro p' c' w3 hown hg
    go_wp2_with fail
    go_ret
    exact ⟨_, rfl, hown, Below.grown (bAlloc (Nat.le_refl _) (Below.refl _ _)) hg (by simp) (fun k hk => by simp [Value.ownBlock] at hk; omega)⟩
end Go.Proofs.YtifjcknklecdbaaDoor
