import Derived.Test.YtdfofelchjpioaaDoorMs25
import Derived.Test.YtdfofelchjpioaaDoorCorAe
import Derived.Deep.RegionHeld
import Derived.Deep.RegionHeld3
import Derived.Maps.AppendAt
import Derived.Test.YtdfofelchjpioaaDoorCorM
set_option linter.unusedVariables false
set_option linter.unusedSimpArgs false
namespace Go.Proofs.YtdfofelchjpioaaDoor
open Go.RowKit


theorem setRow_block (w : World) (g : Nat) (cs : Array Value) {k : Nat} (hk : k ≠ g) : (w.setRow g cs).heap[k]? = w.heap[k]? := by
  simp only [World.setRow, Array.getElem?_modify]
  rw [if_neg (fun e => hk e.symm)]
theorem setRow_size (w : World) (g : Nat) (cs : Array Value) : (w.setRow g cs).heap.size = w.heap.size := by simp [World.setRow]
theorem own_lt {w : World} {base : Nat} {e : TypeId} {size : Nat} {v : Value} {n : Nat} {xs : List Value} (h : w.ownsRow base e size v n xs) {g : Nat} (hg : v.ownBlock = some g) : g < w.heap.size := by
  rcases h.2 with ⟨rfl, _⟩ | ⟨g', cap, cur, rfl, hb, hc, _⟩
  · cases hg
  · cases hg
    exact lt_of_block hc
structure Two (w0 : World) (s : St) (bx by' : Nat) (xv yv : Value) (W : World) : Prop where
  bel : Below w0.heap.size w0 W
  x : StAt W bx s xv
  y : StAt W by' s yv
  mx : MemAt W xv s.d
  my : MemAt W yv s.d
  lx : w0.heap.size ≤ bx
  ly : w0.heap.size ≤ by'
  ox : ∀ k, xv.ownBlock = some k → w0.heap.size ≤ k ∧ k < W.heap.size ∧ k ≠ bx ∧ k ≠ by' ∧ yv.ownBlock ≠ some k
  oy : ∀ k, yv.ownBlock = some k → w0.heap.size ≤ k ∧ k < W.heap.size ∧ k ≠ bx ∧ k ≠ by' ∧ xv.ownBlock ≠ some k
  ne : bx ≠ by'
def Src (w : World) (size : Nat) (v : Value) (m : Nat) (news : List Value) : Prop :=
  ∃ p c, v = .slice p m c ∧ news.length = m * size ∧ (m = 0 → p = none → c = 0) ∧ ∀ j u, news[j]? = some u → ∃ ad, p = some ad ∧ w.cell? (ad.add j) = some u

theorem Src.of_rd {w : World} {v : Value} {xs : List Int} (h : RdAt w v xs) (hn : ∀ c, v = .slice none 0 c → c = 0) : Src w 1 v xs.length (xs.map (.int .i32)) := by
  obtain ⟨p, c, rfl, hc⟩ := h
  refine ⟨p, c, rfl, by simp, fun h0 hp => hn c (by rw [hp, h0]), fun j u hj => ?_⟩
  have hjl : j < xs.length := by
    obtain ⟨h, _⟩ := List.getElem?_eq_some_iff.1 hj
    simpa using h
  obtain ⟨m, off, e, _, hx⟩ := hc j hjl
  refine ⟨_, e, ?_⟩
  have hu : u = .int .i32 (xs.getD j 0) := by
    rw [List.getElem?_map, List.getElem?_eq_getElem hjl] at hj
    simp at hj
    rw [← hj, List.getD_eq_getElem?_getD, List.getElem?_eq_getElem hjl]
    rfl
  have e2 : (⟨m, off, none⟩ : Addr).add j = ⟨m, off + j, none⟩ := by unfold Addr.add; split <;> simp_all
  rw [hu, e2]
  exact hx

section
variable {P : Program} (w : World)
theorem run_append_src (base : Nat) (t ty e : TypeId) (i : TypeInfo) (z : Value) (size bytes : Nat) (ht : P.underlying t = some (.slice e)) (hi : P.info? e = some i) (hz : i.zero = some z)
    (hsize : i.size = size) (hby : i.bytes = bytes) (hzs : z.cells.size = size) (hsz : 0 < size)
    (v : Value) (n : Nat) (xs : List Value) (hown : w.ownsRow base e size v n xs)
    (src : Value) (m : Nat) (news : List Value) (hm : Src w size src m news) (h1 : ∀ u ∈ news, u.oneCell' = true)
    (h63 : n + m ≤ maxLen) (hbytes : (n + m) * bytes ≤ 140737488355328) (hbase : base ≤ w.heap.size) :
    ∃ v' w', (Builtin.append_ #[t, t] ty #[v, src]).run P w = .ok v' w' ∧ w'.ownsRow base e size v' (n + m) (xs ++ news) ∧ w.grownBy w' v.ownBlock ∧ (v'.ownBlock = v.ownBlock ∨ v'.ownBlock = some w.heap.size) := by
  obtain ⟨p, c, rfl, hl, hn0, hcell⟩ := hm
  cases p with
  | none =>
    have hnews : news = [] := by
      cases news with
      | nil => rfl
      | cons u rest =>
        obtain ⟨ad, h, _⟩ := hcell 0 u rfl
        cases h
    subst hnews
    have hm0 : m = 0 := by
      rcases Nat.eq_zero_or_pos m with h | h
      · exact h
      · have := Nat.mul_pos h hsz
        simp at hl
        omega
    subst hm0
    obtain rfl := hn0 rfl rfl
    refine ⟨v, w, ?_, by simpa using hown, ⟨rfl, rfl, rfl, Nat.le_refl _, fun _ _ _ => rfl⟩, .inl rfl⟩
    rcases hown.2 with ⟨rfl, rfl⟩ | ⟨g, cap, cur, rfl, _, _, hnc, _⟩
    · simp [Builtin.append_, run_underlying ht, sizeOf, typeInfo, hi, Builtin.lenOf, Builtin.firstCells]
    · simp [Builtin.append_, run_underlying ht, sizeOf, typeInfo, hi, Builtin.lenOf, Builtin.firstCells, hnc, storeCells]
  | some ad =>
    obtain ⟨v', w', hrun, h2, h3, _, h5⟩ := run_append_own_at (P := P) w base t ty e i z size bytes ht hi hz hsize hby hzs hsz v n xs hown ad m c news hl (fun j u hj => by
      obtain ⟨ad', e', h⟩ := hcell j u hj
      cases e'
      exact h) h1 h63 hbytes hbase
    exact ⟨v', w', hrun, h2, h3, h5⟩

theorem wp_append_src {o : Oper} {a : Act} {K : Act → World → Prop} {Q : Exit → Act → World → Prop} (s x : Operand) (t : TypeId)
    (ho : o.op = .call { callee := .builtin .append, args := #[s, x], argTypes := #[t, t] })
    (base : Nat) (e : TypeId) (i : TypeInfo) (z : Value) (size bytes : Nat) (ht : P.underlying t = some (.slice e)) (hi : P.info? e = some i) (hz : i.zero = some z)
    (hsize : i.size = size) (hby : i.bytes = bytes) (hzs : z.cells.size = size) (hsz : 0 < size)
    (v : Value) (n : Nat) (xs : List Value) (hs : a.eval s = v) (hown : w.ownsRow base e size v n xs)
    (src : Value) (m : Nat) (news : List Value) (hx : a.eval x = src) (hm : Src w size src m news) (h1 : ∀ u ∈ news, u.oneCell' = true)
    (h63 : n + m ≤ maxLen) (hbytes : (n + m) * bytes ≤ 140737488355328) (hbase : base ≤ w.heap.size)
    (h : ∀ p c w', w'.ownsRow base e size (.slice p (n + m) c) (n + m) (xs ++ news) → w.grownBy w' v.ownBlock → ((Value.slice p (n + m) c).ownBlock = v.ownBlock ∨ (Value.slice p (n + m) c).ownBlock = some w.heap.size) → K (a.put o.dst (.slice p (n + m) c)) w') : o.wp P a w K Q := by
  obtain ⟨v', w', hrun, h2, h3, h4⟩ := run_append_src (P := P) w base t o.type e i z size bytes ht hi hz hsize hby hzs hsz v n xs hown src m news hm h1 h63 hbytes hbase
  have hsl : ∃ p c, v' = .slice p (n + m) c := by
    rcases h2.2 with ⟨rfl, hh⟩ | ⟨g, cap, cur, rfl, _⟩
    · exact ⟨none, 0, by rw [hh]⟩
    · exact ⟨_, _, rfl⟩
  obtain ⟨p, c, rfl⟩ := hsl
  unfold Oper.wp execOp
  simp only [ho, resolve, invoke, builtin, Sem.run_bind, Sem.run_pure, Result.andThen_ok, List.map_toArray, List.map_cons, List.map_nil, hs, hx, hrun]
  exact h p c w' h2 h3 h4

theorem wpList_append_src {ops : Array Oper} {rest : List Oper} {o : Oper} {a : Act} {Q : Exit → Act → World → Prop} (hgd : o.guard = none) (s x : Operand) (t : TypeId)
    (ho : o.op = .call { callee := .builtin .append, args := #[s, x], argTypes := #[t, t] })
    (base : Nat) (e : TypeId) (i : TypeInfo) (z : Value) (size bytes : Nat) (ht : P.underlying t = some (.slice e)) (hi : P.info? e = some i) (hz : i.zero = some z)
    (hsize : i.size = size) (hby : i.bytes = bytes) (hzs : z.cells.size = size) (hsz : 0 < size)
    (v : Value) (n : Nat) (xs : List Value) (hs : a.eval s = v) (hown : w.ownsRow base e size v n xs)
    (src : Value) (m : Nat) (news : List Value) (hx : a.eval x = src) (hm : Src w size src m news) (h1 : ∀ u ∈ news, u.oneCell' = true)
    (h63 : n + m ≤ maxLen) (hbytes : (n + m) * bytes ≤ 140737488355328) (hbase : base ≤ w.heap.size)
    (h : ∀ p c w', w'.ownsRow base e size (.slice p (n + m) c) (n + m) (xs ++ news) → w.grownBy w' v.ownBlock → ((Value.slice p (n + m) c).ownBlock = v.ownBlock ∨ (Value.slice p (n + m) c).ownBlock = some w.heap.size) → wpList P ops Q rest (a.put o.dst (.slice p (n + m) c)) w') : wpList P ops Q (o :: rest) a w :=
  wpList_plain hgd fun _ hK => wp_append_src w s x t ho base e i z size bytes ht hi hz hsize hby hzs hsz v n xs hs hown src m news hx hm h1 h63 hbytes hbase fun p c w' h2 h3 h4 => hK _ _ (h p c w' h2 h3 h4)
theorem wpList_append_new {ops : Array Oper} {rest : List Oper} {o : Oper} {a : Act} {Q : Exit → Act → World → Prop} (hgd : o.guard = none) (s x : Operand) (t : TypeId)
    (ho : o.op = .call { callee := .builtin .append, args := #[s, x], argTypes := #[t, t] })
    (base : Nat) (e : TypeId) (i : TypeInfo) (z : Value) (size bytes : Nat) (ht : P.underlying t = some (.slice e)) (hi : P.info? e = some i) (hz : i.zero = some z)
    (hsize : i.size = size) (hby : i.bytes = bytes) (hzs : z.cells.size = size) (hsz : 0 < size)
    (v : Value) (hs : a.eval s = v) (hown : w.ownsRow base e size v 0 [])
    (src : Value) (m : Nat) (news : List Value) (hx : a.eval x = src) (hm : Src w size src m news) (h1 : ∀ u ∈ news, u.oneCell' = true)
    (h63 : m ≤ maxLen) (hbytes : m * bytes ≤ 140737488355328) (hbase : base ≤ w.heap.size)
    (h : ∀ p c w', w'.ownsRow base e size (.slice p m c) m news → w.grownBy w' v.ownBlock → wpList P ops Q rest (a.put o.dst (.slice p m c)) w') : wpList P ops Q (o :: rest) a w := by
  refine wpList_append_src w hgd s x t ho base e i z size bytes ht hi hz hsize hby hzs hsz v 0 [] hs hown src m news hx hm h1 (by omega) (by rw [Nat.zero_add]; exact hbytes) hbase fun p c w' h2 h3 _ => ?_
  rw [Nat.zero_add, List.nil_append] at h2
  rw [Nat.zero_add]
  exact h p c w' h2 h3
end

structure Side (B : Nat) (W : World) (S : Nat) (dv mv : Value) (s : St) (mem : List Int) : Prop where
  st : StAt W S s dv
  d : MemAt W dv s.d
  m : MemAt W mv mem
  own : ∀ k, OwnF S dv mv k → B ≤ k ∧ k < W.heap.size
  dS : dv.ownBlock ≠ some S
  mS : mv.ownBlock ≠ some S
  dm : ∀ k, dv.ownBlock = some k → mv.ownBlock ≠ some k
  r32 : ∀ j, W32 (s.r.getD j 0)
  d32 : ∀ j, W32 (s.d.getD j 0)
  m32 : ∀ j, W32 (mem.getD j 0)

theorem Side.keep {B : Nat} {W W' : World} {S : Nat} {dv mv : Value} {s : St} {mem : List Int} (h : Side B W S dv mv s mem) (hs : W.heap.size ≤ W'.heap.size) (hb : ∀ k, OwnF S dv mv k → k < W.heap.size → W'.heap[k]? = W.heap[k]?) : Side B W' S dv mv s mem :=
  ⟨⟨h.st.1, h.st.2.block (hb S (.inl rfl) h.st.lt)⟩, h.d.block fun k hk => hb k (.inr (.inl hk)) (h.own k (.inr (.inl hk))).2, h.m.block fun k hk => hb k (.inr (.inr hk)) (h.own k (.inr (.inr hk))).2,
    fun k hk => ⟨(h.own k hk).1, Nat.lt_of_lt_of_le (h.own k hk).2 hs⟩, h.dS, h.mS, h.dm, h.r32, h.d32, h.m32⟩
theorem Side.below {B : Nat} {W W' : World} {S : Nat} {dv mv : Value} {s : St} {mem : List Int} (h : Side B W S dv mv s mem) (hb : Below W.heap.size W W') : Side B W' S dv mv s mem :=
  h.keep hb.size fun k _ hk => hb.block k hk
theorem Side.kept {B : Nat} {W W' : World} {S : Nat} {dv mv : Value} {s : St} {mem : List Int} (h : Side B W S dv mv s mem) {F : Nat → Prop} (hk : Kept F W W') (hF : ∀ k, F k → ¬ OwnF S dv mv k) : Side B W' S dv mv s mem :=
  h.keep hk.size fun k hO hlt => hk.block k hlt fun f => hF k f hO

theorem Tab.kept {F : Nat → Prop} {B : Nat} {w w' : World} (hT : Tab w) (h : Kept F w w') (hB : B ≤ w.heap.size) (hF : ∀ k, F k → B ≤ k) (h0 : 0 < B) : Tab w' := hT.below (h.below hB hF) h0

end Go.Proofs.YtdfofelchjpioaaDoor

set_option linter.unusedVariables false
set_option linter.unusedSimpArgs false
namespace Go.Proofs.YtdfofelchjpioaaDoor
open Go.RowKit

theorem getD_set_ne {l : List Int} {k j : Nat} {v : Int} (h : k ≠ j) : (l.set k v).getD j 0 = l.getD j 0 := by
  simp only [List.getD_eq_getElem?_getD]
  rw [List.getElem?_set_ne h]
structure Wrote (n a : Nat) (s s' : St) (mem mem' : List Int) (ad : Int) : Prop where
  regs : ∀ r, s'.r.getD r 0 ≠ s.r.getD r 0 → fwr n = true ∧ a ≠ 0 ∧ r = a
  len : s'.r.length = s.r.length
  mlen : mem'.length = mem.length
  dlen : s'.d.length = s.d.length
  memc : mem' = mem ∨ (n = 21 ∧ s'.d = s.d ∧ ∃ k : Nat, ad = k ∧ k < mem.length ∧ ∃ v, mem' = mem.set k v)
  datac : s'.d = s.d ∨ (n = 19 ∧ mem' = mem ∧ ∃ k : Nat, ad = k ∧ k < s.d.length ∧ ∃ v, s'.d = s.d.set k v)
theorem Wrote.go {n a : Nat} {s : St} {mem : List Int} {ad : Int} (p : Int) (l : Bool) (h : Int) : Wrote n a s { s with pc := p, halted := l, held := h } mem mem ad :=
  ⟨fun r hr => absurd rfl hr, rfl, rfl, rfl, .inl rfl, .inl rfl⟩
theorem Wrote.set {n a : Nat} {s : St} {mem : List Int} {ad : Int} (p v : Int) (hw : fwr n = true) : Wrote n a s { s with pc := p, r := if a = 0 then s.r else s.r.set a v } mem mem ad := by
  refine ⟨fun r hr => ?_, ?_, rfl, rfl, .inl rfl, .inl rfl⟩
  · by_cases ha : a = 0
    · exact absurd (by simp [ha]) hr
    · refine ⟨hw, ha, ?_⟩
      by_cases hra : a = r
      · exact hra.symm
      · refine absurd ?_ hr
        show (if a = 0 then s.r else s.r.set a v).getD r 0 = _
        rw [if_neg ha, getD_set_ne hra]
  · show (if a = 0 then s.r else s.r.set a v).length = _
    split <;> simp
theorem Wrote.st {a : Nat} {s : St} {mem : List Int} {x v : Int} (p : Int) (h0 : 0 ≤ x) (h1 : x < s.d.length) : Wrote 19 a s { s with pc := p, d := s.d.set x.toNat v } mem mem x :=
  ⟨fun r hr => absurd rfl hr, rfl, rfl, by simp, .inl rfl, .inr ⟨rfl, rfl, x.toNat, by omega, by omega, v, rfl⟩⟩
theorem Wrote.sts {a : Nat} {s : St} {mem : List Int} {x v : Int} (p : Int) (h0 : 0 ≤ x) (h1 : x < mem.length) : Wrote 21 a s { s with pc := p } mem (mem.set x.toNat v) x :=
  ⟨fun r hr => absurd rfl hr, rfl, by simp, rfl, .inr ⟨rfl, rfl, x.toNat, by omega, by omega, v, rfl⟩, .inl rfl⟩

theorem ite_oks {α β : Type} {p : Prop} [Decidable p] {A B : Except α β} {o : Except α β} {Q : Prop} (ha : p → A = o → Q) (hb : ¬ p → B = o → Q) : (if p then A else B) = o → Q := by
  split
  · exact ha ‹_›
  · exact hb ‹_›
theorem err_no {x : Int} {y : St × List Int × Bool × Int × Int} (h : (Except.error x : Except Int (St × List Int × Bool × Int × Int)) = .ok y) : False := by cases h
theorem ok_all {s s' : St} {m m' : List Int} {a a' : Bool} {b b' c c' : Int} (h : (Except.ok (s, m, a, b, c) : Except Int (St × List Int × Bool × Int × Int)) = .ok (s', m', a', b', c')) : s = s' ∧ m = m' ∧ b = b' := by
  simp only [Except.ok.injEq, Prod.mk.injEq] at h
  exact ⟨h.1, h.2.1, h.2.2.2.1⟩
set_option maxHeartbeats 4000000 in
theorem stepI_wrote {lk : Int} {n a b c : Nat} {i : Int} {s : St} {mem : List Int} {inp : Int} {s' : St} {mem' : List Int} {tk : Bool} {ad vl : Int} : n < 30 → stepI lk n a b c i s mem inp = .ok (s', mem', tk, ad, vl) → Wrote n a s s' mem mem' ad := by
  intro hn
  have hw : ∀ m, 2 ≤ m → m ≤ 18 ∨ m = 20 ∨ m = 26 → fwr m = true := by
    intro m h1 h2
    obtain rfl | rfl | rfl | rfl | rfl | rfl | rfl | rfl | rfl | rfl | rfl | rfl | rfl | rfl | rfl | rfl | rfl | rfl | rfl : m = 2 ∨ m = 3 ∨ m = 4 ∨ m = 5 ∨ m = 6 ∨ m = 7 ∨ m = 8 ∨ m = 9 ∨ m = 10 ∨ m = 11 ∨ m = 12 ∨ m = 13 ∨ m = 14 ∨ m = 15 ∨ m = 16 ∨ m = 17 ∨ m = 18 ∨ m = 20 ∨ m = 26 := by omega
    all_goals rfl
  unfold stepI
  simp only
  repeat' (with_reducible refine ite_oks (fun _ => ?_) (fun _ => ?_))
  all_goals intro h
  all_goals first
    | (with_reducible exact (err_no h).elim)
    | (obtain ⟨h1, h2, h3⟩ := ok_all h; subst h1 h2 h3; with_reducible exact Wrote.go _ _ _)
    | (obtain ⟨h1, h2, h3⟩ := ok_all h; subst h1 h2 h3; with_reducible exact Wrote.set _ _ (hw n (by omega) (by omega)))
    | (obtain ⟨h1, h2, h3⟩ := ok_all h; subst h1 h2 h3; rename_i hc hm; subst hm; exact Wrote.st _ hc.1 hc.2)
    | (obtain ⟨h1, h2, h3⟩ := ok_all h; subst h1 h2 h3; rename_i hm hc; subst hm; exact Wrote.st _ hc.1 hc.2)
    | (obtain ⟨h1, h2, h3⟩ := ok_all h; subst h1 h2 h3; rename_i hm hc; subst hm; exact Wrote.sts _ hc.1 hc.2)

end Go.Proofs.YtdfofelchjpioaaDoor

