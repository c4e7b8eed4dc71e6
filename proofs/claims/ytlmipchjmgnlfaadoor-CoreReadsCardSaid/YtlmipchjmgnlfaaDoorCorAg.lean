/- Append of any row that can be read; a state with its memories, set apart from all else; runs of it. -/
import Derived.Test.YtlmipchjmgnlfaaDoorCorBd
import Derived.Test.YtlmipchjmgnlfaaDoorCorAe
import Derived.Deep.RegionHeld
import Derived.Deep.RegionHeld3
import Derived.Maps.AppendAt
set_option linter.unusedVariables false
set_option linter.unusedSimpArgs false
namespace Go.Proofs.YtlmipchjmgnlfaaDoor
open Go.RowKit


theorem setRow_block (w : World) (g : Nat) (cs : Array Value) {k : Nat} (hk : k ≠ g) : (w.setRow g cs).heap[k]? = w.heap[k]? := by
  simp only [World.setRow, Array.getElem?_modify]
  rw [if_neg (fun e => hk e.symm)]
theorem setRow_size (w : World) (g : Nat) (cs : Array Value) : (w.setRow g cs).heap.size = w.heap.size := by simp [World.setRow]
theorem own_lt {w : World} {base : Nat} {e : TypeId} {size : Nat} {v : Value} {n : Nat} {xs : List Value} (h : w.ownsRow base e size v n xs) {g : Nat} (hg : v.ownBlock = some g) : g < w.heap.size := by
  rcases h.2 with ⟨rfl, _⟩ | ⟨g', cap, cur, rfl, hb, hc, _⟩
  · cases hg
  · cases hg
    exact lt_of_block hc
/-- What two copies leave. -/
structure Two (w0 : World) (s : St) (bx by' : Nat) (xv yv : Value) (W : World) : Prop where
  bel : Below w0.heap.size w0 W
  x : StAt W bx s xv
  y : StAt W by' s yv
  mx : MemAt W xv s.d
  my : MemAt W yv s.d
  lx : w0.heap.size ≤ bx
  ly : w0.heap.size ≤ by'
  ox : ∀ k, xv.ownBlock = some k → w0.heap.size ≤ k ∧ k < W.heap.size ∧ k ≠ bx ∧ k ≠ by' ∧ yv.ownBlock ≠ some k
  oy : ∀ k, yv.ownBlock = some k → w0.heap.size ≤ k ∧ k < W.heap.size ∧ k ≠ bx ∧ k ≠ by' ∧ xv.ownBlock ≠ some k
  ne : bx ≠ by'
def put6 (a : Act) (i1 i2 i3 i4 ix iy : Tmp) (v x y px py : Value) : Act := (((((((a.put (some i1) v).put (some i2) v).put (some i3) x).put (some i4) y).put (some ix) px).put (some iy) py))
theorem two_meet {P : Program} {id : Nat} {ops : Array Oper} {b : Bool} {Q : Exit → Act → World → Prop} {a : Act} {w : World} (w0 : World) (s : St) (dv : Value) (i1 i2 i3 i4 ix iy : Tmp)
    (h1 : (Code.region id ops b).wp P (fun e a' w' => e = .normal ∧ ∃ bx by' px cx py cy, a' = put6 a i1 i2 i3 i4 ix iy (stV s dv) (stV s (.slice px s.d.length cx)) (stV s (.slice py s.d.length cy)) (.pointer (some ⟨bx, 0, none⟩)) (.pointer (some ⟨by', 0, none⟩)) ∧ Two w0 s bx by' (.slice px s.d.length cx) (.slice py s.d.length cy) w') a w)
    (h2 : ∀ bx by' px cx py cy w', Two w0 s bx by' (.slice px s.d.length cx) (.slice py s.d.length cy) w' → Q .normal (put6 a i1 i2 i3 i4 ix iy (stV s dv) (stV s (.slice px s.d.length cx)) (stV s (.slice py s.d.length cy)) (.pointer (some ⟨bx, 0, none⟩)) (.pointer (some ⟨by', 0, none⟩))) w') : (Code.region id ops b).wp P Q a w :=
  Code.wp_mono (fun e a' w' ⟨he, bx, by', px, cx, py, cy, ha, ht⟩ => by subst he; subst ha; exact h2 bx by' px cx py cy w' ht) h1

/-- A slice that reads as these cells, m elements of size cells each. -/
def Src (w : World) (size : Nat) (v : Value) (m : Nat) (news : List Value) : Prop :=
  ∃ p c, v = .slice p m c ∧ news.length = m * size ∧ (m = 0 → p = none → c = 0) ∧ ∀ j u, news[j]? = some u → ∃ ad, p = some ad ∧ w.cell? (ad.add j) = some u

theorem Src.of_own {w : World} {base : Nat} {e : TypeId} {size : Nat} {v : Value} {n : Nat} {xs : List Value} (h : w.ownsRow base e size v n xs) : Src w size v n xs := by
  rcases h.2 with ⟨rfl, rfl⟩ | ⟨g, cap, cur, rfl, _⟩
  · have hx : xs = [] := List.eq_nil_of_length_eq_zero (by simpa using h.1)
    subst hx
    exact ⟨none, 0, rfl, h.1, fun _ _ => rfl, fun j u hj => by simp at hj⟩
  · exact ⟨_, cap, rfl, h.1, fun _ hp => (by cases hp), fun j u hj => ⟨_, rfl, h.cells (g := g) rfl j u hj⟩⟩
theorem Src.of_rd {w : World} {v : Value} {xs : List Int} (h : RdAt w v xs) (hn : ∀ c, v = .slice none 0 c → c = 0) : Src w 1 v xs.length (xs.map (.int .i32)) := by
  obtain ⟨p, c, rfl, hc⟩ := h
  refine ⟨p, c, rfl, by simp, fun h0 hp => hn c (by rw [hp, h0]), fun j u hj => ?_⟩
  have hjl : j < xs.length := by
    obtain ⟨h, _⟩ := List.getElem?_eq_some_iff.1 hj
    simpa using h
  obtain ⟨m, off, e, _, hx⟩ := hc j hjl
  refine ⟨_, e, ?_⟩
  have hu : u = .int .i32 (xs.getD j 0) := by
    rw [List.getElem?_map, List.getElem?_eq_getElem hjl] at hj
    simp at hj
    rw [← hj, List.getD_eq_getElem?_getD, List.getElem?_eq_getElem hjl]
    rfl
  have e2 : (⟨m, off, none⟩ : Addr).add j = ⟨m, off + j, none⟩ := by unfold Addr.add; split <;> simp_all
  rw [hu, e2]
  exact hx

section
variable {P : Program} (w : World)
theorem run_append_src (base : Nat) (t ty e : TypeId) (i : TypeInfo) (z : Value) (size bytes : Nat) (ht : P.underlying t = some (.slice e)) (hi : P.info? e = some i) (hz : i.zero = some z)
    (hsize : i.size = size) (hby : i.bytes = bytes) (hzs : z.cells.size = size) (hsz : 0 < size)
    (v : Value) (n : Nat) (xs : List Value) (hown : w.ownsRow base e size v n xs)
    (src : Value) (m : Nat) (news : List Value) (hm : Src w size src m news) (h1 : ∀ u ∈ news, u.oneCell' = true)
    (h63 : n + m ≤ maxLen) (hbytes : (n + m) * bytes ≤ 140737488355328) (hbase : base ≤ w.heap.size) :
    ∃ v' w', (Builtin.append_ #[t, t] ty #[v, src]).run P w = .ok v' w' ∧ w'.ownsRow base e size v' (n + m) (xs ++ news) ∧ w.grownBy w' v.ownBlock ∧ (v'.ownBlock = v.ownBlock ∨ v'.ownBlock = some w.heap.size) := by
  obtain ⟨p, c, rfl, hl, hn0, hcell⟩ := hm
  cases p with
  | none =>
    have hnews : news = [] := by
      cases news with
      | nil => rfl
      | cons u rest =>
        obtain ⟨ad, h, _⟩ := hcell 0 u rfl
        cases h
    subst hnews
    have hm0 : m = 0 := by
      rcases Nat.eq_zero_or_pos m with h | h
      · exact h
      · have := Nat.mul_pos h hsz
        simp at hl
        omega
    subst hm0
    obtain rfl := hn0 rfl rfl
    refine ⟨v, w, ?_, by simpa using hown, ⟨rfl, rfl, rfl, Nat.le_refl _, fun _ _ _ => rfl⟩, .inl rfl⟩
    rcases hown.2 with ⟨rfl, rfl⟩ | ⟨g, cap, cur, rfl, _, _, hnc, _⟩
    · simp [Builtin.append_, run_underlying ht, sizeOf, typeInfo, hi, Builtin.lenOf, Builtin.firstCells]
    · simp [Builtin.append_, run_underlying ht, sizeOf, typeInfo, hi, Builtin.lenOf, Builtin.firstCells, hnc, storeCells]
  | some ad =>
    obtain ⟨v', w', hrun, h2, h3, _, h5⟩ := run_append_own_at (P := P) w base t ty e i z size bytes ht hi hz hsize hby hzs hsz v n xs hown ad m c news hl (fun j u hj => by
      obtain ⟨ad', e', h⟩ := hcell j u hj
      cases e'
      exact h) h1 h63 hbytes hbase
    exact ⟨v', w', hrun, h2, h3, h5⟩

theorem wp_append_src {o : Oper} {a : Act} {K : Act → World → Prop} {Q : Exit → Act → World → Prop} (s x : Operand) (t : TypeId)
    (ho : o.op = .call { callee := .builtin .append, args := #[s, x], argTypes := #[t, t] })
    (base : Nat) (e : TypeId) (i : TypeInfo) (z : Value) (size bytes : Nat) (ht : P.underlying t = some (.slice e)) (hi : P.info? e = some i) (hz : i.zero = some z)
    (hsize : i.size = size) (hby : i.bytes = bytes) (hzs : z.cells.size = size) (hsz : 0 < size)
    (v : Value) (n : Nat) (xs : List Value) (hs : a.eval s = v) (hown : w.ownsRow base e size v n xs)
    (src : Value) (m : Nat) (news : List Value) (hx : a.eval x = src) (hm : Src w size src m news) (h1 : ∀ u ∈ news, u.oneCell' = true)
    (h63 : n + m ≤ maxLen) (hbytes : (n + m) * bytes ≤ 140737488355328) (hbase : base ≤ w.heap.size)
    (h : ∀ p c w', w'.ownsRow base e size (.slice p (n + m) c) (n + m) (xs ++ news) → w.grownBy w' v.ownBlock → ((Value.slice p (n + m) c).ownBlock = v.ownBlock ∨ (Value.slice p (n + m) c).ownBlock = some w.heap.size) → K (a.put o.dst (.slice p (n + m) c)) w') : o.wp P a w K Q := by
  obtain ⟨v', w', hrun, h2, h3, h4⟩ := run_append_src (P := P) w base t o.type e i z size bytes ht hi hz hsize hby hzs hsz v n xs hown src m news hm h1 h63 hbytes hbase
  have hsl : ∃ p c, v' = .slice p (n + m) c := by
    rcases h2.2 with ⟨rfl, hh⟩ | ⟨g, cap, cur, rfl, _⟩
    · exact ⟨none, 0, by rw [hh]⟩
    · exact ⟨_, _, rfl⟩
  obtain ⟨p, c, rfl⟩ := hsl
  unfold Oper.wp execOp
  simp only [ho, resolve, invoke, builtin, Sem.run_bind, Sem.run_pure, Result.andThen_ok, List.map_toArray, List.map_cons, List.map_nil, hs, hx, hrun]
  exact h p c w' h2 h3 h4

theorem wpList_append_src {ops : Array Oper} {rest : List Oper} {o : Oper} {a : Act} {Q : Exit → Act → World → Prop} (hgd : o.guard = none) (s x : Operand) (t : TypeId)
    (ho : o.op = .call { callee := .builtin .append, args := #[s, x], argTypes := #[t, t] })
    (base : Nat) (e : TypeId) (i : TypeInfo) (z : Value) (size bytes : Nat) (ht : P.underlying t = some (.slice e)) (hi : P.info? e = some i) (hz : i.zero = some z)
    (hsize : i.size = size) (hby : i.bytes = bytes) (hzs : z.cells.size = size) (hsz : 0 < size)
    (v : Value) (n : Nat) (xs : List Value) (hs : a.eval s = v) (hown : w.ownsRow base e size v n xs)
    (src : Value) (m : Nat) (news : List Value) (hx : a.eval x = src) (hm : Src w size src m news) (h1 : ∀ u ∈ news, u.oneCell' = true)
    (h63 : n + m ≤ maxLen) (hbytes : (n + m) * bytes ≤ 140737488355328) (hbase : base ≤ w.heap.size)
    (h : ∀ p c w', w'.ownsRow base e size (.slice p (n + m) c) (n + m) (xs ++ news) → w.grownBy w' v.ownBlock → ((Value.slice p (n + m) c).ownBlock = v.ownBlock ∨ (Value.slice p (n + m) c).ownBlock = some w.heap.size) → wpList P ops Q rest (a.put o.dst (.slice p (n + m) c)) w') : wpList P ops Q (o :: rest) a w :=
  wpList_plain hgd fun _ hK => wp_append_src w s x t ho base e i z size bytes ht hi hz hsize hby hzs hsz v n xs hs hown src m news hx hm h1 h63 hbytes hbase fun p c w' h2 h3 h4 => hK _ _ (h p c w' h2 h3 h4)
theorem wpList_append_new {ops : Array Oper} {rest : List Oper} {o : Oper} {a : Act} {Q : Exit → Act → World → Prop} (hgd : o.guard = none) (s x : Operand) (t : TypeId)
    (ho : o.op = .call { callee := .builtin .append, args := #[s, x], argTypes := #[t, t] })
    (base : Nat) (e : TypeId) (i : TypeInfo) (z : Value) (size bytes : Nat) (ht : P.underlying t = some (.slice e)) (hi : P.info? e = some i) (hz : i.zero = some z)
    (hsize : i.size = size) (hby : i.bytes = bytes) (hzs : z.cells.size = size) (hsz : 0 < size)
    (v : Value) (hs : a.eval s = v) (hown : w.ownsRow base e size v 0 [])
    (src : Value) (m : Nat) (news : List Value) (hx : a.eval x = src) (hm : Src w size src m news) (h1 : ∀ u ∈ news, u.oneCell' = true)
    (h63 : m ≤ maxLen) (hbytes : m * bytes ≤ 140737488355328) (hbase : base ≤ w.heap.size)
    (h : ∀ p c w', w'.ownsRow base e size (.slice p m c) m news → w.grownBy w' v.ownBlock → wpList P ops Q rest (a.put o.dst (.slice p m c)) w') : wpList P ops Q (o :: rest) a w := by
  refine wpList_append_src w hgd s x t ho base e i z size bytes ht hi hz hsize hby hzs hsz v 0 [] hs hown src m news hx hm h1 (by omega) (by rw [Nat.zero_add]; exact hbytes) hbase fun p c w' h2 h3 _ => ?_
  rw [Nat.zero_add, List.nil_append] at h2
  rw [Nat.zero_add]
  exact h p c w' h2 h3
end

/-- A state with its data and a shared memory, in blocks of their own. -/
structure Side (B : Nat) (W : World) (S : Nat) (dv mv : Value) (s : St) (mem : List Int) : Prop where
  st : StAt W S s dv
  d : MemAt W dv s.d
  m : MemAt W mv mem
  own : ∀ k, OwnF S dv mv k → B ≤ k ∧ k < W.heap.size
  dS : dv.ownBlock ≠ some S
  mS : mv.ownBlock ≠ some S
  dm : ∀ k, dv.ownBlock = some k → mv.ownBlock ≠ some k
  r32 : ∀ j, W32 (s.r.getD j 0)
  d32 : ∀ j, W32 (s.d.getD j 0)
  m32 : ∀ j, W32 (mem.getD j 0)

theorem Side.keep {B : Nat} {W W' : World} {S : Nat} {dv mv : Value} {s : St} {mem : List Int} (h : Side B W S dv mv s mem) (hs : W.heap.size ≤ W'.heap.size) (hb : ∀ k, OwnF S dv mv k → k < W.heap.size → W'.heap[k]? = W.heap[k]?) : Side B W' S dv mv s mem :=
  ⟨⟨h.st.1, h.st.2.block (hb S (.inl rfl) h.st.lt)⟩, h.d.block fun k hk => hb k (.inr (.inl hk)) (h.own k (.inr (.inl hk))).2, h.m.block fun k hk => hb k (.inr (.inr hk)) (h.own k (.inr (.inr hk))).2,
    fun k hk => ⟨(h.own k hk).1, Nat.lt_of_lt_of_le (h.own k hk).2 hs⟩, h.dS, h.mS, h.dm, h.r32, h.d32, h.m32⟩
theorem Side.below {B : Nat} {W W' : World} {S : Nat} {dv mv : Value} {s : St} {mem : List Int} (h : Side B W S dv mv s mem) (hb : Below W.heap.size W W') : Side B W' S dv mv s mem :=
  h.keep hb.size fun k _ hk => hb.block k hk
theorem Side.kept {B : Nat} {W W' : World} {S : Nat} {dv mv : Value} {s : St} {mem : List Int} (h : Side B W S dv mv s mem) {F : Nat → Prop} (hk : Kept F W W') (hF : ∀ k, F k → ¬ OwnF S dv mv k) : Side B W' S dv mv s mem :=
  h.keep hk.size fun k hO hlt => hk.block k hlt fun f => hF k f hO

/-- Run, whether the state fits or not. -/
def runQ {σ : Type} (im : Im) (t : Int) (inp : σ → Int → Int) (nxt : σ → Int → σ) (fuel : Nat) (c : Cf σ) : Cf σ × Nat × Int :=
  if fitP im t c.s then runP im t inp nxt fuel c else (c, 0, 14)

/-- What a run of a side leaves. -/
def SideLeft {σ : Type} (B : Nat) (W : World) (S : Nat) (dv mv : Value) (PR : σ → World → Prop) (PF : Nat → Prop) (r : Cf σ × Nat × Int) (e : Ending) (w' : World) : Prop :=
  ∃ op oc, e = .returned (.tuple #[.slice op r.1.out.length oc, .int .i64 r.2.1, .int .i64 r.2.2]) ∧ w'.ownsRow W.heap.size 55 2 (.slice op r.1.out.length oc) r.1.out.length (outCells r.1.out) ∧
    Kept (fun j => OwnF S dv mv j ∨ PF j) W w' ∧ Side B w' S dv mv r.1.s r.1.mem ∧ PR r.1.p w'

theorem own_slice {w : World} {base : Nat} {e : TypeId} {size : Nat} {v : Value} {n : Nat} {xs : List Value} (h : w.ownsRow base e size v n xs) : ∃ p c, v = .slice p n c := by
  rcases h.2 with ⟨rfl, rfl⟩ | ⟨g, cap, cur, rfl, _⟩
  · exact ⟨none, 0, rfl⟩
  · exact ⟨_, _, rfl⟩

theorem run_side {σ : Type} (imv : Value) (im : Im) (t : Int) (S : Nat) (dv mv pv : Value) (inp : σ → Int → Int) (nxt : σ → Int → σ) (PR : σ → World → Prop) (PF : Nat → Prop) (PW : σ → Int → World → World) (fuel : Int) (c0 : Cf σ) (B : Nat) (W : World)
    (hf : fuel ≤ 1000000) (hT : Tab W) (hO : OTab W) (hi : ∀ w', Below B W w' → ImAt w' imv im) (hg : 0 < B ∧ 1 < B) (hB : B ≤ W.heap.size) (hPF : ∀ k, PF k → B ≤ k ∧ k < W.heap.size)
    (hS : Side B W S dv mv c0.s c0.mem) (hport : PortRun S dv mv pv inp nxt PR PF PW) (hpr : PR c0.p W) (hout : c0.out = []) :
    Calls Tryd.prog 19 #[imv, .int .i64 t, .pointer (some ⟨S, 0, none⟩), mv, pv, .int .i64 fuel] W (SideLeft B W S dv mv PR PF (runQ im t inp nxt fuel.toNat c0)) := by
  cases hfit : fitP im t c0.s
  · have hq : runQ im t inp nxt fuel.toNat c0 = (c0, 0, 14) := by simp [runQ, hfit]
    rw [hq]
    refine (run_unfit imv im t S c0.s dv mv pv fuel W (hi W (Below.refl _ _)) hS.st hS.d.shape hfit).mono fun e w' ⟨he, hb⟩ => ?_
    refine ⟨none, 0, ?_, ?_, Kept.of_below hb, hS.below hb, hport.keep _ _ _ hpr fun k hk _ => hb.block k hk⟩
    · rw [he]
      show _ = Ending.returned (.tuple #[.slice none c0.out.length 0, _, _])
      rw [hout]
      rfl
    · show w'.ownsRow _ _ _ (.slice none c0.out.length 0) c0.out.length (outCells c0.out)
      rw [hout]
      exact World.ownsRow_nil _ _ _ _
  · have hq : runQ im t inp nxt fuel.toNat c0 = runP im t inp nxt fuel.toNat c0 := by simp [runQ, hfit]
    rw [hq]
    have hp : RunPre W B imv im S dv mv PF := ⟨hT, hO, hi, fun k hk => hk.elim (hS.own k) (hPF k), hg, hB, hS.dS, hS.mS, hS.dm⟩
    refine (run_all imv im t S dv mv pv inp nxt PR PF PW fuel c0 B W hf hp hport hS.st hS.d hS.m hpr hout hS.r32 hS.d32 hS.m32 hfit).mono fun e w' h => ?_
    obtain ⟨ov, h1, h2, h3, h4, h5, h6, h7, h8, h9, h10⟩ := h
    obtain ⟨op, oc, rfl⟩ := own_slice h2
    exact ⟨op, oc, h1, h2, h3, ⟨h4, h5, h6, fun k hk => ⟨(hS.own k hk).1, Nat.lt_of_lt_of_le (hS.own k hk).2 h3.size⟩, hS.dS, hS.mS, hS.dm, h8, h9, h10⟩, h7⟩

theorem own_kept {W W' : World} {base base' : Nat} {e : TypeId} {size : Nat} {v : Value} {n : Nat} {xs : List Value} {F : Nat → Prop} (h : W.ownsRow base e size v n xs) (hk : Kept F W W') (hF : ∀ k, F k → k < base) (hb : base' ≤ base) : W'.ownsRow base' e size v n xs := by
  obtain ⟨h1, h2⟩ := h
  refine ⟨h1, ?_⟩
  rcases h2 with h2 | ⟨g, cap, cur, a, b, c, d⟩
  · exact .inl h2
  · exact .inr ⟨g, cap, cur, a, by omega, (hk.block g (lt_of_block c) (fun f => by have := hF g f; omega)).trans c, d⟩
theorem own_below {W W' : World} {base : Nat} {e : TypeId} {size : Nat} {v : Value} {n : Nat} {xs : List Value} (h : W.ownsRow base e size v n xs) (hb : Below W.heap.size W W') : W'.ownsRow base e size v n xs :=
  ownsRow_block h fun g _ hg => hb.block g hg
/-- Behind the two copies and the two memories. -/
theorem both_of {w0 w3 w4 w5 : World} {s : St} {sh : List Int} {bx by' : Nat} {xv yv av bv : Value} {e : TypeId} {n : Nat} (hT : Two w0 s bx by' xv yv w3) (hb4 : Below w3.heap.size w3 w4) (h4 : w4.ownsRow w3.heap.size e 1 av n (sh.map (.int .i32)))
    (hb5 : Below w4.heap.size w4 w5) (h5 : w5.ownsRow w4.heap.size e 1 bv n (sh.map (.int .i32))) (r32 : ∀ j, W32 (s.r.getD j 0)) (d32 : ∀ j, W32 (s.d.getD j 0)) (m32 : ∀ j, W32 (sh.getD j 0)) :
    Side w0.heap.size w5 bx xv av s sh ∧ Side w0.heap.size w5 by' yv bv s sh ∧ (∀ k, OwnF bx xv av k → ¬ OwnF by' yv bv k) ∧ Below w0.heap.size w0 w5 := by
  have hb35 : Below w3.heap.size w3 w5 := hb4.trans (hb5.mono hb4.size)
  have s0 := hT.bel.size
  have s4 := hb4.size
  have s5 := hb5.size
  have ha : ∀ k, av.ownBlock = some k → w3.heap.size ≤ k ∧ k < w4.heap.size := fun k hk => ⟨ownBase h4 hk, own_lt h4 hk⟩
  have hb : ∀ k, bv.ownBlock = some k → w4.heap.size ≤ k ∧ k < w5.heap.size := fun k hk => ⟨ownBase h5 hk, own_lt h5 hk⟩
  have lx := hT.x.lt
  have ly := hT.y.lt
  have gx := hT.lx
  have gy := hT.ly
  refine ⟨⟨hT.x.below hb35 lx, hT.mx.below hb35 (Nat.le_refl _), (MemAt.of_owns h4).below hb5 (Nat.le_refl _), ?_, ?_, ?_, ?_, r32, d32, m32⟩, ⟨hT.y.below hb35 ly, hT.my.below hb35 (Nat.le_refl _), MemAt.of_owns h5, ?_, ?_, ?_, ?_, r32, d32, m32⟩, ?_, hT.bel.trans (hb35.mono s0)⟩
  · rintro k (rfl | hk | hk)
    · omega
    · have := hT.ox k hk; omega
    · have := ha k hk; omega
  · intro hk; exact (hT.ox bx hk).2.2.1 rfl
  · intro hk; have := ha bx hk; omega
  · intro k hk hk2; have := hT.ox k hk; have := ha k hk2; omega
  · rintro k (rfl | hk | hk)
    · omega
    · have := hT.oy k hk; omega
    · have := hb k hk; omega
  · intro hk; exact (hT.oy by' hk).2.2.2.1 rfl
  · intro hk; have := hb by' hk; omega
  · intro k hk hk2; have := hT.oy k hk; have := hb k hk2; omega
  · rintro k (rfl | hk | hk) (hk2 | hk2 | hk2)
    · exact hT.ne hk2
    · exact (hT.oy k hk2).2.2.1 rfl
    · have := hb k hk2; omega
    · subst hk2; exact (hT.ox k hk).2.2.2.1 rfl
    · exact (hT.ox k hk).2.2.2.2 hk2
    · have := hT.ox k hk; have := hb k hk2; omega
    · have := ha k hk; omega
    · have := ha k hk; have := hT.oy k hk2; omega
    · have := ha k hk; have := hb k hk2; omega
theorem Tab.kept {F : Nat → Prop} {B : Nat} {w w' : World} (hT : Tab w) (h : Kept F w w') (hB : B ≤ w.heap.size) (hF : ∀ k, F k → B ≤ k) (h0 : 0 < B) : Tab w' := hT.below (h.below hB hF) h0

/-- A run whose outcome is known by name. -/
theorem run_named {σ : Type} (imv : Value) (im : Im) (t : Int) (S : Nat) (dv mv pv : Value) (inp : σ → Int → Int) (nxt : σ → Int → σ) (PR : σ → World → Prop) (PF : Nat → Prop) (PW : σ → Int → World → World) (fuel : Int) (c0 c : Cf σ) (n : Nat) (er : Int) (B : Nat) (W : World)
    (hf : fuel ≤ 1000000) (hT : Tab W) (hO : OTab W) (hi : ∀ w', Below B W w' → ImAt w' imv im) (hg : 0 < B ∧ 1 < B) (hB : B ≤ W.heap.size) (hPF : ∀ k, PF k → B ≤ k ∧ k < W.heap.size)
    (hS : Side B W S dv mv c0.s c0.mem) (hport : PortRun S dv mv pv inp nxt PR PF PW) (hpr : PR c0.p W) (hout : c0.out = []) (hr : runQ im t inp nxt fuel.toNat c0 = (c, n, er)) :
    Calls Tryd.prog 19 #[imv, .int .i64 t, .pointer (some ⟨S, 0, none⟩), mv, pv, .int .i64 fuel] W fun e w' => ∃ op oc, e = .returned (.tuple #[.slice op c.out.length oc, .int .i64 n, .int .i64 er]) ∧ w'.ownsRow W.heap.size 55 2 (.slice op c.out.length oc) c.out.length (outCells c.out) ∧
      Kept (fun j => OwnF S dv mv j ∨ PF j) W w' ∧ Side B w' S dv mv c.s c.mem ∧ PR c.p w' := by
  have h := run_side imv im t S dv mv pv inp nxt PR PF PW fuel c0 B W hf hT hO hi hg hB hPF hS hport hpr hout
  rw [hr] at h
  exact h

theorem outCells_get (l : List (Int × Int)) : ∀ (k : Nat), k < l.length → (outCells l)[k * 2]? = some (.int .i64 (l.getD k (0, 0)).1) ∧ (outCells l)[k * 2 + 1]? = some (.int .i32 (l.getD k (0, 0)).2) := by
  induction l with
  | nil => intro k hk; simp at hk
  | cons x l ih =>
    intro k hk
    have e : outCells (x :: l) = .int .i64 x.1 :: .int .i32 x.2 :: outCells l := rfl
    rw [e]
    cases k with
    | zero => exact ⟨rfl, rfl⟩
    | succ k =>
      have h := ih k (by simpa using hk)
      rw [show (k + 1) * 2 = k * 2 + 1 + 1 by omega]
      simpa using h
/-- An output among those that a run has sent. -/
theorem out_cell {w : World} {base : Nat} {e : TypeId} {p : Option Addr} {n c : Nat} {l : List (Int × Int)} (h : w.ownsRow base e 2 (.slice p n c) n (outCells l)) (k : Nat) (hk : k < l.length) :
    ∃ g, p = some ⟨g, 0, none⟩ ∧ g < w.heap.size ∧ w.cell? ⟨g, k * 2, none⟩ = some (.int .i64 (l.getD k (0, 0)).1) ∧ w.cell? ⟨g, k * 2 + 1, none⟩ = some (.int .i32 (l.getD k (0, 0)).2) := by
  obtain ⟨h1, h2⟩ := outCells_get l k hk
  rcases h.2 with ⟨hv, hn⟩ | ⟨g, cap, cur, hv, _, hg, _⟩
  · have hl := h.1
    rw [hn] at hl
    have : l = [] := by
      cases l with
      | nil => rfl
      | cons x l => simp [outCells] at hl
    subst this
    simp at hk
  · injection hv with e1 _ _
    subst e1
    have hc := h.cells (g := g) rfl
    have hadd : ∀ j, (⟨g, 0, none⟩ : Addr).add j = ⟨g, j, none⟩ := fun j => by unfold Addr.add; split <;> simp_all
    have a1 := hc _ _ h1
    have a2 := hc _ _ h2
    rw [hadd] at a1 a2
    exact ⟨g, rfl, lt_of_block hg, a1, a2⟩

theorem owns_empty2 (X : World) (base : Nat) (e : TypeId) (size n : Nat) (hn : X.heap.size = n) (h : base ≤ n) : (X.alloc (.cells #[] e)).ownsRow base e size (.slice (some ⟨n, 0, none⟩) 0 0) 0 [] := by
  subst hn
  exact ⟨by simp, .inr ⟨X.heap.size, 0, #[], rfl, h, heap_alloc_new _ _, Nat.le_refl _, Nat.zero_le _, by simp, by simp⟩⟩
theorem outCells_one (l : List (Int × Int)) : ∀ u ∈ outCells l, u.oneCell' = true := by
  intro u hu
  obtain ⟨x, _, hx⟩ := List.mem_flatMap.1 hu
  simp at hx
  rcases hx with rfl | rfl <;> rfl
theorem outCells_append (l m : List (Int × Int)) : outCells (l ++ m) = outCells l ++ outCells m := List.flatMap_append ..

theorem neq_out (a b : Int) (w : World) : (binOp .neq 55 (.agg #[.int .i64 a, .int .i32 b]) (.agg #[.int .i64 a, .int .i32 b])).run Tryd.prog w = .ok (.bool false) w := by
  have h1 : Tryd.prog.underlying 55 = some (.struct (Tryd.prog.fieldsOf 55)) := by kernel_rfl
  have h2 : Tryd.prog.stoodInHeld 55 = false := by kernel_rfl
  have e1 := Tryd.underlying3
  have e2 := Tryd.underlying21
  have e0 := Tryd.underlying55
  rw [run_neq_struct, run_equalIn_struct w 9999 _ _ _ h1 h2]
  simp [Program.fieldsOf, e0, Op.eqFields, part, isAgg, run_underlying e1, run_underlying e2, run_equalIn_int _ _ _ _ _ _ _ e1, run_equalIn_int _ _ _ _ _ _ _ e2]

end Go.Proofs.YtlmipchjmgnlfaaDoor
