import Derived.Test.YtlajdcikhbocdaaDoorMgQ
import Derived.Test.YtlajdcikhbocdaaDoorMgG
import Derived.Maps.RangeWalk
import Derived.DeepKeys3
import Derived.WideKeyEntry
import Derived.Test.YtlajdcikhbocdaaDoorMgM
/- Maps that the call makes, whatever their keys are, told by a function; maps that count; ranges over them. -/
set_option linter.unusedVariables false
set_option linter.unusedSimpArgs false
namespace Go.Proofs.YtlajdcikhbocdaaDoor
open Go.RowKit Go.Maps Go.WideMaps

/-- A kind of key: the values vl x, those with ok x. -/
structure Ky (α : Type) (k : TypeId) where
  vl : α → Value
  kl : α → Lit
  ok : α → Prop
  law : Keyed Tryd.prog k
  is : ∀ x, ok x → keyOf Tryd.prog k (vl x) = some (kl x)
  inj : ∀ x y, vl x = vl y → x = y
  back : ∀ v l, keyOf Tryd.prog k v = some l → ∃ x, ok x ∧ v = vl x
section
variable {α : Type} {k : TypeId} (K : Ky α k)
theorem Ky.kl_inj {x y : α} (hx : K.ok x) (hy : K.ok y) (h : K.kl x = K.kl y) : x = y :=
  K.inj x y (K.law.inj (K.is x hx) ((K.is y hy).trans (by rw [h])))
theorem Ky.key {x : α} (hx : K.ok x) : WideAt.IsKeyLit (K.kl x) := K.law.key (K.is x hx)
/-- What the datum D says at the keys. -/
def Says (D : DataW Value) (F : α → Option Value) : Prop := ∀ x, K.ok x → Maps.has D (K.kl x) = (F x).isSome ∧ ∀ z, D.atKey (K.kl x) (.held z) = .held ((F x).getD z)
/-- How often a key stands on the list L, less how often on the list M. -/
def bal [DecidableEq α] (L M : List α) (x : α) : Int := (L.count x : Int) - (M.count x : Int)
def cntF [DecidableEq α] (L M : List α) (x : α) : Option Value := if x ∈ L ∨ x ∈ M then some (.int .i64 (bal L M x)) else none
theorem cntF_get [DecidableEq α] (L M : List α) (x : α) : (cntF L M x).getD (.int .i64 0) = .int .i64 (bal L M x) := by
  unfold cntF
  split
  · rfl
  · rename_i h
    have h1 : L.count x = 0 := List.count_eq_zero.2 fun h1 => h (.inl h1)
    have h2 : M.count x = 0 := List.count_eq_zero.2 fun h1 => h (.inr h1)
    simp [bal, h1, h2]
theorem bal_inc [DecidableEq α] (L M : List α) (x y : α) : bal (L ++ [x]) M y = if y = x then bal L M x + 1 else bal L M y := by
  unfold bal
  rw [List.count_append]
  split
  · rename_i h; subst h; simp; omega
  · rename_i h
    have : [x].count y = 0 := List.count_eq_zero.2 (by simpa using h)
    rw [this]; rfl
theorem bal_dec [DecidableEq α] (L M : List α) (x y : α) : bal L (M ++ [x]) y = if y = x then bal L M x - 1 else bal L M y := by
  unfold bal
  rw [List.count_append]
  split
  · rename_i h; subst h; simp; omega
  · rename_i h
    have : [x].count y = 0 := List.count_eq_zero.2 (by simpa using h)
    rw [this]; rfl
/-- Block b is a map that counts. -/
def CtAt [DecidableEq α] (w : World) (b : Nat) (L M : List α) : Prop :=
  ∃ n D, n ≤ L.length + M.length ∧ MapAt w k b n D ∧ Says K D (cntF L M)
/-- .. under a range by the iterator r. -/
def RgAt [DecidableEq α] (w : World) (b r : Nat) (L M : List α) : Prop :=
  ∃ n D left cnt, w.ranges Tryd.prog k heldElem b r n D left cnt ∧ Says K D (cntF L M)
variable [DecidableEq α] {K} {w w' : World} {b r : Nat} {L M : List α}
theorem CtAt.lt (h : CtAt K w b L M) : b < w.heap.size := by
  obtain ⟨_, D, _, h1, _⟩ := h
  exact h1.lt
theorem CtAt.of_block (h : CtAt K w b L M) (hb : w'.heap[b]? = w.heap[b]?) : CtAt K w' b L M := by
  obtain ⟨n, D, hn, ⟨es, clock, h1, h2⟩, h3⟩ := h
  exact ⟨n, D, hn, ⟨es, clock, hb.trans h1, h2⟩, h3⟩
theorem CtAt.keep (h : CtAt K w b L M) (hb : Below w.heap.size w w') : CtAt K w' b L M := h.of_block (hb.block _ h.lt)
theorem CtAt.made (K : Ky α k) (w : World) : CtAt K (w.alloc (.map #[] 0)) w.heap.size [] [] :=
  ⟨0, .map [], Nat.le_refl _, World.ownsMap_made w Tryd.prog k heldElem, fun s _ => ⟨rfl, fun z => rfl⟩⟩
theorem CtAt.look {t e : TypeId} (h : CtAt K w b L M) (ht : Tryd.prog.underlying t = some (.map k e)) (hz : (zeroValue e).run Tryd.prog w = .ok (.int .i64 0) w) (x : α) (hx : K.ok x) :
    (Instr.lookup t (.map (some b)) (K.vl x) false).run Tryd.prog w = .ok (.int .i64 (bal L M x)) w := by
  obtain ⟨n, D, _, h1, h2⟩ := h
  exact h1.look_at K.law ht hz (K.is x hx) (by rw [(h2 x hx).2, cntF_get])
theorem says_put {D : DataW Value} (hD : Maps.IsMap D) {F G : α → Option Value} (h : Says K D F) {x : α} (hx : K.ok x) {v : Value} (hs : G x = some v) (ho : ∀ y, y ≠ x → G y = F y) : Says K (D.put (K.kl x) (.held v)) G := fun y hy => by
  by_cases e : y = x
  · subst e
    rw [hs]
    exact ⟨has_put_same hD (K.key hx) _, fun z => atKey_put_same hD (K.key hx) _ _⟩
  · have hne : K.kl y ≠ K.kl x := fun h => e (K.kl_inj hy hx h)
    rw [ho y e, has_put_other hne, (h y hy).1]
    exact ⟨rfl, fun z => by rw [atKey_put_other hne]; exact (h y hy).2 z⟩
theorem CtAt.inc {t e : TypeId} (h : CtAt K w b L M) (ht : Tryd.prog.underlying t = some (.map k e)) (x : α) (hx : K.ok x) (hn : L.length + M.length < 100000) :
    ∃ w', (Instr.mapUpdate t (.map (some b)) (K.vl x) (.int .i64 (bal L M x + 1))).run Tryd.prog w = .ok () w' ∧ CtAt K w' b (L ++ [x]) M ∧ w.grownBy w' (some b) := by
  obtain ⟨n, D, hnn, h1, h2⟩ := h
  obtain ⟨w', hr, h3, h4⟩ := World.ownsMap.store h1 K.law ht (by unfold maxLen; omega) (K.is x hx) (d := .held (.int .i64 (bal L M x + 1))) (ps := []) rfl
  refine ⟨w', hr, ⟨_, _, ?_, h3, says_put (World.ownsMap.isMap h1) h2 hx ?_ fun y hy => ?_⟩, h4.grown⟩
  · rw [List.length_append]; simp; omega
  · unfold cntF
    rw [if_pos (.inl (by simp)), bal_inc, if_pos rfl]
  · unfold cntF
    rw [bal_inc, if_neg hy]
    simp [hy]
theorem CtAt.dec {t e : TypeId} (h : CtAt K w b L M) (ht : Tryd.prog.underlying t = some (.map k e)) (x : α) (hx : K.ok x) (hn : L.length + M.length < 100000) :
    ∃ w', (Instr.mapUpdate t (.map (some b)) (K.vl x) (.int .i64 (bal L M x - 1))).run Tryd.prog w = .ok () w' ∧ CtAt K w' b L (M ++ [x]) ∧ w.grownBy w' (some b) := by
  obtain ⟨n, D, hnn, h1, h2⟩ := h
  obtain ⟨w', hr, h3, h4⟩ := World.ownsMap.store h1 K.law ht (by unfold maxLen; omega) (K.is x hx) (d := .held (.int .i64 (bal L M x - 1))) (ps := []) rfl
  refine ⟨w', hr, ⟨_, _, ?_, h3, says_put (World.ownsMap.isMap h1) h2 hx ?_ fun y hy => ?_⟩, h4.grown⟩
  · rw [List.length_append]; simp; omega
  · unfold cntF
    rw [if_pos (.inr (by simp)), bal_dec, if_pos rfl]
  · unfold cntF
    rw [bal_dec, if_neg hy]
    simp [hy]
variable {ops : Array Oper} {rest : List Oper} {o : Oper} {a : Act} {Q : Exit → Act → World → Prop}
/-- m[x]++ at the store. -/
theorem wpList_inc (hg : o.guard = none) (m x u : Operand) (t e : TypeId) (hop : o.op = .mapUpdate t m x u)
    (ht : Tryd.prog.underlying t = some (.map k e)) (b : Nat) (L M : List α) (h : CtAt K w b L M) (hm : a.eval m = .map (some b)) (s : α) (hx : a.eval x = K.vl s) (hs : K.ok s) (hn : L.length + M.length < 100000) (c : Int) (hc : bal L M s = c) (hv : a.eval u = .int .i64 (c + 1))
    (hK : ∀ w', CtAt K w' b (L ++ [s]) M → w.grownBy w' (some b) → wpList Tryd.prog ops Q rest (a.put o.dst undef) w') : wpList Tryd.prog ops Q (o :: rest) a w := by
  refine wpList_plain hg fun K' hK' => ?_
  obtain ⟨w', hr, h1, h2⟩ := h.inc ht s hs hn
  rw [hc] at hr
  unfold Oper.wp
  simp [execOp, hop, hm, hx, hv, hr, Result.andThen]
  exact hK' _ _ (hK w' h1 h2)
/-- m[x]-- at the store. -/
theorem wpList_dec (hg : o.guard = none) (m x u : Operand) (t e : TypeId) (hop : o.op = .mapUpdate t m x u)
    (ht : Tryd.prog.underlying t = some (.map k e)) (b : Nat) (L M : List α) (h : CtAt K w b L M) (hm : a.eval m = .map (some b)) (s : α) (hx : a.eval x = K.vl s) (hs : K.ok s) (hn : L.length + M.length < 100000) (c : Int) (hc : bal L M s = c) (hv : a.eval u = .int .i64 (c - 1))
    (hK : ∀ w', CtAt K w' b L (M ++ [s]) → w.grownBy w' (some b) → wpList Tryd.prog ops Q rest (a.put o.dst undef) w') : wpList Tryd.prog ops Q (o :: rest) a w := by
  refine wpList_plain hg fun K' hK' => ?_
  obtain ⟨w', hr, h1, h2⟩ := h.dec ht s hs hn
  rw [hc] at hr
  unfold Oper.wp
  simp [execOp, hop, hm, hx, hv, hr, Result.andThen]
  exact hK' _ _ (hK w' h1 h2)
/-- The range begins. -/
theorem wpList_range_ct (hg : o.guard = none) (m : Operand) (t e : TypeId) (hop : o.op = Op.range t m) (ht : Tryd.prog.underlying t = some (.map k e)) (b : Nat) (L M : List α) (h : CtAt K w b L M) (hm : a.eval m = .map (some b))
    (hK : ∀ w', RgAt K w' b w.heap.size L M → w.grownBy w' none → w'.heap.size = w.heap.size + 1 → wpList Tryd.prog ops Q rest (a.put o.dst (.pointer (some ⟨w.heap.size, 0, none⟩))) w') : wpList Tryd.prog ops Q (o :: rest) a w := by
  obtain ⟨n, D, _, h1, h2⟩ := h
  exact wpList_range_own w hg m t hop k e K.law ht heldElem b n D hm h1 fun w' hr hg hs => hK w' ⟨_, _, _, _, hr, h2⟩ hg hs
/-- Its step, where every count is nought. -/
theorem wpList_next_ct (hg : o.guard = none) (it : Operand) (hop : o.op = Op.next it false) (b r : Nat) (L M : List α) (hit : a.eval it = .pointer (some ⟨r, 0, none⟩)) (h : RgAt K w b r L M) (h0 : ∀ x, bal L M x = 0)
    (hDone : wpList Tryd.prog ops Q rest (a.put o.dst (.tuple #[.bool false])) w)
    (hMore : ∀ (x : α) (w' : World), RgAt K w' b r L M → w'.rangeLeft b r < w.rangeLeft b r → w.grownBy w' (some r) → w'.heap.size = w.heap.size → (Instr.entry (.pointer (some ⟨r, 0, none⟩))).run Tryd.prog w' = .ok (.tuple #[K.vl x, .int .i64 0]) w' → wpList Tryd.prog ops Q rest (a.put o.dst (.tuple #[.bool true, K.vl x, .int .i64 0])) w') :
    wpList Tryd.prog ops Q (o :: rest) a w := by
  obtain ⟨n, D, left, cnt, hr, hs⟩ := h
  refine wpList_next_ranges w hg it hop k K.law heldElem K.vl (fun v : Value => v) (fun key kl hk => ?_) (fun v y _ => ⟨v, rfl⟩) b r n D left cnt hit hr (fun _ _ => hDone) fun x c kl y w' cnt' hkey hl hc hat hr' hlt hgr hsz hen => ?_
  · obtain ⟨x, _, e⟩ := K.back key kl hk
    exact ⟨x, e⟩
  · obtain ⟨x', hx, e⟩ := K.back _ _ hkey
    have := K.inj _ _ e
    subst this
    have hkl : kl = K.kl x := Option.some.inj (hkey.symm.trans (K.is x hx))
    have hcz : c = .int .i64 0 := by
      have h1 := (hs x hx).2 (.int .i64 0)
      rw [← hkl, hat, cntF_get, h0] at h1
      have h2 : y = (.held c, []) := (Option.some.inj hc).symm
      rw [h2] at h1
      exact DataW.held.inj h1
    subst hcz
    exact hMore x w' ⟨_, _, _, _, hr', hs⟩ (by rw [hr'.left_eq, hr.left_eq]; exact hlt) hgr hsz hen
end
/-- What an entry's making does to the world. -/
theorem entry_world {k t e : TypeId} {w : World} {b clock : Nat} {es : Array MapEntry} {R : Value → Option (DataW Value × List MemPlace)} (KL : WideMaps.KeyLaw Tryd.prog k) (ht : Tryd.prog.underlying t = some (.map k e)) {z : Value} (hz : ∀ u : World, (zeroValue e).run Tryd.prog u = .ok z u) (hb : w.heap[b]? = some (.map es clock)) (F : WideElems.Fit Tryd.prog k R es clock)
    {key : Value} {kl : Lit} (hkey : keyOf Tryd.prog k key = some kl) :
    (∃ v st, (Instr.mapEntry t (.map (some b)) key).run Tryd.prog w = .ok (.tuple #[v, goInt st]) (ChangeMaps.setBlock w b (.map es clock))) ∨
      (∃ st w1, (Instr.mapEntry t (.map (some b)) key).run Tryd.prog w = .ok (.tuple #[z, goInt st]) w1 ∧ (Instr.mapUpdate t (.map (some b)) key z).run Tryd.prog w = .ok () w1 ∧ (Instr.lookup t (.map (some b)) key false).run Tryd.prog w = .ok z w) := by
  rcases KL.find w hkey es.toList F.keys with ⟨h1, h2⟩ | ⟨j, e0, h1, h2, h3⟩
  · refine .inr ⟨clock, ChangeMaps.setBlock w b (.map (es.push ⟨key, z, clock⟩) (clock + 1)), ?_, ?_, ?_⟩
    · simp [Instr.mapEntry, run_underlying ht, MapKept.run_getObj_map hb, KL.check w false hkey, h1, hz, MapKept.run_setObj_map _ hb, Result.andThen, ChangeMaps.setBlock]
    · simp [Instr.mapUpdate, run_underlying ht, MapKept.run_getObj_map hb, KL.check w false hkey, h1, MapKept.run_setObj_map _ hb, Result.andThen, ChangeMaps.setBlock]
    · simp [Instr.lookup, run_underlying ht, MapKept.run_getObj_map hb, KL.check w _ hkey, h1, hz, Result.andThen]
  · have hj : es[j]? = some e0 := by simpa using h2
    have hsame : es.modify j (fun e => { e with key := key }) = es := by
      apply Array.ext'
      rw [Array.toList_modify, ChangeMaps.modify_eq_set _ _ _ _ h2]
      have : ({ e0 with key := key } : MapEntry) = e0 := by rw [← h3]
      rw [this]
      exact WideElems.set_self _ _ _ h2
    refine .inl ⟨e0.val, e0.born, ?_⟩
    simp [Instr.mapEntry, run_underlying ht, MapKept.run_getObj_map hb, KL.check w false hkey, h1, hj, h3, KL.stays w hkey, hsame, MapKept.run_setObj_map _ hb, Result.andThen, ChangeMaps.setBlock]
theorem setBlock_twice (w : World) (b : Nat) (o1 o2 : Obj) : ChangeMaps.setBlock (ChangeMaps.setBlock w b o1) b o2 = ChangeMaps.setBlock w b o2 := by
  unfold ChangeMaps.setBlock
  simp
/-- m[x]++ and m[x]-- where the key is a struct: the entry is made, then stored. -/
theorem CtAt.entry {α : Type} [DecidableEq α] {k t e : TypeId} {K : Ky α k} {w : World} {b : Nat} {L M : List α} (KL : WideMaps.KeyLaw Tryd.prog k) (h : CtAt K w b L M) (ht : Tryd.prog.underlying t = some (.map k e)) (hz : ∀ u : World, (zeroValue e).run Tryd.prog u = .ok (.int .i64 0) u) (x : α) (hx : K.ok x) (hn : L.length + M.length < 100000) :
    ∃ (v0 : Value) (st : Nat) (w1 : World), (Instr.mapEntry t (.map (some b)) (K.vl x)).run Tryd.prog w = .ok (.tuple #[v0, .int .i64 st]) w1 ∧ (Instr.lookup t (.map (some b)) (K.vl x) false).run Tryd.prog w1 = .ok (.int .i64 (bal L M x)) w1 ∧
      (∃ w2, (Instr.entryStore t (.map (some b)) (.int .i64 st) (.int .i64 (bal L M x + 1))).run Tryd.prog w1 = .ok () w2 ∧ CtAt K w2 b (L ++ [x]) M ∧ w.grownBy w2 (some b)) ∧
      (∃ w2, (Instr.entryStore t (.map (some b)) (.int .i64 st) (.int .i64 (bal L M x - 1))).run Tryd.prog w1 = .ok () w2 ∧ CtAt K w2 b L (M ++ [x]) ∧ w.grownBy w2 (some b)) := by
  obtain ⟨n, D, hnn, ⟨es, clock, hb, F, hsz, hD⟩, h2⟩ := id h
  obtain ⟨v0, st, es1, clock1, hE, -, hS⟩ := Go.WideElems.entry_then_store KL ht hz hb F (K.is x hx)
  have hw1 := ChangeMaps.heap_setBlock_same hb (.map es1 clock1)
  refine ⟨v0, st, _, hE, ?_, ?_, ?_⟩
  · rcases entry_world KL ht hz hb F (K.is x hx) with ⟨v, st', h3⟩ | ⟨st', w1, h3, h4, h5⟩
    · have e1 := hE.symm.trans h3
      have e1 := (Result.ok.inj e1).2
      have hbb : (ChangeMaps.setBlock w b (.map es1 clock1)).heap[b]? = w.heap[b]? := by rw [e1, ChangeMaps.heap_setBlock_same hb, hb]
      exact (h.of_block hbb).look ht (hz _) x hx
    · have e1 := hE.symm.trans h3
      have e1 := (Result.ok.inj e1).2
      have h6 := h.look ht (hz _) x hx
      rw [h5] at h6
      have h6 := (Result.ok.inj h6).1
      rw [← h6, e1]
      obtain ⟨w', hr, h7, h8⟩ := World.ownsMap.store (P := Tryd.prog) (R := heldElem) (n := n) (D := D) ⟨es, clock, hb, F, hsz, hD⟩ K.law ht (by unfold maxLen; have := F.size; omega) (K.is x hx) (d := .held (.int .i64 0)) (ps := []) rfl
      have e2 := h4.symm.trans hr
      have e2 := (Result.ok.inj e2).2
      rw [e2]
      exact MapAt.look_at h7 K.law ht (hz _) (K.is x hx) (atKey_put_same (World.ownsMap.isMap ⟨es, clock, hb, F, hsz, hD⟩) (K.key hx) _ _)
  · obtain ⟨es', clock', hs1, hs2⟩ := hS _ (.int .i64 (bal L M x + 1)) hw1
    obtain ⟨w', hr, hc, hg⟩ := h.inc ht x hx hn
    have e1 := hr.symm.trans hs2
    have e1 := (Result.ok.inj e1).2
    rw [setBlock_twice, ← e1] at hs1
    exact ⟨w', hs1, hc, hg⟩
  · obtain ⟨es', clock', hs1, hs2⟩ := hS _ (.int .i64 (bal L M x - 1)) hw1
    obtain ⟨w', hr, hc, hg⟩ := h.dec ht x hx hn
    have e1 := hr.symm.trans hs2
    have e1 := (Result.ok.inj e1).2
    rw [setBlock_twice, ← e1] at hs1
    exact ⟨w', hs1, hc, hg⟩
theorem RgAt.keep {α : Type} [DecidableEq α] {k : TypeId} {K : Ky α k} {w w' : World} {b r : Nat} {L M : List α} (h : RgAt K w b r L M) (h1 : w'.heap[b]? = w.heap[b]?) (h2 : w'.heap[r]? = w.heap[r]?) : RgAt K w' b r L M := by
  obtain ⟨n, D, left, cnt, ⟨es, clock, since, seen, c0, a1, a2, a3, a4, a5, a6⟩, hs⟩ := h
  exact ⟨n, D, left, cnt, ⟨es, clock, since, seen, c0, h1.trans a1, a2, a3, a4, h2.trans a5, a6⟩, hs⟩

theorem int_wf {q : IntKind} {n : Int} (h : (Lit.int q n).wf = true) : q.min ≤ n ∧ n ≤ q.max := by
  unfold Lit.wf at h
  rw [Bool.and_eq_true] at h
  exact ⟨of_decide_eq_true h.1, of_decide_eq_true h.2⟩
theorem wf_int {q : IntKind} {n : Int} (h : q.min ≤ n ∧ n ≤ q.max) : (Lit.int q n).wf = true := by
  unfold Lit.wf
  rw [Bool.and_eq_true]
  exact ⟨decide_eq_true h.1, decide_eq_true h.2⟩
theorem minB : IntKind.u8.min = 0 := by decide
theorem maxB : IntKind.u8.max = 255 := by decide
theorem minI : IntKind.i64.min = -9223372036854775808 := by decide
theorem maxI : IntKind.i64.max = 9223372036854775807 := by decide
/-- Bytes as keys. -/
def KyB : Ky Nat 5 where
  vl n := .int .u8 n
  kl n := .int .u8 n
  ok n := n < 256
  law := int_keyed Tryd.underlying5
  is n h := keyOf_int_mk Tryd.underlying5 (wf_int (by rw [minB, maxB]; omega))
  inj x y h := by injection h with _ h; omega
  back v l h := by
    obtain ⟨x, rfl, rfl, hw⟩ := keyOf_int_inv Tryd.underlying5 h
    have := int_wf hw
    rw [minB, maxB] at this
    exact ⟨x.toNat, by omega, by rw [Int.toNat_of_nonneg this.1]⟩
deriving instance DecidableEq for GI
def giC (g : GI) : List Lit := [.int .u8 g.op, .int .i64 g.a, .int .i64 g.b, .int .i64 g.c, .int .i64 g.imm]
def wK (n : Int) : Prop := -9223372036854775808 ≤ n ∧ n ≤ 9223372036854775807
def okI (g : GI) : Prop := g.op < 256 ∧ wK g.a ∧ wK g.b ∧ wK g.c ∧ wK g.imm
theorem lits_int (d : Nat) {t : TypeId} {q : IntKind} (hu : Tryd.prog.underlying t = some (.int q)) {n : Int} (h : (Lit.int q n).wf = true) : Tryd.prog.keyLits (d + 1) t [.int q n] = some [.int q n] := by
  unfold Program.keyLits
  rw [hu]
  simp [h]
theorem lits_inv {d : Nat} {t : TypeId} {q : IntKind} (hu : Tryd.prog.underlying t = some (.int q)) {v : Value} {l : List Lit} (h : Tryd.prog.keyLits d t [v] = some l) : ∃ n, v = .int q n ∧ l = [.int q n] ∧ (Lit.int q n).wf = true := by
  obtain ⟨n, e, rfl⟩ := keyLits_int' hu h
  injection e with e _
  subst e
  refine ⟨n, rfl, rfl, ?_⟩
  cases d with
  | zero => simp [Program.keyLits] at h
  | succ d =>
    unfold Program.keyLits at h
    rw [hu] at h
    simpa using h
theorem litsI (d : Nat) (c0 c1 c2 c3 c4 : Value) : Tryd.prog.keyLits (d + 1) 53 [c0, c1, c2, c3, c4] =
    (Tryd.prog.keyLits d 5 [c0]).bind fun l0 => (Tryd.prog.keyLits d 3 [c1]).bind fun l1 => (Tryd.prog.keyLits d 3 [c2]).bind fun l2 => (Tryd.prog.keyLits d 3 [c3]).bind fun l3 => (Tryd.prog.keyLits d 3 [c4]).bind fun l4 => some (l0 ++ (l1 ++ (l2 ++ (l3 ++ l4)))) := by
  have hc : Tryd.prog.cellsOf 53 = 5 := by kernel_rfl
  have hc1 : Tryd.prog.cellsOf 5 = 1 := by kernel_rfl
  have hc2 : Tryd.prog.cellsOf 3 = 1 := by kernel_rfl
  conv => lhs; unfold Program.keyLits
  rw [Tryd.underlying53]
  simp [hc, hc1, hc2]
  generalize Tryd.prog.keyLits d 5 [c0] = x0
  generalize Tryd.prog.keyLits d 3 [c1] = x1
  generalize Tryd.prog.keyLits d 3 [c2] = x2
  generalize Tryd.prog.keyLits d 3 [c3] = x3
  generalize Tryd.prog.keyLits d 3 [c4] = x4
  cases x0 <;> cases x1 <;> cases x2 <;> cases x3 <;> cases x4 <;> simp
theorem lawGI : WideMaps.KeyLaw Tryd.prog 53 := deep_law (P := Tryd.prog) (k := 53) (m := 3) (by omega) (by kernel_rfl) (by kernel_rfl) (by rw [Tryd.underlying53])
theorem keyTypeI : Tryd.prog.keyType 53 = true := by kernel_rfl
theorem sizeP : (Tryd.prog.types.size == 0) = false := by kernel_rfl
theorem typesN : ∃ d, Tryd.prog.types.size = d + 1 := by
  cases e : Tryd.prog.types.size with
  | zero => have h := sizeP; rw [e] at h; cases h
  | succ d => exact ⟨d, rfl⟩
theorem cellsI : Tryd.prog.cellsOf 53 = 5 := by kernel_rfl
theorem keyI {g : GI} (h : okI g) : keyOf Tryd.prog 53 (.agg #[.int .u8 g.op, .int .i64 g.a, .int .i64 g.b, .int .i64 g.c, .int .i64 g.imm]) = some (.string (keyBytes (giC g))) := by
  obtain ⟨h0, h1, h2, h3, h4⟩ := h
  obtain ⟨d, hd⟩ := typesN
  have hf : (Value.agg #[.int .u8 g.op, .int .i64 g.a, .int .i64 g.b, .int .i64 g.c, .int .i64 g.imm]).formed Tryd.prog 53 = true := by
    unfold Value.formed
    rw [Tryd.underlying53, cellsI]
    rfl
  unfold keyOf
  rw [Tryd.underlying53]
  simp only [keyTypeI, hf, Bool.and_true, if_true, Value.cells]
  rw [litsI, hd, lits_int d Tryd.underlying5 (wf_int (by rw [minB, maxB]; omega)), lits_int d Tryd.underlying3 (wf_int (by rw [minI, maxI]; exact h1)), lits_int d Tryd.underlying3 (wf_int (by rw [minI, maxI]; exact h2)), lits_int d Tryd.underlying3 (wf_int (by rw [minI, maxI]; exact h3)), lits_int d Tryd.underlying3 (wf_int (by rw [minI, maxI]; exact h4))]
  rfl
theorem list5 {α : Type} : ∀ l : List α, l.length = 5 → ∃ a b c d e, l = [a, b, c, d, e]
  | [a, b, c, d, e], _ => ⟨a, b, c, d, e, rfl⟩
theorem len_lits (D : Nat) (cs : List Value) (Ls : List Lit) (h1 : Tryd.prog.keyLits D 53 cs = some Ls) : cs.length = 5 := by
  cases D with
  | zero => unfold Program.keyLits at h1; cases h1
  | succ d =>
    unfold Program.keyLits at h1
    simp only [Tryd.underlying53, cellsI] at h1
    by_cases hh : cs.length = 5
    · exact hh
    · simp [hh] at h1
theorem backI (v : Value) (l : Lit) (h : keyOf Tryd.prog 53 v = some l) : ∃ g : GI, okI g ∧ v = .agg #[.int .u8 g.op, .int .i64 g.a, .int .i64 g.b, .int .i64 g.c, .int .i64 g.imm] := by
  obtain ⟨xs, Ls, rfl, h1, -⟩ := keyOf_top (P := Tryd.prog) (k := 53) (by rw [Tryd.underlying53]) h
  have hlen : xs.toList.length = 5 := len_lits _ _ _ h1
  obtain ⟨xs⟩ := xs
  obtain ⟨c0, c1, c2, c3, c4, rfl⟩ := list5 xs hlen
  rw [litsI] at h1
  simp only [Option.bind_eq_some_iff] at h1
  obtain ⟨l0, a0, l1, a1, l2, a2, l3, a3, l4, a4, -⟩ := h1
  obtain ⟨n0, rfl, -, w0⟩ := lits_inv Tryd.underlying5 a0
  obtain ⟨n1, rfl, -, w1⟩ := lits_inv Tryd.underlying3 a1
  obtain ⟨n2, rfl, -, w2⟩ := lits_inv Tryd.underlying3 a2
  obtain ⟨n3, rfl, -, w3⟩ := lits_inv Tryd.underlying3 a3
  obtain ⟨n4, rfl, -, w4⟩ := lits_inv Tryd.underlying3 a4
  have v0 := int_wf w0
  have v1 := int_wf w1
  have v2 := int_wf w2
  have v3 := int_wf w3
  have v4 := int_wf w4
  rw [minB, maxB] at v0
  rw [minI, maxI] at v1 v2 v3 v4
  obtain ⟨m, rfl⟩ := Int.eq_ofNat_of_zero_le v0.1
  exact ⟨⟨m, n1, n2, n3, n4⟩, ⟨by have := v0.2; show m < 256; omega, v1, v2, v3, v4⟩, rfl⟩
/-- Machine instructions as keys. -/
def KyI : Ky GI 53 where
  vl g := .agg #[.int .u8 g.op, .int .i64 g.a, .int .i64 g.b, .int .i64 g.c, .int .i64 g.imm]
  kl g := .string (keyBytes (giC g))
  ok := okI
  law := Keyed.of_law lawGI
  is g h := keyI h
  inj x y h := by
    obtain ⟨o, a, b, c, i⟩ := x
    obtain ⟨o', a', b', c', i'⟩ := y
    simp only [Value.agg.injEq, Array.mk.injEq, List.cons.injEq, Value.int.injEq, true_and, and_true] at h
    obtain ⟨h0, h1, h2, h3, h4⟩ := h
    have h0 : o = o' := by omega
    subst h0 h1 h2 h3 h4
    rfl
  back := backI
end Go.Proofs.YtlajdcikhbocdaaDoor

/- What the laws CodegenCounts and CodegenCounters count, in plain Lean. No walk here. -/
set_option linter.unusedVariables false
set_option linter.unusedSimpArgs false
namespace Go.Proofs.YtlajdcikhbocdaaDoor
open Go.RowKit

def oI (l : List IIns) : Nat → List Nat
  | 0 => []
  | j + 1 => oI l j ++ oT (l.getD j default).op
def oH (kind : Nat) : List Nat := if kind = 3 then [1] else []
def oW (bs : List IBlk) : Nat → List Nat
  | 0 => []
  | k + 1 => oW bs k ++ oH (bs.getD k default).kind ++ oI (bs.getD k default).code (bs.getD k default).code.length
def cI (l : List IIns) : Nat → List GI
  | 0 => []
  | j + 1 => cI l j ++ cT (l.getD j default)
theorem take_succ_getD {α : Type} [Inhabited α] (l : List α) {j : Nat} (h : j < l.length) : l.take (j + 1) = l.take j ++ [l.getD j default] := by
  rw [List.take_add_one, List.getD_eq_getElem?_getD, List.getElem?_eq_getElem h]; rfl
theorem oI_take (l : List IIns) : ∀ j, j ≤ l.length → oI l j = (l.take j).flatMap fun i => oT i.op
  | 0, _ => rfl
  | j + 1, h => by
    rw [take_succ_getD l h, List.flatMap_append, ← oI_take l j (by omega)]
    simp [oI]
theorem oI_all (l : List IIns) : oI l l.length = l.flatMap fun i => oT i.op := by
  rw [oI_take l _ (Nat.le_refl _), List.take_length]
theorem cI_take (l : List IIns) : ∀ j, j ≤ l.length → cI l j = (l.take j).flatMap cT
  | 0, _ => rfl
  | j + 1, h => by
    rw [take_succ_getD l h, List.flatMap_append, ← cI_take l j (by omega)]
    simp [cI]
theorem cI_all (l : List IIns) : cI l l.length = l.flatMap cT := by
  rw [cI_take l _ (Nat.le_refl _), List.take_length]
theorem oW_count (bs : List IBlk) (x : Nat) : ∀ k, (oW bs k).count x = (oB bs k).count x
  | 0 => rfl
  | k + 1 => by
    show (oW bs k ++ oH _ ++ oI _ _).count x = (oB bs k ++ (_ ++ oH _)).count x
    rw [List.count_append, List.count_append, List.count_append, List.count_append, oW_count bs x k, oI_all]
    omega
theorem oT_len (n : Nat) : (oT n).length ≤ 1 := by
  unfold oT
  repeat (split; exact Nat.le_refl _)
  exact Nat.zero_le _
theorem cT_len (i : IIns) : (cT i).length ≤ 1 := by
  unfold cT
  repeat (split; exact Nat.le_refl _)
  exact Nat.zero_le _
theorem oH_len (n : Nat) : (oH n).length ≤ 1 := by
  unfold oH
  split
  · exact Nat.le_refl _
  · exact Nat.zero_le _
theorem oI_len (l : List IIns) : ∀ j, (oI l j).length ≤ j
  | 0 => Nat.le_refl _
  | j + 1 => by
    show (oI l j ++ oT _).length ≤ _
    rw [List.length_append]
    have := oI_len l j
    have := oT_len (l.getD j default).op
    omega
theorem cI_len (l : List IIns) : ∀ j, (cI l j).length ≤ j
  | 0 => Nat.le_refl _
  | j + 1 => by
    show (cI l j ++ cT _).length ≤ _
    rw [List.length_append]
    have := cI_len l j
    have := cT_len (l.getD j default)
    omega
theorem oW_len (bs : List IBlk) : ∀ k, (oW bs k).length ≤ k + sumC bs k
  | 0 => Nat.le_refl _
  | k + 1 => by
    show (oW bs k ++ oH _ ++ oI _ _).length ≤ _
    rw [List.length_append, List.length_append]
    have h1 := oW_len bs k
    have h2 := oH_len (bs.getD k default).kind
    have h3 := oI_len (bs.getD k default).code (bs.getD k default).code.length
    have h4 : sumC bs (k + 1) = sumC bs k + (bs.getD k default).code.length := rfl
    omega
theorem cB_next (bs : List IBlk) (k : Nat) : cB bs (k + 1) = cB bs k ++ cI (bs.getD k default).code (bs.getD k default).code.length := by
  rw [cI_all]; rfl
theorem cB_len (bs : List IBlk) : ∀ k, (cB bs k).length ≤ sumC bs k
  | 0 => Nat.le_refl _
  | k + 1 => by
    rw [cB_next, List.length_append]
    have h1 := cB_len bs k
    have h3 := cI_len (bs.getD k default).code (bs.getD k default).code.length
    have h4 : sumC bs (k + 1) = sumC bs k + (bs.getD k default).code.length := rfl
    omega
theorem bal_zero {code : List Nat} {bs : List IBlk} {k : Nat} (h : code.filter keyO = oB bs k) {x : Nat} (hx : keyO x = true) : bal (oW bs k) code x = 0 := by
  unfold bal
  rw [oW_count, ← h, List.count_filter hx]
  omega
theorem bal_same {α : Type} [DecidableEq α] (L : List α) (x : α) : bal L L x = 0 := by
  unfold bal; omega
/-- A bound on a count. -/
theorem bal_bd {α : Type} [DecidableEq α] (L M : List α) (x : α) (h : L.length + M.length < 100000) : -100000 < bal L M x ∧ bal L M x < 100000 := by
  unfold bal
  have h1 := List.count_le_length (a := x) (l := L)
  have h2 := List.count_le_length (a := x) (l := M)
  omega
/-- The operations of the first k instructions; those of them that write counters. -/
def opsM (l : List GI) (k : Nat) : List Nat := (l.take k).map GI.op
theorem opsM_next (l : List GI) {k : Nat} (h : k < l.length) : opsM l (k + 1) = opsM l k ++ [(l.getD k default).op] := by
  unfold opsM; rw [take_succ_getD l h, List.map_append]; rfl
theorem opsM_all (l : List GI) : opsM l l.length = l.map GI.op := by unfold opsM; rw [List.take_length]
def ctrM (l : List GI) (k : Nat) : List GI := (l.take k).filter pC
theorem ctrM_next (l : List GI) {k : Nat} (h : k < l.length) : ctrM l (k + 1) = if pC (l.getD k default) = true then ctrM l k ++ [l.getD k default] else ctrM l k := by
  unfold ctrM
  rw [take_succ_getD l h, List.filter_append]
  split
  · rename_i e; rw [List.filter_cons, if_pos e]; rfl
  · rename_i e; rw [List.filter_cons, if_neg e, List.filter_nil, List.append_nil]
theorem ctrM_all (l : List GI) : ctrM l l.length = l.filter pC := by unfold ctrM; rw [List.take_length]
theorem opsM_len (l : List GI) (k : Nat) : (opsM l k).length ≤ l.length := by
  unfold opsM; rw [List.length_map]; exact List.length_take_le' ..
theorem ctrM_len (l : List GI) (k : Nat) : (ctrM l k).length ≤ l.length := by
  unfold ctrM; exact Nat.le_trans (List.length_filter_le ..) (List.length_take_le' ..)
theorem val_all {code : List GI} {data : Int} {refs : List (Int × Bool)} (h : valO code data refs = true) (k : Nat) (hk : k < code.length) : vG (code.getD k default) = true := by
  unfold valO at h
  rw [Bool.and_eq_true] at h
  have go : ∀ (l : List GI) (q : Nat) (rs : List (Int × Bool)) (n : Int), scanV n q l rs = true → ∀ k, k < l.length → vG (l.getD k default) = true := by
    intro l
    induction l with
    | nil => intro q rs n _ k hk; simp at hk
    | cons i l ih =>
      intro q rs n h k hk
      unfold scanV at h
      rw [Bool.and_eq_true, Bool.and_eq_true] at h
      cases k with
      | zero => exact h.1.1
      | succ k =>
        rw [List.getD_cons_succ]
        have h2 := h.2
        split at h2
        · split at h2
          · cases h2
          · rw [Bool.and_eq_true] at h2
            exact ih _ _ _ h2.2 k (by simpa using hk)
        · exact ih _ _ _ h2 k (by simpa using hk)
  exact go _ _ _ _ h.2 k hk
theorem vG_op {i : GI} (h : vG i = true) : i.op < 30 := by
  unfold vG vld at h
  rw [Bool.and_eq_true] at h
  exact of_decide_eq_true h.1
end Go.Proofs.YtlajdcikhbocdaaDoor

/- The law CodegenCounts. -/
set_option linter.unusedVariables false
set_option linter.unusedSimpArgs false
namespace Go.Proofs.YtlajdcikhbocdaaDoor
open Go.RowKit Go.Maps

set_option maxHeartbeats 1600000 in
set_option maxRecDepth 20000 in
theorem short_any (sv : Value) (S : List Arr) (w : World) (hS : ArsAt w sv S) (hl : S.length ≤ 4) :
    Calls Tryd.prog 18 #[sv] w fun e w' => ∃ b, e = .returned (.bool b) ∧ Below w.heap.size w w' := by
  obtain ⟨sp, sc, rfl⟩ := hS.shape
  have HS := Lib.hid hS
  clear hS
  go_enter Tryd.func18, Tryd.ntmps18
  go_wp2_with fail
  go_loopw [3] (fun s3 wx => ∃ k : Nat, s3 = .int .i64 k ∧ k ≤ S.length ∧ Hid (Below w.heap.size w wx)) (fun s3 _ => S.length - (intOf s3).toNat)
  case atStart => exact ⟨0, rfl, Nat.zero_le _, Below.refl _ _⟩
  case round =>
    obtain ⟨k, rfl, hk, HB⟩ := hrel
    obtain ⟨w2, rfl⟩ : ∃ W : World, W = wr := ⟨_, rfl⟩
    by_cases hlt : k < S.length
    · have hltI : (k : Int) < S.length := by omega
      obtain ⟨_, _, e1, hen⟩ := HS.out.below HB.out (Nat.le_refl _)
      injection e1 with e1 e2 e3
      subst e1 e3
      obtain ⟨m, off, rfl, hm, n0, n1⟩ := hen k hlt
      clear hen e2 n0
      generalize (S.getD k default).2 = ln at n1
      by_cases hbig : ln > 32
      · go_wp2_with fail
        go_ret
        exact ⟨_, rfl, HB.out⟩
      · go_wp2_with fail
        go_roundw
        case rel => exact ⟨k + 1, by go_num, by omega, HB⟩
        case measure => simp [intOf]; omega
    · have hkn : k = S.length := by omega
      subst hkn
      go_wp2_with fail
      go_ret
      exact ⟨_, rfl, HB.out⟩

/-- A counting map made in block W0.heap.size, behind the world W0. -/
structure CtRel {α : Type} [DecidableEq α] {k : TypeId} (K : Ky α k) (W0 : World) (L M : List α) (w : World) : Prop where
  bel : Below W0.heap.size W0 w
  ct : CtAt K w W0.heap.size L M
section
variable {α : Type} [DecidableEq α] {k : TypeId} {K : Ky α k} {W0 w w' : World} {L M L' M' : List α}
theorem CtRel.keep (h : CtRel K W0 L M w) (hb : Below w.heap.size w w') : CtRel K W0 L M w' := ⟨h.bel.trans (hb.mono h.bel.size), h.ct.keep hb⟩
theorem CtRel.turn (h : CtRel K W0 L M w) (hg : w.grownBy w' (some W0.heap.size)) (hc : CtAt K w' W0.heap.size L' M') : CtRel K W0 L' M' w' :=
  ⟨Below.grown h.bel hg h.bel.size (fun q hq => by cases hq; exact Nat.le_refl _), hc⟩
theorem CtRel.made (K : Ky α k) (W0 : World) : CtRel K W0 [] [] (W0.alloc (.map #[] 0)) := ⟨bAlloc (Nat.le_refl _) (Below.refl _ _), CtAt.made K W0⟩
end

set_option maxHeartbeats 6400000 in
set_option maxRecDepth 20000 in
theorem countsLaw (nm : ByteArray) (R : Int) (av bv sv : Value) (A S : List Arr) (bs : List IBlk) (w : World) (hT : Tab w) (hZ : TabZ w) (hF : FnIn w av bv A bs) (hS : ArsAt w sv S) (hSx : ∀ k, k < S.length → (S.getD k default).1.size ≤ maxLen) (hSl : S.length ≤ 9223372036854775807) :
    Calls Tryd.prog 6 #[.agg #[.string nm, .int .i64 R, av, bv], sv] w fun e w' => e = .returned (.bool true) ∧ Below w.heap.size w w' := by
  obtain ⟨ap, ac, rfl⟩ := hF.a.shape
  obtain ⟨bp, bc, rfl⟩ := hF.b.shape
  obtain ⟨spp, sc, rfl⟩ := hS.shape
  obtain ⟨W1, hW1⟩ : ∃ W : World, W = w.alloc (.cells #[.string nm, .int .i64 R, .slice ap A.length ac, .slice bp bs.length bc] 25) := ⟨_, rfl⟩
  have hb0 : Below w.heap.size w W1 := by rw [hW1]; exact bAlloc (Nat.le_refl _) (Below.refl _ _)
  have HL1 := Lib.hid (show LawAt w W1 nm R (.slice ap A.length ac) (.slice bp bs.length bc) A bs W1 from ⟨Below.refl _ _, hF.below hb0, hT.of_below hb0, hZ.of_below hb0, by rw [hW1]; exact RowC2.made w _ 25⟩)
  have HS1 := Lib.hid (hS.below hb0 (Nat.le_refl _))
  have HB0 := Lib.hid hb0
  have HSX := Lib.hid hSx
  clear hb0 hF hT hZ hS hSx
  go_enter Tryd.func6, Tryd.ntmps6
  go_upto_region 1 with fail
  rw [← hW1]
  clear hW1
  go_wp2_with fail
  refine (awake21 W1 HL1.out.tab HL1.out.tz).mono ?_
  rintro e w2 ⟨rfl, hb2⟩
  have HL2 := Lib.hid (HL1.out.keep hb2)
  have HS2 := Lib.hid (HS1.out.below hb2 (Nat.le_refl _))
  clear hb2 HL1 HS1
  have r0 := HL2.out.row
  have rl := r0.lt
  have q0 := r0.at 0 rfl
  have q1 := r0.at 1 rfl
  have q2 := r0.at 2 rfl
  have q3 := r0.at 3 rfl
  clear r0
  go_wp2_with fail
  by_cases hsm : Small R A bs
  · refine (small_any nm R _ _ A bs w2 HL2.out.fn.a HL2.out.fn.b 1 (fun _ => rfl) (fun h => absurd hsm h)).mono ?_
    rintro e w3 ⟨rfl, hb3⟩
    have HL3 := Lib.hid (HL2.out.keep hb3)
    have HS3 := Lib.hid (HS2.out.below hb3 (Nat.le_refl _))
    have HSM := Lib.hid hsm
    clear hb3 HL2 HS2 hsm rl q0 q1 q2 q3
    by_cases h4 : 4 < S.length
    · have h4I : (S.length : Int) > 4 := by omega
      clear h4
      go_wp2_with fail
      go_ret
      exact ⟨rfl, HB0.out.trans (HL3.out.bel.mono HB0.out.size)⟩
    have h4I : ¬ (S.length : Int) > 4 := by omega
    have HS4 := Lib.hid (show S.length ≤ 10000 by omega)
    have hs4 : S.length ≤ 4 := by omega
    clear h4 hSl
    go_wp2_with fail
    clear h4I
    refine (short_any _ S w3 HS3.out hs4).mono ?_
    rintro e w4 ⟨sb, rfl, hb4⟩
    have HL4 := Lib.hid (HL3.out.keep hb4)
    have HS4' := Lib.hid (HS3.out.below hb4 (Nat.le_refl _))
    clear hb4 HL3 HS3 hs4
    cases sb with
    | false =>
      go_wp2_with fail
      go_ret
      exact ⟨rfl, HB0.out.trans (HL4.out.bel.mono HB0.out.size)⟩
    | true =>
      have r0 := HL4.out.row
      have rl := r0.lt
      have q0 := r0.at 0 rfl
      have q1 := r0.at 1 rfl
      have q2 := r0.at 2 rfl
      have q3 := r0.at 3 rfl
      clear r0
      go_wp2_with fail
      refine (HL4.out.fn.valid HSM.out nm HS4'.out HSX.out HS4.out).mono ?_
      rintro e w5 ⟨rfl, hb5⟩
      have HL5 := Lib.hid (HL4.out.keep hb5)
      clear hb5 HL4 HS4' rl q0 q1 q2 q3
      by_cases hv : vFun R A S bs = true
      · rw [hv]
        obtain ⟨h0, h1, -⟩ := (vFun_iff _ _ _ _).1 hv
        obtain ⟨Rn, rfl⟩ := Int.eq_ofNat_of_zero_le h1.1
        have ha := arr_small hv
        have hA4 := ha.1
        have had := addrG_small (fun k hk => (ha.2 k hk).2) A.length (Nat.le_refl _)
        have HVF := Lib.hid hv
        clear h0 h1 ha
        have hbl := HSM.out.1
        have r0 := HL5.out.row
        have rl := r0.lt
        have q0 := r0.at 0 rfl
        have q1 := r0.at 1 rfl
        have q2 := r0.at 2 rfl
        have q3 := r0.at 3 rfl
        clear r0
        go_wp2_with fail
        refine (task_yes nm Rn _ _ A bs w5 (HL5.out.fn.tk HSM.out HL5.out.tz) (vFun_ment hv) (by have := HSM.out.2.1; omega)).mono ?_
        rintro e w6 ⟨c, n, cv, rv, rfl, ⟨hp, hn⟩, hc, hr, hb6⟩
        have HAO := Lib.hid (all_ok hn hp hv HSM.out.1 HSM.out.tot (data := addrG A A.length + n) (by omega))
        have HL6 := Lib.hid (HL5.out.keep hb6)
        have HG := Lib.hid (GsRd.of_own hc)
        have hrf := RfRd.of_own hr
        generalize resG (allG c n bs) = code at HG HAO
        have hlen : code.length ≤ 4096 := by rw [HAO.out.2.1.2]; exact HAO.out.2.1.1
        have HVG := Lib.hid (val_all HAO.out.1)
        have HAO := Lib.hid HAO.out.2.2
        generalize (allG c n bs).refs = refs at hrf
        obtain ⟨cvp, cvc, rfl⟩ := HG.out.shape
        obtain ⟨rvp, rvc, rfl, -, -⟩ := id hrf
        generalize addrG A A.length + (n : Int) = data
        clear hp hn hc hr hb6 hrf hv had hA4 HL5 rl q0 q1 q2 q3
        have HRO := Lib.hid (RowC2.made w6 [.string nm, .slice cvp code.length cvc, .int .i64 data, .slice rvp refs.length rvc] 31)
        have HBX := Lib.hid (show ∀ o : Obj, Below w6.heap.size w6 (w6.alloc o) from fun o => bAlloc (Nat.le_refl _) (Below.refl _ _))
        go_upto_region 6 with fail
        obtain ⟨w7, hw7⟩ : ∃ W : World, W = w6.alloc (.cells #[.string nm, .slice cvp code.length cvc, .int .i64 data, .slice rvp refs.length rvc] 31) := ⟨_, rfl⟩
        have hb7 : Below w6.heap.size w6 w7 := by rw [hw7]; exact HBX.out _
        have HRO : Hid (RowC2 w7 w6.heap.size [.string nm, .slice cvp code.length cvc, .int .i64 data, .slice rvp refs.length rvc]) := by rw [hw7]; exact HRO
        rw [← hw7]
        clear hw7 HBX
        have HL7 := Lib.hid (HL6.out.keep hb7)
        have HG7 := Lib.hid (HG.out.below hb7 (Nat.le_refl _))
        have HW7 := Lib.hid (HL7.out.bel)
        clear hb7 HL6 HG
        have hmm := @run_makeMap Tryd.prog
        have HR0 := Lib.hid (CtRel.made KyB w7)
        go_wp2_with fail
        clear hmm
        go_loopw [8] (fun s8 wx => ∃ k : Nat, s8 = .int .i64 k ∧ k ≤ bs.length ∧ Hid (CtRel KyB w7 (oW bs k) [] wx)) (fun s8 _ => bs.length - (intOf s8).toNat)
        case atStart => exact ⟨0, rfl, Nat.zero_le _, HR0⟩
        case round =>
          clear HR0
          obtain ⟨k, rfl, hk, HV⟩ := hrel
          obtain ⟨w8, rfl⟩ : ∃ W : World, W = wr := ⟨_, rfl⟩
          have HRW := Lib.hid (HL7.out.row.below HV.out.bel HL7.out.row.lt)
          have f3 := HRW.out.at 3 rfl
          have fl := HRW.out.lt
          by_cases hlt : k < bs.length
          · have hltI : (k : Int) < bs.length := by omega
            have hL0 : (oW bs k).length ≤ 320 := by have h1 := oW_len bs k; have h2 := sum_le bs hk; have h3 := HSM.out.tot; have h4 := HSM.out.1; omega
            have hcl := (HSM.out.2.2.2 k hlt).1
            have HIS := Lib.hid (fun j (hj : j < (bs.getD k default).code.length) => ((HL7.out.fn.bx k hlt).1.2 j hj).2)
            have HMB := Lib.hid (show oW bs (k + 1) = oW bs k ++ oH (bs.getD k default).kind ++ oI (bs.getD k default).code (bs.getD k default).code.length from rfl)
            obtain ⟨_, _, e1, hen⟩ := HL7.out.fn.b
            injection e1 with e1 e2 e3
            subst e1 e3
            obtain ⟨m, off, cp, cc, rfl, hm, hins, n0, n1, -⟩ := hen k hlt
            clear hen e2
            have HN0 := Lib.hid n0
            have HM := Lib.hid hm
            rw [← HV.out.bel.cell (p := ⟨m, off + k * 5 + 1, none⟩) hm] at n1
            have hm1 : m < w8.heap.size := Nat.lt_of_lt_of_le hm HV.out.bel.size
            clear n0 hm
            generalize bs.getD k default = en at hins hcl HIS HMB HN0 n1
            obtain ⟨code2, kind, x, tg, els⟩ := en
            simp only at hins hcl HIS HMB HN0 n1
            generalize oW bs k = L0 at HV HMB hL0
            have HI1 := Lib.hid hins
            clear hins
            rcases (show kind = 3 ∨ kind ≠ 3 by omega) with hk3 | hk3
            · have g3 : ((kind : Int) == 3) = true := beq_iff_eq.2 (by omega)
              have HOH := Lib.hid (show L0 ++ oH kind = L0 ++ [1] by unfold oH; rw [if_pos hk3])
              obtain ⟨cq, hcq⟩ : ∃ q, bal L0 ([] : List Nat) 1 = q := ⟨_, rfl⟩
              have hbd := bal_bd L0 ([] : List Nat) 1 (by simp only [List.length_nil]; omega)
              rw [hcq] at hbd
              have hl : (Instr.lookup 46 (.map (some w7.heap.size)) (.int .u8 1) false).run Tryd.prog w8 = .ok (.int .i64 (bal L0 ([] : List Nat) 1)) w8 := HV.out.ct.look (e := 3) Tryd.underlying46 (zeroI _) (1 : Nat) (show (1 : Nat) < 256 by decide)
              rw [hcq] at hl
              have hwr : IntKind.i64.wrap (cq + 1) = cq + 1 := IntWalk.i64_in _ ⟨by omega, by omega⟩
              have HCQ := Lib.hid hcq
              have HLB := Lib.hid (show (L0).length + ([] : List Nat).length < 100000 by simp only [List.length_nil]; omega)
              clear hcq hbd
              clear hk3
              go_wp2_with (first | (at_mapUpdate; refine wpList_inc rfl _ _ _ 46 3 rfl Tryd.underlying46 w7.heap.size L0 [] HV.out.ct rfl (1 : Nat) rfl (show (1 : Nat) < 256 by decide) HLB.out cq HCQ.out rfl ?_))
              intro w9 hct hg
              have HN := Lib.hid (show CtRel KyB w7 (L0 ++ oH kind) [] w9 by rw [HOH.out]; exact HV.out.turn hg hct)
              clear hct hg hl hwr f3 fl HRW n1 HV HCQ HLB
              go_wp2_with fail
              obtain ⟨L1, hL1⟩ : ∃ L, L = L0 ++ oH kind := ⟨_, rfl⟩
              have HMB2 := Lib.hid (show oW bs (k + 1) = L1 ++ oI code2 code2.length by rw [hL1]; exact HMB.out)
              have hL1n : L1.length ≤ 321 := by rw [hL1, List.length_append]; have := oH_len kind; omega
              rw [← hL1] at HN
              clear hL1 HMB HOH g3 hL0
              go_loopw [9] (fun s9 wx => ∃ j : Nat, s9 = .int .i64 j ∧ j ≤ code2.length ∧ Hid (CtRel KyB w7 (L1 ++ oI code2 j) [] wx)) (fun s9 _ => code2.length - (intOf s9).toNat)
              case atStart => exact ⟨0, rfl, Nat.zero_le _, (show CtRel KyB w7 (L1 ++ oI code2 0) [] _ by rw [show oI code2 0 = [] from rfl, List.append_nil]; exact HN.out)⟩
              case round =>
                clear HN
                obtain ⟨j, rfl, hj, HV2⟩ := hrel
                obtain ⟨w10, rfl⟩ : ∃ W : World, W = wr := ⟨_, rfl⟩
                have HRW := Lib.hid (HL7.out.row.below HV2.out.bel HL7.out.row.lt)
                have f3 := HRW.out.at 3 rfl
                have fl := HRW.out.lt
                have n0 := (HV2.out.bel.cell (p := ⟨m, off + k * 5, none⟩) HM.out).trans HN0.out
                have hm2 : m < w10.heap.size := Nat.lt_of_lt_of_le HM.out HV2.out.bel.size
                by_cases hltj : j < code2.length
                · have hltJ : (j : Int) < code2.length := by omega
                  have hop := HIS.out j hltj
                  have hil : (L1 ++ oI code2 j).length ≤ 400 := by rw [List.length_append]; have := oI_len code2 j; omega
                  have HMI := Lib.hid (show L1 ++ oI code2 (j + 1) = (L1 ++ oI code2 j) ++ oT (code2.getD j default).op by rw [List.append_assoc]; rfl)
                  obtain ⟨_, _, e1, hen⟩ := HI1.out
                  injection e1 with e1 e2 e3
                  subst e1 e3
                  obtain ⟨m2, off2, rfl, hm3, i0, -⟩ := hen j hltj
                  clear hen e2
                  rw [← HV2.out.bel.cell (p := ⟨m2, off2 + j * 6, none⟩) hm3] at i0
                  have hm4 : m2 < w10.heap.size := Nat.lt_of_lt_of_le hm3 HV2.out.bel.size
                  generalize code2.getD j default = ii at i0 hop HMI
                  obtain ⟨op, dst, xx, yy, imm, sym⟩ := ii
                  simp only at i0 hop HMI
                  generalize L1 ++ oI code2 j = L2 at HV2 HMI hil
                  rcases (show op = 11 ∨ op = 12 ∨ op = 9 ∨ op = 10 ∨ (op ≠ 9 ∧ op ≠ 10 ∧ op ≠ 11 ∧ op ≠ 12) by omega) with g | g | g | g | ⟨g9, g10, g11, g12⟩
                  · have HOT := Lib.hid (show L1 ++ oI code2 (j + 1) = L2 ++ [28] from HMI.out.trans (by rw [g]; rfl))
                    have f11 : ((op : Int) == 11) = true := beq_iff_eq.2 (by omega)
                    obtain ⟨cq, hcq⟩ : ∃ q, bal L2 ([] : List Nat) 28 = q := ⟨_, rfl⟩
                    have hbd := bal_bd L2 ([] : List Nat) 28 (by simp only [List.length_nil]; omega)
                    rw [hcq] at hbd
                    have hl : (Instr.lookup 46 (.map (some w7.heap.size)) (.int .u8 28) false).run Tryd.prog w10 = .ok (.int .i64 (bal L2 ([] : List Nat) 28)) w10 := HV2.out.ct.look (e := 3) Tryd.underlying46 (zeroI _) (28 : Nat) (show (28 : Nat) < 256 by decide)
                    rw [hcq] at hl
                    have hwr : IntKind.i64.wrap (cq + 1) = cq + 1 := IntWalk.i64_in _ ⟨by omega, by omega⟩
                    have HCQ := Lib.hid hcq
                    have HLB := Lib.hid (show (L2).length + ([] : List Nat).length < 100000 by simp only [List.length_nil]; omega)
                    clear hcq hbd
                    clear g hop hil
                    go_wp2_with (first | (at_mapUpdate; refine wpList_inc rfl _ _ _ 46 3 rfl Tryd.underlying46 w7.heap.size L2 [] HV2.out.ct rfl (28 : Nat) rfl (show (28 : Nat) < 256 by decide) HLB.out cq HCQ.out rfl ?_))
                    intro w11 hct hg
                    have HN3 := Lib.hid (HV2.out.turn hg hct)
                    clear hct hg hl hwr HV2 HCQ HLB
                    go_wp2_with fail
                    go_roundw
                    case rel => exact ⟨j + 1, by go_num, by omega, (show CtRel KyB w7 _ [] _ by rw [HOT.out]; exact HN3.out)⟩
                    case measure => simp [intOf]; omega
                  · have HOT := Lib.hid (show L1 ++ oI code2 (j + 1) = L2 ++ [29] from HMI.out.trans (by rw [g]; rfl))
                    have f11 : ((op : Int) == 11) = false := beq_eq_false_iff_ne.2 (by omega)
                    have f12 : ((op : Int) == 12) = true := beq_iff_eq.2 (by omega)
                    obtain ⟨cq, hcq⟩ : ∃ q, bal L2 ([] : List Nat) 29 = q := ⟨_, rfl⟩
                    have hbd := bal_bd L2 ([] : List Nat) 29 (by simp only [List.length_nil]; omega)
                    rw [hcq] at hbd
                    have hl : (Instr.lookup 46 (.map (some w7.heap.size)) (.int .u8 29) false).run Tryd.prog w10 = .ok (.int .i64 (bal L2 ([] : List Nat) 29)) w10 := HV2.out.ct.look (e := 3) Tryd.underlying46 (zeroI _) (29 : Nat) (show (29 : Nat) < 256 by decide)
                    rw [hcq] at hl
                    have hwr : IntKind.i64.wrap (cq + 1) = cq + 1 := IntWalk.i64_in _ ⟨by omega, by omega⟩
                    have HCQ := Lib.hid hcq
                    have HLB := Lib.hid (show (L2).length + ([] : List Nat).length < 100000 by simp only [List.length_nil]; omega)
                    clear hcq hbd
                    clear g hop hil
                    go_wp2_with (first | (at_mapUpdate; refine wpList_inc rfl _ _ _ 46 3 rfl Tryd.underlying46 w7.heap.size L2 [] HV2.out.ct rfl (29 : Nat) rfl (show (29 : Nat) < 256 by decide) HLB.out cq HCQ.out rfl ?_))
                    intro w11 hct hg
                    have HN3 := Lib.hid (HV2.out.turn hg hct)
                    clear hct hg hl hwr HV2 HCQ HLB
                    go_wp2_with fail
                    go_roundw
                    case rel => exact ⟨j + 1, by go_num, by omega, (show CtRel KyB w7 _ [] _ by rw [HOT.out]; exact HN3.out)⟩
                    case measure => simp [intOf]; omega
                  · have HOT := Lib.hid (show L1 ++ oI code2 (j + 1) = L2 ++ [26] from HMI.out.trans (by rw [g]; rfl))
                    have f11 : ((op : Int) == 11) = false := beq_eq_false_iff_ne.2 (by omega)
                    have f12 : ((op : Int) == 12) = false := beq_eq_false_iff_ne.2 (by omega)
                    have f9 : ((op : Int) == 9) = true := beq_iff_eq.2 (by omega)
                    obtain ⟨cq, hcq⟩ : ∃ q, bal L2 ([] : List Nat) 26 = q := ⟨_, rfl⟩
                    have hbd := bal_bd L2 ([] : List Nat) 26 (by simp only [List.length_nil]; omega)
                    rw [hcq] at hbd
                    have hl : (Instr.lookup 46 (.map (some w7.heap.size)) (.int .u8 26) false).run Tryd.prog w10 = .ok (.int .i64 (bal L2 ([] : List Nat) 26)) w10 := HV2.out.ct.look (e := 3) Tryd.underlying46 (zeroI _) (26 : Nat) (show (26 : Nat) < 256 by decide)
                    rw [hcq] at hl
                    have hwr : IntKind.i64.wrap (cq + 1) = cq + 1 := IntWalk.i64_in _ ⟨by omega, by omega⟩
                    have HCQ := Lib.hid hcq
                    have HLB := Lib.hid (show (L2).length + ([] : List Nat).length < 100000 by simp only [List.length_nil]; omega)
                    clear hcq hbd
                    clear g hop hil
                    go_wp2_with (first | (at_mapUpdate; refine wpList_inc rfl _ _ _ 46 3 rfl Tryd.underlying46 w7.heap.size L2 [] HV2.out.ct rfl (26 : Nat) rfl (show (26 : Nat) < 256 by decide) HLB.out cq HCQ.out rfl ?_))
                    intro w11 hct hg
                    have HN3 := Lib.hid (HV2.out.turn hg hct)
                    clear hct hg hl hwr HV2 HCQ HLB
                    go_wp2_with fail
                    go_roundw
                    case rel => exact ⟨j + 1, by go_num, by omega, (show CtRel KyB w7 _ [] _ by rw [HOT.out]; exact HN3.out)⟩
                    case measure => simp [intOf]; omega
                  · have HOT := Lib.hid (show L1 ++ oI code2 (j + 1) = L2 ++ [27] from HMI.out.trans (by rw [g]; rfl))
                    have f11 : ((op : Int) == 11) = false := beq_eq_false_iff_ne.2 (by omega)
                    have f12 : ((op : Int) == 12) = false := beq_eq_false_iff_ne.2 (by omega)
                    have f9 : ((op : Int) == 9) = false := beq_eq_false_iff_ne.2 (by omega)
                    have f10 : ((op : Int) == 10) = true := beq_iff_eq.2 (by omega)
                    obtain ⟨cq, hcq⟩ : ∃ q, bal L2 ([] : List Nat) 27 = q := ⟨_, rfl⟩
                    have hbd := bal_bd L2 ([] : List Nat) 27 (by simp only [List.length_nil]; omega)
                    rw [hcq] at hbd
                    have hl : (Instr.lookup 46 (.map (some w7.heap.size)) (.int .u8 27) false).run Tryd.prog w10 = .ok (.int .i64 (bal L2 ([] : List Nat) 27)) w10 := HV2.out.ct.look (e := 3) Tryd.underlying46 (zeroI _) (27 : Nat) (show (27 : Nat) < 256 by decide)
                    rw [hcq] at hl
                    have hwr : IntKind.i64.wrap (cq + 1) = cq + 1 := IntWalk.i64_in _ ⟨by omega, by omega⟩
                    have HCQ := Lib.hid hcq
                    have HLB := Lib.hid (show (L2).length + ([] : List Nat).length < 100000 by simp only [List.length_nil]; omega)
                    clear hcq hbd
                    clear g hop hil
                    go_wp2_with (first | (at_mapUpdate; refine wpList_inc rfl _ _ _ 46 3 rfl Tryd.underlying46 w7.heap.size L2 [] HV2.out.ct rfl (27 : Nat) rfl (show (27 : Nat) < 256 by decide) HLB.out cq HCQ.out rfl ?_))
                    intro w11 hct hg
                    have HN3 := Lib.hid (HV2.out.turn hg hct)
                    clear hct hg hl hwr HV2 HCQ HLB
                    go_wp2_with fail
                    go_roundw
                    case rel => exact ⟨j + 1, by go_num, by omega, (show CtRel KyB w7 _ [] _ by rw [HOT.out]; exact HN3.out)⟩
                    case measure => simp [intOf]; omega
                  · have HOT := Lib.hid (show L1 ++ oI code2 (j + 1) = L2 from HMI.out.trans (by unfold oT; rw [if_neg g9, if_neg g10, if_neg g11, if_neg g12, List.append_nil]))
                    have f11 : ((op : Int) == 11) = false := beq_eq_false_iff_ne.2 (by omega)
                    have f12 : ((op : Int) == 12) = false := beq_eq_false_iff_ne.2 (by omega)
                    have f9 : ((op : Int) == 9) = false := beq_eq_false_iff_ne.2 (by omega)
                    have f10 : ((op : Int) == 10) = false := beq_eq_false_iff_ne.2 (by omega)
                    clear g9 g10 g11 g12 hop hil
                    go_wp2_with fail
                    go_roundw
                    case rel => exact ⟨j + 1, by go_num, by omega, (show CtRel KyB w7 _ [] _ by rw [HOT.out]; exact HV2.out)⟩
                    case measure => simp [intOf]; omega
                · have hjn : j = code2.length := by omega
                  subst hjn
                  go_wp2_with fail
                  go_roundw
                  case rel => exact ⟨k + 1, by go_num, by omega, (show CtRel KyB w7 _ [] _ by rw [HMB2.out]; exact HV2.out)⟩
                  case measure => simp [intOf]; omega
            · have g3 : ((kind : Int) == 3) = false := beq_eq_false_iff_ne.2 (by omega)
              have HOH := Lib.hid (show L0 ++ oH kind = L0 by unfold oH; rw [if_neg hk3, List.append_nil])
              have HN := Lib.hid (show CtRel KyB w7 (L0 ++ oH kind) [] w8 by rw [HOH.out]; exact HV.out)
              clear hk3 HV
              go_wp2_with fail
              clear f3 fl HRW n1
              obtain ⟨L1, hL1⟩ : ∃ L, L = L0 ++ oH kind := ⟨_, rfl⟩
              have HMB2 := Lib.hid (show oW bs (k + 1) = L1 ++ oI code2 code2.length by rw [hL1]; exact HMB.out)
              have hL1n : L1.length ≤ 321 := by rw [hL1, List.length_append]; have := oH_len kind; omega
              rw [← hL1] at HN
              clear hL1 HMB HOH g3 hL0
              go_loopw [9] (fun s9 wx => ∃ j : Nat, s9 = .int .i64 j ∧ j ≤ code2.length ∧ Hid (CtRel KyB w7 (L1 ++ oI code2 j) [] wx)) (fun s9 _ => code2.length - (intOf s9).toNat)
              case atStart => exact ⟨0, rfl, Nat.zero_le _, (show CtRel KyB w7 (L1 ++ oI code2 0) [] _ by rw [show oI code2 0 = [] from rfl, List.append_nil]; exact HN.out)⟩
              case round =>
                clear HN
                obtain ⟨j, rfl, hj, HV2⟩ := hrel
                obtain ⟨w10, rfl⟩ : ∃ W : World, W = wr := ⟨_, rfl⟩
                have HRW := Lib.hid (HL7.out.row.below HV2.out.bel HL7.out.row.lt)
                have f3 := HRW.out.at 3 rfl
                have fl := HRW.out.lt
                have n0 := (HV2.out.bel.cell (p := ⟨m, off + k * 5, none⟩) HM.out).trans HN0.out
                have hm2 : m < w10.heap.size := Nat.lt_of_lt_of_le HM.out HV2.out.bel.size
                by_cases hltj : j < code2.length
                · have hltJ : (j : Int) < code2.length := by omega
                  have hop := HIS.out j hltj
                  have hil : (L1 ++ oI code2 j).length ≤ 400 := by rw [List.length_append]; have := oI_len code2 j; omega
                  have HMI := Lib.hid (show L1 ++ oI code2 (j + 1) = (L1 ++ oI code2 j) ++ oT (code2.getD j default).op by rw [List.append_assoc]; rfl)
                  obtain ⟨_, _, e1, hen⟩ := HI1.out
                  injection e1 with e1 e2 e3
                  subst e1 e3
                  obtain ⟨m2, off2, rfl, hm3, i0, -⟩ := hen j hltj
                  clear hen e2
                  rw [← HV2.out.bel.cell (p := ⟨m2, off2 + j * 6, none⟩) hm3] at i0
                  have hm4 : m2 < w10.heap.size := Nat.lt_of_lt_of_le hm3 HV2.out.bel.size
                  generalize code2.getD j default = ii at i0 hop HMI
                  obtain ⟨op, dst, xx, yy, imm, sym⟩ := ii
                  simp only at i0 hop HMI
                  generalize L1 ++ oI code2 j = L2 at HV2 HMI hil
                  rcases (show op = 11 ∨ op = 12 ∨ op = 9 ∨ op = 10 ∨ (op ≠ 9 ∧ op ≠ 10 ∧ op ≠ 11 ∧ op ≠ 12) by omega) with g | g | g | g | ⟨g9, g10, g11, g12⟩
                  · have HOT := Lib.hid (show L1 ++ oI code2 (j + 1) = L2 ++ [28] from HMI.out.trans (by rw [g]; rfl))
                    have f11 : ((op : Int) == 11) = true := beq_iff_eq.2 (by omega)
                    obtain ⟨cq, hcq⟩ : ∃ q, bal L2 ([] : List Nat) 28 = q := ⟨_, rfl⟩
                    have hbd := bal_bd L2 ([] : List Nat) 28 (by simp only [List.length_nil]; omega)
                    rw [hcq] at hbd
                    have hl : (Instr.lookup 46 (.map (some w7.heap.size)) (.int .u8 28) false).run Tryd.prog w10 = .ok (.int .i64 (bal L2 ([] : List Nat) 28)) w10 := HV2.out.ct.look (e := 3) Tryd.underlying46 (zeroI _) (28 : Nat) (show (28 : Nat) < 256 by decide)
                    rw [hcq] at hl
                    have hwr : IntKind.i64.wrap (cq + 1) = cq + 1 := IntWalk.i64_in _ ⟨by omega, by omega⟩
                    have HCQ := Lib.hid hcq
                    have HLB := Lib.hid (show (L2).length + ([] : List Nat).length < 100000 by simp only [List.length_nil]; omega)
                    clear hcq hbd
                    clear g hop hil
                    go_wp2_with (first | (at_mapUpdate; refine wpList_inc rfl _ _ _ 46 3 rfl Tryd.underlying46 w7.heap.size L2 [] HV2.out.ct rfl (28 : Nat) rfl (show (28 : Nat) < 256 by decide) HLB.out cq HCQ.out rfl ?_))
                    intro w11 hct hg
                    have HN3 := Lib.hid (HV2.out.turn hg hct)
                    clear hct hg hl hwr HV2 HCQ HLB
                    go_wp2_with fail
                    go_roundw
                    case rel => exact ⟨j + 1, by go_num, by omega, (show CtRel KyB w7 _ [] _ by rw [HOT.out]; exact HN3.out)⟩
                    case measure => simp [intOf]; omega
                  · have HOT := Lib.hid (show L1 ++ oI code2 (j + 1) = L2 ++ [29] from HMI.out.trans (by rw [g]; rfl))
                    have f11 : ((op : Int) == 11) = false := beq_eq_false_iff_ne.2 (by omega)
                    have f12 : ((op : Int) == 12) = true := beq_iff_eq.2 (by omega)
                    obtain ⟨cq, hcq⟩ : ∃ q, bal L2 ([] : List Nat) 29 = q := ⟨_, rfl⟩
                    have hbd := bal_bd L2 ([] : List Nat) 29 (by simp only [List.length_nil]; omega)
                    rw [hcq] at hbd
                    have hl : (Instr.lookup 46 (.map (some w7.heap.size)) (.int .u8 29) false).run Tryd.prog w10 = .ok (.int .i64 (bal L2 ([] : List Nat) 29)) w10 := HV2.out.ct.look (e := 3) Tryd.underlying46 (zeroI _) (29 : Nat) (show (29 : Nat) < 256 by decide)
                    rw [hcq] at hl
                    have hwr : IntKind.i64.wrap (cq + 1) = cq + 1 := IntWalk.i64_in _ ⟨by omega, by omega⟩
                    have HCQ := Lib.hid hcq
                    have HLB := Lib.hid (show (L2).length + ([] : List Nat).length < 100000 by simp only [List.length_nil]; omega)
                    clear hcq hbd
                    clear g hop hil
                    go_wp2_with (first | (at_mapUpdate; refine wpList_inc rfl _ _ _ 46 3 rfl Tryd.underlying46 w7.heap.size L2 [] HV2.out.ct rfl (29 : Nat) rfl (show (29 : Nat) < 256 by decide) HLB.out cq HCQ.out rfl ?_))
                    intro w11 hct hg
                    have HN3 := Lib.hid (HV2.out.turn hg hct)
                    clear hct hg hl hwr HV2 HCQ HLB
                    go_wp2_with fail
                    go_roundw
                    case rel => exact ⟨j + 1, by go_num, by omega, (show CtRel KyB w7 _ [] _ by rw [HOT.out]; exact HN3.out)⟩
                    case measure => simp [intOf]; omega
                  · have HOT := Lib.hid (show L1 ++ oI code2 (j + 1) = L2 ++ [26] from HMI.out.trans (by rw [g]; rfl))
                    have f11 : ((op : Int) == 11) = false := beq_eq_false_iff_ne.2 (by omega)
                    have f12 : ((op : Int) == 12) = false := beq_eq_false_iff_ne.2 (by omega)
                    have f9 : ((op : Int) == 9) = true := beq_iff_eq.2 (by omega)
                    obtain ⟨cq, hcq⟩ : ∃ q, bal L2 ([] : List Nat) 26 = q := ⟨_, rfl⟩
                    have hbd := bal_bd L2 ([] : List Nat) 26 (by simp only [List.length_nil]; omega)
                    rw [hcq] at hbd
                    have hl : (Instr.lookup 46 (.map (some w7.heap.size)) (.int .u8 26) false).run Tryd.prog w10 = .ok (.int .i64 (bal L2 ([] : List Nat) 26)) w10 := HV2.out.ct.look (e := 3) Tryd.underlying46 (zeroI _) (26 : Nat) (show (26 : Nat) < 256 by decide)
                    rw [hcq] at hl
                    have hwr : IntKind.i64.wrap (cq + 1) = cq + 1 := IntWalk.i64_in _ ⟨by omega, by omega⟩
                    have HCQ := Lib.hid hcq
                    have HLB := Lib.hid (show (L2).length + ([] : List Nat).length < 100000 by simp only [List.length_nil]; omega)
                    clear hcq hbd
                    clear g hop hil
                    go_wp2_with (first | (at_mapUpdate; refine wpList_inc rfl _ _ _ 46 3 rfl Tryd.underlying46 w7.heap.size L2 [] HV2.out.ct rfl (26 : Nat) rfl (show (26 : Nat) < 256 by decide) HLB.out cq HCQ.out rfl ?_))
                    intro w11 hct hg
                    have HN3 := Lib.hid (HV2.out.turn hg hct)
                    clear hct hg hl hwr HV2 HCQ HLB
                    go_wp2_with fail
                    go_roundw
                    case rel => exact ⟨j + 1, by go_num, by omega, (show CtRel KyB w7 _ [] _ by rw [HOT.out]; exact HN3.out)⟩
                    case measure => simp [intOf]; omega
                  · have HOT := Lib.hid (show L1 ++ oI code2 (j + 1) = L2 ++ [27] from HMI.out.trans (by rw [g]; rfl))
                    have f11 : ((op : Int) == 11) = false := beq_eq_false_iff_ne.2 (by omega)
                    have f12 : ((op : Int) == 12) = false := beq_eq_false_iff_ne.2 (by omega)
                    have f9 : ((op : Int) == 9) = false := beq_eq_false_iff_ne.2 (by omega)
                    have f10 : ((op : Int) == 10) = true := beq_iff_eq.2 (by omega)
                    obtain ⟨cq, hcq⟩ : ∃ q, bal L2 ([] : List Nat) 27 = q := ⟨_, rfl⟩
                    have hbd := bal_bd L2 ([] : List Nat) 27 (by simp only [List.length_nil]; omega)
                    rw [hcq] at hbd
                    have hl : (Instr.lookup 46 (.map (some w7.heap.size)) (.int .u8 27) false).run Tryd.prog w10 = .ok (.int .i64 (bal L2 ([] : List Nat) 27)) w10 := HV2.out.ct.look (e := 3) Tryd.underlying46 (zeroI _) (27 : Nat) (show (27 : Nat) < 256 by decide)
                    rw [hcq] at hl
                    have hwr : IntKind.i64.wrap (cq + 1) = cq + 1 := IntWalk.i64_in _ ⟨by omega, by omega⟩
                    have HCQ := Lib.hid hcq
                    have HLB := Lib.hid (show (L2).length + ([] : List Nat).length < 100000 by simp only [List.length_nil]; omega)
                    clear hcq hbd
                    clear g hop hil
                    go_wp2_with (first | (at_mapUpdate; refine wpList_inc rfl _ _ _ 46 3 rfl Tryd.underlying46 w7.heap.size L2 [] HV2.out.ct rfl (27 : Nat) rfl (show (27 : Nat) < 256 by decide) HLB.out cq HCQ.out rfl ?_))
                    intro w11 hct hg
                    have HN3 := Lib.hid (HV2.out.turn hg hct)
                    clear hct hg hl hwr HV2 HCQ HLB
                    go_wp2_with fail
                    go_roundw
                    case rel => exact ⟨j + 1, by go_num, by omega, (show CtRel KyB w7 _ [] _ by rw [HOT.out]; exact HN3.out)⟩
                    case measure => simp [intOf]; omega
                  · have HOT := Lib.hid (show L1 ++ oI code2 (j + 1) = L2 from HMI.out.trans (by unfold oT; rw [if_neg g9, if_neg g10, if_neg g11, if_neg g12, List.append_nil]))
                    have f11 : ((op : Int) == 11) = false := beq_eq_false_iff_ne.2 (by omega)
                    have f12 : ((op : Int) == 12) = false := beq_eq_false_iff_ne.2 (by omega)
                    have f9 : ((op : Int) == 9) = false := beq_eq_false_iff_ne.2 (by omega)
                    have f10 : ((op : Int) == 10) = false := beq_eq_false_iff_ne.2 (by omega)
                    clear g9 g10 g11 g12 hop hil
                    go_wp2_with fail
                    go_roundw
                    case rel => exact ⟨j + 1, by go_num, by omega, (show CtRel KyB w7 _ [] _ by rw [HOT.out]; exact HV2.out)⟩
                    case measure => simp [intOf]; omega
                · have hjn : j = code2.length := by omega
                  subst hjn
                  go_wp2_with fail
                  go_roundw
                  case rel => exact ⟨k + 1, by go_num, by omega, (show CtRel KyB w7 _ [] _ by rw [HMB2.out]; exact HV2.out)⟩
                  case measure => simp [intOf]; omega
          · have hkn : k = bs.length := by omega
            subst hkn
            have hL := oW_len bs bs.length
            have hL2 : (oW bs bs.length).length ≤ 320 := by have h3 := HSM.out.tot; have h4 := HSM.out.1; omega
            have HZ := Lib.hid (fun x (hx : keyO x = true) => bal_zero HAO.out.1 hx)
            clear hL
            generalize oW bs bs.length = LL at HV HZ hL2
            go_wp2_with fail
            clear f3 fl HRW
            go_loopw [10] (fun s10 wx => ∃ i : Nat, s10 = .int .i64 i ∧ i ≤ code.length ∧ Hid (CtRel KyB w7 LL (opsM code i) wx)) (fun s10 _ => code.length - (intOf s10).toNat)
            case atStart => exact ⟨0, rfl, Nat.zero_le _, HV⟩
            case round =>
              clear HV
              obtain ⟨i, rfl, hi, HV⟩ := hrel
              obtain ⟨w8, rfl⟩ : ∃ W : World, W = wr := ⟨_, rfl⟩
              have o0 := HRO.out.below HV.out.bel HRO.out.lt
              have ol := o0.lt
              have p1 := o0.at 1 rfl
              clear o0
              by_cases hlt : i < code.length
              · have hltI : (i : Int) < code.length := by omega
                obtain ⟨m, off, cap, e0, hm, x0, -, -, -, -⟩ := (HG7.out.below HV.out.bel (Nat.le_refl _)).get hlt
                injection e0 with e0a _ e0c
                subst e0a e0c
                have hop := vG_op (HVG.out i hlt)
                have HNX := Lib.hid (opsM_next code hlt)
                have hml := opsM_len code i
                generalize code.getD i default = gi at x0 hop HNX
                obtain ⟨op, ga, gb, gc, gim⟩ := gi
                simp only at x0 hop HNX
                generalize hMM : opsM code i = MM at HV HNX hml
                clear hMM
                obtain ⟨cq, hcq⟩ : ∃ q, bal LL MM op = q := ⟨_, rfl⟩
                have hbd := bal_bd LL MM op (by omega)
                rw [hcq] at hbd
                have hl : (Instr.lookup 46 (.map (some w7.heap.size)) (.int .u8 op) false).run Tryd.prog w8 = .ok (.int .i64 (bal LL MM op)) w8 := HV.out.ct.look (e := 3) Tryd.underlying46 (zeroI _) op (show op < 256 by omega)
                rw [hcq] at hl
                have hwr : IntKind.i64.wrap (cq - 1) = cq - 1 := IntWalk.i64_in _ ⟨by omega, by omega⟩
                have HCQ := Lib.hid hcq
                have HLB := Lib.hid (show LL.length + MM.length < 100000 by omega)
                have HOP := Lib.hid (show op < 256 by omega)
                clear hcq hbd hop hml
                go_wp2_with (first | (at_mapUpdate; refine wpList_dec rfl _ _ _ 46 3 rfl Tryd.underlying46 w7.heap.size LL MM HV.out.ct rfl op rfl HOP.out HLB.out cq HCQ.out rfl ?_))
                intro w9 hct hg
                have HN := Lib.hid (HV.out.turn hg hct)
                clear hct hg hl hwr
                go_wp2_with fail
                go_roundw
                case rel => exact ⟨i + 1, by go_num, by omega, (show CtRel KyB w7 LL (opsM code (i + 1)) _ by rw [HNX.out]; exact HN.out)⟩
                case measure => simp [intOf]; omega
              · have hin : i = code.length := by omega
                subst hin
                have HV2 := Lib.hid (show CtRel KyB w7 LL (code.map GI.op) w8 by rw [← opsM_all]; exact HV.out)
                have l1 : (Instr.lookup 46 (.map (some w7.heap.size)) (.int .u8 1) false).run Tryd.prog w8 = .ok (.int .i64 0) w8 := by
                  have h := HV2.out.ct.look (t := 46) (e := 3) Tryd.underlying46 (zeroI _) (1 : Nat) (show (1 : Nat) < 256 by decide)
                  rw [HZ.out 1 rfl] at h
                  exact h
                have l28 : (Instr.lookup 46 (.map (some w7.heap.size)) (.int .u8 28) false).run Tryd.prog w8 = .ok (.int .i64 0) w8 := by
                  have h := HV2.out.ct.look (t := 46) (e := 3) Tryd.underlying46 (zeroI _) (28 : Nat) (show (28 : Nat) < 256 by decide)
                  rw [HZ.out 28 rfl] at h
                  exact h
                have l29 : (Instr.lookup 46 (.map (some w7.heap.size)) (.int .u8 29) false).run Tryd.prog w8 = .ok (.int .i64 0) w8 := by
                  have h := HV2.out.ct.look (t := 46) (e := 3) Tryd.underlying46 (zeroI _) (29 : Nat) (show (29 : Nat) < 256 by decide)
                  rw [HZ.out 29 rfl] at h
                  exact h
                have l26 : (Instr.lookup 46 (.map (some w7.heap.size)) (.int .u8 26) false).run Tryd.prog w8 = .ok (.int .i64 0) w8 := by
                  have h := HV2.out.ct.look (t := 46) (e := 3) Tryd.underlying46 (zeroI _) (26 : Nat) (show (26 : Nat) < 256 by decide)
                  rw [HZ.out 26 rfl] at h
                  exact h
                have l27 : (Instr.lookup 46 (.map (some w7.heap.size)) (.int .u8 27) false).run Tryd.prog w8 = .ok (.int .i64 0) w8 := by
                  have h := HV2.out.ct.look (t := 46) (e := 3) Tryd.underlying46 (zeroI _) (27 : Nat) (show (27 : Nat) < 256 by decide)
                  rw [HZ.out 27 rfl] at h
                  exact h
                go_wp2_with fail
                go_ret
                exact ⟨rfl, HB0.out.trans ((HW7.out.trans (HV.out.bel.mono HW7.out.size)).mono HB0.out.size)⟩
      · have hv : vFun R A S bs = false := by simpa using hv
        rw [hv]
        go_wp2_with fail
        go_ret
        exact ⟨rfl, HB0.out.trans (HL5.out.bel.mono HB0.out.size)⟩
  · refine (small_any nm R _ _ A bs w2 HL2.out.fn.a HL2.out.fn.b 0 (fun h => absurd h hsm) (fun _ => rfl)).mono ?_
    rintro e w3 ⟨rfl, hb3⟩
    have HL3 := Lib.hid (HL2.out.keep hb3)
    clear hb3 HL2 HS2 rl q0 q1 q2 q3
    go_wp2_with fail
    go_ret
    exact ⟨rfl, HB0.out.trans (HL3.out.bel.mono HB0.out.size)⟩
end Go.Proofs.YtlajdcikhbocdaaDoor

