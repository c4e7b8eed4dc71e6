/- linker.Encode's closure put and the reference's put, by their contracts; append of a string. -/
import Derived.Test.YtepldfnplfhncaaDoorLinH
import Derived.Test.YtepldfnplfhncaaDoorLinP
import Derived.Deep.RegionLaw
import Derived.Lib.AppendStr
set_option linter.unusedVariables false
set_option linter.unusedSimpArgs false
namespace Go.Proofs.YtepldfnplfhncaaDoor
open Go.RowKit

/-- The first j of the k bytes of a number. -/
def beH (k x j : Nat) : List Nat := (be k x).take j
theorem be_at : ∀ (k x j : Nat), j < k → (be k x)[j]? = some (x / 256 ^ (k - 1 - j) % 256)
  | 0, x, j, h => by omega
  | k + 1, x, 0, h => by simp [be]
  | k + 1, x, j + 1, h => by
    simp only [be, List.getElem?_cons_succ]
    rw [be_at k x j (by omega)]
    rw [show k - 1 - j = k + 1 - 1 - (j + 1) by omega]
theorem beH_next (k x j : Nat) (h : j < k) : beH k x (j + 1) = beH k x j ++ [x / 256 ^ (k - 1 - j) % 256] := by
  unfold beH
  rw [List.take_add_one, be_at k x j h]; rfl
theorem beH_all (k x : Nat) : beH k x k = be k x := by
  unfold beH
  rw [List.take_of_length_le]; rw [be_len]; exact Nat.le_refl _
theorem beH_len (k x j : Nat) (h : j ≤ k) : (beH k x j).length = j := by
  unfold beH
  rw [List.length_take, be_len]; omega

/-- Append of one byte, as a step of a region that draws its order. -/
theorem step_append_u8 {w : World} {ops : Array Oper} {o : Oper} {a : Act} {K : Act → World → Prop} {Q : Exit → Act → World → Prop} {E : Prop} (hgd : o.guard = none) (s x : Operand)
    (ho : o.op = .call { callee := .builtin .append, args := #[s, x], argTypes := #[31, 31] })
    (base : Nat) (v : Value) (l : List Nat) (hs : a.eval s = v) (hown : w.ownsRow base 5 1 v l.length (u8s l))
    (g c : Nat) (y : Nat) (hx : a.eval x = .slice (some ⟨g, 0, none⟩) 1 c) (hy : w.cell? ⟨g, 0, none⟩ = some (.int .u8 y))
    (h63 : l.length ≤ 1000000) (hbase : base ≤ w.heap.size)
    (h : ∀ p c' w', w'.ownsRow base 5 1 (.slice p (l.length + 1) c') (l.length + 1) (u8s l ++ u8s [y]) → w.grownBy w' v.ownBlock → ((Value.slice p (l.length + 1) c').ownBlock = v.ownBlock ∨ ∀ k, (Value.slice p (l.length + 1) c').ownBlock = some k → w.heap.size ≤ k) → K (a.put o.dst (.slice p (l.length + 1) c')) w') : if Region.wanted o (yielded ops a.tmps) = true then Oper.wp Tryd.prog o a w K Q else E := by
  have hw : Region.wanted o (yielded ops a.tmps) = true := by simp [Region.wanted, hgd]
  rw [if_pos hw]
  obtain ⟨i, hi, hie⟩ := Option.map_eq_some_iff.1 infoU8
  simp only [Prod.mk.injEq] at hie
  obtain ⟨v', w', hrun, h2, h3, _, h5⟩ := run_append_own_at (P := Tryd.prog) w base 31 o.type 5 i (.int .u8 0) 1 1 Tryd.underlying31 hi hie.1 hie.2.1 hie.2.2 rfl (by decide) v l.length _ hown ⟨g, 0, none⟩ 1 c [.int .u8 y] rfl (fun j u hj => by
    have hjl : j < 1 := by
      obtain ⟨h, _⟩ := List.getElem?_eq_some_iff.1 hj
      simpa using h
    have : j = 0 := by omega
    subst this
    have e2 : (⟨g, 0, none⟩ : Addr).add 0 = ⟨g, 0, none⟩ := by unfold Addr.add; simp
    rw [e2, hy]
    simpa using hj) (fun u hu => by rw [List.mem_singleton] at hu; subst hu; rfl) (by unfold maxLen; omega) (by omega) hbase
  have hsl : ∃ p c', v' = .slice p (l.length + 1) c' := by
    rcases h2.2 with ⟨rfl, hh⟩ | ⟨g, cap, cur, rfl, _⟩
    · omega
    · exact ⟨_, _, rfl⟩
  obtain ⟨p, c', rfl⟩ := hsl
  unfold Oper.wp execOp
  simp only [ho, resolve, invoke, builtin, Sem.run_bind, Sem.run_pure, Result.andThen_ok, List.map_toArray, List.map_cons, List.map_nil, hs, hx, hrun]
  exact h p c' w' h2 h3 (h5.imp id fun e k hk => by rw [e] at hk; cases hk; exact Nat.le_refl _)

theorem own_some {w : World} {B : Nat} {e : TypeId} {v : Value} {n : Nat} {xs : List Value} (h : w.ownsRow B e 1 v n xs) {b : Nat} (hv : v.ownBlock = some b) : ∃ cap cur, v = .slice (some ⟨b, 0, none⟩) n cap ∧ w.heap[b]? = some (.cells cur e) ∧ n ≤ cap := by
  rcases h.2 with ⟨rfl, _⟩ | ⟨g, cap, cur, rfl, _, hh, hn, _⟩
  · cases hv
  · cases hv
    exact ⟨cap, cur, rfl, hh, hn⟩
/-- Append of a string to a row of bytes of the call's own: where the new row lies. -/
theorem run_append_text (base : Nat) (w : World) (ty : TypeId) (v : Value) (l : List Nat) (hown : w.ownsRow base 5 1 v l.length (u8s l)) (s : ByteArray) (hl : l.length + s.size ≤ 1000000) (hbase : base ≤ w.heap.size) :
    ∃ v' w', (Builtin.append_ #[31, 9] ty #[v, .string s]).run Tryd.prog w = .ok v' w' ∧ w'.ownsRow base 5 1 v' (l.length + s.size) (u8s l ++ u8s (bytesN s)) ∧ w.grownBy w' v.ownBlock ∧
      (v'.ownBlock = v.ownBlock ∨ ∀ k, v'.ownBlock = some k → w.heap.size ≤ k) := by
  obtain ⟨i, hi, hie⟩ := Option.map_eq_some_iff.1 infoU8
  simp only [Prod.mk.injEq] at hie
  have hmax : l.length + s.size ≤ maxLen := by unfold maxLen; omega
  have hcells : Lib.strCells s = u8s (bytesN s) := by simp [Lib.strCells, u8s, bytesN]
  obtain ⟨v', w', hr, h2, h3, _⟩ := Lib.run_append_own_string (P := Tryd.prog) w base 31 9 ty 5 i Tryd.underlying31 Tryd.underlying9 hi hie.1 hie.2.1 hie.2.2 v l.length _ hown s hmax (by omega) hbase
  rw [hcells] at h2
  refine ⟨v', w', hr, h2, h3, ?_⟩
  rcases hown.2 with ⟨rfl, hn⟩ | ⟨g, cap, cur, rfl, hbg, hg, hnc, hcm, hcs, htake⟩
  · right
    have hl0 : l = [] := List.length_eq_zero_iff.1 hn
    subst hl0
    obtain ⟨v2, w2, hr2, k2, k3, _⟩ := Lib.run_append_own_string (P := Tryd.prog) w w.heap.size 31 9 ty 5 i Tryd.underlying31 Tryd.underlying9 hi hie.1 hie.2.1 hie.2.2 (.slice none 0 0) 0 [] (World.ownsRow_nil _ _ _ _) s (by simpa using hmax) (by simp at hl ⊢; omega) (Nat.le_refl _)
    rw [hr] at hr2
    obtain ⟨rfl, rfl⟩ : v' = v2 ∧ w' = w2 := by cases hr2; exact ⟨rfl, rfl⟩
    intro k hk
    exact own_ge k2 hk
  · by_cases hroom : l.length + s.size ≤ cap
    · left
      have hr2 := Lib.run_append_room_string (P := Tryd.prog) w 31 9 ty 5 i Tryd.underlying31 Tryd.underlying9 hi hie.2.1 g l.length cap cur hg s hroom (by unfold maxLen at hmax; omega)
      rw [hr] at hr2
      cases hr2
      rfl
    · right
      have holds : ∀ j u, (u8s l)[j]? = some u → w.cell? ((⟨g, 0, none⟩ : Addr).add j) = some u := hown.cells (g := g) rfl
      have hr2 := Lib.run_append_grow_string (P := Tryd.prog) w 31 9 ty 5 i (.int .u8 0) Tryd.underlying31 Tryd.underlying9 hi hie.1 ⟨g, 0, none⟩ l.length cap (u8s l) (by rw [hie.2.1, u8s_len, Nat.mul_one]) holds s (by omega) (by unfold maxLen at hmax; omega) (by rw [hie.2.2]; exact growslice_fits (by omega) (by omega))
      rw [hr] at hr2
      cases hr2
      intro k hk
      cases hk
      exact Nat.le_refl _
theorem wpList_append_text {w : World} {ops : Array Oper} {rest : List Oper} {o : Oper} {a : Act} {Q : Exit → Act → World → Prop} (hgd : o.guard = none) (sl x : Operand)
    (ho : o.op = .call { callee := .builtin .append, args := #[sl, x], argTypes := #[31, 9] })
    (base : Nat) (v : Value) (l : List Nat) (hs : a.eval sl = v) (hown : w.ownsRow base 5 1 v l.length (u8s l)) (s : ByteArray) (hx : a.eval x = .string s) (hl : l.length + s.size ≤ 1000000) (hbase : base ≤ w.heap.size)
    (h : ∀ p c' w', w'.ownsRow base 5 1 (.slice p (l.length + s.size) c') (l.length + s.size) (u8s l ++ u8s (bytesN s)) → w.grownBy w' v.ownBlock → ((Value.slice p (l.length + s.size) c').ownBlock = v.ownBlock ∨ ∀ k, (Value.slice p (l.length + s.size) c').ownBlock = some k → w.heap.size ≤ k) → wpList Tryd.prog ops Q rest (a.put o.dst (.slice p (l.length + s.size) c')) w') : wpList Tryd.prog ops Q (o :: rest) a w := by
  refine wpList_plain hgd fun K hK => ?_
  obtain ⟨v', w', hr, h2, h3, h4⟩ := run_append_text base w o.type v l hown s hl hbase
  have hsl : ∃ p c', v' = .slice p (l.length + s.size) c' := by
    rcases h2.2 with ⟨rfl, hh⟩ | ⟨g, cap, cur, rfl, _⟩
    · exact ⟨none, 0, by rw [hh]⟩
    · exact ⟨_, _, rfl⟩
  obtain ⟨p, c', rfl⟩ := hsl
  unfold Oper.wp execOp
  simp only [ho, resolve, invoke, builtin, Sem.run_bind, Sem.run_pure, Result.andThen_ok, List.map_toArray, List.map_cons, List.map_nil, hs, hx, hr]
  exact hK _ _ (h p c' w' h2 h3 h4)

/-- A byte of a number, as the walk writes it. -/
theorem byte_val (n q : Nat) (hq : q < 4) (hn : n < 4611686018427387904) : IntKind.u8.wrap ((n : Int) / 2 ^ (8 * q)) = ((n / 256 ^ q % 256 : Nat) : Int) := by
  have h1 : (2 : Nat) ^ (8 * q) = 256 ^ q := by rw [Nat.pow_mul]
  have h2 : (n : Int) / 2 ^ (8 * q) = ((n / 256 ^ q : Nat) : Int) := by
    rw [← h1]
    push_cast
    rfl
  rw [h2, IntKind.wrap_u8]
  omega

theorem Touch.trans2 {col col' : Nat → Nat} {c : Nat} {a b d : World} (h : Touch col c a b) (k : Touch col' c b d) (hc : ∀ k, k < a.heap.size → col' k = col k) : Touch col c a d :=
  ⟨k.os.trans h.os, k.tape.trans h.tape, k.output.trans h.output, Nat.le_trans h.size k.size, fun q hq hne => (k.block q (Nat.lt_of_lt_of_le hq h.size) (by rw [hc q hq]; exact hne)).trans (h.block q hq hne)⟩
/-- A variable in block g that holds a slice of bytes, a row of its own: blocks of color 1. -/
structure BufC (col : Nat → Nat) (g : Nat) (w : World) (v : Value) (l : List Nat) : Prop where
  row : OwnC 5 1 col 1 w v l.length (u8s l)
  box : w.cell? ⟨g, 0, none⟩ = some v
  fz : w.frozen? ⟨g, 0, none⟩ = false
  ne : v.ownBlock ≠ some g
  lt : g < w.heap.size
  cg : col g = 1
theorem BufC.other {col : Nat → Nat} {c g : Nat} {w w' : World} {v : Value} {l : List Nat} (h : BufC col g w v l) (ht : Touch col c w w') (hc : 1 ≠ c) : BufC (paint col w.heap.size c) g w' v l := by
  have hg := ht.block g h.lt (by rw [h.cg]; exact hc)
  exact ⟨h.row.other ht hc, (World.cell?_of_block (a := ⟨g, 0, none⟩) hg).trans h.box, (World.frozen?_of_block (a := ⟨g, 0, none⟩) hg).trans h.fz, h.ne, Nat.lt_of_lt_of_le h.lt ht.size, by rw [paint_lt h.lt]; exact h.cg⟩
theorem BufC.keep {col : Nat → Nat} {g : Nat} {w w' : World} {v : Value} {l : List Nat} (h : BufC col g w v l) (hb : Below w.heap.size w w') : BufC (paint col w.heap.size 0) g w' v l := h.other (Touch.of_below hb) (by decide)
/-- The row has grown: before and behind the store of the new slice. -/
theorem BufC.grow {col : Nat → Nat} {g : Nat} {w w2 w3 : World} {v v' : Value} {l t : List Nat} {n : Nat} (h : BufC col g w v l) (hb : Below w.heap.size w w2) (hg : w2.grownBy w3 v.ownBlock) (hn : n = (l ++ t).length) (hv : w3.ownsRow 0 5 1 v' n (u8s l ++ u8s t))
    (hk : v'.ownBlock = v.ownBlock ∨ ∀ k, v'.ownBlock = some k → w2.heap.size ≤ k) : w3.cell? ⟨g, 0, none⟩ = some v ∧ w3.frozen? ⟨g, 0, none⟩ = false ∧ g < w3.heap.size ∧ ∃ col', BufC col' g (w3.setCell ⟨g, 0, none⟩ v') v' (l ++ t) ∧ Touch col 1 w (w3.setCell ⟨g, 0, none⟩ v') ∧ ∀ k, k < w.heap.size → col' k = col k := by
  subst hn
  obtain ⟨hc, ht⟩ := h.row.push hb hg hv hk
  have hgl : w3.heap[g]? = w.heap[g]? := (hg.block g (Nat.lt_of_lt_of_le h.lt hb.size) (fun e => h.ne e.symm)).trans (hb.block g h.lt)
  have hlt : g < w3.heap.size := Nat.lt_of_lt_of_le h.lt ht.size
  have hne : v'.ownBlock ≠ some g := by
    rcases hk with e | e
    · rw [e]; exact h.ne
    · intro e2; have := e g e2; have := hb.size; have := h.lt; omega
  have hbox := (World.cell?_of_block (a := ⟨g, 0, none⟩) hgl).trans h.box
  have hfz := (World.frozen?_of_block (a := ⟨g, 0, none⟩) hgl).trans h.fz
  have ht2 : Touch col 1 w3 (w3.setCell ⟨g, 0, none⟩ v') := Touch.setCell (a := ⟨g, 0, none⟩) h.cg v'
  refine ⟨hbox, hfz, hlt, paint col w.heap.size 1, ⟨⟨?_, hc.2⟩, World.cell?_setCell_same _ _ _ hbox, by rw [World.frozen?_setCell]; exact hfz, hne, by simpa [World.setCell] using hlt, by rw [paint_lt h.lt]; exact h.cg⟩, ht.trans ht2, fun k hk => paint_lt hk⟩
  have e : u8s (l ++ t) = u8s l ++ u8s t := by simp [u8s]
  rw [e]
  exact own0_block hv fun k hk2 => Below.heap_setCell _ _ _ _ (fun e => hne (by rw [hk2, e]))

/-- The buffer has turned into one with bytes l. -/
def PutRel (col : Nat → Nat) (w : World) (g : Nat) (l : List Nat) (w' : World) : Prop := ∃ v' col', BufC col' g w' v' l ∧ Touch col 1 w w' ∧ ∀ k, k < w.heap.size → col' k = col k
def PutPost (col : Nat → Nat) (w : World) (g : Nat) (l : List Nat) (e : Ending) (w' : World) : Prop := e = .returned (.tuple #[]) ∧ PutRel col w g l w'

set_option maxHeartbeats 1600000 in
set_option maxRecDepth 20000 in
theorem put_any (col : Nat → Nat) (g n k : Nat) (v : Value) (l : List Nat) (w : World) (h : BufC col g w v l) (hk : k ≤ 4) (hn : n < 4611686018427387904) (hl : l.length + k ≤ 1000000) :
    Calls Tryd.prog 26 #[.int .i64 n, .int .i64 k, .pointer (some ⟨g, 0, none⟩)] w (PutPost col w g (l ++ be k n)) := by
  have HB := Lib.hid h
  clear h
  go_enter Tryd.func26, Tryd.ntmps26
  go_wp2_with fail
  go_loopw [5] (fun s5 wx => ∃ j : Nat, s5 = .int .i64 ((k : Int) - 1 - j) ∧ j ≤ k ∧ Hid (PutRel col w g (l ++ beH k n j) wx)) (fun s5 _ => (intOf s5 + 1).toNat)
  case atStart => exact ⟨0, by simp, Nat.zero_le _, v, col, by rw [show beH k n 0 = [] from rfl, List.append_nil]; exact HB.out, Touch.refl _ _ _, fun _ _ => rfl⟩
  case round =>
    obtain ⟨j, rfl, hj, HR⟩ := hrel
    obtain ⟨vx, cx, hX, hW, hC⟩ := HR.out
    have HX := Lib.hid hX
    have HW := Lib.hid hW
    have HC := Lib.hid hC
    clear hX hW hC HR
    obtain ⟨w1, rfl⟩ : ∃ W : World, W = wr := ⟨_, rfl⟩
    by_cases hlt : j < k
    · obtain ⟨q, hq⟩ : ∃ q, k = j + 1 + q := ⟨k - 1 - j, by omega⟩
      rw [show (k : Int) - 1 - (j : Int) = (q : Int) by omega]
      have HQ := Lib.hid hq
      have HK := Lib.hid hk
      have HJ := Lib.hid hj
      have HLT := Lib.hid hlt
      have HE : Hid ((l ++ beH k n j) ++ [n / 256 ^ q % 256] = l ++ beH k n (j + 1)) := (show _ = _ by rw [beH_next k n j (by omega), List.append_assoc, show k - 1 - j = q by omega])
      have hlen : (l ++ beH k n j).length ≤ 1000000 := by rw [List.length_append, beH_len _ _ _ (by omega)]; omega
      generalize l ++ beH k n j = L at HX HE hlen
      have hbx := HX.out.box
      have hfz := HX.out.fz
      have hlt1 := HX.out.lt
      have hq3 : q ≤ 3 := by omega
      have hw0 : IntKind.i64.wrap 0 = 0 := by decide
      have hw8 : IntKind.i64.wrap 8 = 8 := by decide
      have hw16 : IntKind.i64.wrap 16 = 16 := by decide
      have hw24 : IntKind.i64.wrap 24 = 24 := by decide
      have HO := Lib.hid (show ∀ o : Obj, (w1.drew.alloc o).ownsRow 0 5 1 vx (L).length (u8s (L)) from fun o => own0_block HX.out.row.1 fun b hb => (show Below w1.heap.size w1 (w1.drew.alloc o) from bAlloc (Nat.le_refl _) (Below.refl _ _).drew).block b (own0_lt HX.out.row.1 hb))
      have HV := Lib.hid (byte_val n q (by omega) hn)
      have hq4 : q = 0 ∨ q = 1 ∨ q = 2 ∨ q = 3 := by omega
      clear hq hk hj hlt hq3
      rcases hq4 with rfl | rfl | rfl | rfl
      · go_wp2_with fail
        go_region_law (refine step_append_u8 rfl _ _ rfl 0 vx (L) rfl (HO.out _) w1.heap.size 1 (n / 256 ^ 0 % 256) rfl (by simp [go_sem]; first | exact HV.out | exact IntKind.wrap_u8 _) hlen (Nat.zero_le _) ?_; intro p c' w3 hO hgr hd; obtain ⟨hb3, hf3, hl3, c3, hB3, hT3, hC3⟩ := HX.out.grow (by repeat (first | (with_reducible exact Below.refl _ _) | (with_reducible apply Below.drew) | (with_reducible apply bAlloc (Nat.le_refl _)))) hgr (by simp only [List.length_append, List.length_singleton]) hO hd)
        all_goals (
          rw [HE.out] at hB3
          go_wp2_with fail
          go_roundw
          case rel => exact ⟨j + 1, by have := HQ.out; congr 1; omega, by have := HLT.out; omega, _, c3, hB3, HW.out.trans2 hT3 HC.out, fun k hk => (hC3 k (Nat.lt_of_lt_of_le hk HW.out.size)).trans (HC.out k hk)⟩
          case measure => have := HQ.out; simp [intOf] <;> omega)
      · go_wp2_with fail
        go_region_law (refine step_append_u8 rfl _ _ rfl 0 vx (L) rfl (HO.out _) w1.heap.size 1 (n / 256 ^ 1 % 256) rfl (by simp [go_sem]; first | exact HV.out | exact IntKind.wrap_u8 _) hlen (Nat.zero_le _) ?_; intro p c' w3 hO hgr hd; obtain ⟨hb3, hf3, hl3, c3, hB3, hT3, hC3⟩ := HX.out.grow (by repeat (first | (with_reducible exact Below.refl _ _) | (with_reducible apply Below.drew) | (with_reducible apply bAlloc (Nat.le_refl _)))) hgr (by simp only [List.length_append, List.length_singleton]) hO hd)
        all_goals (
          rw [HE.out] at hB3
          go_wp2_with fail
          go_roundw
          case rel => exact ⟨j + 1, by have := HQ.out; congr 1; omega, by have := HLT.out; omega, _, c3, hB3, HW.out.trans2 hT3 HC.out, fun k hk => (hC3 k (Nat.lt_of_lt_of_le hk HW.out.size)).trans (HC.out k hk)⟩
          case measure => have := HQ.out; simp [intOf] <;> omega)
      · go_wp2_with fail
        go_region_law (refine step_append_u8 rfl _ _ rfl 0 vx (L) rfl (HO.out _) w1.heap.size 1 (n / 256 ^ 2 % 256) rfl (by simp [go_sem]; first | exact HV.out | exact IntKind.wrap_u8 _) hlen (Nat.zero_le _) ?_; intro p c' w3 hO hgr hd; obtain ⟨hb3, hf3, hl3, c3, hB3, hT3, hC3⟩ := HX.out.grow (by repeat (first | (with_reducible exact Below.refl _ _) | (with_reducible apply Below.drew) | (with_reducible apply bAlloc (Nat.le_refl _)))) hgr (by simp only [List.length_append, List.length_singleton]) hO hd)
        all_goals (
          rw [HE.out] at hB3
          go_wp2_with fail
          go_roundw
          case rel => exact ⟨j + 1, by have := HQ.out; congr 1; omega, by have := HLT.out; omega, _, c3, hB3, HW.out.trans2 hT3 HC.out, fun k hk => (hC3 k (Nat.lt_of_lt_of_le hk HW.out.size)).trans (HC.out k hk)⟩
          case measure => have := HQ.out; simp [intOf] <;> omega)
      · go_wp2_with fail
        go_region_law (refine step_append_u8 rfl _ _ rfl 0 vx (L) rfl (HO.out _) w1.heap.size 1 (n / 256 ^ 3 % 256) rfl (by simp [go_sem]; first | exact HV.out | exact IntKind.wrap_u8 _) hlen (Nat.zero_le _) ?_; intro p c' w3 hO hgr hd; obtain ⟨hb3, hf3, hl3, c3, hB3, hT3, hC3⟩ := HX.out.grow (by repeat (first | (with_reducible exact Below.refl _ _) | (with_reducible apply Below.drew) | (with_reducible apply bAlloc (Nat.le_refl _)))) hgr (by simp only [List.length_append, List.length_singleton]) hO hd)
        all_goals (
          rw [HE.out] at hB3
          go_wp2_with fail
          go_roundw
          case rel => exact ⟨j + 1, by have := HQ.out; congr 1; omega, by have := HLT.out; omega, _, c3, hB3, HW.out.trans2 hT3 HC.out, fun k hk => (hC3 k (Nat.lt_of_lt_of_le hk HW.out.size)).trans (HC.out k hk)⟩
          case measure => have := HQ.out; simp [intOf] <;> omega)
    · have hjk : j = k := by omega
      subst hjk
      rw [show ((j : Nat) : Int) - 1 - (j : Int) = -1 by omega]
      go_wp2_with fail
      go_end0
      exact ⟨rfl, vx, cx, by rw [← beH_all]; exact HX.out, HW.out, HC.out⟩
end Go.Proofs.YtepldfnplfhncaaDoor
