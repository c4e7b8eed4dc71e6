import Derived.Test.YtkcfbonchhidlaaGreatDoorMs34
set_option linter.unusedVariables false
set_option linter.unusedSimpArgs false
namespace Go.Proofs.YtkcfbonchhidlaaGreatDoor
open Go.RowKit

def vG (i : GI) : Bool := vld i.op i.a i.b i.c i.imm
def refO (n : Nat) : Bool := decide (n = 20 ∨ n = 21 ∨ n = 28 ∨ n = 29)
def lockO (n : Nat) : Bool := decide (n = 28 ∨ n = 29)
def brO (n : Nat) : Bool := decide (n = 22 ∨ n = 23 ∨ n = 24)
theorem vG_of {n : Nat} {a b c i lo hi : Int} {ua ub uc ui : Bool} (hn : n < 30) (e : uA n = ua ∧ uB n = ub ∧ uC n = uc ∧ uI n = ui) (e5 : flo n = lo ∧ fhi n = hi)
    (ha : 0 ≤ a ∧ a ≤ if ua then 15 else 0) (hb : 0 ≤ b ∧ b ≤ if ub then 15 else 0) (hc : 0 ≤ c ∧ c ≤ if uc then 15 else 0) (hi' : (if ui then lo else 0) ≤ i ∧ i ≤ if ui then hi else 0) : vG ⟨n, a, b, c, i⟩ = true := by
  obtain ⟨e1, e2, e3, e4⟩ := e
  show vld n a b c i = true
  unfold vld
  rw [e1, e2, e3, e4, e5.1, e5.2, decide_eq_true hn, Bool.true_and]
  exact decide_eq_true ⟨ha, hb, hc, hi'⟩
theorem vG_abc {n : Nat} {a b c : Int} (hn : 2 ≤ n ∧ n ≤ 13) (ha : 0 ≤ a ∧ a ≤ 15) (hb : 0 ≤ b ∧ b ≤ 15) (hc : 0 ≤ c ∧ c ≤ 15) : vG ⟨n, a, b, c, 0⟩ = true := by
  have h : n = 2 ∨ n = 3 ∨ n = 4 ∨ n = 5 ∨ n = 6 ∨ n = 7 ∨ n = 8 ∨ n = 9 ∨ n = 10 ∨ n = 11 ∨ n = 12 ∨ n = 13 := by omega
  rcases h with rfl | rfl | rfl | rfl | rfl | rfl | rfl | rfl | rfl | rfl | rfl | rfl <;> exact vG_of (by decide) ⟨rfl, rfl, rfl, rfl⟩ ⟨rfl, rfl⟩ ha hb hc (by decide)
theorem vG_abi {n : Nat} {a b i lo hi : Int} (hn : n < 30) (e : uA n = true ∧ uB n = true ∧ uC n = false ∧ uI n = true) (e5 : flo n = lo ∧ fhi n = hi) (ha : 0 ≤ a ∧ a ≤ 15) (hb : 0 ≤ b ∧ b ≤ 15) (hi' : lo ≤ i ∧ i ≤ hi) : vG ⟨n, a, b, 0, i⟩ = true :=
  vG_of hn e e5 ha hb (by decide) hi'
theorem vG_ai {n : Nat} {a i lo hi : Int} (hn : n < 30) (e : uA n = true ∧ uB n = false ∧ uC n = false ∧ uI n = true) (e5 : flo n = lo ∧ fhi n = hi) (ha : 0 ≤ a ∧ a ≤ 15) (hi' : lo ≤ i ∧ i ≤ hi) : vG ⟨n, a, 0, 0, i⟩ = true :=
  vG_of hn e e5 ha (by decide) (by decide) hi'
theorem vG_i {n : Nat} {i lo hi : Int} (hn : n < 30) (e : uA n = false ∧ uB n = false ∧ uC n = false ∧ uI n = true) (e5 : flo n = lo ∧ fhi n = hi) (hi' : lo ≤ i ∧ i ≤ hi) : vG ⟨n, 0, 0, 0, i⟩ = true :=
  vG_of hn e e5 (by decide) (by decide) (by decide) hi'
theorem vG_halt : vG ⟨1, 0, 0, 0, 0⟩ = true := vG_of (by decide) ⟨rfl, rfl, rfl, rfl⟩ ⟨rfl, rfl⟩ (by decide) (by decide) (by decide) (by decide)

def okT (nb : Nat) (x : TI) : Bool := vG x.1 && match x.2 with
  | .p => !refO x.1.op && !brO x.1.op
  | .r _ => refO x.1.op && !brO x.1.op
  | .b k => brO x.1.op && !refO x.1.op && okR nb k
def AllT (nb : Nat) (l : List TI) : Prop := ∀ x ∈ l, okT nb x = true
theorem okT_p {nb : Nat} {i : GI} (h : vG i = true) (h1 : refO i.op = false) (h2 : brO i.op = false) : okT nb (i, .p) = true := by
  unfold okT
  simp [h, h1, h2]
theorem okT_r {nb : Nat} {i : GI} {nm : ByteArray} (h : vG i = true) (h1 : refO i.op = true) (h2 : brO i.op = false) : okT nb (i, .r nm) = true := by
  unfold okT
  simp [h, h1, h2]
theorem okT_b {nb : Nat} {i : GI} {k : Int} (h : vG i = true) (h1 : brO i.op = true) (h2 : refO i.op = false) (h3 : okR nb k = true) : okT nb (i, .b k) = true := by
  unfold okT
  simp [h, h1, h2, h3]
theorem AllT.nil (nb : Nat) : AllT nb [] := fun x h => by cases h
theorem AllT.cons {nb : Nat} {x : TI} {l : List TI} (h : okT nb x = true) (k : AllT nb l) : AllT nb (x :: l) := fun y hy => by
  rcases List.mem_cons.1 hy with rfl | hy
  · exact h
  · exact k y hy
theorem AllT.app {nb : Nat} {l t : List TI} (h : AllT nb l) (k : AllT nb t) : AllT nb (l ++ t) := fun y hy => by
  rcases List.mem_append.1 hy with hy | hy
  · exact h y hy
  · exact k y hy
theorem AllT.one {nb : Nat} {x : TI} (h : okT nb x = true) : AllT nb [x] := AllT.cons h (AllT.nil nb)

structure PlOk (c : Cfg) (R : Int) : Prop where
  pl : ∀ v, okR R v = true → (2 ≤ (placeG c v).1 ∧ (placeG c v).1 ≤ 9) ∨ ((placeG c v).1 = 0 ∧ 0 ≤ (placeG c v).2 ∧ (placeG c v).2 < 64)
  sp : 0 ≤ c.sp ∧ c.sp ≤ 128
  ar : ∀ s, 0 ≤ c.ar s ∧ c.ar s ≤ 128
def keyO (n : Nat) : Bool := decide (n = 1 ∨ n = 26 ∨ n = 27 ∨ n = 28 ∨ n = 29)
def pC (i : GI) : Bool := (fwr i.op || decide (i.op = 25)) && decide (10 ≤ i.a ∧ i.a ≤ 13)
structure Pc (nb : Nat) (l : List TI) (n : Nat) (o : List Nat) (cs : List GI) : Prop where
  all : AllT nb l
  len : l.length ≤ n
  op : (l.map fun x => x.1.op).filter keyO = o
  ct : (l.map Prod.fst).filter pC = cs
theorem Pc.nil (nb : Nat) : Pc nb [] 0 [] [] := ⟨AllT.nil nb, Nat.le_refl _, rfl, rfl⟩
theorem Pc.app {nb : Nat} {l t : List TI} {n m : Nat} {o p : List Nat} {cs ds : List GI} (h : Pc nb l n o cs) (k : Pc nb t m p ds) : Pc nb (l ++ t) (n + m) (o ++ p) (cs ++ ds) := by
  refine ⟨h.all.app k.all, by rw [List.length_append]; exact Nat.add_le_add h.len k.len, ?_, ?_⟩
  · rw [List.map_append, List.filter_append, h.op, k.op]
  · rw [List.map_append, List.filter_append, h.ct, k.ct]
theorem Pc.le {nb : Nat} {l : List TI} {n m : Nat} {o : List Nat} {cs : List GI} (h : Pc nb l n o cs) (hm : n ≤ m) : Pc nb l m o cs := ⟨h.all, Nat.le_trans h.len hm, h.op, h.ct⟩
theorem Pc.one {nb : Nat} {x : TI} (h : okT nb x = true) (hk : keyO x.1.op = false) (hc : pC x.1 = false) : Pc nb [x] 1 [] [] :=
  ⟨AllT.one h, Nat.le_refl _, by simp [hk], by simp [hc]⟩
theorem Pc.oneO {nb : Nat} {x : TI} (h : okT nb x = true) (hk : keyO x.1.op = true) (hc : pC x.1 = false) : Pc nb [x] 1 [x.1.op] [] :=
  ⟨AllT.one h, Nat.le_refl _, by simp [hk], by simp [hc]⟩
theorem Pc.oneC {nb : Nat} {x : TI} (h : okT nb x = true) (hk : keyO x.1.op = false) (hc : pC x.1 = true) : Pc nb [x] 1 [] [x.1] :=
  ⟨AllT.one h, Nat.le_refl _, by simp [hk], by simp [hc]⟩
theorem pC_no {n : Nat} {a b c i : Int} (h : a < 10 ∨ 13 < a) : pC ⟨n, a, b, c, i⟩ = false := by
  unfold pC
  rw [decide_eq_false (show ¬ (10 ≤ a ∧ a ≤ 13) by omega), Bool.and_false]
theorem pC_op {n : Nat} {a b c i : Int} (h : fwr n = false) (h2 : n ≠ 25) : pC ⟨n, a, b, c, i⟩ = false := by
  unfold pC
  simp [h, h2]
section
variable {c : Cfg} {R : Int} {nb : Nat}
theorem read_pc (hp : PlOk c R) {v : Int} (hv : okR R v = true) {scr : Int} (hs : scr = 1 ∨ scr = 14) : Pc nb (readT c v scr).2 1 [] [] ∧ 1 ≤ (readT c v scr).1 ∧ ((readT c v scr).1 ≤ 9 ∨ (readT c v scr).1 = 14) := by
  have h := hp.pl v hv
  have hsp := hp.sp
  unfold readT
  split
  · refine ⟨(Pc.nil nb).le (by decide), ?_⟩
    show 1 ≤ (placeG c v).1 ∧ _
    omega
  · refine ⟨Pc.one (okT_p (vG_abi (by decide) ⟨rfl, rfl, rfl, rfl⟩ ⟨rfl, rfl⟩ (by omega) (by omega) (by show -131072 ≤ _ ∧ _ ≤ 131071; omega)) rfl rfl) rfl (pC_no (by omega)), ?_⟩
    show 1 ≤ scr ∧ (scr ≤ 9 ∨ scr = 14)
    omega
theorem write_pc (hp : PlOk c R) {v : Int} (hv : okR R v = true) {st : Int → List TI} {n : Nat} {o : List Nat} (hs : ∀ r, 1 ≤ r → r ≤ 9 → Pc nb (st r) n o []) : Pc nb (writeT c v st) (n + 1) o [] := by
  have h := hp.pl v hv
  have hsp := hp.sp
  unfold writeT
  split
  · exact (hs _ (by omega) (by omega)).le (by omega)
  · have := (hs 1 (by decide) (by decide)).app (Pc.one (nb := nb) (x := (⟨19, 1, 0, 0, c.sp + (placeG c v).2⟩, .p)) (okT_p (vG_abi (by decide) ⟨rfl, rfl, rfl, rfl⟩ ⟨rfl, rfl⟩ (by decide) (by decide) (by show -131072 ≤ _ ∧ _ ≤ 131071; omega)) rfl rfl) rfl (pC_op rfl (by decide)))
    rw [List.append_nil, List.append_nil] at this
    exact this
theorem const_pc {r n : Int} (hr : 1 ≤ r ∧ r ≤ 9) (hn : -2147483648 ≤ n ∧ n ≤ 2147483647) : Pc nb (pT (constG r n)) 3 [] [] := by
  unfold constG
  rw [if_neg (by omega)]
  split
  · exact (Pc.one (okT_p (vG_ai (by decide) ⟨rfl, rfl, rfl, rfl⟩ ⟨rfl, rfl⟩ (by omega) (by show -131072 ≤ _ ∧ _ ≤ 131071; omega)) rfl rfl) rfl (pC_no (by omega))).le (by decide)
  · refine (Pc.app (l := [_]) (n := 1) (o := []) (cs := []) ?_ (Pc.app (l := [_]) (n := 1) (o := []) (cs := []) ?_ ?_) : Pc nb _ (1 + (1 + 1)) _ _)
    · exact Pc.one (okT_p (vG_ai (by decide) ⟨rfl, rfl, rfl, rfl⟩ ⟨rfl, rfl⟩ (by omega) (by show -131072 ≤ _ ∧ _ ≤ 131071; omega)) rfl rfl) rfl (pC_no (by omega))
    · exact Pc.one (okT_p (vG_abi (by decide) ⟨rfl, rfl, rfl, rfl⟩ ⟨rfl, rfl⟩ (by omega) (by omega) (by decide)) rfl rfl) rfl (pC_no (by omega))
    · exact Pc.one (okT_p (vG_abi (by decide) ⟨rfl, rfl, rfl, rfl⟩ ⟨rfl, rfl⟩ (by omega) (by omega) (by show 0 ≤ _ ∧ _ ≤ 16383; omega)) rfl rfl) rfl (pC_no (by omega))
theorem three_pc {n : Nat} {a b d : Int} (hn : 2 ≤ n ∧ n ≤ 13) (ha : 1 ≤ a ∧ (a ≤ 9 ∨ a = 14 ∨ a = 15)) (hb : 0 ≤ b ∧ b ≤ 15) (hd : 0 ≤ d ∧ d ≤ 15) : Pc nb (pT [⟨n, a, b, d, 0⟩]) 1 [] [] :=
  Pc.one (okT_p (vG_abc hn (by omega) hb hd) (by unfold refO; exact decide_eq_false (show ¬ (n = 20 ∨ n = 21 ∨ n = 28 ∨ n = 29) by omega)) (by unfold brO; exact decide_eq_false (show ¬ (n = 22 ∨ n = 23 ∨ n = 24) by omega))) (by unfold keyO; exact decide_eq_false (show ¬ (n = 1 ∨ n = 26 ∨ n = 27 ∨ n = 28 ∨ n = 29) by omega)) (pC_no (by omega))
theorem three_app {l : List GI} {x : GI} {n : Nat} (h : Pc nb (pT [x]) 1 [] []) (k : Pc nb (pT l) n [] []) : Pc nb (pT (x :: l)) (1 + n) [] [] := h.app k
theorem oper_pc {k : Nat} {r x y : Int} (hk : 6 ≤ k ∧ k ≤ 23) (hr : 1 ≤ r ∧ r ≤ 9) (hx : 0 ≤ x ∧ x ≤ 15) (hy : 0 ≤ y ∧ y ≤ 15) : Pc nb (pT (operG k r x y)) 4 [] [] := by
  unfold operG
  split
  · exact (three_pc (by omega) (by omega) hx hy).le (by decide)
  split
  · exact (three_app (three_pc (by omega) (by omega) hx hy) (three_pc (by omega) (by omega) (by omega) (by omega))).le (by decide)
  split
  · exact (three_pc (by omega) (by omega) hx hy).le (by decide)
  split
  · exact (three_pc (by omega) (by omega) hy hx).le (by decide)
  split
  · exact (three_app (three_pc (by omega) (by omega) hy hx) (three_pc (by omega) (by omega) (by omega) (by omega))).le (by decide)
  split
  · exact (three_app (three_pc (by omega) (by omega) hx hy) (three_pc (by omega) (by omega) (by omega) (by omega))).le (by decide)
  split
  · exact three_app (three_pc (by omega) (by omega) hx (by omega)) (three_app (three_pc (by omega) (by omega) hy (by omega)) (three_app (three_pc (by omega) (by omega) (by omega) (by omega)) (three_pc (by omega) (by omega) (by omega) (by omega))))
  split
  · exact (three_app (three_pc (by omega) (by omega) hx hy) (three_app (three_pc (by omega) (by omega) (by omega) (by omega)) (three_pc (by omega) (by omega) (by omega) (by omega)))).le (by decide)
  · omega
def oT (n : Nat) : List Nat := if n = 9 then [26] else if n = 10 then [27] else if n = 11 then [28] else if n = 12 then [29] else []
def cT (i : IIns) : List GI := if i.op = 13 then [⟨14, 10 + i.imm, 0, 0, 0⟩] else if i.op = 14 then [⟨15, 10 + i.imm, 10 + i.imm, 0, 1⟩] else if i.op = 16 then [⟨25, 10 + i.x, 0, 0, i.imm⟩] else []
theorem okR_of {n r : Int} (h : okR n r = true) : 0 ≤ r ∧ r < n := by
  unfold okR at h
  exact of_decide_eq_true h
theorem bw_of {n lo hi : Int} (h : bw n lo hi = true) : lo ≤ n ∧ n ≤ hi := by
  unfold bw at h
  exact of_decide_eq_true h
theorem ins_pc (hp : PlOk c R) {K : Kinds} {i : IIns} (h : vIns R K i = true) : Pc nb (insT c i) 7 (oT i.op) (cT i) := by
  have har := hp.ar i.sym
  unfold vIns at h
  unfold insT oT cT
  simp only [] at h
  by_cases h1 : i.op = 1
  · simp only [h1, if_true, Bool.and_eq_true, Nat.reduceEqDiff, if_false] at h ⊢
    exact (write_pc hp h.1.1.1.1 fun r hr1 hr2 => const_pc ⟨hr1, hr2⟩ (bw_of h.1.1.1.2)).le (by decide)
  rw [if_neg h1] at h
  rw [if_neg h1]
  by_cases h2 : i.op = 2
  · simp only [h2, if_true, Bool.and_eq_true, Nat.reduceEqDiff, if_false] at h ⊢
    split
    · exact (Pc.nil nb).le (by decide)
    · obtain ⟨hx, x1, x2⟩ := read_pc (nb := nb) hp h.1.1.1.2 (scr := 1) (.inl rfl)
      have hw := write_pc hp h.1.1.1.1 (nb := nb) (n := 1) (o := []) (st := fun r => if r ≠ (readT c i.x 1).1 then pT [⟨15, r, (readT c i.x 1).1, 0, 0⟩] else []) (fun r hr1 hr2 => by
        show Pc nb (if r ≠ (readT c i.x 1).1 then _ else _) _ _ _
        split
        · exact Pc.one (okT_p (vG_abi (by decide) ⟨rfl, rfl, rfl, rfl⟩ ⟨rfl, rfl⟩ (by omega) (by omega) (by decide)) rfl rfl) rfl (pC_no (by omega))
        · exact (Pc.nil nb).le (by decide))
      exact (hx.app hw).le (by decide)
  rw [if_neg h2] at h
  rw [if_neg h2]
  by_cases h3 : i.op = 3
  · simp only [h3, if_true, Bool.and_eq_true, Nat.reduceEqDiff, if_false] at h ⊢
    obtain ⟨hx, x1, x2⟩ := read_pc (nb := nb) hp h.1.1.1.2 (scr := 1) (.inl rfl)
    obtain ⟨hy, y1, y2⟩ := read_pc (nb := nb) hp h.1.1.2 (scr := 14) (.inr rfl)
    have hb := bw_of h.1.2
    have hw := write_pc hp h.1.1.1.1 (nb := nb) (n := 4) (o := []) (st := fun r => pT (operG i.imm.toNat r (readT c i.x 1).1 (readT c i.y 14).1)) (fun r hr1 hr2 => oper_pc (by omega) ⟨hr1, hr2⟩ (by omega) (by omega))
    exact (hx.app (hy.app hw)).le (by decide)
  rw [if_neg h3] at h
  rw [if_neg h3]
  by_cases h4 : i.op = 4
  · simp only [h4, if_true, Bool.and_eq_true, Nat.reduceEqDiff, if_false, true_or] at h ⊢
    obtain ⟨hx, x1, x2⟩ := read_pc (nb := nb) hp h.1.1.1.2 (scr := 1) (.inl rfl)
    have hw := write_pc hp h.1.1.1.1 (nb := nb) (n := 1) (o := []) (st := fun r => pT [⟨18, r, (readT c i.x 1).1, 0, c.ar i.sym⟩]) (fun r hr1 hr2 => Pc.one (okT_p (vG_abi (by decide) ⟨rfl, rfl, rfl, rfl⟩ ⟨rfl, rfl⟩ (by omega) (by omega) (by show -131072 ≤ _ ∧ _ ≤ 131071; omega)) rfl rfl) rfl (pC_no (by omega)))
    exact (hx.app hw).le (by decide)
  rw [if_neg h4]
  by_cases h6 : i.op = 6
  · simp only [h6, if_true, Bool.and_eq_true, Nat.reduceEqDiff, if_false, or_true] at h ⊢
    obtain ⟨hx, x1, x2⟩ := read_pc (nb := nb) hp h.1.1.1.2 (scr := 1) (.inl rfl)
    have hw := write_pc hp h.1.1.1.1 (nb := nb) (n := 1) (o := []) (st := fun r => [(⟨20, r, (readT c i.x 1).1, 0, 0⟩, Tg.r i.sym)]) (fun r hr1 hr2 => Pc.one (okT_r (vG_abi (by decide) ⟨rfl, rfl, rfl, rfl⟩ ⟨rfl, rfl⟩ (by omega) (by omega) (by decide)) rfl rfl) rfl (pC_no (by omega)))
    exact (hx.app hw).le (by decide)
  rw [if_neg (by omega)] at h
  rw [if_neg h6]
  by_cases h57 : i.op = 5 ∨ i.op = 7
  · rw [if_pos h57] at h
    rw [if_pos h57]
    simp only [Bool.and_eq_true] at h
    rw [if_neg (show ¬ i.op = 9 by omega), if_neg (show ¬ i.op = 10 by omega), if_neg (show ¬ i.op = 11 by omega), if_neg (show ¬ i.op = 12 by omega), if_neg (show ¬ i.op = 13 by omega), if_neg (show ¬ i.op = 14 by omega), if_neg (show ¬ i.op = 16 by omega)]
    obtain ⟨hx, x1, x2⟩ := read_pc (nb := nb) hp h.1.1.1.1 (scr := 1) (.inl rfl)
    obtain ⟨hy, y1, y2⟩ := read_pc (nb := nb) hp h.1.1.1.2 (scr := 14) (.inr rfl)
    refine (hx.app (hy.app (m := 1) (p := []) (ds := []) ?_)).le (by decide)
    split
    · exact Pc.one (okT_p (vG_abi (by decide) ⟨rfl, rfl, rfl, rfl⟩ ⟨rfl, rfl⟩ (by omega) (by omega) (by show -131072 ≤ _ ∧ _ ≤ 131071; omega)) rfl rfl) rfl (pC_op rfl (by decide))
    · exact Pc.one (okT_r (vG_abi (by decide) ⟨rfl, rfl, rfl, rfl⟩ ⟨rfl, rfl⟩ (by omega) (by omega) (by decide)) rfl rfl) rfl (pC_op rfl (by decide))
  rw [if_neg h57] at h
  rw [if_neg h57]
  by_cases h8 : i.op = 8
  · simp only [h8, if_true, Bool.and_eq_true, Nat.reduceEqDiff, if_false] at h ⊢
    obtain ⟨hx, x1, x2⟩ := read_pc (nb := nb) hp h.1.1.1.1 (scr := 1) (.inl rfl)
    have hb := bw_of h.1.1.1.2
    exact (hx.app (Pc.one (okT_p (vG_ai (by decide) ⟨rfl, rfl, rfl, rfl⟩ ⟨rfl, rfl⟩ (by omega) (by show 1 ≤ _ ∧ _ ≤ 131071; omega)) rfl rfl) rfl (pC_no (by omega)))).le (by decide)
  rw [if_neg h8] at h
  rw [if_neg h8]
  by_cases h9 : i.op = 9
  · simp only [h9, if_true, Bool.and_eq_true, Nat.reduceEqDiff, if_false] at h ⊢
    have hb := bw_of h.1.1.1.2
    exact (write_pc hp h.1.1.1.1 (nb := nb) (n := 1) (o := [26]) (fun r hr1 hr2 => Pc.oneO (okT_p (vG_ai (by decide) ⟨rfl, rfl, rfl, rfl⟩ ⟨rfl, rfl⟩ (by omega) (by show 0 ≤ _ ∧ _ ≤ 7; omega)) rfl rfl) rfl (pC_no (by omega)))).le (by decide)
  rw [if_neg h9] at h
  rw [if_neg h9]
  by_cases h10 : i.op = 10
  · simp only [h10, if_true, Bool.and_eq_true, Nat.reduceEqDiff, if_false] at h ⊢
    obtain ⟨hx, x1, x2⟩ := read_pc (nb := nb) hp h.1.1.1.1 (scr := 1) (.inl rfl)
    have hb := bw_of h.1.1.1.2
    exact (hx.app (Pc.oneO (okT_p (vG_ai (by decide) ⟨rfl, rfl, rfl, rfl⟩ ⟨rfl, rfl⟩ (by omega) (by show 0 ≤ _ ∧ _ ≤ 7; omega)) rfl rfl) rfl (pC_op rfl (by decide)))).le (by decide)
  rw [if_neg h10] at h
  rw [if_neg h10]
  by_cases h11 : i.op = 11
  · simp only [h11, if_true, Nat.reduceEqDiff, if_false] at h ⊢
    exact (Pc.oneO (okT_r (vG_i (by decide) ⟨rfl, rfl, rfl, rfl⟩ ⟨rfl, rfl⟩ (by decide)) rfl rfl) rfl (pC_no (by decide))).le (by decide)
  rw [if_neg h11]
  by_cases h12 : i.op = 12
  · simp only [h12, if_true, Nat.reduceEqDiff, if_false] at h ⊢
    exact (Pc.oneO (okT_r (vG_i (by decide) ⟨rfl, rfl, rfl, rfl⟩ ⟨rfl, rfl⟩ (by decide)) rfl rfl) rfl (pC_no (by decide))).le (by decide)
  rw [if_neg (by omega)] at h
  rw [if_neg h12]
  by_cases h13 : i.op = 13
  · simp only [h13, if_true, Bool.and_eq_true, Nat.reduceEqDiff, if_false, true_or] at h ⊢
    have hb := bw_of h.1.1.1.1
    exact (Pc.oneC (okT_p (vG_ai (by decide) ⟨rfl, rfl, rfl, rfl⟩ ⟨rfl, rfl⟩ (by omega) (by decide)) rfl rfl) rfl (by unfold pC; exact Bool.and_eq_true_iff.2 ⟨rfl, decide_eq_true (by show 10 ≤ 10 + _ ∧ 10 + _ ≤ 13; omega)⟩)).le (by decide)
  by_cases h14 : i.op = 14
  · simp only [h14, if_true, Bool.and_eq_true, Nat.reduceEqDiff, if_false, or_true] at h ⊢
    have hb := bw_of h.1.1.1.1
    exact (Pc.oneC (okT_p (vG_abi (by decide) ⟨rfl, rfl, rfl, rfl⟩ ⟨rfl, rfl⟩ (by omega) (by omega) (by decide)) rfl rfl) rfl (by unfold pC; exact Bool.and_eq_true_iff.2 ⟨rfl, decide_eq_true (by show 10 ≤ 10 + _ ∧ 10 + _ ≤ 13; omega)⟩)).le (by decide)
  rw [if_neg (by omega)] at h
  rw [if_neg h13, if_neg h14]
  by_cases h15 : i.op = 15
  · simp only [h15, if_true, Bool.and_eq_true, Nat.reduceEqDiff, if_false] at h ⊢
    have hb := bw_of h.1.1.1.2
    exact (write_pc hp h.1.1.1.1 (nb := nb) (n := 1) (o := []) (fun r hr1 hr2 => Pc.one (okT_p (vG_abi (by decide) ⟨rfl, rfl, rfl, rfl⟩ ⟨rfl, rfl⟩ (by omega) (by omega) (by decide)) rfl rfl) rfl (pC_no (by omega)))).le (by decide)
  rw [if_neg h15] at h
  rw [if_neg h15]
  by_cases h16 : i.op = 16
  · simp only [h16, if_true, Bool.and_eq_true, Nat.reduceEqDiff, if_false] at h ⊢
    have hx := bw_of h.1.1.1.1
    have hb := bw_of h.1.1.1.2
    exact (Pc.oneC (okT_p (vG_ai (by decide) ⟨rfl, rfl, rfl, rfl⟩ ⟨rfl, rfl⟩ (by omega) (by show 1 ≤ _ ∧ _ ≤ 131071; omega)) rfl rfl) rfl (by unfold pC; exact Bool.and_eq_true_iff.2 ⟨rfl, decide_eq_true (by show 10 ≤ 10 + _ ∧ 10 + _ ≤ 13; omega)⟩)).le (by decide)
  rw [if_neg h16] at h
  cases h
theorem end_pc (hp : PlOk c R) {b : IBlk} {next : Int} (h : vEnd R nb b = true) : Pc nb (endT c b next) 3 (if b.kind = 3 then [1] else []) [] := by
  unfold vEnd at h
  unfold endT
  by_cases h3 : b.kind = 3
  · simp only [if_pos h3]
    exact (Pc.oneO (okT_p vG_halt rfl rfl) rfl (pC_no (by decide))).le (by decide)
  simp only [if_neg h3]
  have hto : okR nb b.tgt = true := by
    repeat' split at h
    all_goals simp_all
  by_cases h2 : b.kind = 2 ∧ b.tgt ≠ b.els
  · rw [if_pos h2]
    rw [if_neg (by omega), if_pos h2.1] at h
    simp only [Bool.and_eq_true] at h
    obtain ⟨hx, x1, x2⟩ := read_pc (nb := nb) hp h.1.1 (scr := 1) (.inl rfl)
    have e22 : Pc nb [(⟨22, (readT c b.x 1).1, 0, 0, 0⟩, Tg.b b.els)] 1 [] [] := Pc.one (okT_b (vG_ai (by decide) ⟨rfl, rfl, rfl, rfl⟩ ⟨rfl, rfl⟩ (by omega) (by decide)) rfl rfl h.2) rfl (pC_op rfl (by decide))
    have e23 : Pc nb [(⟨23, (readT c b.x 1).1, 0, 0, 0⟩, Tg.b b.tgt)] 1 [] [] := Pc.one (okT_b (vG_ai (by decide) ⟨rfl, rfl, rfl, rfl⟩ ⟨rfl, rfl⟩ (by omega) (by decide)) rfl rfl h.1.2) rfl (pC_op rfl (by decide))
    have e24 : Pc nb [(⟨24, 0, 0, 0, 0⟩, Tg.b b.els)] 1 [] [] := Pc.one (okT_b (vG_i (by decide) ⟨rfl, rfl, rfl, rfl⟩ ⟨rfl, rfl⟩ (by decide)) rfl rfl h.2) rfl (pC_no (by decide))
    refine (hx.app (m := 2) (p := []) (ds := []) ?_).le (by decide)
    split
    · exact e22.le (by decide)
    · split
      · exact e23.app e24
      · exact e23.le (by decide)
  rw [if_neg h2]
  split
  · exact (Pc.one (okT_b (vG_i (by decide) ⟨rfl, rfl, rfl, rfl⟩ ⟨rfl, rfl⟩ (by decide)) rfl rfl hto) rfl (pC_no (by decide))).le (by decide)
  · exact (Pc.nil nb).le (by decide)
end
end Go.Proofs.YtkcfbonchhidlaaGreatDoor

set_option linter.unusedVariables false
set_option linter.unusedSimpArgs false
namespace Go.Proofs.YtkcfbonchhidlaaGreatDoor
open Go.RowKit

theorem getD_app_lt {α : Type} (l t : List α) (d : α) {j : Nat} (h : j < l.length) : (l ++ t).getD j d = l.getD j d := by
  rw [List.getD_eq_getElem?_getD, List.getD_eq_getElem?_getD, List.getElem?_append_left h]
theorem getD_app_eq {α : Type} (l : List α) (x d : α) : (l ++ [x]).getD l.length d = x := by
  rw [List.getD_eq_getElem?_getD, List.getElem?_append_right (Nat.le_refl _)]; simp
def wantR : Nat → List GI → List (Int × Bool)
  | _, [] => []
  | k, i :: l => if refO i.op = true then ((k : Int), lockO i.op) :: wantR (k + 1) l else wantR (k + 1) l
theorem wantR_app : ∀ (l t : List GI) (k : Nat), wantR k (l ++ t) = wantR k l ++ wantR (k + l.length) t
  | [], t, k => rfl
  | i :: l, t, k => by
    show (if refO i.op = true then _ :: wantR (k + 1) (l ++ t) else wantR (k + 1) (l ++ t)) = (if refO i.op = true then _ else _) ++ _
    rw [wantR_app l t, List.length_cons, show k + 1 + l.length = k + (l.length + 1) by omega]
    split <;> rfl
theorem wantR_ops : ∀ (l t : List GI) (k : Nat), l.map GI.op = t.map GI.op → wantR k l = wantR k t
  | [], [], k, _ => rfl
  | [], _ :: _, k, h => by cases h
  | _ :: _, [], k, h => by cases h
  | i :: l, j :: t, k, h => by
    rw [List.map_cons, List.map_cons] at h
    injection h with h1 h2
    unfold wantR
    rw [h1, wantR_ops l t (k + 1) h2]
def scanV (n : Int) : Nat → List GI → List (Int × Bool) → Bool
  | _, [], rs => decide (rs = [])
  | k, i :: l, rs => vG i && (!brO i.op || okR n ((k : Int) + 1 + i.imm)) && (if refO i.op = true then (match rs with | [] => false | r :: rs' => decide (r.1 = (k : Int) ∧ r.2 = lockO i.op) && scanV n (k + 1) l rs') else scanV n (k + 1) l rs)
def valO (code : List GI) (data : Int) (refs : List (Int × Bool)) : Bool := decide ((1 ≤ code.length ∧ code.length ≤ 4096) ∧ 0 ≤ data ∧ data ≤ 512) && scanV code.length 0 code refs
theorem scan_want (n : Int) : ∀ (l : List GI) (k : Nat), (∀ j, j < l.length → vG (l.getD j default) = true ∧ (brO (l.getD j default).op = true → okR n ((k : Int) + j + 1 + (l.getD j default).imm) = true)) → scanV n k l (wantR k l) = true
  | [], k, _ => rfl
  | i :: l, k, h => by
    have h0 := h 0 (by simp)
    have hr := scan_want n l (k + 1) fun j hj => by
      have := h (j + 1) (by simpa using hj)
      rw [List.getD_cons_succ] at this
      refine ⟨this.1, fun hb => ?_⟩
      have h2 := this.2 hb
      rw [show ((k + 1 : Nat) : Int) + j + 1 + (l.getD j default).imm = (k : Int) + ((j + 1 : Nat) : Int) + 1 + (l.getD j default).imm by omega]
      exact h2
    rw [List.getD_cons_zero] at h0
    have h1 : (!brO i.op || okR n ((k : Int) + 1 + i.imm)) = true := by
      cases hb : brO i.op with
      | false => rfl
      | true =>
        have := h0.2 hb
        rw [show (k : Int) + ((0 : Nat) : Int) + 1 + i.imm = (k : Int) + 1 + i.imm by omega] at this
        rw [this]; rfl
    unfold scanV wantR
    rw [h0.1, h1]
    by_cases hR : refO i.op = true
    · simp [hR, hr]
    · simp [hR, hr]

structure GOk (nb : Nat) (g : Gen) : Prop where
  val : ∀ i ∈ g.code, vG i = true
  ref : g.refs.map (fun r => (r.at', r.lk)) = wantR 0 g.code
  brs : ∀ b ∈ g.brs, ∃ a k : Nat, b = ((a : Int), (k : Int)) ∧ a < g.code.length ∧ k < nb ∧ brO (g.code.getD a default).op = true
  all : ∀ j, j < g.code.length → brO (g.code.getD j default).op = true → ∃ k, ((j : Int), k) ∈ g.brs
theorem GOk.add {nb : Nat} {g : Gen} {x : TI} (h : GOk nb g) (hx : okT nb x = true) : GOk nb (add1 g x) := by
  obtain ⟨i, t⟩ := x
  unfold okT at hx
  rw [Bool.and_eq_true] at hx
  obtain ⟨hv, ht⟩ := hx
  have hval : ∀ j ∈ g.code ++ [i], vG j = true := fun j hj => by
    rcases List.mem_append.1 hj with hj | hj
    · exact h.val j hj
    · rw [List.mem_singleton] at hj; subst hj; exact hv
  have hold : ∀ b ∈ g.brs, ∃ a k : Nat, b = ((a : Int), (k : Int)) ∧ a < (g.code ++ [i]).length ∧ k < nb ∧ brO ((g.code ++ [i]).getD a default).op = true := fun b hb => by
    obtain ⟨a, k, e, h1, h2, h3⟩ := h.brs b hb
    exact ⟨a, k, e, by rw [List.length_append]; omega, h2, by rw [getD_app_lt _ _ _ h1]; exact h3⟩
  have hwant : wantR 0 (g.code ++ [i]) = wantR 0 g.code ++ (if refO i.op = true then [((g.code.length : Int), lockO i.op)] else []) := by
    rw [wantR_app, Nat.zero_add]; rfl
  cases t with
  | p =>
    simp only [Bool.and_eq_true, Bool.not_eq_true'] at ht
    refine ⟨hval, ?_, hold, fun j hj hb => ?_⟩
    · show g.refs.map _ = wantR 0 (g.code ++ [i])
      rw [hwant, ht.1, h.ref]; simp
    · have hj : j < g.code.length + 1 := by simpa [add1, emitG] using hj
      have hb : brO ((g.code ++ [i]).getD j default).op = true := hb
      by_cases e : j < g.code.length
      · rw [getD_app_lt _ _ _ e] at hb
        exact h.all j e hb
      · have e : j = g.code.length := by omega
        subst e
        rw [getD_app_eq, ht.2] at hb
        cases hb
  | r nm =>
    simp only [Bool.and_eq_true, Bool.not_eq_true'] at ht
    refine ⟨hval, ?_, hold, fun j hj hb => ?_⟩
    · show (g.refs ++ [_]).map _ = wantR 0 (g.code ++ [i])
      rw [hwant, if_pos ht.1, List.map_append, h.ref]; rfl
    · have hj : j < g.code.length + 1 := by simpa [add1, emitG, referG] using hj
      have hb : brO ((g.code ++ [i]).getD j default).op = true := hb
      by_cases e : j < g.code.length
      · rw [getD_app_lt _ _ _ e] at hb
        exact h.all j e hb
      · have e : j = g.code.length := by omega
        subst e
        rw [getD_app_eq, ht.2] at hb
        cases hb
  | b k =>
    simp only [Bool.and_eq_true, Bool.not_eq_true'] at ht
    refine ⟨hval, ?_, fun b hb => ?_, fun j hj hb => ?_⟩
    · show g.refs.map _ = wantR 0 (g.code ++ [i])
      rw [hwant, ht.1.2, h.ref]; simp
    · have hb : b ∈ g.brs ++ [((g.code.length : Int), k)] := hb
      rcases List.mem_append.1 hb with hb | hb
      · exact hold b hb
      · rw [List.mem_singleton] at hb
        have hk := okR_of ht.2
        refine ⟨g.code.length, k.toNat, by rw [hb, Int.toNat_of_nonneg hk.1], by show _ < (g.code ++ [i]).length; simp, by omega, ?_⟩
        show brO ((g.code ++ [i]).getD g.code.length default).op = true
        rw [getD_app_eq]; exact ht.1.1
    · have hj : j < g.code.length + 1 := by simpa [add1, emitG, jumpG] using hj
      have hb : brO ((g.code ++ [i]).getD j default).op = true := hb
      by_cases e : j < g.code.length
      · rw [getD_app_lt _ _ _ e] at hb
        obtain ⟨q, hq⟩ := h.all j e hb
        exact ⟨q, List.mem_append_left _ hq⟩
      · have e : j = g.code.length := by omega
        subst e
        exact ⟨k, List.mem_append_right _ (List.mem_singleton.2 rfl)⟩
theorem GOk.addAll {nb : Nat} : ∀ {l : List TI} {g : Gen}, GOk nb g → AllT nb l → GOk nb (addT l g)
  | [], g, h, _ => h
  | x :: l, g, h, hl => (h.add (hl x (List.mem_cons_self ..))).addAll fun y hy => hl y (List.mem_cons_of_mem _ hy)
theorem GOk.sts {nb : Nat} {g : Gen} (h : GOk nb g) (s : List Int) : GOk nb { g with starts := s } := ⟨h.val, h.ref, h.brs, h.all⟩

theorem fix_len (st : List Int) (code : List GI) (b : Int × Int) : (fixG st code b).length = code.length := by unfold fixG; rw [List.length_set]
theorem fix_at (st : List Int) (code : List GI) {a : Nat} (k : Int) (ha : a < code.length) (j : Nat) : (fixG st code ((a : Int), k)).getD j default = if a = j then { code.getD a default with imm := st.getD k.toNat 0 - a - 1 } else code.getD j default := by
  unfold fixG
  simp only [Int.toNat_natCast]
  rw [List.getD_eq_getElem?_getD, List.getElem?_set]
  by_cases e : a = j
  · subst e; simp [ha]
  · rw [if_neg e, if_neg e, List.getD_eq_getElem?_getD]
theorem res_at (st : List Int) : ∀ (brs : List (Int × Int)) (code : List GI), (∀ b ∈ brs, ∃ a k : Nat, b = ((a : Int), (k : Int)) ∧ a < code.length) →
    (brs.foldl (fixG st) code).length = code.length ∧ ∀ j : Nat, ((brs.foldl (fixG st) code).getD j default = code.getD j default ∧ ∀ k, ((j : Int), k) ∉ brs) ∨ ∃ k, ((j : Int), k) ∈ brs ∧ (brs.foldl (fixG st) code).getD j default = { code.getD j default with imm := st.getD k.toNat 0 - j - 1 }
  | [], code, _ => ⟨rfl, fun j => .inl ⟨rfl, fun k h => by cases h⟩⟩
  | b :: brs, code, h => by
    obtain ⟨a, k, rfl, ha⟩ := h b (List.mem_cons_self ..)
    obtain ⟨h1, h2⟩ := res_at st brs (fixG st code ((a : Int), (k : Int))) fun c hc => by
      obtain ⟨a', k', e, h⟩ := h c (List.mem_cons_of_mem _ hc)
      exact ⟨a', k', e, by rw [fix_len]; exact h⟩
    refine ⟨h1.trans (fix_len _ _ _), fun j => ?_⟩
    rw [List.foldl_cons]
    rcases h2 j with ⟨e, hn⟩ | ⟨q, hq, e⟩
    · rw [fix_at st code _ ha] at e
      by_cases ej : a = j
      · subst ej
        rw [if_pos rfl] at e
        exact .inr ⟨k, List.mem_cons_self .., e⟩
      · rw [if_neg ej] at e
        refine .inl ⟨e, fun q hq => ?_⟩
        rcases List.mem_cons.1 hq with hq | hq
        · injection hq with hq _; omega
        · exact hn q hq
    · refine .inr ⟨q, List.mem_cons_of_mem _ hq, e.trans ?_⟩
      rw [fix_at st code _ ha]
      by_cases ej : a = j
      · subst ej; rw [if_pos rfl]
      · rw [if_neg ej]
theorem vG_imm {i : GI} {m : Int} (hb : brO i.op = true) (h : vG i = true) (hm : -131072 ≤ m ∧ m ≤ 131071) : vG { i with imm := m } = true := by
  obtain ⟨n, a, b, c, im⟩ := i
  have hb : n = 22 ∨ n = 23 ∨ n = 24 := of_decide_eq_true hb
  have h : vld n a b c im = true := h
  show vld n a b c m = true
  rcases hb with rfl | rfl | rfl
  all_goals (
    unfold vld vldS at h ⊢
    rw [Bool.and_eq_true] at h ⊢
    refine ⟨h.1, decide_eq_true ?_⟩
    have := of_decide_eq_true h.2
    exact ⟨this.1, this.2.1, this.2.2.1, hm⟩)
theorem res_ok {nb : Nat} {g : Gen} (h : GOk nb g) (hs : ∀ k, k < nb → 0 ≤ g.starts.getD k 0 ∧ g.starts.getD k 0 < g.code.length) (hl : g.code.length ≤ 4096) (h1 : 1 ≤ g.code.length) {data : Int} (hd : 0 ≤ data ∧ data ≤ 512) :
    valO (resG g) data (g.refs.map fun r => (r.at', r.lk)) = true ∧ (resG g).length = g.code.length ∧ (resG g).map GI.op = g.code.map GI.op ∧ (resG g).filter pC = g.code.filter pC := by
  obtain ⟨hlen, hat⟩ := res_at g.starts g.brs g.code fun b hb => by
    obtain ⟨a, k, e, h1, _⟩ := h.brs b hb
    exact ⟨a, k, e, h1⟩
  have hlen : (resG g).length = g.code.length := hlen
  have hat : ∀ j : Nat, ((resG g).getD j default = g.code.getD j default ∧ ∀ k, ((j : Int), k) ∉ g.brs) ∨ ∃ k, ((j : Int), k) ∈ g.brs ∧ (resG g).getD j default = { g.code.getD j default with imm := g.starts.getD k.toNat 0 - j - 1 } := hat
  have hmap : ∀ (f : GI → Bool) (hf : ∀ i m, brO i.op = true → f { i with imm := m } = f i), (resG g).map f = g.code.map f := fun f hf => by
    apply List.ext_getElem
    · simp [hlen]
    intro j hj1 hj2
    simp only [List.getElem_map]
    have e1 : (resG g)[j]'(by simpa using hj1) = (resG g).getD j default := by rw [List.getD_eq_getElem?_getD, List.getElem?_eq_getElem (by simpa using hj1)]; rfl
    have e2 : g.code[j]'(by simpa using hj2) = g.code.getD j default := by rw [List.getD_eq_getElem?_getD, List.getElem?_eq_getElem (by simpa using hj2)]; rfl
    rw [e1, e2]
    rcases hat j with ⟨e, _⟩ | ⟨k, hk, e⟩
    · rw [e]
    · obtain ⟨a, k', e', ha, _, hb⟩ := h.brs _ hk
      rw [e]
      refine hf _ _ ?_
      injection e' with e' _
      rw [show j = a by omega]; exact hb
  have hops : (resG g).map GI.op = g.code.map GI.op := by
    apply List.ext_getElem
    · simp [hlen]
    intro j hj1 hj2
    simp only [List.getElem_map]
    have e1 : (resG g)[j]'(by simpa using hj1) = (resG g).getD j default := by rw [List.getD_eq_getElem?_getD, List.getElem?_eq_getElem (by simpa using hj1)]; rfl
    have e2 : g.code[j]'(by simpa using hj2) = g.code.getD j default := by rw [List.getD_eq_getElem?_getD, List.getElem?_eq_getElem (by simpa using hj2)]; rfl
    rw [e1, e2]
    rcases hat j with ⟨e, _⟩ | ⟨k, hk, e⟩ <;> rw [e]
  have hval : ∀ j, j < (resG g).length → vG ((resG g).getD j default) = true ∧ (brO ((resG g).getD j default).op = true → okR (resG g).length (((0 : Nat) : Int) + j + 1 + ((resG g).getD j default).imm) = true) := fun j hj => by
    rw [hlen] at hj
    have hv := h.val (g.code.getD j default) (by rw [List.getD_eq_getElem?_getD, List.getElem?_eq_getElem hj]; exact List.getElem_mem hj)
    rcases hat j with ⟨e, hn⟩ | ⟨k, hk, e⟩
    · rw [e]
      refine ⟨hv, fun hb => ?_⟩
      obtain ⟨k, hk⟩ := h.all j hj hb
      exact absurd hk (hn k)
    · obtain ⟨a, k', e', ha, hkn, hb⟩ := h.brs _ hk
      injection e' with e' e''
      have ej : j = a := by omega
      subst ej
      have hsk := hs k' hkn
      rw [e, e'']
      simp only [Int.toNat_natCast]
      generalize g.starts.getD k' 0 = s at hsk ⊢
      refine ⟨vG_imm hb hv (by omega), fun _ => ?_⟩
      unfold okR
      rw [hlen]
      exact decide_eq_true (by omega)
  refine ⟨?_, hlen, hops, ?_⟩
  · unfold valO
    rw [decide_eq_true (by rw [hlen]; exact ⟨⟨h1, hl⟩, hd⟩), Bool.true_and, h.ref, wantR_ops _ _ 0 hops.symm]
    exact scan_want _ _ 0 hval
  · have hp : ∀ i : GI, brO i.op = true → pC i = false := fun i hb => by
      obtain ⟨n, a, b, c, im⟩ := i
      have hb : n = 22 ∨ n = 23 ∨ n = 24 := of_decide_eq_true hb
      rcases hb with rfl | rfl | rfl <;> exact pC_op rfl (by decide)
    have key : ∀ (l t : List GI), l.length = t.length → (∀ j, j < t.length → l.getD j default = t.getD j default ∨ (pC (l.getD j default) = false ∧ pC (t.getD j default) = false)) → l.filter pC = t.filter pC := by
      intro l
      induction l with
      | nil => intro t hlt _; rw [List.length_nil] at hlt; rw [List.length_eq_zero_iff.1 hlt.symm]
      | cons x l ih =>
        intro t hlt hj
        cases t with
        | nil => simp at hlt
        | cons y t =>
          have h0 := hj 0 (by simp)
          rw [List.getD_cons_zero, List.getD_cons_zero] at h0
          have hr := ih t (by simpa using hlt) fun j hjl => by
            have := hj (j + 1) (by simpa using hjl)
            rw [List.getD_cons_succ, List.getD_cons_succ] at this
            exact this
          rcases h0 with h0 | ⟨h0, h1⟩
          · rw [h0, List.filter_cons, List.filter_cons, hr]
          · rw [List.filter_cons, List.filter_cons, h0, h1, hr]
            rfl
    refine key _ _ hlen fun j hj => ?_
    rcases hat j with ⟨e, hn⟩ | ⟨k, hk, e⟩
    · exact .inl e
    · obtain ⟨a, k', e', ha, hkn, hb⟩ := h.brs _ hk
      injection e' with e' e''
      have ej : j = a := by omega
      subst ej
      refine .inr ⟨?_, hp _ hb⟩
      rw [e]; exact hp _ hb

def blksT (c : Cfg) (bs : List IBlk) : Nat → List TI
  | 0 => []
  | k + 1 => blksT c bs k ++ blkT c (bs.getD k default) k
def sumC (bs : List IBlk) : Nat → Nat
  | 0 => 0
  | k + 1 => sumC bs k + (bs.getD k default).code.length
def oB (bs : List IBlk) : Nat → List Nat
  | 0 => []
  | k + 1 => oB bs k ++ ((bs.getD k default).code.flatMap (fun i => oT i.op) ++ if (bs.getD k default).kind = 3 then [1] else [])
def cB (bs : List IBlk) : Nat → List GI
  | 0 => []
  | k + 1 => cB bs k ++ (bs.getD k default).code.flatMap cT
theorem blks_code (c : Cfg) (bs : List IBlk) (g : Gen) : ∀ k, (blksG c bs k g).code = g.code ++ (blksT c bs k).map Prod.fst
  | 0 => by simp [blksG, blksT]
  | k + 1 => by
    show (blkG c (bs.getD k default) k (blksG c bs k g)).code = g.code ++ (blksT c bs k ++ blkT c (bs.getD k default) k).map Prod.fst
    rw [blk_T, addT_code, List.map_append, ← List.append_assoc, ← blks_code c bs g k]
theorem blks_starts (c : Cfg) (bs : List IBlk) (g : Gen) : ∀ k, (blksG c bs k g).starts = g.starts ++ (List.range k).map fun j => (((blksG c bs j g).code.length : Nat) : Int)
  | 0 => by simp [blksG]
  | k + 1 => by
    show (blkG c (bs.getD k default) k (blksG c bs k g)).starts = _
    rw [blk_T, addT_starts, List.range_succ, List.map_append, ← List.append_assoc, ← blks_starts c bs g k]; rfl
theorem code_pc {c : Cfg} {R : Int} {nb : Nat} (hp : PlOk c R) {K : Kinds} : ∀ (l : List IIns), (∀ i ∈ l, vIns R K i = true) → Pc nb (l.flatMap (insT c)) (7 * l.length) (l.flatMap fun i => oT i.op) (l.flatMap cT)
  | [], _ => Pc.nil nb
  | i :: l, h => by
    have := (ins_pc (nb := nb) hp (h i (List.mem_cons_self ..))).app (code_pc hp l fun j hj => h j (List.mem_cons_of_mem _ hj))
    exact this.le (by rw [List.length_cons]; omega)
theorem blk_pc {c : Cfg} {R : Int} {nb : Nat} (hp : PlOk c R) {K : Kinds} {b : IBlk} (h : vBlk R K nb b = true) (k : Nat) : Pc nb (blkT c b k) (7 * b.code.length + 3) (b.code.flatMap (fun i => oT i.op) ++ if b.kind = 3 then [1] else []) (b.code.flatMap cT) := by
  unfold vBlk at h
  rw [Bool.and_eq_true] at h
  have := (code_pc (nb := nb) hp b.code (List.all_eq_true.1 h.1)).app (end_pc (next := (k : Int) + 1) hp h.2)
  rw [List.append_nil] at this
  exact this
theorem blks_pc {c : Cfg} {R : Int} (hp : PlOk c R) {K : Kinds} {bs : List IBlk} (h : ∀ j, j < bs.length → vBlk R K bs.length (bs.getD j default) = true) : ∀ k, k ≤ bs.length → Pc bs.length (blksT c bs k) (7 * sumC bs k + 3 * k) (oB bs k) (cB bs k)
  | 0, _ => Pc.nil _
  | k + 1, hk => by
    have := (blks_pc hp h k (by omega)).app (blk_pc hp (h k (by omega)) k)
    exact this.le (by show _ ≤ 7 * (sumC bs k + (bs.getD k default).code.length) + 3 * (k + 1); omega)
theorem blks_gok {c : Cfg} {R : Int} (hp : PlOk c R) {K : Kinds} {bs : List IBlk} (h : ∀ j, j < bs.length → vBlk R K bs.length (bs.getD j default) = true) {g : Gen} (hg : GOk bs.length g) : ∀ k, k ≤ bs.length → GOk bs.length (blksG c bs k g)
  | 0, _ => hg
  | k + 1, hk => by
    show GOk _ (blkG c (bs.getD k default) k (blksG c bs k g))
    rw [blk_T]
    exact ((blks_gok hp h hg k (by omega)).sts _).addAll (blk_pc hp (h k (by omega)) k).all
theorem end_some {R : Int} {nb : Nat} {c : Cfg} {b : IBlk} (h : vEnd R nb b = true) : 1 ≤ (endT c b nb).length := by
  unfold vEnd at h
  unfold endT
  have hto : b.kind = 3 ∨ okR nb b.tgt = true := by
    repeat' split at h
    all_goals simp_all
  by_cases h3 : b.kind = 3
  · simp [h3, pT]
  · have h4 := hto.resolve_left h3
    have h5 := okR_of h4
    rw [if_neg h3]
    split
    · rw [List.length_append]
      split <;> simp <;> omega
    · rw [if_pos (by omega)]; simp
theorem spill_pc {nb : Nat} {sp : Int} (hsp : 0 ≤ sp ∧ sp ≤ 128) : ∀ n, n ≤ 64 → Pc nb (pT (spillG sp n)) n [] []
  | 0, _ => Pc.nil nb
  | n + 1, hn => by
    have : pT (spillG sp (n + 1)) = pT (spillG sp n) ++ [(⟨19, 0, 0, 0, sp + n⟩, .p)] := by unfold pT spillG; rw [List.range_succ, List.map_append, List.map_append]; rfl
    rw [this]
    exact (spill_pc hsp n (by omega)).app (Pc.one (okT_p (vG_abi (by decide) ⟨rfl, rfl, rfl, rfl⟩ ⟨rfl, rfl⟩ (by decide) (by decide) (by show -131072 ≤ _ ∧ _ ≤ 131071; omega)) rfl rfl) rfl (pC_op rfl (by decide)))
theorem all_ok {c : Cfg} {R : Int} {n : Nat} (hn : n ≤ 64) (hp : PlOk c R) {A S : List Arr} {bs : List IBlk} (hv : vFun R A S bs = true) (hb : bs.length ≤ 20) (ht : sumC bs bs.length ≤ 300) {data : Int} (hd : 0 ≤ data ∧ data ≤ 512) :
    valO (resG (allG c n bs)) data ((allG c n bs).refs.map fun r => (r.at', r.lk)) = true ∧ ((allG c n bs).code.length ≤ 4096 ∧ (resG (allG c n bs)).length = (allG c n bs).code.length) ∧
      ((resG (allG c n bs)).map GI.op).filter keyO = oB bs bs.length ∧ (resG (allG c n bs)).filter pC = cB bs bs.length := by
  obtain ⟨h0, h1, h2, h3, h4, h5⟩ := (vFun_iff R A S bs).1 hv
  have hs := spill_pc (nb := bs.length) hp.sp n hn
  have hg0 : GOk bs.length ⟨spillG c.sp n, [], [], []⟩ := by
    have h : GOk bs.length (addT (pT (spillG c.sp n)) ⟨[], [], [], []⟩) := GOk.addAll ⟨fun i hi => (by cases hi), rfl, fun b hb => (by cases hb), fun j hj => (by cases hj)⟩ hs.all
    rw [← emit_add] at h
    exact h
  have hpc := blks_pc hp h5 bs.length (Nat.le_refl _)
  have hgok := blks_gok hp h5 hg0 bs.length (Nat.le_refl _)
  have hcode : (allG c n bs).code = spillG c.sp n ++ (blksT c bs bs.length).map Prod.fst := blks_code c bs _ _
  have hsl : (spillG c.sp n).length = n := by simp [spillG]
  have hlen : (allG c n bs).code.length ≤ 4096 := by
    rw [hcode, List.length_append, List.length_map, hsl]
    have := hpc.len
    omega
  have hmono : ∀ d j, (blksG c bs j ⟨spillG c.sp n, [], [], []⟩).code.length ≤ (blksG c bs (j + d) ⟨spillG c.sp n, [], [], []⟩).code.length := by
    intro d
    induction d with
    | zero => intro j; exact Nat.le_refl _
    | succ d ih =>
      intro j
      refine Nat.le_trans (ih j) ?_
      rw [blks_code, blks_code, List.length_append, List.length_append, List.length_map, List.length_map]
      show _ ≤ _ + (blksT c bs (j + d) ++ blkT c (bs.getD (j + d) default) (j + d)).length
      rw [List.length_append]; omega
  obtain ⟨m, hm⟩ : ∃ m, bs.length = m + 1 := ⟨bs.length - 1, by have := List.length_pos_iff.2 h0; omega⟩
  have hlast : (blksG c bs m ⟨spillG c.sp n, [], [], []⟩).code.length < (allG c n bs).code.length := by
    show _ < (blksG c bs bs.length ⟨spillG c.sp n, [], [], []⟩).code.length
    rw [blks_code, blks_code, List.length_append, List.length_append, List.length_map, List.length_map, hm]
    show _ < _ + (blksT c bs m ++ blkT c (bs.getD m default) m).length
    have he : 1 ≤ (endT c (bs.getD m default) ((m : Int) + 1)).length := by
      have h6 := ((vBlk_iff _ _ _ _).1 (h5 m (by omega))).2
      have h7 := end_some (c := c) h6
      rw [hm] at h7
      exact h7
    unfold blkT
    rw [List.length_append, List.length_append]
    omega
  have hst : ∀ k, k < bs.length → 0 ≤ (allG c n bs).starts.getD k 0 ∧ (allG c n bs).starts.getD k 0 < (allG c n bs).code.length := fun k hk => by
    have e : (allG c n bs).starts.getD k 0 = (((blksG c bs k ⟨spillG c.sp n, [], [], []⟩).code.length : Nat) : Int) := by
      show (blksG c bs bs.length _).starts.getD k 0 = _
      rw [blks_starts]
      simp [List.getD_eq_getElem?_getD, hk]
    have h6 := hmono (m - k) k
    rw [show k + (m - k) = m by omega] at h6
    rw [e]; omega
  obtain ⟨r1, r2, r3, r4⟩ := res_ok (g := allG c n bs) hgok hst hlen (by have := hlast; omega) hd
  refine ⟨r1, ⟨hlen, r2⟩, ?_, ?_⟩
  · have e : (allG c n bs).code.map GI.op = (pT (spillG c.sp n)).map (fun x => x.1.op) ++ (blksT c bs bs.length).map (fun x => x.1.op) := by
      rw [hcode, List.map_append, List.map_map]
      unfold pT
      rw [List.map_map]; rfl
    have r3 : (resG (allG c n bs)).map GI.op = (allG c n bs).code.map GI.op := r3
    rw [r3, e, List.filter_append, hs.op, hpc.op, List.nil_append]
  · have e : (allG c n bs).code = (pT (spillG c.sp n)).map Prod.fst ++ (blksT c bs bs.length).map Prod.fst := by
      rw [hcode]
      unfold pT
      rw [List.map_map]
      congr 1
      exact (List.map_id _).symm
    have r4 : (resG (allG c n bs)).filter pC = (allG c n bs).code.filter pC := r4
    rw [r4, e, List.filter_append, hs.ct, hpc.ct, List.nil_append]
end Go.Proofs.YtkcfbonchhidlaaGreatDoor

