/- codegen.Valid in plain words, and its contract. -/
import Derived.Test.YtpachmkklppmjaaDoorIsaT
import Derived.Test.YtpachmkklppmjaaDoorIsaP
import Derived.IntWalk
set_option linter.unusedVariables false
set_option linter.unusedSimpArgs false
namespace Go.Proofs.YtpachmkklppmjaaDoor
open Go.RowKit Go.Maps

def RowC (w : World) (b : Nat) (l : List Value) : Prop := b < w.heap.size ∧ ∀ k v, l[k]? = some v → w.cell? ⟨b, k, none⟩ = some v
theorem RowC.lt {w : World} {b : Nat} {l : List Value} (h : RowC w b l) : b < w.heap.size := h.1
theorem RowC.at {w : World} {b : Nat} {l : List Value} (h : RowC w b l) (k : Nat) {v : Value} (hv : l[k]? = some v) : w.cell? ⟨b, k, none⟩ = some v := h.2 k v hv
theorem RowC.below {B : Nat} {w w' : World} {b : Nat} {l : List Value} (h : RowC w b l) (hb : Below B w w') (hB : b < B) : RowC w' b l :=
  ⟨Nat.lt_of_lt_of_le h.1 hb.size, fun k v hv => (hb.cell (p := ⟨b, k, none⟩) hB).trans (h.2 k v hv)⟩
theorem RowC.made (w : World) (l : List Value) (t : TypeId) : RowC (w.alloc (.cells l.toArray t)) w.heap.size l := by
  refine ⟨by simp, fun k v hv => ?_⟩
  have h : (w.alloc (.cells l.toArray t)).heap[w.heap.size]? = some (.cells l.toArray t (0, 0)) := heap_alloc_new w _
  simp only [World.cell?, h, Option.isSome_none, Bool.false_eq_true, if_false]
  simpa using hv
theorem RowC.alloc {w : World} {b : Nat} {l : List Value} (h : RowC w b l) (o : Obj) : RowC (w.alloc o) b l := h.below (B := w.heap.size) (bAlloc (Nat.le_refl _) (Below.refl _ _)) h.1
structure GI where
  op : Nat
  a : Int
  b : Int
  c : Int
  imm : Int
instance : Inhabited GI := ⟨⟨0, 0, 0, 0, 0⟩⟩
structure GR where
  at' : Int
  nm : ByteArray
  lk : Bool
instance : Inhabited GR := ⟨⟨0, ⟨#[]⟩, false⟩⟩
def okR (n : Int) (r : Int) : Bool := decide (0 ≤ r ∧ r < n)
def vG (i : GI) : Bool := vld i.op i.a i.b i.c i.imm
def refO (n : Nat) : Bool := decide (n = 20 ∨ n = 21 ∨ n = 28 ∨ n = 29)
def lockO (n : Nat) : Bool := decide (n = 28 ∨ n = 29)
def brO (n : Nat) : Bool := decide (n = 22 ∨ n = 23 ∨ n = 24)
def giV (i : GI) : List Value := [.int .u8 i.op, .int .i64 i.a, .int .i64 i.b, .int .i64 i.c, .int .i64 i.imm]
def codeV (l : List GI) : List Value := l.flatMap giV
theorem codeV_len (l : List GI) : (codeV l).length = l.length * 5 := by
  induction l with
  | nil => rfl
  | cons a l ih =>
    show (giV a ++ codeV l).length = _
    rw [List.length_append, List.length_cons, ih]
    show 5 + l.length * 5 = _
    omega
def GsRd (w : World) (v : Value) (l : List GI) : Prop :=
  ∃ p cap, v = .slice p l.length cap ∧ (l = [] ∨ ∃ m off, p = some ⟨m, off, none⟩ ∧ m < w.heap.size ∧ ∀ j u, (codeV l)[j]? = some u → w.cell? ⟨m, off + j, none⟩ = some u)
theorem GsRd.nil (w : World) : GsRd w (.slice none 0 0) [] := ⟨none, 0, rfl, .inl rfl⟩
theorem GsRd.below {B : Nat} {w w' : World} {v : Value} {l : List GI} (h : GsRd w v l) (hb : Below B w w') (hB : w.heap.size ≤ B) : GsRd w' v l := by
  obtain ⟨p, cap, rfl, h⟩ := h
  refine ⟨p, cap, rfl, h.imp id ?_⟩
  rintro ⟨m, off, rfl, hm, hx⟩
  exact ⟨m, off, rfl, Nat.lt_of_lt_of_le hm hb.size, fun j u hj => (hb.cell (p := ⟨m, off + j, none⟩) (Nat.lt_of_lt_of_le hm hB)).trans (hx j u hj)⟩
def refC (r : GR) : List Value := [.int .i64 r.at', .string r.nm, .bool r.lk]
def refV (l : List GR) : List Value := l.flatMap refC
def scanV (n : Int) : Nat → List GI → List (Int × Bool) → Bool
  | _, [], rs => decide (rs = [])
  | k, i :: l, rs => vG i && (!brO i.op || okR n ((k : Int) + 1 + i.imm)) && (if refO i.op = true then (match rs with | [] => false | r :: rs' => decide (r.1 = (k : Int) ∧ r.2 = lockO i.op) && scanV n (k + 1) l rs') else scanV n (k + 1) l rs)
def valO (code : List GI) (data : Int) (refs : List (Int × Bool)) : Bool := decide ((1 ≤ code.length ∧ code.length ≤ 4096) ∧ 0 ≤ data ∧ data ≤ 512) && scanV code.length 0 code refs
def isBr2 (n : Nat) : Bool := (n : Int) == 22 || (n : Int) == 23 || (n : Int) == 24
theorem isBr2_eq (n : Nat) : isBr2 n = brO n := by
  unfold isBr2 brO
  rw [Bool.eq_iff_iff]
  simp only [Bool.or_eq_true, beq_iff_eq, decide_eq_true_eq]
  omega
theorem tgt_no (n : Nat) (a b c i p : Int) (w : World) (h : isBr2 n = false) :
    Calls Tryd.prog 24 #[.agg #[.int .u8 n, .int .i64 a, .int .i64 b, .int .i64 c, .int .i64 i], .int .i64 p] w fun e w' => e = .returned (.tuple #[.int .i64 0, .bool false]) ∧ Below w.heap.size w w' := by
  go_enter Tryd.func24, Tryd.ntmps24
  go_wp2_with fail
  refine (isBranch_any n _).mono ?_
  rintro e w1 ⟨rfl, rfl⟩
  have h : ((n : Int) == 22 || (n : Int) == 23 || (n : Int) == 24) = false := h
  go_wp2_with fail
  go_ret2
  exact ⟨rfl, (Below.refl _ _).alloc (Nat.le_refl _) _⟩
theorem tgt_ok (n : Nat) (a b c i p : Int) (w : World) (h : isBr2 n = true) (hp : 0 ≤ p ∧ p ≤ 65535) (hi : -131072 ≤ i ∧ i ≤ 131071) :
    Calls Tryd.prog 24 #[.agg #[.int .u8 n, .int .i64 a, .int .i64 b, .int .i64 c, .int .i64 i], .int .i64 p] w fun e w' => e = .returned (.tuple #[.int .i64 (p + 1 + i), .bool true]) ∧ Below w.heap.size w w' := by
  have hw1 : IntKind.i64.wrap (p + 1) = p + 1 := IntWalk.i64_in _ (by omega)
  have hw2 : IntKind.i64.wrap (p + 1 + i) = p + 1 + i := IntWalk.i64_in _ (by omega)
  go_enter Tryd.func24, Tryd.ntmps24
  go_wp2_with fail
  refine (isBranch_any n _).mono ?_
  rintro e w1 ⟨rfl, rfl⟩
  have h : ((n : Int) == 22 || (n : Int) == 23 || (n : Int) == 24) = true := h
  go_wp2_with fail
  go_ret2
  exact ⟨rfl, (Below.refl _ _).alloc (Nat.le_refl _) _⟩
theorem vG_brImm {i : GI} (h : vG i = true) (hb : brO i.op = true) : -131072 ≤ i.imm ∧ i.imm ≤ 131071 := by
  obtain ⟨n, a, b, c, im⟩ := i
  have hb : n = 22 ∨ n = 23 ∨ n = 24 := of_decide_eq_true hb
  have h : vld n a b c im = true := h
  rcases hb with rfl | rfl | rfl
  all_goals (
    unfold vld vldS at h
    rw [Bool.and_eq_true] at h
    exact (of_decide_eq_true h.2).2.2.2)
/-- A slice of references that can be read. -/
def RfRd (w : World) (v : Value) (l : List GR) : Prop :=
  ∃ p cap, v = .slice p l.length cap ∧ l.length ≤ cap ∧ (l = [] ∨ ∃ m off, p = some ⟨m, off, none⟩ ∧ m < w.heap.size ∧ ∀ j u, (refV l)[j]? = some u → w.cell? ⟨m, off + j, none⟩ = some u)
theorem RfRd.below {B : Nat} {w w' : World} {v : Value} {l : List GR} (h : RfRd w v l) (hb : Below B w w') (hB : w.heap.size ≤ B) : RfRd w' v l := by
  obtain ⟨p, cap, rfl, hc, h⟩ := h
  refine ⟨p, cap, rfl, hc, h.imp id ?_⟩
  rintro ⟨m, off, rfl, hm, hx⟩
  exact ⟨m, off, rfl, Nat.lt_of_lt_of_le hm hb.size, fun j u hj => (hb.cell (p := ⟨m, off + j, none⟩) (Nat.lt_of_lt_of_le hm hB)).trans (hx j u hj)⟩
theorem codeV_at : ∀ (l : List GI) (k : Nat), k < l.length → ∀ (q : Nat), q < 5 → (codeV l)[k * 5 + q]? = (giV (l.getD k default))[q]?
  | [], k, h, _, _ => by simp at h
  | x :: l, 0, _, q, hq => by
    show (giV x ++ codeV l)[0 * 5 + q]? = _
    rw [Nat.zero_mul, Nat.zero_add, List.getElem?_append_left (by show q < 5; exact hq)]; rfl
  | x :: l, k + 1, h, q, hq => by
    have h2 := codeV_at l k (by simpa using h) q hq
    rw [List.getD_cons_succ, ← h2]
    show (giV x ++ codeV l)[(k + 1) * 5 + q]? = _
    rw [show (k + 1) * 5 + q = k * 5 + q + 5 by omega]
    rfl
/-- An instruction of a readable slice. -/
theorem GsRd.get {w : World} {v : Value} {l : List GI} (h : GsRd w v l) {k : Nat} (hk : k < l.length) : ∃ m off cap, v = .slice (some ⟨m, off, none⟩) l.length cap ∧ m < w.heap.size ∧ w.cell? ⟨m, off + k * 5, none⟩ = some (.int .u8 (l.getD k default).op) ∧ w.cell? ⟨m, off + k * 5 + 1, none⟩ = some (.int .i64 (l.getD k default).a) ∧ w.cell? ⟨m, off + k * 5 + 2, none⟩ = some (.int .i64 (l.getD k default).b) ∧ w.cell? ⟨m, off + k * 5 + 3, none⟩ = some (.int .i64 (l.getD k default).c) ∧ w.cell? ⟨m, off + k * 5 + 4, none⟩ = some (.int .i64 (l.getD k default).imm) := by
  obtain ⟨p, cap, rfl, h⟩ := h
  rcases h with rfl | ⟨m, off, rfl, hm, hc⟩
  · simp at hk
  · have e := codeV_at l k hk
    refine ⟨m, off, cap, rfl, hm, ?_, ?_, ?_, ?_, ?_⟩
    · have := hc (k * 5 + 0) _ (e 0 (by decide)); rwa [Nat.add_zero] at this
    · rw [Nat.add_assoc]; exact hc (k * 5 + 1) _ (e 1 (by decide))
    · rw [Nat.add_assoc]; exact hc (k * 5 + 2) _ (e 2 (by decide))
    · rw [Nat.add_assoc]; exact hc (k * 5 + 3) _ (e 3 (by decide))
    · rw [Nat.add_assoc]; exact hc (k * 5 + 4) _ (e 4 (by decide))
theorem GsRd.shape {w : World} {v : Value} {l : List GI} (h : GsRd w v l) : ∃ p cap, v = .slice p l.length cap := by
  obtain ⟨p, cap, rfl, _⟩ := h
  exact ⟨p, cap, rfl⟩
/-- The first reference, and the rest. -/
theorem RfRd.head {w : World} {p : Option Addr} {n cap : Nat} {r : GR} {l : List GR} (h : RfRd w (.slice p n cap) (r :: l)) : n = l.length + 1 ∧ l.length + 1 ≤ cap ∧ ∃ m off, p = some ⟨m, off, none⟩ ∧ m < w.heap.size ∧ w.cell? ⟨m, off, none⟩ = some (.int .i64 r.at') ∧ w.cell? ⟨m, off + 1, none⟩ = some (.string r.nm) ∧ w.cell? ⟨m, off + 2, none⟩ = some (.bool r.lk) ∧ RfRd w (.slice (some ⟨m, off + 3, none⟩) l.length (cap - 1)) l := by
  obtain ⟨p', cap', e, hc, h⟩ := h
  injection e with e1 e2 e3
  subst e1 e2 e3
  refine ⟨rfl, hc, ?_⟩
  rcases h with h | ⟨m, off, rfl, hm, hx⟩
  · cases h
  · refine ⟨m, off, rfl, hm, hx 0 _ rfl, hx 1 _ rfl, hx 2 _ rfl, ⟨_, _, rfl, by have : l.length + 1 ≤ cap := hc; omega, .inr ⟨m, off + 3, rfl, hm, fun j u hj => ?_⟩⟩⟩
    have := hx (j + 3) u (by rw [← hj]; rfl)
    rw [show off + 3 + j = off + (j + 3) by omega]; exact this
theorem RfRd.nil {w : World} {v : Value} (p : Option Addr) (cap : Nat) (h : v = .slice p 0 cap) : RfRd w v [] := ⟨p, cap, h, Nat.zero_le _, .inl rfl⟩

section
variable {n : Int} {k : Nat} {i : GI} {l : List GI} {rs : List (Int × Bool)} {r : Int × Bool}
theorem scan_next (h : vG i = true) (hb : brO i.op = true → okR n ((k : Int) + 1 + i.imm) = true) (hr : refO i.op = false) : scanV n k (i :: l) rs = scanV n (k + 1) l rs := by
  have h1 : (!brO i.op || okR n ((k : Int) + 1 + i.imm)) = true := by
    cases e : brO i.op with
    | false => rfl
    | true => rw [hb e]; rfl
  conv => lhs; unfold scanV
  rw [h, h1, hr]; simp
theorem scan_bad1 (h : vG i = false) : scanV n k (i :: l) rs = false := by
  unfold scanV
  rw [h]; simp
theorem scan_bad2 (hb : brO i.op = true) (ho : okR n ((k : Int) + 1 + i.imm) = false) : scanV n k (i :: l) rs = false := by
  unfold scanV
  rw [hb, ho]; simp
theorem scan_nil (hr : refO i.op = true) : scanV n k (i :: l) [] = false := by
  unfold scanV
  rw [hr]; simp
theorem scan_ref (h : vG i = true) (hb : brO i.op = false) (hr : refO i.op = true) : scanV n k (i :: l) (r :: rs) = (decide (r.1 = (k : Int) ∧ r.2 = lockO i.op) && scanV n (k + 1) l rs) := by
  conv => lhs; unfold scanV
  rw [h, hb, hr]; simp
end
/-- What the loop of codegen.Valid holds. -/
def VoRel (W1 : World) (code : List GI) (V : Bool) (k : Nat) (v : Value) (w : World) : Prop := ∃ rs : List GR, RfRd w v rs ∧ scanV code.length k (code.drop k) (rs.map fun r => (r.at', r.lk)) = V ∧ Below W1.heap.size W1 w
theorem drop_cons {code : List GI} {k : Nat} (hk : k < code.length) : code.drop k = code.getD k default :: code.drop (k + 1) := by
  rw [List.drop_eq_getElem_cons hk, List.getD_eq_getElem?_getD, List.getElem?_eq_getElem hk]; rfl

set_option maxHeartbeats 6400000 in
set_option maxRecDepth 40000 in
theorem objValid_any (nm : ByteArray) (cv rv : Value) (data : Int) (code : List GI) (refs : List GR) (w : World) (hT : Tab w) (hc : GsRd w cv code) (hr : RfRd w rv refs) :
    Calls Tryd.prog 18 #[.agg #[.string nm, cv, .int .i64 data, rv]] w fun e w' => e = .returned (.bool (valO code data (refs.map fun r => (r.at', r.lk)))) ∧ Below w.heap.size w w' := by
  have hb0 : Below w.heap.size w (w.alloc (.cells #[.string nm, cv, .int .i64 data, rv] 38)) := bAlloc (Nat.le_refl _) (Below.refl _ _)
  have hC1 := hc.below hb0 (Nat.le_refl _)
  have hR1 := hr.below hb0 (Nat.le_refl _)
  have hT1 := hT.of_below hb0
  have hF := RowC.made w [.string nm, cv, .int .i64 data, rv] 38
  obtain ⟨cp, cc, rfl⟩ := hC1.shape
  by_cases h1 : code.length < 1
  · have HE := Lib.hid (show valO code data (refs.map fun r => (r.at', r.lk)) = false by unfold valO; rw [decide_eq_false (by omega)]; rfl)
    rw [HE.out]
    have h1I : (code.length : Int) < 1 := by omega
    have HB0 := Lib.hid hb0
    clear hb0 hC1 hR1 hT1 hF hr hc hT
    go_enter Tryd.func18, Tryd.ntmps18
    go_wp2_with fail
    go_ret
    exact ⟨rfl, HB0.out⟩
  have h1I : ¬ (code.length : Int) < 1 := by omega
  by_cases h2 : 4096 < code.length
  · have HE := Lib.hid (show valO code data (refs.map fun r => (r.at', r.lk)) = false by unfold valO; rw [decide_eq_false (by omega)]; rfl)
    rw [HE.out]
    have h2I : (code.length : Int) > 4096 := by omega
    have HB0 := Lib.hid hb0
    clear hb0 hC1 hR1 hT1 hF hr hc hT h1 h2
    go_enter Tryd.func18, Tryd.ntmps18
    go_wp2_with fail
    go_ret
    exact ⟨rfl, HB0.out⟩
  have h2I : ¬ (code.length : Int) > 4096 := by omega
  by_cases h3 : data < 0
  · have HE := Lib.hid (show valO code data (refs.map fun r => (r.at', r.lk)) = false by unfold valO; rw [decide_eq_false (by omega)]; rfl)
    rw [HE.out]
    have HB0 := Lib.hid hb0
    clear hb0 hC1 hR1 hT1 hF hr hc hT h1 h2
    go_enter Tryd.func18, Tryd.ntmps18
    go_wp2_with fail
    go_ret
    exact ⟨rfl, HB0.out⟩
  by_cases h4 : data > 512
  · have HE := Lib.hid (show valO code data (refs.map fun r => (r.at', r.lk)) = false by unfold valO; rw [decide_eq_false (by omega)]; rfl)
    rw [HE.out]
    have HB0 := Lib.hid hb0
    clear hb0 hC1 hR1 hT1 hF hr hc hT h1 h2
    go_enter Tryd.func18, Tryd.ntmps18
    go_wp2_with fail
    go_ret
    exact ⟨rfl, HB0.out⟩
  obtain ⟨V, hV⟩ : ∃ V : Bool, V = scanV code.length 0 code (refs.map fun r => (r.at', r.lk)) := ⟨_, rfl⟩
  have HE := Lib.hid (show valO code data (refs.map fun r => (r.at', r.lk)) = V by unfold valO; rw [decide_eq_true (by omega), hV]; rfl)
  rw [HE.out]
  go_enter Tryd.func18, Tryd.ntmps18
  go_upto_region 1 with fail
  obtain ⟨W1, hW1⟩ : ∃ W : World, W = w.alloc (.cells #[.string nm, .slice cp code.length cc, .int .i64 data, rv] 38) := ⟨_, rfl⟩
  rw [← hW1] at hb0 hC1 hR1 hT1 hF ⊢
  clear hW1 hr hc hT
  have HST := Lib.hid (show VoRel W1 code V 0 rv W1 from ⟨refs, hR1, by rw [hV]; rfl, Below.refl _ _⟩)
  have HC := Lib.hid hC1
  have HTB := Lib.hid hT1
  have HB0 := Lib.hid hb0
  have HF := Lib.hid hF
  have hfl := hF.lt
  have e1 := hF.at 1 rfl
  have e2 := hF.at 2 rfl
  have e3 := hF.at 3 rfl
  have hcl : code.length ≤ 4096 := by omega
  clear hV hb0 hC1 hR1 hT1 hF HE h1 h2
  go_wp2_with fail
  clear e1 e2 e3 h1I h2I h3 h4 hfl
  go_loopw [3, 34] (fun s3 s34 wx => ∃ k : Nat, s34 = .int .i64 k ∧ k ≤ code.length ∧ Hid (VoRel W1 code V k s3 wx)) (fun _ s34 _ => code.length - (intOf s34).toNat)
  case atStart => exact ⟨0, rfl, Nat.zero_le _, HST⟩
  case round =>
    clear HST
    obtain ⟨k, rfl, hk, HV⟩ := hrel
    obtain ⟨w1, rfl⟩ : ∃ W : World, W = wr := ⟨_, rfl⟩
    obtain ⟨rs, hrs, hsc, hbl⟩ := HV.out
    have HBL := Lib.hid hbl
    have HRS := Lib.hid hrs
    have HSC := Lib.hid hsc
    clear HV hrs hsc hbl
    by_cases hlt : k < code.length
    · have hltI : (k : Int) < code.length := by omega
      rw [drop_cons hlt] at HSC
      obtain ⟨m, off, cap, e0, hm, n0, n1, n2, n3, n4⟩ := (HC.out.below HBL.out (Nat.le_refl _)).get hlt
      injection e0 with e0 _ e02
      subst e0 e02
      generalize code.getD k default = ii at n0 n1 n2 n3 n4 HSC
      obtain ⟨op, a, b, c, im⟩ := ii
      simp only at n0 n1 n2 n3 n4
      obtain ⟨rest, hrest0⟩ : ∃ x, x = code.drop (k + 1) := ⟨_, rfl⟩
      rw [← hrest0] at HSC
      have HDR := Lib.hid hrest0
      clear hrest0
      have hbA : Below w1.heap.size w1 (w1.alloc (.cells #[.int .u8 op, .int .i64 a, .int .i64 b, .int .i64 c, .int .i64 im] 51)) := bAlloc (Nat.le_refl _) (Below.refl _ _)
      have HR2 := Lib.hid (RowC.made w1 [.int .u8 op, .int .i64 a, .int .i64 b, .int .i64 c, .int .i64 im] 51)
      have HBA := Lib.hid (HBL.out.trans (hbA.mono HBL.out.size))
      have HRA := Lib.hid (HRS.out.below hbA (Nat.le_refl _))
      clear hbA HRS
      go_upto_region 7 with fail
      obtain ⟨w2, hw2⟩ : ∃ W : World, W = w1.alloc (.cells #[.int .u8 op, .int .i64 a, .int .i64 b, .int .i64 c, .int .i64 im] 51) := ⟨_, rfl⟩
      rw [← hw2] at HR2 HBA HRA ⊢
      clear hw2 n0 n1 n2 n3 n4 hm
      have rl := HR2.out.lt
      have q0 := HR2.out.at 0 rfl
      have q1 := HR2.out.at 1 rfl
      have q2 := HR2.out.at 2 rfl
      have q3 := HR2.out.at 3 rfl
      have q4 := HR2.out.at 4 rfl
      go_wp2_with fail
      refine (valid_any op a b c im w2 (HTB.out.of_below HBA.out)).mono ?_
      rintro e w3 ⟨rfl, hb3⟩
      have HR3 := Lib.hid (HR2.out.below hb3 HR2.out.lt)
      have HB3 := Lib.hid (HBA.out.trans (hb3.mono HBA.out.size))
      have HRS3 := Lib.hid (HRA.out.below hb3 (Nat.le_refl _))
      clear rl q0 q1 q2 q3 q4 HR2 HBA HRA hb3
      by_cases hv : vG ⟨op, a, b, c, im⟩ = true
      · have HVG := Lib.hid hv
        rw [show vld op a b c im = true from hv]
        have rl := HR3.out.lt
        have q0 := HR3.out.at 0 rfl
        have q1 := HR3.out.at 1 rfl
        have q2 := HR3.out.at 2 rfl
        have q3 := HR3.out.at 3 rfl
        have q4 := HR3.out.at 4 rfl
        clear hv
        go_wp2_with fail
        by_cases hbr : brO op = true
        · have HIM := Lib.hid (vG_brImm HVG.out hbr)
          refine (tgt_ok op a b c im k w3 (by rw [isBr2_eq]; exact hbr) ⟨by omega, by omega⟩ HIM.out).mono ?_
          rintro e w4 ⟨rfl, hb4⟩
          have HR4 := Lib.hid (HR3.out.below hb4 HR3.out.lt)
          have HB4 := Lib.hid (HB3.out.trans (hb4.mono HB3.out.size))
          have HRS4 := Lib.hid (HRS3.out.below hb4 (Nat.le_refl _))
          have HBR := Lib.hid hbr
          have hop : op = 22 ∨ op = 23 ∨ op = 24 := of_decide_eq_true hbr
          clear rl q0 q1 q2 q3 q4 HR3 HB3 HRS3 hb4 hbr
          have e1 := (HB4.out.cell (p := ⟨w.heap.size, 1, none⟩) HF.out.lt).trans (HF.out.at 1 rfl)
          have fl := Nat.lt_of_lt_of_le HF.out.lt HB4.out.size
          by_cases ht : (k : Int) + 1 + im < 0
          · have HVF := Lib.hid (HSC.out.symm.trans (scan_bad2 HBR.out (decide_eq_false (by show ¬ (0 ≤ (k : Int) + 1 + im ∧ _); omega))))
            clear hop
            go_wp2_with fail
            go_ret
            exact ⟨congrArg (fun b => Ending.returned (Value.bool b)) HVF.out.symm, HB0.out.trans (HB4.out.mono HB0.out.size)⟩
          by_cases ht2 : (k : Int) + 1 + im ≥ code.length
          · have HVF := Lib.hid (HSC.out.symm.trans (scan_bad2 HBR.out (decide_eq_false (by show ¬ (0 ≤ (k : Int) + 1 + im ∧ (k : Int) + 1 + im < code.length); omega))))
            clear hop
            go_wp2_with fail
            go_ret
            exact ⟨congrArg (fun b => Ending.returned (Value.bool b)) HVF.out.symm, HB0.out.trans (HB4.out.mono HB0.out.size)⟩
          have HNX := Lib.hid ((scan_next (l := rest) (rs := rs.map fun r => (r.at', r.lk)) HVG.out (fun _ => decide_eq_true (by show 0 ≤ (k : Int) + 1 + im ∧ (k : Int) + 1 + im < code.length; omega)) (decide_eq_false (by show ¬ (op = 20 ∨ op = 21 ∨ op = 28 ∨ op = 29); omega))).symm.trans HSC.out)
          have f28 : ((op : Int) == 28) = false := beq_eq_false_iff_ne.2 (by omega)
          have f29 : ((op : Int) == 29) = false := beq_eq_false_iff_ne.2 (by omega)
          have f20 : ((op : Int) == 20) = false := beq_eq_false_iff_ne.2 (by omega)
          have f21 : ((op : Int) == 21) = false := beq_eq_false_iff_ne.2 (by omega)
          have g20 : ((op : Int) != 20) = true := by rw [bne, f20]; rfl
          have g21 : ((op : Int) != 21) = true := by rw [bne, f21]; rfl
          have rl := HR4.out.lt
          have q0 := HR4.out.at 0 rfl
          clear hop
          go_wp2_with fail
          go_roundw
          case rel => exact ⟨k + 1, by go_num, by omega, ⟨rs, HRS4.out, by rw [← HDR.out]; exact HNX.out, HB4.out⟩⟩
          case measure => simp [intOf]; omega
        · have hbr : brO op = false := by simpa using hbr
          refine (tgt_no op a b c im k w3 (by rw [isBr2_eq]; exact hbr)).mono ?_
          rintro e w4 ⟨rfl, hb4⟩
          have HR4 := Lib.hid (HR3.out.below hb4 HR3.out.lt)
          have HB4 := Lib.hid (HB3.out.trans (hb4.mono HB3.out.size))
          have HRS4 := Lib.hid (HRS3.out.below hb4 (Nat.le_refl _))
          have HBR := Lib.hid hbr
          clear rl q0 q1 q2 q3 q4 HR3 HB3 HRS3 hb4 hbr
          have rl := HR4.out.lt
          have q0 := HR4.out.at 0 rfl
          by_cases hrf : refO op = true
          · have HRF := Lib.hid hrf
            have hop : op = 20 ∨ op = 21 ∨ op = 28 ∨ op = 29 := of_decide_eq_true hrf
            have hcs : (((op : Int) == 28) = true ∧ lockO op = true) ∨ (((op : Int) == 28) = false ∧ ((op : Int) == 29) = true ∧ lockO op = true) ∨ (((op : Int) == 28) = false ∧ ((op : Int) == 29) = false ∧ ((op : Int) != 20) = false ∧ lockO op = false) ∨ (((op : Int) == 28) = false ∧ ((op : Int) == 29) = false ∧ ((op : Int) != 20) = true ∧ ((op : Int) != 21) = false ∧ lockO op = false) := by
              rcases hop with rfl | rfl | rfl | rfl
              · exact .inr (.inr (.inl ⟨by decide, by decide, by decide, by decide⟩))
              · exact .inr (.inr (.inr ⟨by decide, by decide, by decide, by decide, by decide⟩))
              · exact .inl ⟨by decide, by decide⟩
              · exact .inr (.inl ⟨by decide, by decide, by decide⟩)
            clear hop hrf
            cases rs with
            | nil =>
              have HVF := Lib.hid (HSC.out.symm.trans (scan_nil HRF.out))
              obtain ⟨rp, rc, rfl, -, -⟩ := HRS4.out
              rcases hcs with ⟨f28, hlk⟩ | ⟨f28, f29, hlk⟩ | ⟨f28, f29, g20, hlk⟩ | ⟨f28, f29, g20, g21, hlk⟩
              all_goals (
                clear hlk
                go_wp2_with fail
                go_ret
                exact ⟨congrArg (fun b => Ending.returned (Value.bool b)) HVF.out.symm, HB0.out.trans (HB4.out.mono HB0.out.size)⟩)
            | cons r rs =>
              have HSR := Lib.hid ((scan_ref (r := (r.at', r.lk)) (rs := rs.map fun r => (r.at', r.lk)) HVG.out HBR.out HRF.out).symm.trans HSC.out)
              obtain ⟨rp, rc, rfl, -, -⟩ := id HRS4.out
              obtain ⟨-, hrc, rm, ro, rfl, hrm, x0, -, x2, hrest⟩ := HRS4.out.head
              have HREST := Lib.hid hrest
              clear hrest HRS4 HSC
              generalize lockO op = lk at hcs HSR
              obtain ⟨rat, rnm, rlk⟩ := r
              simp only at x0 x2
              have hlenI : ¬ ((rs.length : Int) + 1) = 0 := by omega
              by_cases hat : rat = (k : Int)
              · by_cases hlkk : rlk = lk
                · have HNX := Lib.hid (show scanV code.length (k + 1) rest (rs.map fun r => (r.at', r.lk)) = V by have h := HSR.out; rw [decide_eq_true (⟨hat, hlkk⟩ : rat = (k : Int) ∧ rlk = lk)] at h; simpa using h)
                  subst hat hlkk
                  by_cases hrc1 : rc = 1
                  · subst hrc1
                    have HW := Lib.hid (show RfRd w4 (.slice (some ⟨rm, ro, none⟩) 0 0) rs by
                      have h0 : rs = [] := List.length_eq_zero_iff.1 (by omega)
                      subst h0; exact RfRd.nil _ _ rfl)
                    rcases hcs with ⟨f28, rfl⟩ | ⟨f28, f29, rfl⟩ | ⟨f28, f29, g20, rfl⟩ | ⟨f28, f29, g20, g21, rfl⟩
                    all_goals (
                      go_wp2_with fail
                      go_roundw
                      case rel => exact ⟨k + 1, by go_num, by omega, ⟨rs, HW.out, by rw [← HDR.out]; exact HNX.out, HB4.out⟩⟩
                      case measure => simp [intOf]; omega)
                  · rcases hcs with ⟨f28, rfl⟩ | ⟨f28, f29, rfl⟩ | ⟨f28, f29, g20, rfl⟩ | ⟨f28, f29, g20, g21, rfl⟩
                    all_goals (
                      go_wp2_with fail
                      go_roundw
                      case rel => exact ⟨k + 1, by go_num, by omega, ⟨rs, HREST.out, by rw [← HDR.out]; exact HNX.out, HB4.out⟩⟩
                      case measure => simp [intOf]; omega)
                · have HVF := Lib.hid (show V = false by have h := HSR.out; rw [decide_eq_false (fun h2 : rat = (k : Int) ∧ rlk = lk => hlkk h2.2)] at h; simpa using h.symm)
                  subst hat
                  have hbb : (rlk != lk) = true := by simpa using hlkk
                  rcases hcs with ⟨f28, rfl⟩ | ⟨f28, f29, rfl⟩ | ⟨f28, f29, g20, rfl⟩ | ⟨f28, f29, g20, g21, rfl⟩
                  all_goals (
                    go_wp2_with fail
                    go_ret
                    exact ⟨congrArg (fun b => Ending.returned (Value.bool b)) HVF.out.symm, HB0.out.trans (HB4.out.mono HB0.out.size)⟩)
              · have HVF := Lib.hid (show V = false by have h := HSR.out; rw [decide_eq_false (fun h2 : rat = (k : Int) ∧ rlk = lk => hat h2.1)] at h; simpa using h.symm)
                rcases hcs with ⟨f28, rfl⟩ | ⟨f28, f29, rfl⟩ | ⟨f28, f29, g20, rfl⟩ | ⟨f28, f29, g20, g21, rfl⟩
                all_goals (
                  go_wp2_with fail
                  go_ret
                  exact ⟨congrArg (fun b => Ending.returned (Value.bool b)) HVF.out.symm, HB0.out.trans (HB4.out.mono HB0.out.size)⟩)
          · have hrf : refO op = false := by simpa using hrf
            have HNX := Lib.hid ((scan_next (l := rest) (rs := rs.map fun r => (r.at', r.lk)) HVG.out (fun h => by rw [HBR.out] at h; cases h) hrf).symm.trans HSC.out)
            have hop : ¬ (op = 20 ∨ op = 21 ∨ op = 28 ∨ op = 29) := of_decide_eq_false hrf
            have f28 : ((op : Int) == 28) = false := beq_eq_false_iff_ne.2 (by omega)
            have f29 : ((op : Int) == 29) = false := beq_eq_false_iff_ne.2 (by omega)
            have f20 : ((op : Int) == 20) = false := beq_eq_false_iff_ne.2 (by omega)
            have f21 : ((op : Int) == 21) = false := beq_eq_false_iff_ne.2 (by omega)
            have g20 : ((op : Int) != 20) = true := by rw [bne, f20]; rfl
            have g21 : ((op : Int) != 21) = true := by rw [bne, f21]; rfl
            clear hop hrf
            go_wp2_with fail
            go_roundw
            case rel => exact ⟨k + 1, by go_num, by omega, ⟨rs, HRS4.out, by rw [← HDR.out]; exact HNX.out, HB4.out⟩⟩
            case measure => simp [intOf]; omega
      · have hv : vG ⟨op, a, b, c, im⟩ = false := by simpa using hv
        rw [show vld op a b c im = false from hv]
        have HVF := Lib.hid (HSC.out.symm.trans (scan_bad1 hv))
        clear hv
        go_wp2_with fail
        go_ret
        exact ⟨congrArg (fun b => Ending.returned (Value.bool b)) HVF.out.symm, HB0.out.trans (HB3.out.mono HB0.out.size)⟩
    · have hkn : k = code.length := by omega
      subst hkn
      rw [List.drop_length] at HSC
      obtain ⟨rp, rc, rfl, -, -⟩ := id HRS.out
      have HVE := Lib.hid (show V = decide (rs = []) by
        rw [← HSC.out]
        show decide (rs.map _ = []) = _
        congr 1
        rw [List.map_eq_nil_iff])
      cases rs with
      | nil =>
        go_wp2_with fail
        go_ret
        exact ⟨by rw [HVE.out]; rfl, HB0.out.trans (HBL.out.mono HB0.out.size)⟩
      | cons r rs =>
        have hlenI : ¬ ((rs.length : Int) + 1) = 0 := by omega
        go_wp2_with fail
        go_ret
        exact ⟨by rw [HVE.out]; rfl, HB0.out.trans (HBL.out.mono HB0.out.size)⟩
end Go.Proofs.YtpachmkklppmjaaDoor
