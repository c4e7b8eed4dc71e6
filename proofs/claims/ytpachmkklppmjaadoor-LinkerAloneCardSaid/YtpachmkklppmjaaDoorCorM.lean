/- core: what lies in memory (a state, a memory of words), and the pure step. No walk here. -/
import Derived.Test.YtpachmkklppmjaaDoorCorD
import Derived.Test.YtpachmkklppmjaaDoorIsaC
import Derived.OneCell
set_option linter.unusedVariables false
set_option linter.unusedSimpArgs false
namespace Go.Proofs.YtpachmkklppmjaaDoor
open Go.RowKit

/-- Block b holds these cells, none of them frozen. -/
def RowAt (w : World) (b : Nat) (l : List Value) : Prop := ∃ t, w.heap[b]? = some (.cells l.toArray t (0, 0))

theorem RowAt.cell {w : World} {b : Nat} {l : List Value} (h : RowAt w b l) (k : Nat) : w.cell? ⟨b, k, none⟩ = l[k]? := by
  obtain ⟨t, h⟩ := h
  simp [World.cell?, h]
theorem RowAt.frozen {w : World} {b : Nat} {l : List Value} (h : RowAt w b l) (k : Nat) : w.frozen? ⟨b, k, none⟩ = false := by
  obtain ⟨t, h⟩ := h
  simp [World.frozen?, h]
theorem RowAt.lt {w : World} {b : Nat} {l : List Value} (h : RowAt w b l) : b < w.heap.size := by
  obtain ⟨t, h⟩ := h
  exact lt_of_block h
theorem RowAt.set {w : World} {b : Nat} {l : List Value} (h : RowAt w b l) (k : Nat) (v : Value) : RowAt (w.setCell ⟨b, k, none⟩ v) b (l.set k v) := by
  obtain ⟨t, h⟩ := h
  refine ⟨t, ?_⟩
  simp [World.setCell, Array.getElem?_modify, h]
theorem RowAt.other {w : World} {b : Nat} {l : List Value} (h : RowAt w b l) {p : Addr} (hp : p.block ≠ b) (v : Value) : RowAt (w.setCell p v) b l := by
  obtain ⟨t, h⟩ := h
  exact ⟨t, by rw [Below.heap_setCell _ _ _ _ (fun e => hp e.symm)]; exact h⟩
theorem RowAt.block {w w' : World} {b : Nat} {l : List Value} (h : RowAt w b l) (hb : w'.heap[b]? = w.heap[b]?) : RowAt w' b l := by
  obtain ⟨t, h⟩ := h
  exact ⟨t, hb.trans h⟩
theorem RowAt.below {B : Nat} {w w' : World} {b : Nat} {l : List Value} (h : RowAt w b l) (hb : Below B w w') (hB : b < B) : RowAt w' b l := h.block (hb.block b hB)

/-- The state of a job. -/
structure St where
  pc : Int
  r : List Int
  d : List Int
  halted : Bool
  held : Int

def stCells (s : St) (dv : Value) : List Value := .int .i64 s.pc :: (s.r.map (.int .i32) ++ [dv, .bool s.halted, .int .i64 s.held])
/-- A state lies in block S. -/
def StAt (w : World) (S : Nat) (s : St) (dv : Value) : Prop := s.r.length = 16 ∧ RowAt w S (stCells s dv)

theorem StAt.lt {w : World} {S : Nat} {s : St} {dv : Value} (h : StAt w S s dv) : S < w.heap.size := h.2.lt
theorem StAt.pc {w : World} {S : Nat} {s : St} {dv : Value} (h : StAt w S s dv) : w.cell? ⟨S, 0, none⟩ = some (.int .i64 s.pc) := by rw [h.2.cell]; rfl
theorem StAt.reg {w : World} {S : Nat} {s : St} {dv : Value} (h : StAt w S s dv) (k : Nat) (hk : k < 16) : w.cell? ⟨S, 1 + k, none⟩ = some (.int .i32 (s.r.getD k 0)) := by
  rw [h.2.cell, stCells, Nat.add_comm 1 k, List.getElem?_cons_succ, List.getElem?_append_left (by simp; have := h.1; omega)]
  have hl := h.1
  rw [List.getElem?_map, List.getElem?_eq_getElem (by omega), List.getD_eq_getElem?_getD, List.getElem?_eq_getElem (by omega)]
  rfl
theorem StAt.d {w : World} {S : Nat} {s : St} {dv : Value} (h : StAt w S s dv) : w.cell? ⟨S, 17, none⟩ = some dv := by
  rw [h.2.cell, stCells, List.getElem?_cons_succ, List.getElem?_append_right (by simp; have := h.1; omega)]
  simp [h.1]
theorem StAt.halted {w : World} {S : Nat} {s : St} {dv : Value} (h : StAt w S s dv) : w.cell? ⟨S, 18, none⟩ = some (.bool s.halted) := by
  rw [h.2.cell, stCells, List.getElem?_cons_succ, List.getElem?_append_right (by simp; have := h.1; omega)]
  simp [h.1]
theorem StAt.held {w : World} {S : Nat} {s : St} {dv : Value} (h : StAt w S s dv) : w.cell? ⟨S, 19, none⟩ = some (.int .i64 s.held) := by
  rw [h.2.cell, stCells, List.getElem?_cons_succ, List.getElem?_append_right (by simp; have := h.1; omega)]
  simp [h.1]
theorem StAt.frozen {w : World} {S : Nat} {s : St} {dv : Value} (h : StAt w S s dv) (k : Nat) : w.frozen? ⟨S, k, none⟩ = false := h.2.frozen k
theorem StAt.setPc {w : World} {S : Nat} {s : St} {dv : Value} (h : StAt w S s dv) (p : Int) : StAt (w.setCell ⟨S, 0, none⟩ (.int .i64 p)) S { s with pc := p } dv := ⟨h.1, h.2.set 0 _⟩
theorem StAt.setReg {w : World} {S : Nat} {s : St} {dv : Value} (h : StAt w S s dv) (k : Nat) (hk : k < 16) (v : Int) : StAt (w.setCell ⟨S, 1 + k, none⟩ (.int .i32 v)) S { s with r := s.r.set k v } dv := by
  refine ⟨by simpa using h.1, ?_⟩
  have := h.2.set (1 + k) (.int .i32 v)
  rwa [stCells, Nat.add_comm 1 k, List.set_cons_succ, List.set_append_left _ _ (by simp; have := h.1; omega), ← List.map_set, Nat.add_comm k 1] at this
theorem StAt.setHalted {w : World} {S : Nat} {s : St} {dv : Value} (h : StAt w S s dv) (p : Bool) : StAt (w.setCell ⟨S, 18, none⟩ (.bool p)) S { s with halted := p } dv := by
  refine ⟨h.1, ?_⟩
  have := h.2.set 18 (.bool p)
  rwa [stCells, List.set_cons_succ, List.set_append_right _ _ (by simp; have := h.1; omega), List.length_map, h.1] at this
theorem StAt.setHeld {w : World} {S : Nat} {s : St} {dv : Value} (h : StAt w S s dv) (p : Int) : StAt (w.setCell ⟨S, 19, none⟩ (.int .i64 p)) S { s with held := p } dv := by
  refine ⟨h.1, ?_⟩
  have := h.2.set 19 (.int .i64 p)
  rwa [stCells, List.set_cons_succ, List.set_append_right _ _ (by simp; have := h.1; omega), List.length_map, h.1] at this
theorem StAt.other {w : World} {S : Nat} {s : St} {dv : Value} (h : StAt w S s dv) {p : Addr} (hp : p.block ≠ S) (v : Value) : StAt (w.setCell p v) S s dv := ⟨h.1, h.2.other hp v⟩
theorem StAt.below {B : Nat} {w w' : World} {S : Nat} {s : St} {dv : Value} (h : StAt w S s dv) (hb : Below B w w') (hB : S < B) : StAt w' S s dv := ⟨h.1, h.2.below hb hB⟩
theorem StAt.setD {w : World} {S : Nat} {s : St} {dv : Value} (h : StAt w S s dv) (d : List Int) : StAt w S { s with d := d } dv := h

/-- A memory of words: a slice that reads as a list. -/
def MemAt (w : World) (v : Value) (xs : List Int) : Prop :=
  ∃ p cap, v = .slice p xs.length cap ∧ (xs = [] ∨ ∃ m pre post, p = some ⟨m, List.length pre, none⟩ ∧ RowAt w m (pre ++ xs.map (.int .i32) ++ post))

theorem MemAt.block {w w' : World} {v : Value} {xs : List Int} (h : MemAt w v xs) (hb : ∀ m, v.ownBlock = some m → w'.heap[m]? = w.heap[m]?) : MemAt w' v xs := by
  obtain ⟨p, cap, rfl, h⟩ := h
  refine ⟨p, cap, rfl, ?_⟩
  rcases h with h | ⟨m, pre, post, rfl, h⟩
  · exact .inl h
  · exact .inr ⟨m, pre, post, rfl, h.block (hb m rfl)⟩
theorem MemAt.other {w : World} {v : Value} {xs : List Int} (h : MemAt w v xs) {p : Addr} (hp : v.ownBlock ≠ some p.block) (u : Value) : MemAt (w.setCell p u) v xs :=
  h.block fun m hm => Below.heap_setCell _ _ _ _ (fun e => hp (by rw [hm, e]))
/-- A cell of a memory. -/
theorem MemAt.at {w : World} {v : Value} {xs : List Int} (h : MemAt w v xs) (k : Nat) (hk : k < xs.length) :
    ∃ m off cap, v = .slice (some ⟨m, off, none⟩) xs.length cap ∧ m < w.heap.size ∧ w.cell? ⟨m, off + k, none⟩ = some (.int .i32 (xs.getD k 0)) ∧ w.frozen? ⟨m, off + k, none⟩ = false ∧
      ∀ u : Int, MemAt (w.setCell ⟨m, off + k, none⟩ (.int .i32 u)) v (xs.set k u) := by
  obtain ⟨p, cap, rfl, h⟩ := h
  rcases h with rfl | ⟨m, pre, post, rfl, h⟩
  · simp at hk
  · refine ⟨m, pre.length, cap, rfl, h.lt, ?_, h.frozen _, fun u => ⟨some ⟨m, pre.length, none⟩, cap, by simp, .inr ⟨m, pre, post, rfl, ?_⟩⟩⟩
    · rw [h.cell, List.append_assoc, List.getElem?_append_right (by omega), List.getElem?_append_left (by simp; omega)]
      simp [hk]
    · have := h.set (pre.length + k) (.int .i32 u)
      rwa [List.append_assoc, List.set_append_right _ _ (by omega), List.set_append_left _ _ (by simp; omega), Nat.add_sub_cancel_left, ← List.map_set, ← List.append_assoc] at this
theorem MemAt.shape {w : World} {v : Value} {xs : List Int} (h : MemAt w v xs) : ∃ p cap, v = .slice p xs.length cap := by
  obtain ⟨p, cap, rfl, _⟩ := h
  exact ⟨p, cap, rfl⟩

/-- A slice of words that can be read. -/
def RdAt (w : World) (v : Value) (xs : List Int) : Prop :=
  ∃ p cap, v = .slice p xs.length cap ∧ ∀ k, k < xs.length → ∃ m off, p = some ⟨m, off, none⟩ ∧ m < w.heap.size ∧ w.cell? ⟨m, off + k, none⟩ = some (.int .i32 (xs.getD k 0))
theorem MemAt.rd {w : World} {v : Value} {xs : List Int} (h : MemAt w v xs) : RdAt w v xs := by
  obtain ⟨p, cap, hp⟩ := h.shape
  refine ⟨p, cap, hp, fun k hk => ?_⟩
  obtain ⟨m, off, cap', hv, hm, hc, _⟩ := h.at k hk
  have e := hp.symm.trans hv
  injection e with e1
  exact ⟨m, off, e1, hm, hc⟩
theorem RdAt.shape {w : World} {v : Value} {xs : List Int} (h : RdAt w v xs) : ∃ p cap, v = .slice p xs.length cap := by
  obtain ⟨p, cap, hp, _⟩ := h
  exact ⟨p, cap, hp⟩
theorem RdAt.below {B : Nat} {w w' : World} {v : Value} {xs : List Int} (h : RdAt w v xs) (hb : Below B w w') (hB : w.heap.size ≤ B) : RdAt w' v xs := by
  obtain ⟨p, cap, hp, hc⟩ := h
  refine ⟨p, cap, hp, fun k hk => ?_⟩
  obtain ⟨m, off, e, hm, hx⟩ := hc k hk
  exact ⟨m, off, e, Nat.lt_of_lt_of_le hm hb.size, (hb.cell (p := ⟨m, off + k, none⟩) (Nat.lt_of_lt_of_le hm hB)).trans hx⟩

/-- Nothing but the blocks of which F speaks has turned. -/
structure Kept (F : Nat → Prop) (w w' : World) : Prop where
  os : w'.os = w.os
  tape : w'.tape = w.tape
  output : w'.output = w.output
  size : w.heap.size ≤ w'.heap.size
  block : ∀ k, k < w.heap.size → ¬ F k → w'.heap[k]? = w.heap[k]?
theorem Kept.refl (F : Nat → Prop) (w : World) : Kept F w w := ⟨rfl, rfl, rfl, Nat.le_refl _, fun _ _ _ => rfl⟩
theorem Kept.trans {F : Nat → Prop} {a b c : World} (h : Kept F a b) (k : Kept F b c) : Kept F a c :=
  ⟨k.os.trans h.os, k.tape.trans h.tape, k.output.trans h.output, Nat.le_trans h.size k.size, fun i hi hF => (k.block i (Nat.lt_of_lt_of_le hi h.size) hF).trans (h.block i hi hF)⟩
theorem Kept.of_below {F : Nat → Prop} {w w' : World} (h : Below w.heap.size w w') : Kept F w w' := ⟨h.os, h.tape, h.output, h.size, fun k hk _ => h.block k hk⟩
theorem Kept.below {F : Nat → Prop} {B : Nat} {w w' : World} (h : Kept F w w') (hB : B ≤ w.heap.size) (hF : ∀ k, F k → B ≤ k) : Below B w w' :=
  ⟨h.os, h.tape, h.output, h.size, fun k hk => h.block k (by omega) (fun hf => by have := hF k hf; omega)⟩
theorem Kept.mono {F G : Nat → Prop} {w w' : World} (h : Kept F w w') (hG : ∀ k, F k → G k) : Kept G w w' := ⟨h.os, h.tape, h.output, h.size, fun k hk hn => h.block k hk (fun hf => hn (hG k hf))⟩
theorem Kept.setCell {F : Nat → Prop} {w X : World} (h : Kept F w X) {p : Addr} (hp : F p.block) (v : Value) : Kept F w (X.setCell p v) :=
  ⟨h.os, h.tape, h.output, by simpa [World.setCell] using h.size, fun k hk hn => (Below.heap_setCell _ _ _ _ (fun e => hn (by rw [e]; exact hp))).trans (h.block k hk hn)⟩
theorem Kept.then {F : Nat → Prop} {w X w' : World} (h : Kept F w X) (hb : Below w.heap.size X w') : Kept F w w' :=
  ⟨hb.os.trans h.os, hb.tape.trans h.tape, hb.output.trans h.output, Nat.le_trans h.size hb.size, fun k hk hn => (hb.block k hk).trans (h.block k hk hn)⟩

/-- Word bounds. -/
def W32 (x : Int) : Prop := -2147483648 ≤ x ∧ x ≤ 2147483647

/-- What an instruction does to a state and the shared memory; inp: what the port would deliver. The error number, or: the state, the memory, taken, the address, the value. -/
def stepI (lk : Int) (n a b c : Nat) (i : Int) (s : St) (mem : List Int) (inp : Int) : Except Int (St × List Int × Bool × Int × Int) :=
  let va := s.r.getD a 0
  let vb := s.r.getD b 0
  let vc := s.r.getD c 0
  let set (v : Int) : St := { s with pc := s.pc + 1, r := if a = 0 then s.r else s.r.set a v }
  let go : St := { s with pc := s.pc + 1 }
  if n = 0 then .ok (go, mem, false, -1, 0)
  else if n = 1 then (if 0 ≤ s.held then .error 12 else .ok ({ s with halted := true }, mem, false, -1, 0))
  else if n < 14 then (if ariE n vc ≠ 0 then .error (ariE n vc) else .ok (set (ariV n vb vc), mem, false, -1, 0))
  else if n = 14 then .ok (set i, mem, false, -1, 0)
  else if n = 15 then .ok (set (wrap32 (vb + i)), mem, false, -1, 0)
  else if n = 16 then .ok (set (wrap32 (vb * 2 ^ i.toNat)), mem, false, -1, 0)
  else if n = 17 then .ok (set (bits .or .i32 vb i), mem, false, -1, 0)
  else if n = 18 then (if 0 ≤ vb + i ∧ vb + i < s.d.length then .ok (set (s.d.getD (vb + i).toNat 0), mem, false, vb + i, 0) else .error 10)
  else if n = 19 then (if 0 ≤ vb + i ∧ vb + i < s.d.length then .ok ({ go with d := s.d.set (vb + i).toNat va }, mem, false, vb + i, 0) else .error 10)
  else if n = 20 then (if 0 ≤ vb + i ∧ vb + i < mem.length then .ok (set (mem.getD (vb + i).toNat 0), mem, false, vb + i, 0) else .error 10)
  else if n = 21 then (if 0 ≤ vb + i ∧ vb + i < mem.length then .ok (go, mem.set (vb + i).toNat va, false, vb + i, 0) else .error 10)
  else if n = 22 then (if va = 0 then .ok ({ s with pc := s.pc + 1 + i }, mem, true, -1, 0) else .ok (go, mem, false, -1, 0))
  else if n = 23 then (if va = 0 then .ok (go, mem, false, -1, 0) else .ok ({ s with pc := s.pc + 1 + i }, mem, true, -1, 0))
  else if n = 24 then .ok ({ s with pc := s.pc + 1 + i }, mem, true, -1, 0)
  else if n = 25 then (if 0 ≤ va ∧ va < i then .ok (go, mem, false, -1, 0) else .error 11)
  else if n = 26 then .ok (set inp, mem, false, -1, inp)
  else if n = 27 then .ok (go, mem, false, -1, va)
  else if n = 28 then (if 0 ≤ s.held ∨ lk ≤ i then .error 12 else .ok ({ go with held := i }, mem, false, -1, 0))
  else (if s.held = i then .ok ({ go with held := -1 }, mem, false, -1, 0) else .error 12)

/-- The effect of an instruction as Step returns it. -/
def effV (n a b c : Nat) (i pc : Int) (tk : Bool) (ad vl : Int) : Value := .agg #[.int .u8 n, .int .i64 a, .int .i64 b, .int .i64 c, .int .i64 i, .int .i64 pc, .bool tk, .int .i64 ad, .int .i32 vl]
def effZ : Value := .agg #[.int .u8 0, .int .i64 0, .int .i64 0, .int .i64 0, .int .i64 0, .int .i64 0, .bool false, .int .i64 0, .int .i32 0]

/-- The blocks that a step may write. -/
def OwnF (S : Nat) (dv mv : Value) (k : Nat) : Prop := k = S ∨ dv.ownBlock = some k ∨ mv.ownBlock = some k

/-- What a step leaves. PW: what the port does to the world. -/
def StepPost (w : World) (S : Nat) (dv mv : Value) (PW : World → World) (n a b c : Nat) (i pc : Int) (out : Except Int (St × List Int × Bool × Int × Int)) (e : Ending) (w' : World) : Prop :=
  match out with
  | .error er => e = .returned (.tuple #[effZ, .int .i64 er]) ∧ Below w.heap.size w w'
  | .ok (s', mem', tk, ad, vl) => e = .returned (.tuple #[effV n a b c i pc tk ad vl, .int .i64 0]) ∧ Kept (OwnF S dv mv) (if n = 26 then PW w else w) w' ∧ StAt w' S s' dv ∧ MemAt w' dv s'.d ∧ MemAt w' mv mem'

end Go.Proofs.YtpachmkklppmjaaDoor
