/- liveness.wellFormed, by its contract. -/
import Derived.Test.YtifjcknklecdbaaDoorMs04
set_option linter.unusedVariables false
set_option linter.unusedSimpArgs false
namespace Go.Proofs.YtifjcknklecdbaaDoor
open Go.RowKit

theorem BksAt.at {w : World} {v : Value} {bs : List IBlk} (h : BksAt w v bs) (k : Nat) (hk : k < bs.length) : ∃ m off cap cp cc, v = .slice (some ⟨m, off, none⟩) bs.length cap ∧ m < w.heap.size ∧ InsAt w (.slice cp (bs.getD k default).code.length cc) (bs.getD k default).code ∧
    w.cell? ⟨m, off + k * 5, none⟩ = some (.slice cp (bs.getD k default).code.length cc) ∧ w.cell? ⟨m, off + k * 5 + 1, none⟩ = some (.int .u8 (bs.getD k default).kind) ∧ w.cell? ⟨m, off + k * 5 + 2, none⟩ = some (.int .i64 (bs.getD k default).x) ∧
    w.cell? ⟨m, off + k * 5 + 3, none⟩ = some (.int .i64 (bs.getD k default).tgt) ∧ w.cell? ⟨m, off + k * 5 + 4, none⟩ = some (.int .i64 (bs.getD k default).els) := by
  obtain ⟨p, cap, rfl, hc⟩ := h
  obtain ⟨m, off, cp, cc, rfl, h1, h2, h3⟩ := hc k hk
  exact ⟨m, off, cap, cp, cc, rfl, h1, h2, h3⟩
theorem InsAt.at {w : World} {v : Value} {l : List IIns} (h : InsAt w v l) (k : Nat) (hk : k < l.length) : ∃ m off cap, v = .slice (some ⟨m, off, none⟩) l.length cap ∧ m < w.heap.size ∧
    w.cell? ⟨m, off + k * 6, none⟩ = some (.int .u8 (l.getD k default).op) ∧ w.cell? ⟨m, off + k * 6 + 1, none⟩ = some (.int .i64 (l.getD k default).dst) ∧ w.cell? ⟨m, off + k * 6 + 2, none⟩ = some (.int .i64 (l.getD k default).x) ∧
    w.cell? ⟨m, off + k * 6 + 3, none⟩ = some (.int .i64 (l.getD k default).y) ∧ w.cell? ⟨m, off + k * 6 + 4, none⟩ = some (.int .i64 (l.getD k default).imm) ∧ w.cell? ⟨m, off + k * 6 + 5, none⟩ = some (.string (l.getD k default).sym) := by
  obtain ⟨p, cap, rfl, hc⟩ := h
  obtain ⟨m, off, rfl, h1⟩ := hc k hk
  exact ⟨m, off, cap, rfl, h1⟩

theorem register_any (b : Nat) (R r : Int) (w : World) (hc : w.cell? ⟨b, 1, none⟩ = some (.int .i64 R)) :
    Calls Tryd.prog 43 #[.int .i64 r, .pointer (some ⟨b, 0, none⟩)] w fun e w' => e = .returned (.bool (okR R r)) ∧ w = w' := by
  by_cases h0 : 0 ≤ r
  · by_cases h1 : r < R
    · rw [show okR R r = true from decide_eq_true ⟨h0, h1⟩]
      go_enter Tryd.func43, Tryd.ntmps43
      go_wp2_with fail
      go_ret
      exact ⟨rfl, rfl⟩
    · rw [show okR R r = false from decide_eq_false (fun h => h1 h.2)]
      go_enter Tryd.func43, Tryd.ntmps43
      go_wp2_with fail
      go_ret
      exact ⟨rfl, rfl⟩
  · rw [show okR R r = false from decide_eq_false (fun h => h0 h.1)]
    go_enter Tryd.func43, Tryd.ntmps43
    go_wp2_with fail
    go_ret
    exact ⟨rfl, rfl⟩

theorem getD_mem {α : Type} [Inhabited α] {l : List α} {k : Nat} (hk : k < l.length) : l.getD k default ∈ l := by
  rw [List.getD_eq_getElem?_getD, List.getElem?_eq_getElem hk]; exact List.getElem_mem hk
theorem wf_no_block {R : Int} {bs : List IBlk} {k : Nat} (hk : k < bs.length) (h : okBlk R bs.length (bs.getD k default) = false) : wfF R bs = false := by
  cases hc : wfF R bs with
  | false => rfl
  | true =>
    simp only [wfF, Bool.and_eq_true, List.all_eq_true] at hc
    rw [hc.2 _ (getD_mem hk)] at h; cases h
theorem blk_no_ins {R : Int} {n k : Nat} {b : IBlk} (hk : k < b.code.length) (h : okIns R (b.code.getD k default) = false) : okBlk R n b = false := by
  cases hc : okBlk R n b with
  | false => rfl
  | true =>
    simp only [okBlk, Bool.and_eq_true, List.all_eq_true] at hc
    rw [hc.1.1.1 _ (getD_mem hk)] at h; cases h
theorem ins_no_op {R : Int} {i : IIns} (h : ¬ (1 ≤ i.op ∧ i.op ≤ 16)) : okIns R i = false := by
  unfold okIns; rw [decide_eq_false h]; rfl
theorem ins_no_use {R : Int} {i : IIns} {k : Nat} (hk : k < (usesI i).length) (h : okR R ((usesI i).getD k 0) = false) : okIns R i = false := by
  cases hc : okIns R i with
  | false => rfl
  | true =>
    simp only [okIns, Bool.and_eq_true, List.all_eq_true] at hc
    have := hc.1.2 ((usesI i).getD k 0) (by rw [List.getD_eq_getElem?_getD, List.getElem?_eq_getElem hk]; exact List.getElem_mem hk)
    rw [this] at h; cases h
theorem ins_no_def {R : Int} {i : IIns} (hd : hasDef i.op = true) (h : okR R i.dst = false) : okIns R i = false := by
  unfold okIns; rw [hd, h]; simp
theorem ins_yes {R : Int} {i : IIns} (h1 : 1 ≤ i.op ∧ i.op ≤ 16) (h2 : ∀ k, k < (usesI i).length → okR R ((usesI i).getD k 0) = true) (h3 : hasDef i.op = true → okR R i.dst = true) : okIns R i = true := by
  simp only [okIns, Bool.and_eq_true, List.all_eq_true]
  refine ⟨⟨decide_eq_true h1, fun r hr => ?_⟩, ?_⟩
  · obtain ⟨k, hk, rfl⟩ := List.mem_iff_getElem.1 hr
    have := h2 k hk
    rwa [List.getD_eq_getElem?_getD, List.getElem?_eq_getElem hk] at this
  · cases hd : hasDef i.op with
    | false => rfl
    | true => rw [h3 hd]; rfl
theorem blk_no_kind {R : Int} {n : Nat} {b : IBlk} (h : ¬ (b.kind = 1 ∨ b.kind = 2 ∨ b.kind = 3)) : okBlk R n b = false := by
  unfold okBlk; rw [decide_eq_false h]; simp
theorem blk_no_succ {R : Int} {n k : Nat} {b : IBlk} (hk : k < (succI b).length) (h : okR n ((succI b).getD k 0) = false) : okBlk R n b = false := by
  cases hc : okBlk R n b with
  | false => rfl
  | true =>
    simp only [okBlk, Bool.and_eq_true, List.all_eq_true] at hc
    have := hc.1.2 ((succI b).getD k 0) (by rw [List.getD_eq_getElem?_getD, List.getElem?_eq_getElem hk]; exact List.getElem_mem hk)
    rw [this] at h; cases h
theorem blk_no_reg {R : Int} {n : Nat} {b : IBlk} (hk : b.kind = 2) (h : okR R b.x = false) : okBlk R n b = false := by
  unfold okBlk; rw [decide_eq_true hk, h]; simp
theorem blk_yes {R : Int} {n : Nat} {b : IBlk} (h1 : ∀ k, k < b.code.length → okIns R (b.code.getD k default) = true) (h2 : b.kind = 1 ∨ b.kind = 2 ∨ b.kind = 3) (h3 : ∀ k, k < (succI b).length → okR n ((succI b).getD k 0) = true) (h4 : b.kind = 2 → okR R b.x = true) : okBlk R n b = true := by
  simp only [okBlk, Bool.and_eq_true, List.all_eq_true]
  refine ⟨⟨⟨fun i hi => ?_, decide_eq_true h2⟩, fun r hr => ?_⟩, ?_⟩
  · obtain ⟨k, hk, rfl⟩ := List.mem_iff_getElem.1 hi
    have := h1 k hk
    rwa [List.getD_eq_getElem?_getD, List.getElem?_eq_getElem hk] at this
  · obtain ⟨k, hk, rfl⟩ := List.mem_iff_getElem.1 hr
    have := h3 k hk
    rwa [List.getD_eq_getElem?_getD, List.getElem?_eq_getElem hk] at this
  · by_cases hd : b.kind = 2
    · rw [decide_eq_true hd, h4 hd]; rfl
    · rw [decide_eq_false hd]; rfl
theorem wf_yes {R : Int} {bs : List IBlk} (h1 : bs.length ≠ 0) (h2 : 0 ≤ R ∧ R ≤ 10000) (h3 : ∀ k, k < bs.length → okBlk R bs.length (bs.getD k default) = true) : wfF R bs = true := by
  simp only [wfF, Bool.and_eq_true, List.all_eq_true]
  refine ⟨⟨decide_eq_true (fun e => h1 (by rw [e]; rfl)), decide_eq_true h2⟩, fun b hb => ?_⟩
  obtain ⟨k, hk, rfl⟩ := List.mem_iff_getElem.1 hb
  have := h3 k hk
  rwa [List.getD_eq_getElem?_getD, List.getElem?_eq_getElem hk] at this
end Go.Proofs.YtifjcknklecdbaaDoor
