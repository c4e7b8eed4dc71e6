import Derived.Test.YtkcfbonchhidlaaGreatDoorMs37
import Derived.Deep.RegionWith
import Derived.StillTailTactics
set_option linter.unusedVariables false
set_option linter.unusedSimpArgs false
namespace Go.Proofs.YtkcfbonchhidlaaGreatDoor
open Go.RowKit Go.Maps

set_option maxHeartbeats 1600000 in
set_option maxRecDepth 20000 in
theorem oper1_any {q : GK} {R : List (Nat × List Value)} {g : Gen} {w : World} (h : GenRel q R g w) {b0 : Nat}  (m0 : (b0, [.pointer (some ⟨q.gb, 0, none⟩)]) ∈ R) (n : Nat) (a b c : Int)  (hz : SzG g 900000) :
    Calls Tryz.prog 69 #[.int .u8 n, .int .i64 a, .int .i64 b, .int .i64 c, .pointer (some ⟨b0, 0, none⟩)] w fun e w' => e = .returned (.tuple #[]) ∧ Hid (GenRel q R (emitG [⟨n, a, b, c, 0⟩] g) w') := by
  have HG := Lib.hid h
  have hz1 := hz.1
  have r0 := h.at m0
  have l0 := r0.lt
  have a0_0 := r0.at 0 rfl
  clear r0
  clear h
  go_enter Tryz.func69, Tryz.ntmps69
  go_wp2_with fail
  refine (emit_any (l := [⟨n, a, b, c, 0⟩]) (HG.out.keep (by repeat (first | (with_reducible exact Below.refl _ _) | (with_reducible apply Below.drew) | ((with_reducible apply bAlloc); (focus first | (exact Nat.le_refl _) | (simp; done) | (simp; omega)))))) (GsRd.one _ n _ _ _ _ _) (by simp) (by simp; omega)).mono ?_
  rintro e w5 ⟨rfl, HK⟩
  go_wp2_with fail
  go_end0
  exact ⟨rfl, HK.out⟩

set_option maxHeartbeats 1600000 in
set_option maxRecDepth 20000 in
theorem clo5_any {q : GK} {R : List (Nat × List Value)} {g : Gen} {w : World} (h : GenRel q R g w) {b0 : Nat} {b1 op : Nat} {dst x y imm : Int} {sym : ByteArray}  (m0 : (b0, [.pointer (some ⟨q.gb, 0, none⟩)]) ∈ R) (m1 : (b1, [.int .u8 op, .int .i64 dst, .int .i64 x, .int .i64 y, .int .i64 imm, .string sym]) ∈ R) (r : Int)  (hz : SzG g 900000) :
    Calls Tryz.prog 42 #[.int .i64 r, .pointer (some ⟨b0, 0, none⟩), .pointer (some ⟨b1, 0, none⟩)] w fun e w' => e = .returned (.tuple #[]) ∧ Hid (GenRel q R (emitG [⟨26, r, 0, 0, imm⟩] g) w') := by
  have HG := Lib.hid h
  have hz1 := hz.1
  have r0 := h.at m0
  have l0 := r0.lt
  have a0_0 := r0.at 0 rfl
  clear r0
  have r1 := h.at m1
  have l1 := r1.lt
  have a1_4 := r1.at 4 rfl
  clear r1
  clear h
  go_enter Tryz.func42, Tryz.ntmps42
  go_wp2_with fail
  refine (emit_any (l := [⟨26, r, 0, 0, imm⟩]) (HG.out.keep (by repeat (first | (with_reducible exact Below.refl _ _) | (with_reducible apply Below.drew) | ((with_reducible apply bAlloc); (focus first | (exact Nat.le_refl _) | (simp; done) | (simp; omega)))))) (GsRd.one _ 26 _ _ _ _ _) (by simp) (by simp; omega)).mono ?_
  rintro e w5 ⟨rfl, HK⟩
  go_wp2_with fail
  go_end0
  exact ⟨rfl, HK.out⟩

set_option maxHeartbeats 1600000 in
set_option maxRecDepth 20000 in
theorem clo6_any {q : GK} {R : List (Nat × List Value)} {g : Gen} {w : World} (h : GenRel q R g w) {b0 : Nat} {b1 op : Nat} {dst x y imm : Int} {sym : ByteArray}  (m0 : (b0, [.pointer (some ⟨q.gb, 0, none⟩)]) ∈ R) (m1 : (b1, [.int .u8 op, .int .i64 dst, .int .i64 x, .int .i64 y, .int .i64 imm, .string sym]) ∈ R) (r : Int) (hb : 0 ≤ imm ∧ imm ≤ 1000) (hz : SzG g 900000) :
    Calls Tryz.prog 43 #[.int .i64 r, .pointer (some ⟨b0, 0, none⟩), .pointer (some ⟨b1, 0, none⟩)] w fun e w' => e = .returned (.tuple #[]) ∧ Hid (GenRel q R (emitG [⟨15, r, 10 + imm, 0, 0⟩] g) w') := by
  have HG := Lib.hid h
  have hz1 := hz.1
  have r0 := h.at m0
  have l0 := r0.lt
  have a0_0 := r0.at 0 rfl
  clear r0
  have r1 := h.at m1
  have l1 := r1.lt
  have a1_4 := r1.at 4 rfl
  clear r1
  clear h
  have hwr : IntKind.i64.wrap (10 + imm) = 10 + imm := IntWalk.i64_in _ (by omega)
  go_enter Tryz.func43, Tryz.ntmps43
  go_wp2_with fail
  refine (emit_any (l := [⟨15, r, (10 + imm), 0, 0⟩]) (HG.out.keep (by repeat (first | (with_reducible exact Below.refl _ _) | (with_reducible apply Below.drew) | ((with_reducible apply bAlloc); (focus first | (exact Nat.le_refl _) | (simp; done) | (simp; omega)))))) (GsRd.one _ 15 _ _ _ _ _) (by simp) (by simp; omega)).mono ?_
  rintro e w5 ⟨rfl, HK⟩
  go_wp2_with fail
  go_end0
  exact ⟨rfl, HK.out⟩

set_option maxHeartbeats 1600000 in
set_option maxRecDepth 20000 in
theorem clo4_any {q : GK} {R : List (Nat × List Value)} {g : Gen} {w : World} (h : GenRel q R g w) {b0 : Nat} {b1 op : Nat} {dst x y imm : Int} {sym : ByteArray} {b2 : Nat} {X : Int}  (m0 : (b0, [.pointer (some ⟨q.gb, 0, none⟩)]) ∈ R) (m1 : (b1, [.int .u8 op, .int .i64 dst, .int .i64 x, .int .i64 y, .int .i64 imm, .string sym]) ∈ R) (m2 : (b2, [.int .i64 X]) ∈ R) (r : Int)  (hz : SzG g 900000) :
    Calls Tryz.prog 40 #[.int .i64 r, .pointer (some ⟨b0, 0, none⟩), .pointer (some ⟨b2, 0, none⟩), .pointer (some ⟨b1, 0, none⟩)] w fun e w' => e = .returned (.tuple #[]) ∧ Hid (GenRel q R (referG ⟨20, r, X, 0, 0⟩ sym g) w') := by
  have HG := Lib.hid h
  have hz1 := hz.1
  have r0 := h.at m0
  have l0 := r0.lt
  have a0_0 := r0.at 0 rfl
  clear r0
  have r1 := h.at m1
  have l1 := r1.lt
  have a1_5 := r1.at 5 rfl
  clear r1
  have r2 := h.at m2
  have l2 := r2.lt
  have a2_0 := r2.at 0 rfl
  clear r2
  clear h
  go_enter Tryz.func40, Tryz.ntmps40
  go_wp2_with fail
  refine (refer_any HG.out (op := 20) (.inl rfl) r X 0 0 sym hz).mono ?_
  rintro e w5 ⟨rfl, HK⟩
  go_wp2_with fail
  go_end0
  exact ⟨rfl, HK.out⟩

set_option maxHeartbeats 1600000 in
set_option maxRecDepth 20000 in
theorem dup1_any {q : GK} {R : List (Nat × List Value)} {g : Gen} {w : World} (h : GenRel q R g w) {b0 : Nat} {b2 : Nat} {X : Int}  (m0 : (b0, [.pointer (some ⟨q.gb, 0, none⟩)]) ∈ R) (m2 : (b2, [.int .i64 X]) ∈ R) (r : Int)  (hz : SzG g 900000) :
    Calls Tryz.prog 68 #[.int .i64 r, .pointer (some ⟨b2, 0, none⟩), .pointer (some ⟨b0, 0, none⟩)] w fun e w' => e = .returned (.tuple #[]) ∧ Hid (GenRel q R (if r ≠ X then emitG [⟨15, r, X, 0, 0⟩] g else g) w') := by
  have HG := Lib.hid h
  have hz1 := hz.1
  have r0 := h.at m0
  have l0 := r0.lt
  have a0_0 := r0.at 0 rfl
  clear r0
  have r2 := h.at m2
  have l2 := r2.lt
  have a2_0 := r2.at 0 rfl
  clear r2
  clear h
  go_enter Tryz.func68, Tryz.ntmps68
  by_cases hr : r = X
  · rw [if_neg (by simpa using hr)]
    subst hr
    go_wp2_with fail
    go_end0
    exact ⟨rfl, HG⟩
  · rw [if_pos hr]
    go_wp2_with fail
    refine (emit_any (l := [⟨15, r, X, 0, 0⟩]) (HG.out.keep (by repeat (first | (with_reducible exact Below.refl _ _) | (with_reducible apply Below.drew) | ((with_reducible apply bAlloc); (focus first | (exact Nat.le_refl _) | (simp; done) | (simp; omega)))))) (GsRd.one _ 15 _ _ _ _ _) (by simp) (by simp; omega)).mono ?_
    rintro e w5 ⟨rfl, HK⟩
    go_wp2_with fail
    go_end0
    exact ⟨rfl, HK.out⟩

set_option maxHeartbeats 1600000 in
set_option maxRecDepth 20000 in
theorem clo1_any {q : GK} {R : List (Nat × List Value)} {g : Gen} {w : World} (h : GenRel q R g w) {b0 : Nat} {b1 op : Nat} {dst x y imm : Int} {sym : ByteArray}  (m0 : (b0, [.pointer (some ⟨q.gb, 0, none⟩)]) ∈ R) (m1 : (b1, [.int .u8 op, .int .i64 dst, .int .i64 x, .int .i64 y, .int .i64 imm, .string sym]) ∈ R) (r : Int) (hr : 1 ≤ r ∧ r ≤ 15) (hb : -2147483648 ≤ imm ∧ imm ≤ 2147483647) (hz : SzG g 900000) :
    Calls Tryz.prog 34 #[.int .i64 r, .pointer (some ⟨b0, 0, none⟩), .pointer (some ⟨b1, 0, none⟩)] w fun e w' => e = .returned (.tuple #[]) ∧ Hid (GenRel q R (emitG (constG r imm) g) w') := by
  have HG := Lib.hid h
  have hz1 := hz.1
  clear h
  have hwr : IntKind.i32.wrap imm = imm := by rw [IntKind.wrap_i32]; omega
  have hne : constG r imm ≠ [] := by
    unfold constG
    rw [if_neg (by omega)]
    split <;> simp
  have hle : (constG r imm).length ≤ 3 := by
    unfold constG
    split
    · simp
    · split <;> simp
  have HNE := Lib.hid hne
  have HLE := Lib.hid (show g.code.length + (constG r imm).length ≤ 1000000 by omega)
  have HC := Lib.hid (fun w : World => const_any r imm w hb)
  have HMK := Lib.hid (fun (w' : World) (g' : Gen) (h' : GenRel q R g' w') => (show w'.cell? ⟨b0, 0, none⟩ = some (.pointer (some ⟨q.gb, 0, none⟩)) ∧ w'.cell? ⟨b1, 4, none⟩ = some (.int .i64 imm) from ⟨(h'.at m0).at 0 rfl, (h'.at m1).at 4 rfl⟩))
  have HG0 := Lib.hid (HG.out.keep (w' := w.drew) (Below.drew (Below.refl _ _)))
  have hs0 := HMK.out _ _ HG0.out
  clear hne hle hr hb m0 m1
  go_enter Tryz.func34, Tryz.ntmps34
  first | go_region_held3 (fun w' => w'.cell? ⟨b0, 0, none⟩ = some (.pointer (some ⟨q.gb, 0, none⟩)) ∧ w'.cell? ⟨b1, 4, none⟩ = some (.int .i64 imm)) (first | exact hs0 | exact hs1 | exact hs2 | assumption) (first | (go_at_call 21; refine (emit_any HG1.out HL.out HNE.out HLE.out).mono ?_; rintro e w5 ⟨rfl, HK⟩; have hs2 := HMK.out _ _ HK.out) | (go_at_call 5; refine (HC.out _).mono ?_; rintro e w1 ⟨lv, rfl, hl, hb1⟩; have HL := Lib.hid hl; have HG1 := Lib.hid (HG0.out.keep hb1); have hs1 := HMK.out _ _ HG1.out)) | fail
  all_goals (
    go_wp2_with fail
    go_end0
    exact ⟨rfl, HK.out⟩)

theorem GenRel.map {q : GK} {R : List (Nat × List Value)} {g : Gen} {w : World} {sym : ByteArray} (h : GenRel q R g w) (hs : sym.size ≤ maxLen) (hF : (q.F sym).getD (.int .i64 0) = .int .i64 (q.c.ar sym)) : w.cell? ⟨q.gb, 2, none⟩ = some (.map (some q.mb)) ∧ (Instr.lookup 92 (.map (some q.mb)) (.string sym) false).run Tryz.prog w = .ok (.int .i64 (q.c.ar sym)) w := by
  obtain ⟨col, cv, rv, sv, bv, hA⟩ := h
  have hl := hA.x.mp.look (t := 92) (e := 3) Tryz.underlying92 (zeroI _) sym hs
  rw [hF] at hl
  exact ⟨hA.cells.2.1.2.2, hl⟩
set_option maxHeartbeats 1600000 in
set_option maxRecDepth 20000 in
theorem clo3_any {q : GK} {R : List (Nat × List Value)} {g : Gen} {w : World} (h : GenRel q R g w) {b0 : Nat} {b1 op : Nat} {dst x y imm : Int} {sym : ByteArray} {b2 : Nat} {X : Int}  (m0 : (b0, [.pointer (some ⟨q.gb, 0, none⟩)]) ∈ R) (m1 : (b1, [.int .u8 op, .int .i64 dst, .int .i64 x, .int .i64 y, .int .i64 imm, .string sym]) ∈ R) (m2 : (b2, [.int .i64 X]) ∈ R) (r : Int) (hs : sym.size ≤ maxLen) (hF : (q.F sym).getD (.int .i64 0) = .int .i64 (q.c.ar sym)) (hz : SzG g 900000) :
    Calls Tryz.prog 39 #[.int .i64 r, .pointer (some ⟨b0, 0, none⟩), .pointer (some ⟨b2, 0, none⟩), .pointer (some ⟨b1, 0, none⟩)] w fun e w' => e = .returned (.tuple #[]) ∧ Hid (GenRel q R (emitG [⟨18, r, X, 0, q.c.ar sym⟩] g) w') := by
  have HG := Lib.hid h
  have hz1 := hz.1
  clear h
  have HMK := Lib.hid (fun (w' : World) (g' : Gen) (h' : GenRel q R g' w') => (show (w'.cell? ⟨b0, 0, none⟩ = some (.pointer (some ⟨q.gb, 0, none⟩)) ∧ w'.cell? ⟨b1, 5, none⟩ = some (.string sym)) ∧ (w'.cell? ⟨b2, 0, none⟩ = some (.int .i64 X) ∧ w'.cell? ⟨q.gb, 2, none⟩ = some (.map (some q.mb))) ∧ (Instr.lookup 92 (.map (some q.mb)) (.string sym) false).run Tryz.prog w' = .ok (.int .i64 (q.c.ar sym)) w' from ⟨⟨(h'.at m0).at 0 rfl, (h'.at m1).at 5 rfl⟩, ⟨(h'.at m2).at 0 rfl, (h'.map hs hF).1⟩, (h'.map hs hF).2⟩))
  have HG0 := Lib.hid (HG.out.keep (w' := w.drew) (Below.drew (Below.refl _ _)))
  have hs0 := HMK.out _ _ HG0.out
  have hal := fun o : Obj => HMK.out _ _ (HG.out.keep (w' := (w.alloc o).drew) (Below.drew (bAlloc (Nat.le_refl _) (Below.refl _ _))))
  clear m0 m1 m2 hs hF
  go_enter Tryz.func39, Tryz.ntmps39
  go_region_held3 (fun W => (W.cell? ⟨b0, 0, none⟩ = some (.pointer (some ⟨q.gb, 0, none⟩)) ∧ W.cell? ⟨b1, 5, none⟩ = some (.string sym)) ∧ (W.cell? ⟨b2, 0, none⟩ = some (.int .i64 X) ∧ W.cell? ⟨q.gb, 2, none⟩ = some (.map (some q.mb))) ∧ (Instr.lookup 92 (.map (some q.mb)) (.string sym) false).run Tryz.prog W = .ok (.int .i64 (q.c.ar sym)) W) (first | exact hs0 | exact hs1 | exact hal _ | assumption) (first | (go_at_call 21; refine (emit_any (l := [⟨18, r, X, 0, q.c.ar sym⟩]) (HG.out.keep (by repeat (first | (with_reducible exact Below.refl _ _) | (with_reducible apply Below.drew) | ((with_reducible apply bAlloc); (focus first | (exact Nat.le_refl _) | (simp; done) | (simp; omega)))))) (GsRd.drew (GsRd.one _ 18 _ _ _ _ _)) (by simp) (by simp; omega)).mono ?_; rintro e w5 ⟨rfl, HK⟩; have hs1 := HMK.out _ _ HK.out))
  all_goals (
    go_wp2_with fail
    go_end0
    exact ⟨rfl, HK.out⟩)

end Go.Proofs.YtkcfbonchhidlaaGreatDoor
