import Derived.Test.YtkcfbonchhidlaaGreatDoorGenH
set_option linter.unusedVariables false
set_option linter.unusedSimpArgs false
namespace Go.Proofs.YtkcfbonchhidlaaGreatDoor
open Go.RowKit Go.Maps

set_option maxHeartbeats 3200000 in
set_option maxRecDepth 20000 in
theorem oper6_any {q : GK} {R : List (Nat × List Value)} {g : Gen} {w : World} (h : GenRel q R g w) (r X Y : Int) (hz : SzG g 890000) :
    Calls Tryz.prog 38 #[.pointer (some ⟨q.gb, 0, none⟩), .int .u8 6, .int .i64 r, .int .i64 X, .int .i64 Y] w fun e w' => e = .returned (.tuple #[]) ∧ Hid (GenRel q R (emitG (operG 6 r X Y) g) w') := by
  have HE : Hid (emitG (operG 6 r X Y) g = emitG [⟨2, r, X, Y, 0⟩] (g)) := (show _ = _ by simp [operG, emitG])
  rw [HE.out]
  have HG := Lib.hid (h.made [.pointer (some ⟨q.gb, 0, none⟩)] 91)
  have HZ := Lib.hid hz
  clear h hz
  go_enter Tryz.func38, Tryz.ntmps38
  go_wp2_with fail
  refine (oper1_any (b0 := w.heap.size) (HG.out.keep (by repeat (first | (with_reducible exact Below.refl _ _) | (with_reducible apply Below.drew) | ((with_reducible apply bAlloc); (focus first | (exact Nat.le_refl _) | (simp; done) | (simp; omega)))))) (List.mem_cons_self ..) 2 r (X) (Y) (HZ.out.le (by decide))).mono ?_
  rintro e w5 ⟨rfl, HK0⟩
  go_wp2_with fail
  go_end0
  exact ⟨rfl, HK0.out.drop⟩
set_option maxHeartbeats 3200000 in
set_option maxRecDepth 20000 in
theorem oper7_any {q : GK} {R : List (Nat × List Value)} {g : Gen} {w : World} (h : GenRel q R g w) (r X Y : Int) (hz : SzG g 890000) :
    Calls Tryz.prog 38 #[.pointer (some ⟨q.gb, 0, none⟩), .int .u8 7, .int .i64 r, .int .i64 X, .int .i64 Y] w fun e w' => e = .returned (.tuple #[]) ∧ Hid (GenRel q R (emitG (operG 7 r X Y) g) w') := by
  have HE : Hid (emitG (operG 7 r X Y) g = emitG [⟨3, r, X, Y, 0⟩] (g)) := (show _ = _ by simp [operG, emitG])
  rw [HE.out]
  have HG := Lib.hid (h.made [.pointer (some ⟨q.gb, 0, none⟩)] 91)
  have HZ := Lib.hid hz
  clear h hz
  go_enter Tryz.func38, Tryz.ntmps38
  go_wp2_with fail
  refine (oper1_any (b0 := w.heap.size) (HG.out.keep (by repeat (first | (with_reducible exact Below.refl _ _) | (with_reducible apply Below.drew) | ((with_reducible apply bAlloc); (focus first | (exact Nat.le_refl _) | (simp; done) | (simp; omega)))))) (List.mem_cons_self ..) 3 r (X) (Y) (HZ.out.le (by decide))).mono ?_
  rintro e w5 ⟨rfl, HK0⟩
  go_wp2_with fail
  go_end0
  exact ⟨rfl, HK0.out.drop⟩
set_option maxHeartbeats 3200000 in
set_option maxRecDepth 20000 in
theorem oper8_any {q : GK} {R : List (Nat × List Value)} {g : Gen} {w : World} (h : GenRel q R g w) (r X Y : Int) (hz : SzG g 890000) :
    Calls Tryz.prog 38 #[.pointer (some ⟨q.gb, 0, none⟩), .int .u8 8, .int .i64 r, .int .i64 X, .int .i64 Y] w fun e w' => e = .returned (.tuple #[]) ∧ Hid (GenRel q R (emitG (operG 8 r X Y) g) w') := by
  have HE : Hid (emitG (operG 8 r X Y) g = emitG [⟨4, r, X, Y, 0⟩] (g)) := (show _ = _ by simp [operG, emitG])
  rw [HE.out]
  have HG := Lib.hid (h.made [.pointer (some ⟨q.gb, 0, none⟩)] 91)
  have HZ := Lib.hid hz
  clear h hz
  go_enter Tryz.func38, Tryz.ntmps38
  go_wp2_with fail
  refine (oper1_any (b0 := w.heap.size) (HG.out.keep (by repeat (first | (with_reducible exact Below.refl _ _) | (with_reducible apply Below.drew) | ((with_reducible apply bAlloc); (focus first | (exact Nat.le_refl _) | (simp; done) | (simp; omega)))))) (List.mem_cons_self ..) 4 r (X) (Y) (HZ.out.le (by decide))).mono ?_
  rintro e w5 ⟨rfl, HK0⟩
  go_wp2_with fail
  go_end0
  exact ⟨rfl, HK0.out.drop⟩
set_option maxHeartbeats 3200000 in
set_option maxRecDepth 20000 in
theorem oper9_any {q : GK} {R : List (Nat × List Value)} {g : Gen} {w : World} (h : GenRel q R g w) (r X Y : Int) (hz : SzG g 890000) :
    Calls Tryz.prog 38 #[.pointer (some ⟨q.gb, 0, none⟩), .int .u8 9, .int .i64 r, .int .i64 X, .int .i64 Y] w fun e w' => e = .returned (.tuple #[]) ∧ Hid (GenRel q R (emitG (operG 9 r X Y) g) w') := by
  have HE : Hid (emitG (operG 9 r X Y) g = emitG [⟨5, r, X, Y, 0⟩] (g)) := (show _ = _ by simp [operG, emitG])
  rw [HE.out]
  have HG := Lib.hid (h.made [.pointer (some ⟨q.gb, 0, none⟩)] 91)
  have HZ := Lib.hid hz
  clear h hz
  go_enter Tryz.func38, Tryz.ntmps38
  go_wp2_with fail
  refine (oper1_any (b0 := w.heap.size) (HG.out.keep (by repeat (first | (with_reducible exact Below.refl _ _) | (with_reducible apply Below.drew) | ((with_reducible apply bAlloc); (focus first | (exact Nat.le_refl _) | (simp; done) | (simp; omega)))))) (List.mem_cons_self ..) 5 r (X) (Y) (HZ.out.le (by decide))).mono ?_
  rintro e w5 ⟨rfl, HK0⟩
  go_wp2_with fail
  go_end0
  exact ⟨rfl, HK0.out.drop⟩
set_option maxHeartbeats 3200000 in
set_option maxRecDepth 20000 in
theorem oper10_any {q : GK} {R : List (Nat × List Value)} {g : Gen} {w : World} (h : GenRel q R g w) (r X Y : Int) (hz : SzG g 890000) :
    Calls Tryz.prog 38 #[.pointer (some ⟨q.gb, 0, none⟩), .int .u8 10, .int .i64 r, .int .i64 X, .int .i64 Y] w fun e w' => e = .returned (.tuple #[]) ∧ Hid (GenRel q R (emitG (operG 10 r X Y) g) w') := by
  have HE : Hid (emitG (operG 10 r X Y) g = emitG [⟨6, r, X, Y, 0⟩] (g)) := (show _ = _ by simp [operG, emitG])
  rw [HE.out]
  have HG := Lib.hid (h.made [.pointer (some ⟨q.gb, 0, none⟩)] 91)
  have HZ := Lib.hid hz
  clear h hz
  go_enter Tryz.func38, Tryz.ntmps38
  go_wp2_with fail
  refine (oper1_any (b0 := w.heap.size) (HG.out.keep (by repeat (first | (with_reducible exact Below.refl _ _) | (with_reducible apply Below.drew) | ((with_reducible apply bAlloc); (focus first | (exact Nat.le_refl _) | (simp; done) | (simp; omega)))))) (List.mem_cons_self ..) 6 r (X) (Y) (HZ.out.le (by decide))).mono ?_
  rintro e w5 ⟨rfl, HK0⟩
  go_wp2_with fail
  go_end0
  exact ⟨rfl, HK0.out.drop⟩
set_option maxHeartbeats 3200000 in
set_option maxRecDepth 20000 in
theorem oper11_any {q : GK} {R : List (Nat × List Value)} {g : Gen} {w : World} (h : GenRel q R g w) (r X Y : Int) (hz : SzG g 890000) :
    Calls Tryz.prog 38 #[.pointer (some ⟨q.gb, 0, none⟩), .int .u8 11, .int .i64 r, .int .i64 X, .int .i64 Y] w fun e w' => e = .returned (.tuple #[]) ∧ Hid (GenRel q R (emitG (operG 11 r X Y) g) w') := by
  have HE : Hid (emitG (operG 11 r X Y) g = emitG [⟨7, r, X, Y, 0⟩] (g)) := (show _ = _ by simp [operG, emitG])
  rw [HE.out]
  have HG := Lib.hid (h.made [.pointer (some ⟨q.gb, 0, none⟩)] 91)
  have HZ := Lib.hid hz
  clear h hz
  go_enter Tryz.func38, Tryz.ntmps38
  go_wp2_with fail
  refine (oper1_any (b0 := w.heap.size) (HG.out.keep (by repeat (first | (with_reducible exact Below.refl _ _) | (with_reducible apply Below.drew) | ((with_reducible apply bAlloc); (focus first | (exact Nat.le_refl _) | (simp; done) | (simp; omega)))))) (List.mem_cons_self ..) 7 r (X) (Y) (HZ.out.le (by decide))).mono ?_
  rintro e w5 ⟨rfl, HK0⟩
  go_wp2_with fail
  go_end0
  exact ⟨rfl, HK0.out.drop⟩
set_option maxHeartbeats 3200000 in
set_option maxRecDepth 20000 in
theorem oper12_any {q : GK} {R : List (Nat × List Value)} {g : Gen} {w : World} (h : GenRel q R g w) (r X Y : Int) (hz : SzG g 890000) :
    Calls Tryz.prog 38 #[.pointer (some ⟨q.gb, 0, none⟩), .int .u8 12, .int .i64 r, .int .i64 X, .int .i64 Y] w fun e w' => e = .returned (.tuple #[]) ∧ Hid (GenRel q R (emitG (operG 12 r X Y) g) w') := by
  have HE : Hid (emitG (operG 12 r X Y) g = emitG [⟨8, r, X, Y, 0⟩] (g)) := (show _ = _ by simp [operG, emitG])
  rw [HE.out]
  have HG := Lib.hid (h.made [.pointer (some ⟨q.gb, 0, none⟩)] 91)
  have HZ := Lib.hid hz
  clear h hz
  go_enter Tryz.func38, Tryz.ntmps38
  go_wp2_with fail
  refine (oper1_any (b0 := w.heap.size) (HG.out.keep (by repeat (first | (with_reducible exact Below.refl _ _) | (with_reducible apply Below.drew) | ((with_reducible apply bAlloc); (focus first | (exact Nat.le_refl _) | (simp; done) | (simp; omega)))))) (List.mem_cons_self ..) 8 r (X) (Y) (HZ.out.le (by decide))).mono ?_
  rintro e w5 ⟨rfl, HK0⟩
  go_wp2_with fail
  go_end0
  exact ⟨rfl, HK0.out.drop⟩
set_option maxHeartbeats 3200000 in
set_option maxRecDepth 20000 in
theorem oper13_any {q : GK} {R : List (Nat × List Value)} {g : Gen} {w : World} (h : GenRel q R g w) (r X Y : Int) (hz : SzG g 890000) :
    Calls Tryz.prog 38 #[.pointer (some ⟨q.gb, 0, none⟩), .int .u8 13, .int .i64 r, .int .i64 X, .int .i64 Y] w fun e w' => e = .returned (.tuple #[]) ∧ Hid (GenRel q R (emitG (operG 13 r X Y) g) w') := by
  have HE : Hid (emitG (operG 13 r X Y) g = emitG [⟨9, r, X, Y, 0⟩] (g)) := (show _ = _ by simp [operG, emitG])
  rw [HE.out]
  have HG := Lib.hid (h.made [.pointer (some ⟨q.gb, 0, none⟩)] 91)
  have HZ := Lib.hid hz
  clear h hz
  go_enter Tryz.func38, Tryz.ntmps38
  go_wp2_with fail
  refine (oper1_any (b0 := w.heap.size) (HG.out.keep (by repeat (first | (with_reducible exact Below.refl _ _) | (with_reducible apply Below.drew) | ((with_reducible apply bAlloc); (focus first | (exact Nat.le_refl _) | (simp; done) | (simp; omega)))))) (List.mem_cons_self ..) 9 r (X) (Y) (HZ.out.le (by decide))).mono ?_
  rintro e w5 ⟨rfl, HK0⟩
  go_wp2_with fail
  go_end0
  exact ⟨rfl, HK0.out.drop⟩
set_option maxHeartbeats 3200000 in
set_option maxRecDepth 20000 in
theorem oper14_any {q : GK} {R : List (Nat × List Value)} {g : Gen} {w : World} (h : GenRel q R g w) (r X Y : Int) (hz : SzG g 890000) :
    Calls Tryz.prog 38 #[.pointer (some ⟨q.gb, 0, none⟩), .int .u8 14, .int .i64 r, .int .i64 X, .int .i64 Y] w fun e w' => e = .returned (.tuple #[]) ∧ Hid (GenRel q R (emitG (operG 14 r X Y) g) w') := by
  have HE : Hid (emitG (operG 14 r X Y) g = emitG [⟨10, r, X, Y, 0⟩] (g)) := (show _ = _ by simp [operG, emitG])
  rw [HE.out]
  have HG := Lib.hid (h.made [.pointer (some ⟨q.gb, 0, none⟩)] 91)
  have HZ := Lib.hid hz
  clear h hz
  go_enter Tryz.func38, Tryz.ntmps38
  go_wp2_with fail
  refine (oper1_any (b0 := w.heap.size) (HG.out.keep (by repeat (first | (with_reducible exact Below.refl _ _) | (with_reducible apply Below.drew) | ((with_reducible apply bAlloc); (focus first | (exact Nat.le_refl _) | (simp; done) | (simp; omega)))))) (List.mem_cons_self ..) 10 r (X) (Y) (HZ.out.le (by decide))).mono ?_
  rintro e w5 ⟨rfl, HK0⟩
  go_wp2_with fail
  go_end0
  exact ⟨rfl, HK0.out.drop⟩
set_option maxHeartbeats 3200000 in
set_option maxRecDepth 20000 in
theorem oper15_any {q : GK} {R : List (Nat × List Value)} {g : Gen} {w : World} (h : GenRel q R g w) (r X Y : Int) (hz : SzG g 890000) :
    Calls Tryz.prog 38 #[.pointer (some ⟨q.gb, 0, none⟩), .int .u8 15, .int .i64 r, .int .i64 X, .int .i64 Y] w fun e w' => e = .returned (.tuple #[]) ∧ Hid (GenRel q R (emitG (operG 15 r X Y) g) w') := by
  have HE : Hid (emitG (operG 15 r X Y) g = emitG [⟨11, r, X, Y, 0⟩] (g)) := (show _ = _ by simp [operG, emitG])
  rw [HE.out]
  have HG := Lib.hid (h.made [.pointer (some ⟨q.gb, 0, none⟩)] 91)
  have HZ := Lib.hid hz
  clear h hz
  go_enter Tryz.func38, Tryz.ntmps38
  go_wp2_with fail
  refine (oper1_any (b0 := w.heap.size) (HG.out.keep (by repeat (first | (with_reducible exact Below.refl _ _) | (with_reducible apply Below.drew) | ((with_reducible apply bAlloc); (focus first | (exact Nat.le_refl _) | (simp; done) | (simp; omega)))))) (List.mem_cons_self ..) 11 r (X) (Y) (HZ.out.le (by decide))).mono ?_
  rintro e w5 ⟨rfl, HK0⟩
  go_wp2_with fail
  go_end0
  exact ⟨rfl, HK0.out.drop⟩
set_option maxHeartbeats 3200000 in
set_option maxRecDepth 20000 in
theorem oper16_any {q : GK} {R : List (Nat × List Value)} {g : Gen} {w : World} (h : GenRel q R g w) (r X Y : Int) (hz : SzG g 890000) :
    Calls Tryz.prog 38 #[.pointer (some ⟨q.gb, 0, none⟩), .int .u8 16, .int .i64 r, .int .i64 X, .int .i64 Y] w fun e w' => e = .returned (.tuple #[]) ∧ Hid (GenRel q R (emitG (operG 16 r X Y) g) w') := by
  have HE : Hid (emitG (operG 16 r X Y) g = emitG [⟨12, r, X, Y, 0⟩] (g)) := (show _ = _ by simp [operG, emitG])
  rw [HE.out]
  have HG := Lib.hid (h.made [.pointer (some ⟨q.gb, 0, none⟩)] 91)
  have HZ := Lib.hid hz
  clear h hz
  go_enter Tryz.func38, Tryz.ntmps38
  go_wp2_with fail
  refine (oper1_any (b0 := w.heap.size) (HG.out.keep (by repeat (first | (with_reducible exact Below.refl _ _) | (with_reducible apply Below.drew) | ((with_reducible apply bAlloc); (focus first | (exact Nat.le_refl _) | (simp; done) | (simp; omega)))))) (List.mem_cons_self ..) 12 r (X) (Y) (HZ.out.le (by decide))).mono ?_
  rintro e w5 ⟨rfl, HK0⟩
  go_wp2_with fail
  go_end0
  exact ⟨rfl, HK0.out.drop⟩
set_option maxHeartbeats 3200000 in
set_option maxRecDepth 20000 in
theorem oper17_any {q : GK} {R : List (Nat × List Value)} {g : Gen} {w : World} (h : GenRel q R g w) (r X Y : Int) (hz : SzG g 890000) :
    Calls Tryz.prog 38 #[.pointer (some ⟨q.gb, 0, none⟩), .int .u8 17, .int .i64 r, .int .i64 X, .int .i64 Y] w fun e w' => e = .returned (.tuple #[]) ∧ Hid (GenRel q R (emitG (operG 17 r X Y) g) w') := by
  have HE : Hid (emitG (operG 17 r X Y) g = emitG [⟨12, r, 15, 0, 0⟩] (emitG [⟨12, 15, X, Y, 0⟩] (g))) := (show _ = _ by simp [operG, emitG])
  rw [HE.out]
  have HG := Lib.hid (h.made [.pointer (some ⟨q.gb, 0, none⟩)] 91)
  have HZ := Lib.hid hz
  clear h hz
  go_enter Tryz.func38, Tryz.ntmps38
  go_wp2_with fail
  refine (oper1_any (b0 := w.heap.size) (HG.out.keep (by repeat (first | (with_reducible exact Below.refl _ _) | (with_reducible apply Below.drew) | ((with_reducible apply bAlloc); (focus first | (exact Nat.le_refl _) | (simp; done) | (simp; omega)))))) (List.mem_cons_self ..) 12 15 (X) (Y) (HZ.out.le (by decide))).mono ?_
  rintro e w5 ⟨rfl, HK0⟩
  go_wp2_with fail
  refine (oper1_any (b0 := w.heap.size) HK0.out (List.mem_cons_self ..) 12 r (15) (0) ((HZ.out.emit _).le (by simp))).mono ?_
  rintro e w6 ⟨rfl, HK1⟩
  go_wp2_with fail
  go_end0
  exact ⟨rfl, HK1.out.drop⟩
set_option maxHeartbeats 3200000 in
set_option maxRecDepth 20000 in
theorem oper18_any {q : GK} {R : List (Nat × List Value)} {g : Gen} {w : World} (h : GenRel q R g w) (r X Y : Int) (hz : SzG g 890000) :
    Calls Tryz.prog 38 #[.pointer (some ⟨q.gb, 0, none⟩), .int .u8 18, .int .i64 r, .int .i64 X, .int .i64 Y] w fun e w' => e = .returned (.tuple #[]) ∧ Hid (GenRel q R (emitG (operG 18 r X Y) g) w') := by
  have HE : Hid (emitG (operG 18 r X Y) g = emitG [⟨13, r, X, Y, 0⟩] (g)) := (show _ = _ by simp [operG, emitG])
  rw [HE.out]
  have HG := Lib.hid (h.made [.pointer (some ⟨q.gb, 0, none⟩)] 91)
  have HZ := Lib.hid hz
  clear h hz
  go_enter Tryz.func38, Tryz.ntmps38
  go_wp2_with fail
  refine (oper1_any (b0 := w.heap.size) (HG.out.keep (by repeat (first | (with_reducible exact Below.refl _ _) | (with_reducible apply Below.drew) | ((with_reducible apply bAlloc); (focus first | (exact Nat.le_refl _) | (simp; done) | (simp; omega)))))) (List.mem_cons_self ..) 13 r (X) (Y) (HZ.out.le (by decide))).mono ?_
  rintro e w5 ⟨rfl, HK0⟩
  go_wp2_with fail
  go_end0
  exact ⟨rfl, HK0.out.drop⟩
set_option maxHeartbeats 3200000 in
set_option maxRecDepth 20000 in
theorem oper19_any {q : GK} {R : List (Nat × List Value)} {g : Gen} {w : World} (h : GenRel q R g w) (r X Y : Int) (hz : SzG g 890000) :
    Calls Tryz.prog 38 #[.pointer (some ⟨q.gb, 0, none⟩), .int .u8 19, .int .i64 r, .int .i64 X, .int .i64 Y] w fun e w' => e = .returned (.tuple #[]) ∧ Hid (GenRel q R (emitG (operG 19 r X Y) g) w') := by
  have HE : Hid (emitG (operG 19 r X Y) g = emitG [⟨12, r, 15, 0, 0⟩] (emitG [⟨13, 15, Y, X, 0⟩] (g))) := (show _ = _ by simp [operG, emitG])
  rw [HE.out]
  have HG := Lib.hid (h.made [.pointer (some ⟨q.gb, 0, none⟩)] 91)
  have HZ := Lib.hid hz
  clear h hz
  go_enter Tryz.func38, Tryz.ntmps38
  go_wp2_with fail
  refine (oper1_any (b0 := w.heap.size) (HG.out.keep (by repeat (first | (with_reducible exact Below.refl _ _) | (with_reducible apply Below.drew) | ((with_reducible apply bAlloc); (focus first | (exact Nat.le_refl _) | (simp; done) | (simp; omega)))))) (List.mem_cons_self ..) 13 15 (Y) (X) (HZ.out.le (by decide))).mono ?_
  rintro e w5 ⟨rfl, HK0⟩
  go_wp2_with fail
  refine (oper1_any (b0 := w.heap.size) HK0.out (List.mem_cons_self ..) 12 r (15) (0) ((HZ.out.emit _).le (by simp))).mono ?_
  rintro e w6 ⟨rfl, HK1⟩
  go_wp2_with fail
  go_end0
  exact ⟨rfl, HK1.out.drop⟩
set_option maxHeartbeats 3200000 in
set_option maxRecDepth 20000 in
theorem oper20_any {q : GK} {R : List (Nat × List Value)} {g : Gen} {w : World} (h : GenRel q R g w) (r X Y : Int) (hz : SzG g 890000) :
    Calls Tryz.prog 38 #[.pointer (some ⟨q.gb, 0, none⟩), .int .u8 20, .int .i64 r, .int .i64 X, .int .i64 Y] w fun e w' => e = .returned (.tuple #[]) ∧ Hid (GenRel q R (emitG (operG 20 r X Y) g) w') := by
  have HE : Hid (emitG (operG 20 r X Y) g = emitG [⟨13, r, Y, X, 0⟩] (g)) := (show _ = _ by simp [operG, emitG])
  rw [HE.out]
  have HG := Lib.hid (h.made [.pointer (some ⟨q.gb, 0, none⟩)] 91)
  have HZ := Lib.hid hz
  clear h hz
  go_enter Tryz.func38, Tryz.ntmps38
  go_wp2_with fail
  refine (oper1_any (b0 := w.heap.size) (HG.out.keep (by repeat (first | (with_reducible exact Below.refl _ _) | (with_reducible apply Below.drew) | ((with_reducible apply bAlloc); (focus first | (exact Nat.le_refl _) | (simp; done) | (simp; omega)))))) (List.mem_cons_self ..) 13 r (Y) (X) (HZ.out.le (by decide))).mono ?_
  rintro e w5 ⟨rfl, HK0⟩
  go_wp2_with fail
  go_end0
  exact ⟨rfl, HK0.out.drop⟩
set_option maxHeartbeats 3200000 in
set_option maxRecDepth 20000 in
theorem oper21_any {q : GK} {R : List (Nat × List Value)} {g : Gen} {w : World} (h : GenRel q R g w) (r X Y : Int) (hz : SzG g 890000) :
    Calls Tryz.prog 38 #[.pointer (some ⟨q.gb, 0, none⟩), .int .u8 21, .int .i64 r, .int .i64 X, .int .i64 Y] w fun e w' => e = .returned (.tuple #[]) ∧ Hid (GenRel q R (emitG (operG 21 r X Y) g) w') := by
  have HE : Hid (emitG (operG 21 r X Y) g = emitG [⟨12, r, 15, 0, 0⟩] (emitG [⟨13, 15, X, Y, 0⟩] (g))) := (show _ = _ by simp [operG, emitG])
  rw [HE.out]
  have HG := Lib.hid (h.made [.pointer (some ⟨q.gb, 0, none⟩)] 91)
  have HZ := Lib.hid hz
  clear h hz
  go_enter Tryz.func38, Tryz.ntmps38
  go_wp2_with fail
  refine (oper1_any (b0 := w.heap.size) (HG.out.keep (by repeat (first | (with_reducible exact Below.refl _ _) | (with_reducible apply Below.drew) | ((with_reducible apply bAlloc); (focus first | (exact Nat.le_refl _) | (simp; done) | (simp; omega)))))) (List.mem_cons_self ..) 13 15 (X) (Y) (HZ.out.le (by decide))).mono ?_
  rintro e w5 ⟨rfl, HK0⟩
  go_wp2_with fail
  refine (oper1_any (b0 := w.heap.size) HK0.out (List.mem_cons_self ..) 12 r (15) (0) ((HZ.out.emit _).le (by simp))).mono ?_
  rintro e w6 ⟨rfl, HK1⟩
  go_wp2_with fail
  go_end0
  exact ⟨rfl, HK1.out.drop⟩
set_option maxHeartbeats 3200000 in
set_option maxRecDepth 20000 in
theorem oper22_any {q : GK} {R : List (Nat × List Value)} {g : Gen} {w : World} (h : GenRel q R g w) (r X Y : Int) (hz : SzG g 890000) :
    Calls Tryz.prog 38 #[.pointer (some ⟨q.gb, 0, none⟩), .int .u8 22, .int .i64 r, .int .i64 X, .int .i64 Y] w fun e w' => e = .returned (.tuple #[]) ∧ Hid (GenRel q R (emitG (operG 22 r X Y) g) w') := by
  have HE : Hid (emitG (operG 22 r X Y) g = emitG [⟨12, r, 15, 0, 0⟩] (emitG [⟨8, 15, 15, 14, 0⟩] (emitG [⟨12, 14, Y, 0, 0⟩] (emitG [⟨12, 15, X, 0, 0⟩] (g))))) := (show _ = _ by simp [operG, emitG])
  rw [HE.out]
  have HG := Lib.hid (h.made [.pointer (some ⟨q.gb, 0, none⟩)] 91)
  have HZ := Lib.hid hz
  clear h hz
  go_enter Tryz.func38, Tryz.ntmps38
  go_wp2_with fail
  refine (oper1_any (b0 := w.heap.size) (HG.out.keep (by repeat (first | (with_reducible exact Below.refl _ _) | (with_reducible apply Below.drew) | ((with_reducible apply bAlloc); (focus first | (exact Nat.le_refl _) | (simp; done) | (simp; omega)))))) (List.mem_cons_self ..) 12 15 (X) (0) (HZ.out.le (by decide))).mono ?_
  rintro e w5 ⟨rfl, HK0⟩
  go_wp2_with fail
  refine (oper1_any (b0 := w.heap.size) HK0.out (List.mem_cons_self ..) 12 14 (Y) (0) ((HZ.out.emit _).le (by simp))).mono ?_
  rintro e w6 ⟨rfl, HK1⟩
  go_wp2_with fail
  refine (oper1_any (b0 := w.heap.size) HK1.out (List.mem_cons_self ..) 8 15 (15) (14) (((HZ.out.emit _).emit _).le (by simp))).mono ?_
  rintro e w7 ⟨rfl, HK2⟩
  go_wp2_with fail
  refine (oper1_any (b0 := w.heap.size) HK2.out (List.mem_cons_self ..) 12 r (15) (0) ((((HZ.out.emit _).emit _).emit _).le (by simp))).mono ?_
  rintro e w8 ⟨rfl, HK3⟩
  go_wp2_with fail
  go_end0
  exact ⟨rfl, HK3.out.drop⟩
set_option maxHeartbeats 3200000 in
set_option maxRecDepth 20000 in
theorem oper23_any {q : GK} {R : List (Nat × List Value)} {g : Gen} {w : World} (h : GenRel q R g w) (r X Y : Int) (hz : SzG g 890000) :
    Calls Tryz.prog 38 #[.pointer (some ⟨q.gb, 0, none⟩), .int .u8 23, .int .i64 r, .int .i64 X, .int .i64 Y] w fun e w' => e = .returned (.tuple #[]) ∧ Hid (GenRel q R (emitG (operG 23 r X Y) g) w') := by
  have HE : Hid (emitG (operG 23 r X Y) g = emitG [⟨12, r, 15, 0, 0⟩] (emitG [⟨12, 15, 15, 0, 0⟩] (emitG [⟨8, 15, X, Y, 0⟩] (g)))) := (show _ = _ by simp [operG, emitG])
  rw [HE.out]
  have HG := Lib.hid (h.made [.pointer (some ⟨q.gb, 0, none⟩)] 91)
  have HZ := Lib.hid hz
  clear h hz
  go_enter Tryz.func38, Tryz.ntmps38
  go_wp2_with fail
  refine (oper1_any (b0 := w.heap.size) (HG.out.keep (by repeat (first | (with_reducible exact Below.refl _ _) | (with_reducible apply Below.drew) | ((with_reducible apply bAlloc); (focus first | (exact Nat.le_refl _) | (simp; done) | (simp; omega)))))) (List.mem_cons_self ..) 8 15 (X) (Y) (HZ.out.le (by decide))).mono ?_
  rintro e w5 ⟨rfl, HK0⟩
  go_wp2_with fail
  refine (oper1_any (b0 := w.heap.size) HK0.out (List.mem_cons_self ..) 12 15 (15) (0) ((HZ.out.emit _).le (by simp))).mono ?_
  rintro e w6 ⟨rfl, HK1⟩
  go_wp2_with fail
  refine (oper1_any (b0 := w.heap.size) HK1.out (List.mem_cons_self ..) 12 r (15) (0) (((HZ.out.emit _).emit _).le (by simp))).mono ?_
  rintro e w7 ⟨rfl, HK2⟩
  go_wp2_with fail
  go_end0
  exact ⟨rfl, HK2.out.drop⟩
theorem oper_any {q : GK} {R : List (Nat × List Value)} {g : Gen} {w : World} (h : GenRel q R g w) (k : Nat) (hk : 6 ≤ k ∧ k ≤ 23) (r X Y : Int) (hz : SzG g 890000) :
    Calls Tryz.prog 38 #[.pointer (some ⟨q.gb, 0, none⟩), .int .u8 k, .int .i64 r, .int .i64 X, .int .i64 Y] w fun e w' => e = .returned (.tuple #[]) ∧ Hid (GenRel q R (emitG (operG k r X Y) g) w') := by
  obtain h1 : k = 6 ∨ k = 7 ∨ k = 8 ∨ k = 9 ∨ k = 10 ∨ k = 11 ∨ k = 12 ∨ k = 13 ∨ k = 14 ∨ k = 15 ∨ k = 16 ∨ k = 17 ∨ k = 18 ∨ k = 19 ∨ k = 20 ∨ k = 21 ∨ k = 22 ∨ k = 23 := by omega
  rcases h1 with rfl | rfl | rfl | rfl | rfl | rfl | rfl | rfl | rfl | rfl | rfl | rfl | rfl | rfl | rfl | rfl | rfl | rfl
  · exact oper6_any h r X Y hz
  · exact oper7_any h r X Y hz
  · exact oper8_any h r X Y hz
  · exact oper9_any h r X Y hz
  · exact oper10_any h r X Y hz
  · exact oper11_any h r X Y hz
  · exact oper12_any h r X Y hz
  · exact oper13_any h r X Y hz
  · exact oper14_any h r X Y hz
  · exact oper15_any h r X Y hz
  · exact oper16_any h r X Y hz
  · exact oper17_any h r X Y hz
  · exact oper18_any h r X Y hz
  · exact oper19_any h r X Y hz
  · exact oper20_any h r X Y hz
  · exact oper21_any h r X Y hz
  · exact oper22_any h r X Y hz
  · exact oper23_any h r X Y hz
set_option maxHeartbeats 1600000 in
set_option maxRecDepth 20000 in
theorem clo2_any {q : GK} {R : List (Nat × List Value)} {g : Gen} {w : World} (h : GenRel q R g w) {b0 : Nat} {b1 op : Nat} {dst x y imm : Int} {sym : ByteArray} {b2 : Nat} {X : Int} {b3 : Nat} {Y : Int}  (m0 : (b0, [.pointer (some ⟨q.gb, 0, none⟩)]) ∈ R) (m1 : (b1, [.int .u8 op, .int .i64 dst, .int .i64 x, .int .i64 y, .int .i64 imm, .string sym]) ∈ R) (m2 : (b2, [.int .i64 X]) ∈ R) (m3 : (b3, [.int .i64 Y]) ∈ R) (r : Int) (hb : 6 ≤ imm ∧ imm ≤ 23) (hz : SzG g 890000) :
    Calls Tryz.prog 37 #[.int .i64 r, .pointer (some ⟨b0, 0, none⟩), .pointer (some ⟨b1, 0, none⟩), .pointer (some ⟨b2, 0, none⟩), .pointer (some ⟨b3, 0, none⟩)] w fun e w' => e = .returned (.tuple #[]) ∧ Hid (GenRel q R (emitG (operG imm.toNat r X Y) g) w') := by
  have HG := Lib.hid h
  have hz1 := hz.1
  have r0 := h.at m0
  have l0 := r0.lt
  have a0_0 := r0.at 0 rfl
  clear r0
  have r1 := h.at m1
  have l1 := r1.lt
  have a1_4 := r1.at 4 rfl
  clear r1
  have r2 := h.at m2
  have l2 := r2.lt
  have a2_0 := r2.at 0 rfl
  clear r2
  have r3 := h.at m3
  have l3 := r3.lt
  have a3_0 := r3.at 0 rfl
  clear r3
  clear h
  obtain ⟨k, rfl⟩ := Int.eq_ofNat_of_zero_le (show 0 ≤ imm by omega)
  have hwr : IntKind.u8.wrap (k : Int) = k := by rw [IntKind.wrap_u8]; omega
  rw [Int.toNat_natCast]
  go_enter Tryz.func37, Tryz.ntmps37
  go_wp2_with fail
  refine (oper_any HG.out k (by omega) r X Y hz).mono ?_
  rintro e w5 ⟨rfl, HK⟩
  go_wp2_with fail
  go_end0
  exact ⟨rfl, HK.out⟩

end Go.Proofs.YtkcfbonchhidlaaGreatDoor
