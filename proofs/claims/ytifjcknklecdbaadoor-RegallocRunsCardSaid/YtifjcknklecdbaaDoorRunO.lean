/- The law's renamed function, by contract. -/
import Derived.Test.YtifjcknklecdbaaDoorMs38
import Derived.Test.YtifjcknklecdbaaDoorLivC
import Derived.Test.YtifjcknklecdbaaDoorMs20
import Derived.IntWalk
import Derived.LoopTactic
import Derived.Deep.RegionWith
import Derived.Laws.Rows
import Derived.Laws.Tables
set_option linter.unusedVariables false
set_option linter.unusedSimpArgs false
namespace Go.Proofs.YtifjcknklecdbaaDoor
open Go.RowKit

set_option maxHeartbeats 1600000 in
theorem num_any {E : List (List Int)} {P : Nat → Int × Int} {n : Int} {R : Nat} {pv : Value} {b : Nat} {w : World} (hR : R ≤ 64) (hv : VaG E R P n) (hp : PlRd w pv R P) (hc : w.cell? ⟨b, 0, none⟩ = some pv) (hb : b < w.heap.size) (r : Int) :
    Calls Tryd.prog 19 #[.int .i64 r, .pointer (some ⟨b, 0, none⟩)] w fun e w' => e = .returned (.int .i64 (numP R P r)) ∧ Below w.heap.size w w' := by
  obtain ⟨pp, pc, rfl, hx⟩ := hp
  by_cases h0 : r < 0
  · rw [show numP R P r = r from if_pos (.inl h0)]
    clear hx hv
    go_enter Tryd.func19, Tryd.ntmps19
    go_wp2_with fail
    go_ret
    exact ⟨rfl, Below.refl _ _⟩
  · by_cases h1 : (R : Int) ≤ r
    · rw [show numP R P r = r from if_pos (.inr h1)]
      clear hx hv
      go_enter Tryd.func19, Tryd.ntmps19
      go_wp2_with fail
      go_ret
      exact ⟨rfl, Below.refl _ _⟩
    · obtain ⟨k, rfl⟩ : ∃ k : Nat, r = (k : Int) := ⟨r.toNat, by omega⟩
      have hk : k < R := by omega
      have hkI : (k : Int) < (R : Int) := by omega
      obtain ⟨m, off, rfl, hm, c0, c1⟩ := hx k hk
      obtain ⟨e, -, -⟩ := numP_in hv hk
      have hkd := hv.kind k hk
      have hnb := hv.big
      have hnp := hv.pos
      rw [e]
      generalize (P k).1 = x at c0 hkd ⊢
      generalize (P k).2 = y at c1 hkd ⊢
      clear hx hv e
      by_cases hx0 : 0 < x
      · rw [if_pos hx0]
        have hw2 : IntKind.i64.wrap (x - 2) = x - 2 := IntWalk.i64_in _ ⟨by omega, by omega⟩
        clear hkd hnb hnp
        go_enter Tryd.func19, Tryd.ntmps19
        go_wp2_with fail
        go_ret
        exact ⟨rfl, bAlloc (Nat.le_refl _) (Below.refl _ _)⟩
      · rw [if_neg hx0]
        have hw2 : IntKind.i64.wrap (8 + y) = 8 + y := IntWalk.i64_in _ ⟨by omega, by omega⟩
        clear hkd hnb hnp
        go_enter Tryd.func19, Tryd.ntmps19
        go_wp2_with fail
        go_ret
        exact ⟨rfl, bAlloc (Nat.le_refl _) (Below.refl _ _)⟩

def zIns : Value := .agg #[.int .u8 0, .int .i64 0, .int .i64 0, .int .i64 0, .int .i64 0, .string ⟨#[]⟩]
theorem infoIns : (Tryd.prog.info? 59).map (fun i => (i.zero, i.size, i.bytes)) = some (some zIns, 6, 56) := by kernel_rfl
def zBlk : Value := .agg #[.slice none 0 0, .int .u8 0, .int .i64 0, .int .i64 0, .int .i64 0]
theorem infoBlk : (Tryd.prog.info? 52).map (fun i => (i.zero, i.size, i.bytes)) = some (some zBlk, 5, 56) := by kernel_rfl
theorem bRowN {B : Nat} {a w : World} {g : Nat} {cs : Array Value} (hg : B ≤ g) (h : Below B a w) : Below B a (w.setRow g cs) :=
  ⟨h.os, h.tape, h.output, by simpa [World.setRow] using h.size, fun k hk => by
    have := h.block k hk
    simp only [World.setRow, Array.getElem?_modify]
    rw [if_neg (by omega)]
    exact this⟩
def RenPost (nm : ByteArray) (av : Value) (n : Int) (D : List IBlk) (w : World) (e : Ending) (w' : World) : Prop := ∃ vb, e = .returned (.agg #[.string nm, .int .i64 (8 + n), av, vb]) ∧ BksAt w' vb D ∧ Below w.heap.size w w'

set_option maxHeartbeats 6400000 in
set_option maxRecDepth 40000 in
theorem renamed_any {E : List (List Int)} {P : Nat → Int × Int} {n : Int} {R : Nat} {pv av bv : Value} {bs : List IBlk} {w : World} (nm : ByteArray) (hR : R ≤ 64) (hv : VaG E R P n) (hp : PlRd w pv R P) (hB : BksAt w bv bs) (hl : bs.length ≤ 1000) (hcl : ∀ k, k < bs.length → (bs.getD k default).code.length ≤ 1000) (ha : ∃ p l c, av = .slice p l c) :
    Calls Tryd.prog 9 #[.agg #[.string nm, .int .i64 R, av, bv], .agg #[pv, .int .i64 n]] w (RenPost nm av n (bs.map (renK (numP R P))) w) := by
  obtain ⟨bp, bc, rfl⟩ := hB.shape
  obtain ⟨pp, pc, rfl⟩ := hp.shape
  obtain ⟨ap, an, ac, rfl⟩ := ha
  have hwn : IntKind.i64.wrap (8 + n) = 8 + n := IntWalk.i64_in _ ⟨by have := hv.pos; omega, by have := hv.big; omega⟩
  have hb0 : Below w.heap.size w (((w.alloc (.cells #[.string nm, .int .i64 R, .slice ap an ac, .slice bp bs.length bc] 25)).alloc (.cells #[.slice pp R pc, .int .i64 n] 33)).alloc (.cells #[.string ⟨#[]⟩, .int .i64 0, .slice none 0 0, .slice none 0 0] 25)) := bAlloc (by simp; omega) (bAlloc (by simp) (bAlloc (Nat.le_refl _) (Below.refl _ _)))
  have hz0 : (((w.alloc (.cells #[.string nm, .int .i64 R, .slice ap an ac, .slice bp bs.length bc] 25)).alloc (.cells #[.slice pp R pc, .int .i64 n] 33)).alloc (.cells #[.string ⟨#[]⟩, .int .i64 0, .slice none 0 0, .slice none 0 0] 25)).heap.size = w.heap.size + 3 := by simp
  have hc1 : (((w.alloc (.cells #[.string nm, .int .i64 R, .slice ap an ac, .slice bp bs.length bc] 25)).alloc (.cells #[.slice pp R pc, .int .i64 n] 33)).alloc (.cells #[.string ⟨#[]⟩, .int .i64 0, .slice none 0 0, .slice none 0 0] 25)).cell? ⟨w.heap.size + 1, 0, none⟩ = some (.slice pp R pc) := by simp [go_sem]
  have hr2 : (((w.alloc (.cells #[.string nm, .int .i64 R, .slice ap an ac, .slice bp bs.length bc] 25)).alloc (.cells #[.slice pp R pc, .int .i64 n] 33)).alloc (.cells #[.string ⟨#[]⟩, .int .i64 0, .slice none 0 0, .slice none 0 0] 25)).heap[w.heap.size + 2]? = some (.cells #[.string ⟨#[]⟩, .int .i64 0, .slice none 0 0, .slice none 0 0] 25) := by
    have := heap_alloc_new ((w.alloc (.cells #[.string nm, .int .i64 R, .slice ap an ac, .slice bp bs.length bc] 25)).alloc (.cells #[.slice pp R pc, .int .i64 n] 33)) (.cells #[.string ⟨#[]⟩, .int .i64 0, .slice none 0 0, .slice none 0 0] 25)
    simpa using this
  have hc3 : (((w.alloc (.cells #[.string nm, .int .i64 R, .slice ap an ac, .slice bp bs.length bc] 25)).alloc (.cells #[.slice pp R pc, .int .i64 n] 33)).alloc (.cells #[.string ⟨#[]⟩, .int .i64 0, .slice none 0 0, .slice none 0 0] 25)).cell? ⟨w.heap.size, 3, none⟩ = some (.slice bp bs.length bc) := by simp [go_sem]
  have HS := RnRel.begin (((w.alloc (.cells #[.string nm, .int .i64 R, .slice ap an ac, .slice bp bs.length bc] 25)).alloc (.cells #[.slice pp R pc, .int .i64 n] 33)).alloc (.cells #[.string ⟨#[]⟩, .int .i64 0, .slice none 0 0, .slice none 0 0] 25)) (.string nm) (.int .i64 (8 + n)) (.slice ap an ac) 25
  have HNUM : Hid (∀ (W : World), Below (w.heap.size + 3) (((w.alloc (.cells #[.string nm, .int .i64 R, .slice ap an ac, .slice bp bs.length bc] 25)).alloc (.cells #[.slice pp R pc, .int .i64 n] 33)).alloc (.cells #[.string ⟨#[]⟩, .int .i64 0, .slice none 0 0, .slice none 0 0] 25)) W → ∀ r, Calls Tryd.prog 19 #[.int .i64 r, .pointer (some ⟨w.heap.size + 1, 0, none⟩)] W fun e w' => e = .returned (.int .i64 (numP R P r)) ∧ Below W.heap.size W w') := (show ∀ W, _ from fun W hb r => num_any hR hv ((hp.below hb0 (Nat.le_refl _)).below hb (by rw [hz0]; exact Nat.le_refl _)) ((hb.cell (p := ⟨w.heap.size + 1, 0, none⟩) (by show w.heap.size + 1 < _; omega)).trans hc1) (by have := hb.size; omega) r)
  have HBK := Lib.hid (fun (W : World) (hb : Below (w.heap.size + 3) (((w.alloc (.cells #[.string nm, .int .i64 R, .slice ap an ac, .slice bp bs.length bc] 25)).alloc (.cells #[.slice pp R pc, .int .i64 n] 33)).alloc (.cells #[.string ⟨#[]⟩, .int .i64 0, .slice none 0 0, .slice none 0 0] 25)) W) => (hB.below hb0 (Nat.le_refl _)).below hb (by rw [hz0]; exact Nat.le_refl _))
  have HB0 := Lib.hid hb0
  have HZ0 := Lib.hid hz0
  have HR2 := Lib.hid hr2
  have HC3 := Lib.hid hc3
  have HCL := Lib.hid hcl
  generalize hnum : numP R P = num at HNUM ⊢
  clear hb0 hc1 hr2 hB hp hv hc3 hcl hnum E
  rw [hz0] at HS
  clear hz0
  have HS1 := Lib.hid HS
  clear HS
  go_enter Tryd.func9, Tryd.ntmps9
  go_upto_region 5 with fail
  generalize ((((w.alloc (.cells #[.string nm, .int .i64 R, .slice ap an ac, .slice bp bs.length bc] 25)).alloc (.cells #[.slice pp R pc, .int .i64 n] 33)).alloc (.cells #[.string ⟨#[]⟩, .int .i64 0, .slice none 0 0, .slice none 0 0] 25)).alloc (.cells #[.string nm, .int .i64 (8 + n), .slice ap an ac, .slice none 0 0] 25)) = w1 at HS1 ⊢
  generalize (((w.alloc (.cells #[.string nm, .int .i64 R, .slice ap an ac, .slice bp bs.length bc] 25)).alloc (.cells #[.slice pp R pc, .int .i64 n] 33)).alloc (.cells #[.string ⟨#[]⟩, .int .i64 0, .slice none 0 0, .slice none 0 0] 25)) = W0 at HS1 HNUM HBK HB0 HZ0 HR2 HC3
  have c3 := (HS1.out.bel.1.cell (p := ⟨w.heap.size, 3, none⟩) (by show w.heap.size < _; omega)).trans HC3.out
  have l3 : w.heap.size < w1.heap.size := by have := HS1.out.bel.2; omega
  go_wp2_with fail
  go_loopw [25] (fun s25 wx => ∃ k : Nat, s25 = .int .i64 k ∧ k ≤ bs.length ∧ Hid (RnRel W0 (w.heap.size + 3) [.string nm, .int .i64 (8 + n), .slice ap an ac] [] ((bs.map (renK num)).take k) wx)) (fun s25 _ => bs.length - (intOf s25).toNat)
  case atStart => exact ⟨0, rfl, Nat.zero_le _, HS1.out⟩
  case round =>
    clear HS1 c3 l3 w1
    obtain ⟨k, rfl, hk, HE⟩ := hrel
    obtain ⟨w5, rfl⟩ : ∃ W : World, W = wr := ⟨_, rfl⟩
    by_cases hlt : k < bs.length
    · skip
      have hltI : (k : Int) < bs.length := by omega
      obtain ⟨bp', bc', e, hbk⟩ := HBK.out W0 (Below.refl _ _)
      cases e
      obtain ⟨m, off, cp, cc, rfl, hm, hin, z0, z1, z2, z3, z4⟩ := hbk k hlt
      have hbl := HE.out.bel.1
      have hmB : m < w.heap.size + 3 := by rw [← HZ0.out]; exact hm
      have g0 := (hbl.cell (p := ⟨m, off + k * 5, none⟩) hmB).trans z0
      have g1 := (hbl.cell (p := ⟨m, off + k * 5 + 1, none⟩) hmB).trans z1
      have g2 := (hbl.cell (p := ⟨m, off + k * 5 + 2, none⟩) hmB).trans z2
      have g3 := (hbl.cell (p := ⟨m, off + k * 5 + 3, none⟩) hmB).trans z3
      have g4 := (hbl.cell (p := ⟨m, off + k * 5 + 4, none⟩) hmB).trans z4
      have hm5 : m < w5.heap.size := Nat.lt_of_lt_of_le hm hbl.size
      have HIN := Lib.hid (fun W (hb : Below (w.heap.size + 3) W0 W) => hin.below hb (by rw [HZ0.out]; exact Nat.le_refl _))
      have hcl := HCL.out k hlt
      generalize hbe : bs.getD k default = b at g0 g1 g2 g3 g4 HIN hcl
      have HBE := Lib.hid hbe
      obtain ⟨code, kd, bx, tg, el⟩ := b
      clear hbk hin hbl hmB hm z0 z1 z2 z3 z4 hbe
      go_upto_region 10 with fail
      have hO := (HE.out.made [.slice cp code.length cc, .int .u8 kd, .int .i64 bx, .int .i64 tg, .int .i64 el] 52).open [.int .u8 kd, .int .i64 bx, .int .i64 tg, .int .i64 el] 52
      have he1 : (w5.alloc (.cells #[.slice cp code.length cc, .int .u8 kd, .int .i64 bx, .int .i64 tg, .int .i64 el] 52)).heap.size = w5.heap.size + 1 := by simp
      change OpRel _ _ _ _ _ (w5.alloc (.cells #[.slice cp code.length cc, .int .u8 kd, .int .i64 bx, .int .i64 tg, .int .i64 el] 52)).heap.size _ _ ((w5.alloc (.cells #[.slice cp code.length cc, .int .u8 kd, .int .i64 bx, .int .i64 tg, .int .i64 el] 52)).alloc (.cells #[.slice none 0 0, .int .u8 kd, .int .i64 bx, .int .i64 tg, .int .i64 el] 52)) at hO
      rw [he1] at hO
      generalize (w5.alloc (.cells #[.slice cp code.length cc, .int .u8 kd, .int .i64 bx, .int .i64 tg, .int .i64 el] 52)).alloc (.cells #[.slice none 0 0, .int .u8 kd, .int .i64 bx, .int .i64 tg, .int .i64 el] 52) = w6 at hO ⊢
      generalize w5.heap.size = bb at hO ⊢
      have r0 := (hO.at (b := bb) List.mem_cons_self).at 0 rfl
      have rl := (hO.at (b := bb) List.mem_cons_self).lt
      have HO := Lib.hid hO
      have hclen : code.length ≤ 1000 := hcl
      clear hO he1 g0 g1 g2 g3 g4 hm5 HE hcl
      go_wp2_with fail
      go_loopw [34] (fun s34 wx => ∃ j : Nat, s34 = .int .i64 j ∧ j ≤ code.length ∧ Hid (OpRel W0 (w.heap.size + 3) [.string nm, .int .i64 (8 + n), .slice ap an ac] [(bb, [.slice cp code.length cc, .int .u8 kd, .int .i64 bx, .int .i64 tg, .int .i64 el])] ((bs.map (renK num)).take k) (bb + 1) [.int .u8 kd, .int .i64 bx, .int .i64 tg, .int .i64 el] ((code.map (renI num)).take j) wx)) (fun s34 _ => code.length - (intOf s34).toNat)
      case atStart => exact ⟨0, rfl, Nat.zero_le _, HO.out⟩
      case round =>
        clear HO r0 rl w6
        obtain ⟨j, rfl, hj, HI⟩ := hrel
        obtain ⟨w7, rfl⟩ : ∃ W : World, W = wr := ⟨_, rfl⟩
        by_cases hjl : j < code.length
        · skip
          have hjI : (j : Int) < code.length := by omega
          obtain ⟨cp', cc', e, hci⟩ := HIN.out w7 HI.out.bel.1
          cases e
          obtain ⟨m3, off3, rfl, hm3, g0, g1, g2, g3, g4, g5⟩ := hci j hjl
          clear hci
          have HT : Hid ((code.map (renI num)).take (j + 1) = (code.map (renI num)).take j ++ [renI num (code.getD j default)]) := (show _ = _ by
            rw [List.take_add_one, List.getElem?_map, List.getElem?_eq_getElem hjl, List.getD_eq_getElem?_getD, List.getElem?_eq_getElem hjl]
            rfl)
          generalize hie : code.getD j default = i at g0 g1 g2 g3 g4 g5 HT
          clear hie
          obtain ⟨op, dst, x, y, imm, sym⟩ := i
          go_upto_region 13 with fail
          have hb8 := InsBox.made w7 ⟨op, dst, x, y, imm, sym⟩ 59
          change InsBox _ _ _ (w7.alloc (.cells #[.int .u8 op, .int .i64 dst, .int .i64 x, .int .i64 y, .int .i64 imm, .string sym] 59)) at hb8
          generalize w7.alloc (.cells #[.int .u8 op, .int .i64 dst, .int .i64 x, .int .i64 y, .int .i64 imm, .string sym] 59) = w8 at hb8 ⊢
          generalize hib : w7.heap.size = ib at hb8 ⊢
          have HX8 : Hid (InsBox w7 ib ⟨op, dst, x, y, imm, sym⟩ w8) := (show InsBox _ _ _ _ from hb8)
          have HIB := Lib.hid hib
          clear hib hb8 g0 g1 g2 g3 g4 g5 hm3
          obtain ⟨⟨yl, y0, y1, y2⟩, ⟨y3, y4, y5⟩, z1, z2, z3⟩ := HX8.out.cells
          have HD := Lib.hid (defines_any op dst x y imm sym w8)
          go_wp2_with fail
          refine HD.out.mono ?_
          rintro e w9 ⟨rfl, hb9⟩
          have HX9 := Lib.hid (HX8.out.keep hb9)
          clear HD hb9 HX8 yl y0 y1 y2 y3 y4 y5 z1 z2 z3 w8
          obtain ⟨⟨yl, y0, y1, y2⟩, ⟨y3, y4, y5⟩, z1, z2, z3⟩ := HX9.out.cells
          cases hd : hasDef op with
          | false =>
            obtain ⟨w11, rfl⟩ : ∃ W : World, W = w9 := ⟨_, rfl⟩
            have HX11 := HX9
            clear HX9
            by_cases h1 : op = 2 ∨ op = 4 ∨ op = 6 ∨ op = 8 ∨ op = 10
            · have hu : usesI ⟨op, dst, x, y, imm, sym⟩ = [x] := by unfold usesI; rw [if_pos h1]
              have HU := Lib.hid (uses_any op dst x y imm sym w11)
              rw [hu] at HU
              go_wp2_with fail
              refine HU.out.mono ?_
              rintro e w12 ⟨v, rfl, hrd, -, hb12⟩
              obtain ⟨up, uc, hvv, -⟩ := hrd
              obtain rfl : v = .slice up 1 uc := hvv
              have HX12 := Lib.hid (HX11.out.keep hb12)
              clear HU hb12 HX11 yl y0 y1 y2 y3 y4 y5 z1 z2 z3 w11
              obtain ⟨⟨yl, y0, y1, y2⟩, ⟨y3, y4, y5⟩, z1, z2, z3⟩ := HX12.out.cells
              go_wp2_with fail
              refine (HNUM.out w12 (HI.out.bel.1.trans (HX12.out.bel.mono HI.out.bel.2)) _).mono ?_
              rintro e w13 ⟨rfl, hb13⟩
              have HX13 := Lib.hid (HX12.out.keep hb13)
              clear hb13 HX12 yl y0 y1 y2 y3 y4 y5 z1 z2 z3 w12
              obtain ⟨⟨yl, y0, y1, y2⟩, ⟨y3, y4, y5⟩, z1, z2, z3⟩ := HX13.out.cells
              have HX14 := Lib.hid (HX13.out.setX (num x))
              go_upto_region 22 with fail
              generalize w13.setCell ⟨ib, 2, none⟩ (.int .i64 (num x)) = w14 at HX14 ⊢
              clear HX13 yl y0 y1 y2 y3 y4 y5 z1 z2 z3 w13
              obtain ⟨⟨yl, y0, y1, y2⟩, ⟨y3, y4, y5⟩, z1, z2, z3⟩ := HX14.out.cells
              obtain ⟨col, cv, vb, ev, ho⟩ := HI.out.keep HX14.out.bel
              obtain ⟨ep, ec, rfl⟩ := ho.en.shape
              have q0 := ho.c.at 0 rfl
              have ql := ho.c.lt
              have HOW := Lib.hid (fun o : Obj => (ho.keep (bAlloc (o := o) (Nat.le_refl _) (Below.refl _ _))).en.1)
              have HHO := Lib.hid ho
              clear ho
              have hej : ((code.map (renI num)).take j).length = j := by rw [List.length_take, List.length_map]; omega
              generalize (code.map (renI num)).take j = EE at hej q0 HOW HHO HT
              rw [hej] at q0 HOW HHO
              clear HI yl y0 y1 y2 y3 y4 y5 z1 z2 z3
              obtain ⟨⟨yl, y0, y1, y2⟩, ⟨y3, y4, y5⟩, z1, z2, z3⟩ := HX14.out.cells
              go_wp2_with (first | (at_builtin; refine wpList_append_els rfl _ _ 50 59 zIns 6 56 rfl Tryd.underlying50 infoIns rfl (by decide) (by decide) (.slice ep j ec) j (insL EE) rfl (HOW.out _) w14.heap.size 1 [.int .u8 op, .int .i64 dst, .int .i64 (num x), .int .i64 y, .int .i64 imm, .string sym] rfl rfl (RowC2.made w14 [.int .u8 op, .int .i64 dst, .int .i64 (num x), .int .i64 y, .int .i64 imm, .string sym] 59).2 (by simp [Value.oneCell']) (by omega) ?_))
              intro p c' w15 hO hg hd'
              have hd2 : (Value.slice p (j + 1) c').ownBlock = (Value.slice ep j ec).ownBlock ∨ ∀ q, (Value.slice p (j + 1) c').ownBlock = some q → (w14.alloc (.cells #[.int .u8 op, .int .i64 dst, .int .i64 (num x), .int .i64 y, .int .i64 imm, .string sym] 59)).heap.size ≤ q := by
                rcases hd' with h | h
                · exact .inl h
                · exact .inr fun q hq => by have h3 := h q hq; simp at h3 ⊢; omega
              obtain ⟨⟨c7, f7, l7⟩, hK⟩ := HHO.out.add (i := ⟨op, dst, num x, y, imm, sym⟩) (bAlloc (o := .cells #[.int .u8 op, .int .i64 dst, .int .i64 (num x), .int .i64 y, .int .i64 imm, .string sym] 59) (Nat.le_refl _) (Below.refl _ _)) hg (by rw [hej]; exact hO) hd2
              have HK := Lib.hid hK
              clear hK hO hg hd' hd2 q0 ql HOW HHO HX14 yl y0 y1 y2 y3 y4 y5 z1 z2 z3
              go_wp2_with fail
              have hu0 : usesI ⟨op, dst, x, y, imm, sym⟩ = [x] := by unfold usesI; rw [if_pos h1]
              have h2' : (op = 3 ∨ op = 5 ∨ op = 7) = False := eq_false (by omega)
              have hren : renI num ⟨op, dst, x, y, imm, sym⟩ = ⟨op, dst, num x, y, imm, sym⟩ := by simp [renI, hd, hu0, h2']
              go_roundw
              case rel =>
                refine ⟨j + 1, by go_num, by omega, ?_⟩
                rw [HT.out, hren]
                exact HK
              case measure => simp [intOf]; omega
            · by_cases h2 : op = 3 ∨ op = 5 ∨ op = 7
              · have hu : usesI ⟨op, dst, x, y, imm, sym⟩ = [x, y] := by unfold usesI; rw [if_neg h1, if_pos h2]
                have HU := Lib.hid (uses_any op dst x y imm sym w11)
                rw [hu] at HU
                go_wp2_with fail
                refine HU.out.mono ?_
                rintro e w12 ⟨v, rfl, hrd, -, hb12⟩
                obtain ⟨up, uc, hvv, -⟩ := hrd
                obtain rfl : v = .slice up 2 uc := hvv
                have HX12 := Lib.hid (HX11.out.keep hb12)
                clear HU hb12 HX11 yl y0 y1 y2 y3 y4 y5 z1 z2 z3 w11
                obtain ⟨⟨yl, y0, y1, y2⟩, ⟨y3, y4, y5⟩, z1, z2, z3⟩ := HX12.out.cells
                go_upto_region 19 with fail
                have HB12 := Lib.hid (HI.out.bel.1.trans (HX12.out.bel.mono HI.out.bel.2))
                go_region_with (first | (go_at_call 19; refine (HNUM.out w13 HB13.out _).mono ?_; rintro e w14 ⟨rfl, hb14⟩; have HX14 := Lib.hid (HX13.out.keep hb14); obtain ⟨⟨yl', ya', yb', yc'⟩, ⟨yd', ye', yf'⟩, za', zb', zc'⟩ := HX14.out.cells; clear hb14) | (go_at_call 19; refine (HNUM.out w12.drew (HB12.out.trans (Below.drew (Below.refl _ _))) _).mono ?_; rintro e w13 ⟨rfl, hb13⟩; have HX13 := Lib.hid (HX12.out.keep ((Below.drew (Below.refl _ _)).trans hb13)); have HB13 := Lib.hid (HI.out.bel.1.trans (HX13.out.bel.mono HI.out.bel.2)); obtain ⟨⟨yl2, ya, yb, yc⟩, ⟨yd, ye, yf⟩, za, zb, zc⟩ := HX13.out.cells; clear hb13))
                all_goals (
                  have HX16 := Lib.hid ((HX14.out.setX (num x)).setY (num y))
                  generalize (w14.setCell ⟨ib, 2, none⟩ (.int .i64 (num x))).setCell ⟨ib, 3, none⟩ (.int .i64 (num y)) = w16 at HX16 ⊢
                  clear HX12 HX13 HX14 HB12 HB13 yl y0 y1 y2 y3 y4 y5 z1 z2 z3 yl2 ya yb yc yd ye yf za zb zc yl' ya' yb' yc' yd' ye' yf' za' zb' zc' w12 w13 w14
                  obtain ⟨⟨yl, y0, y1, y2⟩, ⟨y3, y4, y5⟩, z1, z2, z3⟩ := HX16.out.cells
                  go_upto_region 22 with fail
                  obtain ⟨col, cv, vb, ev, ho⟩ := HI.out.keep HX16.out.bel
                  obtain ⟨ep, ec, rfl⟩ := ho.en.shape
                  have q0 := ho.c.at 0 rfl
                  have ql := ho.c.lt
                  have HOW := Lib.hid (fun o : Obj => (ho.keep (bAlloc (o := o) (Nat.le_refl _) (Below.refl _ _))).en.1)
                  have HHO := Lib.hid ho
                  clear ho
                  have hej : ((code.map (renI num)).take j).length = j := by rw [List.length_take, List.length_map]; omega
                  generalize (code.map (renI num)).take j = EE at hej q0 HOW HHO HT
                  rw [hej] at q0 HOW HHO
                  clear HI yl y0 y1 y2 y3 y4 y5 z1 z2 z3
                  obtain ⟨⟨yl, y0, y1, y2⟩, ⟨y3, y4, y5⟩, z1, z2, z3⟩ := HX16.out.cells
                  go_wp2_with (first | (at_builtin; refine wpList_append_els rfl _ _ 50 59 zIns 6 56 rfl Tryd.underlying50 infoIns rfl (by decide) (by decide) (.slice ep j ec) j (insL EE) rfl (HOW.out _) w16.heap.size 1 [.int .u8 op, .int .i64 dst, .int .i64 (num x), .int .i64 (num y), .int .i64 imm, .string sym] rfl rfl (RowC2.made w16 [.int .u8 op, .int .i64 dst, .int .i64 (num x), .int .i64 (num y), .int .i64 imm, .string sym] 59).2 (by simp [Value.oneCell']) (by omega) ?_))
                  intro p c' w15 hO hg hd'
                  have hd2 : (Value.slice p (j + 1) c').ownBlock = (Value.slice ep j ec).ownBlock ∨ ∀ q, (Value.slice p (j + 1) c').ownBlock = some q → (w16.alloc (.cells #[.int .u8 op, .int .i64 dst, .int .i64 (num x), .int .i64 (num y), .int .i64 imm, .string sym] 59)).heap.size ≤ q := by
                    rcases hd' with h | h
                    · exact .inl h
                    · exact .inr fun q hq => by have h3 := h q hq; simp at h3 ⊢; omega
                  obtain ⟨⟨c7, f7, l7⟩, hK⟩ := HHO.out.add (i := ⟨op, dst, num x, num y, imm, sym⟩) (bAlloc (o := .cells #[.int .u8 op, .int .i64 dst, .int .i64 (num x), .int .i64 (num y), .int .i64 imm, .string sym] 59) (Nat.le_refl _) (Below.refl _ _)) hg (by rw [hej]; exact hO) hd2
                  have HK := Lib.hid hK
                  clear hK hO hg hd' hd2 q0 ql HOW HHO HX16 yl y0 y1 y2 y3 y4 y5 z1 z2 z3
                  go_wp2_with fail
                  have hu0 : usesI ⟨op, dst, x, y, imm, sym⟩ = [x, y] := by unfold usesI; rw [if_neg h1, if_pos h2]
                  have h2' : (op = 3 ∨ op = 5 ∨ op = 7) = True := eq_true h2
                  have hren : renI num ⟨op, dst, x, y, imm, sym⟩ = ⟨op, dst, num x, num y, imm, sym⟩ := by simp [renI, hd, hu0, h2']
                  go_roundw
                  case rel =>
                    refine ⟨j + 1, by go_num, by omega, ?_⟩
                    rw [HT.out, hren]
                    exact HK
                  case measure => simp [intOf]; omega)
              · have hu : usesI ⟨op, dst, x, y, imm, sym⟩ = [] := by unfold usesI; rw [if_neg h1, if_neg h2]
                have HU := Lib.hid (uses_any op dst x y imm sym w11)
                rw [hu] at HU
                go_wp2_with fail
                refine HU.out.mono ?_
                rintro e w12 ⟨v, rfl, hrd, -, hb12⟩
                obtain ⟨up, uc, hvv, -⟩ := hrd
                obtain rfl : v = .slice up 0 uc := hvv
                have HX12 := Lib.hid (HX11.out.keep hb12)
                clear HU hb12 HX11 yl y0 y1 y2 y3 y4 y5 z1 z2 z3 w11
                obtain ⟨⟨yl, y0, y1, y2⟩, ⟨y3, y4, y5⟩, z1, z2, z3⟩ := HX12.out.cells
                go_upto_region 22 with fail
                obtain ⟨col, cv, vb, ev, ho⟩ := HI.out.keep HX12.out.bel
                obtain ⟨ep, ec, rfl⟩ := ho.en.shape
                have q0 := ho.c.at 0 rfl
                have ql := ho.c.lt
                have HOW := Lib.hid (fun o : Obj => (ho.keep (bAlloc (o := o) (Nat.le_refl _) (Below.refl _ _))).en.1)
                have HHO := Lib.hid ho
                clear ho
                have hej : ((code.map (renI num)).take j).length = j := by rw [List.length_take, List.length_map]; omega
                generalize (code.map (renI num)).take j = EE at hej q0 HOW HHO HT
                rw [hej] at q0 HOW HHO
                clear HI yl y0 y1 y2 y3 y4 y5 z1 z2 z3
                obtain ⟨⟨yl, y0, y1, y2⟩, ⟨y3, y4, y5⟩, z1, z2, z3⟩ := HX12.out.cells
                go_wp2_with (first | (at_builtin; refine wpList_append_els rfl _ _ 50 59 zIns 6 56 rfl Tryd.underlying50 infoIns rfl (by decide) (by decide) (.slice ep j ec) j (insL EE) rfl (HOW.out _) w12.heap.size 1 [.int .u8 op, .int .i64 dst, .int .i64 x, .int .i64 y, .int .i64 imm, .string sym] rfl rfl (RowC2.made w12 [.int .u8 op, .int .i64 dst, .int .i64 x, .int .i64 y, .int .i64 imm, .string sym] 59).2 (by simp [Value.oneCell']) (by omega) ?_))
                intro p c' w15 hO hg hd'
                have hd2 : (Value.slice p (j + 1) c').ownBlock = (Value.slice ep j ec).ownBlock ∨ ∀ q, (Value.slice p (j + 1) c').ownBlock = some q → (w12.alloc (.cells #[.int .u8 op, .int .i64 dst, .int .i64 x, .int .i64 y, .int .i64 imm, .string sym] 59)).heap.size ≤ q := by
                  rcases hd' with h | h
                  · exact .inl h
                  · exact .inr fun q hq => by have h3 := h q hq; simp at h3 ⊢; omega
                obtain ⟨⟨c7, f7, l7⟩, hK⟩ := HHO.out.add (i := ⟨op, dst, x, y, imm, sym⟩) (bAlloc (o := .cells #[.int .u8 op, .int .i64 dst, .int .i64 x, .int .i64 y, .int .i64 imm, .string sym] 59) (Nat.le_refl _) (Below.refl _ _)) hg (by rw [hej]; exact hO) hd2
                have HK := Lib.hid hK
                clear hK hO hg hd' hd2 q0 ql HOW HHO HX12 yl y0 y1 y2 y3 y4 y5 z1 z2 z3
                go_wp2_with fail
                have hu0 : usesI ⟨op, dst, x, y, imm, sym⟩ = [] := by unfold usesI; rw [if_neg h1, if_neg h2]
                have h2' : (op = 3 ∨ op = 5 ∨ op = 7) = False := eq_false (by omega)
                have hren : renI num ⟨op, dst, x, y, imm, sym⟩ = ⟨op, dst, x, y, imm, sym⟩ := by simp [renI, hd, hu0, h2']
                go_roundw
                case rel =>
                  refine ⟨j + 1, by go_num, by omega, ?_⟩
                  rw [HT.out, hren]
                  exact HK
                case measure => simp [intOf]; omega
          | true =>
            skip
            go_wp2_with fail
            refine (HNUM.out w9 (HI.out.bel.1.trans (HX9.out.bel.mono HI.out.bel.2)) _).mono ?_
            rintro e w10 ⟨rfl, hb10⟩
            have HX10 := Lib.hid (HX9.out.keep hb10)
            clear hb10 HX9 yl y0 y1 y2 y3 y4 y5 z1 z2 z3 w9
            obtain ⟨⟨yl, y0, y1, y2⟩, ⟨y3, y4, y5⟩, z1, z2, z3⟩ := HX10.out.cells
            have HX11 := Lib.hid (HX10.out.setDst (num dst))
            go_wp2_with fail
            generalize w10.setCell ⟨ib, 1, none⟩ (.int .i64 (num dst)) = w11 at HX11 ⊢
            clear HX10 yl y0 y1 y2 y3 y4 y5 z1 z2 z3 w10
            obtain ⟨⟨yl, y0, y1, y2⟩, ⟨y3, y4, y5⟩, z1, z2, z3⟩ := HX11.out.cells
            by_cases h1 : op = 2 ∨ op = 4 ∨ op = 6 ∨ op = 8 ∨ op = 10
            · have hu : usesI ⟨op, (num dst), x, y, imm, sym⟩ = [x] := by unfold usesI; rw [if_pos h1]
              have HU := Lib.hid (uses_any op (num dst) x y imm sym w11)
              rw [hu] at HU
              skip
              refine HU.out.mono ?_
              rintro e w12 ⟨v, rfl, hrd, -, hb12⟩
              obtain ⟨up, uc, hvv, -⟩ := hrd
              obtain rfl : v = .slice up 1 uc := hvv
              have HX12 := Lib.hid (HX11.out.keep hb12)
              clear HU hb12 HX11 yl y0 y1 y2 y3 y4 y5 z1 z2 z3 w11
              obtain ⟨⟨yl, y0, y1, y2⟩, ⟨y3, y4, y5⟩, z1, z2, z3⟩ := HX12.out.cells
              go_wp2_with fail
              refine (HNUM.out w12 (HI.out.bel.1.trans (HX12.out.bel.mono HI.out.bel.2)) _).mono ?_
              rintro e w13 ⟨rfl, hb13⟩
              have HX13 := Lib.hid (HX12.out.keep hb13)
              clear hb13 HX12 yl y0 y1 y2 y3 y4 y5 z1 z2 z3 w12
              obtain ⟨⟨yl, y0, y1, y2⟩, ⟨y3, y4, y5⟩, z1, z2, z3⟩ := HX13.out.cells
              have HX14 := Lib.hid (HX13.out.setX (num x))
              go_upto_region 22 with fail
              generalize w13.setCell ⟨ib, 2, none⟩ (.int .i64 (num x)) = w14 at HX14 ⊢
              clear HX13 yl y0 y1 y2 y3 y4 y5 z1 z2 z3 w13
              obtain ⟨⟨yl, y0, y1, y2⟩, ⟨y3, y4, y5⟩, z1, z2, z3⟩ := HX14.out.cells
              obtain ⟨col, cv, vb, ev, ho⟩ := HI.out.keep HX14.out.bel
              obtain ⟨ep, ec, rfl⟩ := ho.en.shape
              have q0 := ho.c.at 0 rfl
              have ql := ho.c.lt
              have HOW := Lib.hid (fun o : Obj => (ho.keep (bAlloc (o := o) (Nat.le_refl _) (Below.refl _ _))).en.1)
              have HHO := Lib.hid ho
              clear ho
              have hej : ((code.map (renI num)).take j).length = j := by rw [List.length_take, List.length_map]; omega
              generalize (code.map (renI num)).take j = EE at hej q0 HOW HHO HT
              rw [hej] at q0 HOW HHO
              clear HI yl y0 y1 y2 y3 y4 y5 z1 z2 z3
              obtain ⟨⟨yl, y0, y1, y2⟩, ⟨y3, y4, y5⟩, z1, z2, z3⟩ := HX14.out.cells
              go_wp2_with (first | (at_builtin; refine wpList_append_els rfl _ _ 50 59 zIns 6 56 rfl Tryd.underlying50 infoIns rfl (by decide) (by decide) (.slice ep j ec) j (insL EE) rfl (HOW.out _) w14.heap.size 1 [.int .u8 op, .int .i64 (num dst), .int .i64 (num x), .int .i64 y, .int .i64 imm, .string sym] rfl rfl (RowC2.made w14 [.int .u8 op, .int .i64 (num dst), .int .i64 (num x), .int .i64 y, .int .i64 imm, .string sym] 59).2 (by simp [Value.oneCell']) (by omega) ?_))
              intro p c' w15 hO hg hd'
              have hd2 : (Value.slice p (j + 1) c').ownBlock = (Value.slice ep j ec).ownBlock ∨ ∀ q, (Value.slice p (j + 1) c').ownBlock = some q → (w14.alloc (.cells #[.int .u8 op, .int .i64 (num dst), .int .i64 (num x), .int .i64 y, .int .i64 imm, .string sym] 59)).heap.size ≤ q := by
                rcases hd' with h | h
                · exact .inl h
                · exact .inr fun q hq => by have h3 := h q hq; simp at h3 ⊢; omega
              obtain ⟨⟨c7, f7, l7⟩, hK⟩ := HHO.out.add (i := ⟨op, (num dst), num x, y, imm, sym⟩) (bAlloc (o := .cells #[.int .u8 op, .int .i64 (num dst), .int .i64 (num x), .int .i64 y, .int .i64 imm, .string sym] 59) (Nat.le_refl _) (Below.refl _ _)) hg (by rw [hej]; exact hO) hd2
              have HK := Lib.hid hK
              clear hK hO hg hd' hd2 q0 ql HOW HHO HX14 yl y0 y1 y2 y3 y4 y5 z1 z2 z3
              go_wp2_with fail
              have hu0 : usesI ⟨op, dst, x, y, imm, sym⟩ = [x] := by unfold usesI; rw [if_pos h1]
              have h2' : (op = 3 ∨ op = 5 ∨ op = 7) = False := eq_false (by omega)
              have hren : renI num ⟨op, dst, x, y, imm, sym⟩ = ⟨op, (num dst), num x, y, imm, sym⟩ := by simp [renI, hd, hu0, h2']
              go_roundw
              case rel =>
                refine ⟨j + 1, by go_num, by omega, ?_⟩
                rw [HT.out, hren]
                exact HK
              case measure => simp [intOf]; omega
            · by_cases h2 : op = 3 ∨ op = 5 ∨ op = 7
              · have hu : usesI ⟨op, (num dst), x, y, imm, sym⟩ = [x, y] := by unfold usesI; rw [if_neg h1, if_pos h2]
                have HU := Lib.hid (uses_any op (num dst) x y imm sym w11)
                rw [hu] at HU
                skip
                refine HU.out.mono ?_
                rintro e w12 ⟨v, rfl, hrd, -, hb12⟩
                obtain ⟨up, uc, hvv, -⟩ := hrd
                obtain rfl : v = .slice up 2 uc := hvv
                have HX12 := Lib.hid (HX11.out.keep hb12)
                clear HU hb12 HX11 yl y0 y1 y2 y3 y4 y5 z1 z2 z3 w11
                obtain ⟨⟨yl, y0, y1, y2⟩, ⟨y3, y4, y5⟩, z1, z2, z3⟩ := HX12.out.cells
                go_upto_region 19 with fail
                have HB12 := Lib.hid (HI.out.bel.1.trans (HX12.out.bel.mono HI.out.bel.2))
                go_region_with (first | (go_at_call 19; refine (HNUM.out w13 HB13.out _).mono ?_; rintro e w14 ⟨rfl, hb14⟩; have HX14 := Lib.hid (HX13.out.keep hb14); obtain ⟨⟨yl', ya', yb', yc'⟩, ⟨yd', ye', yf'⟩, za', zb', zc'⟩ := HX14.out.cells; clear hb14) | (go_at_call 19; refine (HNUM.out w12.drew (HB12.out.trans (Below.drew (Below.refl _ _))) _).mono ?_; rintro e w13 ⟨rfl, hb13⟩; have HX13 := Lib.hid (HX12.out.keep ((Below.drew (Below.refl _ _)).trans hb13)); have HB13 := Lib.hid (HI.out.bel.1.trans (HX13.out.bel.mono HI.out.bel.2)); obtain ⟨⟨yl2, ya, yb, yc⟩, ⟨yd, ye, yf⟩, za, zb, zc⟩ := HX13.out.cells; clear hb13))
                all_goals (
                  have HX16 := Lib.hid ((HX14.out.setX (num x)).setY (num y))
                  generalize (w14.setCell ⟨ib, 2, none⟩ (.int .i64 (num x))).setCell ⟨ib, 3, none⟩ (.int .i64 (num y)) = w16 at HX16 ⊢
                  clear HX12 HX13 HX14 HB12 HB13 yl y0 y1 y2 y3 y4 y5 z1 z2 z3 yl2 ya yb yc yd ye yf za zb zc yl' ya' yb' yc' yd' ye' yf' za' zb' zc' w12 w13 w14
                  obtain ⟨⟨yl, y0, y1, y2⟩, ⟨y3, y4, y5⟩, z1, z2, z3⟩ := HX16.out.cells
                  go_upto_region 22 with fail
                  obtain ⟨col, cv, vb, ev, ho⟩ := HI.out.keep HX16.out.bel
                  obtain ⟨ep, ec, rfl⟩ := ho.en.shape
                  have q0 := ho.c.at 0 rfl
                  have ql := ho.c.lt
                  have HOW := Lib.hid (fun o : Obj => (ho.keep (bAlloc (o := o) (Nat.le_refl _) (Below.refl _ _))).en.1)
                  have HHO := Lib.hid ho
                  clear ho
                  have hej : ((code.map (renI num)).take j).length = j := by rw [List.length_take, List.length_map]; omega
                  generalize (code.map (renI num)).take j = EE at hej q0 HOW HHO HT
                  rw [hej] at q0 HOW HHO
                  clear HI yl y0 y1 y2 y3 y4 y5 z1 z2 z3
                  obtain ⟨⟨yl, y0, y1, y2⟩, ⟨y3, y4, y5⟩, z1, z2, z3⟩ := HX16.out.cells
                  go_wp2_with (first | (at_builtin; refine wpList_append_els rfl _ _ 50 59 zIns 6 56 rfl Tryd.underlying50 infoIns rfl (by decide) (by decide) (.slice ep j ec) j (insL EE) rfl (HOW.out _) w16.heap.size 1 [.int .u8 op, .int .i64 (num dst), .int .i64 (num x), .int .i64 (num y), .int .i64 imm, .string sym] rfl rfl (RowC2.made w16 [.int .u8 op, .int .i64 (num dst), .int .i64 (num x), .int .i64 (num y), .int .i64 imm, .string sym] 59).2 (by simp [Value.oneCell']) (by omega) ?_))
                  intro p c' w15 hO hg hd'
                  have hd2 : (Value.slice p (j + 1) c').ownBlock = (Value.slice ep j ec).ownBlock ∨ ∀ q, (Value.slice p (j + 1) c').ownBlock = some q → (w16.alloc (.cells #[.int .u8 op, .int .i64 (num dst), .int .i64 (num x), .int .i64 (num y), .int .i64 imm, .string sym] 59)).heap.size ≤ q := by
                    rcases hd' with h | h
                    · exact .inl h
                    · exact .inr fun q hq => by have h3 := h q hq; simp at h3 ⊢; omega
                  obtain ⟨⟨c7, f7, l7⟩, hK⟩ := HHO.out.add (i := ⟨op, (num dst), num x, num y, imm, sym⟩) (bAlloc (o := .cells #[.int .u8 op, .int .i64 (num dst), .int .i64 (num x), .int .i64 (num y), .int .i64 imm, .string sym] 59) (Nat.le_refl _) (Below.refl _ _)) hg (by rw [hej]; exact hO) hd2
                  have HK := Lib.hid hK
                  clear hK hO hg hd' hd2 q0 ql HOW HHO HX16 yl y0 y1 y2 y3 y4 y5 z1 z2 z3
                  go_wp2_with fail
                  have hu0 : usesI ⟨op, dst, x, y, imm, sym⟩ = [x, y] := by unfold usesI; rw [if_neg h1, if_pos h2]
                  have h2' : (op = 3 ∨ op = 5 ∨ op = 7) = True := eq_true h2
                  have hren : renI num ⟨op, dst, x, y, imm, sym⟩ = ⟨op, (num dst), num x, num y, imm, sym⟩ := by simp [renI, hd, hu0, h2']
                  go_roundw
                  case rel =>
                    refine ⟨j + 1, by go_num, by omega, ?_⟩
                    rw [HT.out, hren]
                    exact HK
                  case measure => simp [intOf]; omega)
              · have hu : usesI ⟨op, (num dst), x, y, imm, sym⟩ = [] := by unfold usesI; rw [if_neg h1, if_neg h2]
                have HU := Lib.hid (uses_any op (num dst) x y imm sym w11)
                rw [hu] at HU
                skip
                refine HU.out.mono ?_
                rintro e w12 ⟨v, rfl, hrd, -, hb12⟩
                obtain ⟨up, uc, hvv, -⟩ := hrd
                obtain rfl : v = .slice up 0 uc := hvv
                have HX12 := Lib.hid (HX11.out.keep hb12)
                clear HU hb12 HX11 yl y0 y1 y2 y3 y4 y5 z1 z2 z3 w11
                obtain ⟨⟨yl, y0, y1, y2⟩, ⟨y3, y4, y5⟩, z1, z2, z3⟩ := HX12.out.cells
                go_upto_region 22 with fail
                obtain ⟨col, cv, vb, ev, ho⟩ := HI.out.keep HX12.out.bel
                obtain ⟨ep, ec, rfl⟩ := ho.en.shape
                have q0 := ho.c.at 0 rfl
                have ql := ho.c.lt
                have HOW := Lib.hid (fun o : Obj => (ho.keep (bAlloc (o := o) (Nat.le_refl _) (Below.refl _ _))).en.1)
                have HHO := Lib.hid ho
                clear ho
                have hej : ((code.map (renI num)).take j).length = j := by rw [List.length_take, List.length_map]; omega
                generalize (code.map (renI num)).take j = EE at hej q0 HOW HHO HT
                rw [hej] at q0 HOW HHO
                clear HI yl y0 y1 y2 y3 y4 y5 z1 z2 z3
                obtain ⟨⟨yl, y0, y1, y2⟩, ⟨y3, y4, y5⟩, z1, z2, z3⟩ := HX12.out.cells
                go_wp2_with (first | (at_builtin; refine wpList_append_els rfl _ _ 50 59 zIns 6 56 rfl Tryd.underlying50 infoIns rfl (by decide) (by decide) (.slice ep j ec) j (insL EE) rfl (HOW.out _) w12.heap.size 1 [.int .u8 op, .int .i64 (num dst), .int .i64 x, .int .i64 y, .int .i64 imm, .string sym] rfl rfl (RowC2.made w12 [.int .u8 op, .int .i64 (num dst), .int .i64 x, .int .i64 y, .int .i64 imm, .string sym] 59).2 (by simp [Value.oneCell']) (by omega) ?_))
                intro p c' w15 hO hg hd'
                have hd2 : (Value.slice p (j + 1) c').ownBlock = (Value.slice ep j ec).ownBlock ∨ ∀ q, (Value.slice p (j + 1) c').ownBlock = some q → (w12.alloc (.cells #[.int .u8 op, .int .i64 (num dst), .int .i64 x, .int .i64 y, .int .i64 imm, .string sym] 59)).heap.size ≤ q := by
                  rcases hd' with h | h
                  · exact .inl h
                  · exact .inr fun q hq => by have h3 := h q hq; simp at h3 ⊢; omega
                obtain ⟨⟨c7, f7, l7⟩, hK⟩ := HHO.out.add (i := ⟨op, (num dst), x, y, imm, sym⟩) (bAlloc (o := .cells #[.int .u8 op, .int .i64 (num dst), .int .i64 x, .int .i64 y, .int .i64 imm, .string sym] 59) (Nat.le_refl _) (Below.refl _ _)) hg (by rw [hej]; exact hO) hd2
                have HK := Lib.hid hK
                clear hK hO hg hd' hd2 q0 ql HOW HHO HX12 yl y0 y1 y2 y3 y4 y5 z1 z2 z3
                go_wp2_with fail
                have hu0 : usesI ⟨op, dst, x, y, imm, sym⟩ = [] := by unfold usesI; rw [if_neg h1, if_neg h2]
                have h2' : (op = 3 ∨ op = 5 ∨ op = 7) = False := eq_false (by omega)
                have hren : renI num ⟨op, dst, x, y, imm, sym⟩ = ⟨op, (num dst), x, y, imm, sym⟩ := by simp [renI, hd, hu0, h2']
                go_roundw
                case rel =>
                  refine ⟨j + 1, by go_num, by omega, ?_⟩
                  rw [HT.out, hren]
                  exact HK
                case measure => simp [intOf]; omega
        · skip
          obtain rfl : j = code.length := by omega
          have hE : (code.map (renI num)).take code.length = code.map (renI num) := List.take_of_length_le (by simp)
          rw [hE] at HI
          obtain ⟨col, cv, vb, ev, ho⟩ := HI.out
          obtain ⟨ep, ec, rfl⟩ := ho.en.shape
          have q0 := ho.c.at 0 rfl
          have q1 := ho.c.at 1 rfl
          have q2 := ho.c.at 2 rfl
          have q3 := ho.c.at 3 rfl
          have q4 := ho.c.at 4 rfl
          have ql := ho.c.lt
          clear hj hjl hE
          by_cases hk2 : kd = 2
          · subst hk2
            have HHO := Lib.hid ho
            clear ho
            go_wp2_with fail
            refine (HNUM.out w7 HI.out.bel.1 _).mono ?_
            rintro e w8 ⟨rfl, hb8⟩
            have h8 := HHO.out.keep hb8
            clear q0 q1 q2 q3 q4 ql hb8 HI HHO
            have q2 := h8.c.at 2 rfl
            have f2 := h8.cf 2
            have ql := h8.c.lt
            have H9 := Lib.hid (h8.setTl 1 (.int .i64 (num bx)))
            clear h8
            go_upto_region 26 with fail
            generalize w8.setCell ⟨bb + 1, 2, none⟩ (.int .i64 (num bx)) = w9 at H9 ⊢
            clear q2 f2 ql w8 w7
            obtain ⟨col, cv, vb, ev, ho⟩ := H9.out
            clear H9
            obtain ⟨ep, ec, rfl⟩ := ho.en.shape
            obtain ⟨vp, vc, rfl⟩ := ho.rn.bl.shape
            have q0 := ho.c.at 0 rfl
            have q1 := ho.c.at 1 rfl
            have q2 := ho.c.at 2 rfl
            have q3 := ho.c.at 3 rfl
            have q4 := ho.c.at 4 rfl
            have ql := ho.c.lt
            have g3 : w9.cell? ⟨w.heap.size + 1 + 1 + 1, 3, none⟩ = some (.slice vp ((bs.map (renK num)).take k).length vc) := ho.rn.g.at 3 rfl
            have gl : w.heap.size + 1 + 1 + 1 < w9.heap.size := ho.rn.g.lt
            have hej : ((bs.map (renK num)).take k).length = k := by rw [List.length_take, List.length_map]; omega
            have HOW := Lib.hid (fun o : Obj => (ho.rn.keep (bAlloc (o := o) (Nat.le_refl _) (Below.refl _ _))).bl.1)
            have HT : Hid ((bs.map (renK num)).take (k + 1) = (bs.map (renK num)).take k ++ [renK num (bs.getD k default)]) := (show _ = _ by
              rw [List.take_add_one, List.getElem?_map, List.getElem?_eq_getElem hlt, List.getD_eq_getElem?_getD, List.getElem?_eq_getElem hlt]
              rfl)
            rw [HBE.out] at HT
            have HHO := Lib.hid ho
            clear ho
            generalize (bs.map (renK num)).take k = DD at hej g3 HOW HHO HT
            rw [hej] at g3 HOW HHO
            rw [List.length_map] at q0 HHO
            go_wp2_with (first | (at_builtin; refine wpList_append_els rfl _ _ 23 52 zBlk 5 56 rfl Tryd.underlying23 infoBlk rfl (by decide) (by decide) (.slice vp k vc) k (blkL cv DD) rfl (HOW.out _) w9.heap.size 1 [.slice ep code.length ec, .int .u8 2, .int .i64 (num bx), .int .i64 tg, .int .i64 el] rfl rfl (RowC2.made w9 [.slice ep code.length ec, .int .u8 2, .int .i64 (num bx), .int .i64 tg, .int .i64 el] 52).2 (by simp [Value.oneCell']) (by omega) ?_))
            intro p c' w15 hO hg hd'
            have hd2 : (Value.slice p (k + 1) c').ownBlock = (Value.slice vp k vc).ownBlock ∨ ∀ q, (Value.slice p (k + 1) c').ownBlock = some q → (w9.alloc (.cells #[.slice ep code.length ec, .int .u8 2, .int .i64 (num bx), .int .i64 tg, .int .i64 el] 52)).heap.size ≤ q := by
              rcases hd' with h | h
              · exact .inl h
              · exact .inr fun q hq => by have h3 := h q hq; simp at h3 ⊢; omega
            have hc2 := HHO.out.close (b := ⟨code.map (renI num), 2, (num bx), tg, el⟩) rfl (bAlloc (o := .cells #[.slice ep code.length ec, .int .u8 2, .int .i64 (num bx), .int .i64 tg, .int .i64 el] 52) (Nat.le_refl _) (Below.refl _ _)) hg (by rw [hej]; exact hO) hd2
            obtain ⟨⟨c7, f7, l7⟩, hK⟩ := hc2
            have c8 : w15.cell? ⟨w.heap.size + 1 + 1 + 1, 3, none⟩ = some (.slice vp k vc) := c7
            have f8 : w15.frozen? ⟨w.heap.size + 1 + 1 + 1, 3, none⟩ = false := f7
            have l8 : w.heap.size + 1 + 1 + 1 < w15.heap.size := l7
            have HK : Hid (RnRel W0 (w.heap.size + 3) [.string nm, .int .i64 (8 + n), .slice ap an ac] [] (DD ++ [⟨code.map (renI num), 2, (num bx), tg, el⟩]) (w15.setCell ⟨w.heap.size + 1 + 1 + 1, 3, none⟩ (.slice p (k + 1) c'))) := Lib.hid hK.drop
            clear c7 f7 l7 hK hO hg hd' hd2 q0 q1 q2 q3 q4 ql g3 gl HOW HHO
            go_wp2_with fail
            have hren : renK num ⟨code, 2, bx, tg, el⟩ = ⟨code.map (renI num), 2, (num bx), tg, el⟩ := by simp [renK]
            go_roundw
            case rel =>
              refine ⟨k + 1, by go_num, by omega, ?_⟩
              rw [HT.out, hren]
              exact HK
            case measure => simp [intOf]; omega
          · have hkI : ¬ ((kd : Int) = 2) := by omega
            skip
            go_upto_region 26 with fail
            clear q0 q1 q2 q3 q4 ql HI
            obtain ⟨w9, rfl⟩ : ∃ W : World, W = w7 := ⟨_, rfl⟩
            obtain ⟨vp, vc, rfl⟩ := ho.rn.bl.shape
            have q0 := ho.c.at 0 rfl
            have q1 := ho.c.at 1 rfl
            have q2 := ho.c.at 2 rfl
            have q3 := ho.c.at 3 rfl
            have q4 := ho.c.at 4 rfl
            have ql := ho.c.lt
            have g3 : w9.cell? ⟨w.heap.size + 1 + 1 + 1, 3, none⟩ = some (.slice vp ((bs.map (renK num)).take k).length vc) := ho.rn.g.at 3 rfl
            have gl : w.heap.size + 1 + 1 + 1 < w9.heap.size := ho.rn.g.lt
            have hej : ((bs.map (renK num)).take k).length = k := by rw [List.length_take, List.length_map]; omega
            have HOW := Lib.hid (fun o : Obj => (ho.rn.keep (bAlloc (o := o) (Nat.le_refl _) (Below.refl _ _))).bl.1)
            have HT : Hid ((bs.map (renK num)).take (k + 1) = (bs.map (renK num)).take k ++ [renK num (bs.getD k default)]) := (show _ = _ by
              rw [List.take_add_one, List.getElem?_map, List.getElem?_eq_getElem hlt, List.getD_eq_getElem?_getD, List.getElem?_eq_getElem hlt]
              rfl)
            rw [HBE.out] at HT
            have HHO := Lib.hid ho
            clear ho
            generalize (bs.map (renK num)).take k = DD at hej g3 HOW HHO HT
            rw [hej] at g3 HOW HHO
            rw [List.length_map] at q0 HHO
            go_wp2_with (first | (at_builtin; refine wpList_append_els rfl _ _ 23 52 zBlk 5 56 rfl Tryd.underlying23 infoBlk rfl (by decide) (by decide) (.slice vp k vc) k (blkL cv DD) rfl (HOW.out _) w9.heap.size 1 [.slice ep code.length ec, .int .u8 kd, .int .i64 bx, .int .i64 tg, .int .i64 el] rfl rfl (RowC2.made w9 [.slice ep code.length ec, .int .u8 kd, .int .i64 bx, .int .i64 tg, .int .i64 el] 52).2 (by simp [Value.oneCell']) (by omega) ?_))
            intro p c' w15 hO hg hd'
            have hd2 : (Value.slice p (k + 1) c').ownBlock = (Value.slice vp k vc).ownBlock ∨ ∀ q, (Value.slice p (k + 1) c').ownBlock = some q → (w9.alloc (.cells #[.slice ep code.length ec, .int .u8 kd, .int .i64 bx, .int .i64 tg, .int .i64 el] 52)).heap.size ≤ q := by
              rcases hd' with h | h
              · exact .inl h
              · exact .inr fun q hq => by have h3 := h q hq; simp at h3 ⊢; omega
            have hc2 := HHO.out.close (b := ⟨code.map (renI num), kd, bx, tg, el⟩) rfl (bAlloc (o := .cells #[.slice ep code.length ec, .int .u8 kd, .int .i64 bx, .int .i64 tg, .int .i64 el] 52) (Nat.le_refl _) (Below.refl _ _)) hg (by rw [hej]; exact hO) hd2
            obtain ⟨⟨c7, f7, l7⟩, hK⟩ := hc2
            have c8 : w15.cell? ⟨w.heap.size + 1 + 1 + 1, 3, none⟩ = some (.slice vp k vc) := c7
            have f8 : w15.frozen? ⟨w.heap.size + 1 + 1 + 1, 3, none⟩ = false := f7
            have l8 : w.heap.size + 1 + 1 + 1 < w15.heap.size := l7
            have HK : Hid (RnRel W0 (w.heap.size + 3) [.string nm, .int .i64 (8 + n), .slice ap an ac] [] (DD ++ [⟨code.map (renI num), kd, bx, tg, el⟩]) (w15.setCell ⟨w.heap.size + 1 + 1 + 1, 3, none⟩ (.slice p (k + 1) c'))) := Lib.hid hK.drop
            clear c7 f7 l7 hK hO hg hd' hd2 q0 q1 q2 q3 q4 ql g3 gl HOW HHO
            go_wp2_with fail
            have hren : renK num ⟨code, kd, bx, tg, el⟩ = ⟨code.map (renI num), kd, bx, tg, el⟩ := by simp [renK, hk2]
            go_roundw
            case rel =>
              refine ⟨k + 1, by go_num, by omega, ?_⟩
              rw [HT.out, hren]
              exact HK
            case measure => simp [intOf]; omega
    · skip
      obtain rfl : k = bs.length := by omega
      have hE : (bs.map (renK num)).take bs.length = bs.map (renK num) := List.take_of_length_le (by simp)
      rw [hE] at HE
      obtain ⟨col, cv, vb, ho⟩ := HE.out
      obtain ⟨vp, vc, rfl⟩ := ho.bl.shape
      have q0 : w5.cell? ⟨w.heap.size + 1 + 1 + 1, 0, none⟩ = some (.string nm) := ho.g.at 0 rfl
      have q1 : w5.cell? ⟨w.heap.size + 1 + 1 + 1, 1, none⟩ = some (.int .i64 (8 + n)) := ho.g.at 1 rfl
      have q2 : w5.cell? ⟨w.heap.size + 1 + 1 + 1, 2, none⟩ = some (.slice ap an ac) := ho.g.at 2 rfl
      have q3 : w5.cell? ⟨w.heap.size + 1 + 1 + 1, 3, none⟩ = some (.slice vp (bs.map (renK num)).length vc) := ho.g.at 3 rfl
      rw [List.length_map] at q3
      have ql : w.heap.size + 1 + 1 + 1 < w5.heap.size := ho.g.lt
      have HROW := Lib.hid ((ho.bel.block (w.heap.size + 2) (by omega)).trans HR2.out)
      have HHO := Lib.hid ho
      have HOi : Hid ((Tryd.prog.info? 25).map (·.size) = some (#[.string nm, .int .i64 (8 + n), .slice ap an ac, .slice vp bs.length vc] : Array Value).size) := (show _ = some 4 by kernel_rfl)
      have HOa : Hid ((#[.string nm, .int .i64 (8 + n), .slice ap an ac, .slice vp bs.length vc] : Array Value).all (·.oneCell') = true) := (show (#[.string nm, .int .i64 (8 + n), .slice ap an ac, .slice vp bs.length vc] : Array Value).all (·.oneCell') = true by simp [Value.oneCell'])
      clear ho hE hk hlt
      go_wp2_with (first | (refine wpList_store_row rfl 25 (.tmp 4) (.tmp 94) rfl (w.heap.size + 2) #[.string nm, .int .i64 (8 + n), .slice ap an ac, .slice vp bs.length vc] rfl rfl 25 _ HROW.out HOi.out rfl HOa.out ?_))
      refine bodyPost_ret (results_cell_row Tryd.results9 _ _ (w.heap.size + 2) _ _ _ _ rfl (setRow_heap _ _ _ _ _ _ HROW.out) Tryd.underlying25 rfl (by kernel_rfl)) rfl ?_
      have hT : Touch col 0 w5 (w5.setRow (w.heap.size + 2) #[.string nm, .int .i64 (8 + n), .slice ap an ac, .slice vp bs.length vc]) := Touch.setRow (HHO.out.low _ (by omega)) _
      have hfin := bksAt_of (HHO.out.bl.other hT (by decide)) (fun j hj => (HHO.out.code j hj).other hT (by decide))
      rw [List.length_map] at hfin
      refine ⟨_, rfl, hfin, ?_⟩
      exact bRowN (by omega) (HB0.out.trans (HHO.out.bel.mono (by omega)))
end Go.Proofs.YtifjcknklecdbaaDoor
