import Derived.Test.YtdfofelchjpioaaDoorCorDa
import Derived.Deep.RegionHeld3
import Derived.Test.YtdfofelchjpioaaDoorMs33
import Derived.Test.YtdfofelchjpioaaDoorMs35
import Derived.Deep.CutBlock
set_option linter.unusedVariables false
set_option linter.unusedSimpArgs false
namespace Go.Proofs.YtdfofelchjpioaaDoor
open Go.RowKit

theorem eql_ef (n : Nat) (a b c i pc : Int) (tk : Bool) (ad vl : Int) (w : World) : (binOp .eql 36 (.agg #[.int .u8 n, .int .i64 a, .int .i64 b, .int .i64 c, .int .i64 i, .int .i64 pc, .bool tk, .int .i64 ad, .int .i32 vl]) (.agg #[.int .u8 n, .int .i64 a, .int .i64 b, .int .i64 c, .int .i64 i, .int .i64 pc, .bool tk, .int .i64 ad, .int .i32 vl])).run Tryd.prog w = .ok (.bool true) w := by
  have h1 : Tryd.prog.underlying 36 = some (.struct (Tryd.prog.fieldsOf 36)) := by kernel_rfl
  have h2 : Tryd.prog.stoodInHeld 36 = false := by kernel_rfl
  have g1 : Tryd.prog.underlying 34 = some (.struct (Tryd.prog.fieldsOf 34)) := by kernel_rfl
  have g2 : Tryd.prog.stoodInHeld 34 = false := by kernel_rfl
  have e1 := Tryd.underlying3
  have e2 := Tryd.underlying21
  have e3 := Tryd.underlying5
  have e4 := Tryd.underlying4
  have e0 := Tryd.underlying36
  have e5 := Tryd.underlying34
  rw [run_eql_struct, run_equalIn_struct w 9999 _ _ _ h1 h2]
  simp [Program.fieldsOf, e0, e5, Op.eqFields, part, isAgg, run_underlying e1, run_underlying e2, run_underlying e3, run_underlying e4, run_underlying e5, run_equalIn_struct w 9998 _ _ _ g1 g2, run_equalIn_int _ _ _ _ _ _ _ e1, run_equalIn_int _ _ _ _ _ _ _ e2, run_equalIn_int _ _ _ _ _ _ _ e3, run_equalIn_bool _ _ _ _ _ e4]

theorem ask_port (q p : Nat) (W : World) (i v u : Int) (hq : RowAt W q [.int .i64 u]) (hp : W.cell? ⟨p, 0, none⟩ = some (.int .i32 v)) (hne : p ≠ q) : Calls Tryd.prog 8 #[.int .i64 i, .pointer (some ⟨q, 0, none⟩), .pointer (some ⟨p, 0, none⟩)] W fun e w' => e = .returned (.int .i32 v) ∧ Below W.heap.size (W.setCell ⟨q, 0, none⟩ (.int .i64 i)) w' := by
  have h0 := hq.cell 0
  have hf := hq.frozen 0
  have hlt := hq.lt
  simp only [List.getElem?_cons_zero] at h0
  go_enter Tryd.func8, Tryd.ntmps8
  go_wp2_with fail
  go_ret
  exact ⟨rfl, Below.refl _ _⟩
theorem stepP_yes {im : Im} {t : Int} {s : St} {mem : List Int} {inp : Int → Int} {f : Ef} {s' : St} {m' : List Int} (h : stepP im t s mem inp = .ok (f, s', m')) : fitP im t s = true ∧ s.halted = false ∧ f.pc = s.pc ∧ (f.n = 26 → 0 ≤ f.i) ∧ f.n < 30 := by
  unfold stepP at h
  split at h
  · cases h
  · rename_i hfh
    dsimp only at h
    split at h
    · cases h
    · split at h
      · cases h
      · rename_i hok
        split at h
        · cases h
        · cases h
          have hd : decOk (im.code.getD s.pc.toNat 0) = true := by
            cases h : decOk (im.code.getD s.pc.toNat 0) with
            | false => exact absurd h hok
            | true => rfl
          have hv := (of_decide_eq_true hd).1
          refine ⟨by simpa using fun h => hfh (.inl h), by simpa using fun h => hfh (.inr h), rfl, fun h26 => ?_, (vld_bd hv).1⟩
          have hp := (vld_parts hv).2.2.2.2.1
          have h26' : dN (im.code.getD s.pc.toNat 0) = 26 := h26
          rw [h26', if_pos (show uI 26 = true from rfl), show flo 26 = 0 from rfl] at hp
          exact hp
theorem outL_get {s : St} {dv mv : Value} {n : Nat} {a b c i ad vl : Int} {tk : Bool} (hr : s.r.length = 16) (j : Nat) : (outL s dv mv n a b c i tk ad vl)[20 + j]? = [mv, .int .u8 n, .int .i64 a, .int .i64 b, .int .i64 c, .int .i64 i, .bool tk, .int .i64 ad, .int .i32 vl][j]? := by
  unfold outL
  rw [List.getElem?_append_right (by rw [stCells_len hr]; omega), stCells_len hr, Nat.add_sub_cancel_left]
theorem outL_range {w : World} {b : Nat} {s : St} {dv mv : Value} {n : Nat} {a b' c i ad vl : Int} {tk : Bool} (h : RowAt w b (outL s dv mv n a b' c i tk ad vl)) : w.rangeAt b 0 (stCells s dv) := fun j v hj => h.range j v (by
  unfold outL
  obtain ⟨hl, _⟩ := List.getElem?_eq_some_iff.1 hj
  rw [List.getElem?_append_left hl]
  exact hj)

theorem wp_buildT {P : Program} {o : Oper} {a : Act} {w : World} {K : Act → World → Prop} {Q : Exit → Act → World → Prop} (t : TypeId) (parts : Array (Nat × Operand)) (ho : o.op = .build t parts) (d : Option Tmp) (hd : o.dst = d) (cells : Array Value)
    (hf : P.built t (parts.map fun (i, x) => (i, a.eval x)).toList = some cells) (h : K (a.put d (.agg cells)) w) : o.wp P a w K Q := by
  subst hd
  refine wp_build t parts ho (by rw [hf]; rfl) ?_
  rw [hf]
  exact h
theorem outL_one (s : St) (p q : Option Addr) (n c m k : Nat) (n' : Nat) (a b c' i ad vl : Int) (tk : Bool) : (outL s (.slice p n c) (.slice q m k) n' a b c' i tk ad vl).toArray.all (·.oneCell') = true := all_oneCell_toArray fun v hv => by
  rcases List.mem_append.1 hv with h | h
  · unfold stCells at h
    simp only [List.mem_cons, List.mem_append, List.mem_map, List.not_mem_nil, or_false] at h
    rcases h with rfl | ⟨y, _, rfl⟩ | rfl | rfl | rfl <;> rfl
  · simp only [List.mem_cons, List.not_mem_nil, or_false] at h
    rcases h with rfl | rfl | rfl | rfl | rfl | rfl | rfl | rfl | rfl <;> rfl

set_option maxHeartbeats 30000000 in
set_option maxRecDepth 100000 in
theorem stepsLaw_any (s : St) (dp cp ep : Option Addr) (dcap ccap ecap : Nat) (im : Im) (t : Int) (mp : Option Addr) (mcap : Nat) (sh : List Int) (inp : Int) (w : World) (hT : Tab w) (hO : OTab w) (hr : s.r.length = 16) (him : im.code.length ≤ 200 → ImAt w (.agg #[.slice cp im.code.length ccap, .slice ep im.ents.length ecap, .int .i64 im.sh, .int .i64 im.lk]) im) (hrd : RdAt w (.slice dp s.d.length dcap) s.d) (hn0 : ∀ c, Value.slice dp s.d.length dcap = .slice none 0 c → c = 0)
    (hrm : RdAt w (.slice mp sh.length mcap) sh) (hm0 : ∀ c, Value.slice mp sh.length mcap = .slice none 0 c → c = 0) (R32 : Hid (∀ j, W32 (s.r.getD j 0))) (D32 : Hid (∀ j, W32 (s.d.getD j 0))) (M32 : Hid (∀ j, W32 (sh.getD j 0))) (hin : W32 inp) :
    Calls Tryd.prog 3 #[.agg #[.slice cp im.code.length ccap, .slice ep im.ents.length ecap, .int .i64 im.sh, .int .i64 im.lk], .int .i64 t, stV s (.slice dp s.d.length dcap), .slice mp sh.length mcap, .int .i32 inp] w fun e w' => e = .returned (.bool true) ∧ Below w.heap.size w w' := by
  obtain ⟨i0, hi0, hz0', hz1', hz2'⟩ := info_parts Tryd.info32
  have hxi := Tryd.underlying27
  have HI : Hid ((Tryd.prog.info? 29).map (·.size) = some (stCells s (.slice dp s.d.length dcap)).length) := (show _ = _ by rw [stCells_len hr]; exact infoState)
  have SM := Lib.hid (fun (w : World) => smallS s cp ep dp mp im.code.length ccap im.ents.length ecap s.d.length dcap sh.length mcap im.sh im.lk w hr)
  go_enter Tryd.func3, Tryd.ntmps3
  go_wp2_with fail
  have hb0 : Below w.heap.size w (((w.alloc (.cells #[.slice cp im.code.length ccap, .slice ep im.ents.length ecap, .int .i64 im.sh, .int .i64 im.lk] 25)).alloc (.cells (stCells s (.slice dp s.d.length dcap)).toArray 29)).alloc (.cells #[.int .i32 inp] 21)) := bAlloc (by simp; omega) (bAlloc (by simp) (bAlloc (Nat.le_refl _) (Below.refl _ _)))
  refine (awake_any _ (hT.of_below hb0) (hO.of_below hb0)).mono ?_
  rintro e w1 ⟨rfl, hb1⟩
  have hB1 : Below w.heap.size w w1 := below_then hb0 hb1 (by simp; omega)
  have hI1 : RowAt w1 w.heap.size [.slice cp im.code.length ccap, .slice ep im.ents.length ecap, .int .i64 im.sh, .int .i64 im.lk] := RowAt.below (B := w.heap.size + 1) ⟨_, (Below.heap_alloc _ _ _ (by simp; omega)).trans ((Below.heap_alloc _ _ _ (by simp)).trans (heap_alloc_new _ _))⟩ (hb1.mono (by simp)) (by omega)
  have hS1 : RowAt w1 (w.heap.size + 1) (stCells s (.slice dp s.d.length dcap)) := RowAt.below (B := w.heap.size + 2) ⟨_, (Below.heap_alloc _ _ _ (by simp)).trans (heap_at1 _ _ _)⟩ (hb1.mono (by simp)) (by omega)
  have hN1 : RowAt w1 (w.heap.size + 1 + 1) [.int .i32 inp] := by
    have h := heap_alloc_new ((w.alloc (.cells #[.slice cp im.code.length ccap, .slice ep im.ents.length ecap, .int .i64 im.sh, .int .i64 im.lk] 25)).alloc (.cells (stCells s (.slice dp s.d.length dcap)).toArray 29)) (.cells #[.int .i32 inp] 21)
    rw [show ((w.alloc (.cells #[.slice cp im.code.length ccap, .slice ep im.ents.length ecap, .int .i64 im.sh, .int .i64 im.lk] 25)).alloc (.cells (stCells s (.slice dp s.d.length dcap)).toArray 29)).heap.size = w.heap.size + 1 + 1 by simp] at h
    exact RowAt.below (B := w.heap.size + 3) ⟨_, h⟩ (hb1.mono (by simp)) (by omega)
  clear hb1 hb0
  have x0 := hI1.cell 0
  have x1 := hI1.cell 1
  have x2 := hI1.cell 2
  have x3 := hI1.cell 3
  simp only [List.getElem?_cons_zero, List.getElem?_cons_succ] at x0 x1 x2 x3
  have hl1 := hI1.lt
  have hl2 := hS1.lt
  have HS1 := Lib.hid hS1.range
  cases hsm : smallB im.code.length im.ents.length s.d.length sh.length
  · rw [hsm, if_neg (by simp)] at SM
    go_wp2_with (first | (refine wpList_load_mid rfl 29 (.tmp 7) rfl (w.heap.size + 1) 0 rfl (stCells s (.slice dp s.d.length dcap)) _ HS1.out Tryd.underlying29 rfl HI.out ?_; simp only [put_lit, put_no]; dsimp only [List.set_cons_succ, List.set_cons_zero]))
    refine (SM.out _).mono ?_
    rintro e w2 ⟨rfl, hb2⟩
    go_wp2_with fail
    go_ret
    exact ⟨rfl, below_then hB1 hb2 hB1.size⟩
  rw [hsm, if_pos (by simp)] at SM
  have hsz : im.code.length ≤ 200 ∧ im.ents.length ≤ 8 ∧ s.d.length ≤ 100 ∧ sh.length ≤ 100 := by simpa [smallB] using hsm
  clear hsm
  go_wp2_with (first | (refine wpList_load_mid rfl 29 (.tmp 7) rfl (w.heap.size + 1) 0 rfl (stCells s (.slice dp s.d.length dcap)) _ HS1.out Tryd.underlying29 rfl HI.out ?_; simp only [put_lit, put_no]; dsimp only [List.set_cons_succ, List.set_cons_zero]))
  refine (SM.out _).mono ?_
  rintro e w2 ⟨rfl, hb2⟩
  have hB2 : Below w.heap.size w w2 := below_then hB1 hb2 hB1.size
  have hI2 := hI1.below hb2 hI1.lt
  have hS2 := hS1.below hb2 hS1.lt
  have hN2 := hN1.below hb2 hN1.lt
  have him2 := (him hsz.1).below hB2 (Nat.le_refl _)
  have hrd2 := hrd.below hB2 (Nat.le_refl _)
  have hrm2 := hrm.below hB2 (Nat.le_refl _)
  clear hb2 x0 x1 x2 x3 hI1 hS1 hN1 HS1 SM hl1 hl2
  have hlS := hS2.lt
  have HR := Lib.hid hS2.range
  have HCP := Lib.hid (copyS s dp s.d.length dcap w2 hr rfl hrd2 hn0 (by omega))
  go_wp2_with (first | (refine wpList_load_mid rfl 29 (.tmp 7) rfl (w.heap.size + 1) 0 rfl (stCells s (.slice dp s.d.length dcap)) _ HR.out Tryd.underlying29 rfl HI.out ?_; simp only [put_lit, put_no]; dsimp only [List.set_cons_succ, List.set_cons_zero]))
  refine HCP.out.mono ?_
  rintro e wa ⟨px, cx, rfl, hba, hown⟩
  have hmxa := MemAt.of_owns hown
  have ox := Lib.hid (fun k (hk : ((.slice px s.d.length cx) : Value).ownBlock = some k) => (⟨by have := ownBase hown hk; omega, own_lt hown hk⟩ : w2.heap.size ≤ k ∧ k < wa.heap.size))
  clear HR HCP hown
  have hza := hba.size
  have hBa : Below w.heap.size w wa := bThen hba hB2.size hB2
  have hOa := Lib.hid (owns_empty wa wa.heap.size 21 wa.heap.size rfl (Nat.le_refl _))
  have HMa := Lib.hid (Src.of_rd (hrm.below (hBa.trans ((bAlloc (o := .cells #[] 21) (Nat.le_refl _) (Below.refl wa.heap.size wa)).mono hBa.size)) (Nat.le_refl _)) hm0)
  have H1 := Lib.hid (show ∀ u ∈ sh.map (Value.int .i32), u.oneCell' = true from fun u hu => by obtain ⟨y, _, rfl⟩ := List.mem_map.1 hu; rfl)
  go_wp2_with (first | (at_builtin; refine wpList_append_new _ rfl (.tmp 27) (.tmp 28) 27 rfl wa.heap.size 21 i0 (.int .i32 0) 1 4 hxi hi0 hz0' hz1' hz2' rfl (by decide) _ rfl hOa.out _ sh.length (sh.map (.int .i32)) rfl HMa.out H1.out ?c1 ?c2 ?c3 ?_))
  case c1 => unfold maxLen; omega
  case c2 => omega
  case c3 => simp
  intro pm cm wb hownb hgb
  clear hOa HMa H1
  have hbb : Below wa.heap.size wa wb := Below.grown (bAlloc (Nat.le_refl _) (Below.refl _ _)) hgb (by simp) (fun k hk => by simp [Value.ownBlock] at hk; omega)
  clear hgb
  have hzb := hbb.size
  have hmab : MemAt wb (.slice pm sh.length cm) sh := MemAt.of_owns hownb
  have om := Lib.hid (fun k (hk : ((.slice pm sh.length cm) : Value).ownBlock = some k) => (⟨by have := ownBase hownb hk; omega, own_lt hownb hk⟩ : wa.heap.size ≤ k ∧ k < wb.heap.size))
  have hmxb := hmxa.below hbb (Nat.le_refl _)
  have hb2b : Below w2.heap.size w2 wb := hba.trans (hbb.mono hza)
  have hIb := hI2.below hb2b hI2.lt
  clear hownb hmxa hba hbb hBa
  have HX := Lib.hid (boxed_new wb [.int .i64 0, .int .i32 0, .int .i32 0, .int .i32 0, .int .i32 0, .int .i32 0, .int .i32 0, .int .i32 0, .int .i32 0, .int .i32 0, .int .i32 0, .int .i32 0, .int .i32 0, .int .i32 0, .int .i32 0, .int .i32 0, .int .i32 0, .slice none 0 0, .bool false, .int .i64 0] (stCells s (.slice px s.d.length cx)) 29)
  have HZr : Hid ((wb.alloc (.cells #[.int .i64 0, .int .i32 0, .int .i32 0, .int .i32 0, .int .i32 0, .int .i32 0, .int .i32 0, .int .i32 0, .int .i32 0, .int .i32 0, .int .i32 0, .int .i32 0, .int .i32 0, .int .i32 0, .int .i32 0, .int .i32 0, .int .i32 0, .slice none 0 0, .bool false, .int .i64 0] 29)).heap[wb.heap.size]? = some (.cells #[.int .i64 0, .int .i32 0, .int .i32 0, .int .i32 0, .int .i32 0, .int .i32 0, .int .i32 0, .int .i32 0, .int .i32 0, .int .i32 0, .int .i32 0, .int .i32 0, .int .i32 0, .int .i32 0, .int .i32 0, .int .i32 0, .int .i32 0, .slice none 0 0, .bool false, .int .i64 0] 29 (0, 0))) := (show _ = _ from heap_alloc_new _ _)
  have HIx : Hid ((Tryd.prog.info? 29).map (·.size) = some (stCells s (.slice px s.d.length cx)).toArray.size) := (show _ = _ by rw [List.size_toArray, stCells_len hr]; exact infoState)
  have HZs : Hid ((#[.int .i64 0, .int .i32 0, .int .i32 0, .int .i32 0, .int .i32 0, .int .i32 0, .int .i32 0, .int .i32 0, .int .i32 0, .int .i32 0, .int .i32 0, .int .i32 0, .int .i32 0, .int .i32 0, .int .i32 0, .int .i32 0, .int .i32 0, .slice none 0 0, .bool false, .int .i64 0] : Array Value).size = (stCells s (.slice px s.d.length cx)).toArray.size) := (show (20 : Nat) = _ by rw [List.size_toArray, stCells_len hr])
  have HAll : Hid ((stCells s (.slice px s.d.length cx)).toArray.all (·.oneCell') = true) := (show _ = _ from stCells_one _ _ _ _)
  go_wp2_with (first | (refine wpList_store_row rfl 29 (.tmp 11) (.tmp 26) rfl wb.heap.size _ rfl rfl 29 _ HZr.out HIx.out HZs.out HAll.out ?_; obtain ⟨w8, hw8, hx8, hC8, hs8⟩ := HX.out; rw [hw8]; clear hw8 HX HZr; have hs8' : wb.heap.size < w8.heap.size := (by omega); clear hs8; have hM8 := hIb.below hC8 hIb.lt; have hm8 := hM8.lt; have q0 := hM8.cell 0; have q1 := hM8.cell 1; have q2 := hM8.cell 2; have q3 := hM8.cell 3; simp only [List.getElem?_cons_zero, List.getElem?_cons_succ] at q0 q1 q2 q3))
  have hA8 : Side w2.heap.size w8 wb.heap.size (.slice px s.d.length cx) (.slice pm sh.length cm) s sh := side_of (w0 := w2) (w2 := w2) (be := 0) hr hx8 (hmxb.below hC8 (Nat.le_refl _)) (hmab.below hC8 (Nat.le_refl _)) (by omega) (fun k hk => by have h := ox.out k hk; exact ⟨h.1, by omega, by omega⟩) (fun k hk => by
    have h := om.out k hk
    exact ⟨by omega, by omega, by omega, fun e => by have h2 := ox.out k e; omega⟩) R32.out D32.out M32.out
  have hb28 : Below w2.heap.size w2 w8 := hb2b.trans (hC8.mono (by omega))
  clear hx8 hmxb hmab hC8 ox om HIx HZs HAll hIb hb2b
  have hb89 : Below w8.heap.size w8 (w8.alloc (.cells #[.int .i64 (-1)] 3)) := bAlloc (Nat.le_refl _) (Below.refl _ _)
  have hq9 : RowAt (w8.alloc (.cells #[.int .i64 (-1)] 3)) w8.heap.size [.int .i64 (-1)] := ⟨_, heap_alloc_new _ _⟩
  generalize (w8.alloc (.cells #[.int .i64 (-1)] 3)) = w9 at hb89 hq9 ⊢
  have hb29 : Below w2.heap.size w2 w9 := hb28.trans (hb89.mono hb28.size)
  have hB9 : Below w.heap.size w w9 := hB2.trans (hb29.mono hB2.size)
  have hA9 := hA8.below hb89
  have howF : Hid (∀ k, OwnF wb.heap.size (.slice px s.d.length cx) (.slice pm sh.length cm) k → w2.heap.size ≤ k ∧ k < w8.heap.size) := (show ∀ k, OwnF wb.heap.size (.slice px s.d.length cx) (.slice pm sh.length cm) k → _ from fun k hk => hA8.own k hk)
  have hI9 := hI2.below hb29 hI2.lt
  have hN9 := hN2.below hb29 hN2.lt
  have hS9 := hS2.below hb29 hS2.lt
  have him9 := him2.below hb29 (Nat.le_refl _)
  have hz29 := hb29.size
  have hz28 := hb28.size
  have hl9 := hN2.lt
  have hlI := hI2.lt
  clear hM8 hm8 q0 q1 q2 q3 hA8 hb28 hb89 hI2 hS2 hrd2 hrm2 hs8'
  have hST := step_all (.agg #[.slice cp im.code.length ccap, .slice ep im.ents.length ecap, .int .i64 im.sh, .int .i64 im.lk]) im t wb.heap.size s (.slice px s.d.length cx) (.slice pm sh.length cm) (.func (.func 8) #[] #[.pointer (some ⟨w8.heap.size, 0, none⟩), .pointer (some ⟨(w.heap.size + 1 + 1), 0, none⟩)]) sh (fun _ => inp) (fun i W => W.setCell ⟨w8.heap.size, 0, none⟩ (.int .i64 i)) w9 ⟨hT.of_below hB9, hO.of_below hB9, him9, hA9.st, hA9.d, hA9.m, hA9.dS, hA9.mS, hA9.dm, hA9.r32⟩ (fun i => .st 8 #[.pointer (some ⟨w8.heap.size, 0, none⟩), .pointer (some ⟨(w.heap.size + 1 + 1), 0, none⟩)] ⟨w8.heap.size, 0, none⟩ (.int .i64 i) rfl (enters_of Tryd.func8 (by kernel_rfl) rfl) rfl hq9.lt (fun e => by have h : w8.heap.size = wb.heap.size := e; have := (howF.out _ (.inl rfl)).2; omega) (fun e => by have := (howF.out _ (.inr (.inl e))).2; exact Nat.lt_irrefl _ this) (fun e => by have := (howF.out _ (.inr (.inr e))).2; exact Nat.lt_irrefl _ this) (fun W hb => ask_port _ _ W i inp (-1) (hq9.below hb hq9.lt) ((hN9.below hb hN9.lt).cell 0) (by omega)))
  have HST := Lib.hid hST
  clear hST
  have q0 := hI9.cell 0
  have q1 := hI9.cell 1
  have q2 := hI9.cell 2
  have q3 := hI9.cell 3
  simp only [List.getElem?_cons_zero, List.getElem?_cons_succ] at q0 q1 q2 q3
  have hlI9 := hI9.lt
  have hmf : ∀ (fn : Fn) (first cap : Array Value) (w : World), (Instr.makeFunc fn first cap).run Tryd.prog w = .ok (.func fn first cap) w := fun _ _ _ _ => rfl
  go_wp2_with fail
  refine HST.out.mono ?_
  clear HST q0 q1 q2 q3
  intro e wz hz
  by_cases hbad : fitP im t s = false ∨ s.halted = true
  · have hs : stepP im t s sh (fun _ => inp) = .error 14 := by unfold stepP; rw [if_pos hbad]
    rw [hs] at hz
    obtain ⟨rfl, hbz⟩ := hz
    simp only [effZ]
    have hBz : Below w.heap.size w wz := hB9.trans (hbz.mono hB9.size)
    have hIz := hI9.below hbz hI9.lt
    have hSz := hS9.below hbz hS9.lt
    have himz := him9.below hbz (Nat.le_refl _)
    have hXz := hA9.below hbz
    clear hs hbz hI9 hS9 him9 hA9 hq9 hN9 howF hmf
    have hb10 : Below wz.heap.size wz (wz.alloc (.cells #[.int .u8 0, .int .i64 0, .int .i64 0, .int .i64 0, .int .i64 0, .int .i64 0, .bool false, .int .i64 0, .int .i32 0] 36)) := bAlloc (Nat.le_refl _) (Below.refl _ _)
    have hE10 : RowAt (wz.alloc (.cells #[.int .u8 0, .int .i64 0, .int .i64 0, .int .i64 0, .int .i64 0, .int .i64 0, .bool false, .int .i64 0, .int .i32 0] 36)) wz.heap.size [.int .u8 0, .int .i64 0, .int .i64 0, .int .i64 0, .int .i64 0, .int .i64 0, .bool false, .int .i64 0, .int .i32 0] := ⟨_, heap_alloc_new _ _⟩
    have HS10 := Lib.hid (hSz.below hb10 hSz.lt).range
    have FIT := Lib.hid (rfitsS s (.slice dp s.d.length dcap) (.agg #[.slice cp im.code.length ccap, .slice ep im.ents.length ecap, .int .i64 im.sh, .int .i64 im.lk]) im t (wz.alloc (.cells #[.int .u8 0, .int .i64 0, .int .i64 0, .int .i64 0, .int .i64 0, .int .i64 0, .bool false, .int .i64 0, .int .i32 0] 36)) hr (himz.below hb10 (Nat.le_refl _)) ⟨_, _, rfl⟩)
    have hlIz := hIz.lt
    have q0 := hIz.cell 0
    have q1 := hIz.cell 1
    have q2 := hIz.cell 2
    have q3 := hIz.cell 3
    simp only [List.getElem?_cons_zero, List.getElem?_cons_succ] at q0 q1 q2 q3
    go_wp2_with (first | (refine wpList_load_mid rfl 29 (.tmp 7) rfl (w.heap.size + 1) 0 rfl (stCells s (.slice dp s.d.length dcap)) _ HS10.out Tryd.underlying29 rfl HI.out ?_; simp only [put_lit, put_no]; dsimp only [List.set_cons_succ, List.set_cons_zero]))
    refine FIT.out.mono ?_
    clear FIT HS10 q0 q1 q2 q3
    rintro e w11 ⟨rfl, hb11⟩
    have hbz11 : Below wz.heap.size wz w11 := hb10.trans (hb11.mono hb10.size)
    have hE11 := hE10.below hb11 hE10.lt
    have hB11 : Below w.heap.size w w11 := hBz.trans (hbz11.mono hBz.size)
    have hS11 := hSz.below hbz11 hSz.lt
    have hI11 := hIz.below hbz11 hIz.lt
    have hrd11 := hrd.below hB11 (Nat.le_refl _)
    have hrm11 := hrm.below hB11 (Nat.le_refl _)
    have hlS11 := hS11.lt
    have hlE11 := hE11.lt
    clear hb10 hE10 hb11 hlIz
    have hX11 := hXz.below hbz11
    cases hfit : fitP im t s
    · skip
      have HX11 := Lib.hid hX11.st.2.range
      have HIx : Hid ((Tryd.prog.info? 29).map (·.size) = some (stCells s (.slice px s.d.length cx)).length) := (show _ = _ by rw [stCells_len hr]; exact infoState)
      have HS11 := Lib.hid hS11.range
      have HE := Lib.hid (equalS s (.slice px s.d.length cx) (.slice dp s.d.length dcap) w11 hr hX11.d.rd hrd11 (by omega))
      have HWd := Lib.hid (fun w' (hb : Below w11.heap.size w11 w') => words_any (.slice pm sh.length cm) (.slice mp sh.length mcap) sh sh w' (hX11.m.rd.below hb (Nat.le_refl _)) (hrm11.below hb (Nat.le_refl _)) (by omega))
      go_wp2_with (first | (refine BigFrame.wpList_want rfl (fun K hK => wp_load_mid 29 (.tmp 11) rfl wb.heap.size 0 rfl (stCells s (.slice px s.d.length cx)) _ HX11.out Tryd.underlying29 rfl HIx.out (hK _ _ ?_)); simp only [put_lit, put_no]; dsimp only [List.set_cons_succ, List.set_cons_zero]) | (refine BigFrame.wpList_want rfl (fun K hK => wp_load_mid 29 (.tmp 7) rfl (w.heap.size + 1) 0 rfl (stCells s (.slice dp s.d.length dcap)) _ HS11.out Tryd.underlying29 rfl HI.out (hK _ _ ?_)); simp only [put_lit, put_no]; dsimp only [List.set_cons_succ, List.set_cons_zero]))
      refine HE.out.mono ?_
      clear HE
      rintro e w14 ⟨rfl, hb14⟩
      go_wp2_with fail
      have hwd := HWd.out w14 hb14
      simp only [decide_true] at hwd
      refine hwd.mono ?_
      clear hwd HWd
      rintro e w15 ⟨rfl, hb15⟩
      have hbe : Below w11.heap.size w11 w15 := bThen hb15 hb14.size hb14
      clear hb14 hb15
      have hE15 := hE11.below hbe hE11.lt
      have e0 := hE15.cell 0
      have e1 := hE15.cell 1
      have e2 := hE15.cell 2
      have e3 := hE15.cell 3
      have e4 := hE15.cell 4
      have e5 := hE15.cell 5
      have e6 := hE15.cell 6
      have e7 := hE15.cell 7
      have e8 := hE15.cell 8
      simp only [List.getElem?_cons_zero, List.getElem?_cons_succ] at e0 e1 e2 e3 e4 e5 e6 e7 e8
      have hlE := hE15.lt
      have heq : ∀ w, (binOp .eql 36 (.agg #[.int .u8 0, .int .i64 0, .int .i64 0, .int .i64 0, .int .i64 0, .int .i64 0, .bool false, .int .i64 0, .int .i32 0]) (.agg #[.int .u8 0, .int .i64 0, .int .i64 0, .int .i64 0, .int .i64 0, .int .i64 0, .bool false, .int .i64 0, .int .i32 0])).run Tryd.prog w = .ok (.bool true) w := fun w => eql_ef 0 0 0 0 0 0 false 0 0 w
      go_wp2_with fail
      go_ret
      exact ⟨rfl, bThen hbe hB11.size hB11⟩
    have hal : s.halted = true := by rcases hbad with h | h; (rw [hfit] at h; cases h); exact h
    have c18 := (show StAt w11 (w.heap.size + 1) s (.slice dp s.d.length dcap) from ⟨hr, hS11⟩).halted
    rw [hal] at c18
    have HX11 := Lib.hid hX11.st.2.range
    have HIx : Hid ((Tryd.prog.info? 29).map (·.size) = some (stCells s (.slice px s.d.length cx)).length) := (show _ = _ by rw [stCells_len hr]; exact infoState)
    have HS11 := Lib.hid hS11.range
    have HE := Lib.hid (equalS s (.slice px s.d.length cx) (.slice dp s.d.length dcap) w11 hr hX11.d.rd hrd11 (by omega))
    have HWd := Lib.hid (fun w' (hb : Below w11.heap.size w11 w') => words_any (.slice pm sh.length cm) (.slice mp sh.length mcap) sh sh w' (hX11.m.rd.below hb (Nat.le_refl _)) (hrm11.below hb (Nat.le_refl _)) (by omega))
    go_wp2_with (first | (refine BigFrame.wpList_want rfl (fun K hK => wp_load_mid 29 (.tmp 11) rfl wb.heap.size 0 rfl (stCells s (.slice px s.d.length cx)) _ HX11.out Tryd.underlying29 rfl HIx.out (hK _ _ ?_)); simp only [put_lit, put_no]; dsimp only [List.set_cons_succ, List.set_cons_zero]) | (refine BigFrame.wpList_want rfl (fun K hK => wp_load_mid 29 (.tmp 7) rfl (w.heap.size + 1) 0 rfl (stCells s (.slice dp s.d.length dcap)) _ HS11.out Tryd.underlying29 rfl HI.out (hK _ _ ?_)); simp only [put_lit, put_no]; dsimp only [List.set_cons_succ, List.set_cons_zero]))
    refine HE.out.mono ?_
    clear HE
    rintro e w14 ⟨rfl, hb14⟩
    go_wp2_with fail
    have hwd := HWd.out w14 hb14
    simp only [decide_true] at hwd
    refine hwd.mono ?_
    clear hwd HWd
    rintro e w15 ⟨rfl, hb15⟩
    have hbe : Below w11.heap.size w11 w15 := bThen hb15 hb14.size hb14
    clear hb14 hb15
    have hE15 := hE11.below hbe hE11.lt
    have e0 := hE15.cell 0
    have e1 := hE15.cell 1
    have e2 := hE15.cell 2
    have e3 := hE15.cell 3
    have e4 := hE15.cell 4
    have e5 := hE15.cell 5
    have e6 := hE15.cell 6
    have e7 := hE15.cell 7
    have e8 := hE15.cell 8
    simp only [List.getElem?_cons_zero, List.getElem?_cons_succ] at e0 e1 e2 e3 e4 e5 e6 e7 e8
    have hlE := hE15.lt
    have heq : ∀ w, (binOp .eql 36 (.agg #[.int .u8 0, .int .i64 0, .int .i64 0, .int .i64 0, .int .i64 0, .int .i64 0, .bool false, .int .i64 0, .int .i32 0]) (.agg #[.int .u8 0, .int .i64 0, .int .i64 0, .int .i64 0, .int .i64 0, .int .i64 0, .bool false, .int .i64 0, .int .i32 0])).run Tryd.prog w = .ok (.bool true) w := fun w => eql_ef 0 0 0 0 0 0 false 0 0 w
    go_wp2_with fail
    go_ret
    exact ⟨rfl, bThen hbe hB11.size hB11⟩
  obtain ⟨hfit, hal⟩ : fitP im t s = true ∧ s.halted = false := by
    constructor
    · cases h : fitP im t s with
      | false => exact absurd (.inl h) hbad
      | true => rfl
    · cases h : s.halted with
      | true => exact absurd (.inr h) hbad
      | false => rfl
  clear hbad
  rcases hs : stepP im t s sh (fun _ => inp) with er | ⟨f, s', m'⟩
  · have her := stepP_err hs
    have herb : (er != 0) = true := by simpa using her
    rw [hs] at hz
    obtain ⟨rfl, hbz⟩ := hz
    simp only [effZ]
    have hBz : Below w.heap.size w wz := hB9.trans (hbz.mono hB9.size)
    have hIz := hI9.below hbz hI9.lt
    have hSz := hS9.below hbz hS9.lt
    have hNz := hN9.below hbz hN9.lt
    have hqz := hq9.below hbz hq9.lt
    have himz := him9.below hbz (Nat.le_refl _)
    have hXz := hA9.below hbz
    clear hbz hI9 hS9 him9 hA9 hq9 hN9 howF hmf him2 hb29
    have hb10 : Below wz.heap.size wz (wz.alloc (.cells #[.int .u8 0, .int .i64 0, .int .i64 0, .int .i64 0, .int .i64 0, .int .i64 0, .bool false, .int .i64 0, .int .i32 0] 36)) := bAlloc (Nat.le_refl _) (Below.refl _ _)
    have hE10 : RowAt (wz.alloc (.cells #[.int .u8 0, .int .i64 0, .int .i64 0, .int .i64 0, .int .i64 0, .int .i64 0, .bool false, .int .i64 0, .int .i32 0] 36)) wz.heap.size [.int .u8 0, .int .i64 0, .int .i64 0, .int .i64 0, .int .i64 0, .int .i64 0, .bool false, .int .i64 0, .int .i32 0] := ⟨_, heap_alloc_new _ _⟩
    have HS10 := Lib.hid (hSz.below hb10 hSz.lt).range
    have FIT := Lib.hid (rfitsS s (.slice dp s.d.length dcap) (.agg #[.slice cp im.code.length ccap, .slice ep im.ents.length ecap, .int .i64 im.sh, .int .i64 im.lk]) im t (wz.alloc (.cells #[.int .u8 0, .int .i64 0, .int .i64 0, .int .i64 0, .int .i64 0, .int .i64 0, .bool false, .int .i64 0, .int .i32 0] 36)) hr (himz.below hb10 (Nat.le_refl _)) ⟨_, _, rfl⟩)
    have hlIz := hIz.lt
    have q0 := hIz.cell 0
    have q1 := hIz.cell 1
    have q2 := hIz.cell 2
    have q3 := hIz.cell 3
    simp only [List.getElem?_cons_zero, List.getElem?_cons_succ] at q0 q1 q2 q3
    go_wp2_with (first | (refine wpList_load_mid rfl 29 (.tmp 7) rfl (w.heap.size + 1) 0 rfl (stCells s (.slice dp s.d.length dcap)) _ HS10.out Tryd.underlying29 rfl HI.out ?_; simp only [put_lit, put_no]; dsimp only [List.set_cons_succ, List.set_cons_zero]))
    refine FIT.out.mono ?_
    clear FIT HS10 q0 q1 q2 q3
    rintro e w11 ⟨rfl, hb11⟩
    have hbz11 : Below wz.heap.size wz w11 := hb10.trans (hb11.mono hb10.size)
    have hE11 := hE10.below hb11 hE10.lt
    have hB11 : Below w.heap.size w w11 := hBz.trans (hbz11.mono hBz.size)
    have hS11 := hSz.below hbz11 hSz.lt
    have hI11 := hIz.below hbz11 hIz.lt
    have hrd11 := hrd.below hB11 (Nat.le_refl _)
    have hrm11 := hrm.below hB11 (Nat.le_refl _)
    have hlS11 := hS11.lt
    have hlE11 := hE11.lt
    clear hb10 hE10 hb11 hlIz
    have him11 := himz.below hbz11 (Nat.le_refl _)
    have c18 := (show StAt w11 (w.heap.size + 1) s (.slice dp s.d.length dcap) from ⟨hr, hS11⟩).halted
    rw [hal] at c18
    have RS := Lib.hid (rstep_any im t s dp cp ep dcap ccap ecap mp mcap sh inp w11 hr him11 hfit hal hrd11 hn0 hrm11 hm0 R32 D32 M32 hin (by omega) (by omega))
    have HS11 := Lib.hid hS11.range
    have hN11 := hNz.below hbz11 hNz.lt
    have n0 := hN11.cell 0
    have hlN11 := hN11.lt
    have hlI11 := hI11.lt
    simp only [List.getElem?_cons_zero] at n0
    have q0 := hI11.cell 0
    have q1 := hI11.cell 1
    have q2 := hI11.cell 2
    have q3 := hI11.cell 3
    simp only [List.getElem?_cons_zero, List.getElem?_cons_succ] at q0 q1 q2 q3
    rw [hfit]
    clear himz him11 hIz hSz hNz 
    go_wp2_with (first | (refine wpList_load_mid rfl 29 (.tmp 7) rfl (w.heap.size + 1) 0 rfl (stCells s (.slice dp s.d.length dcap)) _ HS11.out Tryd.underlying29 rfl HI.out ?_; simp only [put_lit, put_no]; dsimp only [List.set_cons_succ, List.set_cons_zero]))
    refine RS.out.mono ?_
    clear RS HS11 q0 q1 q2 q3 n0 c18 hI11 hN11 hlN11 hlI11
    intro e w12 hz2
    rw [hs] at hz2
    obtain ⟨rfl, hb12⟩ := hz2
    have HXo := Lib.hid (boxed_new w12 [.int .i64 0, .int .i32 0, .int .i32 0, .int .i32 0, .int .i32 0, .int .i32 0, .int .i32 0, .int .i32 0, .int .i32 0, .int .i32 0, .int .i32 0, .int .i32 0, .int .i32 0, .int .i32 0, .int .i32 0, .int .i32 0, .int .i32 0, .slice none 0 0, .bool false, .int .i64 0, .slice none 0 0, .int .u8 0, .int .i64 0, .int .i64 0, .int .i64 0, .int .i64 0, .bool false, .int .i64 0, .int .i32 0] (zero29) 46)
    have HZr : Hid ((w12.alloc (.cells #[.int .i64 0, .int .i32 0, .int .i32 0, .int .i32 0, .int .i32 0, .int .i32 0, .int .i32 0, .int .i32 0, .int .i32 0, .int .i32 0, .int .i32 0, .int .i32 0, .int .i32 0, .int .i32 0, .int .i32 0, .int .i32 0, .int .i32 0, .slice none 0 0, .bool false, .int .i64 0, .slice none 0 0, .int .u8 0, .int .i64 0, .int .i64 0, .int .i64 0, .int .i64 0, .bool false, .int .i64 0, .int .i32 0] 46)).heap[w12.heap.size]? = some (.cells #[.int .i64 0, .int .i32 0, .int .i32 0, .int .i32 0, .int .i32 0, .int .i32 0, .int .i32 0, .int .i32 0, .int .i32 0, .int .i32 0, .int .i32 0, .int .i32 0, .int .i32 0, .int .i32 0, .int .i32 0, .int .i32 0, .int .i32 0, .slice none 0 0, .bool false, .int .i64 0, .slice none 0 0, .int .u8 0, .int .i64 0, .int .i64 0, .int .i64 0, .int .i64 0, .bool false, .int .i64 0, .int .i32 0] 46 (0, 0))) := (show _ = _ from heap_alloc_new _ _)
    have HSo : Hid ((#[.int .i64 0, .int .i32 0, .int .i32 0, .int .i32 0, .int .i32 0, .int .i32 0, .int .i32 0, .int .i32 0, .int .i32 0, .int .i32 0, .int .i32 0, .int .i32 0, .int .i32 0, .int .i32 0, .int .i32 0, .int .i32 0, .int .i32 0, .slice none 0 0, .bool false, .int .i64 0, .slice none 0 0, .int .u8 0, .int .i64 0, .int .i64 0, .int .i64 0, .int .i64 0, .bool false, .int .i64 0, .int .i32 0] : Array Value).size = (zero29).toArray.size) := (show _ = _ from rfl)
    have HIo : Hid ((Tryd.prog.info? 46).map (·.size) = some (zero29).toArray.size) := info29h
    have HAo : Hid ((zero29).toArray.all (·.oneCell') = true) := zone29
    go_upto_region 11 with (first | (refine wpList_store_row rfl 46 (.tmp 16) (.tmp 71) rfl w12.heap.size _ rfl rfl 46 _ HZr.out HIo.out HSo.out HAo.out ?_; simp only [put_no]))
    obtain ⟨w13, hw13, hO13, hC13, hs13⟩ := HXo.out
    rw [hw13]
    clear hw13 HXo HZr HSo HIo HAo hs13
    have hb13 : Below w11.heap.size w11 w13 := hb12.trans (hC13.mono hb12.size)
    have hB13 : Below w.heap.size w w13 := hB11.trans (hb13.mono hB11.size)
    have hS13 := hS11.below hb13 hS11.lt
    have hE13 := hE11.below hb13 hE11.lt
    have hq11 := hqz.below hbz11 hqz.lt
    have hq13 := hq11.below hb13 hq11.lt
    have hrd13 := hrd.below hB13 (Nat.le_refl _)
    have hrm13 := hrm.below hB13 (Nat.le_refl _)
    have hlS13 := hS13.lt
    have hlE13 := hE13.lt
    have hlq13 := hq13.lt
    have qa := hq13.cell 0
    simp only [List.getElem?_cons_zero] at qa
    have hX11 := hXz.below hbz11
    have hX13 := hX11.below hb13
    have HX13 := Lib.hid hX13.st.2.range
    have HIx : Hid ((Tryd.prog.info? 29).map (·.size) = some (stCells s (.slice px s.d.length cx)).length) := (show _ = _ by rw [stCells_len hr]; exact infoState)
    have HS13 := Lib.hid hS13.range
    clear hO13 hC13 hb13 hb12 hq11 hXz hX11 hS11 hE11 hrd11 hrm11
    have HE := Lib.hid (equalS s (.slice px s.d.length cx) (.slice dp s.d.length dcap) w13 hr hX13.d.rd hrd13 (by omega))
    have HWd := Lib.hid (fun w' (hb : Below w13.heap.size w13 w') => words_any (.slice pm sh.length cm) (.slice mp sh.length mcap) sh sh w' (hX13.m.rd.below hb (Nat.le_refl _)) (hrm13.below hb (Nat.le_refl _)) (by omega))
    go_wp2_with (first | (refine BigFrame.wpList_want rfl (fun K hK => wp_load_mid 29 (.tmp 11) rfl wb.heap.size 0 rfl (stCells s (.slice px s.d.length cx)) _ HX13.out Tryd.underlying29 rfl HIx.out (hK _ _ ?_)); simp only [put_lit, put_no]; dsimp only [List.set_cons_succ, List.set_cons_zero]) | (refine BigFrame.wpList_want rfl (fun K hK => wp_load_mid 29 (.tmp 7) rfl (w.heap.size + 1) 0 rfl (stCells s (.slice dp s.d.length dcap)) _ HS13.out Tryd.underlying29 rfl HI.out (hK _ _ ?_)); simp only [put_lit, put_no]; dsimp only [List.set_cons_succ, List.set_cons_zero]))
    refine HE.out.mono ?_
    clear HE
    rintro e w14 ⟨rfl, hb14⟩
    go_wp2_with fail
    have hwd := HWd.out w14 hb14
    simp only [decide_true] at hwd
    refine hwd.mono ?_
    clear hwd HWd
    rintro e w15 ⟨rfl, hb15⟩
    have hbe : Below w13.heap.size w13 w15 := bThen hb15 hb14.size hb14
    clear hb14 hb15
    have hE15 := hE13.below hbe hE13.lt
    have hq15 := hq13.below hbe hq13.lt
    have qb := hq15.cell 0
    simp only [List.getElem?_cons_zero] at qb
    have e0 := hE15.cell 0
    have e1 := hE15.cell 1
    have e2 := hE15.cell 2
    have e3 := hE15.cell 3
    have e4 := hE15.cell 4
    have e5 := hE15.cell 5
    have e6 := hE15.cell 6
    have e7 := hE15.cell 7
    have e8 := hE15.cell 8
    simp only [List.getElem?_cons_zero, List.getElem?_cons_succ] at e0 e1 e2 e3 e4 e5 e6 e7 e8
    have hlE := hE15.lt
    have hlq := hq15.lt
    clear qa
    have heq : ∀ w, (binOp .eql 36 (.agg #[.int .u8 0, .int .i64 0, .int .i64 0, .int .i64 0, .int .i64 0, .int .i64 0, .bool false, .int .i64 0, .int .i32 0]) (.agg #[.int .u8 0, .int .i64 0, .int .i64 0, .int .i64 0, .int .i64 0, .int .i64 0, .bool false, .int .i64 0, .int .i32 0])).run Tryd.prog w = .ok (.bool true) w := fun w => eql_ef 0 0 0 0 0 0 false 0 0 w
    go_wp2_with fail
    go_ret
    exact ⟨rfl, bThen hbe hB13.size hB13⟩
  · obtain ⟨-, -, hpc, h26, hn30⟩ := stepP_yes hs
    obtain ⟨hdl', hml'⟩ := stepP_len hs
    have hdl1 : s'.d.length ≤ 1000 := by omega
    have hml1 : m'.length ≤ 1000 := by omega
    have HPC := Lib.hid hpc
    have H26 := Lib.hid h26
    clear hdl' hml' hpc h26 hn30
    rw [hs] at hz
    obtain ⟨rfl, hKz, hStz, hDz, hMz⟩ := hz
    simp only [Ef.val, effV]
    have hrq : RowAt (if f.n = 26 then w9.setCell ⟨w8.heap.size, 0, none⟩ (.int .i64 f.i) else w9) w8.heap.size [.int .i64 (if f.n = 26 then f.i else -1)] := by
      split
      · exact hq9.set 0 _
      · exact hq9
    have hb9q : Below w2.heap.size w9 (if f.n = 26 then w9.setCell ⟨w8.heap.size, 0, none⟩ (.int .i64 f.i) else w9) := by
      split
      · exact bSet (by show w2.heap.size ≤ w8.heap.size; omega) (Below.refl _ _)
      · exact Below.refl _ _
    have hsq : (if f.n = 26 then w9.setCell ⟨w8.heap.size, 0, none⟩ (.int .i64 f.i) else w9).heap.size = w9.heap.size := by
      split
      · simp [World.setCell]
      · rfl
    have hqz := hrq.block (hKz.block _ hrq.lt (fun h => by have := (howF.out _ h).2; exact Nat.lt_irrefl _ this))
    have hbz : Below w2.heap.size w9 wz := hb9q.trans (hKz.below (by rw [hsq]; exact hz29) (fun k h => (howF.out k h).1))
    have hBz : Below w.heap.size w wz := hB9.trans (hbz.mono hB2.size)
    have hIz := hI9.below hbz hlI
    have hSz := hS9.below hbz hlS
    have hNz := hN9.below hbz hl9
    have himz := him2.below (hb29.trans hbz) (Nat.le_refl _)
    clear hrq hb9q hsq hKz hbz hI9 hS9 him9 hA9 hq9 hN9 howF hmf him2 hb29
    have hb10 : Below wz.heap.size wz (wz.alloc (.cells #[.int .u8 f.n, .int .i64 f.a, .int .i64 f.b, .int .i64 f.c, .int .i64 f.i, .int .i64 f.pc, .bool f.tk, .int .i64 f.ad, .int .i32 f.vl] 36)) := bAlloc (Nat.le_refl _) (Below.refl _ _)
    have hE10 : RowAt (wz.alloc (.cells #[.int .u8 f.n, .int .i64 f.a, .int .i64 f.b, .int .i64 f.c, .int .i64 f.i, .int .i64 f.pc, .bool f.tk, .int .i64 f.ad, .int .i32 f.vl] 36)) wz.heap.size [.int .u8 f.n, .int .i64 f.a, .int .i64 f.b, .int .i64 f.c, .int .i64 f.i, .int .i64 f.pc, .bool f.tk, .int .i64 f.ad, .int .i32 f.vl] := ⟨_, heap_alloc_new _ _⟩
    have HS10 := Lib.hid (hSz.below hb10 hSz.lt).range
    have FIT := Lib.hid (rfitsS s (.slice dp s.d.length dcap) (.agg #[.slice cp im.code.length ccap, .slice ep im.ents.length ecap, .int .i64 im.sh, .int .i64 im.lk]) im t (wz.alloc (.cells #[.int .u8 f.n, .int .i64 f.a, .int .i64 f.b, .int .i64 f.c, .int .i64 f.i, .int .i64 f.pc, .bool f.tk, .int .i64 f.ad, .int .i32 f.vl] 36)) hr (himz.below hb10 (Nat.le_refl _)) ⟨_, _, rfl⟩)
    have hlIz := hIz.lt
    have q0 := hIz.cell 0
    have q1 := hIz.cell 1
    have q2 := hIz.cell 2
    have q3 := hIz.cell 3
    simp only [List.getElem?_cons_zero, List.getElem?_cons_succ] at q0 q1 q2 q3
    go_wp2_with (first | (refine wpList_load_mid rfl 29 (.tmp 7) rfl (w.heap.size + 1) 0 rfl (stCells s (.slice dp s.d.length dcap)) _ HS10.out Tryd.underlying29 rfl HI.out ?_; simp only [put_lit, put_no]; dsimp only [List.set_cons_succ, List.set_cons_zero]))
    refine FIT.out.mono ?_
    clear FIT HS10 q0 q1 q2 q3
    rintro e w11 ⟨rfl, hb11⟩
    have hbz11 : Below wz.heap.size wz w11 := hb10.trans (hb11.mono hb10.size)
    have hE11 := hE10.below hb11 hE10.lt
    have hB11 : Below w.heap.size w w11 := hBz.trans (hbz11.mono hBz.size)
    have hS11 := hSz.below hbz11 hSz.lt
    have hI11 := hIz.below hbz11 hIz.lt
    have hrd11 := hrd.below hB11 (Nat.le_refl _)
    have hrm11 := hrm.below hB11 (Nat.le_refl _)
    have hlS11 := hS11.lt
    have hlE11 := hE11.lt
    clear hb10 hE10 hb11 hlIz
    have him11 := himz.below hbz11 (Nat.le_refl _)
    have c18 := (show StAt w11 (w.heap.size + 1) s (.slice dp s.d.length dcap) from ⟨hr, hS11⟩).halted
    rw [hal] at c18
    have RS := Lib.hid (rstep_any im t s dp cp ep dcap ccap ecap mp mcap sh inp w11 hr him11 hfit hal hrd11 hn0 hrm11 hm0 R32 D32 M32 hin (by omega) (by omega))
    have HS11 := Lib.hid hS11.range
    have hN11 := hNz.below hbz11 hNz.lt
    have n0 := hN11.cell 0
    have hlN11 := hN11.lt
    have hlI11 := hI11.lt
    simp only [List.getElem?_cons_zero] at n0
    have q0 := hI11.cell 0
    have q1 := hI11.cell 1
    have q2 := hI11.cell 2
    have q3 := hI11.cell 3
    simp only [List.getElem?_cons_zero, List.getElem?_cons_succ] at q0 q1 q2 q3
    rw [hfit]
    clear himz him11 hIz hSz hNz 
    go_wp2_with (first | (refine wpList_load_mid rfl 29 (.tmp 7) rfl (w.heap.size + 1) 0 rfl (stCells s (.slice dp s.d.length dcap)) _ HS11.out Tryd.underlying29 rfl HI.out ?_; simp only [put_lit, put_no]; dsimp only [List.set_cons_succ, List.set_cons_zero]))
    refine RS.out.mono ?_
    clear RS HS11 q0 q1 q2 q3 n0 c18 hI11 hN11 hlN11 hlI11
    intro e w12 hz2
    rw [hs] at hz2
    obtain ⟨px2, cx2, pm2, cm2, rfl, hx2, hm2, hr', hb12⟩ := hz2
    have HXo := Lib.hid (boxed_new w12 [.int .i64 0, .int .i32 0, .int .i32 0, .int .i32 0, .int .i32 0, .int .i32 0, .int .i32 0, .int .i32 0, .int .i32 0, .int .i32 0, .int .i32 0, .int .i32 0, .int .i32 0, .int .i32 0, .int .i32 0, .int .i32 0, .int .i32 0, .slice none 0 0, .bool false, .int .i64 0, .slice none 0 0, .int .u8 0, .int .i64 0, .int .i64 0, .int .i64 0, .int .i64 0, .bool false, .int .i64 0, .int .i32 0] (outL s' (.slice px2 s'.d.length cx2) (.slice pm2 m'.length cm2) f.n f.a f.b f.c f.i f.tk f.ad f.vl) 46)
    have HZr : Hid ((w12.alloc (.cells #[.int .i64 0, .int .i32 0, .int .i32 0, .int .i32 0, .int .i32 0, .int .i32 0, .int .i32 0, .int .i32 0, .int .i32 0, .int .i32 0, .int .i32 0, .int .i32 0, .int .i32 0, .int .i32 0, .int .i32 0, .int .i32 0, .int .i32 0, .slice none 0 0, .bool false, .int .i64 0, .slice none 0 0, .int .u8 0, .int .i64 0, .int .i64 0, .int .i64 0, .int .i64 0, .bool false, .int .i64 0, .int .i32 0] 46)).heap[w12.heap.size]? = some (.cells #[.int .i64 0, .int .i32 0, .int .i32 0, .int .i32 0, .int .i32 0, .int .i32 0, .int .i32 0, .int .i32 0, .int .i32 0, .int .i32 0, .int .i32 0, .int .i32 0, .int .i32 0, .int .i32 0, .int .i32 0, .int .i32 0, .int .i32 0, .slice none 0 0, .bool false, .int .i64 0, .slice none 0 0, .int .u8 0, .int .i64 0, .int .i64 0, .int .i64 0, .int .i64 0, .bool false, .int .i64 0, .int .i32 0] 46 (0, 0))) := (show _ = _ from heap_alloc_new _ _)
    have HSo : Hid ((#[.int .i64 0, .int .i32 0, .int .i32 0, .int .i32 0, .int .i32 0, .int .i32 0, .int .i32 0, .int .i32 0, .int .i32 0, .int .i32 0, .int .i32 0, .int .i32 0, .int .i32 0, .int .i32 0, .int .i32 0, .int .i32 0, .int .i32 0, .slice none 0 0, .bool false, .int .i64 0, .slice none 0 0, .int .u8 0, .int .i64 0, .int .i64 0, .int .i64 0, .int .i64 0, .bool false, .int .i64 0, .int .i32 0] : Array Value).size = (outL s' (.slice px2 s'.d.length cx2) (.slice pm2 m'.length cm2) f.n f.a f.b f.c f.i f.tk f.ad f.vl).toArray.size) := (show (29 : Nat) = _ by rw [List.size_toArray, outL_len hr'])
    have HIo : Hid ((Tryd.prog.info? 46).map (·.size) = some (outL s' (.slice px2 s'.d.length cx2) (.slice pm2 m'.length cm2) f.n f.a f.b f.c f.i f.tk f.ad f.vl).toArray.size) := (show _ = _ by rw [List.size_toArray, outL_len hr']; exact info29)
    have HAo : Hid ((outL s' (.slice px2 s'.d.length cx2) (.slice pm2 m'.length cm2) f.n f.a f.b f.c f.i f.tk f.ad f.vl).toArray.all (·.oneCell') = true) := (show _ = _ from outL_one _ _ _ _ _ _ _ _ _ _ _ _ _ _ _)
    go_upto_region 11 with (first | (refine wpList_store_row rfl 46 (.tmp 16) (.tmp 71) rfl w12.heap.size _ rfl rfl 46 _ HZr.out HIo.out HSo.out HAo.out ?_; simp only [put_no]))
    obtain ⟨w13, hw13, hO13, hC13, hs13⟩ := HXo.out
    rw [hw13]
    clear hw13 HXo HZr HSo HIo HAo hs13
    have hb13 : Below w11.heap.size w11 w13 := hb12.trans (hC13.mono hb12.size)
    have hB13 : Below w.heap.size w w13 := hB11.trans (hb13.mono hB11.size)
    have hS13 := hS11.below hb13 hS11.lt
    have hE13 := hE11.below hb13 hE11.lt
    have hq11 := hqz.below hbz11 hqz.lt
    have hq13 := hq11.below hb13 hq11.lt
    have hrd13 := hrd.below hB13 (Nat.le_refl _)
    have hrm13 := hrm.below hB13 (Nat.le_refl _)
    have hlS13 := hS13.lt
    have hlE13 := hE13.lt
    have hlq13 := hq13.lt
    have qa := hq13.cell 0
    simp only [List.getElem?_cons_zero] at qa
    have hbz13 : Below wz.heap.size wz w13 := hbz11.trans (hb13.mono hbz11.size)
    have hSt13 := hStz.below hbz13 hStz.lt
    have hD13 := hDz.below hbz13 (Nat.le_refl _)
    have hM13 := hMz.below hbz13 (Nat.le_refl _)
    have hx13 := hx2.below hC13 (Nat.le_refl _)
    have hm13 := hm2.below hC13 (Nat.le_refl _)
    have o20 : w13.cell? ⟨w12.heap.size, 20, none⟩ = some ((.slice pm2 m'.length cm2)) := (hO13.cell 20).trans (outL_get hr' 0)
    have o21 : w13.cell? ⟨w12.heap.size, 21, none⟩ = some (.int .u8 f.n) := (hO13.cell 21).trans (outL_get hr' 1)
    have o22 : w13.cell? ⟨w12.heap.size, 22, none⟩ = some (.int .i64 f.a) := (hO13.cell 22).trans (outL_get hr' 2)
    have o23 : w13.cell? ⟨w12.heap.size, 23, none⟩ = some (.int .i64 f.b) := (hO13.cell 23).trans (outL_get hr' 3)
    have o24 : w13.cell? ⟨w12.heap.size, 24, none⟩ = some (.int .i64 f.c) := (hO13.cell 24).trans (outL_get hr' 4)
    have o25 : w13.cell? ⟨w12.heap.size, 25, none⟩ = some (.int .i64 f.i) := (hO13.cell 25).trans (outL_get hr' 5)
    have o26 : w13.cell? ⟨w12.heap.size, 26, none⟩ = some (.bool f.tk) := (hO13.cell 26).trans (outL_get hr' 6)
    have o27 : w13.cell? ⟨w12.heap.size, 27, none⟩ = some (.int .i64 f.ad) := (hO13.cell 27).trans (outL_get hr' 7)
    have o28 : w13.cell? ⟨w12.heap.size, 28, none⟩ = some (.int .i32 f.vl) := (hO13.cell 28).trans (outL_get hr' 8)
    have hlO13 := hO13.lt
    have HX13 := Lib.hid hSt13.2.range
    have HO13 := Lib.hid (outL_range hO13)
    have HIx : Hid ((Tryd.prog.info? 29).map (·.size) = some (stCells s' (.slice px s.d.length cx)).length) := (show _ = _ by rw [stCells_len hr']; exact infoState)
    have HIo : Hid ((Tryd.prog.info? 29).map (·.size) = some (stCells s' (.slice px2 s'.d.length cx2)).length) := (show _ = _ by rw [stCells_len hr']; exact infoState)
    clear hs hbz13 hStz hDz hMz hx2 hm2 hC13 hb13 hb12 hq11 hS11 hE11 hrd11 hrm11 hrd13 hrm13 hbz11 hqz
    by_cases hop : f.n = 26
    · have hge := H26.out hop
      have o21' : w13.cell? ⟨w12.heap.size, 21, none⟩ = some (.int .u8 26) := by rw [o21, hop]; rfl
      rw [if_pos hop] at qa
      clear o21 hop
      have o21 := o21'
      clear o21'
      have HE := Lib.hid (equalS s' (.slice px s.d.length cx) (.slice px2 s'.d.length cx2) w13 hr' hD13.rd hx13.rd (by omega))
      have HWd := Lib.hid (fun w' (hb : Below w13.heap.size w13 w') => words_any (.slice pm sh.length cm) (.slice pm2 m'.length cm2) m' m' w' (hM13.rd.below hb (Nat.le_refl _)) (hm13.rd.below hb (Nat.le_refl _)) (by omega))
      go_wp2_with (first | (refine BigFrame.wpList_want rfl (fun K hK => wp_load_mid 29 (.tmp 11) rfl wb.heap.size 0 rfl (stCells s' (.slice px s.d.length cx)) _ HX13.out Tryd.underlying29 rfl HIx.out (hK _ _ ?_)); simp only [put_lit, put_no]; dsimp only [List.set_cons_succ, List.set_cons_zero]) | (refine BigFrame.wpList_want rfl (fun K hK => wp_load_mid 29 (.tmp 119) rfl w12.heap.size 0 rfl (stCells s' (.slice px2 s'.d.length cx2)) _ HO13.out Tryd.underlying29 rfl HIo.out (hK _ _ ?_)); simp only [put_lit, put_no]; dsimp only [List.set_cons_succ, List.set_cons_zero]))
      refine HE.out.mono ?_
      clear HE
      rintro e w14 ⟨rfl, hb14⟩
      have o20' : w14.cell? ⟨w12.heap.size, 20, none⟩ = some ((.slice pm2 m'.length cm2)) := (hb14.cell (p := ⟨w12.heap.size, 20, none⟩) hlO13).trans o20
      go_wp2_with fail
      have hwd := HWd.out w14 hb14
      simp only [decide_true] at hwd
      refine hwd.mono ?_
      clear hwd HWd
      rintro e w15 ⟨rfl, hb15⟩
      have hbe : Below w13.heap.size w13 w15 := bThen hb15 hb14.size hb14
      clear hb14 hb15
      have hE15 := hE13.below hbe hE13.lt
      have hO15 := hO13.below hbe hO13.lt
      have hS15 := hS13.below hbe hS13.lt
      have p0 : w15.cell? ⟨w.heap.size + 1, 0, none⟩ = some (.int .i64 s.pc) := hS15.cell 0
      clear o20 o20' o21 o22 o23 o24 o25 o26 o27 o28 qa hlO13 hlE13 hlS13 hlq13
      have o20 : w15.cell? ⟨w12.heap.size, 20, none⟩ = some ((.slice pm2 m'.length cm2)) := (hO15.cell 20).trans (outL_get hr' 0)
      have o21 : w15.cell? ⟨w12.heap.size, 21, none⟩ = some (.int .u8 f.n) := (hO15.cell 21).trans (outL_get hr' 1)
      have o22 : w15.cell? ⟨w12.heap.size, 22, none⟩ = some (.int .i64 f.a) := (hO15.cell 22).trans (outL_get hr' 2)
      have o23 : w15.cell? ⟨w12.heap.size, 23, none⟩ = some (.int .i64 f.b) := (hO15.cell 23).trans (outL_get hr' 3)
      have o24 : w15.cell? ⟨w12.heap.size, 24, none⟩ = some (.int .i64 f.c) := (hO15.cell 24).trans (outL_get hr' 4)
      have o25 : w15.cell? ⟨w12.heap.size, 25, none⟩ = some (.int .i64 f.i) := (hO15.cell 25).trans (outL_get hr' 5)
      have o26 : w15.cell? ⟨w12.heap.size, 26, none⟩ = some (.bool f.tk) := (hO15.cell 26).trans (outL_get hr' 6)
      have o27 : w15.cell? ⟨w12.heap.size, 27, none⟩ = some (.int .i64 f.ad) := (hO15.cell 27).trans (outL_get hr' 7)
      have o28 : w15.cell? ⟨w12.heap.size, 28, none⟩ = some (.int .i32 f.vl) := (hO15.cell 28).trans (outL_get hr' 8)
      have e0 := hE15.cell 0
      have e1 := hE15.cell 1
      have e2 := hE15.cell 2
      have e3 := hE15.cell 3
      have e4 := hE15.cell 4
      have e5 := hE15.cell 5
      have e6 := hE15.cell 6
      have e7 := hE15.cell 7
      have e8 := hE15.cell 8
      simp only [List.getElem?_cons_zero, List.getElem?_cons_succ] at e0 e1 e2 e3 e4 e5 e6 e7 e8
      rw [HPC.out] at e5
      have hlE := hE15.lt
      have hlO := hO15.lt
      have hlSS := hS15.lt
      have heq : ∀ w, (binOp .eql 36 (.agg #[.int .u8 f.n, .int .i64 f.a, .int .i64 f.b, .int .i64 f.c, .int .i64 f.i, .int .i64 s.pc, .bool f.tk, .int .i64 f.ad, .int .i32 f.vl]) (.agg #[.int .u8 f.n, .int .i64 f.a, .int .i64 f.b, .int .i64 f.c, .int .i64 f.i, .int .i64 s.pc, .bool f.tk, .int .i64 f.ad, .int .i32 f.vl])).run Tryd.prog w = .ok (.bool true) w := fun w => eql_ef f.n f.a f.b f.c f.i s.pc f.tk f.ad f.vl w
      go_wp2_with (first | (refine BigFrame.wpList_want rfl (fun K hK => wp_buildT 36 #[(0, .tmp 132), (1, .tmp 134), (2, .tmp 136), (3, .tmp 138), (4, .tmp 140)] rfl (some 141) rfl #[.int .u8 f.n, .int .i64 f.a, .int .i64 f.b, .int .i64 f.c, .int .i64 f.i, .int .i64 s.pc, .bool f.tk, .int .i64 f.ad, .int .i32 f.vl] (by kernel_rfl) (hK _ _ ?_)); simp only [put_lit, put_no]; dsimp only [List.set_cons_succ, List.set_cons_zero]))
      go_ret
      exact ⟨rfl, bThen hbe hB13.size hB13⟩
    have hopb : ((f.n : Int) == 26) = false := by simpa using (show (f.n : Int) ≠ 26 by omega)
    rw [if_neg hop] at qa
    clear hop
    have HE := Lib.hid (equalS s' (.slice px s.d.length cx) (.slice px2 s'.d.length cx2) w13 hr' hD13.rd hx13.rd (by omega))
    have HWd := Lib.hid (fun w' (hb : Below w13.heap.size w13 w') => words_any (.slice pm sh.length cm) (.slice pm2 m'.length cm2) m' m' w' (hM13.rd.below hb (Nat.le_refl _)) (hm13.rd.below hb (Nat.le_refl _)) (by omega))
    go_wp2_with (first | (refine BigFrame.wpList_want rfl (fun K hK => wp_load_mid 29 (.tmp 11) rfl wb.heap.size 0 rfl (stCells s' (.slice px s.d.length cx)) _ HX13.out Tryd.underlying29 rfl HIx.out (hK _ _ ?_)); simp only [put_lit, put_no]; dsimp only [List.set_cons_succ, List.set_cons_zero]) | (refine BigFrame.wpList_want rfl (fun K hK => wp_load_mid 29 (.tmp 119) rfl w12.heap.size 0 rfl (stCells s' (.slice px2 s'.d.length cx2)) _ HO13.out Tryd.underlying29 rfl HIo.out (hK _ _ ?_)); simp only [put_lit, put_no]; dsimp only [List.set_cons_succ, List.set_cons_zero]))
    refine HE.out.mono ?_
    clear HE
    rintro e w14 ⟨rfl, hb14⟩
    have o20' : w14.cell? ⟨w12.heap.size, 20, none⟩ = some ((.slice pm2 m'.length cm2)) := (hb14.cell (p := ⟨w12.heap.size, 20, none⟩) hlO13).trans o20
    go_wp2_with fail
    have hwd := HWd.out w14 hb14
    simp only [decide_true] at hwd
    refine hwd.mono ?_
    clear hwd HWd
    rintro e w15 ⟨rfl, hb15⟩
    have hbe : Below w13.heap.size w13 w15 := bThen hb15 hb14.size hb14
    clear hb14 hb15
    have hE15 := hE13.below hbe hE13.lt
    have hO15 := hO13.below hbe hO13.lt
    have hS15 := hS13.below hbe hS13.lt
    have p0 : w15.cell? ⟨w.heap.size + 1, 0, none⟩ = some (.int .i64 s.pc) := hS15.cell 0
    clear o20 o20' o21 o22 o23 o24 o25 o26 o27 o28 qa hlO13 hlE13 hlS13 hlq13
    have o20 : w15.cell? ⟨w12.heap.size, 20, none⟩ = some ((.slice pm2 m'.length cm2)) := (hO15.cell 20).trans (outL_get hr' 0)
    have o21 : w15.cell? ⟨w12.heap.size, 21, none⟩ = some (.int .u8 f.n) := (hO15.cell 21).trans (outL_get hr' 1)
    have o22 : w15.cell? ⟨w12.heap.size, 22, none⟩ = some (.int .i64 f.a) := (hO15.cell 22).trans (outL_get hr' 2)
    have o23 : w15.cell? ⟨w12.heap.size, 23, none⟩ = some (.int .i64 f.b) := (hO15.cell 23).trans (outL_get hr' 3)
    have o24 : w15.cell? ⟨w12.heap.size, 24, none⟩ = some (.int .i64 f.c) := (hO15.cell 24).trans (outL_get hr' 4)
    have o25 : w15.cell? ⟨w12.heap.size, 25, none⟩ = some (.int .i64 f.i) := (hO15.cell 25).trans (outL_get hr' 5)
    have o26 : w15.cell? ⟨w12.heap.size, 26, none⟩ = some (.bool f.tk) := (hO15.cell 26).trans (outL_get hr' 6)
    have o27 : w15.cell? ⟨w12.heap.size, 27, none⟩ = some (.int .i64 f.ad) := (hO15.cell 27).trans (outL_get hr' 7)
    have o28 : w15.cell? ⟨w12.heap.size, 28, none⟩ = some (.int .i32 f.vl) := (hO15.cell 28).trans (outL_get hr' 8)
    have e0 := hE15.cell 0
    have e1 := hE15.cell 1
    have e2 := hE15.cell 2
    have e3 := hE15.cell 3
    have e4 := hE15.cell 4
    have e5 := hE15.cell 5
    have e6 := hE15.cell 6
    have e7 := hE15.cell 7
    have e8 := hE15.cell 8
    simp only [List.getElem?_cons_zero, List.getElem?_cons_succ] at e0 e1 e2 e3 e4 e5 e6 e7 e8
    rw [HPC.out] at e5
    have hlE := hE15.lt
    have hlO := hO15.lt
    have hlSS := hS15.lt
    have heq : ∀ w, (binOp .eql 36 (.agg #[.int .u8 f.n, .int .i64 f.a, .int .i64 f.b, .int .i64 f.c, .int .i64 f.i, .int .i64 s.pc, .bool f.tk, .int .i64 f.ad, .int .i32 f.vl]) (.agg #[.int .u8 f.n, .int .i64 f.a, .int .i64 f.b, .int .i64 f.c, .int .i64 f.i, .int .i64 s.pc, .bool f.tk, .int .i64 f.ad, .int .i32 f.vl])).run Tryd.prog w = .ok (.bool true) w := fun w => eql_ef f.n f.a f.b f.c f.i s.pc f.tk f.ad f.vl w
    go_wp2_with (first | (refine BigFrame.wpList_want rfl (fun K hK => wp_buildT 36 #[(0, .tmp 132), (1, .tmp 134), (2, .tmp 136), (3, .tmp 138), (4, .tmp 140)] rfl (some 141) rfl #[.int .u8 f.n, .int .i64 f.a, .int .i64 f.b, .int .i64 f.c, .int .i64 f.i, .int .i64 s.pc, .bool f.tk, .int .i64 f.ad, .int .i32 f.vl] (by kernel_rfl) (hK _ _ ?_)); simp only [put_lit, put_no]; dsimp only [List.set_cons_succ, List.set_cons_zero]))
    go_ret
    exact ⟨rfl, bThen hbe hB13.size hB13⟩

end Go.Proofs.YtdfofelchjpioaaDoor
