/- The law's run of a task, by contract. -/
import Derived.Test.YtpachmkklppmjaaDoorLkN
import Derived.Test.YtpachmkklppmjaaDoorCorT
import Derived.Test.YtpachmkklppmjaaDoorCorU
import Derived.Deep.MidRow
set_option linter.unusedVariables false
set_option linter.unusedSimpArgs false
namespace Go.Proofs.YtpachmkklppmjaaDoor
open Go.RowKit Go.Maps Go.WideMaps

abbrev stV (s : St) (dv : Value) : Value := .agg (stCells s dv).toArray
theorem port_nil (S : Nat) (dv mv : Value) : PortRun (σ := Unit) S dv mv .nilFunc (fun _ _ => 0) (fun _ _ => ()) (fun _ _ => True) (fun _ => False) (fun _ _ => id) :=
  ⟨fun _ _ _ _ => .none rfl rfl rfl, fun _ _ _ _ _ => trivial, fun _ _ _ _ => trivial, fun _ _ _ => Kept.refl _ _, fun _ _ _ => rfl, fun _ h => h.elim, fun _ _ => W32.zero⟩
theorem stCells_len {s : St} (hr : s.r.length = 16) (dv : Value) : (stCells s dv).length = 20 := by simp [stCells, hr]
theorem RowAt.range {w : World} {b : Nat} {l : List Value} (h : RowAt w b l) : w.rangeAt b 0 l := fun j v hj => by
  rw [Nat.zero_add, h.cell, hj]
theorem stCells_one (s : St) (p : Option Addr) (n c : Nat) : (stCells s (.slice p n c)).toArray.all (·.oneCell') = true := by
  simp [stCells, Value.oneCell']
theorem boxed_new (w : World) (Z l : List Value) (t : TypeId) : ∃ W, (w.alloc (.cells Z.toArray t)).setRow w.heap.size l.toArray = W ∧ RowAt W w.heap.size l ∧ Below w.heap.size w W ∧ W.heap.size = w.heap.size + 1 :=
  ⟨_, rfl, ⟨_, setRow_heap _ _ _ _ _ _ (heap_alloc_new w _)⟩, bRow (Nat.le_refl _) (bAlloc (Nat.le_refl _) (Below.refl _ _)), by simp [World.setRow]⟩
theorem infoState : (Tryd.prog.info? 42).map (·.size) = some 20 := by kernel_rfl
theorem put_noC (a : Act) (v : Value) : a.put none v = a := rfl
def s0 (st : Int) (n : Nat) : St := ⟨st, [0, 0, 0, 0, 0, 0, 0, 0, 0, 0, 0, 0, 0, 0, 0, 0], List.replicate n 0, false, -1⟩
def rnL (im : Im) (k : Nat) (mem : List Int) : Cf Unit × Nat × Int := runP im (k : Int) (fun _ _ => 0) (fun _ _ => ()) 2000 ⟨s0 (im.ents.getD k default).st (im.ents.getD k default).dat.toNat, mem, (), []⟩
def RnPost (mv : Value) (r : Cf Unit × Nat × Int) (w : World) (e : Ending) (w' : World) : Prop :=
  ∃ ov dv, e = .returned (.tuple #[ov, stV r.1.s dv, .int .i64 r.2.1, .int .i64 r.2.2]) ∧ w'.ownsRow w.heap.size 72 2 ov r.1.out.length (outCells r.1.out) ∧ MemAt w' dv r.1.s.d ∧ MemAt w' mv r.1.mem ∧ r.1.s.r.length = 16 ∧ Kept (fun j => mv.ownBlock = some j) w w' ∧ r.1.s.d.length ≤ 512 ∧ ∀ j, dv.ownBlock = some j → w.heap.size ≤ j
theorem run_results4 {P : Program} {fn : Func} {u p t q : Tmp} {ty : TypeId} (hr : fn.results = #[.tmp u, .cell p ty, .tmp t, .tmp q]) (tmps : Array Value) (w : World) (g : Nat) (tt : TypeId) (cs : Array Value) (fr : Nat × Nat) (d : TypeDesc) (vu vt vq : Value)
    (hu : tmps.getD u undef = vu) (hp : tmps.getD p undef = .pointer (some ⟨g, 0, none⟩)) (ht : tmps.getD t undef = vt) (hq : tmps.getD q undef = vq) (hg : w.heap[g]? = some (.cells cs tt fr))
    (hun : P.underlying ty = some d) (hd : (match d with | .struct _ | .array _ _ => true | _ => false) = true) (hi : (P.info? ty).map (·.size) = some cs.size) :
    (results fn tmps).run P w = .ok (.tuple #[vu, .agg cs, vt, vq]) w := by
  have h := run_loadVar_row (P := P) w g tt ty cs fr d hg hun hd hi
  have hp' : tmps[p]?.getD undef = .pointer (some ⟨g, 0, none⟩) := by simpa using hp
  have hu' : tmps[u]?.getD undef = vu := by simpa using hu
  have ht' : tmps[t]?.getD undef = vt := by simpa using ht
  have hq' : tmps[q]?.getD undef = vq := by simpa using hq
  simp only [results, hr]
  simp [Sem.run_bind, Sem.run_pure, Result.andThen, hp', hu', ht', hq', asAddr, h]
theorem step_load_mid {P : Program} {w : World} {ops : Array Oper} {o : Oper} {a : Act} {K : Act → World → Prop} {Q : Exit → Act → World → Prop} {E : Prop} (hgd : o.guard = none) (ty : TypeId) (x : Operand) (ho : o.op = .load ty x)
    (b off : Nat) (hx : a.eval x = .pointer (some ⟨b, off, none⟩)) (cs : List Value) (d : TypeDesc) (hc : w.rangeAt b off cs) (hu : P.underlying ty = some d) (hd : d.isRow = true) (hi : (P.info? ty).map (·.size) = some cs.length)
    (h : K (a.put o.dst (.agg cs.toArray)) w) : if Region.wanted o (yielded ops a.tmps) = true then Oper.wp P o a w K Q else E := by
  have hw : Region.wanted o (yielded ops a.tmps) = true := by simp [Region.wanted, hgd]
  rw [if_pos hw]
  exact wp_load_mid ty x ho b off hx cs d hc hu hd hi h
theorem w32_s0 (st : Int) (n : Nat) : (∀ j, W32 ((s0 st n).r.getD j 0)) ∧ ∀ j, W32 ((s0 st n).d.getD j 0) := by
  have hx : ∀ (m : Nat) (j : Nat), W32 ((List.replicate m (0 : Int)).getD j 0) := fun m j => by
    rw [List.getD_eq_getElem?_getD, List.getElem?_replicate]
    split <;> exact W32.zero
  exact ⟨fun j => hx 16 j, fun j => hx n j⟩
theorem kept_old {F G : Nat → Prop} {w w1 w2 : World} (hb : Below w.heap.size w w1) (hk : Kept F w1 w2) (hF : ∀ k, k < w.heap.size → F k → G k) : Kept G w w2 :=
  ⟨hk.os.trans hb.os, hk.tape.trans hb.tape, hk.output.trans hb.output, Nat.le_trans hb.size hk.size, fun k hk1 hn => (hk.block k (Nat.lt_of_lt_of_le hk1 hb.size) fun hf => hn (hF k hk1 hf)).trans (hb.block k hk1)⟩

set_option maxHeartbeats 6400000 in
set_option maxRecDepth 100000 in
theorem run_any (imv mv : Value) (im : Im) (k : Nat) (mem : List Int) (B : Nat) (w : World) (hT : Tab w) (hO : OTab w) (hB : B ≤ w.heap.size) (hG : 0 < B ∧ 1 < B) (hi : ∀ w', Below B w w' → ImAt w' imv im) (hk : k < im.ents.length) (hd : 0 ≤ (im.ents.getD k default).dat ∧ (im.ents.getD k default).dat ≤ 512) (hm : MemAt w mv mem) (hmo : ∀ j, mv.ownBlock = some j → B ≤ j ∧ j < w.heap.size) (h32 : ∀ j, W32 (mem.getD j 0)) :
    Calls Tryd.prog 7 #[imv, .int .i64 (k : Int), mv] w (RnPost mv (rnL im k mem) w) := by
  have hi0 := hi w (Below.refl _ _)
  obtain ⟨⟨cp, ccap, ep, ecap, rfl, _, he⟩, _, _⟩ := hi0
  have he := he.resolve_left fun h0 => by
    rw [h0] at hk
    exact absurd hk (Nat.not_lt_zero _)
  obtain ⟨eb, eo, rfl, heb, hee⟩ := he
  obtain ⟨mp, mc, rfl⟩ := hm.shape
  obtain ⟨e0, e1, e2, e3⟩ := hee k hk
  have hkI : (k : Int) < (im.ents.length : Int) := by omega
  have hfit : ∀ (st : Int) (n : Nat), ((n : Int) = (im.ents.getD k default).dat) → fitP im k (s0 st n) = true := fun st n hn => by
    unfold fitP
    rw [Int.toNat_natCast]
    exact decide_eq_true ⟨by omega, hkI, by show ((List.replicate n (0 : Int)).length : Int) = _; rw [List.length_replicate]; exact hn, rfl, .inl rfl⟩
  have hdef : rnL im k mem = runP im (k : Int) (fun _ _ => 0) (fun _ _ => ()) 2000 ⟨s0 (im.ents.getD k default).st (im.ents.getD k default).dat.toNat, mem, (), []⟩ := rfl
  have HEN := Lib.hid hee
  generalize im.ents.getD k default = en at e0 e1 e2 e3 hd hfit hdef
  obtain ⟨nm, st, fin, dat⟩ := en
  obtain ⟨n, rfl⟩ := Int.eq_ofNat_of_zero_le hd.1
  have hnI : (n : Int) ≤ 512 := hd.2
  have hfit1 := hfit st n rfl
  have hdef1 : rnL im k mem = runP im (k : Int) (fun _ _ => 0) (fun _ _ => ()) 2000 ⟨s0 st n, mem, (), []⟩ := hdef
  have e0 : w.cell? ⟨eb, eo + k * 4, none⟩ = some (.string nm) := e0
  have e1 : w.cell? ⟨eb, eo + k * 4 + 1, none⟩ = some (.int .i64 st) := e1
  have e2 : w.cell? ⟨eb, eo + k * 4 + 2, none⟩ = some (.int .i64 fin) := e2
  have e3 : w.cell? ⟨eb, eo + k * 4 + 3, none⟩ = some (.int .i64 (n : Int)) := e3
  obtain ⟨w1, hw1⟩ : ∃ W, W = (w.alloc (.cells #[.slice cp im.code.length ccap, .slice (some ⟨eb, eo, none⟩) im.ents.length ecap, .int .i64 im.sh, .int .i64 im.lk] 30)).alloc (.cells #[.int .i64 0, .int .i32 0, .int .i32 0, .int .i32 0, .int .i32 0, .int .i32 0, .int .i32 0, .int .i32 0, .int .i32 0, .int .i32 0, .int .i32 0, .int .i32 0, .int .i32 0, .int .i32 0, .int .i32 0, .int .i32 0, .int .i32 0, .slice none 0 0, .bool false, .int .i64 0] 42) := ⟨_, rfl⟩
  have hb1 : Below w.heap.size w w1 := by rw [hw1]; exact bAlloc (by simp) (bAlloc (Nat.le_refl _) (Below.refl _ _))
  have hIR : RowC w1 w.heap.size [.slice cp im.code.length ccap, .slice (some ⟨eb, eo, none⟩) im.ents.length ecap, .int .i64 im.sh, .int .i64 im.lk] := by
    rw [hw1]
    exact (RowC.made w [.slice cp im.code.length ccap, .slice (some ⟨eb, eo, none⟩) im.ents.length ecap, .int .i64 im.sh, .int .i64 im.lk] 30).alloc _
  have hZR : w1.heap[w.heap.size + 1]? = some (.cells #[.int .i64 0, .int .i32 0, .int .i32 0, .int .i32 0, .int .i32 0, .int .i32 0, .int .i32 0, .int .i32 0, .int .i32 0, .int .i32 0, .int .i32 0, .int .i32 0, .int .i32 0, .int .i32 0, .int .i32 0, .int .i32 0, .int .i32 0, .slice none 0 0, .bool false, .int .i64 0] 42 (0, 0)) := by
    rw [hw1]
    exact heap_at1 _ _ _
  have hs1 : w1.heap.size = w.heap.size + 1 + 1 := by rw [hw1]; simp
  have hsI : w.heap.size < w1.heap.size := by omega
  have HNEW := Lib.hid (new_task (.slice cp im.code.length ccap) eb eo im.ents.length ecap im.sh im.lk nm st fin k n hkI hnI w1 (Nat.lt_of_lt_of_le heb hb1.size) ((hb1.cell (p := ⟨eb, eo + k * 4, none⟩) heb).trans e0) ((hb1.cell (p := ⟨eb, eo + k * 4 + 1, none⟩) heb).trans e1) ((hb1.cell (p := ⟨eb, eo + k * 4 + 2, none⟩) heb).trans e2) ((hb1.cell (p := ⟨eb, eo + k * 4 + 3, none⟩) heb).trans e3))
  have H32 := Lib.hid h32
  have HI := Lib.hid hi
  have HM := Lib.hid hm
  have HMO := Lib.hid hmo
  have HTB := Lib.hid hT
  have HOT := Lib.hid hO
  have HGB := Lib.hid hG
  have HBB := Lib.hid hB
  have HNI := Lib.hid hnI
  have HFIT := Lib.hid hfit1
  have HDEF := Lib.hid hdef1
  clear hfit1 hdef1 hfit hdef hd e0 e1 e2 e3 hee heb h32 hi hm hmo hT hO hG hB hk hkI hnI
  go_enter Tryd.func7, Tryd.ntmps7
  go_upto_region 1 with fail
  rw [← hw1]
  clear hw1
  have m0 := hIR.at 0 rfl
  have m1 := hIR.at 1 rfl
  have m2 := hIR.at 2 rfl
  have m3 := hIR.at 3 rfl
  go_wp2_with fail
  refine HNEW.out.mono ?_
  rintro e w2 ⟨g, rfl, hb2, hg, hgr⟩
  have hb02 := hb1.trans (hb2.mono hb1.size)
  have hZ2 := (hb2.block (w.heap.size + 1) (by omega)).trans hZR
  have hIR2 := hIR.below hb2 hsI
  have hgl := hgr.lt
  have hs2 := hb2.size
  have HR : Hid ((w2.alloc (.cells #[.int .i64 0, .int .i32 0, .int .i32 0, .int .i32 0, .int .i32 0, .int .i32 0, .int .i32 0, .int .i32 0, .int .i32 0, .int .i32 0, .int .i32 0, .int .i32 0, .int .i32 0, .int .i32 0, .int .i32 0, .int .i32 0, .int .i32 0, .slice none 0 0, .bool false, .int .i64 0] 42)).heap[w2.heap.size]? = some (.cells #[.int .i64 0, .int .i32 0, .int .i32 0, .int .i32 0, .int .i32 0, .int .i32 0, .int .i32 0, .int .i32 0, .int .i32 0, .int .i32 0, .int .i32 0, .int .i32 0, .int .i32 0, .int .i32 0, .int .i32 0, .int .i32 0, .int .i32 0, .slice none 0 0, .bool false, .int .i64 0] 42 (0, 0))) := (show _ = _ from heap_alloc_new _ _)
  have HIx : Hid ((Tryd.prog.info? 42).map (·.size) = some 20) := (show _ = _ from infoState)
  have HA : Hid ((#[.int .i64 st, .int .i32 0, .int .i32 0, .int .i32 0, .int .i32 0, .int .i32 0, .int .i32 0, .int .i32 0, .int .i32 0, .int .i32 0, .int .i32 0, .int .i32 0, .int .i32 0, .int .i32 0, .int .i32 0, .int .i32 0, .int .i32 0, .slice (some ⟨g, 0, none⟩) n n, .bool false, .int .i64 (-1)] : Array Value).all (·.oneCell') = true) := (show (#[.int .i64 st, .int .i32 0, .int .i32 0, .int .i32 0, .int .i32 0, .int .i32 0, .int .i32 0, .int .i32 0, .int .i32 0, .int .i32 0, .int .i32 0, .int .i32 0, .int .i32 0, .int .i32 0, .int .i32 0, .int .i32 0, .int .i32 0, .slice (some ⟨g, 0, none⟩) n n, .bool false, .int .i64 (-1)] : Array Value).all (·.oneCell') = true by simp [Value.oneCell'])
  have HZ : Hid ((#[.int .i64 0, .int .i32 0, .int .i32 0, .int .i32 0, .int .i32 0, .int .i32 0, .int .i32 0, .int .i32 0, .int .i32 0, .int .i32 0, .int .i32 0, .int .i32 0, .int .i32 0, .int .i32 0, .int .i32 0, .int .i32 0, .int .i32 0, .slice none 0 0, .bool false, .int .i64 0] : Array Value).size = (#[.int .i64 st, .int .i32 0, .int .i32 0, .int .i32 0, .int .i32 0, .int .i32 0, .int .i32 0, .int .i32 0, .int .i32 0, .int .i32 0, .int .i32 0, .int .i32 0, .int .i32 0, .int .i32 0, .int .i32 0, .int .i32 0, .int .i32 0, .slice (some ⟨g, 0, none⟩) n n, .bool false, .int .i64 (-1)] : Array Value).size) := (show (#[.int .i64 0, .int .i32 0, .int .i32 0, .int .i32 0, .int .i32 0, .int .i32 0, .int .i32 0, .int .i32 0, .int .i32 0, .int .i32 0, .int .i32 0, .int .i32 0, .int .i32 0, .int .i32 0, .int .i32 0, .int .i32 0, .int .i32 0, .slice none 0 0, .bool false, .int .i64 0] : Array Value).size = (#[.int .i64 st, .int .i32 0, .int .i32 0, .int .i32 0, .int .i32 0, .int .i32 0, .int .i32 0, .int .i32 0, .int .i32 0, .int .i32 0, .int .i32 0, .int .i32 0, .int .i32 0, .int .i32 0, .int .i32 0, .int .i32 0, .int .i32 0, .slice (some ⟨g, 0, none⟩) n n, .bool false, .int .i64 (-1)] : Array Value).size by simp)
  have HX := Lib.hid (boxed_new w2 [.int .i64 0, .int .i32 0, .int .i32 0, .int .i32 0, .int .i32 0, .int .i32 0, .int .i32 0, .int .i32 0, .int .i32 0, .int .i32 0, .int .i32 0, .int .i32 0, .int .i32 0, .int .i32 0, .int .i32 0, .int .i32 0, .int .i32 0, .slice none 0 0, .bool false, .int .i64 0] [.int .i64 st, .int .i32 0, .int .i32 0, .int .i32 0, .int .i32 0, .int .i32 0, .int .i32 0, .int .i32 0, .int .i32 0, .int .i32 0, .int .i32 0, .int .i32 0, .int .i32 0, .int .i32 0, .int .i32 0, .int .i32 0, .int .i32 0, .slice (some ⟨g, 0, none⟩) n n, .bool false, .int .i64 (-1)] 42)
  have HB02 := Lib.hid hb02
  have HZ2 := Lib.hid hZ2
  have HIR2 := Lib.hid hIR2
  have HGR := Lib.hid hgr
  have HG2 := Lib.hid hg
  clear hIR hIR2 hZR hZ2 m0 m1 m2 m3 hb1 hb2 hb02 HNEW hgr hg
  go_upto_region 2 with (first | (refine wpList_store_row rfl 42 (.tmp 10) (.tmp 19) rfl w2.heap.size _ rfl rfl 42 _ HR.out HIx.out HZ.out HA.out ?_; simp only [put_noC]))
  obtain ⟨w3, hw3, hst, hb3, hs3⟩ := HX.out
  rw [hw3]
  clear hw3 HX HR HA HZ
  have hS3 : StAt w3 w2.heap.size (s0 st n) (.slice (some ⟨g, 0, none⟩) n n) := ⟨rfl, hst⟩
  have HB03 := Lib.hid (HB02.out.trans (hb3.mono HB02.out.size))
  have hIR3 := HIR2.out.below hb3 HIR2.out.lt
  have HZ3 := Lib.hid ((hb3.block (w.heap.size + 1) (by omega)).trans HZ2.out)
  have hg3 := HGR.out.below hb3 HGR.out.lt
  have HM3 := Lib.hid (HM.out.below HB03.out (Nat.le_refl _))
  have hdm : MemAt w3 (.slice (some ⟨g, 0, none⟩) n n) (s0 st n).d := by
    refine ⟨some ⟨g, 0, none⟩, n, ?_, .inr ⟨g, [], [], rfl, ?_⟩⟩
    · show _ = Value.slice _ (List.replicate n (0 : Int)).length _
      rw [List.length_replicate]
    · show RowAt w3 g ([] ++ (List.replicate n (0 : Int)).map (.int .i32) ++ [])
      rw [List.map_replicate, List.nil_append, List.append_nil]
      exact hg3
  have hgw : w.heap.size + 1 + 1 ≤ g := by have := HG2.out; omega
  have hgw2 : g < w2.heap.size := hgl
  have hB3 := Nat.le_trans HBB.out HB03.out.size
  have HPRE := Lib.hid (show RunPre w3 B (.agg #[.slice cp im.code.length ccap, .slice (some ⟨eb, eo, none⟩) im.ents.length ecap, .int .i64 im.sh, .int .i64 im.lk]) im w2.heap.size (.slice (some ⟨g, 0, none⟩) n n) (.slice mp mem.length mc) (fun _ => False) from
    ⟨HTB.out.of_below HB03.out, HOT.out.of_below HB03.out, fun w' hb' => HI.out w' ((HB03.out.mono HBB.out).trans hb'), by
      have hBB := HBB.out
      rintro j ((rfl | hj | hj) | hj)
      · exact ⟨by omega, by omega⟩
      · have : g = j := by simpa [Value.ownBlock] using hj
        subst this
        exact ⟨by omega, by omega⟩
      · have := HMO.out j hj
        exact ⟨this.1, by omega⟩
      · exact hj.elim, HGB.out, hB3, by simp [Value.ownBlock]; omega, fun hj => by have := (HMO.out _ hj).2; omega, fun j hj hj2 => by
        have e : g = j := by simpa [Value.ownBlock] using hj
        have := (HMO.out _ hj2).2
        omega⟩)
  have hall := run_all _ im (k : Int) w2.heap.size (.slice (some ⟨g, 0, none⟩) n n) (.slice mp mem.length mc) .nilFunc (fun _ _ => 0) (fun _ _ => ()) (fun _ _ => True) (fun _ => False) (fun _ _ => id) 2000 ⟨s0 st n, mem, (), []⟩ B w3 (by omega) HPRE.out (port_nil _ _ _) hS3 hdm HM3.out trivial rfl (w32_s0 st n).1 (w32_s0 st n).2 H32.out HFIT.out
  rw [show ((2000 : Int).toNat) = 2000 from rfl, ← HDEF.out] at hall
  have HCALL := Lib.hid hall
  have m0 := hIR3.at 0 rfl
  have m1 := hIR3.at 1 rfl
  have m2 := hIR3.at 2 rfl
  have m3 := hIR3.at 3 rfl
  have ml := hIR3.lt
  clear hall hS3 hdm hg3 hst hb3 hIR3 HGR HIR2 HZ2 hgl hB3
  go_wp2_with fail
  refine HCALL.out.mono ?_
  rintro e w4 ⟨ov, rfl, hov, hk4, hs4, hd4, hm4, -, -, -, -⟩
  obtain ⟨r, hrr⟩ : ∃ r, r = rnL im k mem := ⟨_, rfl⟩
  rw [← hrr] at hov hs4 hd4 hm4 ⊢
  have hr16 : r.1.s.r.length = 16 := hs4.1
  have hK : Kept (fun j => (Value.slice mp mem.length mc).ownBlock = some j) w w4 := kept_old HB03.out hk4 (by
    rintro j hj ((rfl | h | h) | h)
    · omega
    · have : g = j := by simpa [Value.ownBlock] using h
      omega
    · exact h
    · exact h.elim)
  have hZ4 : w4.heap[w.heap.size + 1]? = some (.cells #[.int .i64 0, .int .i32 0, .int .i32 0, .int .i32 0, .int .i32 0, .int .i32 0, .int .i32 0, .int .i32 0, .int .i32 0, .int .i32 0, .int .i32 0, .int .i32 0, .int .i32 0, .int .i32 0, .int .i32 0, .int .i32 0, .int .i32 0, .slice none 0 0, .bool false, .int .i64 0] 42 (0, 0)) := (hk4.block (w.heap.size + 1) (by omega) (by
    rintro ((h | h | h) | h)
    · omega
    · have : g = w.heap.size + 1 := by simpa [Value.ownBlock] using h
      omega
    · have := (HMO.out _ h).2
      omega
    · exact h)).trans HZ3.out
  have hrg := hs4.2.range
  have hl4 := hk4.size
  have hdl : r.1.s.d.length = n := by
    obtain ⟨p, c, e, _⟩ := hd4
    injection e with _ e _
    exact e.symm
  have hZ5 : w4.drew.heap[w.heap.size + 1]? = some (.cells #[.int .i64 0, .int .i32 0, .int .i32 0, .int .i32 0, .int .i32 0, .int .i32 0, .int .i32 0, .int .i32 0, .int .i32 0, .int .i32 0, .int .i32 0, .int .i32 0, .int .i32 0, .int .i32 0, .int .i32 0, .int .i32 0, .int .i32 0, .slice none 0 0, .bool false, .int .i64 0] 42 (0, 0)) := hZ4
  have hrg5 : w4.drew.rangeAt w2.heap.size 0 (stCells r.1.s (.slice (some ⟨g, 0, none⟩) n n)) := hrg
  have hIl : (Tryd.prog.info? 42).map (·.size) = some (stCells r.1.s (.slice (some ⟨g, 0, none⟩) n n)).length := by rw [stCells_len hr16]; exact infoState
  have hIs : (Tryd.prog.info? 42).map (·.size) = some (stCells r.1.s (.slice (some ⟨g, 0, none⟩) n n)).toArray.size := by rw [List.size_toArray]; exact hIl
  have hsz : (#[.int .i64 0, .int .i32 0, .int .i32 0, .int .i32 0, .int .i32 0, .int .i32 0, .int .i32 0, .int .i32 0, .int .i32 0, .int .i32 0, .int .i32 0, .int .i32 0, .int .i32 0, .int .i32 0, .int .i32 0, .int .i32 0, .int .i32 0, .slice none 0 0, .bool false, .int .i64 0] : Array Value).size = (stCells r.1.s (.slice (some ⟨g, 0, none⟩) n n)).toArray.size := (show (20 : Nat) = _ by rw [List.size_toArray, stCells_len hr16])
  have hall1 := stCells_one r.1.s (some ⟨g, 0, none⟩) n n
  have hfin := setRow_heap w4.drew (w.heap.size + 1) _ (stCells r.1.s (.slice (some ⟨g, 0, none⟩) n n)).toArray _ _ hZ5
  have hbf : Below w.heap.size w4 (w4.drew.setRow (w.heap.size + 1) (stCells r.1.s (.slice (some ⟨g, 0, none⟩) n n)).toArray) := bRow (by omega) (Below.refl _ _).drew
  have hother : ∀ j, j ≠ w.heap.size + 1 → (w4.drew.setRow (w.heap.size + 1) (stCells r.1.s (.slice (some ⟨g, 0, none⟩) n n)).toArray).heap[j]? = w4.heap[j]? := fun j hj => setRow_other w4.drew (w.heap.size + 1) j _ hj
  have HPOST : Hid (RnPost (.slice mp mem.length mc) (rnL im k mem) w (.returned (.tuple #[ov, .agg (stCells r.1.s (.slice (some ⟨g, 0, none⟩) n n)).toArray, .int .i64 r.2.1, .int .i64 r.2.2])) (w4.drew.setRow (w.heap.size + 1) (stCells r.1.s (.slice (some ⟨g, 0, none⟩) n n)).toArray)) := (show RnPost _ _ _ _ _ from by
    rw [← hrr]
    refine ⟨ov, .slice (some ⟨g, 0, none⟩) n n, rfl, ?_, hd4.block fun m hm => hother m ?_, hm4.block fun m hm => hother m ?_, hr16, hK.then hbf, by have := HNI.out; omega, fun j hj => ?_⟩
    · have h1 := ownsRow_block hov (w' := w4.drew.setRow (w.heap.size + 1) (stCells r.1.s (.slice (some ⟨g, 0, none⟩) n n)).toArray) fun j hj _ => hother j (by omega)
      obtain ⟨a, b⟩ := h1
      refine ⟨a, ?_⟩
      rcases b with b | ⟨q, cap, cur, x, y, z⟩
      · exact .inl b
      · exact .inr ⟨q, cap, cur, x, by omega, z⟩
    · have : g = m := by simpa [Value.ownBlock] using hm
      omega
    · have := (HMO.out m hm).2
      omega
    · have : g = j := by simpa [Value.ownBlock] using hj
      omega)
  generalize stCells r.1.s (.slice (some ⟨g, 0, none⟩) n n) = cells at hrg5 hIl hIs hsz hall1 hfin HPOST
  clear hrr hZ4 hrg hother hbf hK hov hs4 hd4 hm4 hk4 HCALL HPRE m0 m1 m2 m3 ml
  go_upto_region 5 with fail
  refine wp_region_any (by kernel_rfl) ?_
  change wpAny _ _ _ _ _ _ _ (World.drew _)
  refine wpAny_take (i := 0) (v := ?v0) rfl (by kernel_rfl) (by kernel_rfl) (by kernel_rfl) (fun _ _ _ h => h) (Or.inl ⟨by rfl, ?h0⟩) ?r0
  case h0 => intro w; go_simp; with_reducible rfl
  case r0 =>
  refine wpAny_take (i := 2) (v := ?v2) rfl (by kernel_rfl) (by kernel_rfl) (by kernel_rfl) (fun _ _ _ h => h) (Or.inl ⟨by rfl, ?h2⟩) ?r2
  case h2 => intro w; go_simp; with_reducible rfl
  case r2 =>
  refine wpAny_take (i := 3) (v := ?v3) rfl (by kernel_rfl) (by kernel_rfl) (by kernel_rfl) (fun _ _ _ h => h) (Or.inl ⟨by rfl, ?h3⟩) ?r3
  case h3 => intro w; go_simp; with_reducible rfl
  case r3 =>
  refine wpAny_ready (rs := [1, 4]) (by kernel_rfl) (by simp) ?_
  refine AllReady.cons rfl (fun K hK => ?_) (AllReady.cons rfl (fun K hK => ?_) AllReady.nil)
  · refine step_load_mid rfl 42 (.tmp 10) rfl w2.heap.size 0 rfl cells _ hrg5 Tryd.underlying42 rfl hIl ?_
    refine hK _ _ ?_
    clear hK K
    refine wpAny_ready (rs := [4]) (by kernel_rfl) (by simp) ?_
    refine AllReady.cons rfl (fun K hK => ?_) AllReady.nil
    go_simp
    refine hK _ _ ?_
    clear hK K
    refine wpAny_ready (rs := [5]) (by kernel_rfl) (by simp) ?_
    refine AllReady.cons rfl (fun K hK => ?_) AllReady.nil
    refine step_store_row rfl 42 (.tmp 7) (.tmp 34) rfl (w.heap.size + 1) cells.toArray rfl rfl _ _ hZ5 hIs hsz hall1 ?_
    refine hK _ _ ?_
    clear hK K
    refine wpAny_ready (rs := [6]) (by kernel_rfl) (by simp) ?_
    refine AllReady.cons rfl (fun K hK => ?_) AllReady.nil
    go_simp
    refine hK _ _ ?_
    clear hK K
    refine wpAny_ready (rs := [7]) (by kernel_rfl) (by simp) ?_
    refine AllReady.cons rfl (fun K hK => ?_) AllReady.nil
    go_simp
    refine hK _ _ ?_
    clear hK K
    refine wpAny_done (by kernel_rfl) ?_ _
    go_wp2_with fail
    exact bodyPost_ret (run_results4 Tryd.results7 _ _ (w.heap.size + 1) _ _ _ _ _ _ _ rfl rfl rfl rfl hfin Tryd.underlying42 rfl hIs) rfl HPOST.out
  · go_simp
    refine hK _ _ ?_
    clear hK K
    refine wpAny_ready (rs := [1]) (by kernel_rfl) (by simp) ?_
    refine AllReady.cons rfl (fun K hK => ?_) AllReady.nil
    refine step_load_mid rfl 42 (.tmp 10) rfl w2.heap.size 0 rfl cells _ hrg5 Tryd.underlying42 rfl hIl ?_
    refine hK _ _ ?_
    clear hK K
    refine wpAny_ready (rs := [5]) (by kernel_rfl) (by simp) ?_
    refine AllReady.cons rfl (fun K hK => ?_) AllReady.nil
    refine step_store_row rfl 42 (.tmp 7) (.tmp 34) rfl (w.heap.size + 1) cells.toArray rfl rfl _ _ hZ5 hIs hsz hall1 ?_
    refine hK _ _ ?_
    clear hK K
    refine wpAny_ready (rs := [6]) (by kernel_rfl) (by simp) ?_
    refine AllReady.cons rfl (fun K hK => ?_) AllReady.nil
    go_simp
    refine hK _ _ ?_
    clear hK K
    refine wpAny_ready (rs := [7]) (by kernel_rfl) (by simp) ?_
    refine AllReady.cons rfl (fun K hK => ?_) AllReady.nil
    go_simp
    refine hK _ _ ?_
    clear hK K
    refine wpAny_done (by kernel_rfl) ?_ _
    go_wp2_with fail
    exact bodyPost_ret (run_results4 Tryd.results7 _ _ (w.heap.size + 1) _ _ _ _ _ _ _ rfl rfl rfl rfl hfin Tryd.underlying42 rfl hIs) rfl HPOST.out
end Go.Proofs.YtpachmkklppmjaaDoor
