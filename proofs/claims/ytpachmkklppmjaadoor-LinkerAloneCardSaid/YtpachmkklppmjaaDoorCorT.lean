/- core.Run: the walk. -/
import Derived.Test.YtpachmkklppmjaaDoorCorR
import Derived.LoopTactic
set_option linter.unusedVariables false
set_option linter.unusedSimpArgs false
namespace Go.Proofs.YtpachmkklppmjaaDoor
open Go.RowKit

/-- What a run leaves. -/
def RunLeft {σ : Type} (w : World) (S : Nat) (dv mv : Value) (PR : σ → World → Prop) (PF : Nat → Prop) (r : Cf σ × Nat × Int) (e : Ending) (w' : World) : Prop :=
  ∃ ov, e = .returned (.tuple #[ov, .int .i64 r.2.1, .int .i64 r.2.2]) ∧ w'.ownsRow w.heap.size 72 2 ov r.1.out.length (outCells r.1.out) ∧
    Kept (fun j => OwnF S dv mv j ∨ PF j) w w' ∧ StAt w' S r.1.s dv ∧ MemAt w' dv r.1.s.d ∧ MemAt w' mv r.1.mem ∧ PR r.1.p w' ∧
    (∀ j, W32 (r.1.s.r.getD j 0)) ∧ (∀ j, W32 (r.1.s.d.getD j 0)) ∧ (∀ j, W32 (r.1.mem.getD j 0))

theorem Tryd.infoOut : (Tryd.prog.info? 72).map (fun i => (i.zero, i.size, i.bytes)) = some (some (.agg #[.int .i64 0, .int .i32 0]), 2, 16) := by kernel_rfl

theorem RunInv.left {σ : Type} {w : World} {im : Im} {t : Int} {S : Nat} {dv mv : Value} {inp : σ → Int → Int} {nxt : σ → Int → σ} {PR : σ → World → Prop} {PF : Nat → Prop} {fuel : Nat} {c0 : Cf σ} {cells : List Value} {c : Cf σ} {k : Nat} {ov : Value} {wr : World} {er : Int}
    (h : RunInv w im t S dv mv inp nxt PR PF fuel c0 cells c k ov wr) (hr : runP im t inp nxt (fuel - k) c = (c, 0, er)) : RunLeft w S dv mv PR PF (runP im t inp nxt fuel c0) (.returned (.tuple #[ov, .int .i64 k, .int .i64 er])) wr := by
  have h1 := h.run
  rw [hr] at h1
  rw [h1]
  refine ⟨ov, by simp, ?_, h.kept, h.st, h.d, h.m, h.pr, h.r32, h.d32, h.m32⟩
  obtain ⟨a, b⟩ := h.own
  refine ⟨a, ?_⟩
  rcases b with b | ⟨g, cap, cur, x, y, z⟩
  · exact .inl b
  · exact .inr ⟨g, cap, cur, x, by omega, z⟩

theorem RunLeft.mono {σ : Type} {w wr : World} {S : Nat} {dv mv : Value} {PR : σ → World → Prop} {PF : Nat → Prop} {r : Cf σ × Nat × Int} {e : Ending} {w' : World} (h : RunLeft w S dv mv PR PF r e wr) (hd : ∃ n, wr.drewN n = w') : RunLeft w S dv mv PR PF r e wr := h

/-- Where nothing that was there has turned. -/
theorem RunInv.later {σ : Type} {w : World} {pv : Value} {im : Im} {t : Int} {S : Nat} {dv mv : Value} {inp : σ → Int → Int} {nxt : σ → Int → σ} {PR : σ → World → Prop} {PF : Nat → Prop} {PW : σ → Int → World → World} {fuel : Nat} {c0 : Cf σ} {cells : List Value} {c : Cf σ} {k : Nat} {ov : Value} {wr w' : World}
    (h : RunInv w im t S dv mv inp nxt PR PF fuel c0 cells c k ov wr) (hport : PortRun S dv mv pv inp nxt PR PF PW) (hb : Below wr.heap.size wr w') : RunInv w im t S dv mv inp nxt PR PF fuel c0 cells c k ov w' :=
  ⟨h.le, h.run, ownsRow_block h.own fun g _ hg => hb.block g hg, h.outs, h.kept.trans (Kept.of_below hb), h.st.below hb h.st.lt, h.d.below hb (Nat.le_refl _), h.m.below hb (Nat.le_refl _), hport.keep _ _ _ h.pr (fun k hk _ => hb.block k hk), h.box.below hb h.box.lt, h.r32, h.d32, h.m32⟩

theorem ite_err {p : Prop} [Decidable p] {α : Type} {A B o : Except Int α} {Q : Prop} (ha : p → A = o → Q) (hb : ¬ p → B = o → Q) : (if p then A else B) = o → Q := by
  split
  · exact ha ‹_›
  · exact hb ‹_›
theorem err_inj {α : Type} {x y : Int} (h : (Except.error x : Except Int α) = .error y) : x = y := by injection h
theorem ok_err {α : Type} {x : α} {y : Int} (h : (Except.ok x : Except Int α) = .error y) : False := by cases h
set_option maxHeartbeats 2000000 in
theorem stepI_err {lk : Int} {n a b c : Nat} {i : Int} {s : St} {mem : List Int} {inp er : Int} : stepI lk n a b c i s mem inp = .error er → er ≠ 0 := by
  unfold stepI
  simp only
  repeat' (with_reducible refine ite_err (fun _ => ?_) (fun _ => ?_))
  all_goals intro h
  all_goals first
    | (with_reducible exact (ok_err h).elim)
    | (have := err_inj h; omega)
    | (have h2 := err_inj h; rw [← h2]; assumption)
theorem stepP_err {im : Im} {t : Int} {s : St} {mem : List Int} {inp : Int → Int} {er : Int} (h : stepP im t s mem inp = .error er) : er ≠ 0 := by
  unfold stepP at h
  split at h
  · cases h; decide
  · simp only at h
    split at h
    · cases h; decide
    · split at h
      · cases h; decide
      · split at h
        · rename_i e hs
          cases h
          exact stepI_err hs
        · cases h

theorem ownBase {w : World} {base : Nat} {e : TypeId} {size : Nat} {v : Value} {n : Nat} {xs : List Value} (h : w.ownsRow base e size v n xs) {g : Nat} (hg : v.ownBlock = some g) : base ≤ g := by
  rcases h.2 with ⟨rfl, _⟩ | ⟨g', cap, cur, rfl, hb, _⟩
  · cases hg
  · cases hg; exact hb
theorem sizePW {σ : Type} {S : Nat} {dv mv pv : Value} {inp : σ → Int → Int} {nxt : σ → Int → σ} {PR : σ → World → Prop} {PF : Nat → Prop} {PW : σ → Int → World → World} (hport : PortRun S dv mv pv inp nxt PR PF PW) (p : σ) (i : Int) (wr : World) (n : Nat) :
    (if n = 26 then PW p i wr else wr).heap.size = wr.heap.size := by split; exact hport.size _ _ _; rfl
theorem ownsRow_next {σ : Type} {w : World} {B : Nat} {imv pv : Value} {im : Im} {t : Int} {S : Nat} {dv mv : Value} {inp : σ → Int → Int} {nxt : σ → Int → σ} {PR : σ → World → Prop} {PF : Nat → Prop} {PW : σ → Int → World → World} {fuel : Nat} {c0 : Cf σ} {cells : List Value} {c : Cf σ} {k : Nat} {ov : Value} {wr w1 : World} {f : Ef}
    (h : RunInv w im t S dv mv inp nxt PR PF fuel c0 cells c k ov wr) (hp : RunPre w B imv im S dv mv PF) (hport : PortRun S dv mv pv inp nxt PR PF PW) (hkept : Kept (OwnF S dv mv) (if f.n = 26 then PW c.p f.i wr else wr) w1) :
    w1.ownsRow (w.heap.size + 1) 72 2 ov c.out.length (outCells c.out) := by
  refine ownsRow_block h.own fun g hg hgr => ?_
  have kPW : Kept PF wr (if f.n = 26 then PW c.p f.i wr else wr) := by split; exact hport.frame _ _ _; exact Kept.refl _ _
  have hs := sizePW hport c.p f.i wr f.n
  exact (hkept.block g (by omega) (fun hF => by have := (hp.own g (.inl hF)).2; omega)).trans (kPW.block g hgr (fun hF => by have := (hp.own g (.inr hF)).2; omega))

set_option maxHeartbeats 3200000 in
set_option maxRecDepth 100000 in
theorem run_all {σ : Type} (imv : Value) (im : Im) (t : Int) (S : Nat) (dv mv pv : Value) (inp : σ → Int → Int) (nxt : σ → Int → σ) (PR : σ → World → Prop) (PF : Nat → Prop) (PW : σ → Int → World → World) (fuel : Int) (c0 : Cf σ) (B : Nat) (w : World)
    (hf : fuel ≤ 1000000) (hp : RunPre w B imv im S dv mv PF) (hport : PortRun S dv mv pv inp nxt PR PF PW) (hst : StAt w S c0.s dv) (hd : MemAt w dv c0.s.d) (hm : MemAt w mv c0.mem) (hpr : PR c0.p w) (hout : c0.out = [])
    (h32 : ∀ j, W32 (c0.s.r.getD j 0)) (hd32 : ∀ j, W32 (c0.s.d.getD j 0)) (hm32 : ∀ j, W32 (c0.mem.getD j 0)) (hfit : fitP im t c0.s = true) :
    Calls Tryd.prog 15 #[imv, .int .i64 t, .pointer (some ⟨S, 0, none⟩), mv, pv, .int .i64 fuel] w (RunLeft w S dv mv PR PF (runP im t inp nxt fuel.toNat c0)) := by
  have hi := hp.im w (Below.refl _ _)
  obtain ⟨i0, hi0, hz0, hz1, hz2⟩ := info_parts Tryd.infoOut
  have hi' := hi
  obtain ⟨⟨cp, ccap, ep, ecap, himv, _, _⟩, _, _⟩ := hi'
  subst himv
  go_enter Tryd.func15, Tryd.ntmps15
  go_wp2_with fail
  have hb0 : Below w.heap.size w (w.alloc (.cells #[.slice cp im.code.length ccap, .slice ep im.ents.length ecap, .int .i64 im.sh, .int .i64 im.lk] 30)) := bAlloc (Nat.le_refl _) (Below.refl _ _)
  have hfc := fits_all _ im t S c0.s dv _ (hi.below hb0 (Nat.le_refl _)) (hst.below hb0 hst.lt) hd.shape
  rw [hfit] at hfc
  refine hfc.mono ?_
  rintro e w1 ⟨rfl, hb1⟩
  have hb : Below w.heap.size w w1 := below_then hb0 hb1 (by simp)
  have hbox : RowAt w1 w.heap.size [.slice cp im.code.length ccap, .slice ep im.ents.length ecap, .int .i64 im.sh, .int .i64 im.lk] := by
    refine RowAt.below (B := w.heap.size + 1) ?_ (hb1.mono (by simp)) (by omega)
    exact ⟨_, by show (w.heap.push _)[w.heap.size]? = _; rw [Array.getElem?_push_size]⟩
  have hinv : RunInv w im t S dv mv inp nxt PR PF fuel.toNat c0 [.slice cp im.code.length ccap, .slice ep im.ents.length ecap, .int .i64 im.sh, .int .i64 im.lk] c0 0 (.slice none 0 0) w1 :=
    ⟨Nat.zero_le _, by rw [Nat.sub_zero, Nat.add_zero], by rw [hout]; exact World.ownsRow_nil _ _ _ _, by rw [hout]; simp, Kept.of_below hb, hst.below hb hst.lt, hd.below hb (Nat.le_refl _), hm.below hb (Nat.le_refl _), hport.keep _ _ _ hpr (fun k hk _ => hb.block k hk), hbox, h32, hd32, hm32⟩
  clear hfc hb0 hb1 hb hbox hi
  go_wp2_with fail
  go_loopw [15, 16] (fun ov sv wr => ∃ (c : Cf σ) (k : Nat), sv = .int .i64 k ∧ RunInv w im t S dv mv inp nxt PR PF fuel.toNat c0 [.slice cp im.code.length ccap, .slice ep im.ents.length ecap, .int .i64 im.sh, .int .i64 im.lk] c k ov wr) (fun _ sv _ => fuel.toNat - (intOf sv).toNat)
  case atStart => exact ⟨c0, 0, rfl, hinv⟩
  case round =>
    obtain ⟨c, k, rfl, hr⟩ := hrel
    clear hinv
    have hL := hr.st.halted
    by_cases hal : c.s.halted = true
    · rw [hal] at hL
      go_wp2_with fail
      go_ret3
      exact hr.left (runP_halted hal)
    have hal' : c.s.halted = false := by simpa using hal
    rw [hal'] at hL
    clear hal
    have hle := hr.le
    by_cases hk : (k : Int) < fuel
    · have hkd : decide (fuel ≤ (k : Int)) = false := by simpa using hk
      have hx0 := hr.box.cell 0
      have hx1 := hr.box.cell 1
      have hx2 := hr.box.cell 2
      have hx3 := hr.box.cell 3
      simp only [List.getElem?_cons_zero, List.getElem?_cons_succ] at hx0 hx1 hx2 hx3
      have hstep := step_all _ im t S c.s dv mv pv c.mem (inp c.p) (PW c.p) _ (hr.set hp) (fun i => hport.port _ _ i hr.pr)
      have HK := Lib.hid hk
      clear hk
      rcases hs : stepP im t c.s c.mem (inp c.p) with er | ⟨f, s', m'⟩
      · rw [hs] at hstep
        have her : (er != 0) = true := by simpa using stepP_err hs
        have hstep' : Calls Tryd.prog 23 _ _ (fun e w' => e = .returned (.tuple #[.agg #[.int .u8 0, .int .i64 0, .int .i64 0, .int .i64 0, .int .i64 0, .int .i64 0, .bool false, .int .i64 0, .int .i32 0], .int .i64 er]) ∧ Below _ _ w') := hstep
        clear hstep
        have hrun := runP_err (nxt := nxt) (fuel := fuel.toNat - k - 1) hal' (show cstep im t inp nxt c = .error er by simp [cstep, hs])
        have HR := Lib.hid hrun
        clear hrun hs
        go_wp2_with fail
        refine hstep'.mono ?_
        rintro e w2 ⟨rfl, hb2⟩
        clear hstep'
        have hr2 := hr.later hport hb2
        clear hb2 hr
        go_wp2_with fail
        go_ret3
        have hk := HK.out
        have e1 : fuel.toNat - k = fuel.toNat - k - 1 + 1 := by omega
        refine (hr2.later hport (bAlloc (Nat.le_refl _) (Below.refl _ _))).left ?_
        rw [e1]
        exact HR.out
      · rw [hs] at hstep
        have hstep' : Calls Tryd.prog 23 _ _ (fun e w' => e = .returned (.tuple #[.agg #[.int .u8 f.n, .int .i64 f.a, .int .i64 f.b, .int .i64 f.c, .int .i64 f.i, .int .i64 f.pc, .bool f.tk, .int .i64 f.ad, .int .i32 f.vl], .int .i64 0]) ∧ (Kept (OwnF S dv mv) (if f.n = 26 then PW c.p f.i _ else _) w' ∧ StAt w' S s' dv ∧ MemAt w' dv s'.d ∧ MemAt w' mv m')) := hstep
        clear hstep
        have HS := Lib.hid hs
        clear hs
        by_cases h27 : f.n = 27
        · have hb27 : ((f.n : Int) == 27) = true := by simp [h27]
          go_wp2_with fail
          refine hstep'.mono ?_
          rintro e w2 ⟨rfl, h2⟩
          clear hstep'
          have hown := ownsRow_next hr hp hport h2.1
          have hsz2 : w.heap.size + 1 ≤ w2.heap.size := by have a1 := h2.1.size; have a2 := sizePW hport c.p f.i wr f.n; have a3 := hr.box.lt; omega
          have hlen := hr.outs
          have hxi := Tryd.underlying39
          go_wp2_with (first | (at_builtin; refine wpList_append_own _ rfl _ _ 39 rfl (w.heap.size + 1) 72 i0 (.agg #[.int .i64 0, .int .i32 0]) 2 16 hxi hi0 hz0 hz1 hz2 rfl (by decide) _ _ _ rfl ((hown.alloc _).alloc _) ⟨w2.heap.size + 1, 0, none⟩ 1 1 [.int .i64 f.i, .int .i32 f.vl] rfl rfl ?c1 ?c2 ?c3 ?c4 ?c5 ?_))
          case c1 =>
            intro j u hj
            match j, hj with
            | 0, hj => simp at hj; subst hj; simp [Addr.add, go_sem]
            | 1, hj => simp at hj; subst hj; simp [Addr.add, go_sem]
          case c2 => intro u hu; simp at hu; rcases hu with rfl | rfl <;> rfl
          case c3 => have := HK.out; unfold maxLen; omega
          case c4 => have := HK.out; omega
          case c5 => simp; omega
          intro v' w3 hown' hgrow _
          have HN := hr.next (ov' := v') hp hport HS.out hal' (by have := HK.out; omega) h2.1 h2.2.1 h2.2.2.1 h2.2.2.2 (w2 := w3)
            (fun j hj hne => (hgrow.block j (by simp; omega) (fun e => hne j e.symm (ownBase hown e.symm) rfl)).trans ((Below.heap_alloc _ _ _ (by simp; omega)).trans (Below.heap_alloc _ _ _ hj))) hgrow.os hgrow.tape hgrow.output (by have := hgrow.size; simp at this; omega)
            (by rw [if_pos h27]; simpa [outCells, List.flatMap_append] using hown')
          clear h2 HS hr hown hown' hgrow
          go_wp2_with fail
          go_roundw
          case rel =>
            obtain ⟨c', hc'⟩ := HN
            exact ⟨c', k + 1, by go_num, hc'⟩
          case measure => have := HK.out; simp [intOf]; omega
        · have hb27 : ((f.n : Int) == 27) = false := by simp; omega
          go_wp2_with fail
          refine hstep'.mono ?_
          rintro e w2 ⟨rfl, h2⟩
          clear hstep'
          have HN := hr.next (ov' := u15) hp hport HS.out hal' (by have := HK.out; omega) h2.1 h2.2.1 h2.2.2.1 h2.2.2.2 (w2 := w2.alloc (.cells #[.int .u8 f.n, .int .i64 f.a, .int .i64 f.b, .int .i64 f.c, .int .i64 f.i, .int .i64 f.pc, .bool f.tk, .int .i64 f.ad, .int .i32 f.vl] 91))
            (fun j hj _ => Below.heap_alloc _ _ _ hj) rfl rfl rfl (by simp) (by rw [if_neg h27]; exact (ownsRow_next hr hp hport h2.1).alloc _)
          clear h2 HS hr
          go_wp2_with fail
          go_roundw
          case rel =>
            obtain ⟨c', hc'⟩ := HN
            exact ⟨c', k + 1, by go_num, hc'⟩
          case measure => have := HK.out; simp [intOf]; omega
    · have hkd : decide (fuel ≤ (k : Int)) = true := by simp; omega
      go_wp2_with fail
      go_ret3
      refine hr.left ?_
      have e0 : fuel.toNat - k = 0 := by omega
      rw [e0]
      exact runP_fuel hal'

end Go.Proofs.YtpachmkklppmjaaDoor
