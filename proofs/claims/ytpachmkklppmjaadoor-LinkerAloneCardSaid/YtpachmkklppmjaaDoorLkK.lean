/- linker.Link, by contract. -/
import Derived.Test.YtpachmkklppmjaaDoorLkC
import Derived.Laws.ResultCell
set_option linter.unusedVariables false
set_option linter.unusedSimpArgs false
namespace Go.Proofs.YtpachmkklppmjaaDoor
open Go.RowKit Go.Maps

def LkPost (S : List LSh) (l : List LOb) (w : World) (e : Ending) (w' : World) : Prop := Below w.heap.size w w' ∧ match linkR S l with
  | some im => ∃ imv lv, e = .returned (.tuple #[imv, lv, .int .i64 0]) ∧ ImAt w' imv im ∧ SyRd w' lv (symS S)
  | none => ∃ er : Int, er ≠ 0 ∧ e = .returned (.tuple #[.agg #[.slice none 0 0, .slice none 0 0, .int .i64 0, .int .i64 0], .slice none 0 0, .int .i64 er])
theorem bRowK {B : Nat} {a w : World} {g : Nat} {cs : Array Value} (hg : B ≤ g) (h : Below B a w) : Below B a (w.setRow g cs) :=
  ⟨h.os, h.tape, h.output, by simpa [World.setRow] using h.size, fun k hk => by
    have := h.block k hk
    simp only [World.setRow, Array.getElem?_modify]
    rw [if_neg (by omega)]
    exact this⟩
theorem Touch.setRowK {col : Nat → Nat} {c : Nat} {w : World} {g : Nat} (hg : col g = c) (cs : Array Value) : Touch col c w (w.setRow g cs) :=
  ⟨rfl, rfl, rfl, by simp [World.setRow], fun k _ hne => by
    simp only [World.setRow, Array.getElem?_modify]
    rw [if_neg (fun e => hne (by rw [← e]; exact hg))]⟩
theorem linkR_no {S : List LSh} {l : List LOb} (h : ¬ (okL S l = true ∧ l.all (okR2 S) = true)) : linkR S l = none := if_neg h

theorem LoRel.get {W0 w : World} {gi gm n m g cap : Nat} {C : List Int} {E : List En} {sh lk : Int} {L : List (ByteArray × Int × Int)} {F : ByteArray → Option Value} {R : List (Nat × List Value)} {G : List GI} {lv : Value} (h : LoRel W0 gi gm C E sh lk L n F R G (.slice (some ⟨g, 0, none⟩) m cap) lv w) (hm : G.length = m) {j : Nat} (hj : j < m) :
    g < w.heap.size ∧ w.cell? ⟨g, j * 5, none⟩ = some (.int .u8 (G.getD j default).op) ∧ w.cell? ⟨g, j * 5 + 1, none⟩ = some (.int .i64 (G.getD j default).a) ∧ w.cell? ⟨g, j * 5 + 2, none⟩ = some (.int .i64 (G.getD j default).b) ∧ w.cell? ⟨g, j * 5 + 3, none⟩ = some (.int .i64 (G.getD j default).c) ∧ w.cell? ⟨g, j * 5 + 4, none⟩ = some (.int .i64 (G.getD j default).imm) := by
  subst hm
  obtain ⟨_, _, _, h⟩ := h
  have hx : ∀ q, q < 5 → g < w.heap.size ∧ w.cell? ⟨g, j * 5 + q, none⟩ = (giV (G.getD j default))[q]? := fun q hq => by
    obtain ⟨g2, c2, e, hg, _, hc, _⟩ := h.g.cell (j := j * 5 + q) (by omega)
    cases e
    exact ⟨hg, hc.trans (codeV_at G j hj q hq)⟩
  exact ⟨(hx 0 (by decide)).1, (hx 0 (by decide)).2, (hx 1 (by decide)).2, (hx 2 (by decide)).2, (hx 3 (by decide)).2, (hx 4 (by decide)).2⟩
theorem words_next (G : List GI) {i : Nat} (hi : i < G.length) : (G.map encG).take (i + 1) = (G.map encG).take i ++ [encG (G.getD i default)] := by
  rw [List.take_add_one, List.getElem?_map, List.getD_eq_getElem?_getD, List.getElem?_eq_getElem hi]
  rfl
theorem encG_bd {g : GI} (h : vG g = true) : 0 ≤ encG g ∧ encG g < 4294967296 := by
  obtain ⟨op, a, b, c, im⟩ := g
  exact encW_bd h
theorem codeL_bd {S : List LSh} {l : List LOb} (h : l.all (okR2 S) = true) (k : Nat) (hk : k < (codeL S l).length) : 0 ≤ (codeL S l).getD k 0 ∧ (codeL S l).getD k 0 < 4294967296 := by
  have hm : (codeL S l).getD k 0 ∈ codeL S l := by
    rw [List.getD_eq_getElem?_getD, List.getElem?_eq_getElem hk]
    exact List.getElem_mem hk
  generalize (codeL S l).getD k 0 = x at hm
  obtain ⟨o, ho, hx⟩ := List.mem_flatMap.1 hm
  obtain ⟨g, hg, rfl⟩ := List.mem_map.1 hx
  exact encG_bd (List.all_eq_true.1 (List.all_eq_true.1 h o ho) g hg)
def zEn : Value := .agg #[.string ⟨#[]⟩, .int .i64 0, .int .i64 0, .int .i64 0]

set_option maxHeartbeats 12800000 in
set_option maxRecDepth 40000 in
theorem link_any (sv lv : Value) (S : List LSh) (l : List LOb) (w : World) (hT : Tab w) (hS : ShAt w sv S) (hL : ObsAt w lv l) (hF : LFit S l) (hSl : S.length ≤ 10) (hll : l.length ≤ 10) (hrl : ∀ k, k < l.length → (l.getD k default).refs.length ≤ 100) (hcl : ∀ k, k < l.length → (l.getD k default).code.length ≤ 5000) :
    Calls Tryd.prog 6 #[sv, lv] w (LkPost S l w) := by
  obtain ⟨sp, sc, rfl⟩ := hS.shape
  obtain ⟨lp, lc, rfl⟩ := hL.shape
  have hmm := @run_makeMap Tryd.prog
  have hb1 : Below w.heap.size w (w.alloc (.cells #[.slice none 0 0, .slice none 0 0, .int .i64 0, .int .i64 0] 30)) := bAlloc (Nat.le_refl _) (Below.refl _ _)
  have hrow := heap_alloc_new w (.cells #[.slice none 0 0, .slice none 0 0, .int .i64 0, .int .i64 0] 30)
  have HLL := Lib.hid (linkable_any _ _ S l _ (hT.of_below hb1) (hS.below hb1 (Nat.le_refl _)) (hL.below hb1 (Nat.le_refl _)) hF hSl hll hrl hcl)
  have HZi : Hid ((Tryd.prog.info? 30).map (·.size) = some (#[.slice none 0 0, .slice none 0 0, .int .i64 0, .int .i64 0] : Array Value).size) := (show _ = _ by kernel_rfl)
  have HZa : Hid ((#[.slice none 0 0, .slice none 0 0, .int .i64 0, .int .i64 0] : Array Value).all (·.oneCell') = true) := (show (#[.slice none 0 0, .slice none 0 0, .int .i64 0, .int .i64 0] : Array Value).all (·.oneCell') = true by simp [Value.oneCell'])
  have HS := Lib.hid hS
  have HL := Lib.hid hL
  have HF := Lib.hid hF
  have HTB := Lib.hid hT
  have HCL := Lib.hid hcl
  have HRL := Lib.hid hrl
  have HB1 := Lib.hid hb1
  have HROW1 := Lib.hid hrow
  have hz1 : w.heap.size < (w.alloc (.cells #[.slice none 0 0, .slice none 0 0, .int .i64 0, .int .i64 0] 30)).heap.size := by simp
  clear hS hL hF hT hcl hrl hb1 hrow
  go_enter Tryd.func6, Tryd.ntmps6
  go_wp2_with fail
  refine HLL.out.mono ?_
  rintro e w2 ⟨er, rfl, hiff, hb2⟩
  have HBW := Lib.hid (HB1.out.trans (hb2.mono HB1.out.size))
  have HROW := Lib.hid ((hb2.block w.heap.size hz1).trans HROW1.out)
  have hz2 : w.heap.size < w2.heap.size := Nat.lt_of_lt_of_le hz1 hb2.size
  clear HLL hb2 HB1 HROW1 hz1
  by_cases her : er = 0
  · have hok := hiff.1 her
    subst her
    clear hiff
    have HOK := Lib.hid hok
    have hsz := ((okL_iff S l).1 hok).2.1
    have HSZ := Lib.hid hsz
    have HVA := Lib.hid ((okL_iff S l).1 hok).1
    have HTB2 := Lib.hid (HTB.out.of_below HBW.out)
    have H0 := Lib.hid (LkRel.begin w2 30)
    have HKP := Lib.hid (fun W (hb : Below w2.heap.size w2 W) => HBW.out.trans (hb.mono HBW.out.size))
    clear hok hsz
    go_wp2_with fail
    go_loopw [9, 34] (fun s9 s34 wx => ∃ k : Nat, s34 = .int .i64 k ∧ k ≤ S.length ∧ Hid (∃ Lk, Lk = (symS S).take k ∧ LkRel w2 w2.heap.size (w2.heap.size + 1) [] [] (addrS S k) 0 Lk k (symV S k) [] s9 wx)) (fun _ s34 _ => S.length - (intOf s34).toNat)
    case atStart => exact ⟨0, rfl, Nat.zero_le _, [], rfl, H0.out⟩
    case round =>
      clear H0
      obtain ⟨k, rfl, hk, HE⟩ := hrel
      obtain ⟨w5, rfl⟩ : ∃ W : World, W = wr := ⟨_, rfl⟩
      obtain ⟨Lk, hLk, hR⟩ := HE.out
      have HR := Lib.hid hR
      have HLk := Lib.hid hLk
      clear hR hLk HE
      by_cases hlt : k < S.length
      · skip
        have hltI : (k : Int) < S.length := by omega
        obtain ⟨sp', sc', e, hs⟩ := HS.out
        cases e
        obtain ⟨m, off, rfl, hm, z0, z1⟩ := hs k hlt
        have hb := HKP.out w5 HR.out.bel
        have g0 := (hb.cell (p := ⟨m, off + k * 2, none⟩) hm).trans z0
        have g1 := (hb.cell (p := ⟨m, off + k * 2 + 1, none⟩) hm).trans z1
        have hm5 := Nat.lt_of_lt_of_le hm hb.size
        have hbd := addrS_bd HSZ.out k hk
        have hbd2 := addrS_bd HSZ.out (k + 1) (by omega)
        have hnx := addrS_next S hlt
        have HSN := Lib.hid (symS_next S hlt)
        have HVN := Lib.hid (symV_next S k)
        have hnz := HF.out.s k hlt
        generalize (S.getD k default).1 = nm at g0 z0 HSN HVN hnz
        generalize (S.getD k default).2 = ln at g1 z1 hnx
        have HLK : Hid (Lk.length = k) := (show _ = _ by rw [HLk.out, List.length_take]; simp [symS]; omega)
        clear hs hb z0 z1 hm
        go_upto_region 10 with fail
        have HR6 := Lib.hid (HR.out.made [.string nm, .int .i64 ln] 55)
        change Hid (LkRel _ _ _ _ _ _ _ _ _ _ _ _ (w5.alloc (.cells #[.string nm, .int .i64 ln] 55))) at HR6
        generalize w5.alloc (.cells #[.string nm, .int .i64 ln] 55) = w6 at HR6 ⊢
        generalize w5.heap.size = ba at HR6 ⊢
        clear HR g0 g1 hm5
        obtain ⟨sh, hsh⟩ : ∃ x, x = addrS S k := ⟨_, rfl⟩
        rw [← hsh] at hbd hnx HR6 HSN HVN
        have HSH := Lib.hid hsh
        clear hsh
        obtain ⟨col, cv, ev, hk6⟩ := HR6.out
        have y0 := (hk6.rows _ List.mem_cons_self).1.at 0 rfl
        have yl := (hk6.rows _ List.mem_cons_self).1.lt
        have x2 := hk6.box.at 2 rfl
        have xl := hk6.box.lt
        clear hk6
        go_upto_region 11 with fail
        have HR7 := Lib.hid (HR6.out.made [.string nm, .int .i64 sh, .int .i64 (k : Int)] 57)
        change Hid (LkRel _ _ _ _ _ _ _ _ _ _ _ _ (w6.alloc (.cells #[.string nm, .int .i64 sh, .int .i64 (k : Int)] 57))) at HR7
        generalize w6.alloc (.cells #[.string nm, .int .i64 sh, .int .i64 (k : Int)] 57) = w7 at HR7 ⊢
        generalize w6.heap.size = bs at HR7 ⊢
        clear HR6 y0 yl x2 xl col cv ev
        obtain ⟨col, cv, ev, hk7⟩ := HR7.out
        obtain ⟨lp2, lc2, e⟩ := hk7.syms.shape
        rw [HLK.out] at e
        subst e
        have y0 := (hk7.rows _ List.mem_cons_self).1.at 0 rfl
        have y1 := (hk7.rows _ List.mem_cons_self).1.at 1 rfl
        have y2 := (hk7.rows _ List.mem_cons_self).1.at 2 rfl
        have yl := (hk7.rows _ List.mem_cons_self).1.lt
        have HOW := Lib.hid (fun o : Obj => (hk7.keep (bAlloc (o := o) (Nat.le_refl _) (Below.refl _ _))).syms.1)
        have HK7 := Lib.hid hk7
        clear hk7 HR7
        rw [HLK.out] at HOW
        go_upto_region 12 with (first | (at_builtin; refine wpList_append_els rfl _ _ 31 57 zSy 3 32 rfl Tryd.underlying31 infoSy rfl (by decide) (by decide) (.slice lp2 k lc2) k (syV Lk) rfl (HOW.out _) w7.heap.size 1 [.string nm, .int .i64 sh, .int .i64 (k : Int)] rfl rfl (RowC.made w7 [.string nm, .int .i64 sh, .int .i64 (k : Int)] 57).2 (by simp [Value.oneCell']) (by omega) ?_))
        intro p c' w8 hO hg hd
        have hd2 : (Value.slice p (k + 1) c').ownBlock = (Value.slice lp2 k lc2).ownBlock ∨ ∀ q, (Value.slice p (k + 1) c').ownBlock = some q → (w7.alloc (.cells #[.string nm, .int .i64 sh, .int .i64 (k : Int)] 57)).heap.size ≤ q := by
          rcases hd with h | h
          · exact .inl h
          · exact .inr fun q hq => by have h3 := h q hq; simp at h3 ⊢; omega
        obtain ⟨col8, hk8⟩ := HK7.out.sym (x := (nm, sh, (k : Int))) (bAlloc (o := .cells #[.string nm, .int .i64 sh, .int .i64 (k : Int)] 57) (Nat.le_refl _) (Below.refl _ _)) hg (by rw [HLK.out]; exact hO) hd2
        rw [HLk.out, ← HSN.out] at hk8
        have hmp := hk8.mp
        have HK8 := Lib.hid hk8
        clear hO hg hd hd2 HK7 HOW y0 y1 y2 yl
        have y0 : w8.cell? ⟨ba, 0, none⟩ = some (.string nm) := (hk8.rows _ (List.mem_cons_of_mem _ List.mem_cons_self)).1.at 0 rfl
        have yl : ba < w8.heap.size := (hk8.rows _ (List.mem_cons_of_mem _ List.mem_cons_self)).1.lt
        have v0 : w8.cell? ⟨bs, 0, none⟩ = some (.string nm) := (hk8.rows _ List.mem_cons_self).1.at 0 rfl
        have v1 : w8.cell? ⟨bs, 1, none⟩ = some (.int .i64 sh) := (hk8.rows _ List.mem_cons_self).1.at 1 rfl
        have v2 : w8.cell? ⟨bs, 2, none⟩ = some (.int .i64 (k : Int)) := (hk8.rows _ List.mem_cons_self).1.at 2 rfl
        have vl : bs < w8.heap.size := (hk8.rows _ List.mem_cons_self).1.lt
        clear hk8
        go_upto_region 13 with (first | (at_mapUpdate; refine wpList_put_mp rfl _ _ _ 62 57 rfl Tryd.underlying62 (w2.heap.size + 1) k (symV S k) hmp rfl nm rfl hnz (by omega) (.agg #[.string nm, .int .i64 sh, .int .i64 (k : Int)]) rfl ?_))
        intro w9 hm9 hg9
        rw [← HVN.out] at hm9
        obtain ⟨col9, cv9, ev9, hk9⟩ := HK8.out.name hm9 hg9
        have HK9 := Lib.hid hk9
        clear hm9 hg9 hmp HK8 y0 yl v0 v1 v2 vl
        have y1 : w9.cell? ⟨ba, 1, none⟩ = some (.int .i64 ln) := (hk9.rows _ (List.mem_cons_of_mem _ List.mem_cons_self)).1.at 1 rfl
        have yl : ba < w9.heap.size := (hk9.rows _ (List.mem_cons_of_mem _ List.mem_cons_self)).1.lt
        have x2 := hk9.box.at 2 rfl
        have x2f := hk9.fz 2
        have xl := hk9.box.lt
        have hww : IntKind.i64.wrap (sh + ln) = sh + ln := IntWalk.i64_in _ ⟨by omega, by omega⟩
        have HN9 : Hid (LkRel w2 w2.heap.size (w2.heap.size + 1) [] [] (addrS S (k + 1)) 0 ((symS S).take (k + 1)) (k + 1) (symV S (k + 1)) [] (.slice p (k + 1) c') (w9.setCell ⟨w2.heap.size, 2, none⟩ (.int .i64 (sh + ln)))) := (show LkRel _ _ _ _ _ _ _ _ _ _ _ _ _ by rw [hnx]; exact (HK9.out.setS (sh + ln)).drop.drop)
        clear hk9 HK9
        go_wp2_with fail
        go_roundw
        case rel => exact ⟨k + 1, by go_num, by omega, _, rfl, HN9.out⟩
        case measure => simp [intOf]; omega
      · skip
        obtain rfl : k = S.length := by omega
        have hLS : (symS S).take S.length = symS S := List.take_of_length_le (by simp [symS])
        rw [HLk.out, hLS] at HR
        clear HLk hLS hk hlt Lk
        obtain ⟨col, cv, ev, hk5⟩ := HR.out
        have x3 := hk5.box.at 3 rfl
        have x3f := hk5.fz 3
        have xl := hk5.box.lt
        obtain ⟨lp2, lc2, e⟩ := hk5.syms.shape
        have hsl : (symS S).length = S.length := by simp [symS]
        rw [hsl] at e
        subst e
        have HR2 : Hid (LkRel w2 w2.heap.size (w2.heap.size + 1) [] [] (addrS S S.length) S.length (symS S) S.length (symV S S.length) [] (.slice lp2 S.length lc2) (w5.setCell ⟨w2.heap.size, 3, none⟩ (.int .i64 S.length))) := (show LkRel _ _ _ _ _ _ _ _ _ _ _ _ _ from hk5.setL S.length)
        clear hk5 HR hsl
        go_upto_region 16 with fail
        generalize w5.setCell ⟨w2.heap.size, 3, none⟩ (.int .i64 S.length) = w6 at HR2 ⊢
        clear x3 x3f xl col cv ev w5
        go_wp2_with fail
        go_loopw [65] (fun s65 wx => ∃ k : Nat, s65 = .int .i64 k ∧ k ≤ l.length ∧ Hid (∃ C E, C = codeL S (l.take k) ∧ E = entsL (l.take k) ∧ (l.take k).all (okR2 S) = true ∧ LkRel w2 w2.heap.size (w2.heap.size + 1) C E (addrS S S.length) S.length (symS S) S.length (symV S S.length) [] (.slice lp2 S.length lc2) wx)) (fun s65 _ => l.length - (intOf s65).toNat)
        case atStart => exact ⟨0, rfl, Nat.zero_le _, [], [], rfl, rfl, rfl, HR2.out⟩
        case round =>
          clear HR2 w6
          obtain ⟨k, rfl, hk, HE⟩ := hrel
          obtain ⟨w5, rfl⟩ : ∃ W : World, W = wr := ⟨_, rfl⟩
          obtain ⟨C, E, hC, hE, hA, hR⟩ := HE.out
          have HR := Lib.hid hR
          have HC := Lib.hid hC
          have HEE := Lib.hid hE
          have HAA := Lib.hid hA
          clear hR hC hE hA HE
          by_cases hlt : k < l.length
          · skip
            have hltI : (k : Int) < l.length := by omega
            obtain ⟨lp', lc', e, hs⟩ := HL.out
            cases e
            obtain ⟨m, off, cv, rv, rfl, hm, ⟨z0, z1, z2, z3⟩, hgs, hrf⟩ := hs k hlt
            clear hs
            have hb := HKP.out w5 HR.out.bel
            have g0 := (hb.cell (p := ⟨m, off + k * 4, none⟩) hm).trans z0
            have g1 := (hb.cell (p := ⟨m, off + k * 4 + 1, none⟩) hm).trans z1
            have g2 := (hb.cell (p := ⟨m, off + k * 4 + 2, none⟩) hm).trans z2
            have g3 := (hb.cell (p := ⟨m, off + k * 4 + 3, none⟩) hm).trans z3
            have hm5 := Nat.lt_of_lt_of_le hm hb.size
            have hob := ob_ok (List.all_eq_true.1 HVA.out _ (mem_at2 l hlt))
            have HCN : Hid (codeL S (l.take (k + 1)) = C ++ wdsO S (l.getD k default)) := (show _ = _ by rw [take_next l hlt, codeL_push, ← HC.out])
            have HEN : Hid (entsL (l.take (k + 1)) = E ++ [⟨(l.getD k default).nm, C.length, C.length + (l.getD k default).code.length, (l.getD k default).dat⟩]) := (show _ = _ by rw [entsL_next l hlt, ← HEE.out, HC.out, codeL_len])
            have HAN : Hid ((l.take (k + 1)).all (okR2 S) = okR2 S (l.getD k default)) := (show _ = _ by rw [take_next l hlt, List.all_append, HAA.out]; simp)
            have HMEM : Hid (l.getD k default ∈ l) := (show _ ∈ _ from mem_at2 l hlt)
            have hci : C.length ≤ 50000 := by
              rw [HC.out, codeL_len]
              have h1 : insN (l.take k) ≤ insN l := by have := insN_take l hlt; omega
              have h2 := ((okL_iff S l).1 HOK.out).2.2.2.2.2.2
              unfold fullB at h2
              simp only [Bool.or_eq_false_iff, decide_eq_false_iff_not] at h2
              omega
            have hei : E.length ≤ 10 := by
              rw [HEE.out]
              simp [entsL]
              omega
            have HFR := Lib.hid (HF.out.r k hlt)
            have hrl := HRL.out k hlt
            have HRF := Lib.hid (fun W (hb : Below w2.heap.size w2 W) => And.intro (hgs.below (HKP.out W hb) (Nat.le_refl _)) (hrf.below (HKP.out W hb) (Nat.le_refl _)))
            obtain ⟨rp, rc, rfl⟩ := hrf.shape
            obtain ⟨cp, cc, rfl⟩ := hgs.shape
            generalize l.getD k default = ob at g0 g1 g2 g3 HCN HEN HAN HMEM HFR hrl HRF hob z0 z1 z2 z3 hgs hrf
            obtain ⟨nm, code, refs, dat⟩ := ob
            clear hgs hrf hb z0 z1 z2 z3 hm HC HEE HAA
            go_upto_region 19 with fail
            have HR6 := Lib.hid (HR.out.made [.string nm, .slice cp code.length cc, .int .i64 dat, .slice rp refs.length rc] 38)
            change Hid (LkRel _ _ _ _ _ _ _ _ _ _ _ _ (w5.alloc (.cells #[.string nm, .slice cp code.length cc, .int .i64 dat, .slice rp refs.length rc] 38))) at HR6
            generalize w5.alloc (.cells #[.string nm, .slice cp code.length cc, .int .i64 dat, .slice rp refs.length rc] 38) = w6 at HR6 ⊢
            generalize w5.heap.size = bo at HR6 ⊢
            clear HR g0 g1 g2 g3 hm5
            obtain ⟨col, cv, ev, hk6⟩ := HR6.out
            obtain ⟨cvp, cvc, rfl⟩ := hk6.code.shape
            have y1 : w6.cell? ⟨bo, 1, none⟩ = some (.slice cp code.length cc) := (hk6.rows _ List.mem_cons_self).1.at 1 rfl
            have y3 : w6.cell? ⟨bo, 3, none⟩ = some (.slice rp refs.length rc) := (hk6.rows _ List.mem_cons_self).1.at 3 rfl
            have yl : bo < w6.heap.size := (hk6.rows _ List.mem_cons_self).1.lt
            have x0 := hk6.box.at 0 rfl
            have xl := hk6.box.lt
            have HCN := Lib.hid (clone_gs (HRF.out w6 HR6.out.bel).1 hob.pos (by have := hob.big; omega))
            have HOB := Lib.hid hob
            clear hk6 hob
            go_wp2_with fail
            refine HCN.out.mono ?_
            rintro e w7 ⟨v', rfl, hv', hb7⟩
            have hlo := HR6.out.openO hb7 hv'
            obtain ⟨g, gcap, rfl⟩ : ∃ g gcap, v' = .slice (some ⟨g, 0, none⟩) code.length gcap := by
              rcases hv'.2 with ⟨_, h⟩ | ⟨g, cap, cur, h, _⟩
              · have : 1 ≤ code.length := HOB.out.pos
                omega
              · exact ⟨g, cap, h⟩
            have HLO := Lib.hid hlo
            have y3' : w7.cell? ⟨bo, 3, none⟩ = some (.slice rp refs.length rc) := (hlo.at (b := bo) List.mem_cons_self).at 3 rfl
            have yl' : bo < w7.heap.size := (hlo.at (b := bo) List.mem_cons_self).lt
            clear HCN hv' hb7 hlo HR6 y1 y3 yl x0 xl col
            go_wp2_with fail
            go_loopw [78] (fun s78 wx => ∃ r : Nat, s78 = .int .i64 r ∧ r ≤ refs.length ∧ Hid (∃ G, G = relC (symG S) code (refs.take r) ∧ G.length = code.length ∧ ImB G (200000 + 1000 * r) ∧ LoRel w2 w2.heap.size (w2.heap.size + 1) C E (addrS S S.length) S.length (symS S) S.length (symV S S.length) [(bo, [.string nm, .slice cp code.length cc, .int .i64 dat, .slice rp refs.length rc])] G (.slice (some ⟨g, 0, none⟩) code.length gcap) (.slice lp2 S.length lc2) wx)) (fun s78 _ => refs.length - (intOf s78).toNat)
            case atStart => exact ⟨0, rfl, Nat.zero_le _, code, rfl, rfl, by simpa using ImB.start HOB.out, HLO.out⟩
            case round =>
              clear HLO y3' yl' w7
              obtain ⟨r, rfl, hr, HG⟩ := hrel
              obtain ⟨w7, rfl⟩ : ∃ W : World, W = wr := ⟨_, rfl⟩
              obtain ⟨G, hG, hGl, hGb, hR⟩ := HG.out
              have HR := Lib.hid hR
              have HGE := Lib.hid hG
              have HGB := Lib.hid hGb
              have HGL := Lib.hid hGl
              clear hR hG hGb hGl HG
              by_cases hrl2 : r < refs.length
              · skip
                have hrI : (r : Int) < refs.length := by omega
                obtain ⟨m3, off3, rc', e, hm3, y0, y1, y2⟩ := (HRF.out w7 HR.out.bel).2.get hrl2
                cases e
                have HTR : Hid (relC (symG S) code (refs.take (r + 1)) = G.set (refs.getD r default).at'.toNat (relI (symG S) (refs.getD r default) (G.getD (refs.getD r default).at'.toNat default))) := (show _ = _ by rw [take_next refs hrl2, relC_push, ← HGE.out])
                have hat := HOB.out.at0 r hrl2
                have hnz := HFR.out r hrl2
                have hsg := symG_bd HSZ.out hSl (refs.getD r default).nm
                generalize refs.getD r default = rf at y0 y1 y2 HTR hat hnz hsg
                obtain ⟨ra, rn, rk⟩ := rf
                have hat' : 0 ≤ ra ∧ ra < (code.length : Int) := hat
                clear hat
                obtain ⟨ran, rfl⟩ := Int.eq_ofNat_of_zero_le hat'.1
                have hran : ran < code.length := by have := hat'.2; omega
                have hranI : (ran : Int) < (code.length : Int) := hat'.2
                clear hat'
                obtain ⟨tn, htn⟩ := symV_get S rn
                have hnz' : rn.size ≤ maxLen := hnz
                obtain ⟨sa, hsa⟩ : ∃ x, x = (symG S rn).1 := ⟨_, rfl⟩
                obtain ⟨sk, hsk⟩ : ∃ x, x = (symG S rn).2 := ⟨_, rfl⟩
                have hsg' : (0 ≤ sa ∧ sa ≤ 320) ∧ 0 ≤ sk ∧ sk ≤ 10 := by rw [hsa, hsk]; exact hsg
                have HTR2 : Hid (relC (symG S) code (refs.take (r + 1)) = G.set ran { G.getD ran default with imm := if rk = true then sk else (G.getD ran default).imm + sa }) := (show _ = _ by rw [HTR.out, hsa, hsk]; rfl)
                rw [← hsa, ← hsk] at htn
                clear HTR hsg hsa hsk hnz
                go_upto_region 24 with fail
                have HRA := Lib.hid (HR.out.keep (bAlloc (o := .cells #[.int .i64 (ran : Int), .string rn, .bool rk] 53) (Nat.le_refl _) (Below.refl _ _)))
                have hrow := RowC.made w7 [.int .i64 (ran : Int), .string rn, .bool rk] 53
                change RowC (w7.alloc (.cells #[.int .i64 (ran : Int), .string rn, .bool rk] 53)) _ _ at hrow
                generalize w7.alloc (.cells #[.int .i64 (ran : Int), .string rn, .bool rk] 53) = w8 at HRA hrow ⊢
                generalize w7.heap.size = br at hrow ⊢
                have z0 := hrow.at 0 rfl
                have z1 := hrow.at 1 rfl
                have z2 := hrow.at 2 rfl
                have zl := hrow.lt
                clear hrow y0 y1 y2 hm3 HR
                obtain ⟨col, cv8, ev8, h8⟩ := HRA.out
                have hmp := h8.k.mp
                have h8' := h8
                rw [← HGL.out] at h8'
                have hput := fun x => h8'.put (j := ran) (by rw [HGL.out]; exact hran) x
                rw [HGL.out] at hput
                obtain ⟨q1, q2, q3, -⟩ := hput 0
                have HPUT := Lib.hid fun x => (hput x).2.2.2
                have hib := HGB.out ran (by rw [HGL.out]; exact hran)
                have hlk := hmp.look (t := 62) (e := 57) Tryd.underlying62 (zeroSy _) rn hnz'
                rw [htn] at hlk
                have htn2 := htn
                clear hput h8 h8' htn
                cases rk with
                | true =>
                  have HNX : Hid (∃ G', G' = relC (symG S) code (refs.take (r + 1)) ∧ G'.length = code.length ∧ ImB G' (200000 + 1000 * ((r + 1 : Nat) : Int)) ∧ LoRel w2 w2.heap.size (w2.heap.size + 1) C E (addrS S S.length) S.length (symS S) S.length (symV S S.length) [(bo, [.string nm, .slice cp code.length cc, .int .i64 dat, .slice (some ⟨m3, off3, none⟩) refs.length rc])] G' (.slice (some ⟨g, 0, none⟩) code.length gcap) (.slice lp2 S.length lc2) (w8.setCell ⟨g, ran * 5 + 4, none⟩ (.int .i64 sk))) := (show ∃ G', _ from ⟨G.set ran { G.getD ran default with imm := sk }, by rw [HTR2.out]; rfl, by rw [List.length_set]; exact HGL.out, HGB.out.set (by omega) (by show -(_) ≤ sk ∧ sk ≤ _; omega), HPUT.out sk⟩)
                  clear HPUT HRA hmp
                  have hfd : ∀ W : World, (Instr.field 57 (.agg #[.string tn, .int .i64 sa, .int .i64 sk]) 2).run Tryd.prog W = .ok (.int .i64 sk) W := fun _ => by kernel_rfl
                  go_wp2_with fail
                  go_roundw
                  case rel => exact ⟨r + 1, by go_num, by omega, HNX.out⟩
                  case measure => simp [intOf]; omega
                | false =>
                  obtain ⟨im, him⟩ : ∃ x, x = (G.getD ran default).imm := ⟨_, rfl⟩
                  have HNX : Hid (∃ G', G' = relC (symG S) code (refs.take (r + 1)) ∧ G'.length = code.length ∧ ImB G' (200000 + 1000 * ((r + 1 : Nat) : Int)) ∧ LoRel w2 w2.heap.size (w2.heap.size + 1) C E (addrS S S.length) S.length (symS S) S.length (symV S S.length) [(bo, [.string nm, .slice cp code.length cc, .int .i64 dat, .slice (some ⟨m3, off3, none⟩) refs.length rc])] G' (.slice (some ⟨g, 0, none⟩) code.length gcap) (.slice lp2 S.length lc2) (w8.setCell ⟨g, ran * 5 + 4, none⟩ (.int .i64 (im + sa))).drew) := (show ∃ G', _ from ⟨G.set ran { G.getD ran default with imm := im + sa }, by rw [HTR2.out, him]; rfl, by rw [List.length_set]; exact HGL.out, HGB.out.set (by omega) (by show -(_) ≤ im + sa ∧ im + sa ≤ _; rw [him]; omega), (HPUT.out (im + sa)).keep (Below.refl _ _).drew⟩)
                  rw [← him] at q1 hib
                  have hww : IntKind.i64.wrap (im + sa) = im + sa := IntWalk.i64_in _ ⟨by omega, by omega⟩
                  have hmpd : MpAt w8.drew (w2.heap.size + 1) S.length (symV S S.length) := hmp.of_block rfl
                  have hlk := hmpd.look (t := 62) (e := 57) Tryd.underlying62 (zeroSy _) rn hnz'
                  rw [htn2] at hlk
                  have hfd : ∀ W : World, (Instr.field 57 (.agg #[.string tn, .int .i64 sa, .int .i64 sk]) 1).run Tryd.prog W = .ok (.int .i64 sa) W := fun _ => by kernel_rfl
                  clear HPUT HRA hmp hmpd him hib hsg'
                  go_upto_region 26 with fail
                  go_still_tail 14, (by kernel_rfl)
                  go_wp2_with fail
                  go_roundw
                  case rel => exact ⟨r + 1, by go_num, by omega, HNX.out⟩
                  case measure => simp [intOf]; omega
              · skip
                obtain rfl : r = refs.length := by omega
                have HGO : Hid (G = relO S ⟨nm, code, refs, dat⟩) := (show _ = _ by rw [HGE.out, List.take_length]; rfl)
                have hbig : code.length ≤ 4096 := HOB.out.big
                clear HGE HGB hr hrl2 hrl HRF HFR
                go_wp2_with fail
                go_loopw [111] (fun s111 wx => ∃ i : Nat, s111 = .int .i64 i ∧ i ≤ code.length ∧ Hid (∃ C2, C2 = C ++ (G.map encG).take i ∧ (G.take i).all vG = true ∧ LoRel w2 w2.heap.size (w2.heap.size + 1) C2 E (addrS S S.length) S.length (symS S) S.length (symV S S.length) [(bo, [.string nm, .slice cp code.length cc, .int .i64 dat, .slice rp refs.length rc])] G (.slice (some ⟨g, 0, none⟩) code.length gcap) (.slice lp2 S.length lc2) wx)) (fun s111 _ => code.length - (intOf s111).toNat)
                case atStart => exact ⟨0, rfl, Nat.zero_le _, C, by simp, by simp, HR.out⟩
                case round =>
                  clear HR w7
                  obtain ⟨i, rfl, hi, HW⟩ := hrel
                  obtain ⟨w7, rfl⟩ : ∃ W : World, W = wr := ⟨_, rfl⟩
                  obtain ⟨C2, hC2, hA2, hR⟩ := HW.out
                  have hc2 : C2.length ≤ 60000 := by
                    rw [hC2, List.length_append, List.length_take]
                    omega
                  have HR := Lib.hid hR
                  have HC2 := Lib.hid hC2
                  have HA2 := Lib.hid hA2
                  clear hR hC2 hA2 HW
                  by_cases hil : i < code.length
                  · skip
                    have hiI : (i : Int) < code.length := by omega
                    have hiG : i < G.length := by rw [HGL.out]; exact hil
                    obtain ⟨gl, y0, y1, y2, y3, y4⟩ := HR.out.get HGL.out hil
                    have HW1 := Lib.hid (words_next G hiG)
                    have HAN2 : Hid ((G.take (i + 1)).all vG = vG (G.getD i default)) := (show _ = _ by rw [take_next G hiG, List.all_append, HA2.out]; simp)
                    have HVN : Hid (vG (G.getD i default) = false → linkR S l = none) := (show _ → _ from fun h => linkR_no fun hx => by
                      have h1 := List.all_eq_true.1 hx.2 _ HMEM.out
                      unfold okR2 at h1
                      rw [← HGO.out] at h1
                      have h2 := List.all_eq_true.1 h1 _ (mem_at2 G hiG)
                      rw [h] at h2
                      cases h2)
                    generalize G.getD i default = gx at y0 y1 y2 y3 y4 HW1 HAN2 HVN
                    obtain ⟨op, a, b, c, im⟩ := gx
                    clear hiG
                    go_upto_region 31 with fail
                    have HRA := Lib.hid (HR.out.keep (bAlloc (o := .cells #[.int .u8 op, .int .i64 a, .int .i64 b, .int .i64 c, .int .i64 im] 51) (Nat.le_refl _) (Below.refl _ _)))
                    have hrow := RowC.made w7 [.int .u8 op, .int .i64 a, .int .i64 b, .int .i64 c, .int .i64 im] 51
                    change RowC (w7.alloc (.cells #[.int .u8 op, .int .i64 a, .int .i64 b, .int .i64 c, .int .i64 im] 51)) _ _ at hrow
                    generalize w7.alloc (.cells #[.int .u8 op, .int .i64 a, .int .i64 b, .int .i64 c, .int .i64 im] 51) = w8 at HRA hrow ⊢
                    generalize w7.heap.size = br at hrow ⊢
                    have z0 := hrow.at 0 rfl
                    have z1 := hrow.at 1 rfl
                    have z2 := hrow.at 2 rfl
                    have z3 := hrow.at 3 rfl
                    have z4 := hrow.at 4 rfl
                    have zl := hrow.lt
                    have HEC := Lib.hid (encode_any op a b c im w8 (HTB.out.of_below (HKP.out w8 HRA.out.bel)))
                    clear hrow y0 y1 y2 y3 y4 gl HR
                    go_wp2_with fail
                    refine HEC.out.mono ?_
                    rintro e w9 ⟨rfl, hb9⟩
                    have HR9 := Lib.hid (HRA.out.keep hb9)
                    clear HEC HRA hb9 z0 z1 z2 z3 z4 zl
                    cases hv : vld op a b c im with
                    | false =>
                      have e1 : encV op a b c im = 0 := by simp [encV, hv]
                      have e2 : encE op a b c im = 3 := by simp [encE, hv]
                      rw [e1, e2]
                      have HNO := Lib.hid (HVN.out hv)
                      have HBW9 := Lib.hid (HKP.out w9 HR9.out.bel)
                      have HROW9 := Lib.hid ((HR9.out.bel.block w.heap.size hz2).trans HROW.out)
                      clear hv e1 e2 HR9 HVN
                      go_wp2_with (first | (refine wpList_store_row rfl 30 (.tmp 4) (.tmp 122) rfl w.heap.size #[.slice none 0 0, .slice none 0 0, .int .i64 0, .int .i64 0] rfl rfl 30 _ HROW9.out HZi.out rfl HZa.out ?_))
                      have hblk := setRow_heap _ _ _ (#[.slice none 0 0, .slice none 0 0, .int .i64 0, .int .i64 0] : Array Value) _ _ HROW9.out
                      refine bodyPost_ret (run_result_im3 Tryd.results6 _ _ w.heap.size (.slice none 0 0) (.slice none 0 0) (.int .i64 0) (.int .i64 0) (.slice none 0 0) (.int .i64 2) rfl rfl rfl ?_ ?_ ?_ ?_) rfl ?_
                      · simp [World.cell?, hblk]
                      · simp [World.cell?, hblk]
                      · simp [World.cell?, hblk]
                      · simp [World.cell?, hblk]
                      · exact ⟨bRowK (Nat.le_refl _) HBW9.out, by rw [HNO.out]; exact ⟨_, by decide, rfl⟩⟩
                    | true =>
                      obtain ⟨x, hx⟩ : ∃ x, x = encG ⟨op, a, b, c, im⟩ := ⟨_, rfl⟩
                      have e1 : encV op a b c im = x := by rw [hx]; simp [encV, hv, encG]
                      have e2 : encE op a b c im = 0 := by simp [encE, hv]
                      have hv : vG ⟨op, a, b, c, im⟩ = true := hv
                      rw [← hx] at HW1
                      rw [hv] at HAN2
                      rw [e1, e2]
                      clear hv e1 e2 hx HVN
                      obtain ⟨col, cv9, ev9, h9⟩ := HR9.out
                      obtain ⟨cvp, cvc, rfl⟩ := h9.k.code.shape
                      have x0 := h9.k.box.at 0 rfl
                      have xl := h9.k.box.lt
                      have HOW := Lib.hid (fun o : Obj => (h9.keep (bAlloc (o := o) (Nat.le_refl _) (Below.refl _ _))).k.code.1)
                      have H9 := Lib.hid h9
                      clear h9 HR9
                      go_wp2_with (first | (at_builtin; refine wpList_append_els rfl _ _ 27 60 (.int .u32 0) 1 4 rfl Tryd.underlying27 infoU rfl (by decide) (by decide) (.slice cvp C2.length cvc) C2.length (wdV C2) rfl (HOW.out _) w9.heap.size 1 [.int .u32 x] rfl rfl (RowC.made w9 [.int .u32 x] 60).2 (by simp [Value.oneCell']) (by omega) ?_))
                      intro p c' w10 hO hg hd
                      have hd2 : (Value.slice p (C2.length + 1) c').ownBlock = (Value.slice cvp C2.length cvc).ownBlock ∨ ∀ q, (Value.slice p (C2.length + 1) c').ownBlock = some q → (w9.alloc (.cells #[.int .u32 x] 60)).heap.size ≤ q := by
                        rcases hd with h | h
                        · exact .inl h
                        · exact .inr fun q hq => by have h3 := h q hq; simp at h3 ⊢; omega
                      obtain ⟨⟨f0, ff, fl⟩, hn⟩ := H9.out.word (bAlloc (o := .cells #[.int .u32 x] 60) (Nat.le_refl _) (Below.refl _ _)) hg hO hd2
                      have HN : Hid (∃ C3, C3 = C ++ (G.map encG).take (i + 1) ∧ (G.take (i + 1)).all vG = true ∧ LoRel w2 w2.heap.size (w2.heap.size + 1) C3 E (addrS S S.length) S.length (symS S) S.length (symV S S.length) [(bo, [.string nm, .slice cp code.length cc, .int .i64 dat, .slice rp refs.length rc])] G (.slice (some ⟨g, 0, none⟩) code.length gcap) (.slice lp2 S.length lc2) (w10.setCell ⟨w2.heap.size, 0, none⟩ (.slice p (C2.length + 1) c'))) := (show ∃ C3, _ from ⟨C2 ++ [x], by rw [HW1.out, HC2.out, List.append_assoc], HAN2.out, hn⟩)
                      clear hn hO hg hd hd2 H9 HOW x0 xl HW1 HAN2
                      go_wp2_with fail
                      go_roundw
                      case rel => exact ⟨i + 1, by go_num, by omega, HN.out⟩
                      case measure => simp [intOf]; omega
                  · skip
                    obtain rfl : i = code.length := by omega
                    have hGt : (G.map encG).take code.length = wdsO S ⟨nm, code, refs, dat⟩ := by
                      rw [List.take_of_length_le (by rw [List.length_map, HGL.out]; exact Nat.le_refl _), HGO.out]
                      rfl
                    have HOK2 : Hid (okR2 S ⟨nm, code, refs, dat⟩ = true) := (show _ = _ by
                      have h := HA2.out
                      rw [List.take_of_length_le (by rw [HGL.out]; exact Nat.le_refl _), HGO.out] at h
                      exact h)
                    have HCL2 : Hid (C2.length = C.length + code.length) := (show _ = _ by rw [HC2.out, hGt, List.length_append, wdsO_len])
                    rw [hGt] at HC2
                    clear hGt hil hi
                    obtain ⟨col, cv9, ev9, h9⟩ := HR.out
                    have hk9 := h9.k
                    clear h9
                    obtain ⟨cvp, cvc, rfl⟩ := hk9.code.shape
                    obtain ⟨evp, evc, rfl⟩ := hk9.ents.shape
                    have x0 := hk9.box.at 0 rfl
                    have x1 := hk9.box.at 1 rfl
                    have xl := hk9.box.lt
                    have y0 : w7.cell? ⟨bo, 0, none⟩ = some (.string nm) := (hk9.rows _ List.mem_cons_self).1.at 0 rfl
                    have y2 : w7.cell? ⟨bo, 2, none⟩ = some (.int .i64 dat) := (hk9.rows _ List.mem_cons_self).1.at 2 rfl
                    have yl : bo < w7.heap.size := (hk9.rows _ List.mem_cons_self).1.lt
                    have HOW := Lib.hid (fun o : Obj => (hk9.keep (bAlloc (o := o) (Nat.le_refl _) (Below.refl _ _))).ents.1)
                    have H9 := Lib.hid hk9
                    clear hk9 HR
                    go_wp2_with (first | (at_builtin; refine wpList_append_els rfl _ _ 28 48 zEn 4 40 rfl Tryd.underlying28 infoEn rfl (by decide) (by decide) (.slice evp E.length evc) E.length (entV E) rfl (HOW.out _) w7.heap.size 1 [.string nm, .int .i64 C.length, .int .i64 C2.length, .int .i64 dat] rfl rfl (RowC.made w7 [.string nm, .int .i64 C.length, .int .i64 C2.length, .int .i64 dat] 48).2 (by simp [Value.oneCell']) (by omega) ?_))
                    intro p c' w10 hO hg hd
                    have hd2 : (Value.slice p (E.length + 1) c').ownBlock = (Value.slice evp E.length evc).ownBlock ∨ ∀ q, (Value.slice p (E.length + 1) c').ownBlock = some q → (w7.alloc (.cells #[.string nm, .int .i64 C.length, .int .i64 C2.length, .int .i64 dat] 48)).heap.size ≤ q := by
                      rcases hd with h | h
                      · exact .inl h
                      · exact .inr fun q hq => by have h3 := h q hq; simp at h3 ⊢; omega
                    obtain ⟨⟨f0, ff, fl⟩, hn⟩ := H9.out.entry (x := ⟨nm, C.length, C2.length, dat⟩) (bAlloc (o := .cells #[.string nm, .int .i64 C.length, .int .i64 C2.length, .int .i64 dat] 48) (Nat.le_refl _) (Below.refl _ _)) hg hO hd2
                    have HN : Hid (∃ Ca Ea, Ca = codeL S (l.take (k + 1)) ∧ Ea = entsL (l.take (k + 1)) ∧ (l.take (k + 1)).all (okR2 S) = true ∧ LkRel w2 w2.heap.size (w2.heap.size + 1) Ca Ea (addrS S S.length) S.length (symS S) S.length (symV S S.length) [] (.slice lp2 S.length lc2) (w10.setCell ⟨w2.heap.size, 1, none⟩ (.slice p (E.length + 1) c'))) := (show ∃ C E, _ from ⟨C2, E ++ [⟨nm, C.length, C2.length, dat⟩], by rw [HCN.out, HC2.out], by rw [HEN.out, HCL2.out]; simp, by rw [HAN.out, HOK2.out], hn.drop⟩)
                    clear hn hO hg hd hd2 H9 HOW x0 x1 xl y0 y2 yl HCN HEN HAN HMEM HOB HCL2 HC2
                    go_wp2_with fail
                    go_roundw
                    case rel => exact ⟨k + 1, by go_num, by omega, HN.out⟩
                    case measure => simp [intOf]; omega
          · skip
            obtain rfl : k = l.length := by omega
            rw [List.take_length] at HC HEE HAA
            obtain ⟨col, cv5, ev5, hk5⟩ := HR.out
            obtain ⟨cvp, cvc, rfl⟩ := hk5.code.shape
            obtain ⟨evp, evc, rfl⟩ := hk5.ents.shape
            have x0 := hk5.box.at 0 rfl
            have x1 := hk5.box.at 1 rfl
            have x2 := hk5.box.at 2 rfl
            have x3 := hk5.box.at 3 rfl
            have xl := hk5.box.lt
            have HBW5 := Lib.hid (HKP.out w5 hk5.bel)
            have HROW5 := Lib.hid ((hk5.bel.block w.heap.size hz2).trans HROW.out)
            have ht : Touch col 0 w5 (w5.setRow w.heap.size #[.slice cvp C.length cvc, .slice evp E.length evc, .int .i64 (addrS S S.length), .int .i64 (S.length : Int)]) := Touch.setRowK (hk5.low _ hz2) _
            have hcl : C.length ≤ 100000 := by
              rw [HC.out, codeL_len]
              have h2 := ((okL_iff S l).1 HOK.out).2.2.2.2.2.2
              unfold fullB at h2
              simp only [Bool.or_eq_false_iff, decide_eq_false_iff_not] at h2
              omega
            have HLK : Hid (linkR S l = some ⟨C, E, addrS S S.length, S.length⟩) := (show _ = _ by rw [HC.out, HEE.out]; exact if_pos ⟨HOK.out, HAA.out⟩)
            have hwd : ∀ k, k < C.length → 0 ≤ C.getD k 0 ∧ C.getD k 0 < 4294967296 := by rw [HC.out]; exact codeL_bd HAA.out
            have HIM := Lib.hid (imAt_of (sh := addrS S S.length) (lk := S.length) (hk5.code.other ht (by decide)) (hk5.ents.other ht (by decide)) hwd hcl)
            have hsl : (symS S).length = S.length := by simp [symS]
            have HSY := Lib.hid (syRd_of (hk5.syms.other ht (by decide)))
            have HZ5 : Hid ((Tryd.prog.info? 30).map (·.size) = some (#[.slice cvp C.length cvc, .slice evp E.length evc, .int .i64 (addrS S S.length), .int .i64 (S.length : Int)] : Array Value).size) := (show _ = _ by kernel_rfl)
            have HZa5 : Hid ((#[.slice cvp C.length cvc, .slice evp E.length evc, .int .i64 (addrS S S.length), .int .i64 (S.length : Int)] : Array Value).all (·.oneCell') = true) := (show _ = true by simp [Value.oneCell'])
            clear hk5 HR HC HEE HAA ht hcl hwd hsl
            go_wp2_with (first | (refine wpList_store_row rfl 30 (.tmp 4) (.tmp 145) rfl w.heap.size #[.slice cvp C.length cvc, .slice evp E.length evc, .int .i64 (addrS S S.length), .int .i64 (S.length : Int)] rfl rfl 30 _ HROW5.out HZ5.out rfl HZa5.out ?_))
            have hblk := setRow_heap _ _ _ (#[.slice cvp C.length cvc, .slice evp E.length evc, .int .i64 (addrS S S.length), .int .i64 (S.length : Int)] : Array Value) _ _ HROW5.out
            refine bodyPost_ret (run_result_im3 Tryd.results6 _ _ w.heap.size (.slice cvp C.length cvc) (.slice evp E.length evc) (.int .i64 (addrS S S.length)) (.int .i64 (S.length : Int)) (.slice lp2 S.length lc2) (.int .i64 0) rfl rfl rfl ?_ ?_ ?_ ?_) rfl ?_
            · simp [World.cell?, hblk]
            · simp [World.cell?, hblk]
            · simp [World.cell?, hblk]
            · simp [World.cell?, hblk]
            · exact ⟨bRowK (Nat.le_refl _) HBW5.out, by rw [HLK.out]; exact ⟨_, _, rfl, HIM.out, HSY.out⟩⟩
  · have HNO : Hid (linkR S l = none) := (show _ = _ from linkR_no fun h => her (hiff.2 h.1))
    clear hiff
    go_wp2_with (first | (refine wpList_store_row rfl 30 (.tmp 4) (.tmp 29) rfl w.heap.size #[.slice none 0 0, .slice none 0 0, .int .i64 0, .int .i64 0] rfl rfl 30 _ HROW.out HZi.out rfl HZa.out ?_))
    have hblk := setRow_heap _ _ _ (#[.slice none 0 0, .slice none 0 0, .int .i64 0, .int .i64 0] : Array Value) _ _ HROW.out
    refine bodyPost_ret (run_result_im3 Tryd.results6 _ _ w.heap.size (.slice none 0 0) (.slice none 0 0) (.int .i64 0) (.int .i64 0) (.slice none 0 0) (.int .i64 er) rfl rfl rfl ?_ ?_ ?_ ?_) rfl ?_
    · simp [World.cell?, hblk]
    · simp [World.cell?, hblk]
    · simp [World.cell?, hblk]
    · simp [World.cell?, hblk]
    · exact ⟨bRowK (Nat.le_refl _) HBW.out, by rw [HNO.out]; exact ⟨_, her, rfl⟩⟩
end Go.Proofs.YtpachmkklppmjaaDoor
