import Derived.Test.YtdfofelchjpioaaDoorMs35
import Derived.Deep.RegionHeld3
import Derived.Test.YtdfofelchjpioaaDoorIsaKa
import Derived.Test.YtdfofelchjpioaaDoorCorBg
import Derived.Test.YtdfofelchjpioaaDoorCorDf
import Derived.Deep.MidRow
import Derived.Great.BuildSlice
import Derived.Deep.CutBlock
set_option linter.unusedVariables false
set_option linter.unusedSimpArgs false
namespace Go.Proofs.YtdfofelchjpioaaDoor
open Go.RowKit

def RStepPost (w : World) (out : Except Int (Ef × St × List Int)) (e : Ending) (w' : World) : Prop :=
  match out with
  | .error er => e = .returned (.tuple #[.agg zero29.toArray, .int .i64 er]) ∧ Below w.heap.size w w'
  | .ok (f, s', m') => ∃ px cx pm cm, e = .returned (.tuple #[.agg (outL s' (.slice px s'.d.length cx) (.slice pm m'.length cm) f.n f.a f.b f.c f.i f.tk f.ad f.vl).toArray, .int .i64 0]) ∧ MemAt w' (.slice px s'.d.length cx) s'.d ∧ MemAt w' (.slice pm m'.length cm) m' ∧ s'.r.length = 16 ∧ Below w.heap.size w w'
theorem outL_len {s : St} {dv mv : Value} {n : Nat} {a b c i ad vl : Int} {tk : Bool} (hr : s.r.length = 16) : (outL s dv mv n a b c i tk ad vl).length = 29 := by
  unfold outL
  rw [List.length_append, stCells_len hr]
  rfl

set_option maxHeartbeats 30000000 in
set_option maxRecDepth 100000 in
theorem rstep_any (im : Im) (t : Int) (s : St) (dp cp ep : Option Addr) (dcap ccap ecap : Nat) (mp : Option Addr) (mcap : Nat) (sh : List Int) (inp : Int) (w : World) (hr : s.r.length = 16) (him : ImAt w (.agg #[.slice cp im.code.length ccap, .slice ep im.ents.length ecap, .int .i64 im.sh, .int .i64 im.lk]) im) (hfit : fitP im t s = true) (hal : s.halted = false) (hrd : RdAt w (.slice dp s.d.length dcap) s.d) (hn0 : ∀ c, Value.slice dp s.d.length dcap = .slice none 0 c → c = 0)
    (hrm : RdAt w (.slice mp sh.length mcap) sh) (hm0 : ∀ c, Value.slice mp sh.length mcap = .slice none 0 c → c = 0) (R32 : Hid (∀ j, W32 (s.r.getD j 0))) (D32 : Hid (∀ j, W32 (s.d.getD j 0))) (M32 : Hid (∀ j, W32 (sh.getD j 0))) (hin : W32 inp) (hdl : s.d.length ≤ 1000) (hsl : sh.length ≤ 1000) :
    Calls Tryd.prog 12 #[.agg #[.slice cp im.code.length ccap, .slice ep im.ents.length ecap, .int .i64 im.sh, .int .i64 im.lk], .int .i64 t, stV s (.slice dp s.d.length dcap), .slice mp sh.length mcap, .int .i32 inp] w (RStepPost w (stepP im t s sh (fun _ => inp))) := by
  obtain ⟨i0, hi0, hz0', hz1', hz2'⟩ := info_parts Tryd.info32
  have hxi := Tryd.underlying27
  have HI : Hid ((Tryd.prog.info? 29).map (·.size) = some (stCells s (.slice dp s.d.length dcap)).length) := (show _ = _ by rw [stCells_len hr]; exact infoState)
  have HIA : Hid ((Tryd.prog.info? 29).map (·.size) = some (stCells s (.slice dp s.d.length dcap)).toArray.size) := (show _ = _ by rw [List.size_toArray, stCells_len hr]; exact infoState)
  have HI29 : Hid ((Tryd.prog.info? 46).map (·.size) = some zero29.toArray.size) := (show _ = _ from info29)
  have HS29 : Hid (zero29.toArray.size = zero29.toArray.size) := (show zero29.toArray.size = zero29.toArray.size from rfl)
  have HZone : Hid (zero29.toArray.all (·.oneCell') = true) := (show zero29.toArray.all (·.oneCell') = true by simp [zero29, Value.oneCell'])
  have hfit' := hfit
  simp only [fitP, decide_eq_true_eq] at hfit'
  obtain ⟨ht0, ht1, hf2, hf3, hf4⟩ := hfit'
  obtain ⟨k, rfl⟩ := Int.eq_ofNat_of_zero_le ht0
  have hk : k < im.ents.length := by omega
  have hb0 : Below w.heap.size w (((w.alloc (.cells #[.slice cp im.code.length ccap, .slice ep im.ents.length ecap, .int .i64 im.sh, .int .i64 im.lk] 25)).alloc (.cells (stCells s (.slice dp s.d.length dcap)).toArray 29)).alloc (.cells #[.int .i64 0, .int .i32 0, .int .i32 0, .int .i32 0, .int .i32 0, .int .i32 0, .int .i32 0, .int .i32 0, .int .i32 0, .int .i32 0, .int .i32 0, .int .i32 0, .int .i32 0, .int .i32 0, .int .i32 0, .int .i32 0, .int .i32 0, .slice none 0 0, .bool false, .int .i64 0, .slice none 0 0, .int .u8 0, .int .i64 0, .int .i64 0, .int .i64 0, .int .i64 0, .bool false, .int .i64 0, .int .i32 0] 46)) := bAlloc (by simp; omega) (bAlloc (by simp) (bAlloc (Nat.le_refl _) (Below.refl _ _)))
  have HS0 : RowAt (((w.alloc (.cells #[.slice cp im.code.length ccap, .slice ep im.ents.length ecap, .int .i64 im.sh, .int .i64 im.lk] 25)).alloc (.cells (stCells s (.slice dp s.d.length dcap)).toArray 29)).alloc (.cells #[.int .i64 0, .int .i32 0, .int .i32 0, .int .i32 0, .int .i32 0, .int .i32 0, .int .i32 0, .int .i32 0, .int .i32 0, .int .i32 0, .int .i32 0, .int .i32 0, .int .i32 0, .int .i32 0, .int .i32 0, .int .i32 0, .int .i32 0, .slice none 0 0, .bool false, .int .i64 0, .slice none 0 0, .int .u8 0, .int .i64 0, .int .i64 0, .int .i64 0, .int .i64 0, .bool false, .int .i64 0, .int .i32 0] 46)) (w.heap.size + 1) (stCells s (.slice dp s.d.length dcap)) := ⟨_, (Below.heap_alloc _ _ _ (by simp)).trans (heap_at1 _ _ _)⟩
  have HI0 : RowAt (((w.alloc (.cells #[.slice cp im.code.length ccap, .slice ep im.ents.length ecap, .int .i64 im.sh, .int .i64 im.lk] 25)).alloc (.cells (stCells s (.slice dp s.d.length dcap)).toArray 29)).alloc (.cells #[.int .i64 0, .int .i32 0, .int .i32 0, .int .i32 0, .int .i32 0, .int .i32 0, .int .i32 0, .int .i32 0, .int .i32 0, .int .i32 0, .int .i32 0, .int .i32 0, .int .i32 0, .int .i32 0, .int .i32 0, .int .i32 0, .int .i32 0, .slice none 0 0, .bool false, .int .i64 0, .slice none 0 0, .int .u8 0, .int .i64 0, .int .i64 0, .int .i64 0, .int .i64 0, .bool false, .int .i64 0, .int .i32 0] 46)) w.heap.size [.slice cp im.code.length ccap, .slice ep im.ents.length ecap, .int .i64 im.sh, .int .i64 im.lk] := ⟨_, (Below.heap_alloc _ _ _ (by simp; omega)).trans ((Below.heap_alloc _ _ _ (by simp)).trans (heap_alloc_new _ _))⟩
  have HR0 : RowAt (((w.alloc (.cells #[.slice cp im.code.length ccap, .slice ep im.ents.length ecap, .int .i64 im.sh, .int .i64 im.lk] 25)).alloc (.cells (stCells s (.slice dp s.d.length dcap)).toArray 29)).alloc (.cells #[.int .i64 0, .int .i32 0, .int .i32 0, .int .i32 0, .int .i32 0, .int .i32 0, .int .i32 0, .int .i32 0, .int .i32 0, .int .i32 0, .int .i32 0, .int .i32 0, .int .i32 0, .int .i32 0, .int .i32 0, .int .i32 0, .int .i32 0, .slice none 0 0, .bool false, .int .i64 0, .slice none 0 0, .int .u8 0, .int .i64 0, .int .i64 0, .int .i64 0, .int .i64 0, .bool false, .int .i64 0, .int .i32 0] 46)) (w.heap.size + 1 + 1) zero29 := by
    have h := heap_alloc_new ((w.alloc (.cells #[.slice cp im.code.length ccap, .slice ep im.ents.length ecap, .int .i64 im.sh, .int .i64 im.lk] 25)).alloc (.cells (stCells s (.slice dp s.d.length dcap)).toArray 29)) (.cells #[.int .i64 0, .int .i32 0, .int .i32 0, .int .i32 0, .int .i32 0, .int .i32 0, .int .i32 0, .int .i32 0, .int .i32 0, .int .i32 0, .int .i32 0, .int .i32 0, .int .i32 0, .int .i32 0, .int .i32 0, .int .i32 0, .int .i32 0, .slice none 0 0, .bool false, .int .i64 0, .slice none 0 0, .int .u8 0, .int .i64 0, .int .i64 0, .int .i64 0, .int .i64 0, .bool false, .int .i64 0, .int .i32 0] 46)
    rw [show ((w.alloc (.cells #[.slice cp im.code.length ccap, .slice ep im.ents.length ecap, .int .i64 im.sh, .int .i64 im.lk] 25)).alloc (.cells (stCells s (.slice dp s.d.length dcap)).toArray 29)).heap.size = w.heap.size + 1 + 1 by simp] at h
    exact ⟨_, h⟩
  have hz3 : (((w.alloc (.cells #[.slice cp im.code.length ccap, .slice ep im.ents.length ecap, .int .i64 im.sh, .int .i64 im.lk] 25)).alloc (.cells (stCells s (.slice dp s.d.length dcap)).toArray 29)).alloc (.cells #[.int .i64 0, .int .i32 0, .int .i32 0, .int .i32 0, .int .i32 0, .int .i32 0, .int .i32 0, .int .i32 0, .int .i32 0, .int .i32 0, .int .i32 0, .int .i32 0, .int .i32 0, .int .i32 0, .int .i32 0, .int .i32 0, .int .i32 0, .slice none 0 0, .bool false, .int .i64 0, .slice none 0 0, .int .u8 0, .int .i64 0, .int .i64 0, .int .i64 0, .int .i64 0, .bool false, .int .i64 0, .int .i32 0] 46)).heap.size = w.heap.size + 1 + 1 + 1 := by simp
  have HX0 := Lib.hid (⟨hb0, HS0, HI0, HR0, hz3⟩ : _ ∧ _ ∧ _ ∧ _ ∧ _)
  have HSr := Lib.hid HS0.range
  have HCP := Lib.hid (copyS s dp s.d.length dcap (((w.alloc (.cells #[.slice cp im.code.length ccap, .slice ep im.ents.length ecap, .int .i64 im.sh, .int .i64 im.lk] 25)).alloc (.cells (stCells s (.slice dp s.d.length dcap)).toArray 29)).alloc (.cells #[.int .i64 0, .int .i32 0, .int .i32 0, .int .i32 0, .int .i32 0, .int .i32 0, .int .i32 0, .int .i32 0, .int .i32 0, .int .i32 0, .int .i32 0, .int .i32 0, .int .i32 0, .int .i32 0, .int .i32 0, .int .i32 0, .int .i32 0, .slice none 0 0, .bool false, .int .i64 0, .slice none 0 0, .int .u8 0, .int .i64 0, .int .i64 0, .int .i64 0, .int .i64 0, .bool false, .int .i64 0, .int .i32 0] 46)) hr rfl (hrd.below hb0 (Nat.le_refl _)) hn0 (by omega))
  clear hb0 HS0 HI0 HR0 hz3
  go_enter Tryd.func12, Tryd.ntmps12
  go_wp2_with (first | (refine wpList_load_mid rfl 29 (.tmp 7) rfl (w.heap.size + 1) 0 rfl (stCells s (.slice dp s.d.length dcap)) _ HSr.out Tryd.underlying29 rfl HI.out ?_; simp only [put_lit, put_no]; dsimp only [List.set_cons_succ, List.set_cons_zero]))
  refine HCP.out.mono ?_
  obtain ⟨hb0, HS0, HI0, HR0, hz3⟩ := HX0.out
  rintro e w1 ⟨px, cx, rfl, hb1, hown⟩
  have hmx1 : MemAt w1 (.slice px s.d.length cx) s.d := MemAt.of_owns hown
  have hox := Lib.hid (fun q (hq : ((.slice px s.d.length cx) : Value).ownBlock = some q) => (⟨by have := ownBase hown hq; omega, own_lt hown hq⟩ : w.heap.size + 3 ≤ q ∧ q < w1.heap.size))
  have hS1 := HS0.below hb1 HS0.lt
  have hI1 := HI0.below hb1 HI0.lt
  have hR1 := HR0.below hb1 HR0.lt
  have hz1 := hb1.size
  have hB1 : Below w.heap.size w w1 := bThen hb1 (by omega) hb0
  clear HX0 HSr HCP hb0 HS0 HI0 HR0 hb1 hown
  have hXrow : RowAt (w1.setRow (w.heap.size + 1) (stCells s (.slice px s.d.length cx)).toArray) (w.heap.size + 1) (stCells s (.slice px s.d.length cx)) := by
    obtain ⟨tt, hh⟩ := hS1
    exact ⟨_, setRow_heap _ _ _ _ _ _ hh⟩
  have hb12 : ∀ q, q ≠ (w.heap.size + 1) → (w1.setRow (w.heap.size + 1) (stCells s (.slice px s.d.length cx)).toArray).heap[q]? = w1.heap[q]? := fun q hq => setRow_block w1 (w.heap.size + 1) _ hq
  have hB2 : Below w.heap.size w (w1.setRow (w.heap.size + 1) (stCells s (.slice px s.d.length cx)).toArray) := bRow (by omega) hB1
  have hz12 : (w1.setRow (w.heap.size + 1) (stCells s (.slice px s.d.length cx)).toArray).heap.size = w1.heap.size := setRow_size _ _ _
  have hI2 : RowAt (w1.setRow (w.heap.size + 1) (stCells s (.slice px s.d.length cx)).toArray) w.heap.size [.slice cp im.code.length ccap, .slice ep im.ents.length ecap, .int .i64 im.sh, .int .i64 im.lk] := hI1.block (hb12 _ (by omega))
  have hR2 : RowAt (w1.setRow (w.heap.size + 1) (stCells s (.slice px s.d.length cx)).toArray) (w.heap.size + 1 + 1) zero29 := hR1.block (hb12 _ (by omega))
  have hm2 : MemAt (w1.setRow (w.heap.size + 1) (stCells s (.slice px s.d.length cx)).toArray) (.slice px s.d.length cx) s.d := hmx1.block (fun q hq => hb12 q (by have := (hox.out q hq).1; omega))
  have HIX : Hid ((Tryd.prog.info? 29).map (·.size) = some (stCells s (.slice px s.d.length cx)).toArray.size) := (show _ = _ by rw [List.size_toArray, stCells_len hr]; exact infoState)
  have HSZ : Hid ((stCells s (.slice dp s.d.length dcap)).toArray.size = (stCells s (.slice px s.d.length cx)).toArray.size) := (show _ = _ by rw [List.size_toArray, List.size_toArray, stCells_len hr, stCells_len hr])
  have HAll : Hid ((stCells s (.slice px s.d.length cx)).toArray.all (·.oneCell') = true) := (show _ = _ from stCells_one _ _ _ _)
  obtain ⟨tS, hS1'⟩ := hS1
  have HS1 := Lib.hid hS1'
  have HX2 := Lib.hid (⟨hXrow, hB2, hz12, hI2, hR2, hm2⟩ : _ ∧ _ ∧ _ ∧ _ ∧ _ ∧ _)
  clear hXrow hb12 hB2 hz12 hI2 hR2 hm2 hS1' hI1 hR1 hmx1
  go_upto_region 2 with (first | (refine wpList_store_row rfl 29 (.tmp 7) (.tmp 28) rfl (w.heap.size + 1) _ rfl rfl tS _ HS1.out HIX.out HSZ.out HAll.out ?_; simp only [put_no]))
  obtain ⟨hX2, hB2, hz12, hI2, hR2, hm2⟩ := HX2.out
  clear HX2 HS1 HSZ
  generalize w1.setRow (w.heap.size + 1) (stCells s (.slice px s.d.length cx)).toArray = w2 at hX2 hB2 hz12 hI2 hR2 hm2 ⊢
  have hza := Nat.le_of_eq hz12
  have hzb := Nat.le_of_eq hz12.symm
  clear hz12
  have HO2 := Lib.hid (owns_empty w2 w2.heap.size 21 w2.heap.size rfl (Nat.le_refl _))
  have HM2 := Lib.hid (Src.of_rd (hrm.below (hB2.trans ((bAlloc (o := .cells #[] 21) (Nat.le_refl _) (Below.refl w2.heap.size w2)).mono hB2.size)) (Nat.le_refl _)) hm0)
  have H1 := Lib.hid (show ∀ u ∈ sh.map (Value.int .i32), u.oneCell' = true from fun u hu => by obtain ⟨y, _, rfl⟩ := List.mem_map.1 hu; rfl)
  go_wp2_with (first | (at_builtin; refine wpList_append_new _ rfl (.tmp 29) (.tmp 30) 27 rfl w2.heap.size 21 i0 (.int .i32 0) 1 4 hxi hi0 hz0' hz1' hz2' rfl (by decide) _ rfl HO2.out _ sh.length (sh.map (.int .i32)) rfl HM2.out H1.out ?c1 ?c2 ?c3 ?_))
  case c1 => unfold maxLen; omega
  case c2 => omega
  case c3 => simp
  intro pm cm w3 hown3 hg3
  simp only [put_lit, put_no]; dsimp only [List.set_cons_succ, List.set_cons_zero]
  clear HO2 HM2 H1
  have hbb : Below w2.heap.size w2 w3 := Below.grown (bAlloc (Nat.le_refl _) (Below.refl _ _)) hg3 (by simp) (fun q hq => by cases hq; exact Nat.le_refl _)
  have hmm3 : MemAt w3 (.slice pm sh.length cm) sh := MemAt.of_owns hown3
  have hom := Lib.hid (fun q (hq : ((.slice pm sh.length cm) : Value).ownBlock = some q) => (⟨by have := ownBase hown3 hq; omega, own_lt hown3 hq⟩ : w1.heap.size ≤ q ∧ q < w3.heap.size))
  have hX3 := hX2.below hbb hX2.lt
  have hI3 := hI2.below hbb hI2.lt
  have hR3 := hR2.below hbb hR2.lt
  have hm3 := hm2.below hbb (Nat.le_refl _)
  have hz3' := hbb.size
  have hB3 : Below w.heap.size w w3 := bThen hbb hB2.size hB2
  have him3 := him.below hB3 (Nat.le_refl _)
  clear hg3 hown3 hbb hX2 hI2 hR2 hm2 hB1 hB2
  obtain ⟨⟨cp', ccap', ep', ecap', himv, hcode, hents⟩, hwords, hshort⟩ := him3
  simp only [Value.agg.injEq, Array.mk.injEq, List.cons.injEq, Value.slice.injEq, true_and, and_true] at himv
  obtain ⟨⟨rfl, rfl⟩, rfl, rfl⟩ := himv
  rcases hents with he | ⟨eb, eo, rfl, heb, hents⟩
  · rw [he] at ht1; simp at ht1; omega
  obtain ⟨he0, he1, he2, he3⟩ := hents k hk
  clear hents
  obtain ⟨en, hen⟩ : ∃ e, e = im.ents.getD k default := ⟨_, rfl⟩
  rw [← hen] at he0 he1 he2 he3
  have hsp : stepP im (k : Nat) s sh (fun _ => inp) = if s.pc < en.st ∨ en.fin ≤ s.pc ∨ s.pc < 0 ∨ (im.code.length : Int) ≤ s.pc then .error 10 else if decOk (im.code.getD s.pc.toNat 0) = false then .error 3 else match stepI im.lk (dN (im.code.getD s.pc.toNat 0)) (dA (im.code.getD s.pc.toNat 0)).toNat (dB (im.code.getD s.pc.toNat 0)).toNat (dC (im.code.getD s.pc.toNat 0)).toNat (dI (im.code.getD s.pc.toNat 0)) s sh inp with
          | .error er => .error er
          | .ok (s', mem', tk, ad, vl) => .ok (⟨dN (im.code.getD s.pc.toNat 0), (dA (im.code.getD s.pc.toNat 0)).toNat, (dB (im.code.getD s.pc.toNat 0)).toNat, (dC (im.code.getD s.pc.toNat 0)).toNat, dI (im.code.getD s.pc.toNat 0), s.pc, tk, ad, vl⟩, s', mem') := by
    unfold stepP
    rw [if_neg (by rw [hfit, hal]; simp), Int.toNat_natCast, ← hen]
    rfl
  have HSP := Lib.hid hsp
  clear hsp hen hfit hal
  have hkd : decide (k < im.ents.length) = true := by simpa using hk
  have hX3S : StAt w3 (w.heap.size + 1) s (.slice px s.d.length cx) := ⟨hr, hX3⟩
  have hpc3 := hX3S.pc
  have hlX := hX3.lt
  have hlI := hI3.lt
  have q0 := hI3.cell 0
  have q1 := hI3.cell 1
  have q2 := hI3.cell 2
  have q3 := hI3.cell 3
  simp only [List.getElem?_cons_zero, List.getElem?_cons_succ] at q0 q1 q2 q3
  go_upto_region 4 with fail
  have hb4 : Below w3.heap.size w3 (w3.alloc (.cells #[.string en.nm, .int .i64 en.st, .int .i64 en.fin, .int .i64 en.dat] 60)) := bAlloc (Nat.le_refl _) (Below.refl _ _)
  have hE4 : RowAt (w3.alloc (.cells #[.string en.nm, .int .i64 en.st, .int .i64 en.fin, .int .i64 en.dat] 60)) w3.heap.size [.string en.nm, .int .i64 en.st, .int .i64 en.fin, .int .i64 en.dat] := ⟨_, heap_alloc_new _ _⟩
  have hB4 : Below w.heap.size w (w3.alloc (.cells #[.string en.nm, .int .i64 en.st, .int .i64 en.fin, .int .i64 en.dat] 60)) := bThen hb4 hB3.size hB3
  have hz4 : w3.heap.size < (w3.alloc (.cells #[.string en.nm, .int .i64 en.st, .int .i64 en.fin, .int .i64 en.dat] 60)).heap.size := by simp
  generalize (w3.alloc (.cells #[.string en.nm, .int .i64 en.st, .int .i64 en.fin, .int .i64 en.dat] 60)) = w4 at hb4 hE4 hB4 hz4 ⊢
  clear q0 q1 q2 q3 he0 he1 he2 he3 hpc3 hX3S
  have hX4 := hX3.below hb4 hX3.lt
  have hI4 := hI3.below hb4 hI3.lt
  have hR4 := hR3.below hb4 hR3.lt
  have hm4 := hm3.below hb4 (Nat.le_refl _)
  have hmm4 := hmm3.below hb4 (Nat.le_refl _)
  have hcode4 : im.code = [] ∨ ∃ cb co, cp = some ⟨cb, co, none⟩ ∧ cb < w4.heap.size ∧ ∀ k, k < im.code.length → w4.cell? ⟨cb, co + k, none⟩ = some (.int .u32 (im.code.getD k 0)) := by
    rcases hcode with h | ⟨cb, co, h1, h2, h3⟩
    · exact .inl h
    · exact .inr ⟨cb, co, h1, Nat.lt_of_lt_of_le h2 hb4.size, fun j hj => (hb4.cell (p := ⟨cb, co + j, none⟩) h2).trans (h3 j hj)⟩
  have HC4 := Lib.hid hcode4
  clear hX3 hI3 hR3 hm3 hmm3 hcode hcode4 hb4
  have hpc4 := (show StAt w4 (w.heap.size + 1) s (.slice px s.d.length cx) from ⟨hr, hX4⟩).pc
  have hlX4 := hX4.lt
  have hlI4 := hI4.lt
  have hlE4 := hE4.lt
  obtain ⟨tR, hR4'⟩ := id hR4
  have HR := Lib.hid hR4'
  clear hR4'
  have q0 := hI4.cell 0
  have q1 := hI4.cell 1
  have q2 := hI4.cell 2
  have q3 := hI4.cell 3
  simp only [List.getElem?_cons_zero, List.getElem?_cons_succ] at q0 q1 q2 q3
  have e0 := hE4.cell 0
  have e1 := hE4.cell 1
  have e2 := hE4.cell 2
  have e3 := hE4.cell 3
  simp only [List.getElem?_cons_zero, List.getElem?_cons_succ] at e0 e1 e2 e3
  by_cases h1 : s.pc < en.st
  · skip
    go_wp2_with (first | (refine wpList_store_row rfl 46 (.tmp 10) (.tmp 62) rfl (w.heap.size + 1 + 1) _ rfl rfl tR _ HR.out HI29.out rfl HZone.out ?_; simp only [put_no]))
    refine bodyPost_ret (results_row2 Tryd.results12 _ _ (w.heap.size + 1 + 1) tR _ _ _ _ rfl rfl (setRow_heap _ _ _ _ _ _ HR.out) Tryd.underlying46 rfl HI29.out) rfl ?_
    rw [HSP.out, if_pos (by omega)]
    exact ⟨rfl, bRow (by omega) hB4⟩
  by_cases h2 : en.fin ≤ s.pc
  · skip
    go_wp2_with (first | (refine wpList_store_row rfl 46 (.tmp 10) (.tmp 62) rfl (w.heap.size + 1 + 1) _ rfl rfl tR _ HR.out HI29.out rfl HZone.out ?_; simp only [put_no]))
    refine bodyPost_ret (results_row2 Tryd.results12 _ _ (w.heap.size + 1 + 1) tR _ _ _ _ rfl rfl (setRow_heap _ _ _ _ _ _ HR.out) Tryd.underlying46 rfl HI29.out) rfl ?_
    rw [HSP.out, if_pos (by omega)]
    exact ⟨rfl, bRow (by omega) hB4⟩
  by_cases h3 : s.pc < 0
  · skip
    go_wp2_with (first | (refine wpList_store_row rfl 46 (.tmp 10) (.tmp 62) rfl (w.heap.size + 1 + 1) _ rfl rfl tR _ HR.out HI29.out rfl HZone.out ?_; simp only [put_no]))
    refine bodyPost_ret (results_row2 Tryd.results12 _ _ (w.heap.size + 1 + 1) tR _ _ _ _ rfl rfl (setRow_heap _ _ _ _ _ _ HR.out) Tryd.underlying46 rfl HI29.out) rfl ?_
    rw [HSP.out, if_pos (by omega)]
    exact ⟨rfl, bRow (by omega) hB4⟩
  by_cases h4 : (im.code.length : Int) ≤ s.pc
  · skip
    go_wp2_with (first | (refine wpList_store_row rfl 46 (.tmp 10) (.tmp 62) rfl (w.heap.size + 1 + 1) _ rfl rfl tR _ HR.out HI29.out rfl HZone.out ?_; simp only [put_no]))
    refine bodyPost_ret (results_row2 Tryd.results12 _ _ (w.heap.size + 1 + 1) tR _ _ _ _ rfl rfl (setRow_heap _ _ _ _ _ _ HR.out) Tryd.underlying46 rfl HI29.out) rfl ?_
    rw [HSP.out, if_pos (by omega)]
    exact ⟨rfl, bRow (by omega) hB4⟩
  obtain ⟨pc, hpc⟩ := Int.eq_ofNat_of_zero_le (show 0 ≤ s.pc by omega)
  go_upto_region 6 with fail
  have hpcl : pc < im.code.length := by omega
  obtain ⟨cb, co, rfl, hcb, hcc⟩ : ∃ cb co, cp = some ⟨cb, co, none⟩ ∧ cb < w4.heap.size ∧ ∀ k, k < im.code.length → w4.cell? ⟨cb, co + k, none⟩ = some (.int .u32 (im.code.getD k 0)) := by
    rcases HC4.out with h | h
    · rw [h] at hpcl; simp at hpcl
    · exact h
  have hx4 := hcc pc hpcl
  have hxb := hwords pc hpcl
  obtain ⟨x, hx⟩ : ∃ x, x = im.code.getD pc 0 := ⟨_, rfl⟩
  rw [← hx] at hx4 hxb
  have hpcE : s.pc.toNat = pc := by omega
  have hsp2 := HSP.out
  rw [if_neg (by omega), hpcE, ← hx] at hsp2
  rw [hpc] at hpc4
  have HSP2 := Lib.hid hsp2
  have hpcs : pc ≤ 140737488351232 := by omega
  have HPC := Lib.hid hpc
  clear hsp2 HSP hpcE hx hcc HC4 h1 h2 h3 h4 e0 e1 e2 e3 hpc hwords hshort
  go_wp2_with fail
  refine (rdecode_any x w4 hxb.1 hxb.2).mono ?_
  rintro e w5 ⟨rfl, hb5⟩
  have hB5 : Below w.heap.size w w5 := bThen hb5 hB4.size hB4
  have hX5 := hX4.below hb5 hX4.lt
  have hI5 := hI4.below hb5 hI4.lt
  have hR5 := hR4.below hb5 hR4.lt
  have hm5 := hm4.below hb5 (Nat.le_refl _)
  have hmm5 := hmm4.below hb5 (Nat.le_refl _)
  have hz5 := hb5.size
  have HR5 : Hid (w5.heap[(w.heap.size + 1 + 1)]? = some (.cells zero29.toArray tR (0, 0))) := (show _ = _ from (hb5.block _ (by omega)).trans HR.out)
  clear q0 q1 q2 q3 hx4 hcb hpc4 hlE4 hlX4 hlI4 hb5 hX4 hI4 hR4 hm4 hmm4 HR hE4
  cases hd : decOk x
  · rw [rdecV_no hxb.1 hxb.2 (by unfold decOk at hd; simpa [dOk] using hd)]
    go_upto_region 8 with fail
    have HR6 : Hid ((w5.alloc (.cells #[.int .u8 0, .int .i64 0, .int .i64 0, .int .i64 0, .int .i64 0] 34)).heap[(w.heap.size + 1 + 1)]? = some (.cells zero29.toArray tR (0, 0))) := (show _ = _ from (Below.heap_alloc _ _ _ (by omega)).trans HR5.out)
    go_wp2_with (first | (refine wpList_store_row rfl 46 (.tmp 10) (.tmp 75) rfl (w.heap.size + 1 + 1) _ rfl rfl tR _ HR6.out HI29.out rfl HZone.out ?_; simp only [put_no]))
    refine bodyPost_ret (results_row2 Tryd.results12 _ _ (w.heap.size + 1 + 1) tR _ _ _ _ rfl rfl (setRow_heap _ _ _ _ _ _ HR6.out) Tryd.underlying46 rfl HI29.out) rfl ?_
    rw [HSP2.out, if_pos hd]
    exact ⟨rfl, bRow (by omega) (bAlloc hB5.size hB5)⟩
  have hdk : dOk x := by unfold decOk at hd; simpa [dOk] using hd
  rw [rdecV_ok hxb.1 hxb.2 hdk]
  have hv := hdk.1
  have hsp3 := HSP2.out
  rw [if_neg (by rw [hd]; simp)] at hsp3
  clear hdk hd HSP2
  generalize dN x = n at hv hsp3 ⊢
  generalize dI x = i at hv hsp3 ⊢
  obtain ⟨a, ha⟩ := Int.eq_ofNat_of_zero_le (vld_bd hv).2.1
  obtain ⟨b, hb⟩ := Int.eq_ofNat_of_zero_le (vld_bd hv).2.2.2.1
  obtain ⟨c, hc⟩ := Int.eq_ofNat_of_zero_le (vld_bd hv).2.2.2.2.2.1
  rw [ha, hb, hc] at hv hsp3 ⊢
  rw [Int.toNat_natCast, Int.toNat_natCast, Int.toNat_natCast] at hsp3
  have HSP3 := Lib.hid hsp3
  clear hsp3 ha hb hc hxb
  obtain ⟨hn30, hia0, hia1, hib0, hib1, hic0, hic1, hii0, hii1⟩ := vld_bd hv
  have han : a < 16 := by omega
  have hbn : b < 16 := by omega
  have hcn : c < 16 := by omega
  clear hia0 hia1 hib0 hib1 hic0 hic1
  have HV := Lib.hid hv
  clear hv
  go_upto_region 9 with fail
  have hb6 : Below w5.heap.size w5 (w5.alloc (.cells #[.int .u8 n, .int .i64 a, .int .i64 b, .int .i64 c, .int .i64 i] 34)) := bAlloc (Nat.le_refl _) (Below.refl _ _)
  have hN6 : RowAt (w5.alloc (.cells #[.int .u8 n, .int .i64 a, .int .i64 b, .int .i64 c, .int .i64 i] 34)) w5.heap.size [.int .u8 n, .int .i64 a, .int .i64 b, .int .i64 c, .int .i64 i] := ⟨_, heap_alloc_new _ _⟩
  have hB6 : Below w.heap.size w (w5.alloc (.cells #[.int .u8 n, .int .i64 a, .int .i64 b, .int .i64 c, .int .i64 i] 34)) := bThen hb6 hB5.size hB5
  have hz6 : w5.heap.size < (w5.alloc (.cells #[.int .u8 n, .int .i64 a, .int .i64 b, .int .i64 c, .int .i64 i] 34)).heap.size := by simp
  generalize (w5.alloc (.cells #[.int .u8 n, .int .i64 a, .int .i64 b, .int .i64 c, .int .i64 i] 34)) = w6 at hb6 hN6 hB6 hz6 ⊢
  have hX6 := hX5.below hb6 hX5.lt
  have hI6 := hI5.below hb6 hI5.lt
  have hR6 := hR5.below hb6 hR5.lt
  have hm6 := hm5.below hb6 (Nat.le_refl _)
  have hmm6 := hmm5.below hb6 (Nat.le_refl _)
  have HR6 : Hid (w6.heap[(w.heap.size + 1 + 1)]? = some (.cells zero29.toArray tR (0, 0))) := (show _ = _ from (hb6.block _ (by omega)).trans HR5.out)
  clear hX5 hI5 hR5 hm5 hmm5 HR5 hb6
  have hnl6 := hN6.lt
  have x0 := hN6.cell 0
  have x1 := hN6.cell 1
  have x2 := hN6.cell 2
  have x3 := hN6.cell 3
  have x4 := hN6.cell 4
  simp only [List.getElem?_cons_zero, List.getElem?_cons_succ] at x0 x1 x2 x3 x4
  have HX := Lib.hid (boxed_new w6 [.int .i64 0, .int .i32 0, .int .i32 0, .int .i32 0, .int .i32 0, .int .i32 0, .int .i32 0, .int .i32 0, .int .i32 0, .int .i32 0, .int .i32 0, .int .i32 0, .int .i32 0, .int .i32 0, .int .i32 0, .int .i32 0, .int .i32 0, .slice none 0 0, .bool false, .int .i64 0, .slice none 0 0, .int .u8 0, .int .i64 0, .int .i64 0, .int .i64 0, .int .i64 0, .bool false, .int .i64 0, .int .i32 0] [.int .i64 0, .int .i32 0, .int .i32 0, .int .i32 0, .int .i32 0, .int .i32 0, .int .i32 0, .int .i32 0, .int .i32 0, .int .i32 0, .int .i32 0, .int .i32 0, .int .i32 0, .int .i32 0, .int .i32 0, .int .i32 0, .int .i32 0, .slice none 0 0, .bool false, .int .i64 0, .slice none 0 0, .int .u8 n, .int .i64 a, .int .i64 b, .int .i64 c, .int .i64 i, .bool false, .int .i64 (-1), .int .i32 0] 46)
  have HZr : Hid ((w6.alloc (.cells #[.int .i64 0, .int .i32 0, .int .i32 0, .int .i32 0, .int .i32 0, .int .i32 0, .int .i32 0, .int .i32 0, .int .i32 0, .int .i32 0, .int .i32 0, .int .i32 0, .int .i32 0, .int .i32 0, .int .i32 0, .int .i32 0, .int .i32 0, .slice none 0 0, .bool false, .int .i64 0, .slice none 0 0, .int .u8 0, .int .i64 0, .int .i64 0, .int .i64 0, .int .i64 0, .bool false, .int .i64 0, .int .i32 0] 46)).heap[w6.heap.size]? = some (.cells #[.int .i64 0, .int .i32 0, .int .i32 0, .int .i32 0, .int .i32 0, .int .i32 0, .int .i32 0, .int .i32 0, .int .i32 0, .int .i32 0, .int .i32 0, .int .i32 0, .int .i32 0, .int .i32 0, .int .i32 0, .int .i32 0, .int .i32 0, .slice none 0 0, .bool false, .int .i64 0, .slice none 0 0, .int .u8 0, .int .i64 0, .int .i64 0, .int .i64 0, .int .i64 0, .bool false, .int .i64 0, .int .i32 0] 46 (0, 0))) := (show _ = _ from heap_alloc_new _ _)
  have HOi : Hid ((Tryd.prog.info? 46).map (·.size) = some (#[.int .i64 0, .int .i32 0, .int .i32 0, .int .i32 0, .int .i32 0, .int .i32 0, .int .i32 0, .int .i32 0, .int .i32 0, .int .i32 0, .int .i32 0, .int .i32 0, .int .i32 0, .int .i32 0, .int .i32 0, .int .i32 0, .int .i32 0, .slice none 0 0, .bool false, .int .i64 0, .slice none 0 0, .int .u8 n, .int .i64 a, .int .i64 b, .int .i64 c, .int .i64 i, .bool false, .int .i64 (-1), .int .i32 0] : Array Value).size) := (show _ = _ from info29)
  have HOa : Hid ((#[.int .i64 0, .int .i32 0, .int .i32 0, .int .i32 0, .int .i32 0, .int .i32 0, .int .i32 0, .int .i32 0, .int .i32 0, .int .i32 0, .int .i32 0, .int .i32 0, .int .i32 0, .int .i32 0, .int .i32 0, .int .i32 0, .int .i32 0, .slice none 0 0, .bool false, .int .i64 0, .slice none 0 0, .int .u8 n, .int .i64 a, .int .i64 b, .int .i64 c, .int .i64 i, .bool false, .int .i64 (-1), .int .i32 0] : Array Value).all (·.oneCell') = true) := (show (#[.int .i64 0, .int .i32 0, .int .i32 0, .int .i32 0, .int .i32 0, .int .i32 0, .int .i32 0, .int .i32 0, .int .i32 0, .int .i32 0, .int .i32 0, .int .i32 0, .int .i32 0, .int .i32 0, .int .i32 0, .int .i32 0, .int .i32 0, .slice none 0 0, .bool false, .int .i64 0, .slice none 0 0, .int .u8 n, .int .i64 a, .int .i64 b, .int .i64 c, .int .i64 i, .bool false, .int .i64 (-1), .int .i32 0] : Array Value).all (·.oneCell') = true by simp [Value.oneCell'])
  go_upto_region 10 with (first | (refine wpList_buildTo rfl 46 #[(2, .tmp 76), (4, .const (.int .i64 (-1)))] rfl (some 77) rfl #[.int .i64 0, .int .i32 0, .int .i32 0, .int .i32 0, .int .i32 0, .int .i32 0, .int .i32 0, .int .i32 0, .int .i32 0, .int .i32 0, .int .i32 0, .int .i32 0, .int .i32 0, .int .i32 0, .int .i32 0, .int .i32 0, .int .i32 0, .slice none 0 0, .bool false, .int .i64 0, .slice none 0 0, .int .u8 n, .int .i64 a, .int .i64 b, .int .i64 c, .int .i64 i, .bool false, .int .i64 (-1), .int .i32 0] (by kernel_rfl) ?_; simp only [put_lit, put_no]; dsimp only [List.set_cons_succ, List.set_cons_zero]) | (refine wpList_store_row rfl 46 (.tmp 15) (.tmp 77) rfl w6.heap.size _ rfl rfl 46 _ HZr.out HOi.out rfl HOa.out ?_; simp only [put_no]))
  obtain ⟨w7, hw7, hO7, hb7, hs7⟩ := HX.out
  rw [hw7]
  clear hw7 HX HZr HOi HOa x0 x1 x2 x3 x4
  have hz7 : w6.heap.size < w7.heap.size := by omega
  clear hs7
  have hB7 : Below w.heap.size w w7 := bThen hb7 hB6.size hB6
  have hX7 := hX6.below hb7 hX6.lt
  have hI7 := hI6.below hb7 hI6.lt
  have hR7 := hR6.below hb7 hR6.lt
  have hN7 := hN6.below hb7 hN6.lt
  have hm7 := hm6.below hb7 (Nat.le_refl _)
  have hmm7 := hmm6.below hb7 (Nat.le_refl _)
  have HR7 : Hid (w7.heap[(w.heap.size + 1 + 1)]? = some (.cells zero29.toArray tR (0, 0))) := (show _ = _ from (hb7.block _ (by omega)).trans HR6.out)
  clear hX6 hI6 hR6 hm6 hmm6 hN6 HR6 hb7 hB6 hB5 hB4 hB3
  have hX7S : StAt w7 (w.heap.size + 1) s (.slice px s.d.length cx) := ⟨hr, hX7⟩
  have hpc7 := hX7S.pc
  have ra := hX7S.reg a han
  have rb := hX7S.reg b hbn
  have rc := hX7S.reg c hcn
  obtain ⟨va, hva⟩ : ∃ v, v = s.r.getD a 0 := ⟨_, rfl⟩
  obtain ⟨vb, hvb⟩ : ∃ v, v = s.r.getD b 0 := ⟨_, rfl⟩
  obtain ⟨vc, hvc⟩ : ∃ v, v = s.r.getD c 0 := ⟨_, rfl⟩
  have hva32 : W32 va := by rw [hva]; exact R32.out a
  have hvb32 : W32 vb := by rw [hvb]; exact R32.out b
  have hvc32 : W32 vc := by rw [hvc]; exact R32.out c
  rw [← hva] at ra
  rw [← hvb] at rb
  rw [← hvc] at rc
  have HVA := Lib.hid hva
  have HVB := Lib.hid hvb
  have HVC := Lib.hid hvc
  clear hva hvb hvc
  have hwad : IntKind.i64.wrap (vb + i) = vb + i := IntWalk.i64_in _ ⟨by unfold W32 at hvb32; omega, by unfold W32 at hvb32; omega⟩
  have hw20 : wrap64 (wrap64 vb + i) = vb + i := by unfold W32 at hvb32; unfold wrap64; omega
  have hlX := hX7.lt
  have hlN := hN7.lt
  have hanI : (a : Int) < 16 := by omega
  have hbnI : (b : Int) < 16 := by omega
  have hcnI : (c : Int) < 16 := by omega
  have x0 := hN7.cell 0
  have x1 := hN7.cell 1
  have x2 := hN7.cell 2
  have x3 := hN7.cell 3
  have x4 := hN7.cell 4
  simp only [List.getElem?_cons_zero, List.getElem?_cons_succ] at x0 x1 x2 x3 x4
  rw [HPC.out] at hpc7
  have hwp : IntKind.i64.wrap ((pc : Int) + 1) = (pc : Int) + 1 := IntWalk.i64_in _ ⟨by omega, by omega⟩
  go_upto_region 11 with fail
  go_quiet (fail)
  go_upto_block 0 with fail
  rw [hw20]
  clear hw20
  have hb8 : Below w7.heap.size w7 (w7.drewN nq) := bDrewN (Below.refl _ _)
  have hA8 : SwAt w (w7.drewN nq) (w.heap.size + 1) (w.heap.size + 1 + 1) w6.heap.size w5.heap.size s (.slice px s.d.length cx) (.slice pm sh.length cm) sh (oL n a b c i false (-1) 0) [.int .u8 n, .int .i64 a, .int .i64 b, .int .i64 c, .int .i64 i] := ⟨hX7.below hb8 hX7.lt, hm7.below hb8 (Nat.le_refl _), hmm7.below hb8 (Nat.le_refl _), hO7.below hb8 hO7.lt, hN7.below hb8 hN7.lt, hR7.below hb8 hR7.lt, hB7.trans (hb8.mono hB7.size)⟩
  have hI8 := hI7.below hb8 hI7.lt
  generalize w7.drewN nq = w8 at hb8 hA8 hI8 ⊢
  clear hb8 hX7 hI7 hR7 hm7 hmm7 hO7 hN7 hB7 HR7 hX7S hpc7 ra rb rc x0 x1 x2 x3 x4 hwp hwad
  have HA8 := Lib.hid hA8
  obtain ⟨tR', hZ8⟩ := id hA8.z
  have HR8 := Lib.hid hZ8
  clear hA8 hZ8
  have hwi : IntKind.i32.wrap i = i := IntWalk.i32_in _ ⟨by omega, by omega⟩
  have hwn : IntKind.i64.wrap ((pc : Int) + 1 + i) = (pc : Int) + 1 + i := IntWalk.i64_in _ ⟨by omega, by omega⟩
  have hl7 := HA8.out.st.lt
  have hl13 := HA8.out.i.lt
  have hl15 := HA8.out.o.lt
  have x0 := HA8.out.i.cell 0
  have x1 := HA8.out.i.cell 1
  have x2 := HA8.out.i.cell 2
  have x3 := HA8.out.i.cell 3
  have x4 := HA8.out.i.cell 4
  simp only [List.getElem?_cons_zero, List.getElem?_cons_succ] at x0 x1 x2 x3 x4
  have HBK := Lib.hid (show SwBk w.heap.size (w.heap.size + 1) (w.heap.size + 1 + 1) w6.heap.size w5.heap.size (.slice px s.d.length cx) (.slice pm sh.length cm) from
    ⟨⟨by omega, by omega, by omega, by omega, by omega, by omega⟩, fun q hq => by
      obtain ⟨h1, h2⟩ := hox.out q hq
      exact ⟨by omega, by omega, by omega, by omega, by omega, fun hm => by have := (hom.out q hm).1; omega⟩, fun q hq => by
      obtain ⟨h1, h2⟩ := hom.out q hq
      exact ⟨by omega, by omega, by omega, by omega, by omega⟩, ⟨by omega, by omega, by omega, by omega⟩⟩)
  have HIMK := Lib.hid (show w.heap.size < w8.heap.size ∧ w8.cell? ⟨w.heap.size, 3, none⟩ = some (.int .i64 im.lk) from ⟨hI8.lt, hI8.cell 3⟩)
  clear hI8 x0 x1 x2 x3 x4
  rename_i K0 hK0
  refine sw_all ?_ HA8 HBK HIMK HPC HVA HVB HVC hpcs hva32 hvb32 hvc32 hin hii0 (by omega) hdl hsl HV hr han ?_ hK0 ?_ ?_
  · kernel_rfl
  · kernel_rfl
  · intro v11 v16 v21 v22 v23 v24 v25 v26 v101 v102 v103 v104 v105 v106 v107 v108 v109 v110 v111 v112 v113 v114 v115 v116 v117 v118 v119 v120 v121 v122 v123 v124 v125 v126 v127 v128 v129 v130 v131 v132 v133 v134 v135 v136 v137 v138 v139 v140 v141 v142 v143 v144 v145 v146 v147 v148 v149 v150 v151 v152 v153 v154 v155 v156 v157 v158 v159 v160 v161 v162 v163 v164 v165 v166 v167 v168 v169 v170 v171 v172 v173 v174 v175 v176 v177 v178 v179 v180 v181 v182 v183 v184 v185 v186 v187 v188 v189 v190 v191 v192 v193 v194 v195 v196 v197 v198 v199 v200 v201 v202 v203 v204 v205 v206 v207 v208 v209 v210 v211 v212 v213 v214 v215 v216 v217 v218 v219 v220 v221 v222 v223 v224 v225 v226 v227 v228 v229 v230 v231 v232 v233 v234 v235 v236 v237 v238 v239 v240 v241 v242 v243 v244 v245 v246 v247 v248 v249 v250 v251 v252 v253 v254 v255 v256 v257 v258 v259 v260 v261 v262 v263 v264 v265 v266 v267 v268 v269 v270 v271 v272 v273 v274 v275 v276 v277 v278 v279 v280 v281 v282 v283 v284 v285 v286 v287 v288 v289 v290 v291 v292 v293 v294 v295 v296 v297 v298 v299 v300 v301 v302 v303 v304 v305 v306 v307 v308 v309 v310 v311 v312 v313 v314 v315 v316 v317 v318 v319 v320 v321 v322 v323 v324 v325 er wx hv hst hz hb
    subst hv
    obtain ⟨tE, hz⟩ := hz
    refine bodyPost_ret (results_row2 Tryd.results12 _ _ (w.heap.size + 1 + 1) tE _ _ _ _ rfl rfl hz Tryd.underlying46 rfl HI29.out) rfl ?_
    rw [HSP3.out, hst]
    exact ⟨rfl, hb⟩
  · intro v11 v23 v24 v25 v26 v101 v102 v103 v104 v105 v106 v107 v108 v109 v110 v111 v112 v113 v114 v115 v116 v117 v118 v119 v120 v121 v122 v123 v124 v125 v126 v127 v128 v129 v130 v131 v132 v133 v134 v135 v136 v137 v138 v139 v140 v141 v142 v143 v144 v145 v146 v147 v148 v149 v150 v151 v152 v153 v154 v155 v156 v157 v158 v159 v160 v161 v162 v163 v164 v165 v166 v167 v168 v169 v170 v171 v172 v173 v174 v175 v176 v177 v178 v179 v180 v181 v182 v183 v184 v185 v186 v187 v188 v189 v190 v191 v192 v193 v194 v195 v196 v197 v198 v199 v200 v201 v202 v203 v204 v205 v206 v207 v208 v209 v210 v211 v212 v213 v214 v215 v216 v217 v218 v219 v220 v221 v222 v223 v224 v225 v226 v227 v228 v229 v230 v231 v232 v233 v234 v235 v236 v237 v238 v239 v240 v241 v242 v243 v244 v245 v246 v247 v248 v249 v250 v251 v252 v253 v254 v255 v256 v257 v258 v259 v260 v261 v262 v263 v264 v265 v266 v267 v268 v269 v270 v271 v272 v273 v274 v275 v276 v277 v278 v279 v280 v281 v282 v283 v284 v285 v286 v287 v288 v289 v290 v291 v292 v293 v294 v295 v296 v297 v298 v299 v300 v301 v302 v303 v304 v305 v306 v307 v308 v309 v310 v311 v312 v313 v314 v315 v316 v317 v318 v319 v320 v321 v322 v323 v324 v325 v326 v327 v328 v329 v330 v331 v332 v333 v334 v335 v336 v337 v338 v339 v340 v341 v342 v343 s1 m1 tk ad vl nx val wr wx hv hst hr1 hz hmx hmm hb
    subst hv
    obtain ⟨tE, hz⟩ := hz
    have hr10 : (if wr = true then (if a = 0 then s1.r else s1.r.set a val) else s1.r).length = 16 := by
      rw [hr1]
      split
      · split
        · exact hr
        · rw [List.length_set]; exact hr
      · exact hr
    refine bodyPost_ret (results_row2 Tryd.results12 _ _ (w.heap.size + 1 + 1) tE _ _ _ _ rfl rfl hz Tryd.underlying46 rfl (by rw [List.size_toArray, outL_len (by exact hr10)]; exact info29)) rfl ?_
    rw [HSP3.out, hst]
    exact ⟨px, cx, pm, cm, rfl, hmx, hmm, hr10, hb⟩

end Go.Proofs.YtdfofelchjpioaaDoor
