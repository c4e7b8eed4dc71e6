import Derived.Test.YtdfofelchjpioaaDoorMs26
import Derived.Test.YtdfofelchjpioaaDoorMs22
import Derived.Test.YtdfofelchjpioaaDoorIsaB
import Derived.LoopTactic
set_option linter.unusedVariables false
set_option linter.unusedSimpArgs false
namespace Go.Proofs.YtdfofelchjpioaaDoor
open Go.RowKit

theorem Tryd.infoU32 : (Tryd.prog.info? 63).map (fun i => (i.zero, i.size, i.bytes)) = some (some (.int .u32 0), 1, 4) := by kernel_rfl

structure Ins where
  n : Nat
  a : Int
  b : Int
  c : Int
  i : Int
instance : Inhabited Ins := ⟨⟨0, 0, 0, 0, 0⟩⟩
def Ins.ok (x : Ins) : Bool := vld x.n x.a x.b x.c x.i
def Ins.word (x : Ins) : Int := encW x.n x.a x.b x.c x.i
def tName : ByteArray := ⟨#[116]⟩

def codeCells (codes : List Int) (k : Nat) : List Value := (codes.take k).map (.int .u32)

structure OneInv (w : World) (sh lk dat : Int) (codes : List Int) (k : Nat) (p : Option Addr) (c : Nat) (wr : World) : Prop where
  own : wr.ownsRow (w.heap.size + 3) 63 1 (.slice p k c) k (codeCells codes k)
  im : RowAt wr (w.heap.size + 1 + 1) [.slice p k c, .slice (some ⟨w.heap.size + 1, 0, none⟩) 1 1, .int .i64 sh, .int .i64 lk]
  en : RowAt wr (w.heap.size + 1) [.string tName, .int .i64 0, .int .i64 codes.length, .int .i64 dat]
  res : RowAt wr w.heap.size [.slice none 0 0, .slice none 0 0, .int .i64 0, .int .i64 0]
  below : Below w.heap.size w wr

theorem OneInv.later {w : World} {sh lk dat : Int} {codes : List Int} {k : Nat} {p : Option Addr} {c : Nat} {wr w' : World} (h : OneInv w sh lk dat codes k p c wr) (hb : Below wr.heap.size wr w') : OneInv w sh lk dat codes k p c w' :=
  ⟨ownsRow_block h.own fun g _ hg => hb.block g hg, h.im.below hb h.im.lt, h.en.below hb h.en.lt, h.res.below hb h.res.lt, h.below.trans (hb.mono h.below.size)⟩

set_option maxHeartbeats 1600000 in
set_option maxRecDepth 100000 in
theorem one_ok (b off cap : Nat) (ins : List Ins) (dat sh lk : Int) (w : World) (hT : Tab w) (hlen : ins.length ≤ 1000) (hb : b < w.heap.size) (hok : ∀ k, k < ins.length → (ins.getD k default).ok = true)
    (hc : ∀ k, k < ins.length → w.cell? ⟨b, off + k * 5, none⟩ = some (.int .u8 (ins.getD k default).n) ∧ w.cell? ⟨b, off + k * 5 + 1, none⟩ = some (.int .i64 (ins.getD k default).a) ∧ w.cell? ⟨b, off + k * 5 + 2, none⟩ = some (.int .i64 (ins.getD k default).b) ∧
      w.cell? ⟨b, off + k * 5 + 3, none⟩ = some (.int .i64 (ins.getD k default).c) ∧ w.cell? ⟨b, off + k * 5 + 4, none⟩ = some (.int .i64 (ins.getD k default).i)) :
    Calls Tryd.prog 13 #[.slice (some ⟨b, off, none⟩) ins.length cap, .int .i64 dat, .int .i64 sh, .int .i64 lk] w fun e w' => ∃ p c, e = .returned (.tuple #[.agg #[.slice p ins.length c, .slice (some ⟨w.heap.size + 1, 0, none⟩) 1 1, .int .i64 sh, .int .i64 lk], .bool true]) ∧
      w'.ownsRow (w.heap.size + 3) 63 1 (.slice p ins.length c) ins.length (codeCells (ins.map Ins.word) ins.length) ∧ RowAt w' (w.heap.size + 1) [.string tName, .int .i64 0, .int .i64 (ins.map Ins.word).length, .int .i64 dat] ∧ Below w.heap.size w w' := by
  obtain ⟨i0, hi0, hz0, hz1, hz2⟩ := info_parts Tryd.infoU32
  have hxi := Tryd.underlying22
  go_enter Tryd.func13, Tryd.ntmps13
  go_wp2_with fail
  obtain ⟨w1, hw1⟩ : ∃ w1, ((w.alloc (.cells #[.slice none 0 0, .slice none 0 0, .int .i64 0, .int .i64 0] 25)).alloc (.cells #[.string tName, .int .i64 0, .int .i64 ins.length, .int .i64 dat] 60)).alloc
      (.cells #[.slice none 0 0, .slice (some ⟨w.heap.size + 1, 0, none⟩) 1 1, .int .i64 sh, .int .i64 lk] 25) = w1 := ⟨_, rfl⟩
  have hinv : OneInv w sh lk dat (ins.map Ins.word) 0 none 0 w1 := by
    rw [← hw1]
    refine ⟨World.ownsRow_nil _ _ _ _, ⟨25, ?_⟩, ⟨60, ?_⟩, ⟨25, ?_⟩, bAlloc (by simp; omega) (bAlloc (by simp) (bAlloc (Nat.le_refl _) (Below.refl _ _)))⟩
    · have h := heap_alloc_new ((w.alloc (.cells #[.slice none 0 0, .slice none 0 0, .int .i64 0, .int .i64 0] 25)).alloc (.cells #[.string tName, .int .i64 0, .int .i64 ins.length, .int .i64 dat] 60)) (.cells #[.slice none 0 0, .slice (some ⟨w.heap.size + 1, 0, none⟩) 1 1, .int .i64 sh, .int .i64 lk] 25)
      rwa [show ((w.alloc (.cells #[.slice none 0 0, .slice none 0 0, .int .i64 0, .int .i64 0] 25)).alloc (.cells #[.string tName, .int .i64 0, .int .i64 ins.length, .int .i64 dat] 60)).heap.size = w.heap.size + 1 + 1 by simp] at h
    · rw [Below.heap_alloc _ _ _ (by simp), heap_at1, List.length_map]
    · rw [Below.heap_alloc _ _ _ (by simp; omega), Below.heap_alloc _ _ _ (by simp)]; exact heap_alloc_new _ _
  unfold tName at hw1
  rw [hw1]
  clear hw1
  go_loopw [11] (fun sv wr => ∃ (k : Nat) (p : Option Addr) (c : Nat), sv = .int .i64 k ∧ k ≤ ins.length ∧ OneInv w sh lk dat (ins.map Ins.word) k p c wr) (fun sv _ => ins.length - (intOf sv).toNat)
  case atStart => exact ⟨0, none, 0, rfl, Nat.zero_le _, hinv⟩
  case round =>
    obtain ⟨k, p, c, rfl, hk, hr⟩ := hrel
    clear hinv
    have m0 := hr.im.cell 0
    have m1 := hr.im.cell 1
    have m2 := hr.im.cell 2
    have m3 := hr.im.cell 3
    simp only [List.getElem?_cons_zero, List.getElem?_cons_succ] at m0 m1 m2 m3
    have hszr := hr.im.lt
    by_cases hlt : k < ins.length
    · obtain ⟨x0, x1, x2, x3, x4⟩ := hc k hlt
      have hv := hok k hlt
      have hw : codeCells (ins.map Ins.word) (k + 1) = codeCells (ins.map Ins.word) k ++ [.int .u32 (ins.getD k default).word] := by
        unfold codeCells
        rw [List.take_succ_eq_append_getElem (by simpa using hlt)]
        simp [List.getD_eq_getElem?_getD, hlt]
      generalize ins.getD k default = x at x0 x1 x2 x3 x4 hv hw
      have HW := Lib.hid hw
      clear hw
      have y0 : wr.cell? ⟨b, off + k * 5, none⟩ = some (.int .u8 x.n) := (hr.below.cell (p := ⟨b, off + k * 5, none⟩) hb).trans x0
      have y1 : wr.cell? ⟨b, off + k * 5 + 1, none⟩ = some (.int .i64 x.a) := (hr.below.cell (p := ⟨b, off + k * 5 + 1, none⟩) hb).trans x1
      have y2 : wr.cell? ⟨b, off + k * 5 + 2, none⟩ = some (.int .i64 x.b) := (hr.below.cell (p := ⟨b, off + k * 5 + 2, none⟩) hb).trans x2
      have y3 : wr.cell? ⟨b, off + k * 5 + 3, none⟩ = some (.int .i64 x.c) := (hr.below.cell (p := ⟨b, off + k * 5 + 3, none⟩) hb).trans x3
      have y4 : wr.cell? ⟨b, off + k * 5 + 4, none⟩ = some (.int .i64 x.i) := (hr.below.cell (p := ⟨b, off + k * 5 + 4, none⟩) hb).trans x4
      clear x0 x1 x2 x3 x4 hc hok
      have hltI : (k : Int) < ins.length := by omega
      go_wp2_with fail
      refine (encode_ok x.n x.a x.b x.c x.i _ (hT.of_below hr.below) hv).mono ?_
      rintro e w2 ⟨rfl, hb2⟩
      have hr2 := hr.later hb2
      clear hb2 hr m0 m1 m2 m3 y0 y1 y2 y3 y4
      have n0 := hr2.im.cell 0
      have nf := hr2.im.frozen 0
      simp only [List.getElem?_cons_zero, List.getElem?_cons_succ] at n0
      have hsz2 := hr2.im.lt
      have hown := hr2.own
      go_wp2_with (first | (at_builtin; refine wpList_append_own _ rfl _ _ 22 rfl (w.heap.size + 3) 63 i0 (.int .u32 0) 1 4 hxi hi0 hz0 hz1 hz2 rfl (by decide) _ _ _ rfl (hown.alloc _) ⟨w2.heap.size, 0, none⟩ 1 1 [.int .u32 x.word] rfl rfl ?c1 ?c2 ?c3 ?c4 ?c5 ?_))
      case c1 =>
        intro j u hj
        match j, hj with
        | 0, hj => simp at hj; subst hj; simp [Addr.add, go_sem, Ins.word]
      case c2 => intro u hu; simp at hu; subst hu; rfl
      case c3 => unfold maxLen; omega
      case c4 => omega
      case c5 => simp; omega
      intro v' w3 hown' hgrow _
      obtain ⟨p', c', rfl⟩ : ∃ p' c', v' = .slice p' (k + 1) c' := by
        rcases hown'.2 with ⟨rfl, h0⟩ | ⟨g, cp, cur, rfl, _⟩
        · omega
        · exact ⟨_, _, rfl⟩
      have keep : ∀ j, j < w.heap.size + 3 → j < w2.heap.size → w3.heap[j]? = w2.heap[j]? := fun j hj hj2 => (hgrow.block j (by simp; omega) (fun e => by have := ownBase hown e.symm; omega)).trans (Below.heap_alloc _ _ _ hj2)
      have hI : OneInv w sh lk dat (ins.map Ins.word) (k + 1) p' c' (w3.setCell ⟨w.heap.size + 1 + 1, 0, none⟩ (.slice p' (k + 1) c')) := by
        refine ⟨?_, (hr2.im.block (keep _ (by omega) hr2.im.lt)).set 0 _, (hr2.en.block (keep _ (by omega) hr2.en.lt)).other (by show w.heap.size + 1 + 1 ≠ w.heap.size + 1; omega) _, (hr2.res.block (keep _ (by omega) hr2.res.lt)).other (by show w.heap.size + 1 + 1 ≠ w.heap.size; omega) _, ?_⟩
        · rw [HW.out]
          exact ownsRow_set hown' (fun e => by have := ownBase hown' e; simp at this; omega) _
        · refine bSet (by show w.heap.size ≤ w.heap.size + 1 + 1; omega) ⟨hgrow.os.trans hr2.below.os, hgrow.tape.trans hr2.below.tape, hgrow.output.trans hr2.below.output, ?_, fun j hj => (keep j (by omega) (Nat.lt_of_lt_of_le hj hr2.below.size)).trans (hr2.below.block j hj)⟩
          have := hgrow.size; have := hr2.below.size; simp at *; omega
      have z0 : w3.cell? ⟨w.heap.size + 1 + 1, 0, none⟩ = some (.slice p k c) := (World.cell?_of_block (keep (w.heap.size + 1 + 1) (by omega) hr2.im.lt)).trans n0
      have zf : w3.frozen? ⟨w.heap.size + 1 + 1, 0, none⟩ = false := (World.frozen?_of_block (keep (w.heap.size + 1 + 1) (by omega) hr2.im.lt)).trans nf
      clear hown' hgrow keep hr2 hown n0 nf HW
      go_wp2_with fail
      go_roundw
      case rel => exact ⟨k + 1, p', c', by go_num, by omega, hI⟩
      case measure => simp [intOf]; omega
    · obtain rfl : k = ins.length := by omega
      have s0 := hr.res.cell 0
      have s1 := hr.res.cell 1
      have s2 := hr.res.cell 2
      have s3 := hr.res.cell 3
      have t0 := hr.res.frozen 0
      have t1 := hr.res.frozen 1
      have t2 := hr.res.frozen 2
      have t3 := hr.res.frozen 3
      simp only [List.getElem?_cons_zero, List.getElem?_cons_succ] at s0 s1 s2 s3
      clear hc hok
      go_wp2_with fail
      have hfin : RowAt ((((wr.setCell ⟨w.heap.size, 0, none⟩ (.slice p ins.length c)).setCell ⟨w.heap.size, 1, none⟩ (.slice (some ⟨w.heap.size + 1, 0, none⟩) 1 1)).setCell ⟨w.heap.size, 2, none⟩ (.int .i64 sh)).setCell ⟨w.heap.size, 3, none⟩ (.int .i64 lk)) w.heap.size [.slice p ins.length c, .slice (some ⟨w.heap.size + 1, 0, none⟩) 1 1, .int .i64 sh, .int .i64 lk] :=
        (((hr.res.set 0 _).set 1 _).set 2 _).set 3 _
      obtain ⟨tR, hfin⟩ := hfin
      refine bodyPost_ret (results_row2 Tryd.results13 _ _ w.heap.size tR _ _ _ _ rfl rfl hfin Tryd.underlying25 rfl (by kernel_rfl)) rfl ⟨p, c, rfl, ?_, ?_, ?_⟩
      · have hno : (Value.slice p ins.length c).ownBlock ≠ some w.heap.size := fun e => by have := ownBase hr.own e; omega
        exact ownsRow_set (ownsRow_set (ownsRow_set (ownsRow_set hr.own hno _) hno _) hno _) hno _
      · have hne : w.heap.size ≠ w.heap.size + 1 := by omega
        exact (((hr.en.other (p := ⟨w.heap.size, 0, none⟩) hne _).other (p := ⟨w.heap.size, 1, none⟩) hne _).other (p := ⟨w.heap.size, 2, none⟩) hne _).other (p := ⟨w.heap.size, 3, none⟩) hne _
      · exact bSet (Nat.le_refl _) (bSet (Nat.le_refl _) (bSet (Nat.le_refl _) (bSet (Nat.le_refl _) hr.below)))

end Go.Proofs.YtdfofelchjpioaaDoor
