/- Contracts of isa.Reads and isa.Writes. -/
import Derived.Test.YtlmipchjmgnlfaaDoorSlI
import Derived.Test.YtlmipchjmgnlfaaDoorIsaP
set_option linter.unusedVariables false
set_option linter.unusedSimpArgs false
namespace Go.Proofs.YtlmipchjmgnlfaaDoor
open Go.RowKit Go.Sort

/-- What isa.Reads leaves: a slice of its own that reads as these registers. -/
def RdPost (w : World) (xs : List Int) (e : Ending) (w' : World) : Prop := ∃ v, e = .returned v ∧ SlI w.heap.size w' v xs ∧ Below w.heap.size w w'

theorem SlI.mono {B B' : Nat} {w : World} {v : Value} {xs : List Int} (h : SlI B w v xs) (hB : B' ≤ B) : SlI B' w v xs := by
  rcases h with h | ⟨h1, g, cap, h2, h3, h4⟩
  · exact .inl h
  · exact .inr ⟨h1, g, cap, h2, by omega, h4⟩

theorem info_int : (Tryd.prog.info? 3).map (fun i => (i.zero, i.size, i.bytes)) = some (some (.int .i64 0), 1, 8) := by kernel_rfl

theorem reads_no (n : Nat) (a b c i : Int) (w : World) (hT : Tab w) (hv : vld n a b c i = false) :
    Calls Tryd.prog 27 #[.agg #[.int .u8 n, .int .i64 a, .int .i64 b, .int .i64 c, .int .i64 i]] w fun e w' => e = .returned (.slice none 0 0) ∧ Below w.heap.size w w' := by
  have hz := hT.size
  go_enter Tryd.func27, Tryd.ntmps27
  go_wp2_with fail
  refine (valid_any n a b c i _ (Tab.of_below hT (by repeat (first | (with_reducible exact Below.refl _ _) | (with_reducible apply bDrewN) | (with_reducible apply Below.drew) | ((with_reducible apply bSet); (focus first | (simp; done) | (simp; omega) | omega)) | ((with_reducible apply bAlloc); (focus first | (simp; done) | (simp; omega) | omega)))))).mono ?_
  rintro e w1 ⟨rfl, hb1⟩
  have hT1 : Tab w1 := Tab.of_below (Tab.of_below hT (by repeat (first | (with_reducible exact Below.refl _ _) | (with_reducible apply bDrewN) | (with_reducible apply Below.drew) | ((with_reducible apply bSet); (focus first | (simp; done) | (simp; omega) | omega)) | ((with_reducible apply bAlloc); (focus first | (simp; done) | (simp; omega) | omega))))) hb1
  have HB1 : Below w.heap.size w w1 := by
    repeat (first | (with_reducible exact Below.refl _ _) | (with_reducible apply bDrewN) | (with_reducible apply Below.drew) | ((with_reducible apply bThen hb1); (focus first | (simp; done) | (simp; omega) | omega)) | ((with_reducible apply bSet); (focus first | (simp; done) | (simp; omega) | omega)) | ((with_reducible apply bAlloc); (focus first | (simp; done) | (simp; omega) | omega)))
  have hsz1 := HB1.size
  clear hb1 
  go_wp2_with fail
  go_ret
  refine ⟨rfl, ?_⟩
  (repeat (first | (with_reducible exact Below.refl _ _) | (with_reducible apply bDrewN) | (with_reducible apply Below.drew) | (with_reducible exact HB1) | ((with_reducible apply bSet); (focus first | (simp; done) | (simp; omega) | omega)) | ((with_reducible apply bAlloc); (focus first | (simp; done) | (simp; omega) | omega))))

set_option maxRecDepth 4000 in
set_option maxHeartbeats 800000 in
theorem reads__0 (n : Nat) (a b c i : Int) (w : World) (hT : Tab w) (hv : vld n a b c i = true) (hn : n < 30) (ho : frd n = ⟨#[]⟩)  :
    Calls Tryd.prog 27 #[.agg #[.int .u8 n, .int .i64 a, .int .i64 b, .int .i64 c, .int .i64 i]] w (RdPost w (Lib.compact (sortI []))) := by
  obtain ⟨-, -, h2, -, -, -, -⟩ := fmtAt hT n hn
  rw [ho] at h2
  clear ho
  obtain ⟨i0, hi, hz0, hz1, hz2⟩ := info_parts info_int
  have hz := hT.size
  go_enter Tryd.func27, Tryd.ntmps27
  go_wp2_with fail
  refine (valid_any n a b c i _ (Tab.of_below hT (by repeat (first | (with_reducible exact Below.refl _ _) | (with_reducible apply bDrewN) | (with_reducible apply Below.drew) | ((with_reducible apply bSet); (focus first | (simp; done) | (simp; omega) | omega)) | ((with_reducible apply bAlloc); (focus first | (simp; done) | (simp; omega) | omega)))))).mono ?_
  rintro e w1 ⟨rfl, hb1⟩
  have hT1 : Tab w1 := Tab.of_below (Tab.of_below hT (by repeat (first | (with_reducible exact Below.refl _ _) | (with_reducible apply bDrewN) | (with_reducible apply Below.drew) | ((with_reducible apply bSet); (focus first | (simp; done) | (simp; omega) | omega)) | ((with_reducible apply bAlloc); (focus first | (simp; done) | (simp; omega) | omega))))) hb1
  have sz1_0 : w.heap.size < w1.heap.size := by have h := hb1.size; first | (simp at h; omega) | omega
  have c1_0_0 : w1.cell? ⟨w.heap.size, 0, none⟩ = some (.int .u8 n) := by rw [hb1.cell (p := ⟨w.heap.size, 0, none⟩) (by first | (simp; done) | (simp; omega) | omega)]; first | assumption | (simp [go_sem]; done) | (simp [go_sem, *]; done)
  have c1_0_1 : w1.cell? ⟨w.heap.size, 1, none⟩ = some (.int .i64 a) := by rw [hb1.cell (p := ⟨w.heap.size, 1, none⟩) (by first | (simp; done) | (simp; omega) | omega)]; first | assumption | (simp [go_sem]; done) | (simp [go_sem, *]; done)
  have c1_0_2 : w1.cell? ⟨w.heap.size, 2, none⟩ = some (.int .i64 b) := by rw [hb1.cell (p := ⟨w.heap.size, 2, none⟩) (by first | (simp; done) | (simp; omega) | omega)]; first | assumption | (simp [go_sem]; done) | (simp [go_sem, *]; done)
  have c1_0_3 : w1.cell? ⟨w.heap.size, 3, none⟩ = some (.int .i64 c) := by rw [hb1.cell (p := ⟨w.heap.size, 3, none⟩) (by first | (simp; done) | (simp; omega) | omega)]; first | assumption | (simp [go_sem]; done) | (simp [go_sem, *]; done)
  have c1_0_4 : w1.cell? ⟨w.heap.size, 4, none⟩ = some (.int .i64 i) := by rw [hb1.cell (p := ⟨w.heap.size, 4, none⟩) (by first | (simp; done) | (simp; omega) | omega)]; first | assumption | (simp [go_sem]; done) | (simp [go_sem, *]; done)
  have HB1 : Below w.heap.size w w1 := by
    repeat (first | (with_reducible exact Below.refl _ _) | (with_reducible apply bDrewN) | (with_reducible apply Below.drew) | ((with_reducible apply bThen hb1); (focus first | (simp; done) | (simp; omega) | omega)) | ((with_reducible apply bSet); (focus first | (simp; done) | (simp; omega) | omega)) | ((with_reducible apply bAlloc); (focus first | (simp; done) | (simp; omega) | omega)))
  have hsz1 := HB1.size
  clear hb1 
  have t2 : w1.cell? ⟨0, n * 6 + 2, none⟩ = some (.string ⟨#[]⟩) := by rw [HB1.cell (p := ⟨0, n * 6 + 2, none⟩) hz]; exact h2
  go_wp2_with fail
  refine wp_loop_rounds 1 ?_
  rw [rounds_succ]
  go_wp2_with fail
  refine (sort_own (w.heap.size + 1) _ _ [] ⟨rfl, .inl ⟨rfl, rfl⟩⟩ (by omega) (by simp)).mono ?_
  rintro e z1 ⟨rfl, ownS, bS⟩
  have hls : (sortI []).length = 0 := by simp [sortI]
  have sS := bS.size
  go_wp2_with fail
  refine (compact_own (w.heap.size + 1) _ _ (sortI []) (by rw [hls]; exact ownS) (by rw [hls]; omega)).mono ?_
  rintro e z2 ⟨v, rfl, sl, bC⟩
  go_wp2_with fail
  go_ret
  exact ⟨_, rfl, SlI.mono sl (by omega), (HB1.trans (bS.mono (by omega))).trans (bC.mono (by omega))⟩

set_option maxRecDepth 4000 in
set_option maxHeartbeats 800000 in
theorem reads_a_0 (n : Nat) (a b c i : Int) (w : World) (hT : Tab w) (hv : vld n a b c i = true) (hn : n < 30) (ho : frd n = ⟨#[65]⟩) (ha : (a != 0) = false) :
    Calls Tryd.prog 27 #[.agg #[.int .u8 n, .int .i64 a, .int .i64 b, .int .i64 c, .int .i64 i]] w (RdPost w (Lib.compact (sortI []))) := by
  obtain ⟨-, -, h2, -, -, -, -⟩ := fmtAt hT n hn
  rw [ho] at h2
  clear ho
  obtain ⟨i0, hi, hz0, hz1, hz2⟩ := info_parts info_int
  have hz := hT.size
  have e0 : (((⟨#[65]⟩ : ByteArray)[0]'(by decide)).toNat : Int) = 65 := rfl
  have f65 : fieldOff 65 = 1 := rfl
  go_enter Tryd.func27, Tryd.ntmps27
  go_wp2_with fail
  refine (valid_any n a b c i _ (Tab.of_below hT (by repeat (first | (with_reducible exact Below.refl _ _) | (with_reducible apply bDrewN) | (with_reducible apply Below.drew) | ((with_reducible apply bSet); (focus first | (simp; done) | (simp; omega) | omega)) | ((with_reducible apply bAlloc); (focus first | (simp; done) | (simp; omega) | omega)))))).mono ?_
  rintro e w1 ⟨rfl, hb1⟩
  have hT1 : Tab w1 := Tab.of_below (Tab.of_below hT (by repeat (first | (with_reducible exact Below.refl _ _) | (with_reducible apply bDrewN) | (with_reducible apply Below.drew) | ((with_reducible apply bSet); (focus first | (simp; done) | (simp; omega) | omega)) | ((with_reducible apply bAlloc); (focus first | (simp; done) | (simp; omega) | omega))))) hb1
  have sz1_0 : w.heap.size < w1.heap.size := by have h := hb1.size; first | (simp at h; omega) | omega
  have c1_0_0 : w1.cell? ⟨w.heap.size, 0, none⟩ = some (.int .u8 n) := by rw [hb1.cell (p := ⟨w.heap.size, 0, none⟩) (by first | (simp; done) | (simp; omega) | omega)]; first | assumption | (simp [go_sem]; done) | (simp [go_sem, *]; done)
  have c1_0_1 : w1.cell? ⟨w.heap.size, 1, none⟩ = some (.int .i64 a) := by rw [hb1.cell (p := ⟨w.heap.size, 1, none⟩) (by first | (simp; done) | (simp; omega) | omega)]; first | assumption | (simp [go_sem]; done) | (simp [go_sem, *]; done)
  have c1_0_2 : w1.cell? ⟨w.heap.size, 2, none⟩ = some (.int .i64 b) := by rw [hb1.cell (p := ⟨w.heap.size, 2, none⟩) (by first | (simp; done) | (simp; omega) | omega)]; first | assumption | (simp [go_sem]; done) | (simp [go_sem, *]; done)
  have c1_0_3 : w1.cell? ⟨w.heap.size, 3, none⟩ = some (.int .i64 c) := by rw [hb1.cell (p := ⟨w.heap.size, 3, none⟩) (by first | (simp; done) | (simp; omega) | omega)]; first | assumption | (simp [go_sem]; done) | (simp [go_sem, *]; done)
  have c1_0_4 : w1.cell? ⟨w.heap.size, 4, none⟩ = some (.int .i64 i) := by rw [hb1.cell (p := ⟨w.heap.size, 4, none⟩) (by first | (simp; done) | (simp; omega) | omega)]; first | assumption | (simp [go_sem]; done) | (simp [go_sem, *]; done)
  have HB1 : Below w.heap.size w w1 := by
    repeat (first | (with_reducible exact Below.refl _ _) | (with_reducible apply bDrewN) | (with_reducible apply Below.drew) | ((with_reducible apply bThen hb1); (focus first | (simp; done) | (simp; omega) | omega)) | ((with_reducible apply bSet); (focus first | (simp; done) | (simp; omega) | omega)) | ((with_reducible apply bAlloc); (focus first | (simp; done) | (simp; omega) | omega)))
  have hsz1 := HB1.size
  clear hb1 
  have t2 : w1.cell? ⟨0, n * 6 + 2, none⟩ = some (.string ⟨#[65]⟩) := by rw [HB1.cell (p := ⟨0, n * 6 + 2, none⟩) hz]; exact h2
  go_wp2_with fail
  refine wp_loop_rounds 2 ?_
  rw [rounds_succ]
  go_wp2_with (go_at_call 37; refine (field_any _ _ _).mono ?_; rintro e w' ⟨rfl, rfl⟩)
  rw [rounds_succ]
  go_wp2_with fail
  refine (sort_own (w.heap.size + 1) _ _ [] ⟨rfl, .inl ⟨rfl, rfl⟩⟩ (by omega) (by simp)).mono ?_
  rintro e z1 ⟨rfl, ownS, bS⟩
  have hls : (sortI []).length = 0 := by simp [sortI]
  have sS := bS.size
  go_wp2_with fail
  refine (compact_own (w.heap.size + 1) _ _ (sortI []) (by rw [hls]; exact ownS) (by rw [hls]; omega)).mono ?_
  rintro e z2 ⟨v, rfl, sl, bC⟩
  go_wp2_with fail
  go_ret
  exact ⟨_, rfl, SlI.mono sl (by omega), (HB1.trans (bS.mono (by omega))).trans (bC.mono (by omega))⟩

set_option maxRecDepth 4000 in
set_option maxHeartbeats 800000 in
theorem reads_a_1 (n : Nat) (a b c i : Int) (w : World) (hT : Tab w) (hv : vld n a b c i = true) (hn : n < 30) (ho : frd n = ⟨#[65]⟩) (ha : (a != 0) = true) :
    Calls Tryd.prog 27 #[.agg #[.int .u8 n, .int .i64 a, .int .i64 b, .int .i64 c, .int .i64 i]] w (RdPost w (Lib.compact (sortI [a]))) := by
  obtain ⟨-, -, h2, -, -, -, -⟩ := fmtAt hT n hn
  rw [ho] at h2
  clear ho
  obtain ⟨i0, hi, hz0, hz1, hz2⟩ := info_parts info_int
  have hz := hT.size
  have e0 : (((⟨#[65]⟩ : ByteArray)[0]'(by decide)).toNat : Int) = 65 := rfl
  have f65 : fieldOff 65 = 1 := rfl
  go_enter Tryd.func27, Tryd.ntmps27
  go_wp2_with fail
  refine (valid_any n a b c i _ (Tab.of_below hT (by repeat (first | (with_reducible exact Below.refl _ _) | (with_reducible apply bDrewN) | (with_reducible apply Below.drew) | ((with_reducible apply bSet); (focus first | (simp; done) | (simp; omega) | omega)) | ((with_reducible apply bAlloc); (focus first | (simp; done) | (simp; omega) | omega)))))).mono ?_
  rintro e w1 ⟨rfl, hb1⟩
  have hT1 : Tab w1 := Tab.of_below (Tab.of_below hT (by repeat (first | (with_reducible exact Below.refl _ _) | (with_reducible apply bDrewN) | (with_reducible apply Below.drew) | ((with_reducible apply bSet); (focus first | (simp; done) | (simp; omega) | omega)) | ((with_reducible apply bAlloc); (focus first | (simp; done) | (simp; omega) | omega))))) hb1
  have sz1_0 : w.heap.size < w1.heap.size := by have h := hb1.size; first | (simp at h; omega) | omega
  have c1_0_0 : w1.cell? ⟨w.heap.size, 0, none⟩ = some (.int .u8 n) := by rw [hb1.cell (p := ⟨w.heap.size, 0, none⟩) (by first | (simp; done) | (simp; omega) | omega)]; first | assumption | (simp [go_sem]; done) | (simp [go_sem, *]; done)
  have c1_0_1 : w1.cell? ⟨w.heap.size, 1, none⟩ = some (.int .i64 a) := by rw [hb1.cell (p := ⟨w.heap.size, 1, none⟩) (by first | (simp; done) | (simp; omega) | omega)]; first | assumption | (simp [go_sem]; done) | (simp [go_sem, *]; done)
  have c1_0_2 : w1.cell? ⟨w.heap.size, 2, none⟩ = some (.int .i64 b) := by rw [hb1.cell (p := ⟨w.heap.size, 2, none⟩) (by first | (simp; done) | (simp; omega) | omega)]; first | assumption | (simp [go_sem]; done) | (simp [go_sem, *]; done)
  have c1_0_3 : w1.cell? ⟨w.heap.size, 3, none⟩ = some (.int .i64 c) := by rw [hb1.cell (p := ⟨w.heap.size, 3, none⟩) (by first | (simp; done) | (simp; omega) | omega)]; first | assumption | (simp [go_sem]; done) | (simp [go_sem, *]; done)
  have c1_0_4 : w1.cell? ⟨w.heap.size, 4, none⟩ = some (.int .i64 i) := by rw [hb1.cell (p := ⟨w.heap.size, 4, none⟩) (by first | (simp; done) | (simp; omega) | omega)]; first | assumption | (simp [go_sem]; done) | (simp [go_sem, *]; done)
  have HB1 : Below w.heap.size w w1 := by
    repeat (first | (with_reducible exact Below.refl _ _) | (with_reducible apply bDrewN) | (with_reducible apply Below.drew) | ((with_reducible apply bThen hb1); (focus first | (simp; done) | (simp; omega) | omega)) | ((with_reducible apply bSet); (focus first | (simp; done) | (simp; omega) | omega)) | ((with_reducible apply bAlloc); (focus first | (simp; done) | (simp; omega) | omega)))
  have hsz1 := HB1.size
  clear hb1 
  have t2 : w1.cell? ⟨0, n * 6 + 2, none⟩ = some (.string ⟨#[65]⟩) := by rw [HB1.cell (p := ⟨0, n * 6 + 2, none⟩) hz]; exact h2
  go_wp2_with fail
  refine wp_loop_rounds 2 ?_
  rw [rounds_succ]
  go_wp2_with (first | (go_at_call 37; refine (field_any _ _ _).mono ?_; rintro e w' ⟨rfl, rfl⟩) | (at_builtin; refine wpList_append_own _ rfl _ _ 64 rfl (w.heap.size + 1) 3 i0 (.int .i64 0) 1 8 Tryd.underlying64 hi hz0 hz1 hz2 rfl (by decide) _ 0 [] rfl ⟨rfl, .inl ⟨rfl, rfl⟩⟩ ⟨w1.heap.size, 0, none⟩ 1 1 [.int .i64 a] rfl rfl ?_ ?_ ?_ ?_ ?_ ?_))
  · intro j u hj; have : j = 0 := by (cases j with | zero => rfl | succ j => simp at hj)
    subst this; simp at hj; subst hj; simp [Addr.add, go_sem]
  · simp [Value.oneCell']
  · unfold maxLen; omega
  · omega
  · simp; omega
  intro v1 u1 own1 gr1 _
  try simp only [Nat.zero_add, List.nil_append, List.cons_append] at own1
  have HU1 : Below w.heap.size w u1 := by
    exact (show Below w.heap.size w (w1.alloc _) from by repeat (first | (with_reducible exact Below.refl _ _) | (with_reducible apply bDrewN) | (with_reducible apply Below.drew) | (with_reducible exact HB1) | ((with_reducible apply bSet); (focus first | (simp; done) | (simp; omega) | omega)) | ((with_reducible apply bAlloc); (focus first | (simp; done) | (simp; omega) | omega)))).grown gr1 (by simp; omega) (fun k hk => by simp [Value.ownBlock] at hk)
  have hu1 := HU1.size
  have d1_0 : u1.cell? ⟨w.heap.size, 0, none⟩ = some (.int .u8 n) := by rw [World.cell?_of_block (a := ⟨w.heap.size, 0, none⟩) (gr1.block w.heap.size (by simp; omega) (by simp [Value.ownBlock]))]; simp [go_sem, *]
  have d1_1 : u1.cell? ⟨w.heap.size, 1, none⟩ = some (.int .i64 a) := by rw [World.cell?_of_block (a := ⟨w.heap.size, 1, none⟩) (gr1.block w.heap.size (by simp; omega) (by simp [Value.ownBlock]))]; simp [go_sem, *]
  have d1_2 : u1.cell? ⟨w.heap.size, 2, none⟩ = some (.int .i64 b) := by rw [World.cell?_of_block (a := ⟨w.heap.size, 2, none⟩) (gr1.block w.heap.size (by simp; omega) (by simp [Value.ownBlock]))]; simp [go_sem, *]
  have d1_3 : u1.cell? ⟨w.heap.size, 3, none⟩ = some (.int .i64 c) := by rw [World.cell?_of_block (a := ⟨w.heap.size, 3, none⟩) (gr1.block w.heap.size (by simp; omega) (by simp [Value.ownBlock]))]; simp [go_sem, *]
  have d1_4 : u1.cell? ⟨w.heap.size, 4, none⟩ = some (.int .i64 i) := by rw [World.cell?_of_block (a := ⟨w.heap.size, 4, none⟩) (gr1.block w.heap.size (by simp; omega) (by simp [Value.ownBlock]))]; simp [go_sem, *]
  have e1_0 : w.heap.size < u1.heap.size := by have := gr1.size; simp at this; omega
  clear gr1
  go_wp2_with fail
  rw [rounds_succ]
  go_wp2_with fail
  refine (sort_own (w.heap.size + 1) _ _ [a] own1 (by omega) (by simp)).mono ?_
  rintro e z1 ⟨rfl, ownS, bS⟩
  have hls : (sortI [a]).length = 1 := by simp [sortI]
  have sS := bS.size
  go_wp2_with fail
  refine (compact_own (w.heap.size + 1) _ _ (sortI [a]) (by rw [hls]; exact ownS) (by rw [hls]; omega)).mono ?_
  rintro e z2 ⟨v, rfl, sl, bC⟩
  go_wp2_with fail
  go_ret
  exact ⟨_, rfl, SlI.mono sl (by omega), (HU1.trans (bS.mono (by omega))).trans (bC.mono (by omega))⟩

set_option maxRecDepth 4000 in
set_option maxHeartbeats 800000 in
theorem reads_b_0 (n : Nat) (a b c i : Int) (w : World) (hT : Tab w) (hv : vld n a b c i = true) (hn : n < 30) (ho : frd n = ⟨#[66]⟩) (hb : (b != 0) = false) :
    Calls Tryd.prog 27 #[.agg #[.int .u8 n, .int .i64 a, .int .i64 b, .int .i64 c, .int .i64 i]] w (RdPost w (Lib.compact (sortI []))) := by
  obtain ⟨-, -, h2, -, -, -, -⟩ := fmtAt hT n hn
  rw [ho] at h2
  clear ho
  obtain ⟨i0, hi, hz0, hz1, hz2⟩ := info_parts info_int
  have hz := hT.size
  have e0 : (((⟨#[66]⟩ : ByteArray)[0]'(by decide)).toNat : Int) = 66 := rfl
  have f66 : fieldOff 66 = 2 := rfl
  go_enter Tryd.func27, Tryd.ntmps27
  go_wp2_with fail
  refine (valid_any n a b c i _ (Tab.of_below hT (by repeat (first | (with_reducible exact Below.refl _ _) | (with_reducible apply bDrewN) | (with_reducible apply Below.drew) | ((with_reducible apply bSet); (focus first | (simp; done) | (simp; omega) | omega)) | ((with_reducible apply bAlloc); (focus first | (simp; done) | (simp; omega) | omega)))))).mono ?_
  rintro e w1 ⟨rfl, hb1⟩
  have hT1 : Tab w1 := Tab.of_below (Tab.of_below hT (by repeat (first | (with_reducible exact Below.refl _ _) | (with_reducible apply bDrewN) | (with_reducible apply Below.drew) | ((with_reducible apply bSet); (focus first | (simp; done) | (simp; omega) | omega)) | ((with_reducible apply bAlloc); (focus first | (simp; done) | (simp; omega) | omega))))) hb1
  have sz1_0 : w.heap.size < w1.heap.size := by have h := hb1.size; first | (simp at h; omega) | omega
  have c1_0_0 : w1.cell? ⟨w.heap.size, 0, none⟩ = some (.int .u8 n) := by rw [hb1.cell (p := ⟨w.heap.size, 0, none⟩) (by first | (simp; done) | (simp; omega) | omega)]; first | assumption | (simp [go_sem]; done) | (simp [go_sem, *]; done)
  have c1_0_1 : w1.cell? ⟨w.heap.size, 1, none⟩ = some (.int .i64 a) := by rw [hb1.cell (p := ⟨w.heap.size, 1, none⟩) (by first | (simp; done) | (simp; omega) | omega)]; first | assumption | (simp [go_sem]; done) | (simp [go_sem, *]; done)
  have c1_0_2 : w1.cell? ⟨w.heap.size, 2, none⟩ = some (.int .i64 b) := by rw [hb1.cell (p := ⟨w.heap.size, 2, none⟩) (by first | (simp; done) | (simp; omega) | omega)]; first | assumption | (simp [go_sem]; done) | (simp [go_sem, *]; done)
  have c1_0_3 : w1.cell? ⟨w.heap.size, 3, none⟩ = some (.int .i64 c) := by rw [hb1.cell (p := ⟨w.heap.size, 3, none⟩) (by first | (simp; done) | (simp; omega) | omega)]; first | assumption | (simp [go_sem]; done) | (simp [go_sem, *]; done)
  have c1_0_4 : w1.cell? ⟨w.heap.size, 4, none⟩ = some (.int .i64 i) := by rw [hb1.cell (p := ⟨w.heap.size, 4, none⟩) (by first | (simp; done) | (simp; omega) | omega)]; first | assumption | (simp [go_sem]; done) | (simp [go_sem, *]; done)
  have HB1 : Below w.heap.size w w1 := by
    repeat (first | (with_reducible exact Below.refl _ _) | (with_reducible apply bDrewN) | (with_reducible apply Below.drew) | ((with_reducible apply bThen hb1); (focus first | (simp; done) | (simp; omega) | omega)) | ((with_reducible apply bSet); (focus first | (simp; done) | (simp; omega) | omega)) | ((with_reducible apply bAlloc); (focus first | (simp; done) | (simp; omega) | omega)))
  have hsz1 := HB1.size
  clear hb1 
  have t2 : w1.cell? ⟨0, n * 6 + 2, none⟩ = some (.string ⟨#[66]⟩) := by rw [HB1.cell (p := ⟨0, n * 6 + 2, none⟩) hz]; exact h2
  go_wp2_with fail
  refine wp_loop_rounds 2 ?_
  rw [rounds_succ]
  go_wp2_with (go_at_call 37; refine (field_any _ _ _).mono ?_; rintro e w' ⟨rfl, rfl⟩)
  rw [rounds_succ]
  go_wp2_with fail
  refine (sort_own (w.heap.size + 1) _ _ [] ⟨rfl, .inl ⟨rfl, rfl⟩⟩ (by omega) (by simp)).mono ?_
  rintro e z1 ⟨rfl, ownS, bS⟩
  have hls : (sortI []).length = 0 := by simp [sortI]
  have sS := bS.size
  go_wp2_with fail
  refine (compact_own (w.heap.size + 1) _ _ (sortI []) (by rw [hls]; exact ownS) (by rw [hls]; omega)).mono ?_
  rintro e z2 ⟨v, rfl, sl, bC⟩
  go_wp2_with fail
  go_ret
  exact ⟨_, rfl, SlI.mono sl (by omega), (HB1.trans (bS.mono (by omega))).trans (bC.mono (by omega))⟩

set_option maxRecDepth 4000 in
set_option maxHeartbeats 800000 in
theorem reads_b_1 (n : Nat) (a b c i : Int) (w : World) (hT : Tab w) (hv : vld n a b c i = true) (hn : n < 30) (ho : frd n = ⟨#[66]⟩) (hb : (b != 0) = true) :
    Calls Tryd.prog 27 #[.agg #[.int .u8 n, .int .i64 a, .int .i64 b, .int .i64 c, .int .i64 i]] w (RdPost w (Lib.compact (sortI [b]))) := by
  obtain ⟨-, -, h2, -, -, -, -⟩ := fmtAt hT n hn
  rw [ho] at h2
  clear ho
  obtain ⟨i0, hi, hz0, hz1, hz2⟩ := info_parts info_int
  have hz := hT.size
  have e0 : (((⟨#[66]⟩ : ByteArray)[0]'(by decide)).toNat : Int) = 66 := rfl
  have f66 : fieldOff 66 = 2 := rfl
  go_enter Tryd.func27, Tryd.ntmps27
  go_wp2_with fail
  refine (valid_any n a b c i _ (Tab.of_below hT (by repeat (first | (with_reducible exact Below.refl _ _) | (with_reducible apply bDrewN) | (with_reducible apply Below.drew) | ((with_reducible apply bSet); (focus first | (simp; done) | (simp; omega) | omega)) | ((with_reducible apply bAlloc); (focus first | (simp; done) | (simp; omega) | omega)))))).mono ?_
  rintro e w1 ⟨rfl, hb1⟩
  have hT1 : Tab w1 := Tab.of_below (Tab.of_below hT (by repeat (first | (with_reducible exact Below.refl _ _) | (with_reducible apply bDrewN) | (with_reducible apply Below.drew) | ((with_reducible apply bSet); (focus first | (simp; done) | (simp; omega) | omega)) | ((with_reducible apply bAlloc); (focus first | (simp; done) | (simp; omega) | omega))))) hb1
  have sz1_0 : w.heap.size < w1.heap.size := by have h := hb1.size; first | (simp at h; omega) | omega
  have c1_0_0 : w1.cell? ⟨w.heap.size, 0, none⟩ = some (.int .u8 n) := by rw [hb1.cell (p := ⟨w.heap.size, 0, none⟩) (by first | (simp; done) | (simp; omega) | omega)]; first | assumption | (simp [go_sem]; done) | (simp [go_sem, *]; done)
  have c1_0_1 : w1.cell? ⟨w.heap.size, 1, none⟩ = some (.int .i64 a) := by rw [hb1.cell (p := ⟨w.heap.size, 1, none⟩) (by first | (simp; done) | (simp; omega) | omega)]; first | assumption | (simp [go_sem]; done) | (simp [go_sem, *]; done)
  have c1_0_2 : w1.cell? ⟨w.heap.size, 2, none⟩ = some (.int .i64 b) := by rw [hb1.cell (p := ⟨w.heap.size, 2, none⟩) (by first | (simp; done) | (simp; omega) | omega)]; first | assumption | (simp [go_sem]; done) | (simp [go_sem, *]; done)
  have c1_0_3 : w1.cell? ⟨w.heap.size, 3, none⟩ = some (.int .i64 c) := by rw [hb1.cell (p := ⟨w.heap.size, 3, none⟩) (by first | (simp; done) | (simp; omega) | omega)]; first | assumption | (simp [go_sem]; done) | (simp [go_sem, *]; done)
  have c1_0_4 : w1.cell? ⟨w.heap.size, 4, none⟩ = some (.int .i64 i) := by rw [hb1.cell (p := ⟨w.heap.size, 4, none⟩) (by first | (simp; done) | (simp; omega) | omega)]; first | assumption | (simp [go_sem]; done) | (simp [go_sem, *]; done)
  have HB1 : Below w.heap.size w w1 := by
    repeat (first | (with_reducible exact Below.refl _ _) | (with_reducible apply bDrewN) | (with_reducible apply Below.drew) | ((with_reducible apply bThen hb1); (focus first | (simp; done) | (simp; omega) | omega)) | ((with_reducible apply bSet); (focus first | (simp; done) | (simp; omega) | omega)) | ((with_reducible apply bAlloc); (focus first | (simp; done) | (simp; omega) | omega)))
  have hsz1 := HB1.size
  clear hb1 
  have t2 : w1.cell? ⟨0, n * 6 + 2, none⟩ = some (.string ⟨#[66]⟩) := by rw [HB1.cell (p := ⟨0, n * 6 + 2, none⟩) hz]; exact h2
  go_wp2_with fail
  refine wp_loop_rounds 2 ?_
  rw [rounds_succ]
  go_wp2_with (first | (go_at_call 37; refine (field_any _ _ _).mono ?_; rintro e w' ⟨rfl, rfl⟩) | (at_builtin; refine wpList_append_own _ rfl _ _ 64 rfl (w.heap.size + 1) 3 i0 (.int .i64 0) 1 8 Tryd.underlying64 hi hz0 hz1 hz2 rfl (by decide) _ 0 [] rfl ⟨rfl, .inl ⟨rfl, rfl⟩⟩ ⟨w1.heap.size, 0, none⟩ 1 1 [.int .i64 b] rfl rfl ?_ ?_ ?_ ?_ ?_ ?_))
  · intro j u hj; have : j = 0 := by (cases j with | zero => rfl | succ j => simp at hj)
    subst this; simp at hj; subst hj; simp [Addr.add, go_sem]
  · simp [Value.oneCell']
  · unfold maxLen; omega
  · omega
  · simp; omega
  intro v1 u1 own1 gr1 _
  try simp only [Nat.zero_add, List.nil_append, List.cons_append] at own1
  have HU1 : Below w.heap.size w u1 := by
    exact (show Below w.heap.size w (w1.alloc _) from by repeat (first | (with_reducible exact Below.refl _ _) | (with_reducible apply bDrewN) | (with_reducible apply Below.drew) | (with_reducible exact HB1) | ((with_reducible apply bSet); (focus first | (simp; done) | (simp; omega) | omega)) | ((with_reducible apply bAlloc); (focus first | (simp; done) | (simp; omega) | omega)))).grown gr1 (by simp; omega) (fun k hk => by simp [Value.ownBlock] at hk)
  have hu1 := HU1.size
  have d1_0 : u1.cell? ⟨w.heap.size, 0, none⟩ = some (.int .u8 n) := by rw [World.cell?_of_block (a := ⟨w.heap.size, 0, none⟩) (gr1.block w.heap.size (by simp; omega) (by simp [Value.ownBlock]))]; simp [go_sem, *]
  have d1_1 : u1.cell? ⟨w.heap.size, 1, none⟩ = some (.int .i64 a) := by rw [World.cell?_of_block (a := ⟨w.heap.size, 1, none⟩) (gr1.block w.heap.size (by simp; omega) (by simp [Value.ownBlock]))]; simp [go_sem, *]
  have d1_2 : u1.cell? ⟨w.heap.size, 2, none⟩ = some (.int .i64 b) := by rw [World.cell?_of_block (a := ⟨w.heap.size, 2, none⟩) (gr1.block w.heap.size (by simp; omega) (by simp [Value.ownBlock]))]; simp [go_sem, *]
  have d1_3 : u1.cell? ⟨w.heap.size, 3, none⟩ = some (.int .i64 c) := by rw [World.cell?_of_block (a := ⟨w.heap.size, 3, none⟩) (gr1.block w.heap.size (by simp; omega) (by simp [Value.ownBlock]))]; simp [go_sem, *]
  have d1_4 : u1.cell? ⟨w.heap.size, 4, none⟩ = some (.int .i64 i) := by rw [World.cell?_of_block (a := ⟨w.heap.size, 4, none⟩) (gr1.block w.heap.size (by simp; omega) (by simp [Value.ownBlock]))]; simp [go_sem, *]
  have e1_0 : w.heap.size < u1.heap.size := by have := gr1.size; simp at this; omega
  clear gr1
  go_wp2_with fail
  rw [rounds_succ]
  go_wp2_with fail
  refine (sort_own (w.heap.size + 1) _ _ [b] own1 (by omega) (by simp)).mono ?_
  rintro e z1 ⟨rfl, ownS, bS⟩
  have hls : (sortI [b]).length = 1 := by simp [sortI]
  have sS := bS.size
  go_wp2_with fail
  refine (compact_own (w.heap.size + 1) _ _ (sortI [b]) (by rw [hls]; exact ownS) (by rw [hls]; omega)).mono ?_
  rintro e z2 ⟨v, rfl, sl, bC⟩
  go_wp2_with fail
  go_ret
  exact ⟨_, rfl, SlI.mono sl (by omega), (HU1.trans (bS.mono (by omega))).trans (bC.mono (by omega))⟩

set_option maxRecDepth 4000 in
set_option maxHeartbeats 800000 in
theorem reads_ab_0 (n : Nat) (a b c i : Int) (w : World) (hT : Tab w) (hv : vld n a b c i = true) (hn : n < 30) (ho : frd n = ⟨#[65, 66]⟩) (ha : (a != 0) = false) (hb : (b != 0) = false) :
    Calls Tryd.prog 27 #[.agg #[.int .u8 n, .int .i64 a, .int .i64 b, .int .i64 c, .int .i64 i]] w (RdPost w (Lib.compact (sortI []))) := by
  obtain ⟨-, -, h2, -, -, -, -⟩ := fmtAt hT n hn
  rw [ho] at h2
  clear ho
  obtain ⟨i0, hi, hz0, hz1, hz2⟩ := info_parts info_int
  have hz := hT.size
  have e0 : (((⟨#[65, 66]⟩ : ByteArray)[0]'(by decide)).toNat : Int) = 65 := rfl
  have e1 : (((⟨#[65, 66]⟩ : ByteArray)[1]'(by decide)).toNat : Int) = 66 := rfl
  have f65 : fieldOff 65 = 1 := rfl
  have f66 : fieldOff 66 = 2 := rfl
  go_enter Tryd.func27, Tryd.ntmps27
  go_wp2_with fail
  refine (valid_any n a b c i _ (Tab.of_below hT (by repeat (first | (with_reducible exact Below.refl _ _) | (with_reducible apply bDrewN) | (with_reducible apply Below.drew) | ((with_reducible apply bSet); (focus first | (simp; done) | (simp; omega) | omega)) | ((with_reducible apply bAlloc); (focus first | (simp; done) | (simp; omega) | omega)))))).mono ?_
  rintro e w1 ⟨rfl, hb1⟩
  have hT1 : Tab w1 := Tab.of_below (Tab.of_below hT (by repeat (first | (with_reducible exact Below.refl _ _) | (with_reducible apply bDrewN) | (with_reducible apply Below.drew) | ((with_reducible apply bSet); (focus first | (simp; done) | (simp; omega) | omega)) | ((with_reducible apply bAlloc); (focus first | (simp; done) | (simp; omega) | omega))))) hb1
  have sz1_0 : w.heap.size < w1.heap.size := by have h := hb1.size; first | (simp at h; omega) | omega
  have c1_0_0 : w1.cell? ⟨w.heap.size, 0, none⟩ = some (.int .u8 n) := by rw [hb1.cell (p := ⟨w.heap.size, 0, none⟩) (by first | (simp; done) | (simp; omega) | omega)]; first | assumption | (simp [go_sem]; done) | (simp [go_sem, *]; done)
  have c1_0_1 : w1.cell? ⟨w.heap.size, 1, none⟩ = some (.int .i64 a) := by rw [hb1.cell (p := ⟨w.heap.size, 1, none⟩) (by first | (simp; done) | (simp; omega) | omega)]; first | assumption | (simp [go_sem]; done) | (simp [go_sem, *]; done)
  have c1_0_2 : w1.cell? ⟨w.heap.size, 2, none⟩ = some (.int .i64 b) := by rw [hb1.cell (p := ⟨w.heap.size, 2, none⟩) (by first | (simp; done) | (simp; omega) | omega)]; first | assumption | (simp [go_sem]; done) | (simp [go_sem, *]; done)
  have c1_0_3 : w1.cell? ⟨w.heap.size, 3, none⟩ = some (.int .i64 c) := by rw [hb1.cell (p := ⟨w.heap.size, 3, none⟩) (by first | (simp; done) | (simp; omega) | omega)]; first | assumption | (simp [go_sem]; done) | (simp [go_sem, *]; done)
  have c1_0_4 : w1.cell? ⟨w.heap.size, 4, none⟩ = some (.int .i64 i) := by rw [hb1.cell (p := ⟨w.heap.size, 4, none⟩) (by first | (simp; done) | (simp; omega) | omega)]; first | assumption | (simp [go_sem]; done) | (simp [go_sem, *]; done)
  have HB1 : Below w.heap.size w w1 := by
    repeat (first | (with_reducible exact Below.refl _ _) | (with_reducible apply bDrewN) | (with_reducible apply Below.drew) | ((with_reducible apply bThen hb1); (focus first | (simp; done) | (simp; omega) | omega)) | ((with_reducible apply bSet); (focus first | (simp; done) | (simp; omega) | omega)) | ((with_reducible apply bAlloc); (focus first | (simp; done) | (simp; omega) | omega)))
  have hsz1 := HB1.size
  clear hb1 
  have t2 : w1.cell? ⟨0, n * 6 + 2, none⟩ = some (.string ⟨#[65, 66]⟩) := by rw [HB1.cell (p := ⟨0, n * 6 + 2, none⟩) hz]; exact h2
  go_wp2_with fail
  refine wp_loop_rounds 3 ?_
  rw [rounds_succ]
  go_wp2_with (go_at_call 37; refine (field_any _ _ _).mono ?_; rintro e w' ⟨rfl, rfl⟩)
  rw [rounds_succ]
  go_wp2_with (go_at_call 37; refine (field_any _ _ _).mono ?_; rintro e w' ⟨rfl, rfl⟩)
  rw [rounds_succ]
  go_wp2_with fail
  refine (sort_own (w.heap.size + 1) _ _ [] ⟨rfl, .inl ⟨rfl, rfl⟩⟩ (by omega) (by simp)).mono ?_
  rintro e z1 ⟨rfl, ownS, bS⟩
  have hls : (sortI []).length = 0 := by simp [sortI]
  have sS := bS.size
  go_wp2_with fail
  refine (compact_own (w.heap.size + 1) _ _ (sortI []) (by rw [hls]; exact ownS) (by rw [hls]; omega)).mono ?_
  rintro e z2 ⟨v, rfl, sl, bC⟩
  go_wp2_with fail
  go_ret
  exact ⟨_, rfl, SlI.mono sl (by omega), (HB1.trans (bS.mono (by omega))).trans (bC.mono (by omega))⟩

set_option maxRecDepth 4000 in
set_option maxHeartbeats 800000 in
theorem reads_ab_1 (n : Nat) (a b c i : Int) (w : World) (hT : Tab w) (hv : vld n a b c i = true) (hn : n < 30) (ho : frd n = ⟨#[65, 66]⟩) (ha : (a != 0) = true) (hb : (b != 0) = false) :
    Calls Tryd.prog 27 #[.agg #[.int .u8 n, .int .i64 a, .int .i64 b, .int .i64 c, .int .i64 i]] w (RdPost w (Lib.compact (sortI [a]))) := by
  obtain ⟨-, -, h2, -, -, -, -⟩ := fmtAt hT n hn
  rw [ho] at h2
  clear ho
  obtain ⟨i0, hi, hz0, hz1, hz2⟩ := info_parts info_int
  have hz := hT.size
  have e0 : (((⟨#[65, 66]⟩ : ByteArray)[0]'(by decide)).toNat : Int) = 65 := rfl
  have e1 : (((⟨#[65, 66]⟩ : ByteArray)[1]'(by decide)).toNat : Int) = 66 := rfl
  have f65 : fieldOff 65 = 1 := rfl
  have f66 : fieldOff 66 = 2 := rfl
  go_enter Tryd.func27, Tryd.ntmps27
  go_wp2_with fail
  refine (valid_any n a b c i _ (Tab.of_below hT (by repeat (first | (with_reducible exact Below.refl _ _) | (with_reducible apply bDrewN) | (with_reducible apply Below.drew) | ((with_reducible apply bSet); (focus first | (simp; done) | (simp; omega) | omega)) | ((with_reducible apply bAlloc); (focus first | (simp; done) | (simp; omega) | omega)))))).mono ?_
  rintro e w1 ⟨rfl, hb1⟩
  have hT1 : Tab w1 := Tab.of_below (Tab.of_below hT (by repeat (first | (with_reducible exact Below.refl _ _) | (with_reducible apply bDrewN) | (with_reducible apply Below.drew) | ((with_reducible apply bSet); (focus first | (simp; done) | (simp; omega) | omega)) | ((with_reducible apply bAlloc); (focus first | (simp; done) | (simp; omega) | omega))))) hb1
  have sz1_0 : w.heap.size < w1.heap.size := by have h := hb1.size; first | (simp at h; omega) | omega
  have c1_0_0 : w1.cell? ⟨w.heap.size, 0, none⟩ = some (.int .u8 n) := by rw [hb1.cell (p := ⟨w.heap.size, 0, none⟩) (by first | (simp; done) | (simp; omega) | omega)]; first | assumption | (simp [go_sem]; done) | (simp [go_sem, *]; done)
  have c1_0_1 : w1.cell? ⟨w.heap.size, 1, none⟩ = some (.int .i64 a) := by rw [hb1.cell (p := ⟨w.heap.size, 1, none⟩) (by first | (simp; done) | (simp; omega) | omega)]; first | assumption | (simp [go_sem]; done) | (simp [go_sem, *]; done)
  have c1_0_2 : w1.cell? ⟨w.heap.size, 2, none⟩ = some (.int .i64 b) := by rw [hb1.cell (p := ⟨w.heap.size, 2, none⟩) (by first | (simp; done) | (simp; omega) | omega)]; first | assumption | (simp [go_sem]; done) | (simp [go_sem, *]; done)
  have c1_0_3 : w1.cell? ⟨w.heap.size, 3, none⟩ = some (.int .i64 c) := by rw [hb1.cell (p := ⟨w.heap.size, 3, none⟩) (by first | (simp; done) | (simp; omega) | omega)]; first | assumption | (simp [go_sem]; done) | (simp [go_sem, *]; done)
  have c1_0_4 : w1.cell? ⟨w.heap.size, 4, none⟩ = some (.int .i64 i) := by rw [hb1.cell (p := ⟨w.heap.size, 4, none⟩) (by first | (simp; done) | (simp; omega) | omega)]; first | assumption | (simp [go_sem]; done) | (simp [go_sem, *]; done)
  have HB1 : Below w.heap.size w w1 := by
    repeat (first | (with_reducible exact Below.refl _ _) | (with_reducible apply bDrewN) | (with_reducible apply Below.drew) | ((with_reducible apply bThen hb1); (focus first | (simp; done) | (simp; omega) | omega)) | ((with_reducible apply bSet); (focus first | (simp; done) | (simp; omega) | omega)) | ((with_reducible apply bAlloc); (focus first | (simp; done) | (simp; omega) | omega)))
  have hsz1 := HB1.size
  clear hb1 
  have t2 : w1.cell? ⟨0, n * 6 + 2, none⟩ = some (.string ⟨#[65, 66]⟩) := by rw [HB1.cell (p := ⟨0, n * 6 + 2, none⟩) hz]; exact h2
  go_wp2_with fail
  refine wp_loop_rounds 3 ?_
  rw [rounds_succ]
  go_wp2_with (first | (go_at_call 37; refine (field_any _ _ _).mono ?_; rintro e w' ⟨rfl, rfl⟩) | (at_builtin; refine wpList_append_own _ rfl _ _ 64 rfl (w.heap.size + 1) 3 i0 (.int .i64 0) 1 8 Tryd.underlying64 hi hz0 hz1 hz2 rfl (by decide) _ 0 [] rfl ⟨rfl, .inl ⟨rfl, rfl⟩⟩ ⟨w1.heap.size, 0, none⟩ 1 1 [.int .i64 a] rfl rfl ?_ ?_ ?_ ?_ ?_ ?_))
  · intro j u hj; have : j = 0 := by (cases j with | zero => rfl | succ j => simp at hj)
    subst this; simp at hj; subst hj; simp [Addr.add, go_sem]
  · simp [Value.oneCell']
  · unfold maxLen; omega
  · omega
  · simp; omega
  intro v1 u1 own1 gr1 _
  try simp only [Nat.zero_add, List.nil_append, List.cons_append] at own1
  have HU1 : Below w.heap.size w u1 := by
    exact (show Below w.heap.size w (w1.alloc _) from by repeat (first | (with_reducible exact Below.refl _ _) | (with_reducible apply bDrewN) | (with_reducible apply Below.drew) | (with_reducible exact HB1) | ((with_reducible apply bSet); (focus first | (simp; done) | (simp; omega) | omega)) | ((with_reducible apply bAlloc); (focus first | (simp; done) | (simp; omega) | omega)))).grown gr1 (by simp; omega) (fun k hk => by simp [Value.ownBlock] at hk)
  have hu1 := HU1.size
  have d1_0 : u1.cell? ⟨w.heap.size, 0, none⟩ = some (.int .u8 n) := by rw [World.cell?_of_block (a := ⟨w.heap.size, 0, none⟩) (gr1.block w.heap.size (by simp; omega) (by simp [Value.ownBlock]))]; simp [go_sem, *]
  have d1_1 : u1.cell? ⟨w.heap.size, 1, none⟩ = some (.int .i64 a) := by rw [World.cell?_of_block (a := ⟨w.heap.size, 1, none⟩) (gr1.block w.heap.size (by simp; omega) (by simp [Value.ownBlock]))]; simp [go_sem, *]
  have d1_2 : u1.cell? ⟨w.heap.size, 2, none⟩ = some (.int .i64 b) := by rw [World.cell?_of_block (a := ⟨w.heap.size, 2, none⟩) (gr1.block w.heap.size (by simp; omega) (by simp [Value.ownBlock]))]; simp [go_sem, *]
  have d1_3 : u1.cell? ⟨w.heap.size, 3, none⟩ = some (.int .i64 c) := by rw [World.cell?_of_block (a := ⟨w.heap.size, 3, none⟩) (gr1.block w.heap.size (by simp; omega) (by simp [Value.ownBlock]))]; simp [go_sem, *]
  have d1_4 : u1.cell? ⟨w.heap.size, 4, none⟩ = some (.int .i64 i) := by rw [World.cell?_of_block (a := ⟨w.heap.size, 4, none⟩) (gr1.block w.heap.size (by simp; omega) (by simp [Value.ownBlock]))]; simp [go_sem, *]
  have e1_0 : w.heap.size < u1.heap.size := by have := gr1.size; simp at this; omega
  clear gr1
  go_wp2_with fail
  rw [rounds_succ]
  go_wp2_with (go_at_call 37; refine (field_any _ _ _).mono ?_; rintro e w' ⟨rfl, rfl⟩)
  rw [rounds_succ]
  go_wp2_with fail
  refine (sort_own (w.heap.size + 1) _ _ [a] own1 (by omega) (by simp)).mono ?_
  rintro e z1 ⟨rfl, ownS, bS⟩
  have hls : (sortI [a]).length = 1 := by simp [sortI]
  have sS := bS.size
  go_wp2_with fail
  refine (compact_own (w.heap.size + 1) _ _ (sortI [a]) (by rw [hls]; exact ownS) (by rw [hls]; omega)).mono ?_
  rintro e z2 ⟨v, rfl, sl, bC⟩
  go_wp2_with fail
  go_ret
  exact ⟨_, rfl, SlI.mono sl (by omega), (HU1.trans (bS.mono (by omega))).trans (bC.mono (by omega))⟩

set_option maxRecDepth 4000 in
set_option maxHeartbeats 800000 in
theorem reads_ab_2 (n : Nat) (a b c i : Int) (w : World) (hT : Tab w) (hv : vld n a b c i = true) (hn : n < 30) (ho : frd n = ⟨#[65, 66]⟩) (ha : (a != 0) = false) (hb : (b != 0) = true) :
    Calls Tryd.prog 27 #[.agg #[.int .u8 n, .int .i64 a, .int .i64 b, .int .i64 c, .int .i64 i]] w (RdPost w (Lib.compact (sortI [b]))) := by
  obtain ⟨-, -, h2, -, -, -, -⟩ := fmtAt hT n hn
  rw [ho] at h2
  clear ho
  obtain ⟨i0, hi, hz0, hz1, hz2⟩ := info_parts info_int
  have hz := hT.size
  have e0 : (((⟨#[65, 66]⟩ : ByteArray)[0]'(by decide)).toNat : Int) = 65 := rfl
  have e1 : (((⟨#[65, 66]⟩ : ByteArray)[1]'(by decide)).toNat : Int) = 66 := rfl
  have f65 : fieldOff 65 = 1 := rfl
  have f66 : fieldOff 66 = 2 := rfl
  go_enter Tryd.func27, Tryd.ntmps27
  go_wp2_with fail
  refine (valid_any n a b c i _ (Tab.of_below hT (by repeat (first | (with_reducible exact Below.refl _ _) | (with_reducible apply bDrewN) | (with_reducible apply Below.drew) | ((with_reducible apply bSet); (focus first | (simp; done) | (simp; omega) | omega)) | ((with_reducible apply bAlloc); (focus first | (simp; done) | (simp; omega) | omega)))))).mono ?_
  rintro e w1 ⟨rfl, hb1⟩
  have hT1 : Tab w1 := Tab.of_below (Tab.of_below hT (by repeat (first | (with_reducible exact Below.refl _ _) | (with_reducible apply bDrewN) | (with_reducible apply Below.drew) | ((with_reducible apply bSet); (focus first | (simp; done) | (simp; omega) | omega)) | ((with_reducible apply bAlloc); (focus first | (simp; done) | (simp; omega) | omega))))) hb1
  have sz1_0 : w.heap.size < w1.heap.size := by have h := hb1.size; first | (simp at h; omega) | omega
  have c1_0_0 : w1.cell? ⟨w.heap.size, 0, none⟩ = some (.int .u8 n) := by rw [hb1.cell (p := ⟨w.heap.size, 0, none⟩) (by first | (simp; done) | (simp; omega) | omega)]; first | assumption | (simp [go_sem]; done) | (simp [go_sem, *]; done)
  have c1_0_1 : w1.cell? ⟨w.heap.size, 1, none⟩ = some (.int .i64 a) := by rw [hb1.cell (p := ⟨w.heap.size, 1, none⟩) (by first | (simp; done) | (simp; omega) | omega)]; first | assumption | (simp [go_sem]; done) | (simp [go_sem, *]; done)
  have c1_0_2 : w1.cell? ⟨w.heap.size, 2, none⟩ = some (.int .i64 b) := by rw [hb1.cell (p := ⟨w.heap.size, 2, none⟩) (by first | (simp; done) | (simp; omega) | omega)]; first | assumption | (simp [go_sem]; done) | (simp [go_sem, *]; done)
  have c1_0_3 : w1.cell? ⟨w.heap.size, 3, none⟩ = some (.int .i64 c) := by rw [hb1.cell (p := ⟨w.heap.size, 3, none⟩) (by first | (simp; done) | (simp; omega) | omega)]; first | assumption | (simp [go_sem]; done) | (simp [go_sem, *]; done)
  have c1_0_4 : w1.cell? ⟨w.heap.size, 4, none⟩ = some (.int .i64 i) := by rw [hb1.cell (p := ⟨w.heap.size, 4, none⟩) (by first | (simp; done) | (simp; omega) | omega)]; first | assumption | (simp [go_sem]; done) | (simp [go_sem, *]; done)
  have HB1 : Below w.heap.size w w1 := by
    repeat (first | (with_reducible exact Below.refl _ _) | (with_reducible apply bDrewN) | (with_reducible apply Below.drew) | ((with_reducible apply bThen hb1); (focus first | (simp; done) | (simp; omega) | omega)) | ((with_reducible apply bSet); (focus first | (simp; done) | (simp; omega) | omega)) | ((with_reducible apply bAlloc); (focus first | (simp; done) | (simp; omega) | omega)))
  have hsz1 := HB1.size
  clear hb1 
  have t2 : w1.cell? ⟨0, n * 6 + 2, none⟩ = some (.string ⟨#[65, 66]⟩) := by rw [HB1.cell (p := ⟨0, n * 6 + 2, none⟩) hz]; exact h2
  go_wp2_with fail
  refine wp_loop_rounds 3 ?_
  rw [rounds_succ]
  go_wp2_with (go_at_call 37; refine (field_any _ _ _).mono ?_; rintro e w' ⟨rfl, rfl⟩)
  rw [rounds_succ]
  go_wp2_with (first | (go_at_call 37; refine (field_any _ _ _).mono ?_; rintro e w' ⟨rfl, rfl⟩) | (at_builtin; refine wpList_append_own _ rfl _ _ 64 rfl (w.heap.size + 1) 3 i0 (.int .i64 0) 1 8 Tryd.underlying64 hi hz0 hz1 hz2 rfl (by decide) _ 0 [] rfl ⟨rfl, .inl ⟨rfl, rfl⟩⟩ ⟨w1.heap.size, 0, none⟩ 1 1 [.int .i64 b] rfl rfl ?_ ?_ ?_ ?_ ?_ ?_))
  · intro j u hj; have : j = 0 := by (cases j with | zero => rfl | succ j => simp at hj)
    subst this; simp at hj; subst hj; simp [Addr.add, go_sem]
  · simp [Value.oneCell']
  · unfold maxLen; omega
  · omega
  · simp; omega
  intro v1 u1 own1 gr1 _
  try simp only [Nat.zero_add, List.nil_append, List.cons_append] at own1
  have HU1 : Below w.heap.size w u1 := by
    exact (show Below w.heap.size w (w1.alloc _) from by repeat (first | (with_reducible exact Below.refl _ _) | (with_reducible apply bDrewN) | (with_reducible apply Below.drew) | (with_reducible exact HB1) | ((with_reducible apply bSet); (focus first | (simp; done) | (simp; omega) | omega)) | ((with_reducible apply bAlloc); (focus first | (simp; done) | (simp; omega) | omega)))).grown gr1 (by simp; omega) (fun k hk => by simp [Value.ownBlock] at hk)
  have hu1 := HU1.size
  have d1_0 : u1.cell? ⟨w.heap.size, 0, none⟩ = some (.int .u8 n) := by rw [World.cell?_of_block (a := ⟨w.heap.size, 0, none⟩) (gr1.block w.heap.size (by simp; omega) (by simp [Value.ownBlock]))]; simp [go_sem, *]
  have d1_1 : u1.cell? ⟨w.heap.size, 1, none⟩ = some (.int .i64 a) := by rw [World.cell?_of_block (a := ⟨w.heap.size, 1, none⟩) (gr1.block w.heap.size (by simp; omega) (by simp [Value.ownBlock]))]; simp [go_sem, *]
  have d1_2 : u1.cell? ⟨w.heap.size, 2, none⟩ = some (.int .i64 b) := by rw [World.cell?_of_block (a := ⟨w.heap.size, 2, none⟩) (gr1.block w.heap.size (by simp; omega) (by simp [Value.ownBlock]))]; simp [go_sem, *]
  have d1_3 : u1.cell? ⟨w.heap.size, 3, none⟩ = some (.int .i64 c) := by rw [World.cell?_of_block (a := ⟨w.heap.size, 3, none⟩) (gr1.block w.heap.size (by simp; omega) (by simp [Value.ownBlock]))]; simp [go_sem, *]
  have d1_4 : u1.cell? ⟨w.heap.size, 4, none⟩ = some (.int .i64 i) := by rw [World.cell?_of_block (a := ⟨w.heap.size, 4, none⟩) (gr1.block w.heap.size (by simp; omega) (by simp [Value.ownBlock]))]; simp [go_sem, *]
  have e1_0 : w.heap.size < u1.heap.size := by have := gr1.size; simp at this; omega
  clear gr1
  go_wp2_with fail
  rw [rounds_succ]
  go_wp2_with fail
  refine (sort_own (w.heap.size + 1) _ _ [b] own1 (by omega) (by simp)).mono ?_
  rintro e z1 ⟨rfl, ownS, bS⟩
  have hls : (sortI [b]).length = 1 := by simp [sortI]
  have sS := bS.size
  go_wp2_with fail
  refine (compact_own (w.heap.size + 1) _ _ (sortI [b]) (by rw [hls]; exact ownS) (by rw [hls]; omega)).mono ?_
  rintro e z2 ⟨v, rfl, sl, bC⟩
  go_wp2_with fail
  go_ret
  exact ⟨_, rfl, SlI.mono sl (by omega), (HU1.trans (bS.mono (by omega))).trans (bC.mono (by omega))⟩

set_option maxRecDepth 4000 in
set_option maxHeartbeats 800000 in
theorem reads_ab_3 (n : Nat) (a b c i : Int) (w : World) (hT : Tab w) (hv : vld n a b c i = true) (hn : n < 30) (ho : frd n = ⟨#[65, 66]⟩) (ha : (a != 0) = true) (hb : (b != 0) = true) :
    Calls Tryd.prog 27 #[.agg #[.int .u8 n, .int .i64 a, .int .i64 b, .int .i64 c, .int .i64 i]] w (RdPost w (Lib.compact (sortI [a, b]))) := by
  obtain ⟨-, -, h2, -, -, -, -⟩ := fmtAt hT n hn
  rw [ho] at h2
  clear ho
  obtain ⟨i0, hi, hz0, hz1, hz2⟩ := info_parts info_int
  have hz := hT.size
  have e0 : (((⟨#[65, 66]⟩ : ByteArray)[0]'(by decide)).toNat : Int) = 65 := rfl
  have e1 : (((⟨#[65, 66]⟩ : ByteArray)[1]'(by decide)).toNat : Int) = 66 := rfl
  have f65 : fieldOff 65 = 1 := rfl
  have f66 : fieldOff 66 = 2 := rfl
  go_enter Tryd.func27, Tryd.ntmps27
  go_wp2_with fail
  refine (valid_any n a b c i _ (Tab.of_below hT (by repeat (first | (with_reducible exact Below.refl _ _) | (with_reducible apply bDrewN) | (with_reducible apply Below.drew) | ((with_reducible apply bSet); (focus first | (simp; done) | (simp; omega) | omega)) | ((with_reducible apply bAlloc); (focus first | (simp; done) | (simp; omega) | omega)))))).mono ?_
  rintro e w1 ⟨rfl, hb1⟩
  have hT1 : Tab w1 := Tab.of_below (Tab.of_below hT (by repeat (first | (with_reducible exact Below.refl _ _) | (with_reducible apply bDrewN) | (with_reducible apply Below.drew) | ((with_reducible apply bSet); (focus first | (simp; done) | (simp; omega) | omega)) | ((with_reducible apply bAlloc); (focus first | (simp; done) | (simp; omega) | omega))))) hb1
  have sz1_0 : w.heap.size < w1.heap.size := by have h := hb1.size; first | (simp at h; omega) | omega
  have c1_0_0 : w1.cell? ⟨w.heap.size, 0, none⟩ = some (.int .u8 n) := by rw [hb1.cell (p := ⟨w.heap.size, 0, none⟩) (by first | (simp; done) | (simp; omega) | omega)]; first | assumption | (simp [go_sem]; done) | (simp [go_sem, *]; done)
  have c1_0_1 : w1.cell? ⟨w.heap.size, 1, none⟩ = some (.int .i64 a) := by rw [hb1.cell (p := ⟨w.heap.size, 1, none⟩) (by first | (simp; done) | (simp; omega) | omega)]; first | assumption | (simp [go_sem]; done) | (simp [go_sem, *]; done)
  have c1_0_2 : w1.cell? ⟨w.heap.size, 2, none⟩ = some (.int .i64 b) := by rw [hb1.cell (p := ⟨w.heap.size, 2, none⟩) (by first | (simp; done) | (simp; omega) | omega)]; first | assumption | (simp [go_sem]; done) | (simp [go_sem, *]; done)
  have c1_0_3 : w1.cell? ⟨w.heap.size, 3, none⟩ = some (.int .i64 c) := by rw [hb1.cell (p := ⟨w.heap.size, 3, none⟩) (by first | (simp; done) | (simp; omega) | omega)]; first | assumption | (simp [go_sem]; done) | (simp [go_sem, *]; done)
  have c1_0_4 : w1.cell? ⟨w.heap.size, 4, none⟩ = some (.int .i64 i) := by rw [hb1.cell (p := ⟨w.heap.size, 4, none⟩) (by first | (simp; done) | (simp; omega) | omega)]; first | assumption | (simp [go_sem]; done) | (simp [go_sem, *]; done)
  have HB1 : Below w.heap.size w w1 := by
    repeat (first | (with_reducible exact Below.refl _ _) | (with_reducible apply bDrewN) | (with_reducible apply Below.drew) | ((with_reducible apply bThen hb1); (focus first | (simp; done) | (simp; omega) | omega)) | ((with_reducible apply bSet); (focus first | (simp; done) | (simp; omega) | omega)) | ((with_reducible apply bAlloc); (focus first | (simp; done) | (simp; omega) | omega)))
  have hsz1 := HB1.size
  clear hb1 
  have t2 : w1.cell? ⟨0, n * 6 + 2, none⟩ = some (.string ⟨#[65, 66]⟩) := by rw [HB1.cell (p := ⟨0, n * 6 + 2, none⟩) hz]; exact h2
  go_wp2_with fail
  refine wp_loop_rounds 3 ?_
  rw [rounds_succ]
  go_wp2_with (first | (go_at_call 37; refine (field_any _ _ _).mono ?_; rintro e w' ⟨rfl, rfl⟩) | (at_builtin; refine wpList_append_own _ rfl _ _ 64 rfl (w.heap.size + 1) 3 i0 (.int .i64 0) 1 8 Tryd.underlying64 hi hz0 hz1 hz2 rfl (by decide) _ 0 [] rfl ⟨rfl, .inl ⟨rfl, rfl⟩⟩ ⟨w1.heap.size, 0, none⟩ 1 1 [.int .i64 a] rfl rfl ?_ ?_ ?_ ?_ ?_ ?_))
  · intro j u hj; have : j = 0 := by (cases j with | zero => rfl | succ j => simp at hj)
    subst this; simp at hj; subst hj; simp [Addr.add, go_sem]
  · simp [Value.oneCell']
  · unfold maxLen; omega
  · omega
  · simp; omega
  intro v1 u1 own1 gr1 _
  try simp only [Nat.zero_add, List.nil_append, List.cons_append] at own1
  have HU1 : Below w.heap.size w u1 := by
    exact (show Below w.heap.size w (w1.alloc _) from by repeat (first | (with_reducible exact Below.refl _ _) | (with_reducible apply bDrewN) | (with_reducible apply Below.drew) | (with_reducible exact HB1) | ((with_reducible apply bSet); (focus first | (simp; done) | (simp; omega) | omega)) | ((with_reducible apply bAlloc); (focus first | (simp; done) | (simp; omega) | omega)))).grown gr1 (by simp; omega) (fun k hk => by simp [Value.ownBlock] at hk)
  have hu1 := HU1.size
  have d1_0 : u1.cell? ⟨w.heap.size, 0, none⟩ = some (.int .u8 n) := by rw [World.cell?_of_block (a := ⟨w.heap.size, 0, none⟩) (gr1.block w.heap.size (by simp; omega) (by simp [Value.ownBlock]))]; simp [go_sem, *]
  have d1_1 : u1.cell? ⟨w.heap.size, 1, none⟩ = some (.int .i64 a) := by rw [World.cell?_of_block (a := ⟨w.heap.size, 1, none⟩) (gr1.block w.heap.size (by simp; omega) (by simp [Value.ownBlock]))]; simp [go_sem, *]
  have d1_2 : u1.cell? ⟨w.heap.size, 2, none⟩ = some (.int .i64 b) := by rw [World.cell?_of_block (a := ⟨w.heap.size, 2, none⟩) (gr1.block w.heap.size (by simp; omega) (by simp [Value.ownBlock]))]; simp [go_sem, *]
  have d1_3 : u1.cell? ⟨w.heap.size, 3, none⟩ = some (.int .i64 c) := by rw [World.cell?_of_block (a := ⟨w.heap.size, 3, none⟩) (gr1.block w.heap.size (by simp; omega) (by simp [Value.ownBlock]))]; simp [go_sem, *]
  have d1_4 : u1.cell? ⟨w.heap.size, 4, none⟩ = some (.int .i64 i) := by rw [World.cell?_of_block (a := ⟨w.heap.size, 4, none⟩) (gr1.block w.heap.size (by simp; omega) (by simp [Value.ownBlock]))]; simp [go_sem, *]
  have e1_0 : w.heap.size < u1.heap.size := by have := gr1.size; simp at this; omega
  clear gr1
  go_wp2_with fail
  rw [rounds_succ]
  go_wp2_with (first | (go_at_call 37; refine (field_any _ _ _).mono ?_; rintro e w' ⟨rfl, rfl⟩) | (at_builtin; refine wpList_append_own _ rfl _ _ 64 rfl (w.heap.size + 1) 3 i0 (.int .i64 0) 1 8 Tryd.underlying64 hi hz0 hz1 hz2 rfl (by decide) _ 1 [.int .i64 a] rfl (own1.alloc _) ⟨u1.heap.size, 0, none⟩ 1 1 [.int .i64 b] rfl rfl ?_ ?_ ?_ ?_ ?_ ?_))
  · intro j u hj; have : j = 0 := by (cases j with | zero => rfl | succ j => simp at hj)
    subst this; simp at hj; subst hj; simp [Addr.add, go_sem]
  · simp [Value.oneCell']
  · unfold maxLen; omega
  · omega
  · simp; omega
  intro v2 u2 own2 gr2 _
  try simp only [Nat.zero_add, List.nil_append, List.cons_append] at own2
  have HU2 : Below w.heap.size w u2 := by
    exact (show Below w.heap.size w (u1.alloc _) from by repeat (first | (with_reducible exact Below.refl _ _) | (with_reducible apply bDrewN) | (with_reducible apply Below.drew) | (with_reducible exact HU1) | ((with_reducible apply bSet); (focus first | (simp; done) | (simp; omega) | omega)) | ((with_reducible apply bAlloc); (focus first | (simp; done) | (simp; omega) | omega)))).grown gr2 (by simp; omega) (fun k hk => by rcases own1.2 with ⟨h, _⟩ | ⟨g, _, _, h, hg, _⟩ <;> (rw [h] at hk; simp [Value.ownBlock] at hk); omega)
  have hu2 := HU2.size
  have d2_0 : u2.cell? ⟨w.heap.size, 0, none⟩ = some (.int .u8 n) := by rw [World.cell?_of_block (a := ⟨w.heap.size, 0, none⟩) (gr2.block w.heap.size (by simp; omega) (row_ne_low own1 (by omega)))]; simp [go_sem, *]
  have d2_1 : u2.cell? ⟨w.heap.size, 1, none⟩ = some (.int .i64 a) := by rw [World.cell?_of_block (a := ⟨w.heap.size, 1, none⟩) (gr2.block w.heap.size (by simp; omega) (row_ne_low own1 (by omega)))]; simp [go_sem, *]
  have d2_2 : u2.cell? ⟨w.heap.size, 2, none⟩ = some (.int .i64 b) := by rw [World.cell?_of_block (a := ⟨w.heap.size, 2, none⟩) (gr2.block w.heap.size (by simp; omega) (row_ne_low own1 (by omega)))]; simp [go_sem, *]
  have d2_3 : u2.cell? ⟨w.heap.size, 3, none⟩ = some (.int .i64 c) := by rw [World.cell?_of_block (a := ⟨w.heap.size, 3, none⟩) (gr2.block w.heap.size (by simp; omega) (row_ne_low own1 (by omega)))]; simp [go_sem, *]
  have d2_4 : u2.cell? ⟨w.heap.size, 4, none⟩ = some (.int .i64 i) := by rw [World.cell?_of_block (a := ⟨w.heap.size, 4, none⟩) (gr2.block w.heap.size (by simp; omega) (row_ne_low own1 (by omega)))]; simp [go_sem, *]
  have e2_0 : w.heap.size < u2.heap.size := by have := gr2.size; simp at this; omega
  clear gr2
  go_wp2_with fail
  rw [rounds_succ]
  go_wp2_with fail
  refine (sort_own (w.heap.size + 1) _ _ [a, b] own2 (by omega) (by simp)).mono ?_
  rintro e z1 ⟨rfl, ownS, bS⟩
  have hls : (sortI [a, b]).length = 2 := by simp [sortI]
  have sS := bS.size
  go_wp2_with fail
  refine (compact_own (w.heap.size + 1) _ _ (sortI [a, b]) (by rw [hls]; exact ownS) (by rw [hls]; omega)).mono ?_
  rintro e z2 ⟨v, rfl, sl, bC⟩
  go_wp2_with fail
  go_ret
  exact ⟨_, rfl, SlI.mono sl (by omega), (HU2.trans (bS.mono (by omega))).trans (bC.mono (by omega))⟩

set_option maxRecDepth 4000 in
set_option maxHeartbeats 800000 in
theorem reads_bc_0 (n : Nat) (a b c i : Int) (w : World) (hT : Tab w) (hv : vld n a b c i = true) (hn : n < 30) (ho : frd n = ⟨#[66, 67]⟩) (hb : (b != 0) = false) (hc : (c != 0) = false) :
    Calls Tryd.prog 27 #[.agg #[.int .u8 n, .int .i64 a, .int .i64 b, .int .i64 c, .int .i64 i]] w (RdPost w (Lib.compact (sortI []))) := by
  obtain ⟨-, -, h2, -, -, -, -⟩ := fmtAt hT n hn
  rw [ho] at h2
  clear ho
  obtain ⟨i0, hi, hz0, hz1, hz2⟩ := info_parts info_int
  have hz := hT.size
  have e0 : (((⟨#[66, 67]⟩ : ByteArray)[0]'(by decide)).toNat : Int) = 66 := rfl
  have e1 : (((⟨#[66, 67]⟩ : ByteArray)[1]'(by decide)).toNat : Int) = 67 := rfl
  have f66 : fieldOff 66 = 2 := rfl
  have f67 : fieldOff 67 = 3 := rfl
  go_enter Tryd.func27, Tryd.ntmps27
  go_wp2_with fail
  refine (valid_any n a b c i _ (Tab.of_below hT (by repeat (first | (with_reducible exact Below.refl _ _) | (with_reducible apply bDrewN) | (with_reducible apply Below.drew) | ((with_reducible apply bSet); (focus first | (simp; done) | (simp; omega) | omega)) | ((with_reducible apply bAlloc); (focus first | (simp; done) | (simp; omega) | omega)))))).mono ?_
  rintro e w1 ⟨rfl, hb1⟩
  have hT1 : Tab w1 := Tab.of_below (Tab.of_below hT (by repeat (first | (with_reducible exact Below.refl _ _) | (with_reducible apply bDrewN) | (with_reducible apply Below.drew) | ((with_reducible apply bSet); (focus first | (simp; done) | (simp; omega) | omega)) | ((with_reducible apply bAlloc); (focus first | (simp; done) | (simp; omega) | omega))))) hb1
  have sz1_0 : w.heap.size < w1.heap.size := by have h := hb1.size; first | (simp at h; omega) | omega
  have c1_0_0 : w1.cell? ⟨w.heap.size, 0, none⟩ = some (.int .u8 n) := by rw [hb1.cell (p := ⟨w.heap.size, 0, none⟩) (by first | (simp; done) | (simp; omega) | omega)]; first | assumption | (simp [go_sem]; done) | (simp [go_sem, *]; done)
  have c1_0_1 : w1.cell? ⟨w.heap.size, 1, none⟩ = some (.int .i64 a) := by rw [hb1.cell (p := ⟨w.heap.size, 1, none⟩) (by first | (simp; done) | (simp; omega) | omega)]; first | assumption | (simp [go_sem]; done) | (simp [go_sem, *]; done)
  have c1_0_2 : w1.cell? ⟨w.heap.size, 2, none⟩ = some (.int .i64 b) := by rw [hb1.cell (p := ⟨w.heap.size, 2, none⟩) (by first | (simp; done) | (simp; omega) | omega)]; first | assumption | (simp [go_sem]; done) | (simp [go_sem, *]; done)
  have c1_0_3 : w1.cell? ⟨w.heap.size, 3, none⟩ = some (.int .i64 c) := by rw [hb1.cell (p := ⟨w.heap.size, 3, none⟩) (by first | (simp; done) | (simp; omega) | omega)]; first | assumption | (simp [go_sem]; done) | (simp [go_sem, *]; done)
  have c1_0_4 : w1.cell? ⟨w.heap.size, 4, none⟩ = some (.int .i64 i) := by rw [hb1.cell (p := ⟨w.heap.size, 4, none⟩) (by first | (simp; done) | (simp; omega) | omega)]; first | assumption | (simp [go_sem]; done) | (simp [go_sem, *]; done)
  have HB1 : Below w.heap.size w w1 := by
    repeat (first | (with_reducible exact Below.refl _ _) | (with_reducible apply bDrewN) | (with_reducible apply Below.drew) | ((with_reducible apply bThen hb1); (focus first | (simp; done) | (simp; omega) | omega)) | ((with_reducible apply bSet); (focus first | (simp; done) | (simp; omega) | omega)) | ((with_reducible apply bAlloc); (focus first | (simp; done) | (simp; omega) | omega)))
  have hsz1 := HB1.size
  clear hb1 
  have t2 : w1.cell? ⟨0, n * 6 + 2, none⟩ = some (.string ⟨#[66, 67]⟩) := by rw [HB1.cell (p := ⟨0, n * 6 + 2, none⟩) hz]; exact h2
  go_wp2_with fail
  refine wp_loop_rounds 3 ?_
  rw [rounds_succ]
  go_wp2_with (go_at_call 37; refine (field_any _ _ _).mono ?_; rintro e w' ⟨rfl, rfl⟩)
  rw [rounds_succ]
  go_wp2_with (go_at_call 37; refine (field_any _ _ _).mono ?_; rintro e w' ⟨rfl, rfl⟩)
  rw [rounds_succ]
  go_wp2_with fail
  refine (sort_own (w.heap.size + 1) _ _ [] ⟨rfl, .inl ⟨rfl, rfl⟩⟩ (by omega) (by simp)).mono ?_
  rintro e z1 ⟨rfl, ownS, bS⟩
  have hls : (sortI []).length = 0 := by simp [sortI]
  have sS := bS.size
  go_wp2_with fail
  refine (compact_own (w.heap.size + 1) _ _ (sortI []) (by rw [hls]; exact ownS) (by rw [hls]; omega)).mono ?_
  rintro e z2 ⟨v, rfl, sl, bC⟩
  go_wp2_with fail
  go_ret
  exact ⟨_, rfl, SlI.mono sl (by omega), (HB1.trans (bS.mono (by omega))).trans (bC.mono (by omega))⟩

set_option maxRecDepth 4000 in
set_option maxHeartbeats 800000 in
theorem reads_bc_1 (n : Nat) (a b c i : Int) (w : World) (hT : Tab w) (hv : vld n a b c i = true) (hn : n < 30) (ho : frd n = ⟨#[66, 67]⟩) (hb : (b != 0) = true) (hc : (c != 0) = false) :
    Calls Tryd.prog 27 #[.agg #[.int .u8 n, .int .i64 a, .int .i64 b, .int .i64 c, .int .i64 i]] w (RdPost w (Lib.compact (sortI [b]))) := by
  obtain ⟨-, -, h2, -, -, -, -⟩ := fmtAt hT n hn
  rw [ho] at h2
  clear ho
  obtain ⟨i0, hi, hz0, hz1, hz2⟩ := info_parts info_int
  have hz := hT.size
  have e0 : (((⟨#[66, 67]⟩ : ByteArray)[0]'(by decide)).toNat : Int) = 66 := rfl
  have e1 : (((⟨#[66, 67]⟩ : ByteArray)[1]'(by decide)).toNat : Int) = 67 := rfl
  have f66 : fieldOff 66 = 2 := rfl
  have f67 : fieldOff 67 = 3 := rfl
  go_enter Tryd.func27, Tryd.ntmps27
  go_wp2_with fail
  refine (valid_any n a b c i _ (Tab.of_below hT (by repeat (first | (with_reducible exact Below.refl _ _) | (with_reducible apply bDrewN) | (with_reducible apply Below.drew) | ((with_reducible apply bSet); (focus first | (simp; done) | (simp; omega) | omega)) | ((with_reducible apply bAlloc); (focus first | (simp; done) | (simp; omega) | omega)))))).mono ?_
  rintro e w1 ⟨rfl, hb1⟩
  have hT1 : Tab w1 := Tab.of_below (Tab.of_below hT (by repeat (first | (with_reducible exact Below.refl _ _) | (with_reducible apply bDrewN) | (with_reducible apply Below.drew) | ((with_reducible apply bSet); (focus first | (simp; done) | (simp; omega) | omega)) | ((with_reducible apply bAlloc); (focus first | (simp; done) | (simp; omega) | omega))))) hb1
  have sz1_0 : w.heap.size < w1.heap.size := by have h := hb1.size; first | (simp at h; omega) | omega
  have c1_0_0 : w1.cell? ⟨w.heap.size, 0, none⟩ = some (.int .u8 n) := by rw [hb1.cell (p := ⟨w.heap.size, 0, none⟩) (by first | (simp; done) | (simp; omega) | omega)]; first | assumption | (simp [go_sem]; done) | (simp [go_sem, *]; done)
  have c1_0_1 : w1.cell? ⟨w.heap.size, 1, none⟩ = some (.int .i64 a) := by rw [hb1.cell (p := ⟨w.heap.size, 1, none⟩) (by first | (simp; done) | (simp; omega) | omega)]; first | assumption | (simp [go_sem]; done) | (simp [go_sem, *]; done)
  have c1_0_2 : w1.cell? ⟨w.heap.size, 2, none⟩ = some (.int .i64 b) := by rw [hb1.cell (p := ⟨w.heap.size, 2, none⟩) (by first | (simp; done) | (simp; omega) | omega)]; first | assumption | (simp [go_sem]; done) | (simp [go_sem, *]; done)
  have c1_0_3 : w1.cell? ⟨w.heap.size, 3, none⟩ = some (.int .i64 c) := by rw [hb1.cell (p := ⟨w.heap.size, 3, none⟩) (by first | (simp; done) | (simp; omega) | omega)]; first | assumption | (simp [go_sem]; done) | (simp [go_sem, *]; done)
  have c1_0_4 : w1.cell? ⟨w.heap.size, 4, none⟩ = some (.int .i64 i) := by rw [hb1.cell (p := ⟨w.heap.size, 4, none⟩) (by first | (simp; done) | (simp; omega) | omega)]; first | assumption | (simp [go_sem]; done) | (simp [go_sem, *]; done)
  have HB1 : Below w.heap.size w w1 := by
    repeat (first | (with_reducible exact Below.refl _ _) | (with_reducible apply bDrewN) | (with_reducible apply Below.drew) | ((with_reducible apply bThen hb1); (focus first | (simp; done) | (simp; omega) | omega)) | ((with_reducible apply bSet); (focus first | (simp; done) | (simp; omega) | omega)) | ((with_reducible apply bAlloc); (focus first | (simp; done) | (simp; omega) | omega)))
  have hsz1 := HB1.size
  clear hb1 
  have t2 : w1.cell? ⟨0, n * 6 + 2, none⟩ = some (.string ⟨#[66, 67]⟩) := by rw [HB1.cell (p := ⟨0, n * 6 + 2, none⟩) hz]; exact h2
  go_wp2_with fail
  refine wp_loop_rounds 3 ?_
  rw [rounds_succ]
  go_wp2_with (first | (go_at_call 37; refine (field_any _ _ _).mono ?_; rintro e w' ⟨rfl, rfl⟩) | (at_builtin; refine wpList_append_own _ rfl _ _ 64 rfl (w.heap.size + 1) 3 i0 (.int .i64 0) 1 8 Tryd.underlying64 hi hz0 hz1 hz2 rfl (by decide) _ 0 [] rfl ⟨rfl, .inl ⟨rfl, rfl⟩⟩ ⟨w1.heap.size, 0, none⟩ 1 1 [.int .i64 b] rfl rfl ?_ ?_ ?_ ?_ ?_ ?_))
  · intro j u hj; have : j = 0 := by (cases j with | zero => rfl | succ j => simp at hj)
    subst this; simp at hj; subst hj; simp [Addr.add, go_sem]
  · simp [Value.oneCell']
  · unfold maxLen; omega
  · omega
  · simp; omega
  intro v1 u1 own1 gr1 _
  try simp only [Nat.zero_add, List.nil_append, List.cons_append] at own1
  have HU1 : Below w.heap.size w u1 := by
    exact (show Below w.heap.size w (w1.alloc _) from by repeat (first | (with_reducible exact Below.refl _ _) | (with_reducible apply bDrewN) | (with_reducible apply Below.drew) | (with_reducible exact HB1) | ((with_reducible apply bSet); (focus first | (simp; done) | (simp; omega) | omega)) | ((with_reducible apply bAlloc); (focus first | (simp; done) | (simp; omega) | omega)))).grown gr1 (by simp; omega) (fun k hk => by simp [Value.ownBlock] at hk)
  have hu1 := HU1.size
  have d1_0 : u1.cell? ⟨w.heap.size, 0, none⟩ = some (.int .u8 n) := by rw [World.cell?_of_block (a := ⟨w.heap.size, 0, none⟩) (gr1.block w.heap.size (by simp; omega) (by simp [Value.ownBlock]))]; simp [go_sem, *]
  have d1_1 : u1.cell? ⟨w.heap.size, 1, none⟩ = some (.int .i64 a) := by rw [World.cell?_of_block (a := ⟨w.heap.size, 1, none⟩) (gr1.block w.heap.size (by simp; omega) (by simp [Value.ownBlock]))]; simp [go_sem, *]
  have d1_2 : u1.cell? ⟨w.heap.size, 2, none⟩ = some (.int .i64 b) := by rw [World.cell?_of_block (a := ⟨w.heap.size, 2, none⟩) (gr1.block w.heap.size (by simp; omega) (by simp [Value.ownBlock]))]; simp [go_sem, *]
  have d1_3 : u1.cell? ⟨w.heap.size, 3, none⟩ = some (.int .i64 c) := by rw [World.cell?_of_block (a := ⟨w.heap.size, 3, none⟩) (gr1.block w.heap.size (by simp; omega) (by simp [Value.ownBlock]))]; simp [go_sem, *]
  have d1_4 : u1.cell? ⟨w.heap.size, 4, none⟩ = some (.int .i64 i) := by rw [World.cell?_of_block (a := ⟨w.heap.size, 4, none⟩) (gr1.block w.heap.size (by simp; omega) (by simp [Value.ownBlock]))]; simp [go_sem, *]
  have e1_0 : w.heap.size < u1.heap.size := by have := gr1.size; simp at this; omega
  clear gr1
  go_wp2_with fail
  rw [rounds_succ]
  go_wp2_with (go_at_call 37; refine (field_any _ _ _).mono ?_; rintro e w' ⟨rfl, rfl⟩)
  rw [rounds_succ]
  go_wp2_with fail
  refine (sort_own (w.heap.size + 1) _ _ [b] own1 (by omega) (by simp)).mono ?_
  rintro e z1 ⟨rfl, ownS, bS⟩
  have hls : (sortI [b]).length = 1 := by simp [sortI]
  have sS := bS.size
  go_wp2_with fail
  refine (compact_own (w.heap.size + 1) _ _ (sortI [b]) (by rw [hls]; exact ownS) (by rw [hls]; omega)).mono ?_
  rintro e z2 ⟨v, rfl, sl, bC⟩
  go_wp2_with fail
  go_ret
  exact ⟨_, rfl, SlI.mono sl (by omega), (HU1.trans (bS.mono (by omega))).trans (bC.mono (by omega))⟩

set_option maxRecDepth 4000 in
set_option maxHeartbeats 800000 in
theorem reads_bc_2 (n : Nat) (a b c i : Int) (w : World) (hT : Tab w) (hv : vld n a b c i = true) (hn : n < 30) (ho : frd n = ⟨#[66, 67]⟩) (hb : (b != 0) = false) (hc : (c != 0) = true) :
    Calls Tryd.prog 27 #[.agg #[.int .u8 n, .int .i64 a, .int .i64 b, .int .i64 c, .int .i64 i]] w (RdPost w (Lib.compact (sortI [c]))) := by
  obtain ⟨-, -, h2, -, -, -, -⟩ := fmtAt hT n hn
  rw [ho] at h2
  clear ho
  obtain ⟨i0, hi, hz0, hz1, hz2⟩ := info_parts info_int
  have hz := hT.size
  have e0 : (((⟨#[66, 67]⟩ : ByteArray)[0]'(by decide)).toNat : Int) = 66 := rfl
  have e1 : (((⟨#[66, 67]⟩ : ByteArray)[1]'(by decide)).toNat : Int) = 67 := rfl
  have f66 : fieldOff 66 = 2 := rfl
  have f67 : fieldOff 67 = 3 := rfl
  go_enter Tryd.func27, Tryd.ntmps27
  go_wp2_with fail
  refine (valid_any n a b c i _ (Tab.of_below hT (by repeat (first | (with_reducible exact Below.refl _ _) | (with_reducible apply bDrewN) | (with_reducible apply Below.drew) | ((with_reducible apply bSet); (focus first | (simp; done) | (simp; omega) | omega)) | ((with_reducible apply bAlloc); (focus first | (simp; done) | (simp; omega) | omega)))))).mono ?_
  rintro e w1 ⟨rfl, hb1⟩
  have hT1 : Tab w1 := Tab.of_below (Tab.of_below hT (by repeat (first | (with_reducible exact Below.refl _ _) | (with_reducible apply bDrewN) | (with_reducible apply Below.drew) | ((with_reducible apply bSet); (focus first | (simp; done) | (simp; omega) | omega)) | ((with_reducible apply bAlloc); (focus first | (simp; done) | (simp; omega) | omega))))) hb1
  have sz1_0 : w.heap.size < w1.heap.size := by have h := hb1.size; first | (simp at h; omega) | omega
  have c1_0_0 : w1.cell? ⟨w.heap.size, 0, none⟩ = some (.int .u8 n) := by rw [hb1.cell (p := ⟨w.heap.size, 0, none⟩) (by first | (simp; done) | (simp; omega) | omega)]; first | assumption | (simp [go_sem]; done) | (simp [go_sem, *]; done)
  have c1_0_1 : w1.cell? ⟨w.heap.size, 1, none⟩ = some (.int .i64 a) := by rw [hb1.cell (p := ⟨w.heap.size, 1, none⟩) (by first | (simp; done) | (simp; omega) | omega)]; first | assumption | (simp [go_sem]; done) | (simp [go_sem, *]; done)
  have c1_0_2 : w1.cell? ⟨w.heap.size, 2, none⟩ = some (.int .i64 b) := by rw [hb1.cell (p := ⟨w.heap.size, 2, none⟩) (by first | (simp; done) | (simp; omega) | omega)]; first | assumption | (simp [go_sem]; done) | (simp [go_sem, *]; done)
  have c1_0_3 : w1.cell? ⟨w.heap.size, 3, none⟩ = some (.int .i64 c) := by rw [hb1.cell (p := ⟨w.heap.size, 3, none⟩) (by first | (simp; done) | (simp; omega) | omega)]; first | assumption | (simp [go_sem]; done) | (simp [go_sem, *]; done)
  have c1_0_4 : w1.cell? ⟨w.heap.size, 4, none⟩ = some (.int .i64 i) := by rw [hb1.cell (p := ⟨w.heap.size, 4, none⟩) (by first | (simp; done) | (simp; omega) | omega)]; first | assumption | (simp [go_sem]; done) | (simp [go_sem, *]; done)
  have HB1 : Below w.heap.size w w1 := by
    repeat (first | (with_reducible exact Below.refl _ _) | (with_reducible apply bDrewN) | (with_reducible apply Below.drew) | ((with_reducible apply bThen hb1); (focus first | (simp; done) | (simp; omega) | omega)) | ((with_reducible apply bSet); (focus first | (simp; done) | (simp; omega) | omega)) | ((with_reducible apply bAlloc); (focus first | (simp; done) | (simp; omega) | omega)))
  have hsz1 := HB1.size
  clear hb1 
  have t2 : w1.cell? ⟨0, n * 6 + 2, none⟩ = some (.string ⟨#[66, 67]⟩) := by rw [HB1.cell (p := ⟨0, n * 6 + 2, none⟩) hz]; exact h2
  go_wp2_with fail
  refine wp_loop_rounds 3 ?_
  rw [rounds_succ]
  go_wp2_with (go_at_call 37; refine (field_any _ _ _).mono ?_; rintro e w' ⟨rfl, rfl⟩)
  rw [rounds_succ]
  go_wp2_with (first | (go_at_call 37; refine (field_any _ _ _).mono ?_; rintro e w' ⟨rfl, rfl⟩) | (at_builtin; refine wpList_append_own _ rfl _ _ 64 rfl (w.heap.size + 1) 3 i0 (.int .i64 0) 1 8 Tryd.underlying64 hi hz0 hz1 hz2 rfl (by decide) _ 0 [] rfl ⟨rfl, .inl ⟨rfl, rfl⟩⟩ ⟨w1.heap.size, 0, none⟩ 1 1 [.int .i64 c] rfl rfl ?_ ?_ ?_ ?_ ?_ ?_))
  · intro j u hj; have : j = 0 := by (cases j with | zero => rfl | succ j => simp at hj)
    subst this; simp at hj; subst hj; simp [Addr.add, go_sem]
  · simp [Value.oneCell']
  · unfold maxLen; omega
  · omega
  · simp; omega
  intro v1 u1 own1 gr1 _
  try simp only [Nat.zero_add, List.nil_append, List.cons_append] at own1
  have HU1 : Below w.heap.size w u1 := by
    exact (show Below w.heap.size w (w1.alloc _) from by repeat (first | (with_reducible exact Below.refl _ _) | (with_reducible apply bDrewN) | (with_reducible apply Below.drew) | (with_reducible exact HB1) | ((with_reducible apply bSet); (focus first | (simp; done) | (simp; omega) | omega)) | ((with_reducible apply bAlloc); (focus first | (simp; done) | (simp; omega) | omega)))).grown gr1 (by simp; omega) (fun k hk => by simp [Value.ownBlock] at hk)
  have hu1 := HU1.size
  have d1_0 : u1.cell? ⟨w.heap.size, 0, none⟩ = some (.int .u8 n) := by rw [World.cell?_of_block (a := ⟨w.heap.size, 0, none⟩) (gr1.block w.heap.size (by simp; omega) (by simp [Value.ownBlock]))]; simp [go_sem, *]
  have d1_1 : u1.cell? ⟨w.heap.size, 1, none⟩ = some (.int .i64 a) := by rw [World.cell?_of_block (a := ⟨w.heap.size, 1, none⟩) (gr1.block w.heap.size (by simp; omega) (by simp [Value.ownBlock]))]; simp [go_sem, *]
  have d1_2 : u1.cell? ⟨w.heap.size, 2, none⟩ = some (.int .i64 b) := by rw [World.cell?_of_block (a := ⟨w.heap.size, 2, none⟩) (gr1.block w.heap.size (by simp; omega) (by simp [Value.ownBlock]))]; simp [go_sem, *]
  have d1_3 : u1.cell? ⟨w.heap.size, 3, none⟩ = some (.int .i64 c) := by rw [World.cell?_of_block (a := ⟨w.heap.size, 3, none⟩) (gr1.block w.heap.size (by simp; omega) (by simp [Value.ownBlock]))]; simp [go_sem, *]
  have d1_4 : u1.cell? ⟨w.heap.size, 4, none⟩ = some (.int .i64 i) := by rw [World.cell?_of_block (a := ⟨w.heap.size, 4, none⟩) (gr1.block w.heap.size (by simp; omega) (by simp [Value.ownBlock]))]; simp [go_sem, *]
  have e1_0 : w.heap.size < u1.heap.size := by have := gr1.size; simp at this; omega
  clear gr1
  go_wp2_with fail
  rw [rounds_succ]
  go_wp2_with fail
  refine (sort_own (w.heap.size + 1) _ _ [c] own1 (by omega) (by simp)).mono ?_
  rintro e z1 ⟨rfl, ownS, bS⟩
  have hls : (sortI [c]).length = 1 := by simp [sortI]
  have sS := bS.size
  go_wp2_with fail
  refine (compact_own (w.heap.size + 1) _ _ (sortI [c]) (by rw [hls]; exact ownS) (by rw [hls]; omega)).mono ?_
  rintro e z2 ⟨v, rfl, sl, bC⟩
  go_wp2_with fail
  go_ret
  exact ⟨_, rfl, SlI.mono sl (by omega), (HU1.trans (bS.mono (by omega))).trans (bC.mono (by omega))⟩

set_option maxRecDepth 4000 in
set_option maxHeartbeats 800000 in
theorem reads_bc_3 (n : Nat) (a b c i : Int) (w : World) (hT : Tab w) (hv : vld n a b c i = true) (hn : n < 30) (ho : frd n = ⟨#[66, 67]⟩) (hb : (b != 0) = true) (hc : (c != 0) = true) :
    Calls Tryd.prog 27 #[.agg #[.int .u8 n, .int .i64 a, .int .i64 b, .int .i64 c, .int .i64 i]] w (RdPost w (Lib.compact (sortI [b, c]))) := by
  obtain ⟨-, -, h2, -, -, -, -⟩ := fmtAt hT n hn
  rw [ho] at h2
  clear ho
  obtain ⟨i0, hi, hz0, hz1, hz2⟩ := info_parts info_int
  have hz := hT.size
  have e0 : (((⟨#[66, 67]⟩ : ByteArray)[0]'(by decide)).toNat : Int) = 66 := rfl
  have e1 : (((⟨#[66, 67]⟩ : ByteArray)[1]'(by decide)).toNat : Int) = 67 := rfl
  have f66 : fieldOff 66 = 2 := rfl
  have f67 : fieldOff 67 = 3 := rfl
  go_enter Tryd.func27, Tryd.ntmps27
  go_wp2_with fail
  refine (valid_any n a b c i _ (Tab.of_below hT (by repeat (first | (with_reducible exact Below.refl _ _) | (with_reducible apply bDrewN) | (with_reducible apply Below.drew) | ((with_reducible apply bSet); (focus first | (simp; done) | (simp; omega) | omega)) | ((with_reducible apply bAlloc); (focus first | (simp; done) | (simp; omega) | omega)))))).mono ?_
  rintro e w1 ⟨rfl, hb1⟩
  have hT1 : Tab w1 := Tab.of_below (Tab.of_below hT (by repeat (first | (with_reducible exact Below.refl _ _) | (with_reducible apply bDrewN) | (with_reducible apply Below.drew) | ((with_reducible apply bSet); (focus first | (simp; done) | (simp; omega) | omega)) | ((with_reducible apply bAlloc); (focus first | (simp; done) | (simp; omega) | omega))))) hb1
  have sz1_0 : w.heap.size < w1.heap.size := by have h := hb1.size; first | (simp at h; omega) | omega
  have c1_0_0 : w1.cell? ⟨w.heap.size, 0, none⟩ = some (.int .u8 n) := by rw [hb1.cell (p := ⟨w.heap.size, 0, none⟩) (by first | (simp; done) | (simp; omega) | omega)]; first | assumption | (simp [go_sem]; done) | (simp [go_sem, *]; done)
  have c1_0_1 : w1.cell? ⟨w.heap.size, 1, none⟩ = some (.int .i64 a) := by rw [hb1.cell (p := ⟨w.heap.size, 1, none⟩) (by first | (simp; done) | (simp; omega) | omega)]; first | assumption | (simp [go_sem]; done) | (simp [go_sem, *]; done)
  have c1_0_2 : w1.cell? ⟨w.heap.size, 2, none⟩ = some (.int .i64 b) := by rw [hb1.cell (p := ⟨w.heap.size, 2, none⟩) (by first | (simp; done) | (simp; omega) | omega)]; first | assumption | (simp [go_sem]; done) | (simp [go_sem, *]; done)
  have c1_0_3 : w1.cell? ⟨w.heap.size, 3, none⟩ = some (.int .i64 c) := by rw [hb1.cell (p := ⟨w.heap.size, 3, none⟩) (by first | (simp; done) | (simp; omega) | omega)]; first | assumption | (simp [go_sem]; done) | (simp [go_sem, *]; done)
  have c1_0_4 : w1.cell? ⟨w.heap.size, 4, none⟩ = some (.int .i64 i) := by rw [hb1.cell (p := ⟨w.heap.size, 4, none⟩) (by first | (simp; done) | (simp; omega) | omega)]; first | assumption | (simp [go_sem]; done) | (simp [go_sem, *]; done)
  have HB1 : Below w.heap.size w w1 := by
    repeat (first | (with_reducible exact Below.refl _ _) | (with_reducible apply bDrewN) | (with_reducible apply Below.drew) | ((with_reducible apply bThen hb1); (focus first | (simp; done) | (simp; omega) | omega)) | ((with_reducible apply bSet); (focus first | (simp; done) | (simp; omega) | omega)) | ((with_reducible apply bAlloc); (focus first | (simp; done) | (simp; omega) | omega)))
  have hsz1 := HB1.size
  clear hb1 
  have t2 : w1.cell? ⟨0, n * 6 + 2, none⟩ = some (.string ⟨#[66, 67]⟩) := by rw [HB1.cell (p := ⟨0, n * 6 + 2, none⟩) hz]; exact h2
  go_wp2_with fail
  refine wp_loop_rounds 3 ?_
  rw [rounds_succ]
  go_wp2_with (first | (go_at_call 37; refine (field_any _ _ _).mono ?_; rintro e w' ⟨rfl, rfl⟩) | (at_builtin; refine wpList_append_own _ rfl _ _ 64 rfl (w.heap.size + 1) 3 i0 (.int .i64 0) 1 8 Tryd.underlying64 hi hz0 hz1 hz2 rfl (by decide) _ 0 [] rfl ⟨rfl, .inl ⟨rfl, rfl⟩⟩ ⟨w1.heap.size, 0, none⟩ 1 1 [.int .i64 b] rfl rfl ?_ ?_ ?_ ?_ ?_ ?_))
  · intro j u hj; have : j = 0 := by (cases j with | zero => rfl | succ j => simp at hj)
    subst this; simp at hj; subst hj; simp [Addr.add, go_sem]
  · simp [Value.oneCell']
  · unfold maxLen; omega
  · omega
  · simp; omega
  intro v1 u1 own1 gr1 _
  try simp only [Nat.zero_add, List.nil_append, List.cons_append] at own1
  have HU1 : Below w.heap.size w u1 := by
    exact (show Below w.heap.size w (w1.alloc _) from by repeat (first | (with_reducible exact Below.refl _ _) | (with_reducible apply bDrewN) | (with_reducible apply Below.drew) | (with_reducible exact HB1) | ((with_reducible apply bSet); (focus first | (simp; done) | (simp; omega) | omega)) | ((with_reducible apply bAlloc); (focus first | (simp; done) | (simp; omega) | omega)))).grown gr1 (by simp; omega) (fun k hk => by simp [Value.ownBlock] at hk)
  have hu1 := HU1.size
  have d1_0 : u1.cell? ⟨w.heap.size, 0, none⟩ = some (.int .u8 n) := by rw [World.cell?_of_block (a := ⟨w.heap.size, 0, none⟩) (gr1.block w.heap.size (by simp; omega) (by simp [Value.ownBlock]))]; simp [go_sem, *]
  have d1_1 : u1.cell? ⟨w.heap.size, 1, none⟩ = some (.int .i64 a) := by rw [World.cell?_of_block (a := ⟨w.heap.size, 1, none⟩) (gr1.block w.heap.size (by simp; omega) (by simp [Value.ownBlock]))]; simp [go_sem, *]
  have d1_2 : u1.cell? ⟨w.heap.size, 2, none⟩ = some (.int .i64 b) := by rw [World.cell?_of_block (a := ⟨w.heap.size, 2, none⟩) (gr1.block w.heap.size (by simp; omega) (by simp [Value.ownBlock]))]; simp [go_sem, *]
  have d1_3 : u1.cell? ⟨w.heap.size, 3, none⟩ = some (.int .i64 c) := by rw [World.cell?_of_block (a := ⟨w.heap.size, 3, none⟩) (gr1.block w.heap.size (by simp; omega) (by simp [Value.ownBlock]))]; simp [go_sem, *]
  have d1_4 : u1.cell? ⟨w.heap.size, 4, none⟩ = some (.int .i64 i) := by rw [World.cell?_of_block (a := ⟨w.heap.size, 4, none⟩) (gr1.block w.heap.size (by simp; omega) (by simp [Value.ownBlock]))]; simp [go_sem, *]
  have e1_0 : w.heap.size < u1.heap.size := by have := gr1.size; simp at this; omega
  clear gr1
  go_wp2_with fail
  rw [rounds_succ]
  go_wp2_with (first | (go_at_call 37; refine (field_any _ _ _).mono ?_; rintro e w' ⟨rfl, rfl⟩) | (at_builtin; refine wpList_append_own _ rfl _ _ 64 rfl (w.heap.size + 1) 3 i0 (.int .i64 0) 1 8 Tryd.underlying64 hi hz0 hz1 hz2 rfl (by decide) _ 1 [.int .i64 b] rfl (own1.alloc _) ⟨u1.heap.size, 0, none⟩ 1 1 [.int .i64 c] rfl rfl ?_ ?_ ?_ ?_ ?_ ?_))
  · intro j u hj; have : j = 0 := by (cases j with | zero => rfl | succ j => simp at hj)
    subst this; simp at hj; subst hj; simp [Addr.add, go_sem]
  · simp [Value.oneCell']
  · unfold maxLen; omega
  · omega
  · simp; omega
  intro v2 u2 own2 gr2 _
  try simp only [Nat.zero_add, List.nil_append, List.cons_append] at own2
  have HU2 : Below w.heap.size w u2 := by
    exact (show Below w.heap.size w (u1.alloc _) from by repeat (first | (with_reducible exact Below.refl _ _) | (with_reducible apply bDrewN) | (with_reducible apply Below.drew) | (with_reducible exact HU1) | ((with_reducible apply bSet); (focus first | (simp; done) | (simp; omega) | omega)) | ((with_reducible apply bAlloc); (focus first | (simp; done) | (simp; omega) | omega)))).grown gr2 (by simp; omega) (fun k hk => by rcases own1.2 with ⟨h, _⟩ | ⟨g, _, _, h, hg, _⟩ <;> (rw [h] at hk; simp [Value.ownBlock] at hk); omega)
  have hu2 := HU2.size
  have d2_0 : u2.cell? ⟨w.heap.size, 0, none⟩ = some (.int .u8 n) := by rw [World.cell?_of_block (a := ⟨w.heap.size, 0, none⟩) (gr2.block w.heap.size (by simp; omega) (row_ne_low own1 (by omega)))]; simp [go_sem, *]
  have d2_1 : u2.cell? ⟨w.heap.size, 1, none⟩ = some (.int .i64 a) := by rw [World.cell?_of_block (a := ⟨w.heap.size, 1, none⟩) (gr2.block w.heap.size (by simp; omega) (row_ne_low own1 (by omega)))]; simp [go_sem, *]
  have d2_2 : u2.cell? ⟨w.heap.size, 2, none⟩ = some (.int .i64 b) := by rw [World.cell?_of_block (a := ⟨w.heap.size, 2, none⟩) (gr2.block w.heap.size (by simp; omega) (row_ne_low own1 (by omega)))]; simp [go_sem, *]
  have d2_3 : u2.cell? ⟨w.heap.size, 3, none⟩ = some (.int .i64 c) := by rw [World.cell?_of_block (a := ⟨w.heap.size, 3, none⟩) (gr2.block w.heap.size (by simp; omega) (row_ne_low own1 (by omega)))]; simp [go_sem, *]
  have d2_4 : u2.cell? ⟨w.heap.size, 4, none⟩ = some (.int .i64 i) := by rw [World.cell?_of_block (a := ⟨w.heap.size, 4, none⟩) (gr2.block w.heap.size (by simp; omega) (row_ne_low own1 (by omega)))]; simp [go_sem, *]
  have e2_0 : w.heap.size < u2.heap.size := by have := gr2.size; simp at this; omega
  clear gr2
  go_wp2_with fail
  rw [rounds_succ]
  go_wp2_with fail
  refine (sort_own (w.heap.size + 1) _ _ [b, c] own2 (by omega) (by simp)).mono ?_
  rintro e z1 ⟨rfl, ownS, bS⟩
  have hls : (sortI [b, c]).length = 2 := by simp [sortI]
  have sS := bS.size
  go_wp2_with fail
  refine (compact_own (w.heap.size + 1) _ _ (sortI [b, c]) (by rw [hls]; exact ownS) (by rw [hls]; omega)).mono ?_
  rintro e z2 ⟨v, rfl, sl, bC⟩
  go_wp2_with fail
  go_ret
  exact ⟨_, rfl, SlI.mono sl (by omega), (HU2.trans (bS.mono (by omega))).trans (bC.mono (by omega))⟩

/-- What isa.Reads returns. -/
def fv (a b c : Int) (l : UInt8) : Int := if l = 65 then a else if l = 66 then b else c
def rdl (n : Nat) (a b c i : Int) : List Int := if vld n a b c i then Lib.compact (sortI (((frL.getD n []).map (fv a b c)).filter (· != 0))) else []
theorem rd_kinds : ∀ (n : Nat), n < 30 → frL.getD n [] = [] ∨ frL.getD n [] = [65] ∨ frL.getD n [] = [66] ∨ frL.getD n [] = [65, 66] ∨ frL.getD n [] = [66, 67] := by
  intro n hn
  have h : ∀ k : Fin 30, frL.getD k [] = [] ∨ frL.getD k [] = [65] ∨ frL.getD k [] = [66] ∨ frL.getD k [] = [65, 66] ∨ frL.getD k [] = [66, 67] := by decide
  exact h ⟨n, hn⟩

theorem reads_any (n : Nat) (a b c i : Int) (w : World) (hT : Tab w) : Calls Tryd.prog 27 #[.agg #[.int .u8 n, .int .i64 a, .int .i64 b, .int .i64 c, .int .i64 i]] w (RdPost w (rdl n a b c i)) := by
  cases hv : vld n a b c i
  · refine (reads_no n a b c i w hT hv).mono ?_
    rintro e w' ⟨rfl, hb⟩
    exact ⟨_, rfl, .inl ⟨by simp [rdl, hv], _, _, rfl⟩, hb⟩
  · have hn := (vld_bd hv).1
    unfold rdl
    rw [if_pos hv]
    rcases rd_kinds n hn with h | h | h | h | h
    all_goals (rw [h]; have ho : frd n = ⟨(frL.getD n []).toArray⟩ := rfl; rw [h] at ho)
    · exact reads__0 n a b c i w hT hv hn ho
    · cases ha : (a != 0)
      · simpa [fv, ha] using reads_a_0 n a b c i w hT hv hn ho ha
      · simpa [fv, ha] using reads_a_1 n a b c i w hT hv hn ho ha
    · cases hb : (b != 0)
      · simpa [fv, hb] using reads_b_0 n a b c i w hT hv hn ho hb
      · simpa [fv, hb] using reads_b_1 n a b c i w hT hv hn ho hb
    · cases ha : (a != 0) <;> cases hb : (b != 0)
      · simpa [fv, ha, hb] using reads_ab_0 n a b c i w hT hv hn ho ha hb
      · simpa [fv, ha, hb] using reads_ab_2 n a b c i w hT hv hn ho ha hb
      · simpa [fv, ha, hb] using reads_ab_1 n a b c i w hT hv hn ho ha hb
      · simpa [fv, ha, hb] using reads_ab_3 n a b c i w hT hv hn ho ha hb
    · cases hb : (b != 0) <;> cases hc : (c != 0)
      · simpa [fv, hb, hc] using reads_bc_0 n a b c i w hT hv hn ho hb hc
      · simpa [fv, hb, hc] using reads_bc_2 n a b c i w hT hv hn ho hb hc
      · simpa [fv, hb, hc] using reads_bc_1 n a b c i w hT hv hn ho hb hc
      · simpa [fv, hb, hc] using reads_bc_3 n a b c i w hT hv hn ho hb hc

/-- What isa.Writes returns. -/
def wrR (n : Nat) (a b c i : Int) : Int := if vld n a b c i && fwr n then a else 0
set_option maxRecDepth 4000 in
set_option maxHeartbeats 800000 in
theorem writes_any (n : Nat) (a b c i : Int) (w : World) (hT : Tab w) :
    Calls Tryd.prog 26 #[.agg #[.int .u8 n, .int .i64 a, .int .i64 b, .int .i64 c, .int .i64 i]] w fun e w' => e = .returned (.tuple #[.int .i64 (wrR n a b c i), .bool (wrR n a b c i != 0)]) ∧ Below w.heap.size w w' := by
  cases hv : vld n a b c i
  · have e : wrR n a b c i = 0 := by simp [wrR, hv]
    rw [e]
    have hz := hT.size
    go_enter Tryd.func26, Tryd.ntmps26
    go_wp2_with fail
    refine (valid_any n a b c i _ (Tab.of_below hT (by repeat (first | (with_reducible exact Below.refl _ _) | (with_reducible apply bDrewN) | (with_reducible apply Below.drew) | ((with_reducible apply bSet); (focus first | (simp; done) | (simp; omega) | omega)) | ((with_reducible apply bAlloc); (focus first | (simp; done) | (simp; omega) | omega)))))).mono ?_
    rintro e w1 ⟨rfl, hb1⟩
    have hT1 : Tab w1 := Tab.of_below (Tab.of_below hT (by repeat (first | (with_reducible exact Below.refl _ _) | (with_reducible apply bDrewN) | (with_reducible apply Below.drew) | ((with_reducible apply bSet); (focus first | (simp; done) | (simp; omega) | omega)) | ((with_reducible apply bAlloc); (focus first | (simp; done) | (simp; omega) | omega))))) hb1
    have sz1_0 : w.heap.size < w1.heap.size := by have h := hb1.size; first | (simp at h; omega) | omega
    have c1_0_0 : w1.cell? ⟨w.heap.size, 0, none⟩ = some (.int .u8 n) := by rw [hb1.cell (p := ⟨w.heap.size, 0, none⟩) (by first | (simp; done) | (simp; omega) | omega)]; first | assumption | (simp [go_sem]; done) | (simp [go_sem, *]; done)
    have c1_0_1 : w1.cell? ⟨w.heap.size, 1, none⟩ = some (.int .i64 a) := by rw [hb1.cell (p := ⟨w.heap.size, 1, none⟩) (by first | (simp; done) | (simp; omega) | omega)]; first | assumption | (simp [go_sem]; done) | (simp [go_sem, *]; done)
    have c1_0_2 : w1.cell? ⟨w.heap.size, 2, none⟩ = some (.int .i64 b) := by rw [hb1.cell (p := ⟨w.heap.size, 2, none⟩) (by first | (simp; done) | (simp; omega) | omega)]; first | assumption | (simp [go_sem]; done) | (simp [go_sem, *]; done)
    have c1_0_3 : w1.cell? ⟨w.heap.size, 3, none⟩ = some (.int .i64 c) := by rw [hb1.cell (p := ⟨w.heap.size, 3, none⟩) (by first | (simp; done) | (simp; omega) | omega)]; first | assumption | (simp [go_sem]; done) | (simp [go_sem, *]; done)
    have c1_0_4 : w1.cell? ⟨w.heap.size, 4, none⟩ = some (.int .i64 i) := by rw [hb1.cell (p := ⟨w.heap.size, 4, none⟩) (by first | (simp; done) | (simp; omega) | omega)]; first | assumption | (simp [go_sem]; done) | (simp [go_sem, *]; done)
    have HB1 : Below w.heap.size w w1 := by
      repeat (first | (with_reducible exact Below.refl _ _) | (with_reducible apply bDrewN) | (with_reducible apply Below.drew) | ((with_reducible apply bThen hb1); (focus first | (simp; done) | (simp; omega) | omega)) | ((with_reducible apply bSet); (focus first | (simp; done) | (simp; omega) | omega)) | ((with_reducible apply bAlloc); (focus first | (simp; done) | (simp; omega) | omega)))
    have hsz1 := HB1.size
    clear hb1 
    go_wp2_with fail
    go_ret2
    exact ⟨rfl, by repeat (first | (with_reducible exact Below.refl _ _) | (with_reducible apply bDrewN) | (with_reducible apply Below.drew) | (with_reducible exact HB1) | ((with_reducible apply bSet); (focus first | (simp; done) | (simp; omega) | omega)) | ((with_reducible apply bAlloc); (focus first | (simp; done) | (simp; omega) | omega)))⟩
  · have hn := (vld_bd hv).1
    obtain ⟨-, -, -, h3, -, -, -⟩ := fmtAt hT n hn
    cases hw : fwr n
    · have e : wrR n a b c i = 0 := by simp [wrR, hv, hw]
      rw [e]
      rw [hw] at h3
      have hz := hT.size
      go_enter Tryd.func26, Tryd.ntmps26
      go_wp2_with fail
      refine (valid_any n a b c i _ (Tab.of_below hT (by repeat (first | (with_reducible exact Below.refl _ _) | (with_reducible apply bDrewN) | (with_reducible apply Below.drew) | ((with_reducible apply bSet); (focus first | (simp; done) | (simp; omega) | omega)) | ((with_reducible apply bAlloc); (focus first | (simp; done) | (simp; omega) | omega)))))).mono ?_
      rintro e w1 ⟨rfl, hb1⟩
      have hT1 : Tab w1 := Tab.of_below (Tab.of_below hT (by repeat (first | (with_reducible exact Below.refl _ _) | (with_reducible apply bDrewN) | (with_reducible apply Below.drew) | ((with_reducible apply bSet); (focus first | (simp; done) | (simp; omega) | omega)) | ((with_reducible apply bAlloc); (focus first | (simp; done) | (simp; omega) | omega))))) hb1
      have sz1_0 : w.heap.size < w1.heap.size := by have h := hb1.size; first | (simp at h; omega) | omega
      have c1_0_0 : w1.cell? ⟨w.heap.size, 0, none⟩ = some (.int .u8 n) := by rw [hb1.cell (p := ⟨w.heap.size, 0, none⟩) (by first | (simp; done) | (simp; omega) | omega)]; first | assumption | (simp [go_sem]; done) | (simp [go_sem, *]; done)
      have c1_0_1 : w1.cell? ⟨w.heap.size, 1, none⟩ = some (.int .i64 a) := by rw [hb1.cell (p := ⟨w.heap.size, 1, none⟩) (by first | (simp; done) | (simp; omega) | omega)]; first | assumption | (simp [go_sem]; done) | (simp [go_sem, *]; done)
      have c1_0_2 : w1.cell? ⟨w.heap.size, 2, none⟩ = some (.int .i64 b) := by rw [hb1.cell (p := ⟨w.heap.size, 2, none⟩) (by first | (simp; done) | (simp; omega) | omega)]; first | assumption | (simp [go_sem]; done) | (simp [go_sem, *]; done)
      have c1_0_3 : w1.cell? ⟨w.heap.size, 3, none⟩ = some (.int .i64 c) := by rw [hb1.cell (p := ⟨w.heap.size, 3, none⟩) (by first | (simp; done) | (simp; omega) | omega)]; first | assumption | (simp [go_sem]; done) | (simp [go_sem, *]; done)
      have c1_0_4 : w1.cell? ⟨w.heap.size, 4, none⟩ = some (.int .i64 i) := by rw [hb1.cell (p := ⟨w.heap.size, 4, none⟩) (by first | (simp; done) | (simp; omega) | omega)]; first | assumption | (simp [go_sem]; done) | (simp [go_sem, *]; done)
      have HB1 : Below w.heap.size w w1 := by
        repeat (first | (with_reducible exact Below.refl _ _) | (with_reducible apply bDrewN) | (with_reducible apply Below.drew) | ((with_reducible apply bThen hb1); (focus first | (simp; done) | (simp; omega) | omega)) | ((with_reducible apply bSet); (focus first | (simp; done) | (simp; omega) | omega)) | ((with_reducible apply bAlloc); (focus first | (simp; done) | (simp; omega) | omega)))
      have hsz1 := HB1.size
      clear hb1 
      have t3 : w1.cell? ⟨0, n * 6 + 3, none⟩ = some (.bool false) := by rw [HB1.cell (p := ⟨0, n * 6 + 3, none⟩) hz]; exact h3
      go_wp2_with fail
      go_ret2
      exact ⟨rfl, by repeat (first | (with_reducible exact Below.refl _ _) | (with_reducible apply bDrewN) | (with_reducible apply Below.drew) | (with_reducible exact HB1) | ((with_reducible apply bSet); (focus first | (simp; done) | (simp; omega) | omega)) | ((with_reducible apply bAlloc); (focus first | (simp; done) | (simp; omega) | omega)))⟩
    · have e : wrR n a b c i = a := by simp [wrR, hv, hw]
      rw [e]
      rw [hw] at h3
      cases ha : (a == 0)
      · have ha2 : (a != 0) = true := by simpa using ha
        rw [ha2]
        have hz := hT.size
        go_enter Tryd.func26, Tryd.ntmps26
        go_wp2_with fail
        refine (valid_any n a b c i _ (Tab.of_below hT (by repeat (first | (with_reducible exact Below.refl _ _) | (with_reducible apply bDrewN) | (with_reducible apply Below.drew) | ((with_reducible apply bSet); (focus first | (simp; done) | (simp; omega) | omega)) | ((with_reducible apply bAlloc); (focus first | (simp; done) | (simp; omega) | omega)))))).mono ?_
        rintro e w1 ⟨rfl, hb1⟩
        have hT1 : Tab w1 := Tab.of_below (Tab.of_below hT (by repeat (first | (with_reducible exact Below.refl _ _) | (with_reducible apply bDrewN) | (with_reducible apply Below.drew) | ((with_reducible apply bSet); (focus first | (simp; done) | (simp; omega) | omega)) | ((with_reducible apply bAlloc); (focus first | (simp; done) | (simp; omega) | omega))))) hb1
        have sz1_0 : w.heap.size < w1.heap.size := by have h := hb1.size; first | (simp at h; omega) | omega
        have c1_0_0 : w1.cell? ⟨w.heap.size, 0, none⟩ = some (.int .u8 n) := by rw [hb1.cell (p := ⟨w.heap.size, 0, none⟩) (by first | (simp; done) | (simp; omega) | omega)]; first | assumption | (simp [go_sem]; done) | (simp [go_sem, *]; done)
        have c1_0_1 : w1.cell? ⟨w.heap.size, 1, none⟩ = some (.int .i64 a) := by rw [hb1.cell (p := ⟨w.heap.size, 1, none⟩) (by first | (simp; done) | (simp; omega) | omega)]; first | assumption | (simp [go_sem]; done) | (simp [go_sem, *]; done)
        have c1_0_2 : w1.cell? ⟨w.heap.size, 2, none⟩ = some (.int .i64 b) := by rw [hb1.cell (p := ⟨w.heap.size, 2, none⟩) (by first | (simp; done) | (simp; omega) | omega)]; first | assumption | (simp [go_sem]; done) | (simp [go_sem, *]; done)
        have c1_0_3 : w1.cell? ⟨w.heap.size, 3, none⟩ = some (.int .i64 c) := by rw [hb1.cell (p := ⟨w.heap.size, 3, none⟩) (by first | (simp; done) | (simp; omega) | omega)]; first | assumption | (simp [go_sem]; done) | (simp [go_sem, *]; done)
        have c1_0_4 : w1.cell? ⟨w.heap.size, 4, none⟩ = some (.int .i64 i) := by rw [hb1.cell (p := ⟨w.heap.size, 4, none⟩) (by first | (simp; done) | (simp; omega) | omega)]; first | assumption | (simp [go_sem]; done) | (simp [go_sem, *]; done)
        have HB1 : Below w.heap.size w w1 := by
          repeat (first | (with_reducible exact Below.refl _ _) | (with_reducible apply bDrewN) | (with_reducible apply Below.drew) | ((with_reducible apply bThen hb1); (focus first | (simp; done) | (simp; omega) | omega)) | ((with_reducible apply bSet); (focus first | (simp; done) | (simp; omega) | omega)) | ((with_reducible apply bAlloc); (focus first | (simp; done) | (simp; omega) | omega)))
        have hsz1 := HB1.size
        clear hb1 
        have t3 : w1.cell? ⟨0, n * 6 + 3, none⟩ = some (.bool true) := by rw [HB1.cell (p := ⟨0, n * 6 + 3, none⟩) hz]; exact h3
        go_wp2_with fail
        go_ret2
        exact ⟨rfl, by repeat (first | (with_reducible exact Below.refl _ _) | (with_reducible apply bDrewN) | (with_reducible apply Below.drew) | (with_reducible exact HB1) | ((with_reducible apply bSet); (focus first | (simp; done) | (simp; omega) | omega)) | ((with_reducible apply bAlloc); (focus first | (simp; done) | (simp; omega) | omega)))⟩
      · have ha2 : (a != 0) = false := by simpa using ha
        rw [ha2]
        obtain rfl : a = 0 := by simpa using ha
        have hz := hT.size
        go_enter Tryd.func26, Tryd.ntmps26
        go_wp2_with fail
        refine (valid_any n 0 b c i _ (Tab.of_below hT (by repeat (first | (with_reducible exact Below.refl _ _) | (with_reducible apply bDrewN) | (with_reducible apply Below.drew) | ((with_reducible apply bSet); (focus first | (simp; done) | (simp; omega) | omega)) | ((with_reducible apply bAlloc); (focus first | (simp; done) | (simp; omega) | omega)))))).mono ?_
        rintro e w1 ⟨rfl, hb1⟩
        have hT1 : Tab w1 := Tab.of_below (Tab.of_below hT (by repeat (first | (with_reducible exact Below.refl _ _) | (with_reducible apply bDrewN) | (with_reducible apply Below.drew) | ((with_reducible apply bSet); (focus first | (simp; done) | (simp; omega) | omega)) | ((with_reducible apply bAlloc); (focus first | (simp; done) | (simp; omega) | omega))))) hb1
        have sz1_0 : w.heap.size < w1.heap.size := by have h := hb1.size; first | (simp at h; omega) | omega
        have c1_0_0 : w1.cell? ⟨w.heap.size, 0, none⟩ = some (.int .u8 n) := by rw [hb1.cell (p := ⟨w.heap.size, 0, none⟩) (by first | (simp; done) | (simp; omega) | omega)]; first | assumption | (simp [go_sem]; done) | (simp [go_sem, *]; done)
        have c1_0_1 : w1.cell? ⟨w.heap.size, 1, none⟩ = some (.int .i64 0) := by rw [hb1.cell (p := ⟨w.heap.size, 1, none⟩) (by first | (simp; done) | (simp; omega) | omega)]; first | assumption | (simp [go_sem]; done) | (simp [go_sem, *]; done)
        have c1_0_2 : w1.cell? ⟨w.heap.size, 2, none⟩ = some (.int .i64 b) := by rw [hb1.cell (p := ⟨w.heap.size, 2, none⟩) (by first | (simp; done) | (simp; omega) | omega)]; first | assumption | (simp [go_sem]; done) | (simp [go_sem, *]; done)
        have c1_0_3 : w1.cell? ⟨w.heap.size, 3, none⟩ = some (.int .i64 c) := by rw [hb1.cell (p := ⟨w.heap.size, 3, none⟩) (by first | (simp; done) | (simp; omega) | omega)]; first | assumption | (simp [go_sem]; done) | (simp [go_sem, *]; done)
        have c1_0_4 : w1.cell? ⟨w.heap.size, 4, none⟩ = some (.int .i64 i) := by rw [hb1.cell (p := ⟨w.heap.size, 4, none⟩) (by first | (simp; done) | (simp; omega) | omega)]; first | assumption | (simp [go_sem]; done) | (simp [go_sem, *]; done)
        have HB1 : Below w.heap.size w w1 := by
          repeat (first | (with_reducible exact Below.refl _ _) | (with_reducible apply bDrewN) | (with_reducible apply Below.drew) | ((with_reducible apply bThen hb1); (focus first | (simp; done) | (simp; omega) | omega)) | ((with_reducible apply bSet); (focus first | (simp; done) | (simp; omega) | omega)) | ((with_reducible apply bAlloc); (focus first | (simp; done) | (simp; omega) | omega)))
        have hsz1 := HB1.size
        clear hb1 
        have t3 : w1.cell? ⟨0, n * 6 + 3, none⟩ = some (.bool true) := by rw [HB1.cell (p := ⟨0, n * 6 + 3, none⟩) hz]; exact h3
        go_wp2_with fail
        go_ret2
        exact ⟨rfl, by repeat (first | (with_reducible exact Below.refl _ _) | (with_reducible apply bDrewN) | (with_reducible apply Below.drew) | (with_reducible exact HB1) | ((with_reducible apply bSet); (focus first | (simp; done) | (simp; omega) | omega)) | ((with_reducible apply bAlloc); (focus first | (simp; done) | (simp; omega) | omega)))⟩

end Go.Proofs.YtlmipchjmgnlfaaDoor
