/- Lemmas for Link's walk: where references lie, what names stand for, the clone of an object's code, the image as it lies. -/
import Derived.Test.YtpachmkklppmjaaDoorLkL
import Derived.Test.YtpachmkklppmjaaDoorIsaB
import Derived.RegionTactic
import Derived.Laws.Rows
import Derived.Laws.Tables
import Derived.Lib.LazyBuf
set_option linter.unusedVariables false
set_option linter.unusedSimpArgs false
namespace Go.Proofs.YtpachmkklppmjaaDoor
open Go.RowKit Go.Maps

theorem scan_at (n : Int) : ∀ (code : List GI) (k : Nat) (rs : List (Int × Bool)), scanV n k code rs = true → ∀ r ∈ rs, (k : Int) ≤ r.1 ∧ r.1 < (k : Int) + code.length
  | [], k, rs, h, r, hr => by
    have : rs = [] := of_decide_eq_true h
    rw [this] at hr
    cases hr
  | i :: code, k, rs, h, r, hr => by
    unfold scanV at h
    rw [Bool.and_eq_true] at h
    have h2 := h.2
    split at h2
    · cases rs with
      | nil => cases hr
      | cons q rs =>
        simp only [Bool.and_eq_true, decide_eq_true_eq] at h2
        rcases List.mem_cons.1 hr with rfl | hr
        · have := h2.1.1
          simp only [List.length_cons]
          omega
        · have := scan_at n code (k + 1) rs h2.2 r hr
          simp only [List.length_cons]
          omega
    · have := scan_at n code (k + 1) rs h2 r hr
      simp only [List.length_cons]
      omega
theorem scan_imm (n : Int) : ∀ (code : List GI) (k : Nat) (rs : List (Int × Bool)), scanV n k code rs = true → ∀ i ∈ code, vG i = true
  | [], k, rs, h, i, hi => by cases hi
  | j :: code, k, rs, h, i, hi => by
    unfold scanV at h
    simp only [Bool.and_eq_true] at h
    have h2 := h.2
    rcases List.mem_cons.1 hi with rfl | hi
    · exact h.1.1
    · split at h2
      · cases rs with
        | nil => cases h2
        | cons q rs =>
          simp only [Bool.and_eq_true] at h2
          exact scan_imm n code (k + 1) rs h2.2 i hi
      · exact scan_imm n code (k + 1) rs h2 i hi
structure ObOk (o : LOb) : Prop where
  pos : 1 ≤ o.code.length
  big : o.code.length ≤ 4096
  d0 : 0 ≤ o.dat
  d1 : o.dat ≤ 512
  at0 : ∀ j, j < o.refs.length → 0 ≤ (o.refs.getD j default).at' ∧ (o.refs.getD j default).at' < o.code.length
  imm : ∀ j, j < o.code.length → vG (o.code.getD j default) = true
theorem ob_ok {o : LOb} (h : valB o = true) : ObOk o := by
  unfold valB valO at h
  simp only [Bool.and_eq_true, decide_eq_true_eq] at h
  obtain ⟨⟨h1, h2⟩, h3⟩ := h
  refine ⟨by omega, by omega, by omega, by omega, fun j hj => ?_, fun j hj => scan_imm _ _ _ _ h3 _ (mem_at2 _ hj)⟩
  have := scan_at _ _ _ _ h3 ((o.refs.getD j default).at', (o.refs.getD j default).lk) (List.mem_map.2 ⟨_, mem_at2 _ hj, rfl⟩)
  simp only at this
  omega
/-- Bounds of immediate numbers while references are resolved. -/
def ImB (G : List GI) (b : Int) : Prop := ∀ j, j < G.length → -b ≤ (G.getD j default).imm ∧ (G.getD j default).imm ≤ b
theorem ImB.start {o : LOb} (h : ObOk o) : ImB o.code 200000 := fun j hj => by
  have := (vld_bd (h.imm j hj)).2.2.2.2.2.2.2
  omega
theorem ImB.set {G : List GI} {b : Int} (h : ImB G b) {k : Nat} {i : GI} {c : Int} (hc : b ≤ c) (hi : -c ≤ i.imm ∧ i.imm ≤ c) : ImB (G.set k i) c := by
  intro j hj
  have hj' : j < G.length := by simpa using hj
  rw [List.getD_eq_getElem?_getD, List.getElem?_set]
  by_cases e : k = j
  · subst e
    rw [if_pos rfl, if_pos hj']
    exact hi
  · rw [if_neg e, ← List.getD_eq_getElem?_getD]
    have := h j hj'
    omega
theorem addrS_next (S : List LSh) {k : Nat} (hk : k < S.length) : addrS S (k + 1) = addrS S k + (S.getD k default).2 := by
  unfold addrS
  rw [take_next S hk, List.map_append, List.sum_append]
  simp
theorem addrS_bd {S : List LSh} (h : sizedS S = true) : ∀ k, k ≤ S.length → 0 ≤ addrS S k ∧ addrS S k ≤ 32 * k
  | 0, _ => ⟨by simp [addrS], by simp [addrS]⟩
  | k + 1, hk => by
    have h1 := addrS_bd h k (by omega)
    have h2 := of_decide_eq_true (List.all_eq_true.1 h _ (mem_at2 S (k := k) (by omega)))
    rw [addrS_next S (by omega)]
    omega
theorem symF_bd {S : List LSh} (h : sizedS S = true) (s : ByteArray) : ∀ k, k ≤ S.length → ∀ p, symF S k s = some p → (0 ≤ p.1 ∧ p.1 ≤ 32 * S.length) ∧ 0 ≤ p.2 ∧ p.2 < S.length
  | 0, _, p, hp => by cases hp
  | k + 1, hk, p, hp => by
    unfold symF at hp
    split at hp
    · cases hp
      have := addrS_bd h k (by omega)
      exact ⟨⟨this.1, by omega⟩, by omega, by omega⟩
    · exact symF_bd h s k (by omega) p hp
theorem symG_bd {S : List LSh} (h : sizedS S = true) (hS : S.length ≤ 10) (s : ByteArray) : (0 ≤ (symG S s).1 ∧ (symG S s).1 ≤ 320) ∧ 0 ≤ (symG S s).2 ∧ (symG S s).2 ≤ 10 := by
  unfold symG
  cases hs : symF S S.length s with
  | none => exact ⟨⟨by decide, by decide⟩, by decide, by decide⟩
  | some p =>
    have := symF_bd h s S.length (Nat.le_refl _) p hs
    show (0 ≤ p.1 ∧ p.1 ≤ 320) ∧ 0 ≤ p.2 ∧ p.2 ≤ 10
    omega
def zSy : Value := .agg #[.string ⟨#[]⟩, .int .i64 0, .int .i64 0]
/-- The map of symbols. -/
def symV (S : List LSh) (k : Nat) : ByteArray → Option Value := fun s => (symF S k s).map fun p => .agg #[.string s, .int .i64 p.1, .int .i64 p.2]
theorem symV_zero (S : List LSh) : symV S 0 = fun _ => none := rfl
theorem symV_next (S : List LSh) (k : Nat) : symV S (k + 1) = updF (symV S k) (S.getD k default).1 (.agg #[.string (S.getD k default).1, .int .i64 (addrS S k), .int .i64 (k : Int)]) := by
  funext s
  have e : symF S (k + 1) s = if s = (S.getD k default).1 then some (addrS S k, (k : Int)) else symF S k s := rfl
  unfold symV updF
  rw [e]
  by_cases h : s = (S.getD k default).1
  · rw [if_pos h, if_pos h, h]
    rfl
  · rw [if_neg h, if_neg h]
theorem symV_get (S : List LSh) (s : ByteArray) : ∃ t : ByteArray, (symV S S.length s).getD zSy = .agg #[.string t, .int .i64 (symG S s).1, .int .i64 (symG S s).2] := by
  unfold symV symG
  cases symF S S.length s with
  | none => exact ⟨⟨#[]⟩, rfl⟩
  | some p => exact ⟨s, rfl⟩
theorem symS_next (S : List LSh) {k : Nat} (hk : k < S.length) : (symS S).take (k + 1) = (symS S).take k ++ [((S.getD k default).1, addrS S k, (k : Int))] := by
  have hl : (symS S).length = S.length := by simp [symS]
  rw [List.take_add_one]
  congr 1
  unfold symS
  rw [List.getElem?_map, List.getElem?_range hk]
  rfl
theorem zeroSy (w : World) : (zeroValue 57).run Tryd.prog w = .ok zSy w := by kernel_rfl
theorem infoSy : (Tryd.prog.info? 57).map (fun i => (i.zero, i.size, i.bytes)) = some (some zSy, 3, 32) := by kernel_rfl
theorem infoEn : (Tryd.prog.info? 48).map (fun i => (i.zero, i.size, i.bytes)) = some (some (.agg #[.string ⟨#[]⟩, .int .i64 0, .int .i64 0, .int .i64 0]), 4, 40) := by kernel_rfl
theorem infoU : (Tryd.prog.info? 60).map (fun i => (i.zero, i.size, i.bytes)) = some (some (.int .u32 0), 1, 4) := by kernel_rfl
theorem infoIn : (Tryd.prog.info? 51).map (fun i => (i.zero, i.size, i.bytes)) = some (some (.agg #[.int .u8 0, .int .i64 0, .int .i64 0, .int .i64 0, .int .i64 0]), 5, 40) := by kernel_rfl
/-- Symbols that can be read. -/
def SyRd (w : World) (v : Value) (L : List (ByteArray × Int × Int)) : Prop := ∃ p cap, v = .slice p L.length cap ∧ ∀ k, k < L.length → ∃ m, p = some ⟨m, 0, none⟩ ∧ m < w.heap.size ∧ ∀ j u, j < 3 → (syC (L.getD k default))[j]? = some u → w.cell? ⟨m, k * 3 + j, none⟩ = some u
theorem own_at {e : TypeId} {size c n : Nat} {col : Nat → Nat} {w : World} {v : Value} {xs : List Value} (h : OwnC e size col c w v n xs) (hl : 0 < n * size) : ∃ g cap, v = .slice (some ⟨g, 0, none⟩) n cap ∧ g < w.heap.size ∧ ∀ j, j < n * size → w.cell? ⟨g, j, none⟩ = xs[j]? := by
  obtain ⟨g, cap, hv, hg, _, _, _⟩ := h.cell hl
  refine ⟨g, cap, hv, hg, fun j hj => ?_⟩
  obtain ⟨g2, cap2, e2, _, _, h2, _⟩ := h.cell hj
  rw [hv] at e2
  cases e2
  exact h2
theorem syRd_of {col : Nat → Nat} {c : Nat} {w : World} {v : Value} {L : List (ByteArray × Int × Int)} (h : OwnC 57 3 col c w v L.length (syV L)) : SyRd w v L := by
  obtain ⟨p, cap, hv⟩ := h.shape
  refine ⟨p, cap, hv, fun k hk => ?_⟩
  obtain ⟨g, cap2, hv2, hg, hc⟩ := own_at h (by omega)
  rw [hv] at hv2
  cases hv2
  refine ⟨g, rfl, hg, fun j u hj hu => ?_⟩
  exact ((hc _ (by omega)).trans (flat_at (f := syC) (n := 3) (fun _ => rfl) L k hk j hj)).trans hu
theorem imAt_of {col : Nat → Nat} {c d : Nat} {w : World} {cv ev : Value} {C : List Int} {E : List En} {sh lk : Int} (hC : OwnC 60 1 col c w cv C.length (wdV C)) (hE : OwnC 48 4 col d w ev E.length (entV E)) (hw : ∀ k, k < C.length → 0 ≤ C.getD k 0 ∧ C.getD k 0 < 4294967296) (hs : C.length ≤ 100000) :
    ImAt w (.agg #[cv, ev, .int .i64 sh, .int .i64 lk]) ⟨C, E, sh, lk⟩ := by
  obtain ⟨cp, cc, rfl⟩ := hC.shape
  obtain ⟨ep, ec, rfl⟩ := hE.shape
  refine ⟨⟨cp, cc, ep, ec, rfl, ?_, ?_⟩, hw, by show C.length ≤ _; omega⟩
  · by_cases h0 : C = []
    · exact .inl h0
    · have hl := List.length_pos_iff.2 h0
      obtain ⟨g, cap2, hv2, hg, hc⟩ := own_at hC (by omega)
      cases hv2
      refine .inr ⟨g, 0, rfl, hg, fun k hk => ?_⟩
      have hk : k < C.length := hk
      rw [Nat.zero_add, hc _ (by omega)]
      unfold wdV
      rw [List.getElem?_map, List.getElem?_eq_getElem hk, List.getD_eq_getElem?_getD, List.getElem?_eq_getElem hk]
      rfl
  · by_cases h0 : E = []
    · exact .inl h0
    · have hl := List.length_pos_iff.2 h0
      obtain ⟨g, cap2, hv2, hg, hc⟩ := own_at hE (by omega)
      cases hv2
      refine .inr ⟨g, 0, rfl, hg, fun k hk => ?_⟩
      have hk : k < E.length := hk
      have hx : ∀ j, j < 4 → w.cell? ⟨g, k * 4 + j, none⟩ = (entC (E.getD k default))[j]? := fun j hj => (hc _ (by omega)).trans (flat_at (f := entC) (n := 4) (fun _ => rfl) E k hk j hj)
      rw [Nat.zero_add]
      exact ⟨hx 0 (by decide), hx 1 (by decide), hx 2 (by decide), hx 3 (by decide)⟩
set_option maxHeartbeats 1600000 in
/-- The clone of an object's code. -/
theorem clone_gs {cv : Value} {code : List GI} {w : World} (h : GsRd w cv code) (h1 : 1 ≤ code.length) (h2 : code.length ≤ 5000) :
    Calls Tryd.prog 12 #[cv] w fun e w' => ∃ v', e = .returned v' ∧ w'.ownsRow w.heap.size 51 5 v' code.length (codeV code) ∧ Below w.heap.size w w' := by
  obtain ⟨p, c, hv⟩ := h.shape
  subst hv
  have hne : code ≠ [] := fun e => by rw [e] at h1; simp at h1
  obtain ⟨p', c', e0, hc⟩ := id h
  obtain ⟨a, rfl⟩ : ∃ a, p = some a := by
    cases e0
    rcases hc with hc | ⟨m, off, rfl, _⟩
    · exact absurd hc hne
    · exact ⟨_, rfl⟩
  obtain ⟨i, hi, hie⟩ := Option.map_eq_some_iff.1 infoIn
  simp only [Prod.mk.injEq] at hie
  have heq := fun (w : World) => run_eql_slice_nil (P := Tryd.prog) w 35 51 (some a) code.length c Tryd.underlying35
  have HM := Lib.hid (Src.of_gs (h.below (bAlloc (o := .cells #[] 51) (Nat.le_refl _) (Below.refl w.heap.size w)) (Nat.le_refl _)) hne)
  have HO : Hid ((w.alloc (.cells #[] 51)).ownsRow w.heap.size 51 5 (.slice (some ⟨w.heap.size, 0, none⟩) 0 0) 0 []) := (show World.ownsRow _ _ _ _ _ _ _ from World.ownsRow_made (e := 51) (size := 5) (base := w.heap.size) w #[] 0 (Nat.le_refl _) (Nat.zero_le _) rfl)
  have H1 := Lib.hid (codeV_one code)
  clear hc h e0
  go_enter Tryd.func12, Tryd.ntmps12
  go_wp2_with (first | (at_builtin; refine wpList_append_new _ rfl _ _ 35 rfl w.heap.size 51 i _ 5 40 Tryd.underlying35 hi hie.1 hie.2.1 hie.2.2 rfl (by decide) _ rfl HO.out _ code.length (codeV code) rfl HM.out H1.out ?c1 ?c2 ?c3 ?_))
  case c1 => unfold maxLen; omega
  case c2 => omega
  case c3 => simp
  intro p' c' w3 hown hg
  go_wp2_with fail
  go_ret
  exact ⟨_, rfl, hown, Below.grown (bAlloc (Nat.le_refl _) (Below.refl _ _)) hg (by simp) (fun k hk => by simp [Value.ownBlock] at hk; omega)⟩
end Go.Proofs.YtpachmkklppmjaaDoor
