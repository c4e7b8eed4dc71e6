/- Link in plain words: which objects can be linked, the image of them; the image of one of them alone. No walk here. -/
import Derived.Test.YtpachmkklppmjaaDoorLkA
import Derived.Test.YtpachmkklppmjaaDoorLkS
import Derived.Test.YtpachmkklppmjaaDoorIsaP
set_option linter.unusedVariables false
set_option linter.unusedSimpArgs false
namespace Go.Proofs.YtpachmkklppmjaaDoor

/-- An object. -/
structure LOb where
  nm : ByteArray
  code : List GI
  refs : List GR
  dat : Int
instance : Inhabited LOb := ⟨⟨⟨#[]⟩, [], [], 0⟩⟩
/-- A shared object: name and length. -/
abbrev LSh := ByteArray × Int
def valB (o : LOb) : Bool := valO o.code o.dat (o.refs.map fun r => (r.at', r.lk))
def seenN (l : List ByteArray) (s : ByteArray) : Bool := l.any fun t => decide (t = s)
/-- Whether a name comes twice. -/
def twN : List ByteArray → Bool
  | [] => false
  | s :: l => twN l || seenN l s
def wdS (S : List LSh) : Int := (S.map fun s => if 1 ≤ s.2 ∧ s.2 ≤ 32 then s.2 else 0).sum
def sizedS (S : List LSh) : Bool := S.all fun s => decide (1 ≤ s.2 ∧ s.2 ≤ 32)
def goodB (s : ByteArray) : Bool := decide (1 ≤ s.size ∧ s.size ≤ 12)
def nmB (l : List LOb) : Bool := l.all fun o => goodB o.nm
def undB (S : List LSh) (l : List LOb) : Bool := l.any fun o => o.refs.any fun r => !(seenN (S.map (·.1)) r.nm)
def insN (l : List LOb) : Nat := (l.map fun o => o.code.length).sum
def fullB (S : List LSh) (l : List LOb) : Bool := decide (4 < S.length) || decide (8 < l.length) || decide (64 < wdS S) || decide (4096 < insN l)
/-- Whether the objects can be linked as far as no address is needed. -/
def okL (S : List LSh) (l : List LOb) : Bool := l.all valB && sizedS S && !(twN (S.map (·.1)).reverse || twN (l.map (·.nm)).reverse) && (nmB l && !undB S l) && !fullB S l
theorem okL_iff (S : List LSh) (l : List LOb) : okL S l = true ↔ l.all valB = true ∧ sizedS S = true ∧ twN (S.map (·.1)).reverse = false ∧ twN (l.map (·.nm)).reverse = false ∧ nmB l = true ∧ undB S l = false ∧ fullB S l = false := by
  unfold okL
  simp only [Bool.and_eq_true, Bool.not_eq_true', Bool.or_eq_false_iff]
  exact ⟨fun ⟨⟨⟨⟨a, b⟩, c, d⟩, e, f⟩, g⟩ => ⟨a, b, c, d, e, f, g⟩, fun ⟨a, b, c, d, e, f, g⟩ => ⟨⟨⟨⟨a, b⟩, c, d⟩, e, f⟩, g⟩⟩
/-- The symbols: name, address, lock. -/
def addrS (S : List LSh) (k : Nat) : Int := ((S.take k).map (·.2)).sum
def symS (S : List LSh) : List (ByteArray × Int × Int) := (List.range S.length).map fun k => ((S.getD k default).1, addrS S k, (k : Int))
/-- What a name stands for: the last symbol of this name. -/
def symF (S : List LSh) (k : Nat) (s : ByteArray) : Option (Int × Int) := match k with
  | 0 => none
  | k + 1 => if s = (S.getD k default).1 then some (addrS S k, (k : Int)) else symF S k s
def symG (S : List LSh) (s : ByteArray) : Int × Int := (symF S S.length s).getD (0, 0)
/-- An instruction with its reference resolved. -/
def relI (F : ByteArray → Int × Int) (r : GR) (i : GI) : GI := { i with imm := if r.lk then (F r.nm).2 else i.imm + (F r.nm).1 }
def relC (F : ByteArray → Int × Int) (code : List GI) (refs : List GR) : List GI := refs.foldl (fun c r => c.set r.at'.toNat (relI F r (c.getD r.at'.toNat default))) code
theorem relC_len (F : ByteArray → Int × Int) : ∀ (refs : List GR) (code : List GI), (relC F code refs).length = code.length
  | [], _ => rfl
  | r :: rs, code => by
    have h := relC_len F rs (code.set r.at'.toNat (relI F r (code.getD r.at'.toNat default)))
    rw [List.length_set] at h
    exact h
theorem relC_push (F : ByteArray → Int × Int) (code : List GI) (l : List GR) (r : GR) : relC F code (l ++ [r]) = (relC F code l).set r.at'.toNat (relI F r ((relC F code l).getD r.at'.toNat default)) := by
  unfold relC
  rw [List.foldl_append]
  rfl
def encG (i : GI) : Int := encW i.op i.a i.b i.c i.imm
def relO (S : List LSh) (o : LOb) : List GI := relC (symG S) o.code o.refs
def wdsO (S : List LSh) (o : LOb) : List Int := (relO S o).map encG
def okR2 (S : List LSh) (o : LOb) : Bool := (relO S o).all vG
/-- The words and the entries behind the first objects. -/
def codeL (S : List LSh) (l : List LOb) : List Int := l.flatMap (wdsO S)
def entsL (l : List LOb) : List En := (List.range l.length).map fun k => ⟨(l.getD k default).nm, insN (l.take k), insN (l.take k) + (l.getD k default).code.length, (l.getD k default).dat⟩
def imgL (S : List LSh) (l : List LOb) : Im := ⟨codeL S l, entsL l, addrS S S.length, S.length⟩
/-- Link. -/
def linkR (S : List LSh) (l : List LOb) : Option Im := if okL S l = true ∧ l.all (okR2 S) = true then some (imgL S l) else none
theorem wdsO_len (S : List LSh) (o : LOb) : (wdsO S o).length = o.code.length := by
  unfold wdsO relO
  rw [List.length_map, relC_len]
theorem codeL_len (S : List LSh) : ∀ l : List LOb, (codeL S l).length = insN l
  | [] => rfl
  | o :: l => by
    have h := codeL_len S l
    unfold codeL insN at h ⊢
    rw [List.flatMap_cons, List.length_append, wdsO_len, h, List.map_cons, List.sum_cons]
theorem codeL_push (S : List LSh) (l : List LOb) (o : LOb) : codeL S (l ++ [o]) = codeL S l ++ wdsO S o := by simp [codeL]
theorem insN_push (l : List LOb) (o : LOb) : insN (l ++ [o]) = insN l + o.code.length := by simp [insN]
theorem take_next {α : Type} [Inhabited α] (l : List α) {k : Nat} (hk : k < l.length) : l.take (k + 1) = l.take k ++ [l.getD k default] := by
  rw [List.take_add_one, List.getD_eq_getElem?_getD, List.getElem?_eq_getElem hk]
  rfl
theorem entsL_at (l : List LOb) {k : Nat} (hk : k < l.length) : (entsL l).getD k default = ⟨(l.getD k default).nm, insN (l.take k), insN (l.take k) + (l.getD k default).code.length, (l.getD k default).dat⟩ := by
  unfold entsL
  rw [List.getD_eq_getElem?_getD, List.getElem?_map, List.getElem?_range hk]
  rfl
theorem entsL_next (l : List LOb) {k : Nat} (hk : k < l.length) : entsL (l.take (k + 1)) = entsL (l.take k) ++ [⟨(l.getD k default).nm, insN (l.take k), insN (l.take k) + (l.getD k default).code.length, (l.getD k default).dat⟩] := by
  have h1 : (l.take (k + 1)).length = k + 1 := by rw [List.length_take]; omega
  have h0 : (l.take k).length = k := by rw [List.length_take]; omega
  unfold entsL
  rw [h1, h0, List.range_succ, List.map_append, List.map_cons, List.map_nil]
  have hg : ∀ j m, j < m → m ≤ l.length → (l.take m).getD j default = l.getD j default := fun j m hj hm => by
    rw [List.getD_eq_getElem?_getD, List.getElem?_take, if_pos hj, List.getD_eq_getElem?_getD]
  congr 1
  · refine List.map_congr_left fun j hj => ?_
    have hj := List.mem_range.1 hj
    rw [hg j (k + 1) (by omega) (by omega), hg j k (by omega) (by omega), List.take_take, List.take_take, Nat.min_eq_left (by omega), Nat.min_eq_left (by omega)]
  · rw [hg k (k + 1) (by omega) (by omega), List.take_take, Nat.min_eq_left (by omega)]
theorem mem_at2 {α : Type} [Inhabited α] (l : List α) {k : Nat} (hk : k < l.length) : l.getD k default ∈ l := by
  rw [List.getD_eq_getElem?_getD, List.getElem?_eq_getElem hk]
  exact List.getElem_mem hk
theorem insN_mem (l : List LOb) : ∀ {k : Nat}, k < l.length → (l.getD k default).code.length ≤ insN l := by
  induction l with
  | nil => intro k hk; simp at hk
  | cons o l ih =>
    intro k hk
    cases k with
    | zero => show o.code.length ≤ _; simp [insN]
    | succ k =>
      have := ih (k := k) (by simpa using hk)
      show (l.getD k default).code.length ≤ _
      simp only [insN, List.map_cons, List.sum_cons] at this ⊢
      omega
theorem insN_take (l : List LOb) {k : Nat} (hk : k < l.length) : insN (l.take k) + (l.getD k default).code.length ≤ insN l := by
  have h1 : insN (l.take (k + 1)) = insN (l.take k) + (l.getD k default).code.length := by rw [take_next l hk, insN_push]
  have h2 : insN l = insN (l.take (k + 1)) + insN (l.drop (k + 1)) := by
    unfold insN
    rw [← List.sum_append, ← List.map_append, List.take_append_drop]
  omega
/-- One object of those that can be linked can be linked. -/
theorem okL_one {S : List LSh} {l : List LOb} (h : okL S l = true) {k : Nat} (hk : k < l.length) : okL S [l.getD k default] = true := by
  rw [okL_iff] at h ⊢
  obtain ⟨a, b, c, d, e, f, g⟩ := h
  have hm := mem_at2 l hk
  refine ⟨?_, b, c, rfl, ?_, ?_, ?_⟩
  · simpa using List.all_eq_true.1 a _ hm
  · simpa [nmB] using List.all_eq_true.1 e _ hm
  · have := List.any_eq_false.1 f _ hm
    unfold undB
    rw [List.any_cons, List.any_nil, Bool.or_false]
    simpa using this
  · unfold fullB at g ⊢
    have := insN_mem l hk
    simp only [Bool.or_eq_false_iff, decide_eq_false_iff_not] at g ⊢
    refine ⟨⟨⟨g.1.1.1, by simp⟩, g.1.2⟩, ?_⟩
    simp only [insN, List.map_cons, List.map_nil, List.sum_cons, List.sum_nil] at this g ⊢
    omega
theorem codeL_at (S : List LSh) (l : List LOb) {k : Nat} (hk : k < l.length) (j : Nat) (hj : j < (l.getD k default).code.length) : (codeL S l).getD (insN (l.take k) + j) 0 = (wdsO S (l.getD k default)).getD j 0 := by
  have hs : codeL S l = codeL S (l.take k) ++ (wdsO S (l.getD k default) ++ codeL S (l.drop (k + 1))) := by
    have e : l = l.take k ++ (l.getD k default :: l.drop (k + 1)) := by
      have h1 : l.drop k = l.getD k default :: l.drop (k + 1) := by
        rw [List.drop_eq_getElem_cons hk, List.getD_eq_getElem?_getD, List.getElem?_eq_getElem hk]
        rfl
      rw [← h1, List.take_append_drop]
    conv => lhs; rw [e]
    unfold codeL
    rw [List.flatMap_append, List.flatMap_cons]
  rw [hs, List.getD_eq_getElem?_getD, List.getElem?_append_right (by rw [codeL_len]; omega), codeL_len, Nat.add_sub_cancel_left, List.getElem?_append_left (by rw [wdsO_len]; exact hj)]
  simp [List.getD_eq_getElem?_getD]
/-- The image of one object alone. -/
theorem link_alone {S : List LSh} {l : List LOb} {im : Im} (h : linkR S l = some im) {k : Nat} (hk : k < l.length) : im = imgL S l ∧ linkR S [l.getD k default] = some (imgL S [l.getD k default]) ∧ Alone im (imgL S [l.getD k default]) k (insN (l.take k)) ∧ im.sh = (imgL S [l.getD k default]).sh ∧ (im.ents.getD k default).st = insN (l.take k) := by
  unfold linkR at h
  split at h
  · rename_i hc
    cases h
    have h1 := okL_one hc.1 hk
    have h2 := List.all_eq_true.1 hc.2 _ (mem_at2 l hk)
    have hA : Alone (imgL S l) (imgL S [l.getD k default]) k (insN (l.take k)) := by
      have he := entsL_at l hk
      have he1 := entsL_at [l.getD k default] (k := 0) (by simp)
      have hl := codeL_len S l
      have hl1 := codeL_len S [l.getD k default]
      have h1' : insN [l.getD k default] = (l.getD k default).code.length := by simp [insN]
      have ht := insN_take l hk
      have hz : insN (([l.getD k default] : List LOb).take 0) = 0 := rfl
      have hg : (([l.getD k default] : List LOb).getD 0 default) = l.getD k default := rfl
      rw [hg] at he1
      refine ⟨?_, ?_, by omega, rfl, ?_, ?_, ?_, ?_, ?_, fun j hj => ?_, rfl⟩
      · show k < (entsL l).length
        simpa [entsL] using hk
      · show ((entsL l).getD k default).st = _
        rw [he]
      · show ((entsL [l.getD k default]).getD 0 default).st = 0
        rw [he1]
        rfl
      · show ((entsL [l.getD k default]).getD 0 default).fin = ((entsL l).getD k default).fin - _
        rw [he, he1]
        show ((insN (([l.getD k default] : List LOb).take 0) : Nat) : Int) + _ = ((insN (l.take k) : Nat) : Int) + _ - _
        rw [hz]
        omega
      · show ((entsL [l.getD k default]).getD 0 default).dat = ((entsL l).getD k default).dat
        rw [he, he1]
      · show ((entsL l).getD k default).fin ≤ ((codeL S l).length : Int)
        rw [he, hl]
        show ((insN (l.take k) : Nat) : Int) + _ ≤ _
        omega
      · show ((codeL S [l.getD k default]).length : Int) = ((entsL l).getD k default).fin - _
        rw [he, hl1, h1']
        show _ = ((insN (l.take k) : Nat) : Int) + _ - _
        omega
      · have hj' : j < (l.getD k default).code.length := by
          have : j < (codeL S [l.getD k default]).length := hj
          omega
        show (codeL S [l.getD k default]).getD j 0 = (codeL S l).getD (((insN (l.take k) : Nat) : Int).toNat + j) 0
        rw [Int.toNat_natCast, codeL_at S l hk j hj']
        have := codeL_at S [l.getD k default] (k := 0) (by simp) j hj'
        rw [hz, Nat.zero_add] at this
        exact this
    refine ⟨rfl, ?_, hA, rfl, hA.st⟩
    unfold linkR
    rw [if_pos ⟨h1, by simpa using h2⟩]
  · cases h
end Go.Proofs.YtpachmkklppmjaaDoor
