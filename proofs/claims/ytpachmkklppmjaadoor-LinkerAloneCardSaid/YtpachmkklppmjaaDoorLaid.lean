/- What a listed package variable of plain data (integers, bools, strings, arrays and structs of such) holds, cell by cell. -/
import Derived.Test.YtpachmkklppmjaaDoorBase
import Derived.LaidLaws
import Derived.OpenShut
namespace Go.Proofs.YtpachmkklppmjaaDoor
open Go.RowKit

/-- The cells of plain data. -/
def flatD {H : Type} : Nat → DataW H → List Value
  | 0, _ => []
  | _ + 1, .lit (.int k n) => [.int k n]
  | _ + 1, .lit (.bool b) => [.bool b]
  | _ + 1, .lit (.string s) => [.string ⟨s.toArray⟩]
  | k + 1, .agg ds => ds.flatMap (flatD k)
  | _ + 1, _ => []

/-- Fields that follow one another without a gap, up to the end. -/
def contig (P : Program) (e : Nat) : Nat → List Field → Bool
  | o, [] => o == e
  | o, f :: r => f.offset == o && contig P e (o + P.cellsOf f.type) r

/-- Types of plain data. -/
def plainT (P : Program) : Nat → TypeId → Bool
  | 0, _ => false
  | k + 1, t => match P.underlying t with
    | some (.int _) => true
    | some .bool => true
    | some .string => true
    | some (.array n e) => plainT P k e && P.cellsOf t == n * P.cellsOf e
    | some (.struct fs) => fs.toList.all (fun f => plainT P k f.type) && contig P (P.cellsOf t) 0 fs.toList
    | _ => false

section
variable {H : Type} {enc : TypeId × Value → H} {P : Program} {w : World} {base : Nat} {sp : Nat → Bool} {held : Bool}

theorem flat_fields {k m : Nat} (ih : ∀ (t : TypeId) (cs : List Value) (d : DataW H) (p : List MemPlace), plainT P k t = true → DataW.trod enc P w base sp held m t cs = some (d, p) → cs = flatD k d) (cs : List Value) :
    ∀ (fs : List Field) (xs : List (DataW H × List MemPlace)) (o : Nat), contig P cs.length o fs = true → fs.all (fun f => plainT P k f.type) = true → xs.length = fs.length →
      (∀ (i : Nat) (f : Field), fs[i]? = some f → DataW.trod enc P w base sp held m f.type ((cs.drop f.offset).take (P.cellsOf f.type)) = xs[i]?) → cs.drop o = (xs.map (·.1)).flatMap (flatD k)
  | [], xs, o, hc, _, hl, _ => by
    have : xs = [] := List.length_eq_zero_iff.1 hl
    subst this
    have ho : o = cs.length := by simpa [contig] using hc
    simp [ho]
  | f :: fs, [], o, _, _, hl, _ => by simp at hl
  | f :: fs, x :: xs, o, hc, ha, hl, h => by
    simp only [contig, Bool.and_eq_true, beq_iff_eq] at hc
    simp only [List.all_cons, Bool.and_eq_true] at ha
    have h0 := h 0 f rfl
    simp only [List.getElem?_cons_zero] at h0
    have e0 := ih f.type _ x.1 x.2 ha.1 h0
    have er := flat_fields ih cs fs xs (o + P.cellsOf f.type) hc.2 ha.2 (by simpa using hl) (fun i g hg => by have := h (i + 1) g (by simpa using hg); simpa using this)
    simp only [List.map_cons, List.flatMap_cons]
    rw [← e0, ← er, hc.1, ← List.drop_drop]
    exact (List.take_append_drop _ _).symm

theorem flat_elems {k m e : Nat} (ih : ∀ (t : TypeId) (cs : List Value) (d : DataW H) (p : List MemPlace), plainT P k t = true → DataW.trod enc P w base sp held m t cs = some (d, p) → cs = flatD k d) (hp : plainT P k e = true) (cs : List Value) :
    ∀ (xs : List (DataW H × List MemPlace)) (o : Nat), cs.length = (o + xs.length) * P.cellsOf e →
      (∀ (i : Nat), i < xs.length → DataW.trod enc P w base sp held m e ((cs.drop ((o + i) * P.cellsOf e)).take (P.cellsOf e)) = xs[i]?) → cs.drop (o * P.cellsOf e) = (xs.map (·.1)).flatMap (flatD k)
  | [], o, hl, _ => by
    simp only [List.length_nil, Nat.add_zero] at hl
    simp [← hl]
  | x :: xs, o, hl, h => by
    have h0 := h 0 (by simp)
    simp only [List.getElem?_cons_zero, Nat.add_zero] at h0
    have e0 := ih e _ x.1 x.2 hp h0
    have er := flat_elems ih hp cs xs (o + 1) (by rw [hl]; congr 1; simp; omega) (fun i hi => by have := h (i + 1) (by simpa using hi); rw [show o + 1 + i = o + (i + 1) by omega]; simpa using this)
    simp only [List.map_cons, List.flatMap_cons]
    rw [← e0, ← er, Nat.add_mul, Nat.one_mul, ← List.drop_drop]
    exact (List.take_append_drop _ _).symm

theorem flat_of_trod : ∀ (k m : Nat) (t : TypeId) (cs : List Value) (d : DataW H) (p : List MemPlace), plainT P k t = true → DataW.trod enc P w base sp held m t cs = some (d, p) → cs = flatD k d
  | 0, _, _, _, _, _, hp, _ => by simp [plainT] at hp
  | k + 1, m, t, cs, d, p, hp, h => by
    unfold plainT at hp
    split at hp
    · rename_i kd ht
      obtain ⟨n, rfl, hx, _⟩ := DataW.trod_int ht h
      simp only [Prod.mk.injEq] at hx
      rw [hx.1]; rfl
    · rename_i ht
      obtain ⟨n, rfl, hx⟩ := DataW.trod_bool ht h
      simp only [Prod.mk.injEq] at hx
      rw [hx.1]; rfl
    · rename_i ht
      obtain ⟨s, rfl, hx, _⟩ := DataW.trod_string ht h
      simp only [Prod.mk.injEq] at hx
      rw [hx.1]; simp [flatD]
    · rename_i n e ht
      simp only [Bool.and_eq_true, beq_iff_eq] at hp
      obtain ⟨xs, m', _, hx, hl, hn, hi⟩ := DataW.trod_array ht h
      simp only [Prod.mk.injEq] at hx
      have := flat_elems (fun t cs d p a b => flat_of_trod k m' t cs d p a b) hp.1 cs xs 0 (by rw [hl, hp.2, hn]; simp) (fun i hlt => by simpa using hi i (by omega))
      rw [hx.1]
      simpa [flatD] using this
    · rename_i fs ht
      simp only [Bool.and_eq_true] at hp
      obtain ⟨xs, m', _, hx, hl, hn, hi⟩ := DataW.trod_struct ht h
      simp only [Prod.mk.injEq] at hx
      have := flat_fields (fun t cs d p a b => flat_of_trod k m' t cs d p a b) cs fs.toList xs 0 (by rw [hl]; exact hp.2) hp.1 (by simpa using hn) (fun i f hf => hi i f (by simpa using hf))
      rw [hx.1]
      simpa [flatD] using this
    · cases hp

end

/-- The first listed variable's cells. -/
theorem cells_of_head {P : Program} {W : World} {name : String} {d : DataW Unit} {rest : List (String × DataW Unit)} {g : Nat} {t : TypeId} (k : Nat)
    (hg : P.globalNamed name = some g) (hty : (P.globals[g]?).map (·.type) = some t) (hp : plainT P k t = true) (h : laidMet P ((name, d) :: rest) W) :
    (∃ et fr, W.heap[g]? = some (.cells (flatD k d).toArray et fr)) := by
  obtain ⟨ps, ⟨g', t', cs, fuel, p, q, h1, h2, h3, h4, _, _⟩, _, _⟩ := h
  obtain rfl : g' = g := Option.some.inj (h1.symm.trans hg)
  obtain rfl : t' = t := Option.some.inj (h2.symm.trans hty)
  have e := flat_of_trod k fuel t' cs.toList d p hp h4
  unfold World.var? at h3
  rw [hg] at h3
  simp only [Option.bind_some] at h3
  split at h3
  · rename_i c et fr hh
    simp only [Option.some.injEq] at h3
    subst h3
    exact ⟨et, fr, by rw [hh, ← e]⟩
  · cases h3

end Go.Proofs.YtpachmkklppmjaaDoor
