/- The binary format of images, in plain words: no program here. -/
set_option linter.unusedVariables false
set_option linter.unusedSimpArgs false
namespace Go.Proofs.YtepldfnplfhncaaDoor
/-- the k low bytes of a number, the most significant one first -/
def be : Nat → Nat → List Nat
  | 0, _ => []
  | k+1, x => (x / 256 ^ k % 256) :: be k x
/-- the number that bytes make -/
def ofB (l : List Nat) : Nat := l.foldl (fun n c => n * 256 + c) 0
theorem be_len (k x : Nat) : (be k x).length = k := by
  induction k with
  | zero => rfl
  | succ k ih => simp [be, ih]
theorem be_byte (k x : Nat) : ∀ c ∈ be k x, c < 256 := by
  induction k with
  | zero => simp [be]
  | succ k ih => intro c hc; rcases List.mem_cons.1 hc with rfl | h; exact Nat.mod_lt _ (by decide); exact ih c h
theorem fold_add (l : List Nat) : ∀ n, l.foldl (fun n c => n * 256 + c) n = n * 256 ^ l.length + ofB l := by
  induction l with
  | nil => intro n; simp [ofB]
  | cons a l ih =>
    intro n
    have h1 := ih (n * 256 + a)
    have h2 := ih (0 * 256 + a)
    unfold ofB
    rw [List.foldl_cons, List.foldl_cons, h1, h2, List.length_cons, Nat.pow_succ]
    rw [Nat.zero_mul, Nat.zero_add, Nat.add_mul, Nat.mul_assoc, Nat.mul_comm 256, Nat.add_assoc]
theorem ofB_cons (a : Nat) (l : List Nat) : ofB (a :: l) = a * 256 ^ l.length + ofB l := by
  have := fold_add l a
  unfold ofB
  rw [List.foldl_cons, Nat.zero_mul, Nat.zero_add]; exact this
theorem ofB_be (k x : Nat) : ofB (be k x) = x % 256 ^ k := by
  induction k with
  | zero => simp [be, ofB, Nat.mod_one]
  | succ k ih =>
    unfold be
    rw [ofB_cons, be_len, ih, Nat.pow_succ, Nat.mod_mul, Nat.mul_comm, Nat.add_comm]
theorem ofB_lt (l : List Nat) (h : ∀ c ∈ l, c < 256) : ofB l < 256 ^ l.length := by
  induction l with
  | nil => decide
  | cons a l ih =>
    rw [ofB_cons, List.length_cons, Nat.pow_succ]
    have h1 := ih (fun c hc => h c (List.mem_cons_of_mem _ hc))
    have h2 := h a (List.mem_cons_self ..)
    calc a * 256 ^ l.length + ofB l < a * 256 ^ l.length + 256 ^ l.length := by omega
      _ = (a + 1) * 256 ^ l.length := by rw [Nat.add_mul, Nat.one_mul]
      _ ≤ 256 * 256 ^ l.length := Nat.mul_le_mul_right _ (by omega)
      _ = 256 ^ l.length * 256 := Nat.mul_comm _ _
theorem be_ofB (l : List Nat) (h : ∀ c ∈ l, c < 256) : be l.length (ofB l) = l := by
  induction l with
  | nil => rfl
  | cons a l ih =>
    have hl := fun c hc => h c (List.mem_cons_of_mem _ hc)
    have h1 := ofB_lt l hl
    have h2 := h a (List.mem_cons_self ..)
    have key : ∀ k, k ≤ l.length → be k (a * 256 ^ l.length + ofB l) = be k (ofB l) := by
      intro k
      induction k with
      | zero => intro _; rfl
      | succ k ihk =>
        intro hk
        unfold be
        rw [ihk (by omega)]
        congr 1
        have e : a * 256 ^ l.length = 256 ^ k * (a * 256 ^ (l.length - k - 1) * 256) := by
          have : l.length = k + ((l.length - k - 1) + 1) := by omega
          have h3 : 256 ^ l.length = 256 ^ k * (256 ^ (l.length - k - 1) * 256) := by
            rw [← Nat.pow_succ, ← Nat.pow_add]; congr 1
          rw [h3, Nat.mul_left_comm, Nat.mul_assoc]
        rw [e, Nat.mul_add_div (Nat.pow_pos (by decide)), Nat.add_comm, Nat.add_mul_mod_self_right]
    rw [List.length_cons, ofB_cons]
    unfold be
    rw [key l.length (Nat.le_refl _), ih hl]
    congr 1
    rw [Nat.mul_comm, Nat.mul_add_div (Nat.pow_pos (by decide)), Nat.div_eq_of_lt h1, Nat.add_zero, Nat.mod_eq_of_lt h2]

/-- A reader: the bytes that are left, and whether there were too few. -/
abbrev Rd := List Nat × Bool
def takeR (k : Nat) (r : Rd) : List Nat × Rd := if r.2 = true ∨ r.1.length < k then ([], (r.1, true)) else (r.1.take k, (r.1.drop k, r.2))
def numR (k : Nat) (r : Rd) : Nat × Rd := (ofB (takeR k r).1, (takeR k r).2)

structure Ent where
  nm : List Nat
  st : Nat
  fin : Nat
  dat : Nat
def entB (e : Ent) : List Nat := be 1 e.nm.length ++ (e.nm ++ (be 2 e.st ++ (be 2 e.fin ++ be 2 e.dat)))
def entR (r : Rd) : Ent × Rd :=
  let a := numR 1 r
  let b := takeR a.1 a.2
  let c := numR 2 b.2
  let d := numR 2 c.2
  let e := numR 2 d.2
  (⟨b.1, c.1, d.1, e.1⟩, e.2)
def manyR {α : Type} (f : Rd → α × Rd) : Nat → Rd → List α × Rd
  | 0, r => ([], r)
  | n+1, r => let a := f r; let b := manyR f n a.2; (a.1 :: b.1, b.2)
structure Img where
  sh : Nat
  lk : Nat
  ents : List Ent
  code : List Nat
def imgB (im : Img) : List Nat := be 2 im.sh ++ (be 1 im.lk ++ (be 1 im.ents.length ++ (im.ents.flatMap entB ++ (be 2 im.code.length ++ im.code.flatMap (be 4)))))
def imgR (r : Rd) : Img × Rd :=
  let a := numR 2 r
  let b := numR 1 a.2
  let c := numR 1 b.2
  let d := manyR entR c.1 c.2
  let e := numR 2 d.2
  let f := manyR (numR 4) e.1 e.2
  (⟨a.1, b.1, d.1, f.1⟩, f.2)

/-- What a reading function does: where it ends well it has taken a head whose bytes B says, whatever stands behind. -/
structure Reads {α : Type} (f : Rd → α × Rd) (B : α → List Nat) (ok : α → Prop) : Prop where
  /-- ended stays ended -/
  stuck : ∀ l, (f (l, true)).2.2 = true
  /-- what is taken -/
  taken : ∀ l, (∀ c ∈ l, c < 256) → (f (l, false)).2.2 = false → l = B (f (l, false)).1 ++ (f (l, false)).2.1 ∧ ok (f (l, false)).1
  /-- what is written is read, whatever stands behind -/
  back : ∀ x t, ok x → f (B x ++ t, false) = (x, (t, false))
theorem takeR_ok (k : Nat) (l t : List Nat) (h : l.length = k) : takeR k (l ++ t, false) = (l, (t, false)) := by
  subst h
  unfold takeR
  rw [if_neg (by simp)]
  simp
theorem takeR_inv (k : Nat) (l : List Nat) (h : (takeR k (l, false)).2.2 = false) : l = (takeR k (l, false)).1 ++ (takeR k (l, false)).2.1 ∧ (takeR k (l, false)).1.length = k := by
  unfold takeR at h ⊢
  by_cases hk : (false = true ∨ l.length < k)
  · rw [if_pos hk] at h; cases h
  · rw [if_neg hk]
    have : ¬ l.length < k := fun h => hk (.inr h)
    exact ⟨(List.take_append_drop k l).symm, by rw [List.length_take]; show min k l.length = k; omega⟩
theorem takeR_stuck (k : Nat) (l : List Nat) : (takeR k (l, true)).2.2 = true := by unfold takeR; rw [if_pos (.inl rfl)]
theorem num_reads (k : Nat) : Reads (numR k) (be k) (fun x => x < 256 ^ k) := by
  refine ⟨fun l => takeR_stuck k l, fun l hb h => ?_, fun x t hx => ?_⟩
  · obtain ⟨h1, h2⟩ := takeR_inv k l h
    have hb2 : ∀ c ∈ (takeR k (l, false)).1, c < 256 := fun c hc => hb c (by rw [h1]; exact List.mem_append_left _ hc)
    refine ⟨?_, ?_⟩
    · show l = be k (ofB (takeR k (l, false)).1) ++ (takeR k (l, false)).2.1
      have h3 := be_ofB _ hb2
      rw [h2] at h3
      rw [h3]; exact h1
    · show ofB (takeR k (l, false)).1 < 256 ^ k
      have := ofB_lt _ hb2
      rw [h2] at this; exact this
  · unfold numR
    rw [takeR_ok k _ t (be_len k x)]
    show (ofB (be k x), (t, false)) = _
    rw [ofB_be, Nat.mod_eq_of_lt hx]
theorem Reads.alive {α : Type} {f : Rd → α × Rd} {B : α → List Nat} {ok : α → Prop} (h : Reads f B ok) {r : Rd} (hr : (f r).2.2 = false) : r.2 = false := by
  obtain ⟨l, b⟩ := r
  cases b
  · rfl
  · rw [h.stuck] at hr; cases hr
theorem many_reads {α : Type} {f : Rd → α × Rd} {B : α → List Nat} {ok : α → Prop} (h : Reads f B ok) (n : Nat) : Reads (manyR f n) (fun l => l.flatMap B) (fun l => l.length = n ∧ ∀ x ∈ l, ok x) := by
  induction n with
  | zero => exact ⟨fun l => rfl, fun l _ _ => ⟨rfl, rfl, by simp [manyR]⟩, fun x t hx => by have : x = [] := List.length_eq_zero_iff.1 hx.1; subst this; rfl⟩
  | succ n ih =>
    refine ⟨fun l => ?_, fun l hb he => ?_, fun x t hx => ?_⟩
    · show (manyR f n (f (l, true)).2).2.2 = true
      have h1 := h.stuck l
      generalize (f (l, true)).2 = r at h1
      obtain ⟨r1, r2⟩ := r
      have : r2 = true := h1
      subst this
      exact ih.stuck r1
    · have he' : (manyR f n (f (l, false)).2).2.2 = false := he
      have h1 := ih.alive he'
      obtain ⟨h2, h3⟩ := h.taken l hb h1
      show l = ((f (l, false)).1 :: (manyR f n (f (l, false)).2).1).flatMap B ++ (manyR f n (f (l, false)).2).2.1 ∧ (((f (l, false)).1 :: (manyR f n (f (l, false)).2).1).length = n + 1 ∧ ∀ z ∈ (f (l, false)).1 :: (manyR f n (f (l, false)).2).1, ok z)
      generalize hf : f (l, false) = y at h1 h2 h3 he' ⊢
      obtain ⟨x, r1, r2⟩ := y
      have : r2 = false := h1
      subst this
      obtain ⟨h4, h5, h6⟩ := ih.taken r1 (fun c hc => hb c (by rw [h2]; exact List.mem_append_right _ hc)) he'
      refine ⟨?_, by rw [List.length_cons, h5], ?_⟩
      · rw [List.flatMap_cons, List.append_assoc, ← h4]; exact h2
      · intro z hz
        rcases List.mem_cons.1 hz with rfl | hz
        · exact h3
        · exact h6 z hz
    · match x, hx with
      | a :: x, hx =>
        rw [List.flatMap_cons, List.append_assoc]
        show ((f (B a ++ (x.flatMap B ++ t), false)).1 :: (manyR f n (f (B a ++ (x.flatMap B ++ t), false)).2).1, (manyR f n (f (B a ++ (x.flatMap B ++ t), false)).2).2) = _
        rw [h.back a _ (hx.2 a (List.mem_cons_self ..))]
        rw [ih.back x t ⟨by have := hx.1; simpa using this, fun z hz => hx.2 z (List.mem_cons_of_mem _ hz)⟩]

def entOk (e : Ent) : Prop := e.nm.length < 256 ∧ e.st < 65536 ∧ e.fin < 65536 ∧ e.dat < 65536
theorem take_alive {k : Nat} {r : Rd} (h : (takeR k r).2.2 = false) : r.2 = false := by
  obtain ⟨l, b⟩ := r
  cases b
  · rfl
  · rw [takeR_stuck] at h; cases h
theorem rd_eta {r : Rd} (h : r.2 = false) : r = (r.1, false) := by obtain ⟨l, b⟩ := r; simp at h; rw [h]

theorem ent_reads : Reads entR entB entOk := by
  refine ⟨fun l => ?_, fun l hb he => ?_, fun x t hx => ?_⟩
  · have h1 : (numR 1 (l, true)).2.2 = true := (num_reads 1).stuck l
    unfold entR
    generalize numR 1 (l, true) = a at h1
    obtain ⟨a0, a1, a2⟩ := a
    simp only at h1
    subst h1
    have h2 := takeR_stuck a0 a1
    simp only
    generalize takeR a0 (a1, true) = b at h2
    obtain ⟨b0, b1, b2⟩ := b
    simp only at h2
    subst h2
    have h3 := (num_reads 2).stuck b1
    simp only
    generalize numR 2 (b1, true) = c at h3
    obtain ⟨c0, c1, c2⟩ := c
    simp only at h3
    subst h3
    have h4 := (num_reads 2).stuck c1
    simp only
    generalize numR 2 (c1, true) = d at h4
    obtain ⟨d0, d1, d2⟩ := d
    simp only at h4
    subst h4
    exact (num_reads 2).stuck d1
  · have h5 : (numR 2 (numR 2 (numR 2 (takeR (numR 1 (l, false)).1 (numR 1 (l, false)).2).2).2).2).2.2 = false := he
    show l = entB ⟨(takeR (numR 1 (l, false)).1 (numR 1 (l, false)).2).1, (numR 2 (takeR (numR 1 (l, false)).1 (numR 1 (l, false)).2).2).1, (numR 2 (numR 2 (takeR (numR 1 (l, false)).1 (numR 1 (l, false)).2).2).2).1, (numR 2 (numR 2 (numR 2 (takeR (numR 1 (l, false)).1 (numR 1 (l, false)).2).2).2).2).1⟩ ++ (numR 2 (numR 2 (numR 2 (takeR (numR 1 (l, false)).1 (numR 1 (l, false)).2).2).2).2).2.1 ∧ entOk ⟨(takeR (numR 1 (l, false)).1 (numR 1 (l, false)).2).1, (numR 2 (takeR (numR 1 (l, false)).1 (numR 1 (l, false)).2).2).1, (numR 2 (numR 2 (takeR (numR 1 (l, false)).1 (numR 1 (l, false)).2).2).2).1, (numR 2 (numR 2 (numR 2 (takeR (numR 1 (l, false)).1 (numR 1 (l, false)).2).2).2).2).1⟩
    have h4 := (num_reads 2).alive h5
    have h3 := (num_reads 2).alive h4
    have h2 := (num_reads 2).alive h3
    have h1 := take_alive h2
    obtain ⟨t1, k1⟩ := (num_reads 1).taken l hb h1
    have e1 := rd_eta h1
    generalize hA : numR 1 (l, false) = A at *
    obtain ⟨a0, a1, a2⟩ := A
    simp only at h1 t1 k1 e1 h2 h3 h4 h5 ⊢
    subst h1
    have hb1 : ∀ c ∈ a1, c < 256 := fun c hc => hb c (by rw [t1]; exact List.mem_append_right _ hc)
    obtain ⟨t2, k2⟩ := takeR_inv a0 a1 h2
    generalize takeR a0 (a1, false) = B at *
    obtain ⟨b0, b1, b2⟩ := B
    simp only at h2 t2 k2 h3 h4 h5 ⊢
    subst h2
    have hb2 : ∀ c ∈ b1, c < 256 := fun c hc => hb1 c (by rw [t2]; exact List.mem_append_right _ hc)
    obtain ⟨t3, k3⟩ := (num_reads 2).taken b1 hb2 h3
    generalize numR 2 (b1, false) = C at *
    obtain ⟨c0, c1, c2⟩ := C
    simp only at h3 t3 k3 h4 h5 ⊢
    subst h3
    have hb3 : ∀ c ∈ c1, c < 256 := fun c hc => hb2 c (by rw [t3]; exact List.mem_append_right _ hc)
    obtain ⟨t4, k4⟩ := (num_reads 2).taken c1 hb3 h4
    generalize numR 2 (c1, false) = D at *
    obtain ⟨d0, d1, d2⟩ := D
    simp only at h4 t4 k4 h5 ⊢
    subst h4
    have hb4 : ∀ c ∈ d1, c < 256 := fun c hc => hb3 c (by rw [t4]; exact List.mem_append_right _ hc)
    obtain ⟨t5, k5⟩ := (num_reads 2).taken d1 hb4 h5
    generalize numR 2 (d1, false) = E at *
    obtain ⟨f0, f1, f2⟩ := E
    simp only at t5 k5 ⊢
    refine ⟨?_, by show b0.length < 256; rw [k2]; exact k1, k3, k4, k5⟩
    unfold entB
    simp only [List.append_assoc]
    rw [← t5, ← t4, ← t3, k2, ← t2]
    exact t1
  · unfold entB entR
    simp only [List.append_assoc]
    rw [(num_reads 1).back _ _ hx.1]
    simp only
    rw [takeR_ok _ _ _ rfl]
    simp only
    rw [(num_reads 2).back _ _ hx.2.1]
    simp only
    rw [(num_reads 2).back _ _ hx.2.2.1]
    simp only
    rw [(num_reads 2).back _ _ hx.2.2.2]

def imgOk (im : Img) : Prop := im.sh < 65536 ∧ im.lk < 256 ∧ im.ents.length < 256 ∧ (∀ e ∈ im.ents, entOk e) ∧ im.code.length < 65536 ∧ ∀ c ∈ im.code, c < 4294967296
theorem img_reads : Reads imgR imgB imgOk := by
  have M := fun n => many_reads ent_reads n
  have W := fun n => many_reads (num_reads 4) n
  refine ⟨fun l => ?_, fun l hb he => ?_, fun x t hx => ?_⟩
  · unfold imgR
    have h1 := (num_reads 2).stuck l
    simp only
    generalize numR 2 (l, true) = a at h1
    obtain ⟨a0, a1, a2⟩ := a
    simp only at h1
    subst h1
    have h2 := (num_reads 1).stuck a1
    simp only
    generalize numR 1 (a1, true) = b at h2
    obtain ⟨b0, b1, b2⟩ := b
    simp only at h2
    subst h2
    have h3 := (num_reads 1).stuck b1
    simp only
    generalize numR 1 (b1, true) = c at h3
    obtain ⟨c0, c1, c2⟩ := c
    simp only at h3
    subst h3
    have h4 := (M c0).stuck c1
    simp only
    generalize manyR entR c0 (c1, true) = d at h4
    obtain ⟨d0, d1, d2⟩ := d
    simp only at h4
    subst h4
    have h5 := (num_reads 2).stuck d1
    simp only
    generalize numR 2 (d1, true) = e at h5
    obtain ⟨e0, e1, e2⟩ := e
    simp only at h5
    subst h5
    exact (W e0).stuck e1
  · unfold imgR at he ⊢
    simp only at he ⊢
    have h5 := (W _).alive he
    have h4 := (num_reads 2).alive h5
    have h3 := (M _).alive h4
    have h2 := (num_reads 1).alive h3
    have h1 := (num_reads 1).alive h2
    obtain ⟨t1, k1⟩ := (num_reads 2).taken l hb h1
    generalize numR 2 (l, false) = A at *
    obtain ⟨a0, a1, a2⟩ := A
    simp only at h1 t1 k1 h2 h3 h4 h5 he ⊢
    subst h1
    have hb1 : ∀ c ∈ a1, c < 256 := fun c hc => hb c (by rw [t1]; exact List.mem_append_right _ hc)
    obtain ⟨t2, k2⟩ := (num_reads 1).taken a1 hb1 h2
    generalize numR 1 (a1, false) = B at *
    obtain ⟨b0, b1, b2⟩ := B
    simp only at h2 t2 k2 h3 h4 h5 he ⊢
    subst h2
    have hb2 : ∀ c ∈ b1, c < 256 := fun c hc => hb1 c (by rw [t2]; exact List.mem_append_right _ hc)
    obtain ⟨t3, k3⟩ := (num_reads 1).taken b1 hb2 h3
    generalize numR 1 (b1, false) = C at *
    obtain ⟨c0, c1, c2⟩ := C
    simp only at h3 t3 k3 h4 h5 he ⊢
    subst h3
    have hb3 : ∀ c ∈ c1, c < 256 := fun c hc => hb2 c (by rw [t3]; exact List.mem_append_right _ hc)
    obtain ⟨t4, k4, k4'⟩ := (M c0).taken c1 hb3 h4
    generalize manyR entR c0 (c1, false) = D at *
    obtain ⟨d0, d1, d2⟩ := D
    simp only at h4 t4 k4 k4' h5 he ⊢
    subst h4
    have hb4 : ∀ c ∈ d1, c < 256 := fun c hc => hb3 c (by rw [t4]; exact List.mem_append_right _ hc)
    obtain ⟨t5, k5⟩ := (num_reads 2).taken d1 hb4 h5
    generalize numR 2 (d1, false) = E at *
    obtain ⟨e0, e1, e2⟩ := E
    simp only at h5 t5 k5 he ⊢
    subst h5
    have hb5 : ∀ c ∈ e1, c < 256 := fun c hc => hb4 c (by rw [t5]; exact List.mem_append_right _ hc)
    obtain ⟨t6, k6, k6'⟩ := (W e0).taken e1 hb5 he
    generalize manyR (numR 4) e0 (e1, false) = F at *
    obtain ⟨f0, f1, f2⟩ := F
    simp only at t6 k6 k6' ⊢
    refine ⟨?_, k1, k2, by show d0.length < 256; rw [k4]; exact k3, k4', by show f0.length < 65536; rw [k6]; exact k5, k6'⟩
    unfold imgB
    simp only [List.append_assoc]
    rw [k6, ← t6, ← t5, ← t4, k4, ← t3, ← t2]
    exact t1
  · obtain ⟨x1, x2, x3, x4, x5, x6⟩ := hx
    unfold imgB imgR
    simp only [List.append_assoc]
    rw [(num_reads 2).back _ _ x1]
    simp only
    rw [(num_reads 1).back _ _ x2]
    simp only
    rw [(num_reads 1).back _ _ x3]
    simp only
    rw [(M _).back _ _ ⟨rfl, x4⟩]
    simp only
    rw [(num_reads 2).back _ _ x5]
    simp only
    rw [(W _).back _ _ ⟨rfl, x6⟩]
/-- A head of a binary format is not read to its end. -/
theorem img_cut (im : Img) (h : imgOk im) (hb : ∀ c ∈ imgB im, c < 256) (n : Nat) (hn : n < (imgB im).length) : (imgR ((imgB im).take n, false)).2.2 = true := by
  cases hc : (imgR ((imgB im).take n, false)).2.2 with
  | true => rfl
  | false =>
    exfalso
    obtain ⟨h1, h2⟩ := img_reads.taken _ (fun c hc => hb c (List.mem_of_mem_take hc)) hc
    generalize imgR ((imgB im).take n, false) = r at h1 h2
    have h3 := img_reads.back im [] h
    have h4 := img_reads.back r.1 (r.2.1 ++ (imgB im).drop n) h2
    rw [← List.append_assoc, ← h1, List.take_append_drop] at h4
    rw [List.append_nil] at h3
    rw [h3] at h4
    have h5 : ([] : List Nat) = r.2.1 ++ (imgB im).drop n := congrArg (fun x => x.2.1) h4
    have h6 := congrArg List.length h5
    rw [List.length_append, List.length_drop] at h6
    simp at h6; omega
theorem img_more (im : Img) (h : imgOk im) (t : List Nat) : imgR (imgB im ++ t, false) = (im, (t, false)) := img_reads.back im t h
end Go.Proofs.YtepldfnplfhncaaDoor
