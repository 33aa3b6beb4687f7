/-
  Sweep, in plain Lean: a line that passes over boxes finds each two of them that meet, once.
-/
namespace Go.Proofs.Ytnojfiokdhcbjaa

/-- A box: its sides, its place, and of which list it is. -/
structure Bx where
  l : Rat
  r : Rat
  b : Rat
  t : Rat
  i : Nat
  s : Bool

def passes (x y : Bx) : Bool := !decide (y.r < x.l)
def hits (x y : Bx) : Bool := !decide (x.t < y.b) && !decide (y.t < x.b)
def meets (x y : Bx) : Bool := passes x y && passes y x && hits x y
def pairB (x y : Bx) : Nat × Nat := if x.s then (y.i, x.i) else (x.i, y.i)

structure SwS where
  o0 : List Bx
  o1 : List Bx
  out : List (Nat × Nat)
def SwS.o (s : SwS) : Bool → List Bx
  | false => s.o0
  | true => s.o1

def stepS (st : SwS) (x : Bx) : SwS :=
  if x.s then ⟨st.o0.filter (passes x), st.o1 ++ [x], st.out ++ ((st.o0.filter (passes x)).filter (hits x)).map (pairB x)⟩
  else ⟨st.o0 ++ [x], st.o1.filter (passes x), st.out ++ ((st.o1.filter (passes x)).filter (hits x)).map (pairB x)⟩

theorem step_out (st : SwS) (x : Bx) : (stepS st x).out = st.out ++ (((st.o (!x.s)).filter (passes x)).filter (hits x)).map (pairB x) := by
  unfold stepS
  cases h : x.s <;> simp [SwS.o]
theorem step_own (st : SwS) (x : Bx) : (stepS st x).o x.s = st.o x.s ++ [x] := by
  unfold stepS
  cases h : x.s <;> simp [SwS.o]
theorem step_other (st : SwS) (x : Bx) : (stepS st x).o (!x.s) = (st.o (!x.s)).filter (passes x) := by
  unfold stepS
  cases h : x.s <;> simp [SwS.o]

theorem hits_comm (x y : Bx) : hits x y = hits y x := by unfold hits; rw [Bool.and_comm]
theorem meets_comm (x y : Bx) : meets x y = meets y x := by unfold meets; rw [hits_comm, Bool.and_comm (passes x y)]
theorem meets_iff {x y : Bx} : meets x y = true ↔ passes x y = true ∧ passes y x = true ∧ hits x y = true := by
  unfold meets
  simp only [Bool.and_eq_true, and_assoc]
theorem passes_iff {x y : Bx} : passes x y = true ↔ ¬ y.r < x.l := by simp [passes]

structure SwI (P : List Bx) (st : SwS) : Prop where
  sub : ∀ c, (st.o c).Sublist (P.filter fun x => x.s == c)
  gone : ∀ y, y ∈ P → y ∉ st.o y.s → ∃ x, x ∈ P ∧ y.r < x.l
  mem : ∀ p, p ∈ st.out ↔ ∃ x y, x ∈ P ∧ y ∈ P ∧ x.s = false ∧ y.s = true ∧ meets x y = true ∧ p = (x.i, y.i)
  nd : st.out.Nodup

theorem SwI.of {P : List Bx} {st : SwS} (h : SwI P st) {c : Bool} {y : Bx} (hy : y ∈ st.o c) : y ∈ P ∧ y.s = c := by
  have := (h.sub c).mem hy
  simpa using this

theorem Bx.bool {a b : Bool} (h : a ≠ b) : a = !b := by cases a <;> cases b <;> simp_all

theorem SwI.step {P : List Bx} {st : SwS} (h : SwI P st) {x : Bx} (hs : ∀ y, y ∈ P → y.l ≤ x.l) (hP : P.Pairwise fun x y => x.s = y.s → x.i ≠ y.i) (hk : ∀ y, y ∈ P → y.s = x.s → y.i ≠ x.i) (hx : x.l ≤ x.r) : SwI (P ++ [x]) (stepS st x) := by
  have hnew : ∀ p, p ∈ (((st.o (!x.s)).filter (passes x)).filter (hits x)).map (pairB x) ↔ ∃ y, y ∈ P ∧ y.s = !x.s ∧ meets x y = true ∧ p = pairB x y := by
    intro p
    simp only [List.mem_map, List.mem_filter]
    constructor
    · rintro ⟨y, ⟨⟨h1, h2⟩, h3⟩, rfl⟩
      obtain ⟨h4, h5⟩ := h.of h1
      refine ⟨y, h4, h5, meets_iff.2 ⟨h2, passes_iff.2 ?_, h3⟩, rfl⟩
      exact Rat.not_lt.2 (Rat.le_trans (hs y h4) hx)
    · rintro ⟨y, h1, h2, h3, rfl⟩
      obtain ⟨h4, h5, h6⟩ := meets_iff.1 h3
      refine ⟨y, ⟨⟨?_, h4⟩, h6⟩, rfl⟩
      rw [← h2]
      refine Classical.byContradiction fun hn => ?_
      obtain ⟨z, hz, hzr⟩ := h.gone y h1 hn
      exact passes_iff.1 h4 (Rat.not_le.1 fun hh => Rat.not_le.2 hzr (Rat.le_trans (hs z hz) hh))
  refine ⟨fun c => ?_, fun y hy hn => ?_, fun p => ?_, ?_⟩
  · rw [List.filter_append]
    by_cases hc : x.s = c
    · subst hc
      rw [step_own]
      simpa using h.sub x.s
    · have e : c = !x.s := Bx.bool (Ne.symm hc)
      subst e
      rw [step_other]
      have : [x].filter (fun z => z.s == !x.s) = [] := by simp
      rw [this, List.append_nil]
      exact List.Sublist.trans List.filter_sublist (h.sub _)
  · rcases List.mem_append.1 hy with hy | hy
    · by_cases hc : y.s = x.s
      · rw [hc, step_own] at hn
        obtain ⟨z, hz, hr⟩ := h.gone y hy (by rw [hc]; exact fun hh => hn (List.mem_append_left _ hh))
        exact ⟨z, List.mem_append_left _ hz, hr⟩
      · have e := Bx.bool hc
        rw [e, step_other, List.mem_filter] at hn
        by_cases ho : y ∈ st.o (!x.s)
        · refine ⟨x, by simp, ?_⟩
          have := fun hh => hn ⟨ho, hh⟩
          rw [passes_iff] at this
          exact Classical.not_not.1 this
        · obtain ⟨z, hz, hr⟩ := h.gone y hy (by rw [e]; exact ho)
          exact ⟨z, List.mem_append_left _ hz, hr⟩
    · have e : y = x := by simpa using hy
      subst e
      rw [step_own] at hn
      simp at hn
  · rw [step_out, List.mem_append, h.mem, hnew]
    constructor
    · rintro (⟨a, b, h1, h2, h3⟩ | ⟨y, h1, h2, h3, rfl⟩)
      · exact ⟨a, b, List.mem_append_left _ h1, List.mem_append_left _ h2, h3⟩
      · cases hxs : x.s with
        | true =>
          rw [hxs] at h2
          exact ⟨y, x, List.mem_append_left _ h1, by simp, h2, hxs, by rw [meets_comm]; exact h3, by simp [pairB, hxs]⟩
        | false =>
          rw [hxs] at h2
          exact ⟨x, y, by simp, List.mem_append_left _ h1, hxs, h2, h3, by simp [pairB, hxs]⟩
    · rintro ⟨a, b, h1, h2, h3, h4, h5, rfl⟩
      rcases List.mem_append.1 h1 with g1 | g1 <;> rcases List.mem_append.1 h2 with g2 | g2
      · exact .inl ⟨a, b, g1, g2, h3, h4, h5, rfl⟩
      · have e : b = x := by simpa using g2
        subst e
        exact .inr ⟨a, g1, by rw [h3, h4]; rfl, by rw [meets_comm]; exact h5, by simp [pairB, h4]⟩
      · have e : a = x := by simpa using g1
        subst e
        exact .inr ⟨b, g2, by rw [h3, h4]; rfl, h5, by simp [pairB, h3]⟩
      · have e1 : a = x := by simpa using g1
        have e2 : b = x := by simpa using g2
        subst e1
        subst e2
        rw [h3] at h4
        cases h4
  · rw [step_out, List.nodup_append]
    refine ⟨h.nd, ?_, ?_⟩
    · unfold List.Nodup
      rw [List.pairwise_map]
      have h1 : ((st.o (!x.s)).filter (passes x)).Pairwise fun x y => x.s = y.s → x.i ≠ y.i := ((hP.filter _).sublist (h.sub _)).filter _
      refine (List.Pairwise.filter _ h1).imp_of_mem ?_
      intro a b ha hb hab
      have ha1 := h.of (List.mem_filter.1 (List.mem_filter.1 ha).1).1
      have hb1 := h.of (List.mem_filter.1 (List.mem_filter.1 hb).1).1
      have := hab (ha1.2.trans hb1.2.symm)
      unfold pairB
      cases x.s <;> simp [this]
    · intro p hp q hq e
      subst e
      obtain ⟨a, b, h1, h2, h3, h4, h5, h6⟩ := (h.mem p).1 hp
      obtain ⟨y, h7, h8, h9, h10⟩ := (hnew p).1 hq
      rw [h6] at h10
      unfold pairB at h10
      cases hxs : x.s with
      | true =>
        simp only [hxs, if_true, Prod.mk.injEq] at h10
        exact hk b h2 (by rw [h4, hxs]) h10.2
      | false =>
        simp only [hxs, Bool.false_eq_true, if_false, Prod.mk.injEq] at h10
        exact hk a h1 (by rw [h3, hxs]) h10.1

theorem swept (l : List Bx) : ∀ (P : List Bx) (st : SwS), SwI P st → (P ++ l).Pairwise (fun x y => x.l ≤ y.l) → (P ++ l).Pairwise (fun x y => x.s = y.s → x.i ≠ y.i) → (∀ x, x ∈ l → x.l ≤ x.r) → SwI (P ++ l) (l.foldl stepS st) := by
  induction l with
  | nil => intro P st h _ _ _; simpa using h
  | cons x r ih =>
    intro P st h h1 h2 h3
    have e : P ++ x :: r = P ++ [x] ++ r := by simp
    rw [e] at h1 h2 ⊢
    rw [List.foldl_cons]
    have p1 := List.pairwise_append.1 h1
    have p2 := List.pairwise_append.1 h2
    have q1 := List.pairwise_append.1 p1.1
    have q2 := List.pairwise_append.1 p2.1
    exact ih _ _ (h.step (fun y hy => q1.2.2 y hy x (by simp)) q2.1 (fun y hy => q2.2.2 y hy x (by simp)) (h3 x (by simp))) h1 h2 (fun y hy => h3 y (by simp [hy]))

theorem swept_all {l : List Bx} (h1 : l.Pairwise (fun x y => x.l ≤ y.l)) (h2 : l.Pairwise (fun x y => x.s = y.s → x.i ≠ y.i)) (h3 : ∀ x, x ∈ l → x.l ≤ x.r) : SwI l (l.foldl stepS ⟨[], [], []⟩) := by
  have := swept l [] ⟨[], [], []⟩ ⟨fun c => by cases c <;> exact List.nil_sublist _, by simp, by simp, by simp⟩ h1 h2 h3
  simpa using this

def ltP (p q : Nat × Nat) : Prop := p.1 < q.1 ∨ (p.1 = q.1 ∧ p.2 < q.2)
theorem ltP_irrefl (p : Nat × Nat) : ¬ ltP p p := by unfold ltP; omega
theorem ltP_asymm {p q : Nat × Nat} (h : ltP p q) : ¬ ltP q p := by unfold ltP at *; omega

theorem sorted_one : ∀ {l m : List (Nat × Nat)}, l.Pairwise ltP → m.Pairwise ltP → (∀ p, p ∈ l ↔ p ∈ m) → l = m
  | [], [], _, _, _ => rfl
  | [], q :: m, _, _, h => absurd ((h q).2 (by simp)) (by simp)
  | p :: l, [], _, _, h => absurd ((h p).1 (by simp)) (by simp)
  | p :: l, q :: m, h1, h2, h => by
    obtain ⟨a1, a2⟩ := List.pairwise_cons.1 h1
    obtain ⟨b1, b2⟩ := List.pairwise_cons.1 h2
    have e : p = q := by
      rcases List.mem_cons.1 ((h p).1 (by simp)) with e | e
      · exact e
      · rcases List.mem_cons.1 ((h q).2 (by simp)) with e' | e'
        · exact e'.symm
        · exact absurd (a1 q e') (ltP_asymm (b1 p e))
    subst e
    have hr : ∀ z, z ∈ l ↔ z ∈ m := fun z => by
      constructor
      · intro hz
        rcases List.mem_cons.1 ((h z).1 (by simp [hz])) with e | e
        · subst e; exact absurd (a1 z hz) (ltP_irrefl z)
        · exact e
      · intro hz
        rcases List.mem_cons.1 ((h z).2 (by simp [hz])) with e | e
        · subst e; exact absurd (b1 z hz) (ltP_irrefl z)
        · exact e
    rw [sorted_one a2 b2 hr]

/-- The candidates of two lists of boxes, in their order. -/
def pairsS (a b : List Bx) : List (Nat × Nat) := a.flatMap fun x => (b.filter (meets x)).map fun y => (x.i, y.i)

theorem pairsS_mem {a b : List Bx} {p : Nat × Nat} : p ∈ pairsS a b ↔ ∃ x y, x ∈ a ∧ y ∈ b ∧ meets x y = true ∧ p = (x.i, y.i) := by
  unfold pairsS
  simp only [List.mem_flatMap, List.mem_map, List.mem_filter]
  constructor
  · rintro ⟨x, h1, y, ⟨h2, h3⟩, rfl⟩
    exact ⟨x, y, h1, h2, h3, rfl⟩
  · rintro ⟨x, y, h1, h2, h3, rfl⟩
    exact ⟨x, h1, y, ⟨h2, h3⟩, rfl⟩

theorem pairsS_sorted {a b : List Bx} (ha : a.Pairwise fun x y => x.i < y.i) (hb : b.Pairwise fun x y => x.i < y.i) : (pairsS a b).Pairwise ltP := by
  unfold pairsS
  rw [List.pairwise_flatMap]
  refine ⟨fun x hx => ?_, ha.imp ?_⟩
  · rw [List.pairwise_map]
    exact (hb.filter _).imp fun h => .inr ⟨rfl, h⟩
  · intro x y hxy p hp q hq
    obtain ⟨_, _, rfl⟩ := List.mem_map.1 hp
    obtain ⟨_, _, rfl⟩ := List.mem_map.1 hq
    exact .inl hxy

/-- What the line finds over both lists, in whatever order of the same left side, put in order: the candidates. -/
theorem pairs_found {a b l : List Bx} {out : List (Nat × Nat)} (hp : l.Perm (a ++ b)) (ha : ∀ x, x ∈ a → x.s = false ∧ x.l ≤ x.r) (hb : ∀ x, x ∈ b → x.s = true ∧ x.l ≤ x.r)
    (ia : a.Pairwise fun x y => x.i < y.i) (ib : b.Pairwise fun x y => x.i < y.i) (hs : l.Pairwise fun x y => x.l ≤ y.l)
    (ho : out.Perm (l.foldl stepS ⟨[], [], []⟩).out) (hos : out.Pairwise fun p q => ¬ ltP q p) : out = pairsS a b := by
  have hm : ∀ x, x ∈ l ↔ x ∈ a ∨ x ∈ b := fun x => by rw [hp.mem_iff, List.mem_append]
  have hk : l.Pairwise fun x y => x.s = y.s → x.i ≠ y.i := by
    have h0 : (a ++ b).Pairwise fun x y => x.s = y.s → x.i ≠ y.i := by
      rw [List.pairwise_append]
      refine ⟨List.Pairwise.imp (S := fun x y : Bx => x.s = y.s → x.i ≠ y.i) (fun h _ => Nat.ne_of_lt h) ia, List.Pairwise.imp (S := fun x y : Bx => x.s = y.s → x.i ≠ y.i) (fun h _ => Nat.ne_of_lt h) ib, fun x hx y hy e => ?_⟩
      rw [(ha x hx).1, (hb y hy).1] at e
      cases e
    exact (hp.symm.pairwise_iff (fun h e => (h e.symm).symm)).1 h0
  have hI := swept_all hs hk (fun x hx => ((hm x).1 hx).elim (fun h => (ha x h).2) (fun h => (hb x h).2))
  have hnd : out.Nodup := ho.symm.nodup hI.nd
  refine sorted_one ?_ (pairsS_sorted ia ib) fun p => ?_
  · refine List.Pairwise.imp₂ ?_ hos hnd
    intro p q h1 h2
    unfold ltP at *
    have : p.1 ≠ q.1 ∨ p.2 ≠ q.2 := by
      rcases Nat.decEq p.1 q.1 with h | h
      · exact .inl h
      · right; intro h'; exact h2 (Prod.ext h h')
    omega
  · rw [ho.mem_iff, hI.mem, pairsS_mem]
    constructor
    · rintro ⟨x, y, h1, h2, h3, h4, h5, rfl⟩
      refine ⟨x, y, ?_, ?_, h5, rfl⟩
      · rcases (hm x).1 h1 with h | h
        · exact h
        · rw [(hb x h).1] at h3; cases h3
      · rcases (hm y).1 h2 with h | h
        · rw [(ha y h).1] at h4; cases h4
        · exact h
    · rintro ⟨x, y, h1, h2, h3, rfl⟩
      exact ⟨x, y, (hm x).2 (.inl h1), (hm y).2 (.inr h2), (ha x h1).1, (hb y h2).1, h3, rfl⟩
end Go.Proofs.Ytnojfiokdhcbjaa
