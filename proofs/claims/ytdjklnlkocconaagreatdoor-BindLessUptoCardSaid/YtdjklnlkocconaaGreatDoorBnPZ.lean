/-
  Plain Lean: names and types of a deck's statements: as the program reckons them, and as the reference does. No program in sight.
  Plain Lean: the statements on which one leans: going back over all of them, and going from one to the next. No program in sight.
  Plain Lean: on which statements of a bound deck one leans; a deck without a statement, cut off, with one twice. No program in sight.
-/
import Derived.Test.YtdjklnlkocconaaGreatDoorPlBZ
namespace Go.Proofs.YtdjklnlkocconaaGreatDoor

abbrev Use := List UInt8 × Int

mutual
/-- The names of an expression, each with the type as which it is used. -/
def usesN : Nd → List Use
  | .mk k s l => (if k = 1 then [(s, 1)] else if k = 3 then [(s, 2)] else []) ++ usesNs l
def usesNs : List Nd → List Use
  | [] => []
  | n :: l => usesN n ++ usesNs l
end
def usesSt (x : St) : List Use := usesN x.a ++ usesN x.b

mutual
theorem usesN_as : ∀ (n : Nd) (u : Use), u ∈ usesN n → u.2 = 1 ∨ u.2 = 2
  | .mk k s l, u, h => by
    rw [usesN] at h
    rcases List.mem_append.1 h with h | h
    · split at h
      · rw [List.mem_singleton.1 h]; exact .inl rfl
      · split at h
        · rw [List.mem_singleton.1 h]; exact .inr rfl
        · cases h
    · exact usesNs_as l u h
theorem usesNs_as : ∀ (l : List Nd) (u : Use), u ∈ usesNs l → u.2 = 1 ∨ u.2 = 2
  | [], _, h => by rw [usesNs] at h; cases h
  | n :: l, u, h => by
    rw [usesNs] at h
    rcases List.mem_append.1 h with h | h
    · exact usesN_as n u h
    · exact usesNs_as l u h
end
theorem usesSt_as {x : St} {u : Use} (h : u ∈ usesSt x) : u.2 = 1 ∨ u.2 = 2 := by
  rcases List.mem_append.1 h with h | h
  · exact usesN_as _ u h
  · exact usesN_as _ u h

/-- What a statement of a kind gives. -/
def giveV (k : Int) : Int := if k = 1 ∨ k = 2 then 1 else if k = 3 ∨ k = 4 then 2 else if k = 5 then 3 else 0
theorem giveV_pos {k : Int} (h : 1 ≤ k ∧ k ≤ 5) : 1 ≤ giveV k := by
  unfold giveV
  split
  · decide
  · split
    · decide
    · split
      · decide
      · omega

/-- The place of the first statement of a name; -1: there is none. -/
def placeF : List St → List UInt8 → Nat → Int
  | [], _, _ => -1
  | x :: l, s, i => if x.name = s then i else placeF l s (i + 1)
def placeS (l : List St) (s : List UInt8) : Int := placeF l s 0
/-- What the first statement of a name gives; 0: there is none. -/
def typeIn : List St → List UInt8 → Int
  | [], _ => 0
  | x :: l, s => if x.name = s then giveV x.kind else typeIn l s

theorem placeF_spec (l : List St) : ∀ (s : List UInt8) (i : Nat), (placeF l s i = -1 ∧ typeIn l s = 0 ∧ ∀ x ∈ l, x.name ≠ s) ∨ ∃ (j : Nat) (x : St), placeF l s i = (i + j : Nat) ∧ l[j]? = some x ∧ x.name = s ∧ typeIn l s = giveV x.kind ∧ ∀ y ∈ l.take j, y.name ≠ s := by
  induction l with
  | nil => intro s i; exact .inl ⟨rfl, rfl, by simp⟩
  | cons x l ih =>
    intro s i
    rw [placeF, typeIn]
    by_cases h : x.name = s
    · rw [if_pos h, if_pos h]
      exact .inr ⟨0, x, rfl, rfl, h, rfl, by simp⟩
    · rw [if_neg h, if_neg h]
      rcases ih s (i + 1) with ⟨h1, h2, h3⟩ | ⟨j, y, h1, h2, h3, h4, h5⟩
      · exact .inl ⟨h1, h2, fun y hy => by exact (List.mem_cons.1 hy).elim (fun e => by rw [e]; exact h) (fun hy => h3 y hy)⟩
      · refine .inr ⟨j + 1, y, by rw [h1]; congr 1; omega, by simpa using h2, h3, h4, fun z hz => ?_⟩
        rw [List.take_succ_cons] at hz
        rcases List.mem_cons.1 hz with rfl | hz
        · exact h
        · exact h5 z hz

/-- Is a statement wrong behind those of pre? -/
def badAt (pre : List St) (x : St) : Bool := (usesSt x).any (fun u => typeIn pre u.1 != u.2) || typeIn pre x.name != 0

def checkF : List St → List St → Option Nat
  | _, [] => none
  | pre, x :: r => if badAt pre x then some pre.length else checkF (pre ++ [x]) r

/-- Is a deck bound? -/
def checkS (l : List St) : Int × Int := if (printS l).isSome then (match checkF [] l with | none => (-1, 0) | some i => (i, 22)) else (-1, 3)

def KindsOk (l : List St) : Prop := ∀ x ∈ l, 1 ≤ x.kind ∧ x.kind ≤ 5

theorem typeIn_zero {l : List St} (hk : KindsOk l) {s : List UInt8} : typeIn l s = 0 ↔ ∀ x ∈ l, x.name ≠ s := by
  rcases placeF_spec l s 0 with ⟨_, h2, h3⟩ | ⟨j, x, _, h2, h3, h4, _⟩
  · exact ⟨fun _ => h3, fun _ => h2⟩
  · constructor
    · intro h
      have := giveV_pos (hk x (List.mem_of_getElem? h2))
      omega
    · intro h
      exact absurd h3 (h x (List.mem_of_getElem? h2))

theorem typeIn_app (l m : List St) (s : List UInt8) (h : ∀ x ∈ l, x.name ≠ s) : typeIn (l ++ m) s = typeIn m s := by
  induction l with
  | nil => rfl
  | cons x l ih =>
    rw [List.cons_append, typeIn, if_neg (h x (by simp))]
    exact ih fun y hy => h y (by simp [hy])
theorem typeIn_left (l m : List St) (s : List UInt8) (h : ∃ x ∈ l, x.name = s) : typeIn (l ++ m) s = typeIn l s := by
  induction l with
  | nil => obtain ⟨x, hx, _⟩ := h; cases hx
  | cons x l ih =>
    rw [List.cons_append, typeIn, typeIn]
    by_cases e : x.name = s
    · rw [if_pos e, if_pos e]
    · rw [if_neg e, if_neg e]
      refine ih ?_
      obtain ⟨y, hy, ey⟩ := h
      rcases List.mem_cons.1 hy with rfl | hy
      · exact absurd ey e
      · exact ⟨y, hy, ey⟩

/-- The table of types, behind one statement more. -/
theorem typeIn_snoc {l : List St} (hk : KindsOk l) {x : St} (hx : typeIn l x.name = 0) (s : List UInt8) : typeIn (l ++ [x]) s = if x.name = s then giveV x.kind else typeIn l s := by
  by_cases e : x.name = s
  · subst e
    rw [if_pos rfl, typeIn_app l [x] _ ((typeIn_zero hk).1 hx), typeIn, if_pos rfl]
  · rw [if_neg e]
    by_cases h : ∃ y ∈ l, y.name = s
    · exact typeIn_left l [x] s h
    · have h' : ∀ y ∈ l, y.name ≠ s := fun y hy ey => h ⟨y, hy, ey⟩
      rw [typeIn_app l [x] s h', typeIn, if_neg e, typeIn, (typeIn_zero hk).2 h']

def onceF : List (List UInt8) → List (List UInt8) → List (List UInt8)
  | [], acc => acc
  | s :: r, acc => if acc.contains s then onceF r acc else onceF r (acc ++ [s])
def usesD (x : St) : List (List UInt8) := onceF ((usesSt x).map (·.1)) []

/-- The reference's: behind those of pre. -/
def onceR : List (List UInt8) → List (List UInt8) → List (List UInt8) → List (List UInt8)
  | _, [], out => out
  | pre, s :: r, out => if pre.contains s then onceR (pre ++ [s]) r out else onceR (pre ++ [s]) r (out ++ [s])
theorem onceF_mem (r : List (List UInt8)) : ∀ (acc : List (List UInt8)) (s : List UInt8), s ∈ onceF r acc ↔ s ∈ acc ∨ s ∈ r := by
  induction r with
  | nil => intro acc s; simp [onceF]
  | cons t r ih =>
    intro acc s
    rw [onceF]
    by_cases h : acc.contains t = true
    · rw [if_pos h, ih]
      have ht : t ∈ acc := by simpa using h
      constructor
      · rintro (h1 | h1)
        · exact .inl h1
        · exact .inr (by simp [h1])
      · rintro (h1 | h1)
        · exact .inl h1
        · rcases List.mem_cons.1 h1 with rfl | h1
          · exact .inl ht
          · exact .inr h1
    · rw [if_neg h, ih]
      simp [or_assoc]

theorem checkF_none (r : List St) : ∀ pre : List St, checkF pre r = none ↔ ∀ (i : Nat) (x : St), r[i]? = some x → badAt (pre ++ r.take i) x = false := by
  induction r with
  | nil => intro pre; simp [checkF]
  | cons y r ih =>
    intro pre
    rw [checkF]
    by_cases hb : badAt pre y = true
    · rw [if_pos hb]
      constructor
      · intro h; cases h
      · intro h
        have := h 0 y rfl
        rw [List.take_zero, List.append_nil, hb] at this
        cases this
    · rw [if_neg hb, ih]
      constructor
      · intro h i x hx
        cases i with
        | zero =>
          obtain rfl : y = x := by simpa using hx
          rw [List.take_zero, List.append_nil]
          simpa using hb
        | succ i =>
          have := h i x (by simpa using hx)
          rw [List.append_assoc] at this
          exact this
      · intro h i x hx
        have := h (i + 1) x (by simpa using hx)
        rw [List.append_assoc]
        exact this
theorem badAt_false {pre : List St} {x : St} : badAt pre x = false ↔ (∀ u ∈ usesSt x, typeIn pre u.1 = u.2) ∧ typeIn pre x.name = 0 := by
  unfold badAt
  rw [Bool.or_eq_false_iff, List.any_eq_false]
  simp
end Go.Proofs.YtdjklnlkocconaaGreatDoor

namespace Go.Proofs.YtdjklnlkocconaaGreatDoor

/-- From k, in at least one step, one comes to j; only those above t are gone from. -/
inductive From (edge : Nat → Nat → Prop) (i : Nat) (t : Int) : Nat → Prop
  | first {j : Nat} (h : t < (i : Int)) (e : edge i j) : From edge i t j
  | next {k j : Nat} (r : From edge i t k) (h : t < (k : Int)) (e : edge k j) : From edge i t j

section
variable {edge : Nat → Nat → Prop} {i : Nat}

theorem From.mono {t u : Int} (h : t ≤ u) {j : Nat} (r : From edge i u j) : From edge i t j := by
  induction r with
  | first h1 e => exact .first (by omega) e
  | next _ h1 e ih => exact .next ih (by omega) e

theorem From.lower (hd : ∀ k j, edge k j → j < k) {t : Int} {j : Nat} (r : From edge i t j) : j < i := by
  induction r with
  | first _ e => exact hd _ _ e
  | next _ _ e ih => have := hd _ _ e; omega

/-- One step of going back: those to which t leads, if one comes to t. -/
theorem From.step (hd : ∀ k j, edge k j → j < k) (t : Nat) (ht : t ≤ i) (j : Nat) : From edge i ((t : Int) - 1) j ↔ From edge i t j ∨ ((t = i ∨ From edge i t t) ∧ edge t j) := by
  constructor
  · intro r
    induction r with
    | first h1 e =>
      by_cases h : t = i
      · subst h; exact .inr ⟨.inl rfl, e⟩
      · exact .inl (.first (by omega) e)
    | @next k j r h1 e ih =>
      have hk : From edge i t k := by
        rcases ih with h | ⟨_, h⟩
        · exact h
        · have := hd _ _ h; omega
      by_cases h : k = t
      · subst h; exact .inr ⟨.inr hk, e⟩
      · exact .inl (.next hk (by omega) e)
  · rintro (r | ⟨h | r, e⟩)
    · exact r.mono (by omega)
    · subst h; exact .first (by omega) e
    · exact .next (r.mono (by omega)) (by omega) e

theorem From.none {t : Int} (h : (i : Int) ≤ t) (_hd : ∀ k j, edge k j → j < k) (j : Nat) : ¬ From edge i t j := by
  intro r
  induction r with
  | first h1 e => omega
  | next _ _ _ ih => exact ih
end

/-- What the statements from k - 1 down to 0 add to the table. 'out k': where statement k leads. -/
def backF (out : Nat → List Nat) (i : Nat) : Nat → List Nat → List Nat
  | 0, need => need
  | k + 1, need => backF out i k (if k = i ∨ need.contains k = true then need ++ out k else need)

theorem backF_spec (out : Nat → List Nat) (i : Nat) (hd : ∀ k j, j ∈ out k → j < k) (k : Nat) : ∀ need : List Nat, k ≤ i + 1 → (∀ j, j ∈ need ↔ From (fun a b => b ∈ out a) i ((k : Int) - 1) j) → ∀ j, j ∈ backF out i k need ↔ From (fun a b => b ∈ out a) i (-1) j := by
  induction k with
  | zero => intro need _ h j; exact h j
  | succ k ih =>
    intro need hk h j
    rw [backF]
    refine ih _ (by omega) (fun j => ?_) j
    have hst := From.step (edge := fun a b => b ∈ out a) (i := i) (fun a b e => hd a b e) k (by omega) j
    rw [hst]
    have hj : ∀ j, j ∈ need ↔ From (fun a b => b ∈ out a) i (k : Int) j := fun j => by
      have := h j
      rw [show ((k + 1 : Nat) : Int) - 1 = (k : Int) by omega] at this
      exact this
    by_cases hc : k = i ∨ need.contains k = true
    · rw [if_pos hc, List.mem_append, hj j]
      have hc' : k = i ∨ From (fun a b => b ∈ out a) i (k : Int) k := by
        rcases hc with h | h
        · exact .inl h
        · exact .inr ((hj k).1 (by simpa using h))
      constructor
      · rintro (h | h)
        · exact .inl h
        · exact .inr ⟨hc', h⟩
      · rintro (h | ⟨_, h⟩)
        · exact .inl h
        · exact .inr h
    · rw [if_neg hc, hj j]
      constructor
      · exact .inl
      · rintro (h | ⟨h, _⟩)
        · exact h
        · exfalso
          apply hc
          rcases h with h | h
          · exact .inl h
          · exact .inr (by simpa using (hj k).2 h)

/-- Those on which i leans. -/
def backS (out : Nat → List Nat) (i : Nat) : List Nat := backF out i (i + 1) []
theorem backS_spec (out : Nat → List Nat) (i : Nat) (hd : ∀ k j, j ∈ out k → j < k) (j : Nat) : j ∈ backS out i ↔ From (fun a b => b ∈ out a) i (-1) j := by
  refine backF_spec out i hd (i + 1) [] (Nat.le_refl _) (fun j => ?_) j
  constructor
  · intro h; cases h
  · intro h; exact absurd h (From.none (by omega) (fun a b e => hd a b e) j)

/-- Those of m that are not in the table yet: into the table, and behind the row. -/
def pushF : List Nat → List Nat → List Nat → List Nat × List Nat
  | [], need, row => (need, row)
  | j :: m, need, row => if need.contains j then pushF m need row else pushF m (need ++ [j]) (row ++ [j])
def goF (out : Nat → List Nat) : Nat → List Nat → List Nat → List Nat
  | 0, _, need => need
  | _ + 1, [], need => need
  | f + 1, k :: row, need => goF out f (pushF (out k) need row).2 (pushF (out k) need row).1

end Go.Proofs.YtdjklnlkocconaaGreatDoor

namespace Go.Proofs.YtdjklnlkocconaaGreatDoor

/-- Where statement k leads: the places of the names that it uses. -/
def outS (l : List St) (k : Nat) : List Nat := match l[k]? with | none => [] | some x => (usesD x).map fun s => (placeS l s).toNat
/-- Those on which i leans, rising. -/
def needsS (l : List St) (i : Nat) : List Nat := (List.range l.length).filter fun j => (backS (outS l) i).contains j
/-- What Needs gives back. -/
def needsV (l : List St) (i : Int) : List Nat := if (checkS l).2 = 0 ∧ 0 ≤ i ∧ i < l.length then needsS l i.toNat else []

theorem checkS_ok {l : List St} (h : (checkS l).2 = 0) : (∃ t, printS l = some t) ∧ checkF [] l = none := by
  rw [checkS] at h
  cases hp : printS l with
  | none => rw [hp] at h; cases h
  | some t =>
    rw [hp] at h
    refine ⟨⟨t, rfl⟩, ?_⟩
    cases hc : checkF [] l with
    | none => rfl
    | some i => rw [hc] at h; cases h
theorem checkS_of {l : List St} {t : List UInt8} (h : printS l = some t) (hc : checkF [] l = none) : checkS l = (-1, 0) := by rw [checkS, h, hc]; rfl
theorem kinds_of {l : List St} {t : List UInt8} (hf : ∀ x, fitB x = true → 1 ≤ x.kind ∧ x.kind ≤ 5) (h : printS l = some t) : KindsOk l := fun x hx => hf x (((printS_iff l t).1 h).1 x hx)

theorem usesD_mem {x : St} {s : List UInt8} : s ∈ usesD x ↔ ∃ u ∈ usesSt x, u.1 = s := by
  rw [usesD, onceF_mem]
  simp

theorem checkF_app (a : List St) : ∀ (pre r : List St), checkF pre (a ++ r) = match checkF pre a with | some i => some i | none => checkF (pre ++ a) r := by
  induction a with
  | nil => intro pre r; rw [List.nil_append, List.append_nil]; rfl
  | cons x a ih =>
    intro pre r
    rw [List.cons_append, checkF, checkF]
    by_cases hb : badAt pre x = true
    · rw [if_pos hb, if_pos hb]
    · rw [if_neg hb, if_neg hb, ih, List.append_assoc]
      rfl
theorem checkF_left {pre a r : List St} (h : checkF pre (a ++ r) = none) : checkF pre a = none ∧ checkF (pre ++ a) r = none := by
  rw [checkF_app] at h
  cases hc : checkF pre a with
  | none => rw [hc] at h; exact ⟨rfl, h⟩
  | some i => rw [hc] at h; cases h
theorem checkF_cons {pre r : List St} {x : St} (h : checkF pre (x :: r) = none) : badAt pre x = false ∧ checkF (pre ++ [x]) r = none := by
  rw [checkF] at h
  by_cases hb : badAt pre x = true
  · rw [if_pos hb] at h; cases h
  · rw [if_neg hb] at h
    exact ⟨by simpa using hb, h⟩

theorem typeIn_mid {x : St} {s : List UInt8} (h : x.name ≠ s) (p q : List St) : typeIn (p ++ x :: q) s = typeIn (p ++ q) s := by
  induction p with
  | nil => rw [List.nil_append, List.nil_append, typeIn, if_neg h]
  | cons y p ih => rw [List.cons_append, List.cons_append, typeIn, typeIn, ih]

/-- A statement's name is given by none ahead of it. -/
theorem good_name {l : List St} (hk : KindsOk l) {x : St} (h : badAt l x = false) : ∀ y ∈ l, y.name ≠ x.name := (typeIn_zero hk).1 (badAt_false.1 h).2

theorem kinds_sub {l m : List St} (h : KindsOk l) (hs : ∀ x ∈ m, x ∈ l) : KindsOk m := fun x hx => h x (hs x hx)

/-- Without a statement that none of the others uses. -/
theorem without_ok {x : St} (b : List St) : ∀ (p q : List St), KindsOk (p ++ x :: q ++ b) → checkF (p ++ x :: q) b = none → (∀ y ∈ b, ∀ u ∈ usesSt y, u.1 ≠ x.name) → checkF (p ++ q) b = none := by
  induction b with
  | nil => intro p q _ _ _; rfl
  | cons y b ih =>
    intro p q hk h hu
    obtain ⟨h1, h2⟩ := checkF_cons h
    have hk0 : KindsOk (p ++ x :: q) := kinds_sub hk fun z hz => List.mem_append_left _ hz
    have hk1 : KindsOk (p ++ q) := kinds_sub hk fun z hz => by rcases List.mem_append.1 hz with h | h <;> simp [h]
    have hn := good_name hk0 h1
    have hb : badAt (p ++ q) y = false := by
      obtain ⟨g1, g2⟩ := badAt_false.1 h1
      refine badAt_false.2 ⟨fun u hu' => ?_, ?_⟩
      · rw [← typeIn_mid (fun e => hu y (by simp) u hu' e.symm) p q]
        exact g1 u hu'
      · rw [← typeIn_mid (hn x (by simp)) p q]
        exact g2
    rw [checkF, if_neg (by rw [hb]; simp), List.append_assoc]
    refine ih p (q ++ [y]) (by simpa using hk) ?_ fun z hz => hu z (by simp [hz])
    simpa using h2

/-- Without a statement that another one uses. -/
theorem without_bad {x : St} (b : List St) : ∀ (p q : List St), KindsOk (p ++ x :: q ++ b) → (∀ z ∈ p ++ q, z.name ≠ x.name) → checkF (p ++ x :: q) b = none → (∃ y ∈ b, ∃ u ∈ usesSt y, u.1 = x.name) → checkF (p ++ q) b ≠ none := by
  induction b with
  | nil => intro p q _ _ _ h; obtain ⟨y, hy, _⟩ := h; cases hy
  | cons y b ih =>
    intro p q hk hpq h hu hc
    obtain ⟨h1, h2⟩ := checkF_cons h
    obtain ⟨c1, c2⟩ := checkF_cons hc
    have hk0 : KindsOk (p ++ x :: q) := kinds_sub hk fun z hz => List.mem_append_left _ hz
    have hk1 : KindsOk (p ++ q) := kinds_sub hk fun z hz => by rcases List.mem_append.1 hz with h | h <;> simp [h]
    have hn := good_name hk0 h1
    by_cases hy : ∃ u ∈ usesSt y, u.1 = x.name
    · obtain ⟨u, hu1, hu2⟩ := hy
      have g := (badAt_false.1 c1).1 u hu1
      rw [hu2, (typeIn_zero hk1).2 hpq] at g
      rcases usesSt_as hu1 with e | e <;> rw [e] at g <;> cases g
    · rw [List.append_assoc] at c2
      refine ih p (q ++ [y]) (by simpa using hk) ?_ (by simpa using h2) ?_ c2
      · intro z hz
        rw [← List.append_assoc] at hz
        rcases List.mem_append.1 hz with hz | hz
        · exact hpq z hz
        · rw [List.mem_singleton.1 hz]
          exact fun e => hn x (by simp) e.symm
      · obtain ⟨z, hz, hz2⟩ := hu
        rcases List.mem_cons.1 hz with rfl | hz
        · exact absurd hz2 hy
        · exact ⟨z, hz, hz2⟩

theorem placeF_left (a : List St) : ∀ (b : List St) (s : List UInt8) (i : Nat), placeF a s i ≠ -1 → placeF (a ++ b) s i = placeF a s i := by
  induction a with
  | nil => intro b s i h; exact absurd rfl h
  | cons x a ih =>
    intro b s i h
    rw [List.cons_append, placeF, placeF]
    by_cases e : x.name = s
    · rw [if_pos e, if_pos e]
    · rw [if_neg e, if_neg e]
      rw [placeF, if_neg e] at h
      exact ih b s (i + 1) h
theorem placeF_mid (a : List St) : ∀ (b : List St) (x : St) (s : List UInt8) (i : Nat), (∀ y ∈ a, y.name ≠ s) → x.name = s → placeF (a ++ x :: b) s i = (i + a.length : Nat) := by
  induction a with
  | nil => intro b x s i _ h; rw [List.nil_append, placeF, if_pos h]; rfl
  | cons y a ih =>
    intro b x s i ha h
    rw [List.cons_append, placeF, if_neg (ha y (by simp)), ih b x s (i + 1) (fun z hz => ha z (by simp [hz])) h]
    simp only [List.length_cons]
    congr 1
    omega

theorem good_at {l : List St} (hc : checkF [] l = none) {k : Nat} {x : St} (hx : l[k]? = some x) : badAt (l.take k) x = false := by
  have := (checkF_none l []).1 hc k x hx
  rwa [List.nil_append] at this

/-- A name that a statement of a bound deck uses is given ahead of it. -/
theorem bound_edge {l : List St} (hc : checkF [] l = none) {k : Nat} {x : St} (hx : l[k]? = some x) {s : List UInt8} (hs : s ∈ usesD x) : ∃ (j : Nat) (y : St), placeS l s = j ∧ j < k ∧ l[j]? = some y ∧ y.name = s := by
  obtain ⟨u, hu, rfl⟩ := usesD_mem.1 hs
  have g := (badAt_false.1 (good_at hc hx)).1 u hu
  rcases placeF_spec (l.take k) u.1 0 with ⟨_, h2, _⟩ | ⟨j, y, h1, h2, h3, _, _⟩
  · rw [h2] at g
    rcases usesSt_as hu with e | e <;> rw [e] at g <;> cases g
  · have hj : j < k := by
      have := (List.getElem?_eq_some_iff.1 h2).1
      rw [List.length_take] at this
      omega
    refine ⟨j, y, ?_, hj, ?_, h3⟩
    · have h := placeF_left (l.take k) (l.drop k) u.1 0 (by rw [h1]; omega)
      rw [List.take_append_drop] at h
      rw [placeS, h, h1]
      congr 1
      omega
    · rw [List.getElem?_take] at h2
      rwa [if_pos hj] at h2

theorem outS_lower {l : List St} (hc : checkF [] l = none) (k j : Nat) (h : j ∈ outS l k) : j < k := by
  unfold outS at h
  cases hx : l[k]? with
  | none => rw [hx] at h; cases h
  | some x =>
    rw [hx] at h
    obtain ⟨s, hs, e⟩ := List.mem_map.1 h
    obtain ⟨i, y, h1, h2, _, _⟩ := bound_edge hc hx hs
    rw [h1] at e
    omega
theorem outS_some {l : List St} {k : Nat} {x : St} (hx : l[k]? = some x) : outS l k = (usesD x).map fun s => (placeS l s).toNat := by rw [outS, hx]

theorem needsS_mem {l : List St} (hc : checkF [] l = none) (i j : Nat) : j ∈ needsS l i ↔ j < l.length ∧ From (fun a b => b ∈ outS l a) i (-1) j := by
  rw [needsS, List.mem_filter, List.mem_range, List.contains_iff_mem, backS_spec _ _ (outS_lower hc)]
theorem needsS_lower {l : List St} (hc : checkF [] l = none) {i j : Nat} (h : j ∈ needsS l i) : j < i := ((needsS_mem hc i j).1 h).2.lower (outS_lower hc)

/-- What leads to k at last. -/
theorem From.last {edge : Nat → Nat → Prop} {i : Nat} {t : Int} {j : Nat} (r : From edge i t j) : ∃ k, edge k j := by
  cases r with
  | first _ e => exact ⟨_, e⟩
  | next _ _ e => exact ⟨_, e⟩

theorem split_at {α : Type} {l : List α} {k : Nat} {x : α} (h : l[k]? = some x) : l = l.take k ++ x :: l.drop (k + 1) := by
  obtain ⟨hi, e⟩ := List.getElem?_eq_some_iff.1 h
  conv => lhs; rw [← List.take_append_drop k l, List.drop_eq_getElem_cons hi, e]

/-- One leans on k just if a statement behind it uses its name. -/
theorem leans_iff {l : List St} (hk : KindsOk l) (hc : checkF [] l = none) {k : Nat} {x : St} (hx : l[k]? = some x) : (∃ i, i < l.length ∧ k ∈ needsS l i) ↔ ∃ y ∈ l.drop (k + 1), ∃ u ∈ usesSt y, u.1 = x.name := by
  have hkl : k < l.length := (List.getElem?_eq_some_iff.1 hx).1
  constructor
  · rintro ⟨i, _, hi⟩
    obtain ⟨a, ha⟩ := ((needsS_mem hc i k).1 hi).2.last
    have hak := outS_lower hc a k ha
    cases hy : l[a]? with
    | none => rw [outS, hy] at ha; cases ha
    | some y =>
      rw [outS_some hy] at ha
      obtain ⟨s, hs, e⟩ := List.mem_map.1 ha
      obtain ⟨j, z, h1, _, h3, h4⟩ := bound_edge hc hy hs
      rw [h1] at e
      have e2 : j = k := by omega
      subst e2
      rw [hx] at h3
      cases h3
      obtain ⟨u, hu1, hu2⟩ := usesD_mem.1 hs
      refine ⟨y, ?_, u, hu1, hu2.trans h4.symm⟩
      refine List.mem_of_getElem? (i := a - (j + 1)) ?_
      rw [List.getElem?_drop, show j + 1 + (a - (j + 1)) = a by omega]
      exact hy
  · rintro ⟨y, hy, u, hu1, hu2⟩
    obtain ⟨d, hd⟩ := List.getElem?_of_mem hy
    rw [List.getElem?_drop] at hd
    have hlt : k + 1 + d < l.length := (List.getElem?_eq_some_iff.1 hd).1
    refine ⟨k + 1 + d, hlt, (needsS_mem hc _ _).2 ⟨hkl, .first (by omega) ?_⟩⟩
    rw [outS_some hd]
    refine List.mem_map.2 ⟨x.name, usesD_mem.2 ⟨u, hu1, hu2⟩, ?_⟩
    have hkt : KindsOk (l.take k) := kinds_sub hk fun z hz => List.mem_of_mem_take hz
    have h := placeF_mid (l.take k) (l.drop (k + 1)) x x.name 0 (good_name hkt (good_at hc hx)) rfl
    rw [← split_at hx, List.length_take] at h
    rw [placeS, h]
    omega

theorem flat_le {l m : List St} (hs : m.Sublist l) : (m.flatMap lineP).length ≤ (l.flatMap lineP).length := by
  induction hs with
  | slnil => exact Nat.le_refl _
  | cons a _ ih => rw [List.flatMap_cons, List.length_append]; omega
  | cons_cons a _ ih => rw [List.flatMap_cons, List.flatMap_cons, List.length_append, List.length_append]; omega

theorem printS_sub {l m : List St} {t : List UInt8} (h : printS l = some t) (hs : m.Sublist l) : ∃ t2, printS m = some t2 := by
  obtain ⟨h1, h2, h3, _⟩ := (printS_iff l t).1 h
  refine ⟨_, (printS_iff m _).2 ⟨fun x hx => h1 x (hs.subset hx), Nat.le_trans hs.length_le h2, Nat.le_trans (flat_le hs) h3, rfl⟩⟩

/-- Without statement k: bound, just if none leans on it. -/
theorem without_iff {l : List St} (hf : ∀ x, fitB x = true → 1 ≤ x.kind ∧ x.kind ≤ 5) (h : (checkS l).2 = 0) {k : Nat} (hk : k < l.length) : (checkS (l.take k ++ l.drop (k + 1))).2 = 0 ↔ ¬ ∃ i, i < l.length ∧ k ∈ needsS l i := by
  obtain ⟨⟨t, ht⟩, hc⟩ := checkS_ok h
  have hK := kinds_of hf ht
  obtain ⟨x, hx⟩ : ∃ x, l[k]? = some x := ⟨l[k], List.getElem?_eq_getElem _⟩
  rw [leans_iff hK hc hx]
  have hsp := split_at hx
  have hsub : (l.take k ++ l.drop (k + 1)).Sublist l := by
    conv => rhs; rw [hsp]
    exact List.Sublist.append_left (List.sublist_cons_self _ _) _
  obtain ⟨t2, ht2⟩ := printS_sub ht hsub
  have hkt : KindsOk (l.take k) := kinds_sub hK fun z hz => List.mem_of_mem_take hz
  have hc2 := hc
  rw [hsp] at hc2
  obtain ⟨c1, c2⟩ := checkF_left hc2
  obtain ⟨c3, c4⟩ := checkF_cons c2
  rw [List.nil_append] at c3 c4
  have hsk : KindsOk (l.take k ++ x :: [] ++ l.drop (k + 1)) := by
    have e : l.take k ++ x :: [] ++ l.drop (k + 1) = l := by rw [List.append_assoc]; exact hsp.symm
    rw [e]; exact hK
  constructor
  · intro h2 hu
    obtain ⟨_, hd⟩ := checkS_ok h2
    obtain ⟨_, d2⟩ := checkF_left hd
    rw [List.nil_append] at d2
    refine without_bad (l.drop (k + 1)) (l.take k) [] hsk ?_ c4 hu (by rw [List.append_nil]; exact d2)
    rw [List.append_nil]
    exact good_name hkt c3
  · intro hu
    have h1 := without_ok (l.drop (k + 1)) (l.take k) [] hsk c4 (fun y hy u hu' e => hu ⟨y, hy, u, hu', e⟩)
    rw [List.append_nil] at h1
    rw [checkS_of ht2 ?_]
    rw [checkF_app, c1, List.nil_append]
    exact h1

/-- As far as any place. -/
theorem first_ok {l : List St} (h : (checkS l).2 = 0) (k : Nat) : checkS (l.take k) = (-1, 0) := by
  obtain ⟨⟨t, ht⟩, hc⟩ := checkS_ok h
  obtain ⟨t2, ht2⟩ := printS_sub ht (List.take_sublist k l)
  refine checkS_of ht2 ?_
  have hc2 := hc
  rw [← List.take_append_drop k l] at hc2
  exact (checkF_left hc2).1

/-- A statement twice. -/
theorem twice_not {l : List St} (hf : ∀ x, fitB x = true → 1 ≤ x.kind ∧ x.kind ≤ 5) (h : (checkS l).2 = 0) {k : Nat} {x : St} (hx : l[k]? = some x) : checkS (l ++ [x]) = (-1, 3) ∨ checkS (l ++ [x]) = ((l.length : Int), 22) := by
  obtain ⟨⟨t, ht⟩, hc⟩ := checkS_ok h
  have hK := kinds_of hf ht
  rw [checkS]
  cases hp : printS (l ++ [x]) with
  | none => exact .inl rfl
  | some t2 =>
    right
    have hb : badAt l x = true := by
      rw [badAt, Bool.or_eq_true]
      right
      have : typeIn l x.name ≠ 0 := fun e => (typeIn_zero hK).1 e x (List.mem_of_getElem? hx) rfl
      simpa using this
    rw [checkF_app, hc, List.nil_append, checkF, if_pos hb]
    rfl

theorem needsS_sorted (l : List St) (i : Nat) : (needsS l i).Pairwise (· < ·) := List.Pairwise.sublist List.filter_sublist List.pairwise_lt_range

/-- A row of numbers, sorted, that holds just those: the row of them. -/
theorem sort_needs {l : List St} {i : Nat} {ss : List Int} (hn : ss.Nodup) (hm : ∀ x : Int, x ∈ ss ↔ ∃ j : Nat, x = j ∧ j ∈ needsS l i) : ss.mergeSort (fun x y => decide (x ≤ y)) = (needsS l i).map fun j : Nat => (j : Int) := by
  have tr : ∀ a b c : Int, decide (a ≤ b) = true → decide (b ≤ c) = true → decide (a ≤ c) = true := fun a b c h1 h2 => by simp at *; omega
  have to : ∀ a b : Int, (decide (a ≤ b) || decide (b ≤ a)) = true := fun a b => by simp; omega
  have hs : ((needsS l i).map fun j : Nat => (j : Int)).Pairwise (fun a b => decide (a ≤ b) = true) := by
    rw [List.pairwise_map]
    exact (needsS_sorted l i).imp fun h => by simp; omega
  have hnd : ((needsS l i).map fun j : Nat => (j : Int)).Nodup := by
    rw [List.Nodup, List.pairwise_map]
    exact (needsS_sorted l i).imp fun h => by omega
  refine List.Perm.eq_of_pairwise (le := fun a b => decide (a ≤ b) = true) (fun a b _ _ h1 h2 => by simp at h1 h2; omega) (List.pairwise_mergeSort tr to ss) hs ((List.mergeSort_perm ss _).trans ?_)
  refine (List.perm_ext_iff_of_nodup hn hnd).2 fun x => ?_
  rw [hm x, List.mem_map]
  constructor
  · rintro ⟨j, rfl, h⟩; exact ⟨j, h, rfl⟩
  · rintro ⟨j, h, rfl⟩; exact ⟨j, rfl, h⟩
end Go.Proofs.YtdjklnlkocconaaGreatDoor
