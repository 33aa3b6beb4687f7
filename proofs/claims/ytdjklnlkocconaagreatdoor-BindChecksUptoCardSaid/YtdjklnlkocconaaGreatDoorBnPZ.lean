/-
  Plain Lean: names and types of a deck's statements: as the program reckons them, and as the reference does. No program in sight.
  Plain Lean: the statements on which one leans: going back over all of them, and going from one to the next. No program in sight.
  Plain Lean: on which statements of a bound deck one leans; a deck without a statement, cut off, with one twice. No program in sight.
-/
import Derived.Test.YtdjklnlkocconaaGreatDoorPlBZ
namespace Go.Proofs.YtdjklnlkocconaaGreatDoor

abbrev Use := List UInt8 × Int

mutual
/-- The names of an expression, each with the type as which it is used. -/
def usesN : Nd → List Use
  | .mk k s l => (if k = 1 then [(s, 1)] else if k = 3 then [(s, 2)] else []) ++ usesNs l
def usesNs : List Nd → List Use
  | [] => []
  | n :: l => usesN n ++ usesNs l
end
def usesSt (x : St) : List Use := usesN x.a ++ usesN x.b

mutual
theorem usesN_as : ∀ (n : Nd) (u : Use), u ∈ usesN n → u.2 = 1 ∨ u.2 = 2
  | .mk k s l, u, h => by
    rw [usesN] at h
    rcases List.mem_append.1 h with h | h
    · split at h
      · rw [List.mem_singleton.1 h]; exact .inl rfl
      · split at h
        · rw [List.mem_singleton.1 h]; exact .inr rfl
        · cases h
    · exact usesNs_as l u h
theorem usesNs_as : ∀ (l : List Nd) (u : Use), u ∈ usesNs l → u.2 = 1 ∨ u.2 = 2
  | [], _, h => by rw [usesNs] at h; cases h
  | n :: l, u, h => by
    rw [usesNs] at h
    rcases List.mem_append.1 h with h | h
    · exact usesN_as n u h
    · exact usesNs_as l u h
end
theorem usesSt_as {x : St} {u : Use} (h : u ∈ usesSt x) : u.2 = 1 ∨ u.2 = 2 := by
  rcases List.mem_append.1 h with h | h
  · exact usesN_as _ u h
  · exact usesN_as _ u h

/-- What a statement of a kind gives. -/
def giveV (k : Int) : Int := if k = 1 ∨ k = 2 then 1 else if k = 3 ∨ k = 4 then 2 else if k = 5 then 3 else 0
theorem giveV_pos {k : Int} (h : 1 ≤ k ∧ k ≤ 5) : 1 ≤ giveV k := by
  unfold giveV
  split
  · decide
  · split
    · decide
    · split
      · decide
      · omega

/-- The place of the first statement of a name; -1: there is none. -/
def placeF : List St → List UInt8 → Nat → Int
  | [], _, _ => -1
  | x :: l, s, i => if x.name = s then i else placeF l s (i + 1)
def placeS (l : List St) (s : List UInt8) : Int := placeF l s 0
/-- What the first statement of a name gives; 0: there is none. -/
def typeIn : List St → List UInt8 → Int
  | [], _ => 0
  | x :: l, s => if x.name = s then giveV x.kind else typeIn l s

theorem placeF_spec (l : List St) : ∀ (s : List UInt8) (i : Nat), (placeF l s i = -1 ∧ typeIn l s = 0 ∧ ∀ x ∈ l, x.name ≠ s) ∨ ∃ (j : Nat) (x : St), placeF l s i = (i + j : Nat) ∧ l[j]? = some x ∧ x.name = s ∧ typeIn l s = giveV x.kind ∧ ∀ y ∈ l.take j, y.name ≠ s := by
  induction l with
  | nil => intro s i; exact .inl ⟨rfl, rfl, by simp⟩
  | cons x l ih =>
    intro s i
    rw [placeF, typeIn]
    by_cases h : x.name = s
    · rw [if_pos h, if_pos h]
      exact .inr ⟨0, x, rfl, rfl, h, rfl, by simp⟩
    · rw [if_neg h, if_neg h]
      rcases ih s (i + 1) with ⟨h1, h2, h3⟩ | ⟨j, y, h1, h2, h3, h4, h5⟩
      · exact .inl ⟨h1, h2, fun y hy => by exact (List.mem_cons.1 hy).elim (fun e => by rw [e]; exact h) (fun hy => h3 y hy)⟩
      · refine .inr ⟨j + 1, y, by rw [h1]; congr 1; omega, by simpa using h2, h3, h4, fun z hz => ?_⟩
        rw [List.take_succ_cons] at hz
        rcases List.mem_cons.1 hz with rfl | hz
        · exact h
        · exact h5 z hz

/-- Is a statement wrong behind those of pre? -/
def badAt (pre : List St) (x : St) : Bool := (usesSt x).any (fun u => typeIn pre u.1 != u.2) || typeIn pre x.name != 0

def checkF : List St → List St → Option Nat
  | _, [] => none
  | pre, x :: r => if badAt pre x then some pre.length else checkF (pre ++ [x]) r

/-- Is a deck bound? -/
def checkS (l : List St) : Int × Int := if (printS l).isSome then (match checkF [] l with | none => (-1, 0) | some i => (i, 22)) else (-1, 3)

def KindsOk (l : List St) : Prop := ∀ x ∈ l, 1 ≤ x.kind ∧ x.kind ≤ 5

theorem typeIn_zero {l : List St} (hk : KindsOk l) {s : List UInt8} : typeIn l s = 0 ↔ ∀ x ∈ l, x.name ≠ s := by
  rcases placeF_spec l s 0 with ⟨_, h2, h3⟩ | ⟨j, x, _, h2, h3, h4, _⟩
  · exact ⟨fun _ => h3, fun _ => h2⟩
  · constructor
    · intro h
      have := giveV_pos (hk x (List.mem_of_getElem? h2))
      omega
    · intro h
      exact absurd h3 (h x (List.mem_of_getElem? h2))

theorem typeIn_app (l m : List St) (s : List UInt8) (h : ∀ x ∈ l, x.name ≠ s) : typeIn (l ++ m) s = typeIn m s := by
  induction l with
  | nil => rfl
  | cons x l ih =>
    rw [List.cons_append, typeIn, if_neg (h x (by simp))]
    exact ih fun y hy => h y (by simp [hy])
theorem typeIn_left (l m : List St) (s : List UInt8) (h : ∃ x ∈ l, x.name = s) : typeIn (l ++ m) s = typeIn l s := by
  induction l with
  | nil => obtain ⟨x, hx, _⟩ := h; cases hx
  | cons x l ih =>
    rw [List.cons_append, typeIn, typeIn]
    by_cases e : x.name = s
    · rw [if_pos e, if_pos e]
    · rw [if_neg e, if_neg e]
      refine ih ?_
      obtain ⟨y, hy, ey⟩ := h
      rcases List.mem_cons.1 hy with rfl | hy
      · exact absurd ey e
      · exact ⟨y, hy, ey⟩

/-- The table of types, behind one statement more. -/
theorem typeIn_snoc {l : List St} (hk : KindsOk l) {x : St} (hx : typeIn l x.name = 0) (s : List UInt8) : typeIn (l ++ [x]) s = if x.name = s then giveV x.kind else typeIn l s := by
  by_cases e : x.name = s
  · subst e
    rw [if_pos rfl, typeIn_app l [x] _ ((typeIn_zero hk).1 hx), typeIn, if_pos rfl]
  · rw [if_neg e]
    by_cases h : ∃ y ∈ l, y.name = s
    · exact typeIn_left l [x] s h
    · have h' : ∀ y ∈ l, y.name ≠ s := fun y hy ey => h ⟨y, hy, ey⟩
      rw [typeIn_app l [x] s h', typeIn, if_neg e, typeIn, (typeIn_zero hk).2 h']

theorem place_name {l : List St} (hk : KindsOk l) (s : List UInt8) : (typeIn l s != 0) = decide (0 ≤ placeS l s) := by
  rcases placeF_spec l s 0 with ⟨h1, h2, _⟩ | ⟨j, x, h1, h2, _, h4, _⟩
  · rw [placeS, h1, h2]; rfl
  · rw [placeS, h1, h4]
    have := giveV_pos (hk x (List.mem_of_getElem? h2))
    have e : (giveV x.kind != 0) = true := by
      have : giveV x.kind ≠ 0 := by omega
      simpa using this
    rw [e]
    simp

def onceF : List (List UInt8) → List (List UInt8) → List (List UInt8)
  | [], acc => acc
  | s :: r, acc => if acc.contains s then onceF r acc else onceF r (acc ++ [s])
def usesD (x : St) : List (List UInt8) := onceF ((usesSt x).map (·.1)) []

/-- The reference's: behind those of pre. -/
def onceR : List (List UInt8) → List (List UInt8) → List (List UInt8) → List (List UInt8)
  | _, [], out => out
  | pre, s :: r, out => if pre.contains s then onceR (pre ++ [s]) r out else onceR (pre ++ [s]) r (out ++ [s])
theorem onceF_mem (r : List (List UInt8)) : ∀ (acc : List (List UInt8)) (s : List UInt8), s ∈ onceF r acc ↔ s ∈ acc ∨ s ∈ r := by
  induction r with
  | nil => intro acc s; simp [onceF]
  | cons t r ih =>
    intro acc s
    rw [onceF]
    by_cases h : acc.contains t = true
    · rw [if_pos h, ih]
      have ht : t ∈ acc := by simpa using h
      constructor
      · rintro (h1 | h1)
        · exact .inl h1
        · exact .inr (by simp [h1])
      · rintro (h1 | h1)
        · exact .inl h1
        · rcases List.mem_cons.1 h1 with rfl | h1
          · exact .inl ht
          · exact .inr h1
    · rw [if_neg h, ih]
      simp [or_assoc]

theorem checkF_none (r : List St) : ∀ pre : List St, checkF pre r = none ↔ ∀ (i : Nat) (x : St), r[i]? = some x → badAt (pre ++ r.take i) x = false := by
  induction r with
  | nil => intro pre; simp [checkF]
  | cons y r ih =>
    intro pre
    rw [checkF]
    by_cases hb : badAt pre y = true
    · rw [if_pos hb]
      constructor
      · intro h; cases h
      · intro h
        have := h 0 y rfl
        rw [List.take_zero, List.append_nil, hb] at this
        cases this
    · rw [if_neg hb, ih]
      constructor
      · intro h i x hx
        cases i with
        | zero =>
          obtain rfl : y = x := by simpa using hx
          rw [List.take_zero, List.append_nil]
          simpa using hb
        | succ i =>
          have := h i x (by simpa using hx)
          rw [List.append_assoc] at this
          exact this
      · intro h i x hx
        have := h (i + 1) x (by simpa using hx)
        rw [List.append_assoc]
        exact this
theorem badAt_false {pre : List St} {x : St} : badAt pre x = false ↔ (∀ u ∈ usesSt x, typeIn pre u.1 = u.2) ∧ typeIn pre x.name = 0 := by
  unfold badAt
  rw [Bool.or_eq_false_iff, List.any_eq_false]
  simp
end Go.Proofs.YtdjklnlkocconaaGreatDoor

namespace Go.Proofs.YtdjklnlkocconaaGreatDoor

/-- From k, in at least one step, one comes to j; only those above t are gone from. -/
inductive From (edge : Nat → Nat → Prop) (i : Nat) (t : Int) : Nat → Prop
  | first {j : Nat} (h : t < (i : Int)) (e : edge i j) : From edge i t j
  | next {k j : Nat} (r : From edge i t k) (h : t < (k : Int)) (e : edge k j) : From edge i t j

section
variable {edge : Nat → Nat → Prop} {i : Nat}

theorem From.mono {t u : Int} (h : t ≤ u) {j : Nat} (r : From edge i u j) : From edge i t j := by
  induction r with
  | first h1 e => exact .first (by omega) e
  | next _ h1 e ih => exact .next ih (by omega) e

theorem From.lower (hd : ∀ k j, edge k j → j < k) {t : Int} {j : Nat} (r : From edge i t j) : j < i := by
  induction r with
  | first _ e => exact hd _ _ e
  | next _ _ e ih => have := hd _ _ e; omega

/-- One step of going back: those to which t leads, if one comes to t. -/
theorem From.step (hd : ∀ k j, edge k j → j < k) (t : Nat) (ht : t ≤ i) (j : Nat) : From edge i ((t : Int) - 1) j ↔ From edge i t j ∨ ((t = i ∨ From edge i t t) ∧ edge t j) := by
  constructor
  · intro r
    induction r with
    | first h1 e =>
      by_cases h : t = i
      · subst h; exact .inr ⟨.inl rfl, e⟩
      · exact .inl (.first (by omega) e)
    | @next k j r h1 e ih =>
      have hk : From edge i t k := by
        rcases ih with h | ⟨_, h⟩
        · exact h
        · have := hd _ _ h; omega
      by_cases h : k = t
      · subst h; exact .inr ⟨.inr hk, e⟩
      · exact .inl (.next hk (by omega) e)
  · rintro (r | ⟨h | r, e⟩)
    · exact r.mono (by omega)
    · subst h; exact .first (by omega) e
    · exact .next (r.mono (by omega)) (by omega) e

theorem From.none {t : Int} (h : (i : Int) ≤ t) (_hd : ∀ k j, edge k j → j < k) (j : Nat) : ¬ From edge i t j := by
  intro r
  induction r with
  | first h1 e => omega
  | next _ _ _ ih => exact ih
end

/-- What the statements from k - 1 down to 0 add to the table. 'out k': where statement k leads. -/
def backF (out : Nat → List Nat) (i : Nat) : Nat → List Nat → List Nat
  | 0, need => need
  | k + 1, need => backF out i k (if k = i ∨ need.contains k = true then need ++ out k else need)

theorem backF_spec (out : Nat → List Nat) (i : Nat) (hd : ∀ k j, j ∈ out k → j < k) (k : Nat) : ∀ need : List Nat, k ≤ i + 1 → (∀ j, j ∈ need ↔ From (fun a b => b ∈ out a) i ((k : Int) - 1) j) → ∀ j, j ∈ backF out i k need ↔ From (fun a b => b ∈ out a) i (-1) j := by
  induction k with
  | zero => intro need _ h j; exact h j
  | succ k ih =>
    intro need hk h j
    rw [backF]
    refine ih _ (by omega) (fun j => ?_) j
    have hst := From.step (edge := fun a b => b ∈ out a) (i := i) (fun a b e => hd a b e) k (by omega) j
    rw [hst]
    have hj : ∀ j, j ∈ need ↔ From (fun a b => b ∈ out a) i (k : Int) j := fun j => by
      have := h j
      rw [show ((k + 1 : Nat) : Int) - 1 = (k : Int) by omega] at this
      exact this
    by_cases hc : k = i ∨ need.contains k = true
    · rw [if_pos hc, List.mem_append, hj j]
      have hc' : k = i ∨ From (fun a b => b ∈ out a) i (k : Int) k := by
        rcases hc with h | h
        · exact .inl h
        · exact .inr ((hj k).1 (by simpa using h))
      constructor
      · rintro (h | h)
        · exact .inl h
        · exact .inr ⟨hc', h⟩
      · rintro (h | ⟨_, h⟩)
        · exact .inl h
        · exact .inr h
    · rw [if_neg hc, hj j]
      constructor
      · exact .inl
      · rintro (h | ⟨h, _⟩)
        · exact h
        · exfalso
          apply hc
          rcases h with h | h
          · exact .inl h
          · exact .inr (by simpa using (hj k).2 h)

/-- Those on which i leans. -/
def backS (out : Nat → List Nat) (i : Nat) : List Nat := backF out i (i + 1) []
theorem backS_spec (out : Nat → List Nat) (i : Nat) (hd : ∀ k j, j ∈ out k → j < k) (j : Nat) : j ∈ backS out i ↔ From (fun a b => b ∈ out a) i (-1) j := by
  refine backF_spec out i hd (i + 1) [] (Nat.le_refl _) (fun j => ?_) j
  constructor
  · intro h; cases h
  · intro h; exact absurd h (From.none (by omega) (fun a b e => hd a b e) j)

/-- Those of m that are not in the table yet: into the table, and behind the row. -/
def pushF : List Nat → List Nat → List Nat → List Nat × List Nat
  | [], need, row => (need, row)
  | j :: m, need, row => if need.contains j then pushF m need row else pushF m (need ++ [j]) (row ++ [j])
def goF (out : Nat → List Nat) : Nat → List Nat → List Nat → List Nat
  | 0, _, need => need
  | _ + 1, [], need => need
  | f + 1, k :: row, need => goF out f (pushF (out k) need row).2 (pushF (out k) need row).1

end Go.Proofs.YtdjklnlkocconaaGreatDoor

namespace Go.Proofs.YtdjklnlkocconaaGreatDoor

/-- Where statement k leads: the places of the names that it uses. -/
def outS (l : List St) (k : Nat) : List Nat := match l[k]? with | none => [] | some x => (usesD x).map fun s => (placeS l s).toNat
/-- Those on which i leans, rising. -/
def needsS (l : List St) (i : Nat) : List Nat := (List.range l.length).filter fun j => (backS (outS l) i).contains j
/-- What Needs gives back. -/
def needsV (l : List St) (i : Int) : List Nat := if (checkS l).2 = 0 ∧ 0 ≤ i ∧ i < l.length then needsS l i.toNat else []

theorem checkS_ok {l : List St} (h : (checkS l).2 = 0) : (∃ t, printS l = some t) ∧ checkF [] l = none := by
  rw [checkS] at h
  cases hp : printS l with
  | none => rw [hp] at h; cases h
  | some t =>
    rw [hp] at h
    refine ⟨⟨t, rfl⟩, ?_⟩
    cases hc : checkF [] l with
    | none => rfl
    | some i => rw [hc] at h; cases h
theorem checkS_of {l : List St} {t : List UInt8} (h : printS l = some t) (hc : checkF [] l = none) : checkS l = (-1, 0) := by rw [checkS, h, hc]; rfl
theorem usesD_mem {x : St} {s : List UInt8} : s ∈ usesD x ↔ ∃ u ∈ usesSt x, u.1 = s := by
  rw [usesD, onceF_mem]
  simp

theorem placeF_left (a : List St) : ∀ (b : List St) (s : List UInt8) (i : Nat), placeF a s i ≠ -1 → placeF (a ++ b) s i = placeF a s i := by
  induction a with
  | nil => intro b s i h; exact absurd rfl h
  | cons x a ih =>
    intro b s i h
    rw [List.cons_append, placeF, placeF]
    by_cases e : x.name = s
    · rw [if_pos e, if_pos e]
    · rw [if_neg e, if_neg e]
      rw [placeF, if_neg e] at h
      exact ih b s (i + 1) h
theorem good_at {l : List St} (hc : checkF [] l = none) {k : Nat} {x : St} (hx : l[k]? = some x) : badAt (l.take k) x = false := by
  have := (checkF_none l []).1 hc k x hx
  rwa [List.nil_append] at this

/-- A name that a statement of a bound deck uses is given ahead of it. -/
theorem bound_edge {l : List St} (hc : checkF [] l = none) {k : Nat} {x : St} (hx : l[k]? = some x) {s : List UInt8} (hs : s ∈ usesD x) : ∃ (j : Nat) (y : St), placeS l s = j ∧ j < k ∧ l[j]? = some y ∧ y.name = s := by
  obtain ⟨u, hu, rfl⟩ := usesD_mem.1 hs
  have g := (badAt_false.1 (good_at hc hx)).1 u hu
  rcases placeF_spec (l.take k) u.1 0 with ⟨_, h2, _⟩ | ⟨j, y, h1, h2, h3, _, _⟩
  · rw [h2] at g
    rcases usesSt_as hu with e | e <;> rw [e] at g <;> cases g
  · have hj : j < k := by
      have := (List.getElem?_eq_some_iff.1 h2).1
      rw [List.length_take] at this
      omega
    refine ⟨j, y, ?_, hj, ?_, h3⟩
    · have h := placeF_left (l.take k) (l.drop k) u.1 0 (by rw [h1]; omega)
      rw [List.take_append_drop] at h
      rw [placeS, h, h1]
      congr 1
      omega
    · rw [List.getElem?_take] at h2
      rwa [if_pos hj] at h2

theorem outS_lower {l : List St} (hc : checkF [] l = none) (k j : Nat) (h : j ∈ outS l k) : j < k := by
  unfold outS at h
  cases hx : l[k]? with
  | none => rw [hx] at h; cases h
  | some x =>
    rw [hx] at h
    obtain ⟨s, hs, e⟩ := List.mem_map.1 h
    obtain ⟨i, y, h1, h2, _, _⟩ := bound_edge hc hx hs
    rw [h1] at e
    omega
theorem outS_some {l : List St} {k : Nat} {x : St} (hx : l[k]? = some x) : outS l k = (usesD x).map fun s => (placeS l s).toNat := by rw [outS, hx]

theorem needsS_mem {l : List St} (hc : checkF [] l = none) (i j : Nat) : j ∈ needsS l i ↔ j < l.length ∧ From (fun a b => b ∈ outS l a) i (-1) j := by
  rw [needsS, List.mem_filter, List.mem_range, List.contains_iff_mem, backS_spec _ _ (outS_lower hc)]
theorem needsS_sorted (l : List St) (i : Nat) : (needsS l i).Pairwise (· < ·) := List.Pairwise.sublist List.filter_sublist List.pairwise_lt_range

/-- A row of numbers, sorted, that holds just those: the row of them. -/
theorem sort_needs {l : List St} {i : Nat} {ss : List Int} (hn : ss.Nodup) (hm : ∀ x : Int, x ∈ ss ↔ ∃ j : Nat, x = j ∧ j ∈ needsS l i) : ss.mergeSort (fun x y => decide (x ≤ y)) = (needsS l i).map fun j : Nat => (j : Int) := by
  have tr : ∀ a b c : Int, decide (a ≤ b) = true → decide (b ≤ c) = true → decide (a ≤ c) = true := fun a b c h1 h2 => by simp at *; omega
  have to : ∀ a b : Int, (decide (a ≤ b) || decide (b ≤ a)) = true := fun a b => by simp; omega
  have hs : ((needsS l i).map fun j : Nat => (j : Int)).Pairwise (fun a b => decide (a ≤ b) = true) := by
    rw [List.pairwise_map]
    exact (needsS_sorted l i).imp fun h => by simp; omega
  have hnd : ((needsS l i).map fun j : Nat => (j : Int)).Nodup := by
    rw [List.Nodup, List.pairwise_map]
    exact (needsS_sorted l i).imp fun h => by omega
  refine List.Perm.eq_of_pairwise (le := fun a b => decide (a ≤ b) = true) (fun a b _ _ h1 h2 => by simp at h1 h2; omega) (List.pairwise_mergeSort tr to ss) hs ((List.mergeSort_perm ss _).trans ?_)
  refine (List.perm_ext_iff_of_nodup hn hnd).2 fun x => ?_
  rw [hm x, List.mem_map]
  constructor
  · rintro ⟨j, rfl, h⟩; exact ⟨j, h, rfl⟩
  · rintro ⟨j, h, rfl⟩; exact ⟨j, rfl, h⟩
end Go.Proofs.YtdjklnlkocconaaGreatDoor
