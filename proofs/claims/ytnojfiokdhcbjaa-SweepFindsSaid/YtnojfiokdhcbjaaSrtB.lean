/-
  Merging by rotations, on arrays: what slices.SortStableFunc's parts do, plain.
  Merging by rotations, plain: the searches, and what a merge comes to.
  slices.SortStableFunc at boxes: swapRange and rotate: the walks.
  slices.SortStableFunc at boxes: symMerge: the walk. (Printed by gen_sym.py.)
-/
import Derived.Sort.LotA
import Derived.Test.YtnojfiokdhcbjaaGMem
import Derived.Shelf.SlSortCmp.KitK
import Derived.Sort.WalkB2
import Derived.Sort.WalkB12
namespace Go.Proofs.Ytnojfiokdhcbjaa
open Go.Sort
variable {α : Type} [Inhabited α]

/-- The ranges [x, x + n) and [y, y + n) exchanged. -/
def SwR (x y n : Nat) (d d' : Array α) : Prop :=
  PermIn x (y + n) d d' ∧ ∀ k, d'[k]! = if x ≤ k ∧ k < x + n then d[k + (y - x)]! else if y ≤ k ∧ k < y + n then d[k - (y - x)]! else d[k]!

/-- [a, m) and [m, b) exchanged. -/
def Rot (a m b : Nat) (d d' : Array α) : Prop :=
  PermIn a b d d' ∧ (∀ k, a ≤ k → k < a + (b - m) → d'[k]! = d[k + (m - a)]!) ∧ (∀ k, a + (b - m) ≤ k → k < b → d'[k]! = d[k - (b - m)]!)

theorem swR_start (x y : Nat) (d : Array α) : SwR x y 0 d d := by
  refine ⟨permIn_refl _ _ _, fun k => ?_⟩
  rw [if_neg (by omega), if_neg (by omega)]

theorem swR_step {x y n : Nat} {d d' : Array α} (hxy : x + n < y) (hy : y + n < d.size) (h : SwR x y n d d') : SwR x y (n + 1) d (swp d' (x + n) (y + n)) := by
  obtain ⟨h1, h2⟩ := h
  have hs := h1.1
  refine ⟨permIn_trans _ _ _ _ _ (permIn_mono d d' x (y + n) x (y + (n + 1)) (by omega) (by omega) (by omega) h1) (swp_permIn d' x (y + (n + 1)) (x + n) (y + n) (by omega) (by omega) (by omega) (by omega) (by omega)), fun k => ?_⟩
  rw [swp_get d' (by omega) (by omega) k]
  by_cases e1 : k = y + n
  · subst e1
    rw [if_pos rfl, h2, if_neg (by omega), if_neg (by omega), if_neg (by omega), if_pos (by omega)]
    congr 1; omega
  · rw [if_neg e1]
    by_cases e2 : k = x + n
    · subst e2
      rw [if_pos rfl, h2, if_neg (by omega), if_neg (by omega), if_pos (by omega)]
      congr 1; omega
    · rw [if_neg e2, h2]
      by_cases c1 : x ≤ k ∧ k < x + n
      · rw [if_pos c1, if_pos (by omega)]
      · rw [if_neg c1, if_neg (show ¬ (x ≤ k ∧ k < x + (n + 1)) by omega)]
        by_cases c2 : y ≤ k ∧ k < y + n
        · rw [if_pos c2, if_pos (by omega)]
        · rw [if_neg c2, if_neg (by omega)]

theorem rot_eq {m i : Nat} {d d' : Array α} (hi : i ≤ m) (h : SwR (m - i) m i d d') : Rot (m - i) m (m + i) d d' := by
  obtain ⟨h1, h2⟩ := h
  refine ⟨h1, fun k k1 k2 => ?_, fun k k1 k2 => ?_⟩
  · rw [h2, if_pos (by omega)]
  · rw [h2, if_neg (by omega), if_pos (by omega)]
    congr 1; omega

theorem rot_big {m i j : Nat} {d d1 d' : Array α} (hij : j < i) (hi : i ≤ m) (hs : m + j ≤ d.size) (h : SwR (m - i) m j d d1) (h2 : Rot (m - (i - j)) m (m + j) d1 d') : Rot (m - i) m (m + j) d d' := by
  obtain ⟨h1, hg⟩ := h
  obtain ⟨p, r1, r2⟩ := h2
  have hs1 := h1.1
  refine ⟨permIn_trans _ _ _ _ _ h1 (permIn_mono d1 d' (m - (i - j)) (m + j) (m - i) (m + j) (by omega) (Nat.le_refl _) (by omega) p), fun k k1 k2 => ?_, fun k k1 k2 => ?_⟩
  · rw [p.2.1 k (by omega), hg, if_pos (by omega)]
  · by_cases c : k < m - (i - j) + (m + j - m)
    · rw [r1 k (by omega) c, hg, if_neg (by omega), if_pos (by omega)]
      congr 1; omega
    · rw [r2 k (by omega) k2, hg, if_neg (by omega), if_neg (by omega)]

theorem rot_small {m i j : Nat} {d d1 d' : Array α} (hij : i < j) (hi : i ≤ m) (hs : m + j ≤ d.size) (h : SwR (m - i) (m + j - i) i d d1) (h2 : Rot (m - i) m (m + (j - i)) d1 d') : Rot (m - i) m (m + j) d d' := by
  obtain ⟨h1, hg⟩ := h
  obtain ⟨p, r1, r2⟩ := h2
  have e : m + j - i + i = m + j := by omega
  rw [e] at h1
  have hs1 := h1.1
  refine ⟨permIn_trans _ _ _ _ _ h1 (permIn_mono d1 d' (m - i) (m + (j - i)) (m - i) (m + j) (Nat.le_refl _) (by omega) (by omega) p), fun k k1 k2 => ?_, fun k k1 k2 => ?_⟩
  · by_cases c : k < m - i + (m + (j - i) - m)
    · rw [r1 k k1 c, hg, if_neg (by omega), if_neg (by omega)]
    · rw [r2 k (by omega) (by omega), hg, if_pos (by omega)]
      congr 1; omega
  · rw [p.2.1 k (by omega), hg, if_neg (by omega), if_pos (by omega)]
    congr 1; omega

/-- data[a] is brought up, step by step. -/
theorem rot_up {a i : Nat} {d d' : Array α} (hi : i < d.size) (ha : a < i) (h : Rot a (a + 1) i d d') : Rot a (a + 1) (i + 1) d (swp d' (i - 1) i) := by
  obtain ⟨p, r1, r2⟩ := h
  have hs := p.1
  refine ⟨permIn_trans _ _ _ _ _ (permIn_mono d d' a i a (i + 1) (Nat.le_refl _) (by omega) (by omega) p) (swp_permIn d' a (i + 1) (i - 1) i (by omega) (by omega) (by omega) (by omega) (by omega)), fun k k1 k2 => ?_, fun k k1 k2 => ?_⟩
  · rw [swp_get d' (by omega) (by omega) k, if_neg (by omega)]
    by_cases e : k = i - 1
    · rw [if_pos e, p.2.1 i (by omega)]
      congr 1; omega
    · rw [if_neg e, r1 k k1 (by omega)]
  · have e : k = i := by omega
    subst e
    rw [swp_get d' (by omega) (by omega) k, if_pos rfl, r2 (k - 1) (by omega) (by omega)]
    congr 1; omega

theorem rot_none {a m : Nat} (d : Array α) : Rot a m m d d :=
  ⟨permIn_refl _ _ _, fun k _ _ => by omega, fun k _ _ => by congr 1; omega⟩

/-- data[m] is brought down, step by step. -/
theorem rot_down {k m : Nat} {d d' : Array α} (hk : 0 < k) (hkm : k ≤ m) (hm : m < d.size) (h : Rot k m (m + 1) d d') : Rot (k - 1) m (m + 1) d (swp d' k (k - 1)) := by
  obtain ⟨p, r1, r2⟩ := h
  have hs := p.1
  refine ⟨permIn_trans _ _ _ _ _ (permIn_mono d d' k (m + 1) (k - 1) (m + 1) (by omega) (Nat.le_refl _) (by omega) p) (swp_permIn d' (k - 1) (m + 1) k (k - 1) (by omega) (by omega) (by omega) (by omega) (by omega)), fun q q1 q2 => ?_, fun q q1 q2 => ?_⟩
  · have e : q = k - 1 := by omega
    subst e
    rw [swp_get d' (by omega) (by omega), if_pos rfl, r1 k (by omega) (by omega)]
    congr 1; omega
  · rw [swp_get d' (by omega) (by omega) q, if_neg (by omega)]
    by_cases e : q = k
    · rw [if_pos e, p.2.1 (k - 1) (by omega)]
      congr 1; omega
    · rw [if_neg e, r2 q (by omega) (by omega)]

theorem rot_id (m : Nat) (d : Array α) : Rot m m (m + 1) d d :=
  ⟨permIn_refl _ _ _, fun k k1 k2 => by congr 1; omega, fun k k1 k2 => by omega⟩

/-! ### What the searches find -/
variable {lt : α → α → Bool}

omit [Inhabited α] in
theorem less_down (hO : SWO lt) {x y z : α} (h1 : lt y x = false) (h2 : lt y z = true) : lt x z = true := by
  cases h : lt x z with
  | true => rfl
  | false => rw [hO.ntrans y x z h1 h] at h2; cases h2

theorem sorted_le (hO : SWO lt) {a b : Nat} {d : Array α} (h : SortedIn lt a b d) {i j : Nat} (hi : a ≤ i) (hij : i ≤ j) (hj : j < b) : lt d[j]! d[i]! = false := by
  by_cases e : i = j
  · subst e; exact hO.irrefl _
  · exact h i j hi (by omega) hj

/-- One left of the row: it has come up to i. -/
theorem one_left (hO : SWO lt) {a b i : Nat} {d d' : Array α} (ha : a + 1 ≤ i) (hb : i ≤ b) (hsz : b ≤ d.size) (hs : SortedIn lt (a + 1) b d)
    (h1 : ∀ h, a + 1 ≤ h → h < i → lt d[h]! d[a]! = true) (h2 : ∀ h, i ≤ h → h < b → lt d[h]! d[a]! = false) (h : Rot a (a + 1) i d d') : PermIn a b d d' ∧ SortedIn lt a b d' := by
  obtain ⟨p, r1, r2⟩ := h
  refine ⟨permIn_mono d d' a i a b (Nat.le_refl _) hb hsz p, fun x y hx hxy hy => ?_⟩
  have g : ∀ k, a ≤ k → k < b → d'[k]! = if k < i - 1 then d[k + 1]! else if k = i - 1 then d[a]! else d[k]! := fun k k1 k2 => by
    by_cases c : k < i - 1
    · rw [if_pos c, r1 k k1 (by omega)]; congr 1; omega
    · rw [if_neg c]
      by_cases c2 : k = i - 1
      · rw [if_pos c2, r2 k (by omega) (by omega)]; congr 1; omega
      · rw [if_neg c2, p.2.1 k (by omega)]
  rw [g x hx (by omega), g y (by omega) hy]
  by_cases c1 : y < i - 1
  · rw [if_pos c1, if_pos (by omega)]; exact hs _ _ (by omega) (by omega) (by omega)
  · rw [if_neg c1]
    by_cases c2 : y = i - 1
    · rw [if_pos c2, if_pos (by omega)]; exact hO.asymmA (h1 _ (by omega) (by omega))
    · rw [if_neg c2]
      by_cases c3 : x < i - 1
      · rw [if_pos c3]; exact hs _ _ (by omega) (by omega) (by omega)
      · rw [if_neg c3]
        by_cases c4 : x = i - 1
        · rw [if_pos c4]; exact h2 _ (by omega) (by omega)
        · rw [if_neg c4]; exact hs _ _ (by omega) (by omega) (by omega)

/-- One right of the row: it has come down to i. -/
theorem one_right (hO : SWO lt) {a m i : Nat} {d d' : Array α} (ha : a ≤ i) (him : i ≤ m) (hsz : m + 1 ≤ d.size) (hs : SortedIn lt a m d)
    (h1 : ∀ h, a ≤ h → h < i → lt d[m]! d[h]! = false) (h2 : ∀ h, i ≤ h → h < m → lt d[m]! d[h]! = true) (h : Rot i m (m + 1) d d') : PermIn a (m + 1) d d' ∧ SortedIn lt a (m + 1) d' := by
  obtain ⟨p, r1, r2⟩ := h
  refine ⟨permIn_mono d d' i (m + 1) a (m + 1) ha (Nat.le_refl _) hsz p, fun x y hx hxy hy => ?_⟩
  have g : ∀ k, a ≤ k → k < m + 1 → d'[k]! = if k < i then d[k]! else if k = i then d[m]! else d[k - 1]! := fun k k1 k2 => by
    by_cases c : k < i
    · rw [if_pos c, p.2.1 k (by omega)]
    · rw [if_neg c]
      by_cases c2 : k = i
      · rw [if_pos c2, r1 k (by omega) (by omega)]; congr 1; omega
      · rw [if_neg c2, r2 k (by omega) (by omega)]; congr 1; omega
  rw [g x hx (by omega), g y (by omega) hy]
  by_cases c1 : y < i
  · rw [if_pos c1, if_pos (by omega)]; exact hs _ _ hx hxy (by omega)
  · rw [if_neg c1]
    by_cases c2 : y = i
    · rw [if_pos c2, if_pos (by omega)]; exact h1 _ hx (by omega)
    · rw [if_neg c2]
      by_cases c3 : x < i
      · rw [if_pos c3]; exact hs _ _ hx (by omega) (by omega)
      · rw [if_neg c3]
        by_cases c4 : x = i
        · rw [if_pos c4]; exact hO.asymmA (h2 _ (by omega) (by omega))
        · rw [if_neg c4]; exact hs _ _ (by omega) (by omega) (by omega)

/-- Both halves sorted, and none of the right one less than one of the left one. -/
theorem sorted_join {a mid b : Nat} {d : Array α} (h1 : SortedIn lt a mid d) (h2 : SortedIn lt mid b d) (h : ∀ x y, a ≤ x → x < mid → mid ≤ y → y < b → lt d[y]! d[x]! = false) : SortedIn lt a b d := by
  intro x y hx hxy hy
  by_cases c1 : y < mid
  · exact h1 x y hx hxy c1
  · by_cases c2 : x < mid
    · exact h x y hx c2 (by omega) hy
    · exact h2 x y (by omega) hxy hy

/-- What the search in the middle has found: up to start, and from start on. -/
structure Mid (lt : α → α → Bool) (a m b mid start : Nat) (d : Array α) : Prop where
  low : ∀ c, a ≤ c → c < start → c < m → mid + m - start < b → lt d[mid + m - start]! d[c]! = false
  high : ∀ c, start ≤ c → c < m → m < mid + m - start → lt d[mid + m - 1 - start]! d[c]! = true

/-- The rotation has parted the row: none of what is right is less than one of what is left. -/
theorem rot_parts (hO : SWO lt) {a m b mid start : Nat} {d d' : Array α} (ham : a < m) (hmb : m < b) (hmid : mid = (a + b) / 2) (hsz : b ≤ d.size) (s1 : SortedIn lt a m d) (s2 : SortedIn lt m b d)
    (h0 : a ≤ start) (h1 : start ≤ m) (h2 : mid + m ≤ b + start) (h3 : start ≤ mid) (hm : Mid lt a m b mid start d) (h : Rot start m (mid + m - start) d d') :
    PermIn a b d d' ∧ SortedIn lt a start d' ∧ SortedIn lt start mid d' ∧ SortedIn lt mid (mid + m - start) d' ∧ SortedIn lt (mid + m - start) b d' ∧ ∀ x y, a ≤ x → x < mid → mid ≤ y → y < b → lt d'[y]! d'[x]! = false := by
  obtain ⟨p, r1, r2⟩ := h
  have g : ∀ k, a ≤ k → k < b → d'[k]! = if k < start then d[k]! else if k < mid then d[k + (m - start)]! else if k < mid + m - start then d[k - (mid - start)]! else d[k]! := fun k k1 k2 => by
    by_cases c : k < start
    · rw [if_pos c, p.2.1 k (by omega)]
    · rw [if_neg c]
      by_cases c2 : k < mid
      · rw [if_pos c2, r1 k (by omega) (by omega)]
      · rw [if_neg c2]
        by_cases c3 : k < mid + m - start
        · rw [if_pos c3, r2 k (by omega) (by omega)]; congr 1; omega
        · rw [if_neg c3, p.2.1 k (by omega)]
  refine ⟨permIn_mono d d' start (mid + m - start) a b h0 (by omega) hsz p, ?_, ?_, ?_, ?_, ?_⟩
  · intro x y hx hxy hy
    rw [g x hx (by omega), g y (by omega) (by omega), if_pos (by omega), if_pos (by omega)]
    exact s1 _ _ hx hxy (by omega)
  · intro x y hx hxy hy
    rw [g x (by omega) (by omega), g y (by omega) (by omega), if_neg (by omega), if_pos (by omega), if_neg (by omega), if_pos (by omega)]
    exact s2 _ _ (by omega) (by omega) (by omega)
  · intro x y hx hxy hy
    rw [g x (by omega) (by omega), g y (by omega) (by omega), if_neg (by omega), if_neg (by omega), if_pos (by omega), if_neg (by omega), if_neg (by omega), if_pos (by omega)]
    exact s1 _ _ (by omega) (by omega) (by omega)
  · intro x y hx hxy hy
    rw [g x (by omega) (by omega), g y (by omega) (by omega), if_neg (by omega), if_neg (by omega), if_neg (by omega), if_neg (by omega), if_neg (by omega), if_neg (by omega)]
    exact s2 _ _ (by omega) (by omega) (by omega)
  · intro x y hx hxm hmy hy
    rw [g x hx (by omega), g y (by omega) hy, if_neg (show ¬ y < start by omega), if_neg (show ¬ y < mid by omega)]
    by_cases c1 : x < start
    · rw [if_pos c1]
      by_cases c2 : y < mid + m - start
      · rw [if_pos c2]
        exact sorted_le hO s1 hx (by omega) (by omega)
      · rw [if_neg c2]
        exact hO.ntrans _ _ _ (sorted_le hO s2 (show m ≤ mid + m - start by omega) (by omega) hy) (hm.low x hx c1 (by omega) (by omega))
    · rw [if_neg c1, if_pos hxm]
      by_cases c2 : y < mid + m - start
      · rw [if_pos c2]
        have k1 := hm.high (y - (mid - start)) (by omega) (by omega) (by omega)
        exact hO.ntrans _ _ _ (hO.asymmA k1) (sorted_le hO s2 (by omega) (by omega) (by omega))
      · rw [if_neg c2]
        exact sorted_le hO s2 (by omega) (by omega) hy

/-! ### The blocks -/
/-- Each block of bs is sorted. -/
def Blks (lt : α → α → Bool) (bs n : Nat) (d : Array α) : Prop := ∀ a, bs ∣ a → SortedIn lt a (min (a + bs) n) d
/-- Up to a the blocks of 2 bs are sorted, from a on those of bs. -/
def Half (lt : α → α → Bool) (bs a n : Nat) (d : Array α) : Prop := (∀ x, 2 * bs ∣ x → x < a → SortedIn lt x (x + 2 * bs) d) ∧ ∀ x, bs ∣ x → a ≤ x → SortedIn lt x (min (x + bs) n) d

theorem dvd_next {s x a : Nat} (h1 : s ∣ x) (h2 : s ∣ a) (h : x < a) : x + s ≤ a := by
  obtain ⟨p, rfl⟩ := h1
  obtain ⟨q, rfl⟩ := h2
  have hpq : p < q := Nat.lt_of_mul_lt_mul_left h
  have := Nat.mul_le_mul_left s (show p + 1 ≤ q from hpq)
  rwa [Nat.mul_add, Nat.mul_one] at this

theorem sorted_off {a b x y : Nat} {d d' : Array α} (h : SortedIn lt x y d) (p : PermIn a b d d') (hd : y ≤ a ∨ b ≤ x) : SortedIn lt x y d' := by
  intro i j hi hij hj
  rw [p.2.1 i (by omega), p.2.1 j (by omega)]
  exact h i j hi hij hj

theorem half_start {bs n : Nat} {d : Array α} (h : Blks lt bs n d) : Half lt bs 0 n d := ⟨fun x _ hx => by omega, fun x hx _ => h x hx⟩

theorem half_step {bs a n : Nat} {d d' : Array α} (hd : 2 * bs ∣ a) (h : Half lt bs a n d) (p : PermIn a (a + 2 * bs) d d') (hs : SortedIn lt a (a + 2 * bs) d') : Half lt bs (a + 2 * bs) n d' := by
  refine ⟨fun x hx hxa => ?_, fun x hx hax => sorted_off (h.2 x hx (by omega)) p (.inr hax)⟩
  by_cases e : x = a
  · subst e; exact hs
  · have hlt : x < a := by
      apply Nat.lt_of_not_le
      intro hc
      have := dvd_next hd hx (by omega)
      omega
    exact sorted_off (h.1 x hx hlt) p (.inl (dvd_next hx hd hlt))

theorem half_end {bs a n : Nat} {d : Array α} (hd : 2 * bs ∣ a) (h : Half lt bs a n d) (hn : n < a + 2 * bs) (ha : a ≤ n) (hs : SortedIn lt a n d) : Blks lt (2 * bs) n d := by
  intro x hx
  by_cases e : x = a
  · subst e; rw [Nat.min_eq_right (by omega)]; exact hs
  · rcases Nat.lt_or_ge x a with hlt | hge
    · have := dvd_next hx hd hlt
      rw [Nat.min_eq_left (by omega)]
      exact h.1 x hx hlt
    · have := dvd_next hd hx (by omega)
      intro i j hi hij hj
      omega

/-- Up to a the first blocks are sorted. -/
def Firsts (lt : α → α → Bool) (bs a : Nat) (d : Array α) : Prop := ∀ x, bs ∣ x → x < a → SortedIn lt x (x + bs) d
theorem firsts_step {bs a : Nat} {d d' : Array α} (hd : bs ∣ a) (h : Firsts lt bs a d) (p : PermIn a (a + bs) d d') (hs : SortedIn lt a (a + bs) d') : Firsts lt bs (a + bs) d' := by
  intro x hx hxa
  by_cases e : x = a
  · subst e; exact hs
  · have hlt : x < a := by
      apply Nat.lt_of_not_le
      intro hc
      have := dvd_next hd hx (by omega)
      omega
    exact sorted_off (h x hx hlt) p (.inl (dvd_next hx hd hlt))
theorem firsts_end {bs a n : Nat} {d d' : Array α} (hd : bs ∣ a) (h : Firsts lt bs a d) (ha : a ≤ n) (hn : n < a + bs) (p : PermIn a n d d') (hs : SortedIn lt a n d') : Blks lt bs n d' := by
  intro x hx
  by_cases e : x = a
  · subst e; rw [Nat.min_eq_right (by omega)]; exact hs
  · rcases Nat.lt_or_ge x a with hlt | hge
    · have := dvd_next hx hd hlt
      rw [Nat.min_eq_left (by omega)]
      exact sorted_off (h x hx hlt) p (.inl this)
    · have := dvd_next hd hx (by omega)
      intro i j hi hij hj
      omega

/-- One block holds all. -/
theorem blks_all {bs n : Nat} {d : Array α} (h : Blks lt bs n d) (hn : n ≤ bs) : SortedIn lt 0 n d := by
  have := h 0 (Nat.dvd_zero _)
  rwa [Nat.zero_add, Nat.min_eq_right hn] at this

/-- The two of a pair. -/
theorem half_two {bs a n : Nat} {d : Array α} (hd : 2 * bs ∣ a) (h : Half lt bs a n d) : SortedIn lt a (min (a + bs) n) d ∧ SortedIn lt (a + bs) (min (a + bs + bs) n) d := by
  have h1 : bs ∣ a := Nat.dvd_trans (Nat.dvd_mul_left bs 2) hd
  exact ⟨h.2 a h1 (Nat.le_refl _), h.2 _ (Nat.dvd_add h1 (Nat.dvd_refl _)) (by omega)⟩

/-! ### The two searches in the middle -/
theorem mid_low (hO : SWO lt) {a m b s c : Nat} {d : Array α} (s1 : SortedIn lt a m d) (s2 : SortedIn lt m b d) (hc : lt d[s - c]! d[c]! = false) (hcm : c < m) (hcs : c ≤ s) {x : Nat} (hx : a ≤ x) (hxc : x ≤ c) (hm : m ≤ s - c) (hb : s - x < b) : lt d[s - x]! d[x]! = false :=
  hO.ntrans _ _ _ (sorted_le hO s2 hm (by omega) hb) (hO.ntrans _ _ _ hc (sorted_le hO s1 hx hxc hcm))

theorem mid_high (hO : SWO lt) {a m b s c : Nat} {d : Array α} (s1 : SortedIn lt a m d) (s2 : SortedIn lt m b d) (hc : lt d[s - c]! d[c]! = true) (hac : a ≤ c) (hb : s - c < b) {x : Nat} (hcx : c ≤ x) (hxm : x < m) (hms : m ≤ s - x) : lt d[s - x]! d[x]! = true := by
  have h1 : lt d[s - c]! d[x]! = true := by
    cases h : lt d[s - c]! d[x]! with
    | true => rfl
    | false => rw [hO.ntrans _ _ _ h (sorted_le hO s1 hac hcx hxm)] at hc; cases hc
  exact less_down hO (sorted_le hO s2 hms (by omega) hb) h1
end Go.Proofs.Ytnojfiokdhcbjaa

namespace Go.Proofs.Ytnojfiokdhcbjaa
open Go.Sort
variable {α : Type} [Inhabited α] {lt : α → α → Bool}

theorem permIn_get {a b : Nat} {d d' : Array α} (h : PermIn a b d d') (hb : b ≤ d.size) {k : Nat} (ha : a ≤ k) (hk : k < b) : ∃ j, a ≤ j ∧ j < b ∧ d'[k]! = d[j]! := by
  have hs := h.1
  have e1 : (d'.extract a b).toList[k - a]? = some d'[k]! := by
    have e2 : a + (k - a) = k := by omega
    rw [Array.getElem?_toList, Array.getElem?_extract_of_lt (by omega)]
    simp only [e2]
    rw [getElem!_pos d' k (by omega)]
  have h1 : d'[k]! ∈ (d.extract a b).toList := (h.2.2.mem_iff).1 (List.mem_of_getElem? e1)
  obtain ⟨j, hj⟩ := List.mem_iff_getElem?.1 h1
  rw [Array.getElem?_toList] at hj
  have hjl := (Array.getElem?_eq_some_iff.1 hj).1
  rw [Array.size_extract] at hjl
  rw [Array.getElem?_extract_of_lt (by omega)] at hj
  refine ⟨a + j, by omega, by omega, ?_⟩
  rw [getElem!_pos d (a + j) (by omega)]
  exact (Option.some.inj hj).symm

theorem rot_skip {s m e : Nat} (d : Array α) (h : ¬ (s < m ∧ m < e)) (h1 : s ≤ m) (h2 : m ≤ e) : Rot s m e d d := by
  refine ⟨permIn_refl _ _ _, fun k k1 k2 => ?_, fun k k1 k2 => ?_⟩
  · congr 1; omega
  · congr 1; omega

theorem merge_end {a mid b : Nat} {d1 d2 d3 : Array α} (ham : a ≤ mid) (hmb : mid ≤ b) (hsz : b ≤ d1.size) (p2 : PermIn a mid d1 d2) (s2 : SortedIn lt a mid d2) (p3 : PermIn mid b d2 d3) (s3 : SortedIn lt mid b d3)
    (hx : ∀ x y, a ≤ x → x < mid → mid ≤ y → y < b → lt d1[y]! d1[x]! = false) : PermIn a b d1 d3 ∧ SortedIn lt a b d3 := by
  have hs2 := p2.1
  refine ⟨permIn_trans _ _ _ _ _ (permIn_mono d1 d2 a mid a b (Nat.le_refl _) hmb hsz p2) (permIn_mono d2 d3 mid b a b ham (Nat.le_refl _) (by omega) p3), sorted_join (sorted_off s2 p3 (.inl (Nat.le_refl _))) s3 fun x y hx1 hx2 hy1 hy2 => ?_⟩
  obtain ⟨y', h1, h2, e1⟩ := permIn_get p3 (by omega) hy1 hy2
  obtain ⟨x', h3, h4, e2⟩ := permIn_get p2 (by omega) hx1 hx2
  rw [e1, p3.2.1 x (.inl hx2), e2, p2.2.1 y' (.inr h1)]
  exact hx _ _ h3 h4 h1 h2

/-- The search for one that stands left. -/
structure SrL (lt : α → α → Bool) (a m b i j : Nat) (d : Array α) : Prop where
  i0 : m ≤ i
  ij : i ≤ j
  jb : j ≤ b
  lo : ∀ h, m ≤ h → h < i → lt d[h]! d[a]! = true
  hi : ∀ h, j ≤ h → h < b → lt d[h]! d[a]! = false
theorem SrL.start (a : Nat) {m b : Nat} (d : Array α) (h : m ≤ b) : SrL lt a m b m b d := ⟨Nat.le_refl _, h, Nat.le_refl _, fun _ _ _ => by omega, fun _ _ _ => by omega⟩
theorem SrL.up (hO : SWO lt) {a m b i j h : Nat} {d : Array α} (S : SrL lt a m b i j d) (s : SortedIn lt m b d) (h1 : i ≤ h) (h2 : h < j) (hc : lt d[h]! d[a]! = true) : SrL lt a m b (h + 1) j d := by
  obtain ⟨i0, ij, jb, lo, hi⟩ := S
  exact ⟨by omega, by omega, jb, fun x x1 x2 => less_down hO (sorted_le hO s x1 (by omega) (by omega)) hc, hi⟩
theorem SrL.down (hO : SWO lt) {a m b i j h : Nat} {d : Array α} (S : SrL lt a m b i j d) (s : SortedIn lt m b d) (h1 : i ≤ h) (h2 : h < j) (hc : lt d[h]! d[a]! = false) : SrL lt a m b i h d := by
  obtain ⟨i0, ij, jb, lo, hi⟩ := S
  exact ⟨i0, h1, by omega, lo, fun x x1 x2 => hO.ntrans _ _ _ (sorted_le hO s (by omega) x1 x2) hc⟩

/-- The search for one that stands right. -/
structure SrR (lt : α → α → Bool) (a m i j : Nat) (d : Array α) : Prop where
  i0 : a ≤ i
  ij : i ≤ j
  jb : j ≤ m
  lo : ∀ h, a ≤ h → h < i → lt d[m]! d[h]! = false
  hi : ∀ h, j ≤ h → h < m → lt d[m]! d[h]! = true
theorem SrR.start {a m : Nat} (d : Array α) (h : a ≤ m) : SrR lt a m a m d := ⟨Nat.le_refl _, h, Nat.le_refl _, fun _ _ _ => by omega, fun _ _ _ => by omega⟩
theorem SrR.up (hO : SWO lt) {a m i j h : Nat} {d : Array α} (S : SrR lt a m i j d) (s : SortedIn lt a m d) (h1 : i ≤ h) (h2 : h < j) (hc : lt d[m]! d[h]! = false) : SrR lt a m (h + 1) j d := by
  obtain ⟨i0, ij, jb, lo, hi⟩ := S
  exact ⟨by omega, by omega, jb, fun x x1 x2 => hO.ntrans _ _ _ hc (sorted_le hO s x1 (by omega) (by omega)), hi⟩
theorem SrR.down (hO : SWO lt) {a m i j h : Nat} {d : Array α} (S : SrR lt a m i j d) (s : SortedIn lt a m d) (h1 : i ≤ h) (h2 : h < j) (hc : lt d[m]! d[h]! = true) : SrR lt a m i h d := by
  obtain ⟨i0, ij, jb, lo, hi⟩ := S
  refine ⟨i0, h1, by omega, lo, fun x x1 x2 => ?_⟩
  cases hx : lt d[m]! d[x]! with
  | true => rfl
  | false => rw [hO.ntrans _ _ _ hx (sorted_le hO s (by omega) x1 x2)] at hc; cases hc

/-- The search in the middle. -/
structure MidI (lt : α → α → Bool) (s0 r0 s r p : Nat) (d : Array α) : Prop where
  s0s : s0 ≤ s
  sr : s ≤ r
  rr0 : r ≤ r0
  lo : s = s0 ∨ (s0 < s ∧ lt d[p - (s - 1)]! d[s - 1]! = false)
  hi : r = r0 ∨ lt d[p - r]! d[r]! = true
theorem MidI.start {s0 r0 : Nat} (p : Nat) (d : Array α) (h : s0 ≤ r0) : MidI lt s0 r0 s0 r0 p d := ⟨Nat.le_refl _, h, Nat.le_refl _, .inl rfl, .inl rfl⟩
theorem MidI.up {s0 r0 s r p c : Nat} {d : Array α} (h : MidI lt s0 r0 s r p d) (h1 : s ≤ c) (h2 : c < r) (hc : lt d[p - c]! d[c]! = false) : MidI lt s0 r0 (c + 1) r p d :=
  ⟨by have := h.s0s; omega, by omega, h.rr0, .inr ⟨by have := h.s0s; omega, by rwa [Nat.add_sub_cancel]⟩, h.hi⟩
theorem MidI.down {s0 r0 s r p c : Nat} {d : Array α} (h : MidI lt s0 r0 s r p d) (h1 : s ≤ c) (h2 : c < r) (hc : lt d[p - c]! d[c]! = true) : MidI lt s0 r0 s c p d :=
  ⟨h.s0s, h1, by have := h.rr0; omega, h.lo, .inr hc⟩

/-- Where the search in the middle begins and ends. -/
def midS (a m b mid : Nat) : Nat := if mid < m then mid + m - b else a
def midR (m mid : Nat) : Nat := if mid < m then mid else m
theorem mid_end (hO : SWO lt) {a m b mid s : Nat} {d : Array α} (hmid : mid = (a + b) / 2) (s1 : SortedIn lt a m d) (h : MidI lt (midS a m b mid) (midR m mid) s s (mid + m - 1) d) : Mid lt a m b mid s d := by
  obtain ⟨g1, g2, g3, g4, g5⟩ := h
  have b1 : a ≤ midS a m b mid := by unfold midS; split <;> omega
  refine ⟨fun c ha hcs hcm hb => ?_, fun c hsc hcm hm => ?_⟩
  · rcases g4 with g4 | ⟨g4, g6⟩
    · exfalso
      subst g4
      unfold midS at hcs hb
      by_cases hc : mid < m
      · rw [if_pos hc] at hb; omega
      · rw [if_neg hc] at hcs; omega
    · have e : mid + m - 1 - (s - 1) = mid + m - s := by omega
      rw [e] at g6
      have hsm : s - 1 < m := by unfold midR at g3; split at g3 <;> omega
      exact hO.ntrans _ _ _ g6 (sorted_le hO s1 ha (by omega) hsm)
  · rcases g5 with g5 | g5
    · exfalso
      rw [g5] at hm hsc
      unfold midR at hm hsc
      by_cases hc : mid < m
      · rw [if_pos hc] at hm; omega
      · rw [if_neg hc] at hsc; omega
    · cases hx : lt d[mid + m - 1 - s]! d[c]! with
      | true => rfl
      | false => rw [hO.ntrans _ _ _ hx (sorted_le hO s1 (by omega) hsc hcm)] at g5; cases g5
theorem mid_bounds {a m b mid s : Nat} (hmid : mid = (a + b) / 2) (g1 : midS a m b mid ≤ s) (g3 : s ≤ midR m mid) : a ≤ s ∧ s ≤ m ∧ mid + m ≤ b + s ∧ s ≤ mid := by
  unfold midS at g1
  unfold midR at g3
  by_cases hc : mid < m
  · rw [if_pos hc] at g1 g3; omega
  · rw [if_neg hc] at g1 g3; omega
theorem mid_le {a m b mid : Nat} (ham : a < m) (hmb : m < b) (hmid : mid = (a + b) / 2) : midS a m b mid ≤ midR m mid := by
  unfold midS midR
  split <;> omega
/-- Places that the search in the middle looks at. -/
theorem mid_at {a m b mid c : Nat} (ham : a < m) (hmb : m < b) (hmid : mid = (a + b) / 2) (g1 : midS a m b mid ≤ c) (g3 : c < midR m mid) : a ≤ c ∧ c < b ∧ c ≤ mid + m - 1 ∧ mid + m - 1 - c < b := by
  unfold midS at g1
  unfold midR at g3
  by_cases hc : mid < m
  · rw [if_pos hc] at g1 g3; omega
  · rw [if_neg hc] at g1 g3; omega
end Go.Proofs.Ytnojfiokdhcbjaa

namespace Go.Proofs.Ytnojfiokdhcbjaa
open Go Go.RowKit Go.Lib Go.Sort Go.Shelf
variable {α : Type} [Inhabited α]

set_option maxHeartbeats 4000000 in
set_option maxRecDepth 1000000 in
theorem swapRange_any (k : Nat) (zE : ∀ w, (Go.sizeOf 72).run Try.prog w = .ok k w) (enc : α → List Value) (fv : Value) (blk off cap sz a b n : Nat) (d0 d : Array α) (w0 w : World)
    (R : RowK enc k w0 blk off d0) (hs : d0.size = sz) (hd : d.size = sz) (S : SWK enc k w0 blk off d w) (hab : a + n ≤ b) (hb : b + n ≤ sz) (hsz : sz < 4611686018427387904) :
    Calls Try.prog 114 #[.slice (some ⟨blk, off, none⟩) sz cap, .int .i64 a, .int .i64 b, .int .i64 n, fv] w fun e w' => e = .returned (.tuple #[]) ∧ ∃ d', d'.size = sz ∧ SwR a b n d d' ∧ SWK enc k w0 blk off d' w' := by
  have mixed : Try.prog.follows .mixedOrders = true := by kernel_rfl
  have aE : ∀ w, (isAgg 72).run Try.prog w = .ok true w := fun w => by kernel_rfl
  have S0 : Aside (SWK enc k w0 blk off d w) := S
  clear S
  go_enter Try.func114, Try.ntmps114
  go_wp2
  go_loopg [10] n (fun kx si wr => ∃ (i : Nat) (dk : Array α), si = .int .i64 i ∧ i ≤ n ∧ n ≤ kx + i ∧ dk.size = sz ∧ Hid (SwR a b i d dk) ∧ Aside (SWK enc k w0 blk off dk wr))
  case atStart => exact ⟨0, d, rfl, by omega, by omega, hd, swR_start a b d, S0⟩
  case round =>
    clear S0
    obtain ⟨i, dk, rfl, hin, hkx, hds, hR, S1⟩ := hrel
    by_cases hlt : i < n
    · have hlz : (i : Int) < (n : Int) := by omega
      go_wp2_with fail
      have ea44 : ((a : Int) + (i : Int)).toNat = a + i := by omega
      have pa44 : (0 : Int) ≤ (a : Int) + (i : Int) := by omega
      have ba44 : (a : Int) + (i : Int) < (sz : Int) := by omega
      have ra44 : IntKind.i64.wrap ((a : Int) + (i : Int)) = (a : Int) + (i : Int) := by rw [IntKind.wrap_i64]; omega
      have ec44 : ((b : Int) + (i : Int)).toNat = b + i := by omega
      have pc44 : (0 : Int) ≤ (b : Int) + (i : Int) := by omega
      have bc44 : (b : Int) + (i : Int) < (sz : Int) := by omega
      have rc44 : IntKind.i64.wrap ((b : Int) + (i : Int)) = (b : Int) + (i : Int) := by rw [IntKind.wrap_i64]; omega
      have S2 : Aside (SWK enc k w0 blk off (swp dk (a + i) (b + i)) ((wr.drew.setCells blk (off + (a + i) * k) (enc dk[b + i]!)).setCells blk (off + (b + i) * k) (enc dk[a + i]!))) := S1.out.swapped R (a + i) (b + i) (by omega) (by omega)
      have l44a := S1.out.ld1 R (by omega) Try.prog (a + i) (by omega)
      have l44b := S1.out.ld1 R (by omega) Try.prog (b + i) (by omega)
      have s44a := S1.out.st1 R (by omega) Try.prog (a + i) (by omega) dk[b + i]!
      have s44b := S1.out.st2 R (by omega) Try.prog (a + i) (b + i) (by omega) (by omega) dk[b + i]! dk[a + i]!
      have n44a : (enc dk[a + i]!).length = k := R.hk _
      have n44b : (enc dk[b + i]!).length = k := R.hk _
      generalize enc dk[a + i]! = cI44 at S2 l44a s44b n44a
      generalize enc dk[b + i]! = cJ44 at S2 l44b s44a s44b n44b
      clear S1
      go_big_region_o
      clear l44a l44b s44a s44b
      generalize (wr.drew.setCells blk (off + (a + i) * k) cJ44).setCells blk (off + (b + i) * k) cI44 = w2 at S2 ⊢
      go_wp2
      go_roundg (n - (i + 1))
      case measure => omega
      case rel => exact ⟨i + 1, swp dk (a + i) (b + i), by go_num, by omega, by omega, by rw [size_swp]; exact hds, swR_step (by omega) (by omega) hR.out, S2⟩
    · have hlz : ¬ (i : Int) < (n : Int) := by omega
      have hi : i = n := by omega
      subst hi
      go_wp2
      go_end0
      exact ⟨rfl, dk, hds, hR.out, S1.out⟩

set_option maxHeartbeats 4000000 in
set_option maxRecDepth 1000000 in
theorem rotate_any (k : Nat) (zE : ∀ w, (Go.sizeOf 72).run Try.prog w = .ok k w) (enc : α → List Value) (fv : Value) (blk off cap sz a m b : Nat) (d0 d : Array α) (w0 w : World)
    (R : RowK enc k w0 blk off d0) (hs : d0.size = sz) (hd : d.size = sz) (S : SWK enc k w0 blk off d w) (ham : a < m) (hmb : m < b) (hb : b ≤ sz) (hsz : sz < 4611686018427387904) :
    Calls Try.prog 97 #[.slice (some ⟨blk, off, none⟩) sz cap, .int .i64 a, .int .i64 m, .int .i64 b, fv] w fun e w' => e = .returned (.tuple #[]) ∧ ∃ d', d'.size = sz ∧ Rot a m b d d' ∧ SWK enc k w0 blk off d' w' := by
  have S0 : Aside (SWK enc k w0 blk off d w) := S
  clear S
  go_enter Try.func97, Try.ntmps97
  go_wp2
  go_loopg [10, 11] (m - a + (b - m)) (fun kx si sj wr => ∃ (i j : Nat) (dk : Array α), si = .int .i64 i ∧ sj = .int .i64 j ∧ 0 < i ∧ a + i ≤ m ∧ 0 < j ∧ m + j ≤ b ∧ i + j ≤ kx ∧ dk.size = sz ∧ Hid (∀ d', Rot (m - i) m (m + j) dk d' → Rot a m b d d') ∧ Aside (SWK enc k w0 blk off dk wr))
  case atStart => exact ⟨m - a, b - m, d, by go_num, by go_num, by omega, by omega, by omega, by omega, Nat.le_refl _, hd, (by intro d' h; rw [show m - (m - a) = a by omega, show m + (b - m) = b by omega] at h; exact h), S0⟩
  case round =>
    clear S0
    obtain ⟨i, j, dk, rfl, rfl, hi0, him, hj0, hjb, hkx, hds, hR, S1⟩ := hrel
    have e1 : ((m - i : Nat) : Int) = (m : Int) - (i : Int) := by omega
    by_cases hij : i = j
    · subst hij
      have h := swapRange_any k zE enc fv blk off cap sz (m - i) m i d0 dk w0 wr R hs hds S1.out (by omega) (by omega) hsz
      rw [e1] at h
      have H : Aside _ := h
      clear h S1
      go_wp2_with fail
      refine Calls.mono H.out ?_
      rintro e w1 ⟨rfl, d', h1, h2, h3⟩
      have H2 := Lib.hid h2
      have H3 := Lib.hid h3
      clear h2 h3
      go_wp2_with fail
      go_end0
      exact ⟨rfl, d', h1, hR.out _ (rot_eq (by omega) H2.out), H3.out⟩
    · have hne2 : ¬ (i : Int) = (j : Int) := by omega
      by_cases hgt : j < i
      · have hgz : (j : Int) < (i : Int) := by omega
        have h := swapRange_any k zE enc fv blk off cap sz (m - i) m j d0 dk w0 wr R hs hds S1.out (by omega) (by omega) hsz
        rw [e1] at h
        have H : Aside _ := h
        clear h S1
        go_wp2_with fail
        refine Calls.mono H.out ?_
        rintro e w1 ⟨rfl, d', h1, h2, h3⟩
        have H2 := Lib.hid h2
        have H3 : Aside _ := h3
        clear h2 h3
        go_wp2_with fail
        go_roundg (i - j + j)
        case measure => omega
        case rel => exact ⟨i - j, j, d', by go_num, rfl, by omega, by omega, hj0, hjb, Nat.le_refl _, h1, fun d2 hd2 => hR.out _ (rot_big hgt (by omega) (by omega) H2.out hd2), H3⟩
      · have hgz : ¬ (j : Int) < (i : Int) := by omega
        have e2 : ((m + j - i : Nat) : Int) = (m : Int) + (j : Int) - (i : Int) := by omega
        have h := swapRange_any k zE enc fv blk off cap sz (m - i) (m + j - i) i d0 dk w0 wr R hs hds S1.out (by omega) (by omega) hsz
        rw [e1, e2] at h
        have H : Aside _ := h
        clear h S1
        go_wp2_with fail
        refine Calls.mono H.out ?_
        rintro e w1 ⟨rfl, d', h1, h2, h3⟩
        have H2 := Lib.hid h2
        have H3 : Aside _ := h3
        clear h2 h3
        go_wp2_with fail
        go_roundg (i + (j - i))
        case measure => omega
        case rel => exact ⟨i, j - i, d', rfl, by go_num, hi0, him, by omega, by omega, Nat.le_refl _, h1, fun d2 hd2 => hR.out _ (rot_small (by omega) (by omega) (by omega) H2.out hd2), H3⟩
end Go.Proofs.Ytnojfiokdhcbjaa

namespace Go.Proofs.Ytnojfiokdhcbjaa
open Go Go.RowKit Go.Lib Go.Sort Go.Shelf
variable {α : Type} [Inhabited α]

theorem half_le (i j : Nat) (h : i < j) : i ≤ (i + j) / 2 ∧ (i + j) / 2 < j := by omega

set_option maxHeartbeats 16000000 in
set_option maxRecDepth 1000000 in
theorem symMerge_left (k : Nat) (zE : ∀ w, (Go.sizeOf 72).run Try.prog w = .ok k w) (enc : α → List Value) (cf : α → α → Int) (hO : SWO (ltOf cf)) (g : Nat) (cb : Array Value) (blk off cap sz : Nat) (d0 : Array α) (w0 : World)
    (eg : ∀ args w, (callFunc g args).run Try.prog w = .ok (.enter g args) w) (hcmp : CmpLays Try.prog g cb enc k cf blk off sz w0)
    (R : RowK enc k w0 blk off d0) (hs : d0.size = sz) (hsz : sz < 4611686018427387904) (a m b : Nat) (d : Array α) (w : World) (hd : d.size = sz) (S : SWK enc k w0 blk off d w) (hm : m = a + 1) (hmb : m < b) (hb : b ≤ sz) (hs2 : SortedIn (ltOf cf) m b d) :
    Calls Try.prog 71 #[.slice (some ⟨blk, off, none⟩) sz cap, .int .i64 a, .int .i64 m, .int .i64 b, .func (.func g) #[] cb] w fun e w' => e = .returned (.tuple #[]) ∧ ∃ d', d'.size = sz ∧ PermIn a b d d' ∧ SortedIn (ltOf cf) a b d' ∧ SWK enc k w0 blk off d' w' := by
  have mixed : Try.prog.follows .mixedOrders = true := by kernel_rfl
  have HC : Aside _ := hcmp
  have HO : Hid (SWO (ltOf cf)) := hO
  clear hcmp hO
  have S0 : Aside (SWK enc k w0 blk off d w) := S
  have H2 := Lib.hid hs2
  clear S hs2
  have HM := Lib.hid hm
  have hg : (m : Int) - (a : Int) = 1 := by omega
  have ham : a < m := by omega
  clear hm
  go_enter Try.func71, Try.ntmps71
  go_wp2_with fail
  clear hg
  go_loopg [10, 11] (b - m) (fun kx si sj wr => ∃ (i j : Nat), si = .int .i64 i ∧ sj = .int .i64 j ∧ m ≤ i ∧ i ≤ j ∧ j ≤ b ∧ j - i ≤ kx ∧ Hid (SrL (ltOf cf) a m b i j d) ∧ Aside (SWK enc k w0 blk off d wr))
  case atStart => exact ⟨m, b, rfl, rfl, Nat.le_refl _, by omega, Nat.le_refl _, by omega, SrL.start a d (by omega), S0⟩
  case round =>
    clear S0
    obtain ⟨i, j, rfl, rfl, hai, hij, hjb, hkx, hL, S1⟩ := hrel
    by_cases hlt : i < j
    · have hlz : (i : Int) < (j : Int) := by omega
      obtain ⟨h, hh⟩ : ∃ h, h = (i + j) / 2 := ⟨_, rfl⟩
      have hh1 : i ≤ h ∧ h < j := by rw [hh]; exact half_le i j hlt
      have hz : Hid (((i : Int) + (j : Int)) / 2 = (h : Int)) := by show _ = _; rw [hh]; omega
      clear hh
      go_wp2_with fail
      rw [hz.out]
      clear hz
      cases hlv : ltOf cf d[h]! d[a]! with
      | true =>
        have eax1 : ((h : Int)).toNat = h := by omega
        have pax1 : (0 : Int) ≤ (h : Int) := by omega
        have bax1 : (h : Int) < (sz : Int) := by omega
        have rax1 : IntKind.i64.wrap ((h : Int)) = (h : Int) := by rw [IntKind.wrap_i64]; omega
        have eay1 : ((a : Int)).toNat = a := by omega
        have pay1 : (0 : Int) ≤ (a : Int) := by omega
        have bay1 : (a : Int) < (sz : Int) := by omega
        have ray1 : IntKind.i64.wrap ((a : Int)) = (a : Int) := by rw [IntKind.wrap_i64]; omega
        obtain ⟨x1, hx1⟩ : ∃ z, z = d[h]! := ⟨_, rfl⟩
        obtain ⟨y1, hy1⟩ : ∃ z, z = d[a]! := ⟨_, rfl⟩
        have l1a := S1.out.ld R (by omega) Try.prog (h) (by omega)
        have l1b := S1.out.ld R (by omega) Try.prog (a) (by omega)
        rw [← hx1] at l1a
        rw [← hy1] at l1b
        have hc1 := S1.out.cmp HC.out (by omega) x1 y1
        have hv1 : cf x1 y1 < 0 := by rw [hx1, hy1]; exact of_decide_eq_true hlv
        have hd1 : decide (cf x1 y1 < 0) = true := decide_eq_true hv1
        clear hx1 hy1
        go_wp2_with fail
        go_quiet_grown (first | (go_at_fn g; refine Calls.grown_of (hc1 _ _)))
        have S2 : Aside (SWK enc k w0 blk off d (grow (wr.drewN nq) osq)) := S1.out.grown nq osq
        clear l1a l1b hc1 S1
        generalize grow (wr.drewN nq) osq = w1 at S2 ⊢
        clear nq osq
        go_wp2_with fail
        go_roundg (j - (h + 1))
        case measure => omega
        case rel => exact ⟨h + 1, j, by go_num, rfl, by omega, by omega, hjb, by omega, hL.out.up HO.out H2.out hh1.1 hh1.2 hlv, S2⟩
      | false =>
        have eax2 : ((h : Int)).toNat = h := by omega
        have pax2 : (0 : Int) ≤ (h : Int) := by omega
        have bax2 : (h : Int) < (sz : Int) := by omega
        have rax2 : IntKind.i64.wrap ((h : Int)) = (h : Int) := by rw [IntKind.wrap_i64]; omega
        have eay2 : ((a : Int)).toNat = a := by omega
        have pay2 : (0 : Int) ≤ (a : Int) := by omega
        have bay2 : (a : Int) < (sz : Int) := by omega
        have ray2 : IntKind.i64.wrap ((a : Int)) = (a : Int) := by rw [IntKind.wrap_i64]; omega
        obtain ⟨x2, hx2⟩ : ∃ z, z = d[h]! := ⟨_, rfl⟩
        obtain ⟨y2, hy2⟩ : ∃ z, z = d[a]! := ⟨_, rfl⟩
        have l2a := S1.out.ld R (by omega) Try.prog (h) (by omega)
        have l2b := S1.out.ld R (by omega) Try.prog (a) (by omega)
        rw [← hx2] at l2a
        rw [← hy2] at l2b
        have hc2 := S1.out.cmp HC.out (by omega) x2 y2
        have hv2 : ¬ cf x2 y2 < 0 := by rw [hx2, hy2]; exact of_decide_eq_false hlv
        have hd2 : decide (cf x2 y2 < 0) = false := decide_eq_false hv2
        clear hx2 hy2
        go_wp2_with fail
        go_quiet_grown (first | (go_at_fn g; refine Calls.grown_of (hc2 _ _)))
        have S2 : Aside (SWK enc k w0 blk off d (grow (wr.drewN nq) osq)) := S1.out.grown nq osq
        clear l2a l2b hc2 S1
        generalize grow (wr.drewN nq) osq = w2 at S2 ⊢
        clear nq osq
        go_wp2_with fail
        go_roundg (h - i)
        case measure => omega
        case rel => exact ⟨i, h, rfl, by go_num, hai, by omega, by omega, by omega, hL.out.down HO.out H2.out hh1.1 hh1.2 hlv, S2⟩
    · have hlz : ¬ (i : Int) < (j : Int) := by omega
      have hje : j = i := by omega
      subst hje
      go_wp2_with fail
      go_loopg [13] (j - 1 - a) (fun kx sq wq => ∃ (q : Nat) (dk : Array α), sq = .int .i64 q ∧ a ≤ q ∧ q + 1 ≤ j ∧ j - 1 - q ≤ kx ∧ dk.size = sz ∧ Hid (Rot a m (q + 1) d dk) ∧ Aside (SWK enc k w0 blk off dk wq))
      case atStart => exact ⟨a, d, rfl, Nat.le_refl _, by omega, Nat.le_refl _, hd, (by show Rot _ _ _ _ _; rw [HM.out]; exact rot_none (a := a) (m := a + 1) d), S1⟩
      case round =>
        clear S1
        obtain ⟨q, dk, rfl, haq, hqj, hkq, hds, hR, S1⟩ := hrel
        by_cases hqlt : q + 1 < j
        · have hqz : (q : Int) < (j : Int) - 1 := by omega
          go_wp2_with fail
          have eax3 : ((q : Int)).toNat = q := by omega
          have pax3 : (0 : Int) ≤ (q : Int) := by omega
          have bax3 : (q : Int) < (sz : Int) := by omega
          have rax3 : IntKind.i64.wrap ((q : Int)) = (q : Int) := by rw [IntKind.wrap_i64]; omega
          have eay3 : ((q : Int) + 1).toNat = q + 1 := by omega
          have pay3 : (0 : Int) ≤ (q : Int) + 1 := by omega
          have bay3 : (q : Int) + 1 < (sz : Int) := by omega
          have ray3 : IntKind.i64.wrap ((q : Int) + 1) = (q : Int) + 1 := by rw [IntKind.wrap_i64]; omega
          have S2 : Aside (SWK enc k w0 blk off (swp dk (q) (q + 1)) ((wr.drew.setCells blk (off + (q) * k) (enc dk[q + 1]!)).setCells blk (off + (q + 1) * k) (enc dk[q]!))) := S1.out.swapped R (q) (q + 1) (by omega) (by omega)
          have l3a := S1.out.ld1 R (by omega) Try.prog (q) (by omega)
          have l3b := S1.out.ld1 R (by omega) Try.prog (q + 1) (by omega)
          have s3a := S1.out.st1 R (by omega) Try.prog (q) (by omega) dk[q + 1]!
          have s3b := S1.out.st2 R (by omega) Try.prog (q) (q + 1) (by omega) (by omega) dk[q + 1]! dk[q]!
          have n3a : (enc dk[q]!).length = k := R.hk _
          have n3b : (enc dk[q + 1]!).length = k := R.hk _
          generalize enc dk[q]! = cI3 at S2 l3a s3b n3a
          generalize enc dk[q + 1]! = cJ3 at S2 l3b s3a s3b n3b
          clear S1
          go_big_region_o
          clear l3a l3b s3a s3b
          generalize (wr.drew.setCells blk (off + (q) * k) cJ3).setCells blk (off + (q + 1) * k) cI3 = w3 at S2 ⊢
          go_wp2_with fail
          go_roundg (j - 1 - (q + 1))
          case measure => omega
          case rel => exact ⟨q + 1, swp dk q (q + 1), by go_num, by omega, by omega, by omega, by rw [size_swp]; exact hds, (by show Rot _ _ _ _ _; have h := hR.out; rw [HM.out] at h ⊢; exact rot_up (by omega) (by omega) h), S2⟩
        · have hqz : ¬ (q : Int) < (j : Int) - 1 := by omega
          have hqe : q + 1 = j := by omega
          subst hqe
          go_wp2_with fail
          (try simp only [Exit.inBlock, Exit.then]); refine bodyPost_ret (results_none rfl _ _ _) rfl ?_
          have q2 := H2.out
          have q3 := hL.out
          have q4 := hR.out
          rw [HM.out] at q2 q3 q4
          obtain ⟨p1, p2⟩ := one_left HO.out (by omega) hjb (by omega) q2 q3.lo q3.hi q4
          exact ⟨rfl, dk, hds, p1, p2, S1.out⟩

set_option maxHeartbeats 16000000 in
set_option maxRecDepth 1000000 in
theorem symMerge_right (k : Nat) (zE : ∀ w, (Go.sizeOf 72).run Try.prog w = .ok k w) (enc : α → List Value) (cf : α → α → Int) (hO : SWO (ltOf cf)) (g : Nat) (cb : Array Value) (blk off cap sz : Nat) (d0 : Array α) (w0 : World)
    (eg : ∀ args w, (callFunc g args).run Try.prog w = .ok (.enter g args) w) (hcmp : CmpLays Try.prog g cb enc k cf blk off sz w0)
    (R : RowK enc k w0 blk off d0) (hs : d0.size = sz) (hsz : sz < 4611686018427387904) (a m b : Nat) (d : Array α) (w : World) (hd : d.size = sz) (S : SWK enc k w0 blk off d w) (ham : a + 1 < m) (hm : b = m + 1) (hb : b ≤ sz) (hs1 : SortedIn (ltOf cf) a m d) :
    Calls Try.prog 71 #[.slice (some ⟨blk, off, none⟩) sz cap, .int .i64 a, .int .i64 m, .int .i64 b, .func (.func g) #[] cb] w fun e w' => e = .returned (.tuple #[]) ∧ ∃ d', d'.size = sz ∧ PermIn a b d d' ∧ SortedIn (ltOf cf) a b d' ∧ SWK enc k w0 blk off d' w' := by
  have mixed : Try.prog.follows .mixedOrders = true := by kernel_rfl
  have HC : Aside _ := hcmp
  have HO : Hid (SWO (ltOf cf)) := hO
  clear hcmp hO
  have S0 : Aside (SWK enc k w0 blk off d w) := S
  have H1 := Lib.hid hs1
  have HM := Lib.hid hm
  have hg : (b : Int) - (m : Int) = 1 := by omega
  have hg2 : ¬ (m : Int) - (a : Int) = 1 := by omega
  have hmb : m < b := by omega
  clear hm S hs1
  go_enter Try.func71, Try.ntmps71
  go_wp2_with fail
  rw [show ((m : Int) - (a : Int) == 1) = false from beq_false_of_ne hg2]
  clear hg hg2
  go_loopg [14, 15] (m - a) (fun kx si sj wr => ∃ (i j : Nat), si = .int .i64 i ∧ sj = .int .i64 j ∧ a ≤ i ∧ i ≤ j ∧ j ≤ m ∧ j - i ≤ kx ∧ Hid (SrR (ltOf cf) a m i j d) ∧ Aside (SWK enc k w0 blk off d wr))
  case atStart => exact ⟨a, m, rfl, rfl, Nat.le_refl _, by omega, Nat.le_refl _, by omega, SrR.start d (by omega), S0⟩
  case round =>
    clear S0
    obtain ⟨i, j, rfl, rfl, hai, hij, hjb, hkx, hL, S1⟩ := hrel
    by_cases hlt : i < j
    · have hlz : (i : Int) < (j : Int) := by omega
      obtain ⟨h, hh⟩ : ∃ h, h = (i + j) / 2 := ⟨_, rfl⟩
      have hh1 : i ≤ h ∧ h < j := by rw [hh]; exact half_le i j hlt
      have hz : Hid (((i : Int) + (j : Int)) / 2 = (h : Int)) := by show _ = _; rw [hh]; omega
      clear hh
      go_wp2_with fail
      rw [hz.out]
      clear hz
      cases hlv : ltOf cf d[m]! d[h]! with
      | false =>
        have eax1 : ((m : Int)).toNat = m := by omega
        have pax1 : (0 : Int) ≤ (m : Int) := by omega
        have bax1 : (m : Int) < (sz : Int) := by omega
        have rax1 : IntKind.i64.wrap ((m : Int)) = (m : Int) := by rw [IntKind.wrap_i64]; omega
        have eay1 : ((h : Int)).toNat = h := by omega
        have pay1 : (0 : Int) ≤ (h : Int) := by omega
        have bay1 : (h : Int) < (sz : Int) := by omega
        have ray1 : IntKind.i64.wrap ((h : Int)) = (h : Int) := by rw [IntKind.wrap_i64]; omega
        obtain ⟨x1, hx1⟩ : ∃ z, z = d[m]! := ⟨_, rfl⟩
        obtain ⟨y1, hy1⟩ : ∃ z, z = d[h]! := ⟨_, rfl⟩
        have l1a := S1.out.ld R (by omega) Try.prog (m) (by omega)
        have l1b := S1.out.ld R (by omega) Try.prog (h) (by omega)
        rw [← hx1] at l1a
        rw [← hy1] at l1b
        have hc1 := S1.out.cmp HC.out (by omega) x1 y1
        have hv1 : ¬ cf x1 y1 < 0 := by rw [hx1, hy1]; exact of_decide_eq_false hlv
        have hd1 : decide (cf x1 y1 < 0) = false := decide_eq_false hv1
        clear hx1 hy1
        go_wp2_with fail
        go_quiet_grown (first | (go_at_fn g; refine Calls.grown_of (hc1 _ _)))
        have S2 : Aside (SWK enc k w0 blk off d (grow (wr.drewN nq) osq)) := S1.out.grown nq osq
        clear l1a l1b hc1 S1
        generalize grow (wr.drewN nq) osq = w1 at S2 ⊢
        clear nq osq
        go_wp2_with fail
        go_roundg (j - (h + 1))
        case measure => omega
        case rel => exact ⟨h + 1, j, by go_num, rfl, by omega, by omega, hjb, by omega, hL.out.up HO.out H1.out hh1.1 hh1.2 hlv, S2⟩
      | true =>
        have eax2 : ((m : Int)).toNat = m := by omega
        have pax2 : (0 : Int) ≤ (m : Int) := by omega
        have bax2 : (m : Int) < (sz : Int) := by omega
        have rax2 : IntKind.i64.wrap ((m : Int)) = (m : Int) := by rw [IntKind.wrap_i64]; omega
        have eay2 : ((h : Int)).toNat = h := by omega
        have pay2 : (0 : Int) ≤ (h : Int) := by omega
        have bay2 : (h : Int) < (sz : Int) := by omega
        have ray2 : IntKind.i64.wrap ((h : Int)) = (h : Int) := by rw [IntKind.wrap_i64]; omega
        obtain ⟨x2, hx2⟩ : ∃ z, z = d[m]! := ⟨_, rfl⟩
        obtain ⟨y2, hy2⟩ : ∃ z, z = d[h]! := ⟨_, rfl⟩
        have l2a := S1.out.ld R (by omega) Try.prog (m) (by omega)
        have l2b := S1.out.ld R (by omega) Try.prog (h) (by omega)
        rw [← hx2] at l2a
        rw [← hy2] at l2b
        have hc2 := S1.out.cmp HC.out (by omega) x2 y2
        have hv2 : cf x2 y2 < 0 := by rw [hx2, hy2]; exact of_decide_eq_true hlv
        have hd2 : decide (cf x2 y2 < 0) = true := decide_eq_true hv2
        clear hx2 hy2
        go_wp2_with fail
        go_quiet_grown (first | (go_at_fn g; refine Calls.grown_of (hc2 _ _)))
        have S2 : Aside (SWK enc k w0 blk off d (grow (wr.drewN nq) osq)) := S1.out.grown nq osq
        clear l2a l2b hc2 S1
        generalize grow (wr.drewN nq) osq = w2 at S2 ⊢
        clear nq osq
        go_wp2_with fail
        go_roundg (h - i)
        case measure => omega
        case rel => exact ⟨i, h, rfl, by go_num, hai, by omega, by omega, by omega, hL.out.down HO.out H1.out hh1.1 hh1.2 hlv, S2⟩
    · have hlz : ¬ (i : Int) < (j : Int) := by omega
      have hje : j = i := by omega
      subst hje
      go_wp2_with fail
      go_loopg [17] (m - j) (fun kx sq wq => ∃ (q : Nat) (dk : Array α), sq = .int .i64 q ∧ j ≤ q ∧ q ≤ m ∧ q - j ≤ kx ∧ dk.size = sz ∧ Hid (Rot q m (m + 1) d dk) ∧ Aside (SWK enc k w0 blk off dk wq))
      case atStart => exact ⟨m, d, rfl, hjb, Nat.le_refl _, Nat.le_refl _, hd, rot_id m d, S1⟩
      case round =>
        clear S1
        obtain ⟨q, dk, rfl, hjq, hqm, hkq, hds, hR, S1⟩ := hrel
        by_cases hqlt : j < q
        · have hqz : (j : Int) < (q : Int) := by omega
          go_wp2_with fail
          have eax3 : ((q : Int)).toNat = q := by omega
          have pax3 : (0 : Int) ≤ (q : Int) := by omega
          have bax3 : (q : Int) < (sz : Int) := by omega
          have rax3 : IntKind.i64.wrap ((q : Int)) = (q : Int) := by rw [IntKind.wrap_i64]; omega
          have eay3 : ((q : Int) - 1).toNat = q - 1 := by omega
          have pay3 : (0 : Int) ≤ (q : Int) - 1 := by omega
          have bay3 : (q : Int) - 1 < (sz : Int) := by omega
          have ray3 : IntKind.i64.wrap ((q : Int) - 1) = (q : Int) - 1 := by rw [IntKind.wrap_i64]; omega
          have S2 : Aside (SWK enc k w0 blk off (swp dk (q) (q - 1)) ((wr.drew.setCells blk (off + (q) * k) (enc dk[q - 1]!)).setCells blk (off + (q - 1) * k) (enc dk[q]!))) := S1.out.swapped R (q) (q - 1) (by omega) (by omega)
          have l3a := S1.out.ld1 R (by omega) Try.prog (q) (by omega)
          have l3b := S1.out.ld1 R (by omega) Try.prog (q - 1) (by omega)
          have s3a := S1.out.st1 R (by omega) Try.prog (q) (by omega) dk[q - 1]!
          have s3b := S1.out.st2 R (by omega) Try.prog (q) (q - 1) (by omega) (by omega) dk[q - 1]! dk[q]!
          have n3a : (enc dk[q]!).length = k := R.hk _
          have n3b : (enc dk[q - 1]!).length = k := R.hk _
          generalize enc dk[q]! = cI3 at S2 l3a s3b n3a
          generalize enc dk[q - 1]! = cJ3 at S2 l3b s3a s3b n3b
          clear S1
          go_big_region_o
          clear l3a l3b s3a s3b
          generalize (wr.drew.setCells blk (off + (q) * k) cJ3).setCells blk (off + (q - 1) * k) cI3 = w3 at S2 ⊢
          go_wp2_with fail
          go_roundg (q - 1 - j)
          case measure => omega
          case rel => exact ⟨q - 1, swp dk q (q - 1), by go_num, by omega, by omega, by omega, by rw [size_swp]; exact hds, rot_down (by omega) hqm (by omega) hR.out, S2⟩
        · have hqz : ¬ (j : Int) < (q : Int) := by omega
          have hqe : q = j := by omega
          subst hqe
          go_wp2_with fail
          (try simp only [Exit.inBlock, Exit.then]); refine bodyPost_ret (results_none rfl _ _ _) rfl ?_
          have q2 := H1.out
          have q3 := hL.out
          have q4 := hR.out
          obtain ⟨p1, p2⟩ := one_right HO.out (by omega) hqm (by omega) q2 q3.lo q3.hi q4
          have q5 := HM.out
          subst q5
          exact ⟨rfl, dk, hds, p1, p2, S1.out⟩

end Go.Proofs.Ytnojfiokdhcbjaa
