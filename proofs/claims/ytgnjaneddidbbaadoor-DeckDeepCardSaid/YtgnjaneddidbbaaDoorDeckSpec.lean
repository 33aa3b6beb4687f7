/-
  Plain Lean: a deck's grammar over its tokens, twice: as the program reads it (operators by levels), and as the reference does (by how strongly operators bind); the two are one. No program in sight.
-/
import Derived.Test.YtgnjaneddidbbaaDoorLexSpec
namespace Go.Proofs.YtgnjaneddidbbaaDoor

def w_width : List UInt8 := [119, 105, 100, 116, 104]
def w_space : List UInt8 := [115, 112, 97, 99, 101]
def w_notch : List UInt8 := [110, 111, 116, 99, 104]
def w_apart : List UInt8 := [97, 112, 97, 114, 116]
def w_around : List UInt8 := [97, 114, 111, 117, 110, 100]
def w_over : List UInt8 := [111, 118, 101, 114]
def w_input : List UInt8 := [105, 110, 112, 117, 116]
def w_let : List UInt8 := [108, 101, 116]
def w_check : List UInt8 := [99, 104, 101, 99, 107]
def w_small : List UInt8 := [115, 109, 97, 108, 108]
def w_write : List UInt8 := [119, 114, 105, 116, 101]
def w_snap : List UInt8 := [115, 110, 97, 112]
def w_and : List UInt8 := [97, 110, 100]
def w_or : List UInt8 := [111, 114]
def w_not : List UInt8 := [110, 111, 116]
def w_xor : List UInt8 := [120, 111, 114]
def w_empty : List UInt8 := [101, 109, 112, 116, 121]
def w_boxes : List UInt8 := [98, 111, 120, 101, 115]

def takenL : List (List UInt8) := [w_width, w_space, w_notch, w_apart, w_around, w_over, w_input, w_let, w_check, w_small, w_write, w_snap, w_and, w_or, w_not, w_xor, w_empty, w_boxes]

/-- Expressions, as a parser makes them: a name, empty, boxes, or two that are joined (kinds 4 to 7: and, or, not, xor). -/
inductive Ex where
  | name (s : List UInt8)
  | empty
  | boxes (s : List UInt8)
  | bin (k : Int) (a b : Ex)

/-- A word or a sign of this text. -/
def isT (t : Tok) (s : List UInt8) : Bool := t.kind != 2 && t.text == s

/-- What a reading comes to: a value and the tokens behind it, or the tokens from the one on that does not fit. -/
abbrev PR (α : Type) := Except (List Tok) (α × List Tok)

def pName : List Tok → PR (List UInt8)
  | [] => .error []
  | t :: r => if t.kind == 1 && !takenL.contains t.text then .ok (t.text, r) else .error (t :: r)

def pMust (s : List UInt8) : List Tok → PR Unit
  | [] => .error []
  | t :: r => if isT t s then .ok ((), r) else .error (t :: r)

def pNum (lo hi : Int) : List Tok → PR Int
  | [] => .error []
  | t :: r => if t.kind == 2 && decide (lo ≤ t.num) && decide (t.num ≤ hi) then .ok (t.num, r) else .error (t :: r)

/-- Behind a first reading a second one. -/
def PR.then {α β : Type} (x : PR α) (f : α → List Tok → PR β) : PR β :=
  match x with
  | .error r => .error r
  | .ok (a, r) => f a r

theorem PR.then_ok {α β : Type} (a : α) (r : List Tok) (f : α → List Tok → PR β) : PR.then (.ok (a, r)) f = f a r := rfl
theorem PR.then_error {α β : Type} (r : List Tok) (f : α → List Tok → PR β) : PR.then (.error r : PR α) f = .error r := rfl
theorem PR.then_then {α β γ : Type} (x : PR α) (f : α → List Tok → PR β) (g : β → List Tok → PR γ) : PR.then (PR.then x f) g = PR.then x fun a r => PR.then (f a r) g := by
  cases x with
  | error r => rfl
  | ok p => rfl

/-- The kind of an operator of the lower level; 0: it is none. -/
def lowKind (t : Tok) : Int := if isT t w_or then 5 else if isT t w_not then 6 else if isT t w_xor then 7 else 0

/-- The program's: tag 0: one expression that stands together; 1: what joins n by and; 2: what joins n by or, not, xor. -/
def pX : Nat → Nat → Nat → Ex → List Tok → PR Ex
  | 0, _, _, _, r => .error r
  | f + 1, 0, deep, _, r =>
    match r with
    | [] => .error []
    | t :: r' =>
      if isT t w_empty then .ok (.empty, r')
      else if isT t w_boxes then (pName r').then fun s r1 => .ok (.boxes s, r1)
      else if isT t [40] then
        if 64 ≤ deep then .error (t :: r')
        else (pX f 0 (deep + 1) .empty r').then fun n r1 => (pX f 1 (deep + 1) n r1).then fun n r2 => (pX f 2 (deep + 1) n r2).then fun n r3 => (pMust [41] r3).then fun _ r4 => .ok (n, r4)
      else (pName (t :: r')).then fun s r1 => .ok (.name s, r1)
  | f + 1, 1, deep, n, r =>
    match r with
    | [] => .ok (n, [])
    | t :: r' => if isT t w_and then (pX f 0 deep .empty r').then fun m r1 => pX f 1 deep (.bin 4 n m) r1 else .ok (n, t :: r')
  | f + 1, _ + 2, deep, n, r =>
    match r with
    | [] => .ok (n, [])
    | t :: r' => if lowKind t ≠ 0 then (pX f 0 deep .empty r').then fun m r1 => (pX f 1 deep m r1).then fun m r2 => pX f 2 deep (.bin (lowKind t) n m) r2 else .ok (n, t :: r')

/-- How strongly an operator binds, and its kind; (0, 0): it is none. -/
def opOf (t : Tok) : Int × Nat := if isT t w_and then (4, 2) else if lowKind t ≠ 0 then (lowKind t, 1) else (0, 0)

/-- The reference's: tag 0: one; 1: what joins n by operators that bind at least so strongly. -/
def qX : Nat → Nat → Nat → Nat → Ex → List Tok → PR Ex
  | 0, _, _, _, _, r => .error r
  | f + 1, 0, _, deep, _, r =>
    match r with
    | [] => .error []
    | t :: r' =>
      if isT t w_empty then .ok (.empty, r')
      else if isT t w_boxes then (pName r').then fun s r1 => .ok (.boxes s, r1)
      else if isT t [40] then
        if 64 ≤ deep then .error (t :: r')
        else (qX f 0 1 (deep + 1) .empty r').then fun n r1 => (qX f 1 1 (deep + 1) n r1).then fun n r2 => (pMust [41] r2).then fun _ r3 => .ok (n, r3)
      else (pName (t :: r')).then fun s r1 => .ok (.name s, r1)
  | f + 1, _ + 1, least, deep, n, r =>
    match r with
    | [] => .ok (n, [])
    | t :: r' => if (opOf t).1 = 0 ∨ (opOf t).2 < least then .ok (n, t :: r')
      else (qX f 0 ((opOf t).2 + 1) deep .empty r').then fun m r1 => (qX f 1 ((opOf t).2 + 1) deep m r1).then fun m r2 => qX f 1 least deep (.bin (opOf t).1 n m) r2

theorem opOf_and {t : Tok} (h : isT t w_and = true) : opOf t = (4, 2) := by rw [opOf, if_pos h]
theorem opOf_low {t : Tok} (h : isT t w_and = false) (hl : lowKind t ≠ 0) : opOf t = (lowKind t, 1) := by rw [opOf, if_neg (by rw [h]; decide), if_pos hl]
theorem opOf_none {t : Tok} (h : isT t w_and = false) (hl : lowKind t = 0) : opOf t = (0, 0) := by rw [opOf, if_neg (by rw [h]; decide), if_neg (by rw [hl]; decide)]

theorem pX_one (f deep : Nat) (n : Ex) (t : Tok) (r' : List Tok) : pX (f + 1) 0 deep n (t :: r') =
    if isT t w_empty then .ok (.empty, r')
    else if isT t w_boxes then (pName r').then fun s r1 => .ok (.boxes s, r1)
    else if isT t [40] then
      if 64 ≤ deep then .error (t :: r')
      else (pX f 0 (deep + 1) .empty r').then fun n r1 => (pX f 1 (deep + 1) n r1).then fun n r2 => (pX f 2 (deep + 1) n r2).then fun n r3 => (pMust [41] r3).then fun _ r4 => .ok (n, r4)
    else (pName (t :: r')).then fun s r1 => .ok (.name s, r1) := rfl
theorem pX_and (f deep : Nat) (n : Ex) (t : Tok) (r' : List Tok) : pX (f + 1) 1 deep n (t :: r') =
    if isT t w_and then (pX f 0 deep .empty r').then fun m r1 => pX f 1 deep (.bin 4 n m) r1 else .ok (n, t :: r') := rfl
theorem pX_low (f deep : Nat) (n : Ex) (t : Tok) (r' : List Tok) : pX (f + 1) 2 deep n (t :: r') =
    if lowKind t ≠ 0 then (pX f 0 deep .empty r').then fun m r1 => (pX f 1 deep m r1).then fun m r2 => pX f 2 deep (.bin (lowKind t) n m) r2 else .ok (n, t :: r') := rfl
theorem qX_one (f least deep : Nat) (n : Ex) (t : Tok) (r' : List Tok) : qX (f + 1) 0 least deep n (t :: r') =
    if isT t w_empty then .ok (.empty, r')
    else if isT t w_boxes then (pName r').then fun s r1 => .ok (.boxes s, r1)
    else if isT t [40] then
      if 64 ≤ deep then .error (t :: r')
      else (qX f 0 1 (deep + 1) .empty r').then fun n r1 => (qX f 1 1 (deep + 1) n r1).then fun n r2 => (pMust [41] r2).then fun _ r3 => .ok (n, r3)
    else (pName (t :: r')).then fun s r1 => .ok (.name s, r1) := rfl
theorem qX_more (f least deep : Nat) (n : Ex) (t : Tok) (r' : List Tok) : qX (f + 1) 1 least deep n (t :: r') =
    if (opOf t).1 = 0 ∨ (opOf t).2 < least then .ok (n, t :: r')
    else (qX f 0 ((opOf t).2 + 1) deep .empty r').then fun m r1 => (qX f 1 ((opOf t).2 + 1) deep m r1).then fun m r2 => qX f 1 least deep (.bin (opOf t).1 n m) r2 := rfl

theorem pName_len {r : List Tok} {s : List UInt8} {r1 : List Tok} (h : pName r = .ok (s, r1)) : r1.length < r.length := by
  cases r with
  | nil => cases h
  | cons t r =>
    by_cases hc : (t.kind == 1 && !takenL.contains t.text) = true
    · rw [pName, if_pos hc] at h; cases h; simp
    · rw [pName, if_neg hc] at h; cases h
theorem pMust_len {s : List UInt8} {r : List Tok} {u : Unit} {r1 : List Tok} (h : pMust s r = .ok (u, r1)) : r1.length < r.length := by
  cases r with
  | nil => cases h
  | cons t r =>
    by_cases hc : isT t s = true
    · rw [pMust, if_pos hc] at h; cases h; simp
    · rw [pMust, if_neg hc] at h; cases h

theorem then_ok_of {α β : Type} {x : PR α} {f : α → List Tok → PR β} {b : β} {r : List Tok} (h : PR.then x f = .ok (b, r)) : ∃ a r1, x = .ok (a, r1) ∧ f a r1 = .ok (b, r) := by
  cases x with
  | error r => cases h
  | ok p => exact ⟨p.1, p.2, rfl, h⟩

/-- A reading leaves no more tokens than there were; one that stands together takes at least one. -/
theorem pX_len (f : Nat) : ∀ (tag deep : Nat) (n : Ex) (r : List Tok) (m : Ex) (r1 : List Tok), pX f tag deep n r = .ok (m, r1) → r1.length ≤ r.length ∧ (tag = 0 → r1.length < r.length) := by
  induction f with
  | zero => intro tag deep n r m r1 h; cases h
  | succ f ih =>
    intro tag deep n r m r1 h
    match tag with
    | 0 =>
      cases r with
      | nil => cases h
      | cons t r' =>
        simp only [pX] at h
        split at h
        · cases h; simp
        · split at h
          · obtain ⟨a, r2, h1, h2⟩ := then_ok_of h
            cases h2
            have := pName_len h1
            simp; omega
          · split at h
            · split at h
              · cases h
              · obtain ⟨a, r2, h1, h⟩ := then_ok_of h
                obtain ⟨b, r3, h2, h⟩ := then_ok_of h
                obtain ⟨c, r4, h3, h⟩ := then_ok_of h
                obtain ⟨d, r5, h4, h⟩ := then_ok_of h
                cases h
                have := (ih _ _ _ _ _ _ h1).1
                have := (ih _ _ _ _ _ _ h2).1
                have := (ih _ _ _ _ _ _ h3).1
                have := pMust_len h4
                simp; omega
            · obtain ⟨a, r2, h1, h2⟩ := then_ok_of h
              cases h2
              have := pName_len h1
              exact ⟨by omega, fun _ => this⟩
    | 1 =>
      cases r with
      | nil => cases h; simp
      | cons t r' =>
        simp only [pX] at h
        split at h
        · obtain ⟨a, r2, h1, h2⟩ := then_ok_of h
          have := (ih _ _ _ _ _ _ h1).1
          have := (ih _ _ _ _ _ _ h2).1
          simp; omega
        · cases h; simp
    | tag + 2 =>
      cases r with
      | nil => cases h; simp
      | cons t r' =>
        simp only [pX] at h
        split at h
        · obtain ⟨a, r2, h1, h2⟩ := then_ok_of h
          obtain ⟨b, r3, h3, h4⟩ := then_ok_of h2
          have := (ih _ _ _ _ _ _ h1).1
          have := (ih _ _ _ _ _ _ h3).1
          have := (ih _ _ _ _ _ _ h4).1
          simp; omega
        · cases h; simp

theorem then_congr {α β : Type} {x y : PR α} {f g : α → List Tok → PR β} (h : x = y) (hf : ∀ a r, x = .ok (a, r) → f a r = g a r) : PR.then x f = PR.then y g := by
  subst h
  cases x with
  | error r => rfl
  | ok p => exact hf p.1 p.2 rfl

/-- What it comes to does not hang on the fuel, if that is enough. -/
theorem pX_fuel (f : Nat) : ∀ (g tag deep : Nat) (n : Ex) (r : List Tok), tag ≤ 2 → 3 * r.length + tag < f → 3 * r.length + tag < g → pX f tag deep n r = pX g tag deep n r := by
  induction f with
  | zero => intro g tag deep n r _ h; omega
  | succ f ih =>
    intro g tag deep n r ht hf hg
    cases g with
    | zero => omega
    | succ g =>
      match tag, ht with
      | 0, _ =>
        cases r with
        | nil => rfl
        | cons t r' =>
          simp only [List.length_cons] at hf hg
          simp only [pX]
          split
          · rfl
          · split
            · rfl
            · split
              · split
                · rfl
                · refine then_congr (ih g 0 _ _ r' (by omega) (by omega) (by omega)) fun a r1 h1 => ?_
                  have l1 := (pX_len _ _ _ _ _ _ _ h1).1
                  refine then_congr (ih g 1 _ _ r1 (by omega) (by omega) (by omega)) fun b r2 h2 => ?_
                  have l2 := (pX_len _ _ _ _ _ _ _ h2).1
                  exact then_congr (ih g 2 _ _ r2 (by omega) (by omega) (by omega)) fun _ _ _ => rfl
              · rfl
      | 1, _ =>
        cases r with
        | nil => rfl
        | cons t r' =>
          simp only [List.length_cons] at hf hg
          simp only [pX]
          split
          · refine then_congr (ih g 0 _ _ r' (by omega) (by omega) (by omega)) fun a r1 h1 => ?_
            have l1 := (pX_len _ _ _ _ _ _ _ h1).1
            exact ih g 1 _ _ r1 (by omega) (by omega) (by omega)
          · rfl
      | 2, _ =>
        cases r with
        | nil => rfl
        | cons t r' =>
          simp only [List.length_cons] at hf hg
          simp only [pX]
          split
          · refine then_congr (ih g 0 _ _ r' (by omega) (by omega) (by omega)) fun a r1 h1 => ?_
            have l1 := (pX_len _ _ _ _ _ _ _ h1).1
            refine then_congr (ih g 1 _ _ r1 (by omega) (by omega) (by omega)) fun b r2 h2 => ?_
            have l2 := (pX_len _ _ _ _ _ _ _ h2).1
            exact ih g 2 _ _ r2 (by omega) (by omega) (by omega)
          · rfl

/-- Behind what and joins no and stands. -/
theorem pX_noand (f : Nat) : ∀ (deep : Nat) (n : Ex) (r : List Tok) (m : Ex) (r1 : List Tok), pX f 1 deep n r = .ok (m, r1) → ∀ t r2, r1 = t :: r2 → isT t w_and = false := by
  induction f with
  | zero => intro deep n r m r1 h; cases h
  | succ f ih =>
    intro deep n r m r1 h t r2 hr
    cases r with
    | nil => cases h; cases hr
    | cons u r' =>
      simp only [pX] at h
      split at h
      · obtain ⟨a, r3, h1, h2⟩ := then_ok_of h
        exact ih _ _ _ _ _ h2 t r2 hr
      · rename_i hu
        cases h
        cases hr
        simpa using hu

theorem pX_and_none (f deep : Nat) (n : Ex) (r : List Tok) (h : ∀ t r2, r = t :: r2 → isT t w_and = false) : pX (f + 1) 1 deep n r = .ok (n, r) := by
  cases r with
  | nil => rfl
  | cons t r' => simp only [pX, h t r' rfl]; rfl

/-- The two grammars are one: all at once, by the tokens that are left. -/
theorem qX_pX (f : Nat) : ∀ (deep : Nat) (n : Ex) (r : List Tok),
    (∀ least g, 2 * r.length < f → 3 * r.length < g → qX f 0 least deep .empty r = pX g 0 deep .empty r) ∧
    (2 * r.length + 1 < f → qX f 1 3 deep n r = .ok (n, r)) ∧
    (∀ g, 2 * r.length + 1 < f → 3 * r.length + 1 < g → qX f 1 2 deep n r = pX g 1 deep n r) ∧
    (∀ g h, 2 * r.length + 1 < f → 3 * r.length + 1 < g → 3 * r.length + 2 < h → qX f 1 1 deep n r = (pX g 1 deep n r).then fun m r1 => pX h 2 deep m r1) := by
  induction f with
  | zero => intro deep n r; refine ⟨fun _ _ h => ?_, fun h => ?_, fun _ h => ?_, fun _ _ h => ?_⟩ <;> omega
  | succ f ih =>
    intro deep n r
    refine ⟨fun least g hf hg => ?_, fun hf => ?_, fun g hf hg => ?_, fun g h hf hg hh => ?_⟩
    · cases g with
      | zero => omega
      | succ g =>
        cases r with
        | nil => rfl
        | cons t r' =>
          simp only [List.length_cons] at hf hg
          rw [qX_one, pX_one]
          split
          · rfl
          · split
            · rfl
            · split
              · split
                · rfl
                · have e0 := (ih (deep + 1) .empty r').1 1 g (by omega) (by omega)
                  refine then_congr e0 fun a r1 h1 => ?_
                  have l1 := (pX_len _ _ _ _ _ _ _ (e0.symm.trans h1)).2 rfl
                  rw [(ih (deep + 1) a r1).2.2.2 g g (by omega) (by omega) (by omega), PR.then_then]
              · rfl
    · cases r with
      | nil => rfl
      | cons t r' =>
        rw [qX_more, if_pos]
        cases ha : isT t w_and
        · by_cases hl : lowKind t = 0
          · left; rw [opOf_none ha hl]
          · right; rw [opOf_low ha hl]; exact (by decide : (1 : Nat) < 3)
        · right; rw [opOf_and ha]; decide
    · cases g with
      | zero => omega
      | succ g =>
        cases r with
        | nil => rfl
        | cons t r' =>
          simp only [List.length_cons] at hf hg
          rw [qX_more, pX_and]
          cases ha : isT t w_and
          · rw [if_pos, if_neg (by decide)]
            by_cases hl : lowKind t = 0
            · left; rw [opOf_none ha hl]
            · right; rw [opOf_low ha hl]; exact (by decide : (1 : Nat) < 2)
          · rw [if_neg (by rw [opOf_and ha]; decide), opOf_and ha, if_pos rfl]
            have e0 := (ih deep .empty r').1 3 g (by omega) (by omega)
            refine then_congr e0 fun a r1 h1 => ?_
            have l1 := (pX_len _ _ _ _ _ _ _ (e0.symm.trans h1)).2 rfl
            show PR.then (qX f 1 3 deep a r1) _ = _
            rw [(ih deep a r1).2.1 (by omega), PR.then_ok]
            exact (ih deep _ r1).2.2.1 g (by omega) (by omega)
    · cases g with
      | zero => omega
      | succ g =>
        cases h with
        | zero => omega
        | succ h =>
          cases r with
          | nil => rfl
          | cons t r' =>
            simp only [List.length_cons] at hf hg hh
            rw [qX_more, pX_and]
            cases ha : isT t w_and
            · rw [if_neg (by decide : ¬ (false = true)), PR.then_ok, pX_low]
              by_cases hl : lowKind t = 0
              · rw [if_pos (by left; rw [opOf_none ha hl]), if_neg (by rw [hl]; decide)]
              · rw [if_neg (by rw [opOf_low ha hl]; intro hx; rcases hx with hx | hx; exact hl hx; exact absurd hx (by decide : ¬ (1 : Nat) < 1)), opOf_low ha hl, if_pos hl]
                have e0 := (ih deep .empty r').1 2 h (by omega) (by omega)
                refine then_congr e0 fun a r1 h1 => ?_
                have l1 := (pX_len _ _ _ _ _ _ _ (e0.symm.trans h1)).2 rfl
                have e1 := (ih deep a r1).2.2.1 h (by omega) (by omega)
                refine then_congr e1 fun b r2 h2 => ?_
                have h2' := e1.symm.trans h2
                have l2 := (pX_len _ _ _ _ _ _ _ h2').1
                show qX f 1 1 deep _ r2 = _
                rw [(ih deep _ r2).2.2.2 (3 * r2.length + 2) h (by omega) (by omega) (by omega), pX_and_none _ _ _ _ (pX_noand _ _ _ _ _ _ h2'), PR.then_ok]
            · rw [if_neg (by rw [opOf_and ha]; decide), opOf_and ha, if_pos rfl, PR.then_then]
              have e0 := (ih deep .empty r').1 3 g (by omega) (by omega)
              refine then_congr e0 fun a r1 h1 => ?_
              have l1 := (pX_len _ _ _ _ _ _ _ (e0.symm.trans h1)).2 rfl
              show PR.then (qX f 1 3 deep a r1) _ = _
              rw [(ih deep a r1).2.1 (by omega), PR.then_ok]
              exact (ih deep _ r1).2.2.2 g (h + 1) (by omega) (by omega) (by omega)
end Go.Proofs.YtgnjaneddidbbaaDoor
