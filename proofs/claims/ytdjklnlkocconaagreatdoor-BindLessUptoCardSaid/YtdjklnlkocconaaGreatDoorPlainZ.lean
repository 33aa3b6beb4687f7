/-
  Plain Lean: what a deck's tokens are. No program in sight.
  Plain Lean: a deck's grammar over its tokens, twice: as the program reads it (operators by levels), and as the reference does (by how strongly operators bind); the two are one. No program in sight.
  Plain Lean: a deck's statements over its tokens. No program in sight.
  Plain Lean: the grammar's equations, without fuel.
  Plain Lean: a statement's reading takes tokens; the deck's reading does not hang on its fuel.
  Plain Lean: statements' text, as the program prints it, and when they are some deck's. No program in sight.
-/
import Derived.Lib.ItoaNum
namespace Go.Proofs.YtdjklnlkocconaaGreatDoor

/-- Bytes as a string's own array. -/
def bs (l : List UInt8) : ByteArray := ⟨l.toArray⟩

def smallB (c : Int) : Bool := decide (97 ≤ c ∧ c ≤ 122)
def digitB (c : Int) : Bool := decide (48 ≤ c ∧ c ≤ 57)
def wordB (c : Int) : Bool := smallB c || digitB c || decide (c = 95)
def blankB (c : Int) : Bool := decide (c = 32 ∨ c = 9 ∨ c = 10 ∨ c = 13)
def signB (c : Int) : Bool := decide (c = 40 ∨ c = 41 ∨ c = 44 ∨ c = 61 ∨ c = 47 ∨ c = 59)

structure Tok where
  kind : Int
  text : List UInt8
  num : Int
  pos : Nat

/-- The number that digits spell. -/
def decStep (a : Nat) (c : UInt8) : Nat := a * 10 + (c.toNat - 48)
def decVal (acc : Nat) (l : List UInt8) : Nat := l.foldl decStep acc

theorem decVal_nil (a : Nat) : decVal a [] = a := by rw [decVal, List.foldl_nil]
theorem decVal_cons (a : Nat) (c : UInt8) (r : List UInt8) : decVal a (c :: r) = decVal (decStep a c) r := by rw [decVal, decVal, List.foldl_cons]
theorem decStep_ge (a : Nat) (c : UInt8) : a ≤ decStep a c := by unfold decStep; omega
theorem decVal_ge (l : List UInt8) : ∀ a : Nat, a ≤ decVal a l := by
  induction l with
  | nil => intro a; rw [decVal_nil]; exact Nat.le_refl _
  | cons x l ih => intro a; rw [decVal_cons]; exact Nat.le_trans (decStep_ge a x) (ih (decStep a x))

def wordRun (r : List UInt8) : List UInt8 := r.takeWhile fun b => wordB b.toNat
def digitRun (r : List UInt8) : List UInt8 := r.takeWhile fun b => digitB b.toNat
def remark (r : List UInt8) : List UInt8 := r.takeWhile fun b => b != 10

def lexF : Nat → List UInt8 → Nat → List Tok → Except Nat (List Tok)
  | 0, _, _, acc => .ok acc
  | _ + 1, [], _, acc => .ok acc
  | f + 1, c :: r, k, acc =>
    if blankB c.toNat then lexF f r (k + 1) acc
    else if c.toNat = 35 then lexF f ((c :: r).drop (remark (c :: r)).length) (k + (remark (c :: r)).length) acc
    else if smallB c.toNat then
      if 32 < (wordRun (c :: r)).length then .error k
      else lexF f ((c :: r).drop (wordRun (c :: r)).length) (k + (wordRun (c :: r)).length) (acc ++ [⟨1, wordRun (c :: r), 0, k⟩])
    else if digitB c.toNat then
      if 2147483647 < decVal 0 (digitRun (c :: r)) ∨ (1 < (digitRun (c :: r)).length ∧ c.toNat = 48) then .error k
      else lexF f ((c :: r).drop (digitRun (c :: r)).length) (k + (digitRun (c :: r)).length) (acc ++ [⟨2, digitRun (c :: r), decVal 0 (digitRun (c :: r)), k⟩])
    else if signB c.toNat then lexF f r (k + 1) (acc ++ [⟨3, [c], 0, k⟩])
    else .error k

section
variable {c : UInt8} {r : List UInt8} {k : Nat} {acc : List Tok}
theorem lexF_nil (f : Nat) : lexF f [] k acc = .ok acc := by cases f <;> rfl
theorem lexF_blank (h : blankB c.toNat = true) (f : Nat) : lexF (f + 1) (c :: r) k acc = lexF f r (k + 1) acc := by rw [lexF, if_pos h]
theorem lexF_remark (h : c.toNat = 35) (f : Nat) : lexF (f + 1) (c :: r) k acc = lexF f ((c :: r).drop (remark (c :: r)).length) (k + (remark (c :: r)).length) acc := by
  have h1 : blankB c.toNat = false := by rw [h]; decide
  rw [lexF, if_neg (by rw [h1]; decide), if_pos h]
theorem lexF_word (h : smallB c.toNat = true) (f : Nat) : lexF (f + 1) (c :: r) k acc = if 32 < (wordRun (c :: r)).length then .error k
    else lexF f ((c :: r).drop (wordRun (c :: r)).length) (k + (wordRun (c :: r)).length) (acc ++ [⟨1, wordRun (c :: r), 0, k⟩]) := by
  have h' := h
  simp only [smallB, decide_eq_true_eq] at h'
  have h1 : blankB c.toNat = false := by simp only [blankB, decide_eq_false_iff_not]; omega
  rw [lexF, if_neg (by rw [h1]; decide), if_neg (by omega), if_pos h]
theorem lexF_num (h : digitB c.toNat = true) (f : Nat) : lexF (f + 1) (c :: r) k acc = if 2147483647 < decVal 0 (digitRun (c :: r)) ∨ (1 < (digitRun (c :: r)).length ∧ c.toNat = 48) then .error k
    else lexF f ((c :: r).drop (digitRun (c :: r)).length) (k + (digitRun (c :: r)).length) (acc ++ [⟨2, digitRun (c :: r), decVal 0 (digitRun (c :: r)), k⟩]) := by
  have h' := h
  simp only [digitB, decide_eq_true_eq] at h'
  have h1 : blankB c.toNat = false := by simp only [blankB, decide_eq_false_iff_not]; omega
  have h2 : smallB c.toNat = false := by simp only [smallB, decide_eq_false_iff_not]; omega
  rw [lexF, if_neg (by rw [h1]; decide), if_neg (by omega), if_neg (by rw [h2]; decide), if_pos h]
theorem lexF_sign (h : signB c.toNat = true) (f : Nat) : lexF (f + 1) (c :: r) k acc = lexF f r (k + 1) (acc ++ [⟨3, [c], 0, k⟩]) := by
  have h' := h
  simp only [signB, decide_eq_true_eq] at h'
  have h1 : blankB c.toNat = false := by simp only [blankB, decide_eq_false_iff_not]; omega
  have h2 : smallB c.toNat = false := by simp only [smallB, decide_eq_false_iff_not]; omega
  have h3 : digitB c.toNat = false := by simp only [digitB, decide_eq_false_iff_not]; omega
  rw [lexF, if_neg (by rw [h1]; decide), if_neg (by omega), if_neg (by rw [h2]; decide), if_neg (by rw [h3]; decide), if_pos h]
theorem lexF_bad (h1 : blankB c.toNat = false) (h2 : c.toNat ≠ 35) (h3 : smallB c.toNat = false) (h4 : digitB c.toNat = false) (h5 : signB c.toNat = false) (f : Nat) :
    lexF (f + 1) (c :: r) k acc = .error k := by
  rw [lexF, if_neg (by rw [h1]; decide), if_neg h2, if_neg (by rw [h3]; decide), if_neg (by rw [h4]; decide), if_neg (by rw [h5]; decide)]
end

theorem wordRun_pos {c : UInt8} {r : List UInt8} (h : smallB c.toNat = true) : 1 ≤ (wordRun (c :: r)).length := by
  have : wordB c.toNat = true := by simp [wordB, h]
  simp [wordRun, this]
theorem digitRun_pos {c : UInt8} {r : List UInt8} (h : digitB c.toNat = true) : 1 ≤ (digitRun (c :: r)).length := by
  simp [digitRun, h]
theorem remark_pos {c : UInt8} {r : List UInt8} (h : c.toNat = 35) : 1 ≤ (remark (c :: r)).length := by
  have : c ≠ 10 := by intro e; rw [e] at h; exact absurd h (by decide)
  simp [remark, this]

theorem remark_len (l : List UInt8) : ∀ o, l[o]? = some 10 → (∀ k, k < o → l[k]? ≠ some 10) → (remark l).length = o := by
  induction l with
  | nil => intro o h; simp at h
  | cons x l ih =>
    intro o h1 h2
    cases o with
    | zero => simp at h1; simp [remark, h1]
    | succ o =>
      have h3 := h2 0 (by omega)
      simp at h3
      have h4 := ih o (by simpa using h1) (fun k hk => by simpa using h2 (k + 1) (by omega))
      have h5 : remark (x :: l) = x :: remark l := by simp [remark, h3]
      rw [h5, List.length_cons, h4]

theorem remark_all (l : List UInt8) : (∀ k : Nat, l[k]? ≠ some 10) → remark l = l := by
  induction l with
  | nil => intro _; rfl
  | cons x l ih =>
    intro h
    have h3 := h 0
    simp at h3
    have h4 := ih (fun k => by simpa using h (k + 1))
    have h5 : remark (x :: l) = x :: remark l := by simp [remark, h3]
    rw [h5, h4]

/-- A deck's tokens, or the place where it is none. -/
def lexS (s : List UInt8) : Except Nat (List Tok) := if 65536 < s.length then .error 0 else lexF (s.length + 1) s 0 []

end Go.Proofs.YtdjklnlkocconaaGreatDoor

namespace Go.Proofs.YtdjklnlkocconaaGreatDoor

def w_width : List UInt8 := [119, 105, 100, 116, 104]
def w_space : List UInt8 := [115, 112, 97, 99, 101]
def w_notch : List UInt8 := [110, 111, 116, 99, 104]
def w_apart : List UInt8 := [97, 112, 97, 114, 116]
def w_around : List UInt8 := [97, 114, 111, 117, 110, 100]
def w_over : List UInt8 := [111, 118, 101, 114]
def w_input : List UInt8 := [105, 110, 112, 117, 116]
def w_let : List UInt8 := [108, 101, 116]
def w_check : List UInt8 := [99, 104, 101, 99, 107]
def w_small : List UInt8 := [115, 109, 97, 108, 108]
def w_write : List UInt8 := [119, 114, 105, 116, 101]
def w_snap : List UInt8 := [115, 110, 97, 112]
def w_and : List UInt8 := [97, 110, 100]
def w_or : List UInt8 := [111, 114]
def w_not : List UInt8 := [110, 111, 116]
def w_xor : List UInt8 := [120, 111, 114]
def w_empty : List UInt8 := [101, 109, 112, 116, 121]
def w_boxes : List UInt8 := [98, 111, 120, 101, 115]

def takenL : List (List UInt8) := [w_width, w_space, w_notch, w_apart, w_around, w_over, w_input, w_let, w_check, w_small, w_write, w_snap, w_and, w_or, w_not, w_xor, w_empty, w_boxes]

/-- Expressions, as a parser makes them: a name, empty, boxes, or two that are joined (kinds 4 to 7: and, or, not, xor). -/
inductive Ex where
  | name (s : List UInt8)
  | empty
  | boxes (s : List UInt8)
  | bin (k : Int) (a b : Ex)

/-- A word or a sign of this text. -/
def isT (t : Tok) (s : List UInt8) : Bool := t.kind != 2 && t.text == s

/-- What a reading comes to: a value and the tokens behind it, or the tokens from the one on that does not fit. -/
abbrev PR (α : Type) := Except (List Tok) (α × List Tok)

def pName : List Tok → PR (List UInt8)
  | [] => .error []
  | t :: r => if t.kind == 1 && !takenL.contains t.text then .ok (t.text, r) else .error (t :: r)

def pMust (s : List UInt8) : List Tok → PR Unit
  | [] => .error []
  | t :: r => if isT t s then .ok ((), r) else .error (t :: r)

def pNum (lo hi : Int) : List Tok → PR Int
  | [] => .error []
  | t :: r => if t.kind == 2 && decide (lo ≤ t.num) && decide (t.num ≤ hi) then .ok (t.num, r) else .error (t :: r)

/-- Behind a first reading a second one. -/
def PR.then {α β : Type} (x : PR α) (f : α → List Tok → PR β) : PR β :=
  match x with
  | .error r => .error r
  | .ok (a, r) => f a r

theorem PR.then_ok {α β : Type} (a : α) (r : List Tok) (f : α → List Tok → PR β) : PR.then (.ok (a, r)) f = f a r := rfl
theorem PR.then_then {α β γ : Type} (x : PR α) (f : α → List Tok → PR β) (g : β → List Tok → PR γ) : PR.then (PR.then x f) g = PR.then x fun a r => PR.then (f a r) g := by
  cases x with
  | error r => rfl
  | ok p => rfl

/-- The kind of an operator of the lower level; 0: it is none. -/
def lowKind (t : Tok) : Int := if isT t w_or then 5 else if isT t w_not then 6 else if isT t w_xor then 7 else 0

/-- The program's: tag 0: one expression that stands together; 1: what joins n by and; 2: what joins n by or, not, xor. -/
def pX : Nat → Nat → Nat → Ex → List Tok → PR Ex
  | 0, _, _, _, r => .error r
  | f + 1, 0, deep, _, r =>
    match r with
    | [] => .error []
    | t :: r' =>
      if isT t w_empty then .ok (.empty, r')
      else if isT t w_boxes then (pName r').then fun s r1 => .ok (.boxes s, r1)
      else if isT t [40] then
        if 64 ≤ deep then .error (t :: r')
        else (pX f 0 (deep + 1) .empty r').then fun n r1 => (pX f 1 (deep + 1) n r1).then fun n r2 => (pX f 2 (deep + 1) n r2).then fun n r3 => (pMust [41] r3).then fun _ r4 => .ok (n, r4)
      else (pName (t :: r')).then fun s r1 => .ok (.name s, r1)
  | f + 1, 1, deep, n, r =>
    match r with
    | [] => .ok (n, [])
    | t :: r' => if isT t w_and then (pX f 0 deep .empty r').then fun m r1 => pX f 1 deep (.bin 4 n m) r1 else .ok (n, t :: r')
  | f + 1, _ + 2, deep, n, r =>
    match r with
    | [] => .ok (n, [])
    | t :: r' => if lowKind t ≠ 0 then (pX f 0 deep .empty r').then fun m r1 => (pX f 1 deep m r1).then fun m r2 => pX f 2 deep (.bin (lowKind t) n m) r2 else .ok (n, t :: r')

/-- How strongly an operator binds, and its kind; (0, 0): it is none. -/
def opOf (t : Tok) : Int × Nat := if isT t w_and then (4, 2) else if lowKind t ≠ 0 then (lowKind t, 1) else (0, 0)

/-- The reference's: tag 0: one; 1: what joins n by operators that bind at least so strongly. -/
def qX : Nat → Nat → Nat → Nat → Ex → List Tok → PR Ex
  | 0, _, _, _, _, r => .error r
  | f + 1, 0, _, deep, _, r =>
    match r with
    | [] => .error []
    | t :: r' =>
      if isT t w_empty then .ok (.empty, r')
      else if isT t w_boxes then (pName r').then fun s r1 => .ok (.boxes s, r1)
      else if isT t [40] then
        if 64 ≤ deep then .error (t :: r')
        else (qX f 0 1 (deep + 1) .empty r').then fun n r1 => (qX f 1 1 (deep + 1) n r1).then fun n r2 => (pMust [41] r2).then fun _ r3 => .ok (n, r3)
      else (pName (t :: r')).then fun s r1 => .ok (.name s, r1)
  | f + 1, _ + 1, least, deep, n, r =>
    match r with
    | [] => .ok (n, [])
    | t :: r' => if (opOf t).1 = 0 ∨ (opOf t).2 < least then .ok (n, t :: r')
      else (qX f 0 ((opOf t).2 + 1) deep .empty r').then fun m r1 => (qX f 1 ((opOf t).2 + 1) deep m r1).then fun m r2 => qX f 1 least deep (.bin (opOf t).1 n m) r2

theorem pX_one (f deep : Nat) (n : Ex) (t : Tok) (r' : List Tok) : pX (f + 1) 0 deep n (t :: r') =
    if isT t w_empty then .ok (.empty, r')
    else if isT t w_boxes then (pName r').then fun s r1 => .ok (.boxes s, r1)
    else if isT t [40] then
      if 64 ≤ deep then .error (t :: r')
      else (pX f 0 (deep + 1) .empty r').then fun n r1 => (pX f 1 (deep + 1) n r1).then fun n r2 => (pX f 2 (deep + 1) n r2).then fun n r3 => (pMust [41] r3).then fun _ r4 => .ok (n, r4)
    else (pName (t :: r')).then fun s r1 => .ok (.name s, r1) := rfl
theorem pX_and (f deep : Nat) (n : Ex) (t : Tok) (r' : List Tok) : pX (f + 1) 1 deep n (t :: r') =
    if isT t w_and then (pX f 0 deep .empty r').then fun m r1 => pX f 1 deep (.bin 4 n m) r1 else .ok (n, t :: r') := rfl
theorem pX_low (f deep : Nat) (n : Ex) (t : Tok) (r' : List Tok) : pX (f + 1) 2 deep n (t :: r') =
    if lowKind t ≠ 0 then (pX f 0 deep .empty r').then fun m r1 => (pX f 1 deep m r1).then fun m r2 => pX f 2 deep (.bin (lowKind t) n m) r2 else .ok (n, t :: r') := rfl
theorem pName_len {r : List Tok} {s : List UInt8} {r1 : List Tok} (h : pName r = .ok (s, r1)) : r1.length < r.length := by
  cases r with
  | nil => cases h
  | cons t r =>
    by_cases hc : (t.kind == 1 && !takenL.contains t.text) = true
    · rw [pName, if_pos hc] at h; cases h; simp
    · rw [pName, if_neg hc] at h; cases h
theorem pMust_len {s : List UInt8} {r : List Tok} {u : Unit} {r1 : List Tok} (h : pMust s r = .ok (u, r1)) : r1.length < r.length := by
  cases r with
  | nil => cases h
  | cons t r =>
    by_cases hc : isT t s = true
    · rw [pMust, if_pos hc] at h; cases h; simp
    · rw [pMust, if_neg hc] at h; cases h

theorem then_ok_of {α β : Type} {x : PR α} {f : α → List Tok → PR β} {b : β} {r : List Tok} (h : PR.then x f = .ok (b, r)) : ∃ a r1, x = .ok (a, r1) ∧ f a r1 = .ok (b, r) := by
  cases x with
  | error r => cases h
  | ok p => exact ⟨p.1, p.2, rfl, h⟩

/-- A reading leaves no more tokens than there were; one that stands together takes at least one. -/
theorem pX_len (f : Nat) : ∀ (tag deep : Nat) (n : Ex) (r : List Tok) (m : Ex) (r1 : List Tok), pX f tag deep n r = .ok (m, r1) → r1.length ≤ r.length ∧ (tag = 0 → r1.length < r.length) := by
  induction f with
  | zero => intro tag deep n r m r1 h; cases h
  | succ f ih =>
    intro tag deep n r m r1 h
    match tag with
    | 0 =>
      cases r with
      | nil => cases h
      | cons t r' =>
        simp only [pX] at h
        split at h
        · cases h; simp
        · split at h
          · obtain ⟨a, r2, h1, h2⟩ := then_ok_of h
            cases h2
            have := pName_len h1
            simp; omega
          · split at h
            · split at h
              · cases h
              · obtain ⟨a, r2, h1, h⟩ := then_ok_of h
                obtain ⟨b, r3, h2, h⟩ := then_ok_of h
                obtain ⟨c, r4, h3, h⟩ := then_ok_of h
                obtain ⟨d, r5, h4, h⟩ := then_ok_of h
                cases h
                have := (ih _ _ _ _ _ _ h1).1
                have := (ih _ _ _ _ _ _ h2).1
                have := (ih _ _ _ _ _ _ h3).1
                have := pMust_len h4
                simp; omega
            · obtain ⟨a, r2, h1, h2⟩ := then_ok_of h
              cases h2
              have := pName_len h1
              exact ⟨by omega, fun _ => this⟩
    | 1 =>
      cases r with
      | nil => cases h; simp
      | cons t r' =>
        simp only [pX] at h
        split at h
        · obtain ⟨a, r2, h1, h2⟩ := then_ok_of h
          have := (ih _ _ _ _ _ _ h1).1
          have := (ih _ _ _ _ _ _ h2).1
          simp; omega
        · cases h; simp
    | tag + 2 =>
      cases r with
      | nil => cases h; simp
      | cons t r' =>
        simp only [pX] at h
        split at h
        · obtain ⟨a, r2, h1, h2⟩ := then_ok_of h
          obtain ⟨b, r3, h3, h4⟩ := then_ok_of h2
          have := (ih _ _ _ _ _ _ h1).1
          have := (ih _ _ _ _ _ _ h3).1
          have := (ih _ _ _ _ _ _ h4).1
          simp; omega
        · cases h; simp

theorem then_congr {α β : Type} {x y : PR α} {f g : α → List Tok → PR β} (h : x = y) (hf : ∀ a r, x = .ok (a, r) → f a r = g a r) : PR.then x f = PR.then y g := by
  subst h
  cases x with
  | error r => rfl
  | ok p => exact hf p.1 p.2 rfl

/-- What it comes to does not hang on the fuel, if that is enough. -/
theorem pX_fuel (f : Nat) : ∀ (g tag deep : Nat) (n : Ex) (r : List Tok), tag ≤ 2 → 3 * r.length + tag < f → 3 * r.length + tag < g → pX f tag deep n r = pX g tag deep n r := by
  induction f with
  | zero => intro g tag deep n r _ h; omega
  | succ f ih =>
    intro g tag deep n r ht hf hg
    cases g with
    | zero => omega
    | succ g =>
      match tag, ht with
      | 0, _ =>
        cases r with
        | nil => rfl
        | cons t r' =>
          simp only [List.length_cons] at hf hg
          simp only [pX]
          split
          · rfl
          · split
            · rfl
            · split
              · split
                · rfl
                · refine then_congr (ih g 0 _ _ r' (by omega) (by omega) (by omega)) fun a r1 h1 => ?_
                  have l1 := (pX_len _ _ _ _ _ _ _ h1).1
                  refine then_congr (ih g 1 _ _ r1 (by omega) (by omega) (by omega)) fun b r2 h2 => ?_
                  have l2 := (pX_len _ _ _ _ _ _ _ h2).1
                  exact then_congr (ih g 2 _ _ r2 (by omega) (by omega) (by omega)) fun _ _ _ => rfl
              · rfl
      | 1, _ =>
        cases r with
        | nil => rfl
        | cons t r' =>
          simp only [List.length_cons] at hf hg
          simp only [pX]
          split
          · refine then_congr (ih g 0 _ _ r' (by omega) (by omega) (by omega)) fun a r1 h1 => ?_
            have l1 := (pX_len _ _ _ _ _ _ _ h1).1
            exact ih g 1 _ _ r1 (by omega) (by omega) (by omega)
          · rfl
      | 2, _ =>
        cases r with
        | nil => rfl
        | cons t r' =>
          simp only [List.length_cons] at hf hg
          simp only [pX]
          split
          · refine then_congr (ih g 0 _ _ r' (by omega) (by omega) (by omega)) fun a r1 h1 => ?_
            have l1 := (pX_len _ _ _ _ _ _ _ h1).1
            refine then_congr (ih g 1 _ _ r1 (by omega) (by omega) (by omega)) fun b r2 h2 => ?_
            have l2 := (pX_len _ _ _ _ _ _ _ h2).1
            exact ih g 2 _ _ r2 (by omega) (by omega) (by omega)
          · rfl

end Go.Proofs.YtdjklnlkocconaaGreatDoor

namespace Go.Proofs.YtdjklnlkocconaaGreatDoor

/-- Trees of nodes, whatever they are: a kind, a name, parts. -/
inductive Nd where
  | mk (kind : Int) (name : List UInt8) (kids : List Nd)

def Nd.zero : Nd := .mk 0 [] []

def Ex.nd : Ex → Nd
  | .name s => .mk 1 s []
  | .empty => .mk 2 [] []
  | .boxes s => .mk 3 s []
  | .bin k a b => .mk k [] [a.nd, b.nd]

/-- A statement. -/
structure St where
  kind : Int
  name : List UInt8
  a : Nd
  b : Nd
  rule : Int
  n : Int
  d : Int
  k : Int
  snap : Bool

def St.zero : St := ⟨0, [], .zero, .zero, 0, 0, 0, 0, false⟩

/-- An expression, as the program reads it. -/
def pExpr (deep : Nat) (r : List Tok) : PR Ex :=
  (pX (3 * r.length + 3) 0 deep .empty r).then fun n r1 => (pX (3 * r.length + 3) 1 deep n r1).then fun n r2 => pX (3 * r.length + 3) 2 deep n r2

/-- Two layers' numbers. -/
def pLayers (r : List Tok) : PR (Int × Int) :=
  (pNum 0 32767 r).then fun n r1 => (pMust [47] r1).then fun _ r2 => (pNum 0 32767 r2).then fun k r3 => .ok ((n, k), r3)

def pSemi (x : St) (r : List Tok) : PR St := (pMust [59] r).then fun _ r1 => .ok (x, r1)

/-- The rule's number that a word tells; 0: none. -/
def ruleNo (t : Tok) : Int :=
  if isT t w_width then 1 else if isT t w_space then 2 else if isT t w_notch then 3 else if isT t w_apart then 4 else if isT t w_around then 5 else if isT t w_over then 6 else 0

/-- The statement's kind that a word tells; 0: none. -/
def kindNo (t : Tok) : Int :=
  if isT t w_input then 1 else if isT t w_let then 2 else if isT t w_check then 3 else if isT t w_small then 4 else if isT t w_write then 5 else 0

def sInput (s : List UInt8) (r : List Tok) : PR St :=
  (pLayers r).then fun nk r1 => pSemi { St.zero with kind := 1, name := s, n := nk.1, k := nk.2 } r1
def sLet (s : List UInt8) (r : List Tok) : PR St :=
  (pExpr 0 r).then fun a r1 => pSemi { St.zero with kind := 2, name := s, a := a.nd } r1
def sCheck2 (x : St) (r : List Tok) : PR St :=
  (pNum 1 2147483647 r).then fun n r1 => (pMust [41] r1).then fun _ r2 => pSemi { x with n := n } r2
def sCheck1 (x : St) (r : List Tok) : PR St :=
  if 3 < x.rule then (pExpr 1 r).then fun b r1 => (pMust [44] r1).then fun _ r2 => sCheck2 { x with b := b.nd } r2
  else sCheck2 x r
def sCheck (s : List UInt8) (r : List Tok) : PR St :=
  match r with
  | [] => .error []
  | t :: r1 =>
    if ruleNo t = 0 then .error (t :: r1)
    else (pMust [40] r1).then fun _ r2 => (pExpr 1 r2).then fun a r3 => (pMust [44] r3).then fun _ r4 => sCheck1 { St.zero with kind := 3, name := s, rule := ruleNo t, a := a.nd } r4
def sSmall1 (x : St) (r : List Tok) : PR St :=
  match r with
  | [] => .error []
  | t :: r1 => if isT t [47] then (pNum 1 2147483647 r1).then fun d r2 => pSemi { x with d := d } r2 else pSemi x (t :: r1)
def sSmall (s : List UInt8) (r : List Tok) : PR St :=
  (pExpr 0 r).then fun a r1 => (pMust [44] r1).then fun _ r2 => (pNum 0 2147483647 r2).then fun n r3 => sSmall1 { St.zero with kind := 4, name := s, a := a.nd, n := n, d := 1 } r3
def sWrite1 (x : St) (r : List Tok) : PR St :=
  match r with
  | [] => .error []
  | t :: r1 => if isT t w_snap then pSemi { x with snap := true } r1 else pSemi x (t :: r1)
def sWrite (s : List UInt8) (r : List Tok) : PR St :=
  (pExpr 0 r).then fun a r1 => (pMust [44] r1).then fun _ r2 => (pLayers r2).then fun nk r3 => sWrite1 { St.zero with kind := 5, name := s, a := a.nd, n := nk.1, k := nk.2 } r3

/-- What follows a statement's word. -/
def sBody (kind : Int) (s : List UInt8) (r : List Tok) : PR St :=
  if kind = 1 then sInput s r else if kind = 2 then sLet s r else if kind = 3 then sCheck s r else if kind = 4 then sSmall s r else sWrite s r

def pStmt (r : List Tok) : PR St :=
  match r with
  | [] => .error []
  | t :: r1 => if kindNo t = 0 then .error (t :: r1) else (pName r1).then fun s r2 => (pMust [61] r2).then fun _ r3 => sBody (kindNo t) s r3

def pDeckF : Nat → List Tok → List St → Except (List Tok) (List St)
  | 0, _, acc => .ok acc
  | _ + 1, [], acc => .ok acc
  | f + 1, t :: r, acc =>
    if acc.length = 1000 then .error (t :: r)
    else match pStmt (t :: r) with
      | .error r1 => .error r1
      | .ok (x, r1) => pDeckF f r1 (acc ++ [x])

def pDeck (r : List Tok) : Except (List Tok) (List St) := pDeckF (r.length + 1) r []

/-- The place of the first of some tokens; fin: there is none. -/
def posOf (r : List Tok) (fin : Int) : Int := match r with | [] => fin | t :: _ => t.pos

/-- A deck's statements, or the place where it is none. -/
def parseS (s : List UInt8) : Except Int (List St) :=
  match lexS s with
  | .error k => .error k
  | .ok ts => match pDeck ts with
    | .error r => .error (posOf r s.length)
    | .ok l => .ok l

theorem pName_rest {r : List Tok} {s : List UInt8} {r1 : List Tok} (h : pName r = .ok (s, r1)) : ∃ t, r = t :: r1 ∧ t.text = s ∧ t.kind = 1 ∧ takenL.contains t.text = false := by
  cases r with
  | nil => cases h
  | cons t r =>
    by_cases hc : (t.kind == 1 && !takenL.contains t.text) = true
    · rw [pName, if_pos hc] at h; cases h
      simp only [Bool.and_eq_true, beq_iff_eq, Bool.not_eq_true'] at hc
      exact ⟨t, rfl, rfl, hc.1, hc.2⟩
    · rw [pName, if_neg hc] at h; cases h
end Go.Proofs.YtdjklnlkocconaaGreatDoor

namespace Go.Proofs.YtdjklnlkocconaaGreatDoor

def pOne (d : Nat) (r : List Tok) : PR Ex := pX (3 * r.length + 1) 0 d .empty r
def pAnd (d : Nat) (n : Ex) (r : List Tok) : PR Ex := pX (3 * r.length + 2) 1 d n r
def pLow (d : Nat) (n : Ex) (r : List Tok) : PR Ex := pX (3 * r.length + 3) 2 d n r
def pBoth (d : Nat) (r : List Tok) : PR Ex := (pOne d r).then fun n r1 => pAnd d n r1
def pEx (d : Nat) (r : List Tok) : PR Ex := (pBoth d r).then fun n r1 => pLow d n r1

theorem pOne_len {d : Nat} {r : List Tok} {n : Ex} {r1 : List Tok} (h : pOne d r = .ok (n, r1)) : r1.length < r.length := (pX_len _ _ _ _ _ _ _ h).2 rfl
theorem pAnd_len {d : Nat} {m : Ex} {r : List Tok} {n : Ex} {r1 : List Tok} (h : pAnd d m r = .ok (n, r1)) : r1.length ≤ r.length := (pX_len _ _ _ _ _ _ _ h).1
theorem pLow_len {d : Nat} {m : Ex} {r : List Tok} {n : Ex} {r1 : List Tok} (h : pLow d m r = .ok (n, r1)) : r1.length ≤ r.length := (pX_len _ _ _ _ _ _ _ h).1
theorem pBoth_len {d : Nat} {r : List Tok} {n : Ex} {r1 : List Tok} (h : pBoth d r = .ok (n, r1)) : r1.length < r.length := by
  obtain ⟨a, r2, h1, h2⟩ := then_ok_of h
  have := pOne_len h1
  have := pAnd_len h2
  omega
theorem pEx_len {d : Nat} {r : List Tok} {n : Ex} {r1 : List Tok} (h : pEx d r = .ok (n, r1)) : r1.length < r.length := by
  obtain ⟨a, r2, h1, h2⟩ := then_ok_of h
  have := pBoth_len h1
  have := pLow_len h2
  omega

theorem pX0_eq (f d : Nat) (r : List Tok) (h : 3 * r.length < f) : pX f 0 d .empty r = pOne d r := pX_fuel f _ 0 d .empty r (by omega) (by omega) (by omega)
theorem pX1_eq (f d : Nat) (n : Ex) (r : List Tok) (h : 3 * r.length + 1 < f) : pX f 1 d n r = pAnd d n r := pX_fuel f _ 1 d n r (by omega) (by omega) (by omega)
theorem pX2_eq (f d : Nat) (n : Ex) (r : List Tok) (h : 3 * r.length + 2 < f) : pX f 2 d n r = pLow d n r := pX_fuel f _ 2 d n r (by omega) (by omega) (by omega)

theorem pOne_nil (d : Nat) : pOne d [] = .error [] := rfl
theorem pAnd_nil (d : Nat) (n : Ex) : pAnd d n [] = .ok (n, []) := rfl
theorem pLow_nil (d : Nat) (n : Ex) : pLow d n [] = .ok (n, []) := rfl

theorem pOne_cons (d : Nat) (t : Tok) (r : List Tok) : pOne d (t :: r) =
    if isT t w_empty then .ok (.empty, r)
    else if isT t w_boxes then (pName r).then fun s r1 => .ok (.boxes s, r1)
    else if isT t [40] then
      if 64 ≤ d then .error (t :: r)
      else (pEx (d + 1) r).then fun n r1 => (pMust [41] r1).then fun _ r2 => .ok (n, r2)
    else (pName (t :: r)).then fun s r1 => .ok (.name s, r1) := by
  have e : pOne d (t :: r) = pX ((3 * r.length + 3) + 1) 0 d .empty (t :: r) := by rw [pOne, List.length_cons]; congr 1
  rw [e, pX_one]
  split
  · rfl
  · split
    · rfl
    · split
      · split
        · rfl
        · rw [pEx, pBoth, PR.then_then, PR.then_then]
          refine then_congr (pX0_eq _ _ _ (by omega)) fun a r1 h1 => ?_
          rw [pX0_eq _ _ _ (by omega)] at h1
          have l1 := pOne_len h1
          refine then_congr (pX1_eq _ _ _ _ (by omega)) fun b r2 h2 => ?_
          rw [pX1_eq _ _ _ _ (by omega)] at h2
          have l2 := pAnd_len h2
          exact then_congr (pX2_eq _ _ _ _ (by omega)) fun _ _ _ => rfl
      · rfl

theorem pAnd_cons (d : Nat) (n : Ex) (t : Tok) (r : List Tok) : pAnd d n (t :: r) =
    if isT t w_and then (pOne d r).then fun m r1 => pAnd d (.bin 4 n m) r1 else .ok (n, t :: r) := by
  have e : pAnd d n (t :: r) = pX ((3 * r.length + 4) + 1) 1 d n (t :: r) := by rw [pAnd, List.length_cons]; congr 1
  rw [e, pX_and]
  split
  · refine then_congr (pX0_eq _ _ _ (by omega)) fun a r1 h1 => ?_
    rw [pX0_eq _ _ _ (by omega)] at h1
    have l1 := pOne_len h1
    exact pX1_eq _ _ _ _ (by omega)
  · rfl

theorem pLow_cons (d : Nat) (n : Ex) (t : Tok) (r : List Tok) : pLow d n (t :: r) =
    if lowKind t ≠ 0 then (pBoth d r).then fun m r1 => pLow d (.bin (lowKind t) n m) r1 else .ok (n, t :: r) := by
  have e : pLow d n (t :: r) = pX ((3 * r.length + 5) + 1) 2 d n (t :: r) := by rw [pLow, List.length_cons]; congr 1
  rw [e, pX_low]
  split
  · rw [pBoth, PR.then_then]
    refine then_congr (pX0_eq _ _ _ (by omega)) fun a r1 h1 => ?_
    rw [pX0_eq _ _ _ (by omega)] at h1
    have l1 := pOne_len h1
    refine then_congr (pX1_eq _ _ _ _ (by omega)) fun b r2 h2 => ?_
    rw [pX1_eq _ _ _ _ (by omega)] at h2
    have l2 := pAnd_len h2
    exact pX2_eq _ _ _ _ (by omega)
  · rfl

theorem pExpr_eq (d : Nat) (r : List Tok) : pExpr d r = pEx d r := by
  rw [pExpr, pEx, pBoth, PR.then_then]
  refine then_congr (pX0_eq _ _ _ (by omega)) fun a r1 h1 => ?_
  rw [pX0_eq _ _ _ (by omega)] at h1
  have l1 := pOne_len h1
  refine then_congr (pX1_eq _ _ _ _ (by omega)) fun b r2 h2 => ?_
  rw [pX1_eq _ _ _ _ (by omega)] at h2
  have l2 := pAnd_len h2
  exact pX2_eq _ _ _ _ (by omega)
end Go.Proofs.YtdjklnlkocconaaGreatDoor

namespace Go.Proofs.YtdjklnlkocconaaGreatDoor

/-- A reading leaves no more than there was. -/
def Less {α : Type} (p : PR α) (r : List Tok) : Prop := ∀ a r1, p = .ok (a, r1) → r1.length ≤ r.length

theorem less_then {α β : Type} {x : PR α} {f : α → List Tok → PR β} {r : List Tok} (h : Less x r) (hf : ∀ a r1, Less (f a r1) r1) : Less (x.then f) r := by
  intro b r2 h2
  obtain ⟨a, r1, h3, h4⟩ := then_ok_of h2
  exact Nat.le_trans (hf a r1 b r2 h4) (h a r1 h3)
theorem less_ok {α : Type} (a : α) (r : List Tok) : Less (.ok (a, r) : PR α) r := by
  intro b r1 h; cases h; exact Nat.le_refl _
theorem less_err {α : Type} (r r' : List Tok) : Less (.error r' : PR α) r := by
  intro b r1 h; cases h
theorem less_name (r : List Tok) : Less (pName r) r := fun _ _ h => Nat.le_of_lt (pName_len h)
theorem less_must (s : List UInt8) (r : List Tok) : Less (pMust s r) r := fun _ _ h => Nat.le_of_lt (pMust_len h)
theorem less_num (lo hi : Int) (r : List Tok) : Less (pNum lo hi r) r := by
  intro a r1 h
  cases r with
  | nil => cases h
  | cons t r =>
    by_cases hc : (t.kind == 2 && decide (lo ≤ t.num) && decide (t.num ≤ hi)) = true
    · rw [pNum, if_pos hc] at h; cases h; simp
    · rw [pNum, if_neg hc] at h; cases h
theorem less_expr (d : Nat) (r : List Tok) : Less (pExpr d r) r := by
  rw [pExpr_eq]
  exact fun _ _ h => Nat.le_of_lt (pEx_len h)
theorem less_semi (x : St) (r : List Tok) : Less (pSemi x r) r := less_then (less_must _ _) fun _ _ => less_ok _ _
theorem less_layers (r : List Tok) : Less (pLayers r) r := less_then (less_num _ _ _) fun _ _ => less_then (less_must _ _) fun _ _ => less_then (less_num _ _ _) fun _ _ => less_ok _ _
theorem less_cons {α : Type} {p : PR α} {t : Tok} {r : List Tok} (h : Less p r) : Less p (t :: r) := fun a r1 e => Nat.le_trans (h a r1 e) (by simp)
theorem less_check2 (x : St) (r : List Tok) : Less (sCheck2 x r) r := less_then (less_num _ _ _) fun _ _ => less_then (less_must _ _) fun _ _ => less_semi _ _
theorem less_check1 (x : St) (r : List Tok) : Less (sCheck1 x r) r := by
  unfold sCheck1
  split
  · exact less_then (less_expr _ _) fun _ _ => less_then (less_must _ _) fun _ _ => less_check2 _ _
  · exact less_check2 _ _
theorem less_small1 (x : St) (r : List Tok) : Less (sSmall1 x r) r := by
  unfold sSmall1
  split
  · exact less_err _ _
  · split
    · exact less_cons (less_then (less_num _ _ _) fun _ _ => less_semi _ _)
    · exact less_semi _ _
theorem less_write1 (x : St) (r : List Tok) : Less (sWrite1 x r) r := by
  unfold sWrite1
  split
  · exact less_err _ _
  · split
    · exact less_cons (less_semi _ _)
    · exact less_semi _ _
theorem less_body (k : Int) (s : List UInt8) (r : List Tok) : Less (sBody k s r) r := by
  unfold sBody
  split
  · exact less_then (less_layers _) fun _ _ => less_semi _ _
  · split
    · exact less_then (less_expr _ _) fun _ _ => less_semi _ _
    · split
      · unfold sCheck
        split
        · exact less_err _ _
        · split
          · exact less_err _ _
          · exact less_cons (less_then (less_must _ _) fun _ _ => less_then (less_expr _ _) fun _ _ => less_then (less_must _ _) fun _ _ => less_check1 _ _)
      · split
        · exact less_then (less_expr _ _) fun _ _ => less_then (less_must _ _) fun _ _ => less_then (less_num _ _ _) fun _ _ => less_small1 _ _
        · exact less_then (less_expr _ _) fun _ _ => less_then (less_must _ _) fun _ _ => less_then (less_layers _) fun _ _ => less_write1 _ _

theorem pStmt_len {r : List Tok} {x : St} {r1 : List Tok} (h : pStmt r = .ok (x, r1)) : r1.length < r.length := by
  cases r with
  | nil => cases h
  | cons t r =>
    by_cases hk : kindNo t = 0
    · rw [pStmt, if_pos hk] at h; cases h
    · rw [pStmt, if_neg hk] at h
      have := (less_then (less_name r) fun _ _ => less_then (less_must _ _) fun _ _ => less_body _ _ _) x r1 h
      simp only [List.length_cons]
      omega

theorem pDeckF_fuel (f : Nat) : ∀ (g : Nat) (r : List Tok) (acc : List St), r.length < f → r.length < g → pDeckF f r acc = pDeckF g r acc := by
  induction f with
  | zero => intro g r acc h; omega
  | succ f ih =>
    intro g r acc hf hg
    cases g with
    | zero => omega
    | succ g =>
      cases r with
      | nil => rfl
      | cons t r =>
        rw [pDeckF, pDeckF]
        by_cases h1000 : acc.length = 1000
        · rw [if_pos h1000, if_pos h1000]
        · rw [if_neg h1000, if_neg h1000]
          cases hp : pStmt (t :: r) with
          | error r1 => rfl
          | ok p =>
            obtain ⟨x, r1⟩ := p
            have := pStmt_len hp
            exact ih g r1 _ (by omega) (by omega)
end Go.Proofs.YtdjklnlkocconaaGreatDoor

namespace Go.Proofs.YtdjklnlkocconaaGreatDoor

mutual
/-- The same tree? -/
def Nd.same : Nd → Nd → Bool
  | .mk k s l, .mk k' s' l' => k == k' && (s == s' && Nd.sames l l')
def Nd.sames : List Nd → List Nd → Bool
  | [], [] => true
  | a :: l, b :: r => Nd.same a b && Nd.sames l r
  | _, _ => false
end

mutual
theorem Nd.same_iff : ∀ (a b : Nd), Nd.same a b = true ↔ a = b
  | .mk k s l, .mk k' s' l' => by
    simp only [Nd.same, Bool.and_eq_true, beq_iff_eq, Nd.mk.injEq, Nd.sames_iff l l']
theorem Nd.sames_iff : ∀ (l r : List Nd), Nd.sames l r = true ↔ l = r
  | [], [] => by simp [Nd.sames]
  | [], _ :: _ => by simp [Nd.sames]
  | _ :: _, [] => by simp [Nd.sames]
  | a :: l, b :: r => by
    simp only [Nd.sames, Bool.and_eq_true, List.cons.injEq, Nd.same_iff a b, Nd.sames_iff l r]
end

/-- The same statement? -/
def St.same (x y : St) : Bool :=
  x.kind == y.kind && (x.name == y.name && (Nd.same x.a y.a && (Nd.same x.b y.b && (x.rule == y.rule && (x.n == y.n && (x.d == y.d && (x.k == y.k && x.snap == y.snap)))))))

theorem St.same_iff (x y : St) : St.same x y = true ↔ x = y := by
  cases x; cases y
  simp only [St.same, Bool.and_eq_true, beq_iff_eq, Nd.same_iff, St.mk.injEq]

def Sts.same : List St → List St → Bool
  | [], [] => true
  | a :: l, b :: r => St.same a b && Sts.same l r
  | _, _ => false

theorem Sts.same_iff : ∀ (l r : List St), Sts.same l r = true ↔ l = r
  | [], [] => by simp [Sts.same]
  | [], _ :: _ => by simp [Sts.same]
  | _ :: _, [] => by simp [Sts.same]
  | a :: l, b :: r => by
    simp only [Sts.same, Bool.and_eq_true, List.cons.injEq, St.same_iff a b, Sts.same_iff l r]

/-- An operator's word, between blanks. -/
def joinW (k : Int) : List UInt8 :=
  if k = 4 then [32, 97, 110, 100, 32] else if k = 5 then [32, 111, 114, 32] else if k = 6 then [32, 110, 111, 116, 32] else if k = 7 then [32, 120, 111, 114, 32] else []
/-- How strongly it binds. -/
def joinS (k : Int) : Int := if k = 4 then 1 else 0

/-- An expression's text, where what binds at least so strongly may stand. -/
def textP : Nd → Int → List UInt8
  | .mk k s l, level =>
    if k = 1 then s else if k = 2 then w_empty else if k = 3 then [98, 111, 120, 101, 115, 32] ++ s
    else match l with
      | [a, b] => (if joinS k < level then [40] else []) ++ textP a (joinS k) ++ joinW k ++ textP b (joinS k + 1) ++ (if joinS k < level then [41] else [])
      | _ => []

def stWord (k : Int) : List UInt8 :=
  if k = 1 then [105, 110, 112, 117, 116, 32] else if k = 2 then [108, 101, 116, 32] else if k = 3 then [99, 104, 101, 99, 107, 32] else if k = 4 then [115, 109, 97, 108, 108, 32] else [119, 114, 105, 116, 101, 32]

def ruleW (k : Int) : List UInt8 :=
  if k = 1 then w_width else if k = 2 then w_space else if k = 3 then w_notch else if k = 4 then w_apart else if k = 5 then w_around else w_over

/-- A number's digits. -/
def numT (n : Int) : List UInt8 := Lib.itoa n

/-- A statement's text. -/
def lineP (x : St) : List UInt8 :=
  if x.kind < 1 ∨ 5 < x.kind then []
  else (stWord x.kind ++ x.name ++ [32, 61, 32]) ++
    (if x.kind = 1 then numT x.n ++ [47] ++ numT x.k ++ [59, 10]
     else if x.kind = 2 then textP x.a 0 ++ [59, 10]
     else if x.kind = 3 then
       if x.rule < 1 ∨ 6 < x.rule then []
       else (ruleW x.rule ++ [40]) ++ textP x.a 0 ++ (if 3 < x.rule then [44, 32] ++ textP x.b 0 else []) ++ ([44, 32] ++ numT x.n ++ [41]) ++ [59, 10]
     else if x.kind = 4 then textP x.a 0 ++ ([44, 32] ++ numT x.n) ++ (if x.d = 1 then [] else [47] ++ numT x.d) ++ [59, 10]
     else textP x.a 0 ++ ([44, 32] ++ numT x.n ++ [47] ++ numT x.k) ++ (if x.snap then [32, 115, 110, 97, 112] else []) ++ [59, 10])

/-- All statements' text, line by line; none, if it comes to more than so many bytes behind one of them. -/
def linesP : List St → List UInt8 → Option (List UInt8)
  | [], acc => some acc
  | x :: r, acc => if 131072 < (acc ++ lineP x).length then none else linesP r (acc ++ lineP x)

/-- Statements' text, if they are some deck's. -/
def printS (l : List St) : Option (List UInt8) :=
  match linesP l [] with
  | none => none
  | some t => match parseS t with
    | .error _ => none
    | .ok m => if Sts.same l m then some t else none
end Go.Proofs.YtdjklnlkocconaaGreatDoor
