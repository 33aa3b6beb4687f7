/-
  Plain Lean: what a deck's tokens are. No program in sight.
-/
namespace Go.Proofs.YtgnjaneddidbbaaDoor

/-- Bytes as a string's own array. -/
def bs (l : List UInt8) : ByteArray := ⟨l.toArray⟩

def smallB (c : Int) : Bool := decide (97 ≤ c ∧ c ≤ 122)
def digitB (c : Int) : Bool := decide (48 ≤ c ∧ c ≤ 57)
def wordB (c : Int) : Bool := smallB c || digitB c || decide (c = 95)
def blankB (c : Int) : Bool := decide (c = 32 ∨ c = 9 ∨ c = 10 ∨ c = 13)
def signB (c : Int) : Bool := decide (c = 40 ∨ c = 41 ∨ c = 44 ∨ c = 61 ∨ c = 47 ∨ c = 59)

structure Tok where
  kind : Int
  text : List UInt8
  num : Int
  pos : Nat

/-- The number that digits spell. -/
def decStep (a : Nat) (c : UInt8) : Nat := a * 10 + (c.toNat - 48)
def decVal (acc : Nat) (l : List UInt8) : Nat := l.foldl decStep acc

theorem decVal_nil (a : Nat) : decVal a [] = a := by rw [decVal, List.foldl_nil]
theorem decVal_cons (a : Nat) (c : UInt8) (r : List UInt8) : decVal a (c :: r) = decVal (decStep a c) r := by rw [decVal, decVal, List.foldl_cons]
theorem decStep_ge (a : Nat) (c : UInt8) : a ≤ decStep a c := by unfold decStep; omega
theorem decVal_ge (l : List UInt8) : ∀ a : Nat, a ≤ decVal a l := by
  induction l with
  | nil => intro a; rw [decVal_nil]; exact Nat.le_refl _
  | cons x l ih => intro a; rw [decVal_cons]; exact Nat.le_trans (decStep_ge a x) (ih (decStep a x))

def wordRun (r : List UInt8) : List UInt8 := r.takeWhile fun b => wordB b.toNat
def digitRun (r : List UInt8) : List UInt8 := r.takeWhile fun b => digitB b.toNat
def remark (r : List UInt8) : List UInt8 := r.takeWhile fun b => b != 10

def lexF : Nat → List UInt8 → Nat → List Tok → Except Nat (List Tok)
  | 0, _, _, acc => .ok acc
  | _ + 1, [], _, acc => .ok acc
  | f + 1, c :: r, k, acc =>
    if blankB c.toNat then lexF f r (k + 1) acc
    else if c.toNat = 35 then lexF f ((c :: r).drop (remark (c :: r)).length) (k + (remark (c :: r)).length) acc
    else if smallB c.toNat then
      if 32 < (wordRun (c :: r)).length then .error k
      else lexF f ((c :: r).drop (wordRun (c :: r)).length) (k + (wordRun (c :: r)).length) (acc ++ [⟨1, wordRun (c :: r), 0, k⟩])
    else if digitB c.toNat then
      if 2147483647 < decVal 0 (digitRun (c :: r)) ∨ (1 < (digitRun (c :: r)).length ∧ c.toNat = 48) then .error k
      else lexF f ((c :: r).drop (digitRun (c :: r)).length) (k + (digitRun (c :: r)).length) (acc ++ [⟨2, digitRun (c :: r), decVal 0 (digitRun (c :: r)), k⟩])
    else if signB c.toNat then lexF f r (k + 1) (acc ++ [⟨3, [c], 0, k⟩])
    else .error k

section
variable {c : UInt8} {r : List UInt8} {k : Nat} {acc : List Tok}
theorem lexF_nil (f : Nat) : lexF f [] k acc = .ok acc := by cases f <;> rfl
theorem lexF_blank (h : blankB c.toNat = true) (f : Nat) : lexF (f + 1) (c :: r) k acc = lexF f r (k + 1) acc := by rw [lexF, if_pos h]
theorem lexF_remark (h : c.toNat = 35) (f : Nat) : lexF (f + 1) (c :: r) k acc = lexF f ((c :: r).drop (remark (c :: r)).length) (k + (remark (c :: r)).length) acc := by
  have h1 : blankB c.toNat = false := by rw [h]; decide
  rw [lexF, if_neg (by rw [h1]; decide), if_pos h]
theorem lexF_word (h : smallB c.toNat = true) (f : Nat) : lexF (f + 1) (c :: r) k acc = if 32 < (wordRun (c :: r)).length then .error k
    else lexF f ((c :: r).drop (wordRun (c :: r)).length) (k + (wordRun (c :: r)).length) (acc ++ [⟨1, wordRun (c :: r), 0, k⟩]) := by
  have h' := h
  simp only [smallB, decide_eq_true_eq] at h'
  have h1 : blankB c.toNat = false := by simp only [blankB, decide_eq_false_iff_not]; omega
  rw [lexF, if_neg (by rw [h1]; decide), if_neg (by omega), if_pos h]
theorem lexF_num (h : digitB c.toNat = true) (f : Nat) : lexF (f + 1) (c :: r) k acc = if 2147483647 < decVal 0 (digitRun (c :: r)) ∨ (1 < (digitRun (c :: r)).length ∧ c.toNat = 48) then .error k
    else lexF f ((c :: r).drop (digitRun (c :: r)).length) (k + (digitRun (c :: r)).length) (acc ++ [⟨2, digitRun (c :: r), decVal 0 (digitRun (c :: r)), k⟩]) := by
  have h' := h
  simp only [digitB, decide_eq_true_eq] at h'
  have h1 : blankB c.toNat = false := by simp only [blankB, decide_eq_false_iff_not]; omega
  have h2 : smallB c.toNat = false := by simp only [smallB, decide_eq_false_iff_not]; omega
  rw [lexF, if_neg (by rw [h1]; decide), if_neg (by omega), if_neg (by rw [h2]; decide), if_pos h]
theorem lexF_sign (h : signB c.toNat = true) (f : Nat) : lexF (f + 1) (c :: r) k acc = lexF f r (k + 1) (acc ++ [⟨3, [c], 0, k⟩]) := by
  have h' := h
  simp only [signB, decide_eq_true_eq] at h'
  have h1 : blankB c.toNat = false := by simp only [blankB, decide_eq_false_iff_not]; omega
  have h2 : smallB c.toNat = false := by simp only [smallB, decide_eq_false_iff_not]; omega
  have h3 : digitB c.toNat = false := by simp only [digitB, decide_eq_false_iff_not]; omega
  rw [lexF, if_neg (by rw [h1]; decide), if_neg (by omega), if_neg (by rw [h2]; decide), if_neg (by rw [h3]; decide), if_pos h]
theorem lexF_bad (h1 : blankB c.toNat = false) (h2 : c.toNat ≠ 35) (h3 : smallB c.toNat = false) (h4 : digitB c.toNat = false) (h5 : signB c.toNat = false) (f : Nat) :
    lexF (f + 1) (c :: r) k acc = .error k := by
  rw [lexF, if_neg (by rw [h1]; decide), if_neg h2, if_neg (by rw [h3]; decide), if_neg (by rw [h4]; decide), if_neg (by rw [h5]; decide)]
end

theorem wordRun_pos {c : UInt8} {r : List UInt8} (h : smallB c.toNat = true) : 1 ≤ (wordRun (c :: r)).length := by
  have : wordB c.toNat = true := by simp [wordB, h]
  simp [wordRun, this]
theorem digitRun_pos {c : UInt8} {r : List UInt8} (h : digitB c.toNat = true) : 1 ≤ (digitRun (c :: r)).length := by
  simp [digitRun, h]
theorem remark_pos {c : UInt8} {r : List UInt8} (h : c.toNat = 35) : 1 ≤ (remark (c :: r)).length := by
  have : c ≠ 10 := by intro e; rw [e] at h; exact absurd h (by decide)
  simp [remark, this]

theorem remark_len (l : List UInt8) : ∀ o, l[o]? = some 10 → (∀ k, k < o → l[k]? ≠ some 10) → (remark l).length = o := by
  induction l with
  | nil => intro o h; simp at h
  | cons x l ih =>
    intro o h1 h2
    cases o with
    | zero => simp at h1; simp [remark, h1]
    | succ o =>
      have h3 := h2 0 (by omega)
      simp at h3
      have h4 := ih o (by simpa using h1) (fun k hk => by simpa using h2 (k + 1) (by omega))
      have h5 : remark (x :: l) = x :: remark l := by simp [remark, h3]
      rw [h5, List.length_cons, h4]

theorem remark_all (l : List UInt8) : (∀ k : Nat, l[k]? ≠ some 10) → remark l = l := by
  induction l with
  | nil => intro _; rfl
  | cons x l ih =>
    intro h
    have h3 := h 0
    simp at h3
    have h4 := ih (fun k => by simpa using h (k + 1))
    have h5 : remark (x :: l) = x :: remark l := by simp [remark, h3]
    rw [h5, h4]

/-- A deck's tokens, or the place where it is none. -/
def lexS (s : List UInt8) : Except Nat (List Tok) := if 65536 < s.length then .error 0 else lexF (s.length + 1) s 0 []

end Go.Proofs.YtgnjaneddidbbaaDoor
