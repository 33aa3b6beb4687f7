/-
  Plain Lean: statements' text, as the program prints it, and when they are some deck's. No program in sight.
-/
import Derived.Test.YtgnjaneddidbbaaDoorDeckStmt
import Derived.Lib.ItoaNum
namespace Go.Proofs.YtgnjaneddidbbaaDoor

mutual
/-- The same tree? -/
def Nd.same : Nd → Nd → Bool
  | .mk k s l, .mk k' s' l' => k == k' && (s == s' && Nd.sames l l')
def Nd.sames : List Nd → List Nd → Bool
  | [], [] => true
  | a :: l, b :: r => Nd.same a b && Nd.sames l r
  | _, _ => false
end

mutual
theorem Nd.same_iff : ∀ (a b : Nd), Nd.same a b = true ↔ a = b
  | .mk k s l, .mk k' s' l' => by
    simp only [Nd.same, Bool.and_eq_true, beq_iff_eq, Nd.mk.injEq, Nd.sames_iff l l']
theorem Nd.sames_iff : ∀ (l r : List Nd), Nd.sames l r = true ↔ l = r
  | [], [] => by simp [Nd.sames]
  | [], _ :: _ => by simp [Nd.sames]
  | _ :: _, [] => by simp [Nd.sames]
  | a :: l, b :: r => by
    simp only [Nd.sames, Bool.and_eq_true, List.cons.injEq, Nd.same_iff a b, Nd.sames_iff l r]
end

/-- The same statement? -/
def St.same (x y : St) : Bool :=
  x.kind == y.kind && (x.name == y.name && (Nd.same x.a y.a && (Nd.same x.b y.b && (x.rule == y.rule && (x.n == y.n && (x.d == y.d && (x.k == y.k && x.snap == y.snap)))))))

theorem St.same_iff (x y : St) : St.same x y = true ↔ x = y := by
  cases x; cases y
  simp only [St.same, Bool.and_eq_true, beq_iff_eq, Nd.same_iff, St.mk.injEq]

def Sts.same : List St → List St → Bool
  | [], [] => true
  | a :: l, b :: r => St.same a b && Sts.same l r
  | _, _ => false

theorem Sts.same_iff : ∀ (l r : List St), Sts.same l r = true ↔ l = r
  | [], [] => by simp [Sts.same]
  | [], _ :: _ => by simp [Sts.same]
  | _ :: _, [] => by simp [Sts.same]
  | a :: l, b :: r => by
    simp only [Sts.same, Bool.and_eq_true, List.cons.injEq, St.same_iff a b, Sts.same_iff l r]

/-- An operator's word, between blanks. -/
def joinW (k : Int) : List UInt8 :=
  if k = 4 then [32, 97, 110, 100, 32] else if k = 5 then [32, 111, 114, 32] else if k = 6 then [32, 110, 111, 116, 32] else if k = 7 then [32, 120, 111, 114, 32] else []
/-- How strongly it binds. -/
def joinS (k : Int) : Int := if k = 4 then 1 else 0

/-- An expression's text, where what binds at least so strongly may stand. -/
def textP : Nd → Int → List UInt8
  | .mk k s l, level =>
    if k = 1 then s else if k = 2 then w_empty else if k = 3 then [98, 111, 120, 101, 115, 32] ++ s
    else match l with
      | [a, b] => (if joinS k < level then [40] else []) ++ textP a (joinS k) ++ joinW k ++ textP b (joinS k + 1) ++ (if joinS k < level then [41] else [])
      | _ => []

def stWord (k : Int) : List UInt8 :=
  if k = 1 then [105, 110, 112, 117, 116, 32] else if k = 2 then [108, 101, 116, 32] else if k = 3 then [99, 104, 101, 99, 107, 32] else if k = 4 then [115, 109, 97, 108, 108, 32] else [119, 114, 105, 116, 101, 32]

def ruleW (k : Int) : List UInt8 :=
  if k = 1 then w_width else if k = 2 then w_space else if k = 3 then w_notch else if k = 4 then w_apart else if k = 5 then w_around else w_over

/-- A number's digits. -/
def numT (n : Int) : List UInt8 := Lib.itoa n

/-- A statement's text. -/
def lineP (x : St) : List UInt8 :=
  if x.kind < 1 ∨ 5 < x.kind then []
  else (stWord x.kind ++ x.name ++ [32, 61, 32]) ++
    (if x.kind = 1 then numT x.n ++ [47] ++ numT x.k ++ [59, 10]
     else if x.kind = 2 then textP x.a 0 ++ [59, 10]
     else if x.kind = 3 then
       if x.rule < 1 ∨ 6 < x.rule then []
       else (ruleW x.rule ++ [40]) ++ textP x.a 0 ++ (if 3 < x.rule then [44, 32] ++ textP x.b 0 else []) ++ ([44, 32] ++ numT x.n ++ [41]) ++ [59, 10]
     else if x.kind = 4 then textP x.a 0 ++ ([44, 32] ++ numT x.n) ++ (if x.d = 1 then [] else [47] ++ numT x.d) ++ [59, 10]
     else textP x.a 0 ++ ([44, 32] ++ numT x.n ++ [47] ++ numT x.k) ++ (if x.snap then [32, 115, 110, 97, 112] else []) ++ [59, 10])

/-- All statements' text, line by line; none, if it comes to more than so many bytes behind one of them. -/
def linesP : List St → List UInt8 → Option (List UInt8)
  | [], acc => some acc
  | x :: r, acc => if 131072 < (acc ++ lineP x).length then none else linesP r (acc ++ lineP x)

/-- Statements' text, if they are some deck's. -/
def printS (l : List St) : Option (List UInt8) :=
  match linesP l [] with
  | none => none
  | some t => match parseS t with
    | .error _ => none
    | .ok m => if Sts.same l m then some t else none
end Go.Proofs.YtgnjaneddidbbaaDoor
