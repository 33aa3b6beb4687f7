/-
  Plain Lean: a deck's statements over its tokens. No program in sight.
-/
import Derived.Test.YtgnjaneddidbbaaDoorDeckSpec
namespace Go.Proofs.YtgnjaneddidbbaaDoor

/-- Trees of nodes, whatever they are: a kind, a name, parts. -/
inductive Nd where
  | mk (kind : Int) (name : List UInt8) (kids : List Nd)

def Nd.zero : Nd := .mk 0 [] []

def Ex.nd : Ex → Nd
  | .name s => .mk 1 s []
  | .empty => .mk 2 [] []
  | .boxes s => .mk 3 s []
  | .bin k a b => .mk k [] [a.nd, b.nd]

/-- A statement. -/
structure St where
  kind : Int
  name : List UInt8
  a : Nd
  b : Nd
  rule : Int
  n : Int
  d : Int
  k : Int
  snap : Bool

def St.zero : St := ⟨0, [], .zero, .zero, 0, 0, 0, 0, false⟩

/-- An expression, as the program reads it. -/
def pExpr (deep : Nat) (r : List Tok) : PR Ex :=
  (pX (3 * r.length + 3) 0 deep .empty r).then fun n r1 => (pX (3 * r.length + 3) 1 deep n r1).then fun n r2 => pX (3 * r.length + 3) 2 deep n r2

/-- Two layers' numbers. -/
def pLayers (r : List Tok) : PR (Int × Int) :=
  (pNum 0 32767 r).then fun n r1 => (pMust [47] r1).then fun _ r2 => (pNum 0 32767 r2).then fun k r3 => .ok ((n, k), r3)

def pSemi (x : St) (r : List Tok) : PR St := (pMust [59] r).then fun _ r1 => .ok (x, r1)

/-- The rule's number that a word tells; 0: none. -/
def ruleNo (t : Tok) : Int :=
  if isT t w_width then 1 else if isT t w_space then 2 else if isT t w_notch then 3 else if isT t w_apart then 4 else if isT t w_around then 5 else if isT t w_over then 6 else 0

/-- The statement's kind that a word tells; 0: none. -/
def kindNo (t : Tok) : Int :=
  if isT t w_input then 1 else if isT t w_let then 2 else if isT t w_check then 3 else if isT t w_small then 4 else if isT t w_write then 5 else 0

def sInput (s : List UInt8) (r : List Tok) : PR St :=
  (pLayers r).then fun nk r1 => pSemi { St.zero with kind := 1, name := s, n := nk.1, k := nk.2 } r1
def sLet (s : List UInt8) (r : List Tok) : PR St :=
  (pExpr 0 r).then fun a r1 => pSemi { St.zero with kind := 2, name := s, a := a.nd } r1
def sCheck2 (x : St) (r : List Tok) : PR St :=
  (pNum 1 2147483647 r).then fun n r1 => (pMust [41] r1).then fun _ r2 => pSemi { x with n := n } r2
def sCheck1 (x : St) (r : List Tok) : PR St :=
  if 3 < x.rule then (pExpr 1 r).then fun b r1 => (pMust [44] r1).then fun _ r2 => sCheck2 { x with b := b.nd } r2
  else sCheck2 x r
def sCheck (s : List UInt8) (r : List Tok) : PR St :=
  match r with
  | [] => .error []
  | t :: r1 =>
    if ruleNo t = 0 then .error (t :: r1)
    else (pMust [40] r1).then fun _ r2 => (pExpr 1 r2).then fun a r3 => (pMust [44] r3).then fun _ r4 => sCheck1 { St.zero with kind := 3, name := s, rule := ruleNo t, a := a.nd } r4
def sSmall1 (x : St) (r : List Tok) : PR St :=
  match r with
  | [] => .error []
  | t :: r1 => if isT t [47] then (pNum 1 2147483647 r1).then fun d r2 => pSemi { x with d := d } r2 else pSemi x (t :: r1)
def sSmall (s : List UInt8) (r : List Tok) : PR St :=
  (pExpr 0 r).then fun a r1 => (pMust [44] r1).then fun _ r2 => (pNum 0 2147483647 r2).then fun n r3 => sSmall1 { St.zero with kind := 4, name := s, a := a.nd, n := n, d := 1 } r3
def sWrite1 (x : St) (r : List Tok) : PR St :=
  match r with
  | [] => .error []
  | t :: r1 => if isT t w_snap then pSemi { x with snap := true } r1 else pSemi x (t :: r1)
def sWrite (s : List UInt8) (r : List Tok) : PR St :=
  (pExpr 0 r).then fun a r1 => (pMust [44] r1).then fun _ r2 => (pLayers r2).then fun nk r3 => sWrite1 { St.zero with kind := 5, name := s, a := a.nd, n := nk.1, k := nk.2 } r3

/-- What follows a statement's word. -/
def sBody (kind : Int) (s : List UInt8) (r : List Tok) : PR St :=
  if kind = 1 then sInput s r else if kind = 2 then sLet s r else if kind = 3 then sCheck s r else if kind = 4 then sSmall s r else sWrite s r

def pStmt (r : List Tok) : PR St :=
  match r with
  | [] => .error []
  | t :: r1 => if kindNo t = 0 then .error (t :: r1) else (pName r1).then fun s r2 => (pMust [61] r2).then fun _ r3 => sBody (kindNo t) s r3

def pDeckF : Nat → List Tok → List St → Except (List Tok) (List St)
  | 0, _, acc => .ok acc
  | _ + 1, [], acc => .ok acc
  | f + 1, t :: r, acc =>
    if acc.length = 1000 then .error (t :: r)
    else match pStmt (t :: r) with
      | .error r1 => .error r1
      | .ok (x, r1) => pDeckF f r1 (acc ++ [x])

def pDeck (r : List Tok) : Except (List Tok) (List St) := pDeckF (r.length + 1) r []

/-- The place of the first of some tokens; fin: there is none. -/
def posOf (r : List Tok) (fin : Int) : Int := match r with | [] => fin | t :: _ => t.pos

/-- A deck's statements, or the place where it is none. -/
def parseS (s : List UInt8) : Except Int (List St) :=
  match lexS s with
  | .error k => .error k
  | .ok ts => match pDeck ts with
    | .error r => .error (posOf r s.length)
    | .ok l => .ok l

/-! ### Readings leave a rest of what there was -/
theorem pName_rest {r : List Tok} {s : List UInt8} {r1 : List Tok} (h : pName r = .ok (s, r1)) : ∃ t, r = t :: r1 ∧ t.text = s ∧ t.kind = 1 ∧ takenL.contains t.text = false := by
  cases r with
  | nil => cases h
  | cons t r =>
    by_cases hc : (t.kind == 1 && !takenL.contains t.text) = true
    · rw [pName, if_pos hc] at h; cases h
      simp only [Bool.and_eq_true, beq_iff_eq, Bool.not_eq_true'] at hc
      exact ⟨t, rfl, rfl, hc.1, hc.2⟩
    · rw [pName, if_neg hc] at h; cases h
end Go.Proofs.YtgnjaneddidbbaaDoor
