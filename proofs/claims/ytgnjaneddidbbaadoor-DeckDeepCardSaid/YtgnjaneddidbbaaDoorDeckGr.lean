/-
  Plain Lean: the grammar's equations, without fuel.
-/
import Derived.Test.YtgnjaneddidbbaaDoorDeckStmt
namespace Go.Proofs.YtgnjaneddidbbaaDoor

def pOne (d : Nat) (r : List Tok) : PR Ex := pX (3 * r.length + 1) 0 d .empty r
def pAnd (d : Nat) (n : Ex) (r : List Tok) : PR Ex := pX (3 * r.length + 2) 1 d n r
def pLow (d : Nat) (n : Ex) (r : List Tok) : PR Ex := pX (3 * r.length + 3) 2 d n r
def pBoth (d : Nat) (r : List Tok) : PR Ex := (pOne d r).then fun n r1 => pAnd d n r1
def pEx (d : Nat) (r : List Tok) : PR Ex := (pBoth d r).then fun n r1 => pLow d n r1

theorem pOne_len {d : Nat} {r : List Tok} {n : Ex} {r1 : List Tok} (h : pOne d r = .ok (n, r1)) : r1.length < r.length := (pX_len _ _ _ _ _ _ _ h).2 rfl
theorem pAnd_len {d : Nat} {m : Ex} {r : List Tok} {n : Ex} {r1 : List Tok} (h : pAnd d m r = .ok (n, r1)) : r1.length ≤ r.length := (pX_len _ _ _ _ _ _ _ h).1
theorem pLow_len {d : Nat} {m : Ex} {r : List Tok} {n : Ex} {r1 : List Tok} (h : pLow d m r = .ok (n, r1)) : r1.length ≤ r.length := (pX_len _ _ _ _ _ _ _ h).1
theorem pBoth_len {d : Nat} {r : List Tok} {n : Ex} {r1 : List Tok} (h : pBoth d r = .ok (n, r1)) : r1.length < r.length := by
  obtain ⟨a, r2, h1, h2⟩ := then_ok_of h
  have := pOne_len h1
  have := pAnd_len h2
  omega
theorem pEx_len {d : Nat} {r : List Tok} {n : Ex} {r1 : List Tok} (h : pEx d r = .ok (n, r1)) : r1.length < r.length := by
  obtain ⟨a, r2, h1, h2⟩ := then_ok_of h
  have := pBoth_len h1
  have := pLow_len h2
  omega

theorem pX0_eq (f d : Nat) (r : List Tok) (h : 3 * r.length < f) : pX f 0 d .empty r = pOne d r := pX_fuel f _ 0 d .empty r (by omega) (by omega) (by omega)
theorem pX1_eq (f d : Nat) (n : Ex) (r : List Tok) (h : 3 * r.length + 1 < f) : pX f 1 d n r = pAnd d n r := pX_fuel f _ 1 d n r (by omega) (by omega) (by omega)
theorem pX2_eq (f d : Nat) (n : Ex) (r : List Tok) (h : 3 * r.length + 2 < f) : pX f 2 d n r = pLow d n r := pX_fuel f _ 2 d n r (by omega) (by omega) (by omega)

theorem pOne_nil (d : Nat) : pOne d [] = .error [] := rfl
theorem pAnd_nil (d : Nat) (n : Ex) : pAnd d n [] = .ok (n, []) := rfl
theorem pLow_nil (d : Nat) (n : Ex) : pLow d n [] = .ok (n, []) := rfl

theorem pOne_cons (d : Nat) (t : Tok) (r : List Tok) : pOne d (t :: r) =
    if isT t w_empty then .ok (.empty, r)
    else if isT t w_boxes then (pName r).then fun s r1 => .ok (.boxes s, r1)
    else if isT t [40] then
      if 64 ≤ d then .error (t :: r)
      else (pEx (d + 1) r).then fun n r1 => (pMust [41] r1).then fun _ r2 => .ok (n, r2)
    else (pName (t :: r)).then fun s r1 => .ok (.name s, r1) := by
  have e : pOne d (t :: r) = pX ((3 * r.length + 3) + 1) 0 d .empty (t :: r) := by rw [pOne, List.length_cons]; congr 1
  rw [e, pX_one]
  split
  · rfl
  · split
    · rfl
    · split
      · split
        · rfl
        · rw [pEx, pBoth, PR.then_then, PR.then_then]
          refine then_congr (pX0_eq _ _ _ (by omega)) fun a r1 h1 => ?_
          rw [pX0_eq _ _ _ (by omega)] at h1
          have l1 := pOne_len h1
          refine then_congr (pX1_eq _ _ _ _ (by omega)) fun b r2 h2 => ?_
          rw [pX1_eq _ _ _ _ (by omega)] at h2
          have l2 := pAnd_len h2
          exact then_congr (pX2_eq _ _ _ _ (by omega)) fun _ _ _ => rfl
      · rfl

theorem pAnd_cons (d : Nat) (n : Ex) (t : Tok) (r : List Tok) : pAnd d n (t :: r) =
    if isT t w_and then (pOne d r).then fun m r1 => pAnd d (.bin 4 n m) r1 else .ok (n, t :: r) := by
  have e : pAnd d n (t :: r) = pX ((3 * r.length + 4) + 1) 1 d n (t :: r) := by rw [pAnd, List.length_cons]; congr 1
  rw [e, pX_and]
  split
  · refine then_congr (pX0_eq _ _ _ (by omega)) fun a r1 h1 => ?_
    rw [pX0_eq _ _ _ (by omega)] at h1
    have l1 := pOne_len h1
    exact pX1_eq _ _ _ _ (by omega)
  · rfl

theorem pLow_cons (d : Nat) (n : Ex) (t : Tok) (r : List Tok) : pLow d n (t :: r) =
    if lowKind t ≠ 0 then (pBoth d r).then fun m r1 => pLow d (.bin (lowKind t) n m) r1 else .ok (n, t :: r) := by
  have e : pLow d n (t :: r) = pX ((3 * r.length + 5) + 1) 2 d n (t :: r) := by rw [pLow, List.length_cons]; congr 1
  rw [e, pX_low]
  split
  · rw [pBoth, PR.then_then]
    refine then_congr (pX0_eq _ _ _ (by omega)) fun a r1 h1 => ?_
    rw [pX0_eq _ _ _ (by omega)] at h1
    have l1 := pOne_len h1
    refine then_congr (pX1_eq _ _ _ _ (by omega)) fun b r2 h2 => ?_
    rw [pX1_eq _ _ _ _ (by omega)] at h2
    have l2 := pAnd_len h2
    exact pX2_eq _ _ _ _ (by omega)
  · rfl

theorem pExpr_eq (d : Nat) (r : List Tok) : pExpr d r = pEx d r := by
  rw [pExpr, pEx, pBoth, PR.then_then]
  refine then_congr (pX0_eq _ _ _ (by omega)) fun a r1 h1 => ?_
  rw [pX0_eq _ _ _ (by omega)] at h1
  have l1 := pOne_len h1
  refine then_congr (pX1_eq _ _ _ _ (by omega)) fun b r2 h2 => ?_
  rw [pX1_eq _ _ _ _ (by omega)] at h2
  have l2 := pAnd_len h2
  exact pX2_eq _ _ _ _ (by omega)
end Go.Proofs.YtgnjaneddidbbaaDoor
