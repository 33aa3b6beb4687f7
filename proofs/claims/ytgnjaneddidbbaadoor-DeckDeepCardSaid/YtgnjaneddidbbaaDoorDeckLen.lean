/-
  Plain Lean: a statement's reading takes tokens; the deck's reading does not hang on its fuel.
-/
import Derived.Test.YtgnjaneddidbbaaDoorDeckGr
namespace Go.Proofs.YtgnjaneddidbbaaDoor

/-- A reading leaves no more than there was. -/
def Less {α : Type} (p : PR α) (r : List Tok) : Prop := ∀ a r1, p = .ok (a, r1) → r1.length ≤ r.length

theorem less_then {α β : Type} {x : PR α} {f : α → List Tok → PR β} {r : List Tok} (h : Less x r) (hf : ∀ a r1, Less (f a r1) r1) : Less (x.then f) r := by
  intro b r2 h2
  obtain ⟨a, r1, h3, h4⟩ := then_ok_of h2
  exact Nat.le_trans (hf a r1 b r2 h4) (h a r1 h3)
theorem less_ok {α : Type} (a : α) (r : List Tok) : Less (.ok (a, r) : PR α) r := by
  intro b r1 h; cases h; exact Nat.le_refl _
theorem less_err {α : Type} (r r' : List Tok) : Less (.error r' : PR α) r := by
  intro b r1 h; cases h
theorem less_name (r : List Tok) : Less (pName r) r := fun _ _ h => Nat.le_of_lt (pName_len h)
theorem less_must (s : List UInt8) (r : List Tok) : Less (pMust s r) r := fun _ _ h => Nat.le_of_lt (pMust_len h)
theorem less_num (lo hi : Int) (r : List Tok) : Less (pNum lo hi r) r := by
  intro a r1 h
  cases r with
  | nil => cases h
  | cons t r =>
    by_cases hc : (t.kind == 2 && decide (lo ≤ t.num) && decide (t.num ≤ hi)) = true
    · rw [pNum, if_pos hc] at h; cases h; simp
    · rw [pNum, if_neg hc] at h; cases h
theorem less_expr (d : Nat) (r : List Tok) : Less (pExpr d r) r := by
  rw [pExpr_eq]
  exact fun _ _ h => Nat.le_of_lt (pEx_len h)
theorem less_semi (x : St) (r : List Tok) : Less (pSemi x r) r := less_then (less_must _ _) fun _ _ => less_ok _ _
theorem less_layers (r : List Tok) : Less (pLayers r) r := less_then (less_num _ _ _) fun _ _ => less_then (less_must _ _) fun _ _ => less_then (less_num _ _ _) fun _ _ => less_ok _ _
theorem less_cons {α : Type} {p : PR α} {t : Tok} {r : List Tok} (h : Less p r) : Less p (t :: r) := fun a r1 e => Nat.le_trans (h a r1 e) (by simp)
theorem less_check2 (x : St) (r : List Tok) : Less (sCheck2 x r) r := less_then (less_num _ _ _) fun _ _ => less_then (less_must _ _) fun _ _ => less_semi _ _
theorem less_check1 (x : St) (r : List Tok) : Less (sCheck1 x r) r := by
  unfold sCheck1
  split
  · exact less_then (less_expr _ _) fun _ _ => less_then (less_must _ _) fun _ _ => less_check2 _ _
  · exact less_check2 _ _
theorem less_small1 (x : St) (r : List Tok) : Less (sSmall1 x r) r := by
  unfold sSmall1
  split
  · exact less_err _ _
  · split
    · exact less_cons (less_then (less_num _ _ _) fun _ _ => less_semi _ _)
    · exact less_semi _ _
theorem less_write1 (x : St) (r : List Tok) : Less (sWrite1 x r) r := by
  unfold sWrite1
  split
  · exact less_err _ _
  · split
    · exact less_cons (less_semi _ _)
    · exact less_semi _ _
theorem less_body (k : Int) (s : List UInt8) (r : List Tok) : Less (sBody k s r) r := by
  unfold sBody
  split
  · exact less_then (less_layers _) fun _ _ => less_semi _ _
  · split
    · exact less_then (less_expr _ _) fun _ _ => less_semi _ _
    · split
      · unfold sCheck
        split
        · exact less_err _ _
        · split
          · exact less_err _ _
          · exact less_cons (less_then (less_must _ _) fun _ _ => less_then (less_expr _ _) fun _ _ => less_then (less_must _ _) fun _ _ => less_check1 _ _)
      · split
        · exact less_then (less_expr _ _) fun _ _ => less_then (less_must _ _) fun _ _ => less_then (less_num _ _ _) fun _ _ => less_small1 _ _
        · exact less_then (less_expr _ _) fun _ _ => less_then (less_must _ _) fun _ _ => less_then (less_layers _) fun _ _ => less_write1 _ _

theorem pStmt_len {r : List Tok} {x : St} {r1 : List Tok} (h : pStmt r = .ok (x, r1)) : r1.length < r.length := by
  cases r with
  | nil => cases h
  | cons t r =>
    by_cases hk : kindNo t = 0
    · rw [pStmt, if_pos hk] at h; cases h
    · rw [pStmt, if_neg hk] at h
      have := (less_then (less_name r) fun _ _ => less_then (less_must _ _) fun _ _ => less_body _ _ _) x r1 h
      simp only [List.length_cons]
      omega

theorem pDeckF_fuel (f : Nat) : ∀ (g : Nat) (r : List Tok) (acc : List St), r.length < f → r.length < g → pDeckF f r acc = pDeckF g r acc := by
  induction f with
  | zero => intro g r acc h; omega
  | succ f ih =>
    intro g r acc hf hg
    cases g with
    | zero => omega
    | succ g =>
      cases r with
      | nil => rfl
      | cons t r =>
        rw [pDeckF, pDeckF]
        by_cases h1000 : acc.length = 1000
        · rw [if_pos h1000, if_pos h1000]
        · rw [if_neg h1000, if_neg h1000]
          cases hp : pStmt (t :: r) with
          | error r1 => rfl
          | ok p =>
            obtain ⟨x, r1⟩ := p
            have := pStmt_len hp
            exact ih g r1 _ (by omega) (by omega)
end Go.Proofs.YtgnjaneddidbbaaDoor
