/-
  deck.text, whatever the tree.
-/
import Derived.Test.YtgnjaneddidbbaaDoorPrintB
namespace Go.Proofs.YtgnjaneddidbbaaDoor
open Go Go.RowKit

theorem textP_eq (k : Int) (s : List UInt8) (l : List Nd) (level : Int) : textP (.mk k s l) level =
    if k = 1 then s else if k = 2 then w_empty else if k = 3 then [98, 111, 120, 101, 115, 32] ++ s
    else match l with
      | [a, b] => (if joinS k < level then [40] else []) ++ textP a (joinS k) ++ joinW k ++ textP b (joinS k + 1) ++ (if joinS k < level then [41] else [])
      | _ => [] := by
  match l with
  | [] => simp [textP]
  | [_] => simp [textP]
  | [x, y] => rw [textP]
  | _ :: _ :: _ :: _ => simp [textP]
theorem textP_join {k : Int} {s : List UInt8} {l : List Nd} {level : Int} (h1 : k ≠ 1) (h2 : k ≠ 2) (h3 : k ≠ 3) : textP (.mk k s l) level =
    match l with
    | [a, b] => (if joinS k < level then [40] else []) ++ textP a (joinS k) ++ joinW k ++ textP b (joinS k + 1) ++ (if joinS k < level then [41] else [])
    | _ => [] := by
  rw [textP_eq, if_neg h1, if_neg h2, if_neg h3]
theorem len_ne {l : List Nd} (h : ∀ x y, l ≠ [x, y]) : (((l.length : Nat) : Int) == 2) = false := by
  rw [beq_eq_false_iff_ne]
  intro e
  match l, h with
  | [], _ => simp at e
  | [_], _ => simp at e
  | [x, y], h => exact h x y rfl
  | _ :: _ :: _ :: _, _ => simp at e; omega
theorem two_or (l : List Nd) : (∃ x y, l = [x, y]) ∨ ∀ x y, l ≠ [x, y] := by
  match l with
  | [] => exact .inr (by simp)
  | [_] => exact .inr (by simp)
  | [x, y] => exact .inl ⟨x, y, rfl⟩
  | _ :: _ :: _ :: _ => exact .inr (by simp)
theorem textP_bad {k : Int} {s : List UInt8} {l : List Nd} {level : Int} (h1 : k ≠ 1) (h2 : k ≠ 2) (h3 : k ≠ 3) (h : ∀ x y, l ≠ [x, y]) : textP (.mk k s l) level = [] := by
  rw [textP_join h1 h2 h3]
  match l, h with
  | [], _ => rfl
  | [_], _ => rfl
  | [x, y], h => exact absurd rfl (h x y)
  | _ :: _ :: _ :: _, _ => rfl

theorem text_step (k : Int) (s : List UInt8) (l : List Nd) (ih : ∀ x ∈ l, TextC x) : TextC (.mk k s l) := by
  intro level b acc v w hw hn h0 h2 hlen
  have hn2 := hn
  unfold NdIs at hn2
  obtain ⟨a, c, rfl, _, _⟩ := hn2
  have hsz : (bs s).size = s.length := bs_size s
  by_cases e1 : k = 1
  · subst e1
    have e : textP (.mk 1 s l) level = s := by rw [textP_eq, if_pos rfl]
    rw [e] at hlen ⊢
    exact text_name b acc s _ (bs s) a _ c level w rfl hw hn (by rw [hsz]; exact hlen)
  by_cases e2 : k = 2
  · subst e2
    have e : textP (.mk 2 s l) level = w_empty := by rw [textP_eq, if_neg (by decide), if_pos rfl]
    rw [e] at hlen ⊢
    exact text_empty b acc _ (bs s) a _ c level w hw hn hlen
  by_cases e3 : k = 3
  · subst e3
    have e : textP (.mk 3 s l) level = [98, 111, 120, 101, 115, 32] ++ s := by rw [textP_eq, if_neg (by decide), if_neg (by decide), if_pos rfl]
    rw [e] at hlen ⊢
    exact text_boxes b acc _ _ (bs s) a _ c level w rfl hw hn (by rw [hsz]; simp only [List.length_append] at hlen; exact hlen)
  have n1 : (k == 1) = false := by simpa using e1
  have n2 : (k == 2) = false := by simpa using e2
  have n3 : (k == 3) = false := by simpa using e3
  by_cases e4 : k = 4
  · subst e4
    have hj : joinS 4 = 1 := rfl
    have hjw : joinW 4 = [32, 97, 110, 100, 32] := rfl
    rcases two_or l with ⟨x, y, rfl⟩ | hl
    · have hx := ih x (by simp)
      have hy := ih y (by simp)
      have e := textP_join (k := 4) (s := s) (l := [x, y]) (level := level) (by decide) (by decide) (by decide)
      simp only [hj, hjw] at e
      cases hlev : decide ((1 : Int) < level)
      · have hlev2 : ¬ (1 : Int) < level := by simpa using hlev
        rw [if_neg hlev2, if_neg hlev2, List.nil_append, List.append_nil] at e
        rw [e] at hlen ⊢
        exact text_and_two b acc _ 4 s x y (bs s) a _ c level w hw hn hx hy hlev rfl hlen
      · have hlev2 : (1 : Int) < level := by simpa using hlev
        rw [if_pos hlev2, if_pos hlev2] at e
        rw [e] at hlen ⊢
        exact text_and_par b acc _ 4 s x y (bs s) a _ c level w hw hn hx hy hlev rfl hlen
    · rw [textP_bad (by decide) (by decide) (by decide) hl, List.append_nil]
      exact text_and_bad b acc _ (bs s) a _ c level w hw hn (len_ne hl)
  have n4 : (k == 4) = false := by simpa using e4
  by_cases e5 : k = 5
  · subst e5
    have hj : joinS 5 = 0 := rfl
    have hjw : joinW 5 = [32, 111, 114, 32] := rfl
    rcases two_or l with ⟨x, y, rfl⟩ | hl
    · have hx := ih x (by simp)
      have hy := ih y (by simp)
      have e := textP_join (k := 5) (s := s) (l := [x, y]) (level := level) (by decide) (by decide) (by decide)
      simp only [hj, hjw] at e
      cases hlev : decide ((0 : Int) < level)
      · have hlev2 : ¬ (0 : Int) < level := by simpa using hlev
        rw [if_neg hlev2, if_neg hlev2, List.nil_append, List.append_nil] at e
        rw [e] at hlen ⊢
        exact text_or_two b acc _ 5 s x y (bs s) a _ c level w hw hn hx hy hlev rfl hlen
      · have hlev2 : (0 : Int) < level := by simpa using hlev
        rw [if_pos hlev2, if_pos hlev2] at e
        rw [e] at hlen ⊢
        exact text_or_par b acc _ 5 s x y (bs s) a _ c level w hw hn hx hy hlev rfl hlen
    · rw [textP_bad (by decide) (by decide) (by decide) hl, List.append_nil]
      exact text_or_bad b acc _ (bs s) a _ c level w hw hn (len_ne hl)
  have n5 : (k == 5) = false := by simpa using e5
  by_cases e6 : k = 6
  · subst e6
    have hj : joinS 6 = 0 := rfl
    have hjw : joinW 6 = [32, 110, 111, 116, 32] := rfl
    rcases two_or l with ⟨x, y, rfl⟩ | hl
    · have hx := ih x (by simp)
      have hy := ih y (by simp)
      have e := textP_join (k := 6) (s := s) (l := [x, y]) (level := level) (by decide) (by decide) (by decide)
      simp only [hj, hjw] at e
      cases hlev : decide ((0 : Int) < level)
      · have hlev2 : ¬ (0 : Int) < level := by simpa using hlev
        rw [if_neg hlev2, if_neg hlev2, List.nil_append, List.append_nil] at e
        rw [e] at hlen ⊢
        exact text_not_two b acc _ 6 s x y (bs s) a _ c level w hw hn hx hy hlev rfl hlen
      · have hlev2 : (0 : Int) < level := by simpa using hlev
        rw [if_pos hlev2, if_pos hlev2] at e
        rw [e] at hlen ⊢
        exact text_not_par b acc _ 6 s x y (bs s) a _ c level w hw hn hx hy hlev rfl hlen
    · rw [textP_bad (by decide) (by decide) (by decide) hl, List.append_nil]
      exact text_not_bad b acc _ (bs s) a _ c level w hw hn (len_ne hl)
  have n6 : (k == 6) = false := by simpa using e6
  by_cases e7 : k = 7
  · subst e7
    have hj : joinS 7 = 0 := rfl
    have hjw : joinW 7 = [32, 120, 111, 114, 32] := rfl
    rcases two_or l with ⟨x, y, rfl⟩ | hl
    · have hx := ih x (by simp)
      have hy := ih y (by simp)
      have e := textP_join (k := 7) (s := s) (l := [x, y]) (level := level) (by decide) (by decide) (by decide)
      simp only [hj, hjw] at e
      cases hlev : decide ((0 : Int) < level)
      · have hlev2 : ¬ (0 : Int) < level := by simpa using hlev
        rw [if_neg hlev2, if_neg hlev2, List.nil_append, List.append_nil] at e
        rw [e] at hlen ⊢
        exact text_xor_two b acc _ 7 s x y (bs s) a _ c level w hw hn hx hy hlev rfl hlen
      · have hlev2 : (0 : Int) < level := by simpa using hlev
        rw [if_pos hlev2, if_pos hlev2] at e
        rw [e] at hlen ⊢
        exact text_xor_par b acc _ 7 s x y (bs s) a _ c level w hw hn hx hy hlev rfl hlen
    · rw [textP_bad (by decide) (by decide) (by decide) hl, List.append_nil]
      exact text_xor_bad b acc _ (bs s) a _ c level w hw hn (len_ne hl)
  have n7 : (k == 7) = false := by simpa using e7
  have hj : joinS k = 0 := (by rw [joinS, if_neg e4])
  have hjw : joinW k = [] := (by rw [joinW, if_neg e4, if_neg e5, if_neg e6, if_neg e7])
  rcases two_or l with ⟨x, y, rfl⟩ | hl
  · have hx := ih x (by simp)
    have hy := ih y (by simp)
    have e := textP_join (k := k) (s := s) (l := [x, y]) (level := level) e1 e2 e3
    simp only [hj, hjw] at e
    cases hlev : decide ((0 : Int) < level)
    · have hlev2 : ¬ (0 : Int) < level := by simpa using hlev
      rw [if_neg hlev2, if_neg hlev2, List.nil_append, List.append_nil] at e
      rw [e] at hlen ⊢
      exact text_other_two b acc _ k s x y (bs s) a _ c level k n1 n2 n3 n4 n5 n6 n7 w hw hn hx hy hlev rfl hlen
    · have hlev2 : (0 : Int) < level := by simpa using hlev
      rw [if_pos hlev2, if_pos hlev2] at e
      rw [e] at hlen ⊢
      exact text_other_par b acc _ k s x y (bs s) a _ c level k n1 n2 n3 n4 n5 n6 n7 w hw hn hx hy hlev rfl hlen
  · rw [textP_bad e1 e2 e3 hl, List.append_nil]
    exact text_other_bad b acc _ (bs s) a _ c level k n1 n2 n3 n4 n5 n6 n7 w hw hn (len_ne hl)

theorem text_all (f : Nat) : ∀ n : Nd, SizeOf.sizeOf n ≤ f → TextC n := by
  induction f with
  | zero => intro n h; cases n; simp at h
  | succ f ih =>
    intro n h
    cases n with
    | mk k s l =>
      refine text_step k s l fun x hx => ih x ?_
      have := List.sizeOf_lt_of_mem hx
      simp at h
      omega
theorem text_any (n : Nd) : TextC n := text_all _ n (Nat.le_refl _)
end Go.Proofs.YtgnjaneddidbbaaDoor
