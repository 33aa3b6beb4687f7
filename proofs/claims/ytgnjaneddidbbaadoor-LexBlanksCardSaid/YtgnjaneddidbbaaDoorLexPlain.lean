/-
  Plain Lean: how a deck's tokens go on when the deck does. No program in sight.
-/
import Derived.Test.YtgnjaneddidbbaaDoorLexSpec
namespace Go.Proofs.YtgnjaneddidbbaaDoor

/-- A run within a longer row: either it ends within the first part, or it takes all of it. -/
theorem takeWhile_app {α : Type} (p : α → Bool) (l m : List α) :
    ((l ++ m).takeWhile p = l.takeWhile p ∧ (l.takeWhile p).length < l.length) ∨ ((l ++ m).takeWhile p = l ++ m.takeWhile p ∧ l.takeWhile p = l) := by
  induction l with
  | nil => exact .inr ⟨rfl, rfl⟩
  | cons x l ih =>
    cases h : p x
    · left; simp [h]
    · rcases ih with ⟨h1, h2⟩ | ⟨h1, h2⟩
      · left
        simp only [List.cons_append, List.takeWhile_cons, h, if_true, h1, List.length_cons, true_and]
        omega
      · right
        simp [h, h1, h2]

theorem drop_app {α : Type} (l m : List α) (n : Nat) (h : n ≤ l.length) : (l ++ m).drop n = l.drop n ++ m := by
  rw [List.drop_append, show n - l.length = 0 by omega, List.drop_zero]

theorem decVal_app (a : Nat) (l r : List UInt8) : decVal a (l ++ r) = decVal (decVal a l) r := by
  rw [decVal, decVal, decVal, List.foldl_append]

/-- What lexF comes to does not hang on the fuel, if that is enough. -/
theorem lexF_fuel (f : Nat) : ∀ (g : Nat) (r : List UInt8) (k : Nat) (acc : List Tok), r.length < f → r.length < g → lexF f r k acc = lexF g r k acc := by
  induction f with
  | zero => intro g r k acc h; omega
  | succ f ih =>
    intro g r k acc hf hg
    cases g with
    | zero => omega
    | succ g =>
      cases r with
      | nil => rw [lexF_nil, lexF_nil]
      | cons c r =>
        simp only [List.length_cons] at hf hg
        have hd : ∀ n, 1 ≤ n → ((c :: r).drop n).length < f ∧ ((c :: r).drop n).length < g := by
          intro n hn
          simp only [List.length_drop, List.length_cons]
          omega
        by_cases h1 : blankB c.toNat = true
        · rw [lexF_blank h1, lexF_blank h1]; exact ih g r _ _ (by omega) (by omega)
        · by_cases h2 : c.toNat = 35
          · have := hd _ (remark_pos (r := r) h2)
            rw [lexF_remark h2, lexF_remark h2]; exact ih g _ _ _ this.1 this.2
          · by_cases h3 : smallB c.toNat = true
            · have := hd _ (wordRun_pos (r := r) h3)
              rw [lexF_word h3, lexF_word h3]
              split
              · rfl
              · exact ih g _ _ _ this.1 this.2
            · by_cases h4 : digitB c.toNat = true
              · have := hd _ (digitRun_pos (r := r) h4)
                rw [lexF_num h4, lexF_num h4]
                split
                · rfl
                · exact ih g _ _ _ this.1 this.2
              · by_cases h5 : signB c.toNat = true
                · rw [lexF_sign h5, lexF_sign h5]; exact ih g r _ _ (by omega) (by omega)
                · simp only [Bool.not_eq_true] at h1 h3 h4 h5
                  rw [lexF_bad h1 h2 h3 h4 h5, lexF_bad h1 h2 h3 h4 h5]

/-- A deck that is none is none however it goes on. -/
theorem lexF_more (m : List UInt8) (f : Nat) : ∀ (g : Nat) (r : List UInt8) (k n : Nat) (acc : List Tok), r.length < f → (r ++ m).length < g → lexF f r k acc = .error n → lexF g (r ++ m) k acc = .error n := by
  induction f with
  | zero => intro g r k n acc h; omega
  | succ f ih =>
    intro g r k n acc hf hg he
    cases g with
    | zero => omega
    | succ g =>
      cases r with
      | nil => rw [lexF_nil] at he; cases he
      | cons c r =>
        have hg' : (r ++ m).length < g := by simp only [List.cons_append, List.length_cons] at hg; omega
        have hf' : r.length < f := by simp only [List.length_cons] at hf; omega
        have hd : ∀ j, 1 ≤ j → ((c :: r).drop j).length < f ∧ ((c :: r).drop j ++ m).length < g := by
          intro j hj
          simp only [List.length_append, List.length_drop, List.length_cons] at hg' ⊢
          omega
        by_cases h1 : blankB c.toNat = true
        · rw [lexF_blank h1] at he
          rw [List.cons_append, lexF_blank h1]
          exact ih g r _ _ _ hf' hg' he
        · by_cases h2 : c.toNat = 35
          · have h6 := hd _ (remark_pos (r := r) h2)
            rw [lexF_remark h2] at he
            rw [List.cons_append, lexF_remark h2]
            rcases takeWhile_app (fun b : UInt8 => b != 10) (c :: r) m with ⟨h7, h8⟩ | ⟨h7, h8⟩
            · have h9 : remark (c :: (r ++ m)) = remark (c :: r) := h7
              have h12 : (c :: (r ++ m)).drop (remark (c :: r)).length = (c :: r).drop (remark (c :: r)).length ++ m := drop_app (c :: r) m _ (Nat.le_of_lt h8)
              rw [h9, h12]
              exact ih g _ _ _ _ h6.1 h6.2 he
            · have h9 : remark (c :: r) = c :: r := h8
              rw [h9, List.drop_length, lexF_nil] at he
              cases he
          · by_cases h3 : smallB c.toNat = true
            · have h6 := hd _ (wordRun_pos (r := r) h3)
              rw [lexF_word h3] at he
              rw [List.cons_append, lexF_word h3]
              rcases takeWhile_app (fun b : UInt8 => wordB b.toNat) (c :: r) m with ⟨h7, h8⟩ | ⟨h7, h8⟩
              · have h9 : wordRun (c :: (r ++ m)) = wordRun (c :: r) := h7
                rw [h9]
                split
                · rename_i h10; rw [if_pos h10] at he; exact he
                · rename_i h10
                  rw [if_neg h10] at he
                  rw [show (c :: (r ++ m)).drop (wordRun (c :: r)).length = (c :: r).drop (wordRun (c :: r)).length ++ m from drop_app (c :: r) m _ (Nat.le_of_lt h8)]
                  exact ih g _ _ _ _ h6.1 h6.2 he
              · have h9 : wordRun (c :: r) = c :: r := h8
                have h10 : wordRun (c :: (r ++ m)) = c :: r ++ m.takeWhile (fun b : UInt8 => wordB b.toNat) := h7
                by_cases h11 : 32 < (wordRun (c :: r)).length
                · rw [if_pos h11] at he
                  rw [if_pos (by rw [h10, List.length_append]; rw [h9] at h11; omega)]
                  exact he
                · rw [if_neg h11, h9, List.drop_length, lexF_nil] at he
                  cases he
            · by_cases h4 : digitB c.toNat = true
              · have h6 := hd _ (digitRun_pos (r := r) h4)
                rw [lexF_num h4] at he
                rw [List.cons_append, lexF_num h4]
                rcases takeWhile_app (fun b : UInt8 => digitB b.toNat) (c :: r) m with ⟨h7, h8⟩ | ⟨h7, h8⟩
                · have h9 : digitRun (c :: (r ++ m)) = digitRun (c :: r) := h7
                  rw [h9]
                  split
                  · rename_i h10; rw [if_pos h10] at he; exact he
                  · rename_i h10
                    rw [if_neg h10] at he
                    rw [show (c :: (r ++ m)).drop (digitRun (c :: r)).length = (c :: r).drop (digitRun (c :: r)).length ++ m from drop_app (c :: r) m _ (Nat.le_of_lt h8)]
                    exact ih g _ _ _ _ h6.1 h6.2 he
                · have h9 : digitRun (c :: r) = c :: r := h8
                  have h10 : digitRun (c :: (r ++ m)) = c :: r ++ m.takeWhile (fun b : UInt8 => digitB b.toNat) := h7
                  by_cases h11 : 2147483647 < decVal 0 (digitRun (c :: r)) ∨ (1 < (digitRun (c :: r)).length ∧ c.toNat = 48)
                  · rw [if_pos h11] at he
                    rw [if_pos]
                    · exact he
                    · rw [h10]
                      rw [h9] at h11
                      rcases h11 with h12 | ⟨h12, h13⟩
                      · left
                        have := decVal_ge (m.takeWhile (fun b : UInt8 => digitB b.toNat)) (decVal 0 (c :: r))
                        rw [← decVal_app] at this
                        omega
                      · right
                        exact ⟨by rw [List.length_append]; omega, h13⟩
                  · rw [if_neg h11, h9, List.drop_length, lexF_nil] at he
                    cases he
              · by_cases h5 : signB c.toNat = true
                · rw [lexF_sign h5] at he
                  rw [List.cons_append, lexF_sign h5]
                  exact ih g r _ _ _ hf' hg' he
                · simp only [Bool.not_eq_true] at h1 h3 h4 h5
                  rw [lexF_bad h1 h2 h3 h4 h5] at he
                  rw [List.cons_append, lexF_bad h1 h2 h3 h4 h5]
                  exact he

/-- A deck that is one goes on, behind a newline, with what comes then. -/
theorem lexF_then (m : List UInt8) (f : Nat) : ∀ (g : Nat) (r : List UInt8) (k : Nat) (acc l : List Tok), r.length < f → (r ++ 10 :: m).length < g → lexF f r k acc = .ok l →
    lexF g (r ++ 10 :: m) k acc = lexF (m.length + 1) m (k + r.length + 1) l := by
  induction f with
  | zero => intro g r k acc l h; omega
  | succ f ih =>
    intro g r k acc l hf hg he
    cases g with
    | zero => omega
    | succ g =>
      cases r with
      | nil =>
        rw [lexF_nil] at he
        cases he
        have h1 : blankB ((10 : UInt8).toNat : Int) = true := by decide
        rw [List.nil_append, lexF_blank h1]
        simp only [List.nil_append, List.length_cons] at hg
        rw [List.length_nil, Nat.add_zero]
        exact lexF_fuel _ _ _ _ _ (by omega) (by omega)
      | cons c r =>
        have hg' : (r ++ 10 :: m).length < g := by simp only [List.cons_append, List.length_cons] at hg; omega
        have hf' : r.length < f := by simp only [List.length_cons] at hf; omega
        have hd : ∀ j, 1 ≤ j → ((c :: r).drop j).length < f ∧ ((c :: r).drop j ++ 10 :: m).length < g := by
          intro j hj
          simp only [List.length_append, List.length_drop, List.length_cons] at hg' ⊢
          omega
        -- a run that the newline ends: the same run, and what is behind it
        have hrun : ∀ (p : UInt8 → Bool), p 10 = false → (c :: (r ++ 10 :: m)).takeWhile p = (c :: r).takeWhile p ∧
            (c :: (r ++ 10 :: m)).drop ((c :: r).takeWhile p).length = (c :: r).drop ((c :: r).takeWhile p).length ++ 10 :: m ∧
            ((c :: r).drop ((c :: r).takeWhile p).length).length + ((c :: r).takeWhile p).length = (c :: r).length := by
          intro p hp
          have hle : ((c :: r).takeWhile p).length ≤ (c :: r).length := by
            rcases takeWhile_app p (c :: r) [] with ⟨_, h⟩ | ⟨_, h⟩
            · omega
            · rw [h]; omega
          refine ⟨?_, drop_app (c :: r) _ _ hle, by rw [List.length_drop]; omega⟩
          rcases takeWhile_app p (c :: r) (10 :: m) with ⟨h, _⟩ | ⟨h, h'⟩
          · exact h
          · rw [h']
            refine h.trans ?_
            simp [hp]
        by_cases h1 : blankB c.toNat = true
        · rw [lexF_blank h1] at he
          rw [List.cons_append, lexF_blank h1, ih g r _ _ _ hf' hg' he, List.length_cons]
          congr 1; omega
        · by_cases h2 : c.toNat = 35
          · have h6 := hd _ (remark_pos (r := r) h2)
            obtain ⟨h7, h8, h9⟩ := hrun (fun b : UInt8 => b != 10) (by decide)
            rw [lexF_remark h2] at he
            rw [List.cons_append, lexF_remark h2]
            have h7' : remark (c :: (r ++ 10 :: m)) = remark (c :: r) := h7
            have h8' : (c :: (r ++ 10 :: m)).drop (remark (c :: r)).length = (c :: r).drop (remark (c :: r)).length ++ 10 :: m := h8
            have h9' : ((c :: r).drop (remark (c :: r)).length).length + (remark (c :: r)).length = (c :: r).length := h9
            rw [h7', h8', ih g _ _ _ _ h6.1 h6.2 he]
            congr 1; omega
          · by_cases h3 : smallB c.toNat = true
            · have h6 := hd _ (wordRun_pos (r := r) h3)
              obtain ⟨h7, h8, h9⟩ := hrun (fun b : UInt8 => wordB b.toNat) (by decide)
              have h7' : wordRun (c :: (r ++ 10 :: m)) = wordRun (c :: r) := h7
              have h8' : (c :: (r ++ 10 :: m)).drop (wordRun (c :: r)).length = (c :: r).drop (wordRun (c :: r)).length ++ 10 :: m := h8
              have h9' : ((c :: r).drop (wordRun (c :: r)).length).length + (wordRun (c :: r)).length = (c :: r).length := h9
              rw [lexF_word h3] at he
              rw [List.cons_append, lexF_word h3, h7']
              split
              · rename_i h10; rw [if_pos h10] at he; cases he
              · rename_i h10
                rw [if_neg h10] at he
                rw [h8', ih g _ _ _ _ h6.1 h6.2 he]
                congr 1; omega
            · by_cases h4 : digitB c.toNat = true
              · have h6 := hd _ (digitRun_pos (r := r) h4)
                obtain ⟨h7, h8, h9⟩ := hrun (fun b : UInt8 => digitB b.toNat) (by decide)
                have h7' : digitRun (c :: (r ++ 10 :: m)) = digitRun (c :: r) := h7
                have h8' : (c :: (r ++ 10 :: m)).drop (digitRun (c :: r)).length = (c :: r).drop (digitRun (c :: r)).length ++ 10 :: m := h8
                have h9' : ((c :: r).drop (digitRun (c :: r)).length).length + (digitRun (c :: r)).length = (c :: r).length := h9
                rw [lexF_num h4] at he
                rw [List.cons_append, lexF_num h4, h7']
                split
                · rename_i h10; rw [if_pos h10] at he; cases he
                · rename_i h10
                  rw [if_neg h10] at he
                  rw [h8', ih g _ _ _ _ h6.1 h6.2 he]
                  congr 1; omega
              · by_cases h5 : signB c.toNat = true
                · rw [lexF_sign h5] at he
                  rw [List.cons_append, lexF_sign h5, ih g r _ _ _ hf' hg' he, List.length_cons]
                  congr 1; omega
                · simp only [Bool.not_eq_true] at h1 h3 h4 h5
                  rw [lexF_bad h1 h2 h3 h4 h5] at he
                  cases he

theorem lexS_more (s m : List UInt8) (n : Nat) (hs : (s ++ m).length ≤ 65536) (h : lexS s = .error n) : lexS (s ++ m) = .error n := by
  have h1 : s.length ≤ (s ++ m).length := by rw [List.length_append]; omega
  rw [lexS, if_neg (by omega)] at h
  rw [lexS, if_neg (by omega)]
  exact lexF_more m _ _ s 0 n [] (by omega) (by omega) h

theorem lexS_then (s m : List UInt8) (l : List Tok) (hs : (s ++ 10 :: 36 :: m).length ≤ 65536) (h : lexS s = .ok l) : lexS (s ++ 10 :: 36 :: m) = .error (s.length + 1) := by
  have h1 : s.length ≤ (s ++ 10 :: 36 :: m).length := by rw [List.length_append]; omega
  rw [lexS, if_neg (by omega)] at h
  rw [lexS, if_neg (by omega), lexF_then (36 :: m) _ _ s 0 [] l (by omega) (by omega) h, Nat.zero_add, lexF_bad (by decide) (by decide) (by decide) (by decide) (by decide)]
end Go.Proofs.YtgnjaneddidbbaaDoor
