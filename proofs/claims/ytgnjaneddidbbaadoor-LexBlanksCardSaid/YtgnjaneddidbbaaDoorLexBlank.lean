/-
  Plain Lean: tokens with other blanks and remarks between them are the same, but for their places. No program in sight.
-/
import Derived.Test.YtgnjaneddidbbaaDoorLexPlain
namespace Go.Proofs.YtgnjaneddidbbaaDoor

/-- What a token of a deck s is like. -/
structure TokOk (s : List UInt8) (t : Tok) : Prop where
  fits : t.pos + t.text.length ≤ s.length
  here : (s.drop t.pos).take t.text.length = t.text
  form : (t.kind = 1 ∧ t.num = 0 ∧ t.text.length ≤ 32 ∧ (∃ c r, t.text = c :: r ∧ smallB c.toNat = true) ∧ ∀ b ∈ t.text, wordB b.toNat = true) ∨
    (t.kind = 2 ∧ t.num = decVal 0 t.text ∧ decVal 0 t.text ≤ 2147483647 ∧ (∃ c r, t.text = c :: r ∧ digitB c.toNat = true ∧ ¬ (1 < t.text.length ∧ c.toNat = 48)) ∧ ∀ b ∈ t.text, digitB b.toNat = true) ∨
    (t.kind = 3 ∧ t.num = 0 ∧ ∃ c, t.text = [c] ∧ signB c.toNat = true)

theorem takeWhile_all {α : Type} (p : α → Bool) (l : List α) : ∀ b ∈ l.takeWhile p, p b = true := fun b hb => List.all_eq_true.1 List.all_takeWhile b hb

theorem takeWhile_len {α : Type} (p : α → Bool) (l : List α) : (l.takeWhile p).length ≤ l.length := by
  rcases takeWhile_app p l [] with ⟨_, h⟩ | ⟨_, h⟩
  · omega
  · rw [h]; omega

theorem take_takeWhile {α : Type} (p : α → Bool) (l : List α) : l.take (l.takeWhile p).length = l.takeWhile p := by
  induction l with
  | nil => rfl
  | cons x l ih =>
    cases h : p x
    · simp [h]
    · simp [h, ih]

theorem lexF_toks (s : List UInt8) (f : Nat) : ∀ (r : List UInt8) (k : Nat) (acc l : List Tok), s.drop k = r → k ≤ s.length → (∀ t ∈ acc, TokOk s t) → acc.length ≤ k → lexF f r k acc = .ok l →
    (∀ t ∈ l, TokOk s t) ∧ l.length ≤ s.length := by
  induction f with
  | zero =>
    intro r k acc l _ hk ha hl h
    cases h
    exact ⟨ha, by omega⟩
  | succ f ih =>
    intro r k acc l hr hk ha hl h
    cases r with
    | nil =>
      rw [lexF_nil] at h
      cases h
      exact ⟨ha, by omega⟩
    | cons c r =>
      have hlen : (c :: r).length + k = s.length := by
        rw [← hr, List.length_drop]; omega
      have hdrop : ∀ n, s.drop (k + n) = (c :: r).drop n := fun n => by rw [← List.drop_drop, hr]
      have hsnoc : ∀ t, TokOk s t → ∀ t' ∈ acc ++ [t], TokOk s t' := by
        intro t ht t' h'
        rcases List.mem_append.1 h' with h' | h'
        · exact ha t' h'
        · rw [List.mem_singleton.1 h']; exact ht
      by_cases h1 : blankB c.toNat = true
      · rw [lexF_blank h1] at h
        exact ih r _ _ _ (by have := hdrop 1; simpa using this) (by simp at hlen; omega) ha (by omega) h
      · by_cases h2 : c.toNat = 35
        · rw [lexF_remark h2] at h
          have h3 := remark_pos (r := r) h2
          have h4 := takeWhile_len (fun b : UInt8 => b != 10) (c :: r)
          exact ih _ _ _ _ (hdrop _) (by unfold remark; omega) ha (by omega) h
        · by_cases h3 : smallB c.toNat = true
          · rw [lexF_word h3] at h
            have h4 := wordRun_pos (r := r) h3
            have h5 : (wordRun (c :: r)).length ≤ (c :: r).length := takeWhile_len _ _
            by_cases h6 : 32 < (wordRun (c :: r)).length
            · rw [if_pos h6] at h; cases h
            · rw [if_neg h6] at h
              refine ih _ _ _ _ (hdrop _) (by omega) (hsnoc _ ⟨by show k + (wordRun (c :: r)).length ≤ _; omega, ?_, ?_⟩) (by simp; omega) h
              · rw [hr]; exact take_takeWhile _ _
              · left
                refine ⟨rfl, rfl, by show (wordRun (c :: r)).length ≤ 32; omega, ⟨c, wordRun r, ?_, h3⟩, takeWhile_all _ _⟩
                have : wordB c.toNat = true := by simp [wordB, h3]
                simp [wordRun, this]
          · by_cases h4 : digitB c.toNat = true
            · rw [lexF_num h4] at h
              have h5 := digitRun_pos (r := r) h4
              have h6 : (digitRun (c :: r)).length ≤ (c :: r).length := takeWhile_len _ _
              by_cases h7 : 2147483647 < decVal 0 (digitRun (c :: r)) ∨ (1 < (digitRun (c :: r)).length ∧ c.toNat = 48)
              · rw [if_pos h7] at h; cases h
              · rw [if_neg h7] at h
                refine ih _ _ _ _ (hdrop _) (by omega) (hsnoc _ ⟨by show k + (digitRun (c :: r)).length ≤ _; omega, ?_, ?_⟩) (by simp; omega) h
                · rw [hr]; exact take_takeWhile _ _
                · right; left
                  refine ⟨rfl, rfl, by show decVal 0 (digitRun (c :: r)) ≤ 2147483647; omega, ⟨c, digitRun r, ?_, h4, fun h8 => h7 (.inr h8)⟩, takeWhile_all _ _⟩
                  simp [digitRun, h4]
            · by_cases h5 : signB c.toNat = true
              · rw [lexF_sign h5] at h
                refine ih r _ _ _ (by have := hdrop 1; simpa using this) (by simp at hlen; omega) (hsnoc _ ⟨by show k + 1 ≤ _; simp at hlen; omega, ?_, ?_⟩) (by simp; omega) h
                · rw [hr]; rfl
                · right; right
                  exact ⟨rfl, rfl, c, rfl, h5⟩
              · simp only [Bool.not_eq_true] at h1 h3 h4 h5
                rw [lexF_bad h1 h2 h3 h4 h5] at h
                cases h

theorem lexS_toks {s : List UInt8} {l : List Tok} (h : lexS s = .ok l) : (∀ t ∈ l, TokOk s t) ∧ l.length ≤ s.length := by
  by_cases hs : 65536 < s.length
  · rw [lexS, if_pos hs] at h; cases h
  · rw [lexS, if_neg hs] at h
    exact lexF_toks s _ s 0 [] l rfl (by omega) (fun t h => by cases h) (by simp) h

/-- A row of blanks and remarks: skipped. -/
def Skips (g : List UInt8) : Prop := ∀ (rest : List UInt8) (k : Nat) (acc : List Tok) (f f' : Nat), (g ++ rest).length < f → rest.length < f' → lexF f (g ++ rest) k acc = lexF f' rest (k + g.length) acc

theorem skips_app {g h : List UInt8} (hg : Skips g) (hh : Skips h) : Skips (g ++ h) := by
  intro rest k acc f f' h1 h2
  rw [List.append_assoc, hg (h ++ rest) k acc f ((h ++ rest).length + 1) (by rwa [List.append_assoc] at h1) (by omega), hh rest _ acc _ f' (by omega) h2, List.length_append]
  congr 1; omega

theorem skips_blank {b : UInt8} (hb : blankB b.toNat = true) : Skips [b] := by
  intro rest k acc f f' h1 h2
  cases f with
  | zero => omega
  | succ f =>
    rw [List.singleton_append, lexF_blank hb]
    exact lexF_fuel _ _ _ _ _ (by simp at h1; omega) h2

theorem remark_nl (r rest : List UInt8) (h : ∀ b ∈ r, b ≠ 10) : remark (r ++ 10 :: rest) = r := by
  induction r with
  | nil => simp [remark]
  | cons x r ih =>
    have h1 : x ≠ 10 := h x (List.mem_cons_self ..)
    have h2 : remark (x :: (r ++ 10 :: rest)) = x :: remark (r ++ 10 :: rest) := by simp [remark, h1]
    rw [List.cons_append, h2, ih (fun b hb => h b (List.mem_cons_of_mem _ hb))]

theorem skips_remark (r : List UInt8) (h : ∀ b ∈ r, b ≠ 10) : Skips (35 :: (r ++ [10])) := by
  intro rest k acc f f' h1 h2
  have h35 : (35 : UInt8).toNat = 35 := rfl
  have e : 35 :: (r ++ [10]) ++ rest = 35 :: (r ++ 10 :: rest) := by simp
  have hr : remark (35 :: (r ++ 10 :: rest)) = 35 :: r := remark_nl (35 :: r) rest (by
    intro b hb
    rcases List.mem_cons.1 hb with rfl | hb
    · decide
    · exact h b hb)
  rw [e] at h1 ⊢
  cases f with
  | zero => omega
  | succ f =>
    rw [lexF_remark h35, hr]
    have e2 : (35 :: (r ++ 10 :: rest)).drop (35 :: r).length = [10] ++ rest := by
      have : 35 :: (r ++ 10 :: rest) = (35 :: r) ++ 10 :: rest := rfl
      rw [this, List.drop_left]
      rfl
    rw [e2, skips_blank (by decide) rest _ acc f f' (by simp at h1 ⊢; omega) h2]
    congr 1
    simp
    omega

/-- The piece that a byte of a gap stands for. -/
def gapPiece (n : Int) : List UInt8 :=
  if n = 0 then [32] else if n = 1 then [9, 13] else if n = 2 then [10] else if n = 3 then [35, 32, 36, 32, 40, 97, 255, 10] else [35, 10]

theorem skips_piece (n : Int) : Skips (gapPiece n) := by
  unfold gapPiece
  repeat' split
  · exact skips_blank (by decide)
  · exact skips_app (g := [9]) (h := [13]) (skips_blank (by decide)) (skips_blank (by decide))
  · exact skips_blank (by decide)
  · exact skips_remark [32, 36, 32, 40, 97, 255] (by decide)
  · exact skips_remark [] (by decide)

theorem gapPiece_len (n : Int) : (gapPiece n).length ≤ 8 := by
  unfold gapPiece
  repeat' split
  all_goals decide

/-- A gap: it begins with a blank, and is skipped. -/
structure Gap (g : List UInt8) : Prop where
  skips : Skips g
  head : ∃ b r, g = b :: r ∧ blankB b.toNat = true

theorem gap_one {b : UInt8} (hb : blankB b.toNat = true) : Gap [b] := ⟨skips_blank hb, b, [], rfl, hb⟩
theorem gap_more {g : List UInt8} (h : Gap g) (n : Int) : Gap (g ++ gapPiece n) := by
  obtain ⟨h1, b, r, rfl, hb⟩ := h
  exact ⟨skips_app h1 (skips_piece n), b, r ++ gapPiece n, rfl, hb⟩

/-- What may follow a token: nothing, or a blank. -/
def Ends (rest : List UInt8) : Prop := rest = [] ∨ ∃ b r, rest = b :: r ∧ blankB b.toNat = true

theorem blank_not {b : UInt8} (hb : blankB b.toNat = true) : wordB b.toNat = false ∧ digitB b.toNat = false := by
  simp only [blankB, decide_eq_true_eq] at hb
  constructor
  · simp only [wordB, smallB, digitB, Bool.or_eq_false_iff, decide_eq_false_iff_not]; omega
  · simp only [digitB, decide_eq_false_iff_not]; omega

theorem run_ends (p : UInt8 → Bool) (hp : ∀ b : UInt8, blankB b.toNat = true → p b = false) (l rest : List UInt8) (hl : ∀ b ∈ l, p b = true) (h : Ends rest) : (l ++ rest).takeWhile p = l := by
  have h1 : l.takeWhile p = l := by
    induction l with
    | nil => rfl
    | cons x l ih => simp [hl x (List.mem_cons_self ..), ih (fun b hb => hl b (List.mem_cons_of_mem _ hb))]
  have h2 : rest.takeWhile p = [] := by
    rcases h with rfl | ⟨b, r, rfl, hb⟩
    · rfl
    · simp [hp b hb]
  rcases takeWhile_app p l rest with ⟨_, h4⟩ | ⟨h3, _⟩
  · rw [h1] at h4; omega
  · rw [h3, h2, List.append_nil]

/-- One token, and what comes behind it. -/
theorem tok_step {s : List UInt8} {t : Tok} (ht : TokOk s t) (rest : List UInt8) (hr : Ends rest) (k : Nat) (acc : List Tok) (f f' : Nat) (hf : (t.text ++ rest).length < f) (hf' : rest.length < f') :
    lexF f (t.text ++ rest) k acc = lexF f' rest (k + t.text.length) (acc ++ [⟨t.kind, t.text, t.num, k⟩]) := by
  obtain ⟨_, _, hform⟩ := ht
  cases f with
  | zero => omega
  | succ f =>
    rcases hform with ⟨hk, hn, hlen, ⟨c, r, hc, hsm⟩, hall⟩ | ⟨hk, hn, hbig, ⟨c, r, hc, hdg, hz⟩, hall⟩ | ⟨hk, hn, c, hc, hsg⟩
    · rw [hk, hn]
      have hrun : wordRun (t.text ++ rest) = t.text := run_ends _ (fun b hb => (blank_not hb).1) _ _ hall hr
      have e : t.text ++ rest = c :: (r ++ rest) := by rw [hc]; rfl
      rw [e] at hrun hf ⊢
      rw [lexF_word hsm, hrun, if_neg (by omega), ← e, List.drop_left]
      refine lexF_fuel _ _ _ _ _ ?_ hf'
      have h5 : (c :: (r ++ rest)).length = t.text.length + rest.length := by rw [← e, List.length_append]
      have h6 : 1 ≤ t.text.length := by rw [hc]; simp
      omega
    · rw [hk, hn]
      have hrun : digitRun (t.text ++ rest) = t.text := run_ends _ (fun b hb => (blank_not hb).2) _ _ hall hr
      have e : t.text ++ rest = c :: (r ++ rest) := by rw [hc]; rfl
      rw [e] at hrun hf ⊢
      rw [lexF_num hdg, hrun, if_neg (by intro h; rcases h with h | h; omega; exact hz h), ← e, List.drop_left]
      refine lexF_fuel _ _ _ _ _ ?_ hf'
      have h5 : (c :: (r ++ rest)).length = t.text.length + rest.length := by rw [← e, List.length_append]
      have h6 : 1 ≤ t.text.length := by rw [hc]; simp
      omega
    · rw [hk, hn, hc]
      rw [hc] at hf
      rw [List.singleton_append, lexF_sign hsg]
      exact lexF_fuel _ _ _ _ _ (by simp at hf; omega) hf'

/-- A text that has been put together: it comes to the tokens acc, whatever may follow. -/
def Built (T : List UInt8) (acc : List Tok) : Prop := ∀ (rest : List UInt8) (f f' : Nat), Ends rest → (T ++ rest).length < f → rest.length < f' → lexF f (T ++ rest) 0 [] = lexF f' rest T.length acc

theorem built_nil : Built [] [] := by
  intro rest f f' _ h1 h2
  exact lexF_fuel _ _ _ _ _ h1 h2

theorem built_step {s T : List UInt8} {acc : List Tok} {t : Tok} {g : List UInt8} (h : Built T acc) (hg : Gap g) (ht : TokOk s t) : Built (T ++ g ++ t.text) (acc ++ [⟨t.kind, t.text, t.num, (T ++ g).length⟩]) := by
  intro rest f f' hr h1 h2
  have e : T ++ g ++ t.text ++ rest = T ++ (g ++ (t.text ++ rest)) := by simp
  obtain ⟨hs, b, r, rfl, hb⟩ := hg
  rw [e] at h1 ⊢
  rw [h (b :: r ++ (t.text ++ rest)) f ((b :: r ++ (t.text ++ rest)).length + 1) (.inr ⟨b, r ++ (t.text ++ rest), rfl, hb⟩) h1 (by omega), hs (t.text ++ rest) _ acc _ ((t.text ++ rest).length + 1) (by omega) (by omega),
    tok_step ht rest hr _ acc _ f' (by omega) h2, List.length_append, List.length_append]

/-- Behind the last token a blank and a remark. -/
theorem built_end {T : List UInt8} {acc : List Tok} (h : Built T acc) (hl : T.length ≤ 60000) : lexS (T ++ [32, 35, 32, 116, 104, 101, 32, 101, 110, 100]) = .ok acc := by
  rw [lexS, if_neg (by simp; omega), h _ _ 11 (.inr ⟨32, _, rfl, by decide⟩) (by omega) (by decide)]
  rfl
end Go.Proofs.YtgnjaneddidbbaaDoor
