/-
  Plain Lean: a reading does not hang on the tokens' places, nor on what stands behind it. No program in sight.
  Plain Lean: a deck's tokens: behind one another, cut off, their places and texts. No program in sight.
  Plain Lean: which statements are some deck's (the reference's rules); what is read is such. No program in sight.
-/
import Derived.Test.YtdjklnlkocconaaGreatDoorPlainZ
namespace Go.Proofs.YtdjklnlkocconaaGreatDoor

def tk (t : Tok) : Int × List UInt8 × Int := (t.kind, t.text, t.num)
/-- The tokens of r' are those of r, and u behind them, but for their places. -/
def App (u r r' : List Tok) : Prop := r'.map tk = r.map tk ++ u.map tk

theorem App.nil {u r' : List Tok} (h : App u [] r') : r'.map tk = u.map tk := h
theorem App.cons {u r r' : List Tok} {t : Tok} (h : App u (t :: r) r') : ∃ t' r1, r' = t' :: r1 ∧ tk t' = tk t ∧ App u r r1 := by
  cases r' with
  | nil => cases h
  | cons t' r1 =>
    have h' : tk t' :: r1.map tk = tk t :: (r.map tk ++ u.map tk) := h
    injection h' with h1 h2
    exact ⟨t', r1, rfl, h1, h2⟩
theorem App.len {u r r' : List Tok} (h : App u r r') : r'.length = r.length + u.length := by
  have := congrArg List.length h
  simpa using this

/-- What x read, y reads, too; u stands behind. -/
def AppAll {α : Type} (u : List Tok) (x y : PR α) : Prop := ∀ a r1, x = .ok (a, r1) → ∃ r1', y = .ok (a, r1') ∧ App u r1 r1'
/-- .. where something is left. -/
def AppOk {α : Type} (u : List Tok) (x y : PR α) : Prop := ∀ a r1, x = .ok (a, r1) → r1 ≠ [] → ∃ r1', y = .ok (a, r1') ∧ App u r1 r1'

section
variable {α β : Type} {u : List Tok} {x y : PR α} {f g : α → List Tok → PR β}
theorem AppAll.ok (h : AppAll u x y) : AppOk u x y := fun a r1 e _ => h a r1 e
theorem AppAll.then (h : AppAll u x y) (hf : ∀ a r1 r1', App u r1 r1' → AppAll u (f a r1) (g a r1')) : AppAll u (x.then f) (y.then g) := by
  intro b r2 e
  obtain ⟨a, r1, e1, e2⟩ := then_ok_of e
  obtain ⟨r1', e3, h3⟩ := h a r1 e1
  rw [e3]
  exact hf a r1 r1' h3 b r2 e2
theorem AppOk.then (h : AppOk u x y) (hf : ∀ a r1 r1', App u r1 r1' → AppAll u (f a r1) (g a r1')) (hn : ∀ a b r2, f a [] ≠ .ok (b, r2)) : AppAll u (x.then f) (y.then g) := by
  intro b r2 e
  obtain ⟨a, r1, e1, e2⟩ := then_ok_of e
  obtain ⟨r1', e3, h3⟩ := h a r1 e1 (by intro e0; subst e0; exact hn a b r2 e2)
  rw [e3]
  exact hf a r1 r1' h3 b r2 e2
end
end Go.Proofs.YtdjklnlkocconaaGreatDoor

namespace Go.Proofs.YtdjklnlkocconaaGreatDoor
theorem takeWhile_all {α : Type} (p : α → Bool) (l : List α) : ∀ b ∈ l.takeWhile p, p b = true := by
  induction l with
  | nil => intro b hb; simp at hb
  | cons a l ih =>
    intro b hb
    by_cases ha : p a = true
    · simp [ha] at hb
      rcases hb with rfl | hb
      · exact ha
      · exact ih b hb
    · simp [ha] at hb
theorem run_le {α : Type} (p : α → Bool) (l : List α) : (l.takeWhile p).length ≤ l.length := (List.takeWhile_sublist p).length_le

/-- What it comes to hangs on the place and on what was read ahead by these alone. -/
theorem lexF_two (f : Nat) : ∀ (s : List UInt8) (k k' : Nat) (acc acc' ts : List Tok), lexF f s k acc = .ok ts → ∃ us vs, ts = acc ++ us ∧ lexF f s k' acc' = .ok (acc' ++ vs) ∧ vs.map tk = us.map tk := by
  induction f with
  | zero => intro s k k' acc acc' ts h; cases h; exact ⟨[], [], by simp, by simp [lexF], rfl⟩
  | succ f ih =>
    intro s k k' acc acc' ts h
    cases s with
    | nil => rw [lexF_nil] at h; cases h; exact ⟨[], [], by simp, by rw [lexF_nil]; simp, rfl⟩
    | cons c r =>
      have hsnoc : ∀ (s' : List UInt8) (k1 k1' : Nat) (t t' : Tok), tk t' = tk t → lexF f s' k1 (acc ++ [t]) = .ok ts → ∃ us vs, ts = acc ++ us ∧ lexF f s' k1' (acc' ++ [t']) = .ok (acc' ++ vs) ∧ vs.map tk = us.map tk := by
        intro s' k1 k1' t t' ht h
        obtain ⟨us, vs, e1, e2, e3⟩ := ih s' k1 k1' _ (acc' ++ [t']) ts h
        exact ⟨t :: us, t' :: vs, by rw [e1]; simp, by rw [e2]; simp, by simp [e3, ht]⟩
      rw [lexF] at h ⊢
      split at h
      · rename_i hb; rw [if_pos hb]; exact ih _ _ _ _ _ _ h
      · rename_i hb
        rw [if_neg hb]
        split at h
        · rename_i h2; rw [if_pos h2]; exact ih _ _ _ _ _ _ h
        · rename_i h2
          rw [if_neg h2]
          split at h
          · rename_i h3
            rw [if_pos h3]
            split at h
            · cases h
            · rename_i h4; rw [if_neg h4]; exact hsnoc _ _ _ ⟨1, wordRun (c :: r), 0, k⟩ ⟨1, wordRun (c :: r), 0, k'⟩ rfl h
          · rename_i h3
            rw [if_neg h3]
            split at h
            · rename_i h4
              rw [if_pos h4]
              split at h
              · cases h
              · rename_i h5; rw [if_neg h5]; exact hsnoc _ _ _ ⟨2, digitRun (c :: r), decVal 0 (digitRun (c :: r)), k⟩ ⟨2, digitRun (c :: r), decVal 0 (digitRun (c :: r)), k'⟩ rfl h
            · rename_i h4
              rw [if_neg h4]
              split at h
              · rename_i h5; rw [if_pos h5]; exact hsnoc _ _ _ ⟨3, [c], 0, k⟩ ⟨3, [c], 0, k'⟩ rfl h
              · cases h
theorem lexF_ext {f : Nat} {s : List UInt8} {k : Nat} {acc ts : List Tok} (h : lexF f s k acc = .ok ts) : ∃ us, ts = acc ++ us := by
  obtain ⟨us, _, e, _⟩ := lexF_two f s k k acc acc ts h
  exact ⟨us, e⟩

/-- What a token is made of: a word; a number and its value; a sign. -/
def TokOk (t : Tok) : Prop :=
  (t.kind = 1 ∧ t.num = 0 ∧ t.text.length ≤ 32 ∧ ∃ c r, t.text = c :: r ∧ smallB c.toNat = true ∧ ∀ b ∈ t.text, wordB b.toNat = true) ∨
  (t.kind = 2 ∧ 0 ≤ t.num ∧ t.num ≤ 2147483647 ∧ t.text ≠ []) ∨
  (t.kind = 3 ∧ t.num = 0 ∧ ∃ c, t.text = [c] ∧ signB c.toNat = true)

theorem takeWhile_cons_pos {α : Type} {p : α → Bool} {c : α} {r : List α} (h : p c = true) : (c :: r).takeWhile p = c :: r.takeWhile p := by simp [h]

/-- Each token's make, its place; how long all of them are together. -/
theorem lexF_toks (f : Nat) : ∀ (s : List UInt8) (k : Nat) (acc ts : List Tok), lexF f s k acc = .ok ts → ∃ us, ts = acc ++ us ∧ (∀ t ∈ us, TokOk t ∧ 0 ≤ t.pos ∧ t.pos ≤ k + s.length) ∧ (us.map fun t => t.text.length).sum ≤ s.length := by
  induction f with
  | zero => intro s k acc ts h; cases h; exact ⟨[], by simp, by simp, by simp⟩
  | succ f ih =>
    intro s k acc ts h
    cases s with
    | nil => rw [lexF_nil] at h; cases h; exact ⟨[], by simp, by simp, by simp⟩
    | cons c r =>
      have hskip : ∀ n : Nat, n ≤ (c :: r).length → lexF f ((c :: r).drop n) (k + n) acc = .ok ts → ∃ us, ts = acc ++ us ∧ (∀ t ∈ us, TokOk t ∧ 0 ≤ t.pos ∧ t.pos ≤ k + (c :: r).length) ∧ (us.map fun t => t.text.length).sum ≤ (c :: r).length := by
        intro n hn e
        obtain ⟨us, e1, e2, e3⟩ := ih _ _ _ _ e
        rw [List.length_drop] at e2 e3
        exact ⟨us, e1, fun t ht => by obtain ⟨q1, q2, q3⟩ := e2 t ht; exact ⟨q1, q2, by omega⟩, by omega⟩
      have hsnoc : ∀ (n : Nat) (t : Tok), n ≤ (c :: r).length → TokOk t → t.pos = k → t.text.length = n → lexF f ((c :: r).drop n) (k + n) (acc ++ [t]) = .ok ts → ∃ us, ts = acc ++ us ∧ (∀ t ∈ us, TokOk t ∧ 0 ≤ t.pos ∧ t.pos ≤ k + (c :: r).length) ∧ (us.map fun t => t.text.length).sum ≤ (c :: r).length := by
        intro n t hn ht hp hl e
        obtain ⟨us, e1, e2, e3⟩ := ih _ _ _ _ e
        rw [List.length_drop] at e2 e3
        refine ⟨t :: us, by rw [e1]; simp, ?_, ?_⟩
        · intro u hu
          rcases List.mem_cons.1 hu with rfl | hu
          · exact ⟨ht, by omega, by omega⟩
          · obtain ⟨q1, q2, q3⟩ := e2 u hu
            exact ⟨q1, q2, by omega⟩
        · simp only [List.map_cons, List.sum_cons]
          omega
      rw [lexF] at h
      split at h
      · exact hskip 1 (by simp) h
      · split at h
        · exact hskip _ (run_le _ _) h
        · split at h
          · rename_i h3
            split at h
            · cases h
            · rename_i h4
              refine hsnoc (wordRun (c :: r)).length ⟨1, wordRun (c :: r), 0, k⟩ (run_le _ _) (.inl ⟨rfl, rfl, by show (wordRun (c :: r)).length ≤ 32; omega, c, r.takeWhile fun b => wordB b.toNat, ?_, h3, ?_⟩) rfl rfl h
              · exact takeWhile_cons_pos (p := fun b : UInt8 => wordB b.toNat) (by show wordB c.toNat = true; simp [wordB, h3])
              · intro b hb
                exact takeWhile_all (fun b : UInt8 => wordB b.toNat) (c :: r) b hb
          · split at h
            · rename_i h4
              split at h
              · cases h
              · rename_i h5
                refine hsnoc (digitRun (c :: r)).length ⟨2, digitRun (c :: r), decVal 0 (digitRun (c :: r)), k⟩ (run_le _ _) (.inr (.inl ⟨rfl, by show (0 : Int) ≤ (decVal 0 (digitRun (c :: r)) : Nat); omega, by show ((decVal 0 (digitRun (c :: r)) : Nat) : Int) ≤ 2147483647; omega, ?_⟩)) rfl rfl h
                intro e
                have := digitRun_pos (r := r) h4
                rw [show digitRun (c :: r) = [] from e] at this
                exact absurd this (by decide)
            · split at h
              · rename_i h5
                exact hsnoc 1 ⟨3, [c], 0, k⟩ (by simp) (.inr (.inr ⟨rfl, rfl, c, rfl, h5⟩)) rfl rfl h
              · cases h
end Go.Proofs.YtdjklnlkocconaaGreatDoor

namespace Go.Proofs.YtdjklnlkocconaaGreatDoor

/-- May a text be a name? -/
def nameB (s : List UInt8) : Bool := match lexS s with | .ok [t] => t.kind == 1 && t.text == s && !takenL.contains s | _ => false

/-- Is it an expression, with at most so many parentheses within one another, where operators bind at least so strongly? -/
def rightB : Nd → Int → Int → Bool
  | .mk k s l, least, deep =>
    if k = 1 ∨ k = 3 then nameB s && l.isEmpty
    else if k = 2 then s == [] && l.isEmpty
    else if 4 ≤ k ∧ k ≤ 7 then
      match l with
      | [a, b] => decide (0 ≤ (if joinS k + 1 < least then deep - 1 else deep)) && s == [] && rightB a (joinS k + 1) (if joinS k + 1 < least then deep - 1 else deep) && rightB b (joinS k + 2) (if joinS k + 1 < least then deep - 1 else deep)
      | _ => false
    else false

theorem rightB_eq (k : Int) (s : List UInt8) (l : List Nd) (least deep : Int) : rightB (.mk k s l) least deep =
    if k = 1 ∨ k = 3 then nameB s && l.isEmpty
    else if k = 2 then s == [] && l.isEmpty
    else if 4 ≤ k ∧ k ≤ 7 then
      match l with
      | [a, b] => decide (0 ≤ (if joinS k + 1 < least then deep - 1 else deep)) && s == [] && rightB a (joinS k + 1) (if joinS k + 1 < least then deep - 1 else deep) && rightB b (joinS k + 2) (if joinS k + 1 < least then deep - 1 else deep)
      | _ => false
    else false := by rw [rightB.eq_def]

def noneB : Nd → Bool
  | .mk k s l => k == 0 && s == [] && l.isEmpty

def layersB (x : St) : Bool := decide (0 ≤ x.n ∧ x.n ≤ 32767 ∧ 0 ≤ x.k ∧ x.k ≤ 32767 ∧ x.d = 0)
def twoB (x : St) : Bool := (decide (3 < x.rule) && rightB x.b 1 63) || (decide (x.rule ≤ 3) && noneB x.b)

/-- Is it a statement? -/
def fitB (x : St) : Bool :=
  nameB x.name &&
  (if x.kind = 1 then layersB x && noneB x.a && noneB x.b && x.rule == 0 && !x.snap
   else if x.kind = 2 then rightB x.a 1 64 && noneB x.b && x.rule == 0 && x.n == 0 && x.d == 0 && x.k == 0 && !x.snap
   else if x.kind = 3 then decide (1 ≤ x.rule ∧ x.rule ≤ 6) && twoB x && rightB x.a 1 63 && decide (1 ≤ x.n ∧ x.n ≤ 2147483647) && x.d == 0 && x.k == 0 && !x.snap
   else if x.kind = 4 then rightB x.a 1 64 && noneB x.b && x.rule == 0 && decide (0 ≤ x.n ∧ x.n ≤ 2147483647) && decide (1 ≤ x.d ∧ x.d ≤ 2147483647) && x.k == 0 && !x.snap
   else if x.kind = 5 then layersB x && rightB x.a 1 64 && noneB x.b && x.rule == 0
   else false)

/-- A word of the alphabet. -/
def WordOk (s : List UInt8) : Prop := s.length ≤ 32 ∧ (∃ c r, s = c :: r ∧ smallB c.toNat = true) ∧ ∀ b ∈ s, wordB b.toNat = true

theorem takeWhile_self {α : Type} (p : α → Bool) (l : List α) (h : ∀ b ∈ l, p b = true) : l.takeWhile p = l := by
  induction l with
  | nil => rfl
  | cons a l ih => simp [h a (by simp), ih (fun b hb => h b (by simp [hb]))]

theorem lexS_word {s : List UInt8} (h : WordOk s) : lexS s = .ok [⟨1, s, 0, 0⟩] := by
  obtain ⟨hl, ⟨c, r, rfl, hc⟩, hw⟩ := h
  have hr : wordRun (c :: r) = c :: r := takeWhile_self _ _ hw
  rw [lexS, if_neg (by omega), lexF_word hc, if_neg (by rw [hr]; omega), hr, List.drop_length, lexF_nil]
  rfl

theorem toks_len {f : Nat} {s : List UInt8} {k : Nat} {acc ts : List Tok} (h : lexF f s k acc = .ok ts) : ∃ us, ts = acc ++ us ∧ ∀ t ∈ us, t.text.length ≤ s.length := by
  obtain ⟨us, e, h1, hs⟩ := lexF_toks f s k acc ts h
  refine ⟨us, e, fun t ht => ?_⟩
  have : t.text.length ≤ (us.map fun t => t.text.length).sum := by
    clear e hs h1
    induction us with
    | nil => simp at ht
    | cons u us ih =>
      simp only [List.map_cons, List.sum_cons]
      rcases List.mem_cons.1 ht with rfl | ht
      · omega
      · have := ih ht; omega
  omega

theorem nameB_iff (s : List UInt8) : nameB s = true ↔ WordOk s ∧ takenL.contains s = false := by
  constructor
  · intro h
    unfold nameB at h
    split at h
    · rename_i t e
      simp only [Bool.and_eq_true, beq_iff_eq, Bool.not_eq_true'] at h
      obtain ⟨⟨hk, ht⟩, hn⟩ := h
      refine ⟨?_, hn⟩
      rw [lexS] at e
      split at e
      · cases e
      · cases s with
        | nil => rw [lexF_nil] at e; cases e
        | cons c r =>
          have hsmall : ∀ (n k : Nat) (f : Nat), 0 < n → lexF f ((c :: r).drop n) k [] = .ok [t] → False := by
            intro n k f hn e
            obtain ⟨us, e1, e2⟩ := toks_len e
            have h1 : us = [t] := by simpa using e1.symm
            have := e2 t (by rw [h1]; simp)
            rw [ht, List.length_drop] at this
            simp only [List.length_cons] at this
            omega
          have hone : ∀ (n k : Nat) (f : Nat) (u : Tok), lexF f ((c :: r).drop n) k [u] = .ok [t] → t = u := by
            intro n k f u e
            obtain ⟨us, e1⟩ := lexF_ext e
            simp at e1
            exact e1.1
          rw [lexF] at e
          split at e
          · exact (hsmall 1 _ _ (by omega) e).elim
          · split at e
            · rename_i h2
              exact (hsmall _ _ _ (remark_pos (r := r) h2) e).elim
            · split at e
              · rename_i h3
                split at e
                · cases e
                · rename_i h4
                  have := hone _ _ _ _ e
                  have hrun : wordRun (c :: r) = c :: r := by
                    have h2 := congrArg Tok.text this
                    rw [ht] at h2
                    exact h2.symm
                  refine ⟨by rw [← hrun]; omega, ⟨c, r, rfl, h3⟩, fun b hb => ?_⟩
                  rw [← hrun] at hb
                  exact takeWhile_all (fun b : UInt8 => wordB b.toNat) (c :: r) b hb
              · split at e
                · split at e
                  · cases e
                  · have := hone _ _ _ _ e
                    rw [this] at hk
                    exact absurd hk (by show ¬ ((2 : Int) = 1); decide)
                · split at e
                  · have := hone 1 _ _ _ e
                    rw [this] at hk
                    exact absurd hk (by show ¬ ((3 : Int) = 1); decide)
                  · cases e
    · cases h
  · rintro ⟨hw, hn⟩
    unfold nameB
    rw [lexS_word hw]
    show ((1 : Int) == 1 && s == s && !takenL.contains s) = true
    rw [hn]
    simp

/-- All tokens are such as a text's are. -/
def OkR (r : List Tok) : Prop := ∀ t ∈ r, TokOk t
/-- What is read has P; what is left are such tokens. -/
def Gives {α : Type} (P : α → Prop) (x : PR α) : Prop := ∀ a r1, x = .ok (a, r1) → P a ∧ OkR r1

theorem gives_then {α β : Type} {P : α → Prop} {Q : β → Prop} {x : PR α} {f : α → List Tok → PR β} (h : Gives P x) (hf : ∀ a r1, P a → OkR r1 → Gives Q (f a r1)) : Gives Q (x.then f) := by
  intro b r2 e
  obtain ⟨a, r1, e1, e2⟩ := then_ok_of e
  obtain ⟨h1, h2⟩ := h a r1 e1
  exact hf a r1 h1 h2 b r2 e2
theorem gives_ok {α : Type} {P : α → Prop} {a : α} {r : List Tok} (h : P a) (hr : OkR r) : Gives P (.ok (a, r) : PR α) := by intro b r1 e; cases e; exact ⟨h, hr⟩
theorem gives_err {α : Type} {P : α → Prop} {r : List Tok} : Gives P (.error r : PR α) := by intro b r1 e; cases e
theorem OkR.tail {t : Tok} {r : List Tok} (h : OkR (t :: r)) : OkR r := fun u hu => h u (by simp [hu])

theorem gives_name {r : List Tok} (h : OkR r) : Gives (fun s => nameB s = true) (pName r) := by
  cases r with
  | nil => exact gives_err
  | cons t r =>
    rw [pName]
    split
    · rename_i hc
      simp only [Bool.and_eq_true, beq_iff_eq, Bool.not_eq_true'] at hc
      refine gives_ok ((nameB_iff _).2 ⟨?_, hc.2⟩) h.tail
      rcases h t (by simp) with ⟨h1, h2, h3, c, r', e, hs, hw⟩ | ⟨h1, _⟩ | ⟨h1, _⟩
      · exact ⟨h3, ⟨c, r', e, hs⟩, hw⟩
      · rw [h1] at hc; exact absurd hc.1 (by decide)
      · rw [h1] at hc; exact absurd hc.1 (by decide)
    · exact gives_err
theorem gives_must {s : List UInt8} {r : List Tok} (h : OkR r) : Gives (fun _ => True) (pMust s r) := by
  cases r with
  | nil => exact gives_err
  | cons t r =>
    rw [pMust]
    split
    · exact gives_ok trivial h.tail
    · exact gives_err
theorem gives_num {lo hi : Int} {r : List Tok} (h : OkR r) : Gives (fun n => lo ≤ n ∧ n ≤ hi) (pNum lo hi r) := by
  cases r with
  | nil => exact gives_err
  | cons t r =>
    rw [pNum]
    split
    · rename_i hc
      simp only [Bool.and_eq_true, beq_iff_eq, decide_eq_true_eq] at hc
      exact gives_ok ⟨hc.1.2, hc.2⟩ h.tail
    · exact gives_err

theorem joinS_low {t : Tok} (h : lowKind t ≠ 0) : joinS (lowKind t) = 0 ∧ 4 ≤ lowKind t ∧ lowKind t ≤ 7 := by
  unfold lowKind at h ⊢
  split
  · decide
  · split
    · decide
    · split
      · decide
      · rename_i h1 h2 h3; rw [if_neg h1, if_neg h2, if_neg h3] at h; exact absurd rfl h

theorem rightB_bin (k : Int) (a b : Nd) (least deep : Int) (h : 4 ≤ k ∧ k ≤ 7) : rightB (.mk k [] [a, b]) least deep =
    (decide (0 ≤ (if joinS k + 1 < least then deep - 1 else deep)) && rightB a (joinS k + 1) (if joinS k + 1 < least then deep - 1 else deep) && rightB b (joinS k + 2) (if joinS k + 1 < least then deep - 1 else deep)) := by
  rw [rightB_eq, if_neg (by omega), if_neg (by omega), if_pos h]
  simp

/-- More parentheses may be; operators may bind less. -/
theorem rightB_mono (f : Nat) : ∀ (n : Nd) (least deep least' deep' : Int), SizeOf.sizeOf n ≤ f → least' ≤ least → deep ≤ deep' → rightB n least deep = true → rightB n least' deep' = true := by
  induction f with
  | zero => intro n least deep least' deep' h; cases n; simp at h
  | succ f ih =>
    intro n least deep least' deep' hf hl hd h
    cases n with
    | mk k s l =>
      rw [rightB_eq] at h ⊢
      split at h
      · rename_i h1; rw [if_pos h1]; exact h
      · rename_i h1
        rw [if_neg h1]
        split at h
        · rename_i h2; rw [if_pos h2]; exact h
        · rename_i h2
          rw [if_neg h2]
          split at h
          · rename_i h3
            rw [if_pos h3]
            split at h
            · rename_i a b
              simp only [Bool.and_eq_true, decide_eq_true_eq] at h ⊢
              simp at hf
              obtain ⟨⟨⟨q1, q2⟩, q3⟩, q4⟩ := h
              have hdd : (if joinS k + 1 < least then deep - 1 else deep) ≤ (if joinS k + 1 < least' then deep' - 1 else deep') := by
                split <;> split <;> omega
              exact ⟨⟨⟨by omega, q2⟩, ih a _ _ _ _ (by omega) (Int.le_refl _) hdd q3⟩, ih b _ _ _ _ (by omega) (Int.le_refl _) hdd q4⟩
            · cases h
          · cases h

/-- What stands together may stand where only such may: in parentheses one less. -/
theorem rightB_par {n : Nd} {deep : Int} (h : rightB n 1 (deep - 1) = true) (_ : 0 ≤ deep - 1) : rightB n 3 deep = true := by
  cases n with
  | mk k s l =>
    rw [rightB_eq] at h ⊢
    split at h
    · rename_i h1; rw [if_pos h1]; exact h
    · rename_i h1
      rw [if_neg h1]
      split at h
      · rename_i h2; rw [if_pos h2]; exact h
      · rename_i h2
        rw [if_neg h2]
        split at h
        · rename_i h3
          rw [if_pos h3]
          split at h
          · rename_i a b
            have hj : joinS k = 0 ∨ joinS k = 1 := by unfold joinS; split <;> simp
            rw [if_neg (by omega)] at h
            rw [if_pos (by omega)]
            exact h
          · cases h
        · cases h

theorem gives_exprs (m : Nat) : ∀ (d : Nat) (r : List Tok), r.length ≤ m → d ≤ 64 → OkR r →
    Gives (fun e => rightB e.nd 3 (64 - d) = true) (pOne d r) ∧ (∀ n : Ex, rightB n.nd 2 (64 - d) = true → Gives (fun e => rightB e.nd 2 (64 - d) = true) (pAnd d n r)) ∧
    (∀ n : Ex, rightB n.nd 1 (64 - d) = true → Gives (fun e => rightB e.nd 1 (64 - d) = true) (pLow d n r)) := by
  induction m with
  | zero =>
    intro d r hl hd h
    obtain rfl : r = [] := List.length_eq_zero_iff.1 (by omega)
    exact ⟨gives_err, fun n hn => gives_ok hn h, fun n hn => gives_ok hn h⟩
  | succ m ih =>
    have both : ∀ (d : Nat) (r : List Tok), r.length ≤ m → d ≤ 64 → OkR r → Gives (fun e => rightB e.nd 2 (64 - d) = true) (pBoth d r) := by
      intro d r hl hd h a r2 e
      rw [pBoth] at e
      obtain ⟨n, r1, e1, e2⟩ := then_ok_of e
      obtain ⟨h1, h2⟩ := (ih d r hl hd h).1 n r1 e1
      exact (ih d r1 (by have := pOne_len e1; omega) hd h2).2.1 n (rightB_mono _ _ _ _ _ _ (Nat.le_refl _) (by decide) (Int.le_refl _) h1) a r2 e2
    have expr : ∀ (d : Nat) (r : List Tok), r.length ≤ m → d ≤ 64 → OkR r → Gives (fun e => rightB e.nd 1 (64 - d) = true) (pEx d r) := by
      intro d r hl hd h a r2 e
      rw [pEx] at e
      obtain ⟨n, r1, e1, e2⟩ := then_ok_of e
      obtain ⟨h1, h2⟩ := both d r hl hd h n r1 e1
      exact (ih d r1 (by have := pBoth_len e1; omega) hd h2).2.2 n (rightB_mono _ _ _ _ _ _ (Nat.le_refl _) (by decide) (Int.le_refl _) h1) a r2 e2
    intro d r hl hd h
    cases r with
    | nil => exact ⟨gives_err, fun n hn => gives_ok hn h, fun n hn => gives_ok hn h⟩
    | cons t r =>
      have hl' : r.length ≤ m := by simpa using hl
      refine ⟨?_, fun n hn => ?_, fun n hn => ?_⟩
      · rw [pOne_cons]
        split
        · exact gives_ok (by rw [Ex.nd, rightB_eq]; rfl) h.tail
        · split
          · refine gives_then (gives_name h.tail) fun s r1 hs hr => gives_ok ?_ hr
            rw [Ex.nd, rightB_eq, if_pos (by simp), hs]; rfl
          · split
            · split
              · exact gives_err
              · refine gives_then (expr (d + 1) r hl' (by omega) h.tail) fun e r1 he hr => gives_then (gives_must hr) fun _ r2 _ hr2 => gives_ok ?_ hr2
                refine rightB_par ?_ (by omega)
                rw [show (64 : Int) - (d : Int) - 1 = 64 - ((d + 1 : Nat) : Int) by omega]
                exact he
            · refine gives_then (gives_name h) fun s r1 hs hr => gives_ok ?_ hr
              rw [Ex.nd, rightB_eq, if_pos (by simp), hs]; rfl
      · rw [pAnd_cons]
        split
        · intro a r2 e
          obtain ⟨k, r3, e1, e2⟩ := then_ok_of e
          obtain ⟨h1, h2⟩ := (ih d r hl' hd h.tail).1 k r3 e1
          refine (ih d r3 (by have := pOne_len e1; omega) hd h2).2.1 (.bin 4 n k) ?_ a r2 e2
          rw [Ex.nd, rightB_bin _ _ _ _ _ (by decide)]
          have hj : joinS 4 = 1 := rfl
          rw [hj, if_neg (by decide)]
          simp only [Bool.and_eq_true, decide_eq_true_eq]
          exact ⟨⟨by omega, hn⟩, h1⟩
        · exact gives_ok hn h
      · rw [pLow_cons]
        split
        · rename_i hk
          intro a r2 e
          obtain ⟨k, r3, e1, e2⟩ := then_ok_of e
          obtain ⟨h1, h2⟩ := both d r hl' hd h.tail k r3 e1
          refine (ih d r3 (by have := pBoth_len e1; omega) hd h2).2.2 (.bin (lowKind t) n k) ?_ a r2 e2
          obtain ⟨hj, hk4, hk7⟩ := joinS_low hk
          rw [Ex.nd, rightB_bin _ _ _ _ _ ⟨hk4, hk7⟩, hj, if_neg (by decide)]
          simp only [Bool.and_eq_true, decide_eq_true_eq]
          exact ⟨⟨by omega, hn⟩, h1⟩
        · exact gives_ok hn h

theorem gives_expr (d : Nat) {r : List Tok} (hd : d ≤ 64) (h : OkR r) : Gives (fun e => rightB e.nd 1 (64 - d) = true) (pExpr d r) := by
  rw [pExpr_eq]
  intro a r2 e
  rw [pEx, pBoth, PR.then_then] at e
  obtain ⟨n, r1, e1, e2⟩ := then_ok_of e
  obtain ⟨k, r3, e3, e4⟩ := then_ok_of e2
  obtain ⟨h1, h2⟩ := (gives_exprs r.length d r (Nat.le_refl _) hd h).1 n r1 e1
  obtain ⟨h3, h4⟩ := (gives_exprs r1.length d r1 (Nat.le_refl _) hd h2).2.1 n (rightB_mono _ _ _ _ _ _ (Nat.le_refl _) (by decide) (Int.le_refl _) h1) k r3 e3
  exact (gives_exprs r3.length d r3 (Nat.le_refl _) hd h4).2.2 k (rightB_mono _ _ _ _ _ _ (Nat.le_refl _) (by decide) (Int.le_refl _) h3) a r2 e4
theorem gives_expr0 {r : List Tok} (h : OkR r) : Gives (fun e => rightB e.nd 1 64 = true) (pExpr 0 r) := gives_expr 0 (by decide) h
theorem gives_expr1 {r : List Tok} (h : OkR r) : Gives (fun e => rightB e.nd 1 63 = true) (pExpr 1 r) := gives_expr 1 (by decide) h

theorem gives_layers {r : List Tok} (h : OkR r) : Gives (fun nk => 0 ≤ nk.1 ∧ nk.1 ≤ 32767 ∧ 0 ≤ nk.2 ∧ nk.2 ≤ 32767) (pLayers r) :=
  gives_then (gives_num h) fun _ _ hn hr => gives_then (gives_must hr) fun _ _ _ hr => gives_then (gives_num hr) fun _ _ hk hr => gives_ok ⟨hn.1, hn.2, hk.1, hk.2⟩ hr
theorem gives_semi {x : St} {r : List Tok} (hx : fitB x = true) (h : OkR r) : Gives (fun x => fitB x = true) (pSemi x r) := gives_then (gives_must h) fun _ _ _ hr => gives_ok hx hr

theorem ruleNo_range {t : Tok} (h : ruleNo t ≠ 0) : 1 ≤ ruleNo t ∧ ruleNo t ≤ 6 := by
  unfold ruleNo at h ⊢
  repeat' split
  all_goals first | decide | skip
  rename_i h1 h2 h3 h4 h5 h6
  rw [if_neg h1, if_neg h2, if_neg h3, if_neg h4, if_neg h5, if_neg h6] at h
  exact absurd rfl h

theorem noneB_zero : noneB .zero = true := rfl

theorem gives_stmt {r : List Tok} (h : OkR r) : Gives (fun x => fitB x = true) (pStmt r) := by
  cases r with
  | nil => exact gives_err
  | cons t r =>
    simp only [pStmt]
    split
    · exact gives_err
    · rename_i hk
      refine gives_then (gives_name h.tail) fun s r1 hs hr1 => gives_then (gives_must hr1) fun _ r2 _ hr2 => ?_
      unfold sBody
      split
      · refine gives_then (gives_layers hr2) fun nk r3 hnk hr3 => gives_semi ?_ hr3
        simp [fitB, hs, layersB, noneB_zero, St.zero, hnk]
      · split
        · refine gives_then (gives_expr0 hr2) fun e r3 he hr3 => gives_semi ?_ hr3
          simp [fitB, hs, noneB_zero, St.zero, he]
        · split
          · cases r2 with
            | nil => exact gives_err
            | cons t2 r2 =>
              simp only [sCheck]
              split
              · exact gives_err
              · rename_i hrl
                have hru := ruleNo_range hrl
                refine gives_then (gives_must hr2.tail) fun _ r3 _ hr3 => gives_then (gives_expr1 hr3) fun a r4 ha hr4 => gives_then (gives_must hr4) fun _ r5 _ hr5 => ?_
                unfold sCheck1
                split
                · rename_i h3
                  have h3' : 3 < ruleNo t2 := h3
                  refine gives_then (gives_expr1 hr5) fun b r6 hb hr6 => gives_then (gives_must hr6) fun _ r7 _ hr7 => gives_then (gives_num hr7) fun n r8 hn hr8 => gives_then (gives_must hr8) fun _ r9 _ hr9 => gives_semi ?_ hr9
                  simp [fitB, twoB, hs, St.zero, ha, hb, hn, hru, h3']
                · rename_i h3
                  have h3' : ruleNo t2 ≤ 3 := by have : ¬ 3 < ruleNo t2 := h3; omega
                  refine gives_then (gives_num hr5) fun n r8 hn hr8 => gives_then (gives_must hr8) fun _ r9 _ hr9 => gives_semi ?_ hr9
                  simp [fitB, twoB, hs, St.zero, ha, hn, hru, h3', noneB_zero]
          · split
            · refine gives_then (gives_expr0 hr2) fun e r3 he hr3 => gives_then (gives_must hr3) fun _ r4 _ hr4 => gives_then (gives_num hr4) fun n r5 hn hr5 => ?_
              cases r5 with
              | nil => exact gives_err
              | cons t5 r5 =>
                simp only [sSmall1]
                split
                · refine gives_then (gives_num hr5.tail) fun d r6 hd hr6 => gives_semi ?_ hr6
                  simp [fitB, hs, noneB_zero, St.zero, he, hn, hd]
                · refine gives_semi ?_ hr5
                  simp [fitB, hs, noneB_zero, St.zero, he, hn]
            · refine gives_then (gives_expr0 hr2) fun e r3 he hr3 => gives_then (gives_must hr3) fun _ r4 _ hr4 => gives_then (gives_layers hr4) fun nk r5 hnk hr5 => ?_
              cases r5 with
              | nil => exact gives_err
              | cons t5 r5 =>
                simp only [sWrite1]
                split
                · refine gives_semi ?_ hr5.tail
                  simp [fitB, hs, layersB, noneB_zero, St.zero, he, hnk]
                · refine gives_semi ?_ hr5
                  simp [fitB, hs, layersB, noneB_zero, St.zero, he, hnk]

theorem deck_fits (f : Nat) : ∀ (r : List Tok) (acc l : List St), OkR r → (∀ x ∈ acc, fitB x = true) → acc.length ≤ 1000 → pDeckF f r acc = .ok l → (∀ x ∈ l, fitB x = true) ∧ l.length ≤ 1000 := by
  induction f with
  | zero => intro r acc l _ ha hl h; cases h; exact ⟨ha, hl⟩
  | succ f ih =>
    intro r acc l hr ha hl h
    cases r with
    | nil => cases h; exact ⟨ha, hl⟩
    | cons t r =>
      rw [pDeckF] at h
      split at h
      · cases h
      · rename_i h1000
        split at h
        · cases h
        · rename_i x r1 hp
          obtain ⟨h1, h2⟩ := gives_stmt hr x r1 hp
          refine ih r1 (acc ++ [x]) l h2 ?_ (by simp; omega) h
          intro y hy
          rcases List.mem_append.1 hy with hy | hy
          · exact ha y hy
          · rw [List.mem_singleton.1 hy]; exact h1

theorem lexS_ok {s : List UInt8} {ts : List Tok} (h : lexS s = .ok ts) : OkR ts ∧ (ts.map fun t => t.text.length).sum ≤ s.length ∧ (∀ t ∈ ts, t.pos ≤ s.length) ∧ s.length ≤ 65536 := by
  rw [lexS] at h
  split at h
  · cases h
  · obtain ⟨us, e, h1, h2⟩ := lexF_toks _ _ _ _ _ h
    have e' : ts = us := by simpa using e
    subst e'
    exact ⟨fun t ht => (h1 t ht).1, h2, fun t ht => by have := (h1 t ht).2.2; omega, by omega⟩

/-- What is parsed are statements. -/
theorem parse_fits {s : List UInt8} {l : List St} (h : parseS s = .ok l) : (∀ x ∈ l, fitB x = true) ∧ l.length ≤ 1000 ∧ s.length ≤ 65536 := by
  rw [parseS] at h
  split at h
  · cases h
  · rename_i ts hl
    split at h
    · cases h
    · rename_i m hm
      cases h
      have ho := lexS_ok hl
      obtain ⟨h1, h2⟩ := deck_fits _ _ _ _ ho.1 (by simp) (by simp) hm
      exact ⟨h1, h2, ho.2.2.2⟩
end Go.Proofs.YtdjklnlkocconaaGreatDoor
