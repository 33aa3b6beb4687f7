/-
  Plain Lean: the printed text's tokens. No program in sight.
  Plain Lean: what is printed is parsed back. No program in sight.
  Plain Lean: how long the text of what was parsed is. No program in sight.
  Plain Lean: two decks, one behind the other; a deck's text, cut off. No program in sight.
-/
import Derived.Test.YtdjklnlkocconaaGreatDoorPlAZ
import Derived.Lib.ItoaMem
namespace Go.Proofs.YtdjklnlkocconaaGreatDoor

abbrev TK := Int × List UInt8 × Int

/-- What a text's tokens are, wherever it stands. -/
def LexIs (s : List UInt8) (us : List TK) : Prop := ∀ (f k : Nat) (acc : List Tok), s.length < f → ∃ ts, lexF f s k acc = .ok (acc ++ ts) ∧ ts.map tk = us

/-- No word and no number goes on here. -/
def Sep (q : List UInt8) : Prop := ∀ c r, q = c :: r → wordB c.toNat = false

theorem sep_cons {c : UInt8} {r : List UInt8} (h : wordB c.toNat = false) : Sep (c :: r) := by intro c' r' e; cases e; exact h

theorem run_stop (p : UInt8 → Bool) (l q : List UInt8) (hl : ∀ b ∈ l, p b = true) (hq : ∀ c r, q = c :: r → p c = false) : (l ++ q).takeWhile p = l := by
  induction l with
  | nil =>
    cases q with
    | nil => rfl
    | cons c r => simp [hq c r rfl]
  | cons a l ih => simp [hl a (by simp), ih (fun b hb => hl b (by simp [hb]))]

theorem lexIs_nil : LexIs [] [] := fun f k acc _ => ⟨[], by rw [lexF_nil]; simp, rfl⟩
theorem lexIs_blank {c : UInt8} {q : List UInt8} {us : List TK} (hc : blankB c.toNat = true) (h : LexIs q us) : LexIs (c :: q) us := by
  intro f k acc hf
  cases f with
  | zero => simp at hf
  | succ f =>
    rw [lexF_blank hc]
    exact h f (k + 1) acc (by simpa using hf)
theorem lexIs_sign {c : UInt8} {q : List UInt8} {us : List TK} (hc : signB c.toNat = true) (h : LexIs q us) : LexIs (c :: q) ((3, [c], 0) :: us) := by
  intro f k acc hf
  cases f with
  | zero => simp at hf
  | succ f =>
    rw [lexF_sign hc]
    obtain ⟨ts, e1, e2⟩ := h f (k + 1) (acc ++ [⟨3, [c], 0, k⟩]) (by simpa using hf)
    exact ⟨⟨3, [c], 0, k⟩ :: ts, by rw [e1]; simp, by simp [e2, tk]⟩
theorem lexIs_word {s q : List UInt8} {us : List TK} (hs : WordOk s) (hq : Sep q) (h : LexIs q us) : LexIs (s ++ q) ((1, s, 0) :: us) := by
  obtain ⟨hl, ⟨c, r, rfl, hc⟩, hw⟩ := hs
  intro f k acc hf
  cases f with
  | zero => simp at hf
  | succ f =>
    have hrun : wordRun (c :: (r ++ q)) = c :: r := run_stop (fun b => wordB b.toNat) (c :: r) q hw hq
    rw [List.cons_append, lexF_word hc, hrun, if_neg (by omega)]
    rw [show (c :: (r ++ q)).drop (c :: r).length = q from List.drop_left (l₁ := c :: r)]
    obtain ⟨ts, e1, e2⟩ := h f (k + (c :: r).length) (acc ++ [⟨1, c :: r, 0, k⟩]) (by simp at hf; omega)
    exact ⟨⟨1, c :: r, 0, k⟩ :: ts, by rw [e1]; simp, by simp [e2, tk]⟩

theorem dig_val (i : Nat) (h : i < 10) : (UInt8.ofNat (48 + i)).toNat = 48 + i := by
  have : ∀ j : Fin 10, (UInt8.ofNat (48 + j.val)).toNat = 48 + j.val := by decide
  exact this ⟨i, h⟩
theorem decVal_tail (a : Nat) (l : List UInt8) (c : UInt8) : decVal a (l ++ [c]) = decStep (decVal a l) c := by
  rw [decVal, List.foldl_append]; rfl

/-- A number's digits: all are digits, they spell it, and nought stands ahead of none. -/
theorem dec_facts (u : Nat) : (∃ c r, Lib.decDigits u = c :: r ∧ digitB c.toNat = true ∧ (u ≠ 0 → c.toNat ≠ 48)) ∧ (∀ b ∈ Lib.decDigits u, digitB b.toNat = true) ∧ decVal 0 (Lib.decDigits u) = u := by
  induction u using Nat.strongRecOn with
  | ind u ih =>
    by_cases h : u < 10
    · rw [Lib.decDigits_one h]
      have hv := dig_val u h
      refine ⟨⟨_, [], rfl, ?_, ?_⟩, ?_, ?_⟩
      · simp [digitB]; omega
      · intro h0; rw [hv]; omega
      · intro b hb; rw [List.mem_singleton.1 hb]; simp [digitB]; omega
      · rw [decVal_cons, decVal_nil, decStep, hv]; omega
    · have e : Lib.decDigits u = Lib.decDigits (u / 10) ++ [UInt8.ofNat (48 + u % 10)] := by rw [Lib.decDigits, dif_neg h]
      obtain ⟨⟨c, r, e1, hc, hz⟩, ha, hv⟩ := ih (u / 10) (by omega)
      have hd := dig_val (u % 10) (by omega)
      refine ⟨⟨c, r ++ [UInt8.ofNat (48 + u % 10)], by rw [e, e1]; rfl, hc, fun _ => hz (by omega)⟩, ?_, ?_⟩
      · intro b hb
        rw [e] at hb
        rcases List.mem_append.1 hb with hb | hb
        · exact ha b hb
        · rw [List.mem_singleton.1 hb]; simp [digitB]; omega
      · rw [e, decVal_tail, hv, decStep, hd]; omega

theorem numT_nat (n : Nat) : numT n = Lib.decDigits n := Lib.itoa_nonneg n

theorem digit_word {c : UInt8} (h : wordB c.toNat = false) : digitB c.toNat = false := by
  simp only [wordB, Bool.or_eq_false_iff] at h
  exact h.1.2

theorem lexIs_num {n : Int} {q : List UInt8} {us : List TK} (h0 : 0 ≤ n) (hn : n ≤ 2147483647) (hq : Sep q) (h : LexIs q us) : LexIs (numT n ++ q) ((2, numT n, n) :: us) := by
  obtain ⟨m, rfl⟩ : ∃ m : Nat, n = m := ⟨n.toNat, by omega⟩
  rw [numT_nat]
  obtain ⟨⟨c, r, e, hc, hz⟩, ha, hv⟩ := dec_facts m
  rw [e] at ha hv ⊢
  intro f k acc hf
  cases f with
  | zero => simp at hf
  | succ f =>
    have hrun : digitRun (c :: (r ++ q)) = c :: r := run_stop (fun b => digitB b.toNat) (c :: r) q ha (fun c r e => digit_word (hq c r e))
    have hno : ¬ (2147483647 < decVal 0 (c :: r) ∨ (1 < (c :: r).length ∧ c.toNat = 48)) := by
      rintro (h1 | ⟨h1, h2⟩)
      · omega
      · apply hz ?_ h2
        intro h0
        subst h0
        rw [Lib.decDigits_one (by omega)] at e
        cases e
        simp at h1
    rw [List.cons_append, lexF_num hc, hrun, if_neg hno]
    rw [show (c :: (r ++ q)).drop (c :: r).length = q from List.drop_left (l₁ := c :: r)]
    obtain ⟨ts, e1, e2⟩ := h f (k + (c :: r).length) (acc ++ [⟨2, c :: r, decVal 0 (c :: r), k⟩]) (by simp at hf; omega)
    exact ⟨⟨2, c :: r, decVal 0 (c :: r), k⟩ :: ts, by rw [e1]; simp, by simp [e2, tk, hv]⟩

def opW (k : Int) : List UInt8 := if k = 4 then w_and else if k = 5 then w_or else if k = 6 then w_not else w_xor

def toksT : Nd → Int → List TK
  | .mk k s l, level =>
    if k = 1 then [(1, s, 0)] else if k = 2 then [(1, w_empty, 0)] else if k = 3 then [(1, w_boxes, 0), (1, s, 0)]
    else match l with
      | [a, b] => (if joinS k < level then [(3, [40], 0)] else []) ++ toksT a (joinS k) ++ [(1, opW k, 0)] ++ toksT b (joinS k + 1) ++ (if joinS k < level then [(3, [41], 0)] else [])
      | _ => []

theorem toksT_eq (k : Int) (s : List UInt8) (l : List Nd) (level : Int) : toksT (.mk k s l) level =
    if k = 1 then [(1, s, 0)] else if k = 2 then [(1, w_empty, 0)] else if k = 3 then [(1, w_boxes, 0), (1, s, 0)]
    else match l with
      | [a, b] => (if joinS k < level then [(3, [40], 0)] else []) ++ toksT a (joinS k) ++ [(1, opW k, 0)] ++ toksT b (joinS k + 1) ++ (if joinS k < level then [(3, [41], 0)] else [])
      | _ => [] := by rw [toksT.eq_def]
theorem textP_un (k : Int) (s : List UInt8) (l : List Nd) (level : Int) : textP (.mk k s l) level =
    if k = 1 then s else if k = 2 then w_empty else if k = 3 then [98, 111, 120, 101, 115, 32] ++ s
    else match l with
      | [a, b] => (if joinS k < level then [40] else []) ++ textP a (joinS k) ++ joinW k ++ textP b (joinS k + 1) ++ (if joinS k < level then [41] else [])
      | _ => [] := by rw [textP.eq_def]; rfl

theorem w_ok {s : List UInt8} (h : s.length ≤ 32 ∧ (s.head?.any fun c => smallB c.toNat) = true ∧ (s.all fun b => wordB b.toNat) = true) : WordOk s := by
  obtain ⟨h1, h2, h3⟩ := h
  refine ⟨h1, ?_, fun b hb => List.all_eq_true.1 h3 b hb⟩
  cases s with
  | nil => simp at h2
  | cons c r => exact ⟨c, r, rfl, by simpa using h2⟩

theorem joinW_op {k : Int} (h : 4 ≤ k ∧ k ≤ 7) : joinW k = 32 :: (opW k ++ [32]) ∧ WordOk (opW k) := by
  obtain rfl | rfl | rfl | rfl : k = 4 ∨ k = 5 ∨ k = 6 ∨ k = 7 := by omega
  all_goals exact ⟨rfl, w_ok (by decide)⟩

theorem nameB_word {s : List UInt8} (h : nameB s = true) : WordOk s := ((nameB_iff s).1 h).1

theorem lex_text (f : Nat) : ∀ (n : Nd) (lvl least deep : Int) (q : List UInt8) (us : List TK), SizeOf.sizeOf n ≤ f → rightB n least deep = true → Sep q → LexIs q us → LexIs (textP n lvl ++ q) (toksT n lvl ++ us) := by
  induction f with
  | zero => intro n lvl least deep q us h; cases n; simp at h
  | succ f ih =>
    intro n lvl least deep q us hf hr hq hl
    cases n with
    | mk k s l =>
      rw [rightB_eq] at hr
      rw [textP_un, toksT_eq]
      split at hr
      · rename_i h1
        simp only [Bool.and_eq_true] at hr
        rcases h1 with rfl | rfl
        · exact lexIs_word (nameB_word hr.1) hq hl
        · have := lexIs_word (s := w_boxes) (w_ok (by decide)) (sep_cons (by decide)) (lexIs_blank (c := 32) (by decide) (lexIs_word (nameB_word hr.1) hq hl))
          exact this
      · rename_i h1
        have h11 : ¬ k = 1 := fun e => h1 (.inl e)
        have h13 : ¬ k = 3 := fun e => h1 (.inr e)
        rw [if_neg h11, if_neg h11, if_neg h13, if_neg h13]
        split at hr
        · rename_i h2
          rw [if_pos h2, if_pos h2]
          exact lexIs_word (s := w_empty) (w_ok (by decide)) hq hl
        · rename_i h2
          rw [if_neg h2, if_neg h2]
          split at hr
          · rename_i h3
            split at hr
            · rename_i a b
              simp only [Bool.and_eq_true] at hr
              obtain ⟨⟨⟨q1, q2⟩, q3⟩, q4⟩ := hr
              obtain ⟨hj, hw⟩ := joinW_op h3
              simp at hf
              have ha := fun q us => ih a (joinS k) _ _ q us (by omega) q3
              have hb := fun q us => ih b (joinS k + 1) _ _ q us (by omega) q4
              rw [hj]
              have core : ∀ q us, Sep q → LexIs q us → LexIs (textP a (joinS k) ++ (32 :: (opW k ++ [32])) ++ textP b (joinS k + 1) ++ q) (toksT a (joinS k) ++ [(1, opW k, 0)] ++ toksT b (joinS k + 1) ++ us) := by
                intro q us hq hl
                have h1 := ha _ _ (sep_cons (c := 32) (by decide)) (lexIs_blank (c := 32) (by decide) (lexIs_word hw (sep_cons (c := 32) (by decide)) (lexIs_blank (c := 32) (by decide) (hb q us hq hl))))
                simpa using h1
              by_cases hc : joinS k < lvl
              · have h1 := lexIs_sign (c := 40) (by decide) (core (41 :: q) ((3, [41], 0) :: us) (sep_cons (by decide)) (lexIs_sign (c := 41) (by decide) hl))
                simpa [hc] using h1
              · simpa [hc] using core q us hq hl
            · cases hr
          · cases hr

def kindW (k : Int) : List UInt8 := if k = 1 then w_input else if k = 2 then w_let else if k = 3 then w_check else if k = 4 then w_small else w_write

def tSign (c : UInt8) : TK := (3, [c], 0)
def tNum (n : Int) : TK := (2, numT n, n)

def toksB (x : St) : List TK :=
  if x.kind = 1 then [tNum x.n, tSign 47, tNum x.k, tSign 59]
  else if x.kind = 2 then toksT x.a 0 ++ [tSign 59]
  else if x.kind = 3 then (1, ruleW x.rule, 0) :: tSign 40 :: (toksT x.a 0 ++ ((if 3 < x.rule then tSign 44 :: toksT x.b 0 else []) ++ [tSign 44, tNum x.n, tSign 41, tSign 59]))
  else if x.kind = 4 then toksT x.a 0 ++ (tSign 44 :: tNum x.n :: ((if x.d = 1 then [] else [tSign 47, tNum x.d]) ++ [tSign 59]))
  else toksT x.a 0 ++ (tSign 44 :: tNum x.n :: tSign 47 :: tNum x.k :: ((if x.snap then [(1, w_snap, 0)] else []) ++ [tSign 59]))

def toksS (x : St) : List TK := (1, kindW x.kind, 0) :: (1, x.name, 0) :: tSign 61 :: toksB x

theorem lexIs_end {q : List UInt8} {us : List TK} (h : LexIs q us) : LexIs (59 :: 10 :: q) (tSign 59 :: us) := lexIs_sign (c := 59) (by decide) (lexIs_blank (c := 10) (by decide) h)
theorem lexIs_comma {q : List UInt8} {us : List TK} (h : LexIs q us) : LexIs (44 :: 32 :: q) (tSign 44 :: us) := lexIs_sign (c := 44) (by decide) (lexIs_blank (c := 32) (by decide) h)

theorem ruleW_ok {k : Int} (h : 1 ≤ k ∧ k ≤ 6) : WordOk (ruleW k) := by
  obtain rfl | rfl | rfl | rfl | rfl | rfl : k = 1 ∨ k = 2 ∨ k = 3 ∨ k = 4 ∨ k = 5 ∨ k = 6 := by omega
  all_goals exact w_ok (by decide)

theorem lex_head {x : St} {w q : List UInt8} {us : List TK} (hw : WordOk w) (hn : nameB x.name = true) (h : LexIs q us) : LexIs (w ++ 32 :: (x.name ++ 32 :: 61 :: 32 :: q)) ((1, w, 0) :: (1, x.name, 0) :: tSign 61 :: us) :=
  lexIs_word hw (sep_cons (by decide)) (lexIs_blank (c := 32) (by decide) (lexIs_word (nameB_word hn) (sep_cons (by decide)) (lexIs_blank (c := 32) (by decide) (lexIs_sign (c := 61) (by decide) (lexIs_blank (c := 32) (by decide) h)))))

theorem sep59 {q : List UInt8} : Sep (59 :: q) := sep_cons (by decide)
theorem sep44 {q : List UInt8} : Sep (44 :: q) := sep_cons (by decide)
theorem sep47 {q : List UInt8} : Sep (47 :: q) := sep_cons (by decide)
theorem sep41 {q : List UInt8} : Sep (41 :: q) := sep_cons (by decide)
theorem sep40 {q : List UInt8} : Sep (40 :: q) := sep_cons (by decide)
theorem sep32 {q : List UInt8} : Sep (32 :: q) := sep_cons (by decide)

theorem lex_expr {n : Nd} {least deep : Int} {q : List UInt8} {us : List TK} (h : rightB n least deep = true) (hq : Sep q) (hl : LexIs q us) : LexIs (textP n 0 ++ q) (toksT n 0 ++ us) := lex_text _ n 0 least deep q us (Nat.le_refl _) h hq hl

theorem lex_line {x : St} {q : List UInt8} {us : List TK} (hx : fitB x = true) (h : LexIs q us) : LexIs (lineP x ++ q) (toksS x ++ us) := by
  obtain ⟨kind, name, a, b, rule, n, d, k, snap⟩ := x
  unfold fitB at hx
  rw [Bool.and_eq_true] at hx
  obtain ⟨hn, hx⟩ := hx
  simp only at hx
  have hnum : ∀ (z : Int) (q : List UInt8) (us : List TK), 0 ≤ z ∧ z ≤ 2147483647 → Sep q → LexIs q us → LexIs (numT z ++ q) (tNum z :: us) := fun z q us hz hq hl => lexIs_num hz.1 hz.2 hq hl
  split at hx
  · rename_i h1
    obtain rfl : kind = 1 := h1
    simp only [Bool.and_eq_true, layersB, decide_eq_true_eq] at hx
    have := lex_head (x := ⟨1, name, a, b, rule, n, d, k, snap⟩) (w := w_input) (w_ok (by decide)) hn (hnum n _ _ (by omega) sep47 (lexIs_sign (c := 47) (by decide) (hnum k _ _ (by omega) sep59 (lexIs_end h))))
    simpa [lineP, toksS, toksB, kindW, stWord, w_input, tSign] using this
  · rename_i h1
    have h1' : ¬ kind = 1 := h1
    split at hx
    · rename_i h2
      obtain rfl : kind = 2 := h2
      simp only [Bool.and_eq_true] at hx
      have := lex_head (x := ⟨2, name, a, b, rule, n, d, k, snap⟩) (w := w_let) (w_ok (by decide)) hn (lex_expr (by exact hx.1.1.1.1.1.1) sep59 (lexIs_end h))
      simpa [lineP, toksS, toksB, kindW, stWord, w_let, tSign] using this
    · rename_i h2
      have h2' : ¬ kind = 2 := h2
      split at hx
      · rename_i h3
        obtain rfl : kind = 3 := h3
        simp only [Bool.and_eq_true, decide_eq_true_eq, twoB, Bool.or_eq_true] at hx
        obtain ⟨⟨⟨⟨⟨⟨hr, ht⟩, ha⟩, hnn⟩, _⟩, _⟩, _⟩ := hx
        have hrw := ruleW_ok hr
        have tl := hnum n _ _ (by omega) sep41 (lexIs_sign (c := 41) (by decide) (lexIs_end h))
        rcases ht with ⟨hr3, hb⟩ | ⟨hr3, _⟩
        · have := lex_head (x := ⟨3, name, a, b, rule, n, d, k, snap⟩) (w := w_check) (w_ok (by decide)) hn (lexIs_word hrw sep40 (lexIs_sign (c := 40) (by decide) (lex_expr ha sep44 (lexIs_comma (lex_expr hb sep44 (lexIs_comma tl))))))
          have hno : ¬ (rule < 1 ∨ 6 < rule) := by omega
          simpa [lineP, toksS, toksB, kindW, stWord, w_check, tSign, hno, hr3] using this
        · have := lex_head (x := ⟨3, name, a, b, rule, n, d, k, snap⟩) (w := w_check) (w_ok (by decide)) hn (lexIs_word hrw sep40 (lexIs_sign (c := 40) (by decide) (lex_expr ha sep44 (lexIs_comma tl))))
          have hno : ¬ (rule < 1 ∨ 6 < rule) := by omega
          have hr3' : ¬ 3 < rule := by omega
          simpa [lineP, toksS, toksB, kindW, stWord, w_check, tSign, hno, hr3'] using this
      · rename_i h3
        have h3' : ¬ kind = 3 := h3
        split at hx
        · rename_i h4
          obtain rfl : kind = 4 := h4
          simp only [Bool.and_eq_true, decide_eq_true_eq] at hx
          obtain ⟨⟨⟨⟨⟨⟨ha, _⟩, _⟩, hnn⟩, hd⟩, _⟩, _⟩ := hx
          by_cases hd1 : d = 1
          · have := lex_head (x := ⟨4, name, a, b, rule, n, d, k, snap⟩) (w := w_small) (w_ok (by decide)) hn (lex_expr ha sep44 (lexIs_comma (hnum n _ _ (by omega) sep59 (lexIs_end h))))
            simpa [lineP, toksS, toksB, kindW, stWord, w_small, tSign, hd1] using this
          · have := lex_head (x := ⟨4, name, a, b, rule, n, d, k, snap⟩) (w := w_small) (w_ok (by decide)) hn (lex_expr ha sep44 (lexIs_comma (hnum n _ _ (by omega) sep47 (lexIs_sign (c := 47) (by decide) (hnum d _ _ (by omega) sep59 (lexIs_end h))))))
            simpa [lineP, toksS, toksB, kindW, stWord, w_small, tSign, hd1] using this
        · rename_i h4
          have h4' : ¬ kind = 4 := h4
          split at hx
          · rename_i h5
            obtain rfl : kind = 5 := h5
            simp only [Bool.and_eq_true, layersB, decide_eq_true_eq] at hx
            obtain ⟨⟨⟨hL, ha⟩, _⟩, _⟩ := hx
            cases snap with
            | true =>
              have := lex_head (x := ⟨5, name, a, b, rule, n, d, k, true⟩) (w := w_write) (w_ok (by decide)) hn (lex_expr ha sep44 (lexIs_comma (hnum n _ _ (by omega) sep47 (lexIs_sign (c := 47) (by decide) (hnum k _ _ (by omega) sep32 (lexIs_blank (c := 32) (by decide) (lexIs_word (s := w_snap) (w_ok (by decide)) sep59 (lexIs_end h))))))))
              simpa [lineP, toksS, toksB, kindW, stWord, w_write, w_snap, tSign] using this
            | false =>
              have := lex_head (x := ⟨5, name, a, b, rule, n, d, k, false⟩) (w := w_write) (w_ok (by decide)) hn (lex_expr ha sep44 (lexIs_comma (hnum n _ _ (by omega) sep47 (lexIs_sign (c := 47) (by decide) (hnum k _ _ (by omega) sep59 (lexIs_end h))))))
              simpa [lineP, toksS, toksB, kindW, stWord, w_write, tSign] using this
          · cases hx

/-- All statements' tokens. -/
theorem lex_lines (l : List St) : (∀ x ∈ l, fitB x = true) → LexIs (l.flatMap lineP) (l.flatMap toksS) := by
  induction l with
  | nil => intro _; exact lexIs_nil
  | cons x l ih =>
    intro h
    rw [List.flatMap_cons, List.flatMap_cons]
    exact lex_line (h x (by simp)) (ih fun y hy => h y (by simp [hy]))
end Go.Proofs.YtdjklnlkocconaaGreatDoor

namespace Go.Proofs.YtdjklnlkocconaaGreatDoor

theorem peel {r : List Tok} {u : TK} {us : List TK} (h : r.map tk = u :: us) : ∃ t r1, r = t :: r1 ∧ tk t = u ∧ r1.map tk = us := by
  cases r with
  | nil => cases h
  | cons t r1 => injection h with h1 h2; exact ⟨t, r1, rfl, h1, h2⟩

theorem is_of {t : Tok} {k : Int} {s : List UInt8} {n : Int} (h : tk t = (k, s, n)) (w : List UInt8) : isT t w = (k != 2 && s == w) := by
  injection h with h1 h2
  injection h2 with h2 h3
  unfold isT
  rw [h1, h2]

theorem name_back {r : List Tok} {s : List UInt8} {us : List TK} (hs : nameB s = true) (h : r.map tk = (1, s, 0) :: us) : ∃ rest, rest.map tk = us ∧ pName r = .ok (s, rest) := by
  obtain ⟨t, r1, rfl, ht, h1⟩ := peel h
  refine ⟨r1, h1, ?_⟩
  have hk : t.kind = 1 := congrArg Prod.fst ht
  have htx : t.text = s := congrArg (fun p => p.2.1) ht
  rw [pName, hk, htx, ((nameB_iff s).1 hs).2]
  rfl
theorem must_back {r : List Tok} {c : UInt8} {us : List TK} (h : r.map tk = tSign c :: us) : ∃ rest, rest.map tk = us ∧ pMust [c] r = .ok ((), rest) := by
  obtain ⟨t, r1, rfl, ht, h1⟩ := peel h
  refine ⟨r1, h1, ?_⟩
  rw [pMust, is_of ht]
  simp
theorem num_back {r : List Tok} {n lo hi : Int} {us : List TK} (hn : lo ≤ n ∧ n ≤ hi) (h : r.map tk = tNum n :: us) : ∃ rest, rest.map tk = us ∧ pNum lo hi r = .ok (n, rest) := by
  obtain ⟨t, r1, rfl, ht, h1⟩ := peel h
  refine ⟨r1, h1, ?_⟩
  have hk : t.kind = 2 := congrArg Prod.fst ht
  have hv : t.num = n := congrArg (fun p => p.2.2) ht
  rw [pNum, hk, hv]
  simp [hn]

theorem name_not {s w : List UInt8} (hs : nameB s = true) (hw : takenL.contains w = true) : (s == w) = false := by
  have h := ((nameB_iff s).1 hs).2
  by_cases e : s = w
  · rw [e, hw] at h; cases h
  · simpa using e

theorem noneB_zero' {n : Nd} (h : noneB n = true) : n = .zero := by
  cases n with
  | mk k s l =>
    simp only [noneB, Bool.and_eq_true, beq_iff_eq, List.isEmpty_iff] at h
    obtain ⟨⟨rfl, rfl⟩, rfl⟩ := h
    rfl

/-- Nothing goes on by and here. -/
def NoAnd (us : List TK) : Prop := ∀ u us', us = u :: us' → (u.1 != 2 && u.2.1 == w_and) = false
/-- .. by or, not, xor. -/
def NoLow (us : List TK) : Prop := ∀ u us', us = u :: us' → (u.1 != 2 && u.2.1 == w_or) = false ∧ (u.1 != 2 && u.2.1 == w_not) = false ∧ (u.1 != 2 && u.2.1 == w_xor) = false

theorem and_stops {d : Nat} {n : Ex} {r : List Tok} (h : NoAnd (r.map tk)) : pAnd d n r = .ok (n, r) := by
  cases r with
  | nil => rw [pAnd_nil]
  | cons t r =>
    have h1 : isT t w_and = false := h (tk t) (r.map tk) rfl
    rw [pAnd_cons, if_neg (by rw [h1]; decide)]
theorem low_stops {d : Nat} {n : Ex} {r : List Tok} (h : NoLow (r.map tk)) : pLow d n r = .ok (n, r) := by
  cases r with
  | nil => rw [pLow_nil]
  | cons t r =>
    obtain ⟨h1, h2, h3⟩ := h (tk t) (r.map tk) rfl
    have g1 : isT t w_or = false := h1
    have g2 : isT t w_not = false := h2
    have g3 : isT t w_xor = false := h3
    have : lowKind t = 0 := by unfold lowKind; rw [g1, g2, g3]; rfl
    rw [pLow_cons, if_neg (by rw [this]; decide)]

theorem low_of {t : Tok} {k : Int} (hk : 5 ≤ k ∧ k ≤ 7) (h : tk t = (1, opW k, 0)) : lowKind t = k := by
  unfold lowKind
  rw [is_of h, is_of h, is_of h]
  obtain rfl | rfl | rfl : k = 5 ∨ k = 6 ∨ k = 7 := by omega
  all_goals rfl

theorem toksT_bin (k : Int) (a b : Nd) (L : Int) (h : 4 ≤ k ∧ k ≤ 7) : toksT (.mk k [] [a, b]) L =
    (if joinS k < L then [(3, [40], 0)] else []) ++ toksT a (joinS k) ++ [(1, opW k, 0)] ++ toksT b (joinS k + 1) ++ (if joinS k < L then [(3, [41], 0)] else []) := by
  rw [toksT_eq, if_neg (by omega), if_neg (by omega), if_neg (by omega)]

/-- It is read back: where only what stands together may stand; what is joined by and; all. -/
structure Back (n : Nd) (d : Nat) : Prop where
  one : ∀ (r : List Tok) (us : List TK), rightB n 3 (64 - d) = true → r.map tk = toksT n 2 ++ us → ∃ e rest, e.nd = n ∧ rest.map tk = us ∧ pOne d r = .ok (e, rest)
  both : ∀ (r : List Tok) (us : List TK), rightB n 2 (64 - d) = true → r.map tk = toksT n 1 ++ us → ∃ e rest, e.nd = n ∧ rest.map tk = us ∧ pBoth d r = pAnd d e rest
  all : ∀ (r : List Tok) (us : List TK), rightB n 1 (64 - d) = true → NoAnd us → r.map tk = toksT n 0 ++ us → ∃ e rest, e.nd = n ∧ rest.map tk = us ∧ pEx d r = pLow d e rest

theorem both_all {d : Nat} {r : List Tok} {us : List TK} {n : Nd} (hu : NoAnd us) (h : ∃ e rest, Ex.nd e = n ∧ rest.map tk = us ∧ pBoth d r = pAnd d e rest) : ∃ e rest, Ex.nd e = n ∧ rest.map tk = us ∧ pEx d r = pLow d e rest := by
  obtain ⟨e, rest, h1, h2, h3⟩ := h
  refine ⟨e, rest, h1, h2, ?_⟩
  rw [pEx, h3, and_stops (by rw [h2]; exact hu), PR.then_ok]
theorem one_both {d : Nat} {r : List Tok} {us : List TK} {n : Nd} (h : ∃ e rest, Ex.nd e = n ∧ rest.map tk = us ∧ pOne d r = .ok (e, rest)) : ∃ e rest, Ex.nd e = n ∧ rest.map tk = us ∧ pBoth d r = pAnd d e rest := by
  obtain ⟨e, rest, h1, h2, h3⟩ := h
  exact ⟨e, rest, h1, h2, by rw [pBoth, h3, PR.then_ok]⟩

/-- One that stands together by itself. -/
theorem leaf_back {n : Nd} {d : Nat} (hl : ∀ L, toksT n L = toksT n 2) (hr : ∀ least, rightB n least (64 - d) = rightB n 3 (64 - d))
    (h : ∀ (r : List Tok) (us : List TK), rightB n 3 (64 - d) = true → r.map tk = toksT n 2 ++ us → ∃ e rest, e.nd = n ∧ rest.map tk = us ∧ pOne d r = .ok (e, rest)) : Back n d := by
  refine ⟨h, fun r us h1 h2 => one_both (h r us ?_ ?_), fun r us h1 hu h2 => both_all hu (one_both (h r us ?_ ?_))⟩
  · rw [← hr 2]; exact h1
  · rw [← hl 1]; exact h2
  · rw [← hr 1]; exact h1
  · rw [← hl 0]; exact h2

theorem noAnd_cons {u : TK} {us : List TK} (h : (u.1 != 2 && u.2.1 == w_and) = false) : NoAnd (u :: us) := by intro u' us' e; cases e; exact h

theorem back (f : Nat) : ∀ (n : Nd), SizeOf.sizeOf n ≤ f → ∀ d : Nat, d ≤ 64 → Back n d := by
  induction f with
  | zero => intro n h; cases n; simp at h
  | succ f ih =>
    intro n hf d hd
    cases n with
    | mk k s l =>
      by_cases h1 : k = 1 ∨ k = 3
      · refine leaf_back (fun L => ?_) (fun least => ?_) fun r us hr h => ?_
        · rcases h1 with rfl | rfl <;> rw [toksT_eq, toksT_eq] <;> rfl
        · rw [rightB_eq, rightB_eq, if_pos h1, if_pos h1]
        · rw [rightB_eq, if_pos h1, Bool.and_eq_true, List.isEmpty_iff] at hr
          obtain ⟨hn, rfl⟩ := hr
          rcases h1 with rfl | rfl
          · have h' : r.map tk = (1, s, 0) :: us := h
            obtain ⟨rest, q1, q2⟩ := name_back hn h'
            obtain ⟨t, r1, rfl, ht, _⟩ := peel h'
            refine ⟨.name s, rest, rfl, q1, ?_⟩
            rw [pOne_cons, is_of ht, is_of ht, is_of ht, name_not hn (by decide), name_not hn (by decide)]
            have hp : (s == [40]) = false := by
              obtain ⟨_, ⟨c, r', rfl, hc⟩, _⟩ := nameB_word hn
              by_cases e : c :: r' = [40]
              · cases e; exact absurd hc (by decide)
              · simpa using e
            rw [hp, q2]
            rfl
          · have h' : r.map tk = (1, w_boxes, 0) :: (1, s, 0) :: us := h
            obtain ⟨t, r1, rfl, ht, h2⟩ := peel h'
            obtain ⟨rest, q1, q2⟩ := name_back hn h2
            refine ⟨.boxes s, rest, rfl, q1, ?_⟩
            rw [pOne_cons, is_of ht, is_of ht, is_of ht, q2]
            rfl
      · by_cases h2 : k = 2
        · subst h2
          refine leaf_back (fun L => ?_) (fun least => ?_) fun r us hr h => ?_
          · rw [toksT_eq, toksT_eq]; rfl
          · rw [rightB_eq, rightB_eq, if_neg h1, if_neg h1, if_pos rfl, if_pos rfl]
          · rw [rightB_eq, if_neg h1, if_pos rfl, Bool.and_eq_true, List.isEmpty_iff, beq_iff_eq] at hr
            obtain ⟨rfl, rfl⟩ := hr
            have h' : r.map tk = (1, w_empty, 0) :: us := h
            obtain ⟨t, r1, rfl, ht, h2⟩ := peel h'
            refine ⟨.empty, r1, rfl, h2, ?_⟩
            rw [pOne_cons, is_of ht]
            rfl
        · by_cases h3 : 4 ≤ k ∧ k ≤ 7
          · by_cases hlist : ∃ a b, l = [a, b] ∧ s = []
            · obtain ⟨a, b, rfl, rfl⟩ := hlist
              simp at hf
              have jk : joinS k = 0 ∨ joinS k = 1 := by unfold joinS; split <;> simp
              have core : ∀ (d : Nat), d ≤ 64 → ∀ (r : List Tok) (us : List TK), rightB a (joinS k + 1) (64 - d) = true → rightB b (joinS k + 2) (64 - d) = true → r.map tk = toksT a (joinS k) ++ [(1, opW k, 0)] ++ toksT b (joinS k + 1) ++ us →
                  (k = 4 → ∃ e rest, e.nd = Nd.mk k [] [a, b] ∧ rest.map tk = us ∧ pBoth d r = pAnd d e rest) ∧ (NoAnd us → ∃ e rest, e.nd = Nd.mk k [] [a, b] ∧ rest.map tk = us ∧ pEx d r = pLow d e rest) := by
                intro d hd r us ha hb h
                have h' : r.map tk = toksT a (joinS k) ++ ((1, opW k, 0) :: (toksT b (joinS k + 1) ++ us)) := by rw [h]; simp
                by_cases hk : k = 4
                · subst hk
                  have hB : ∃ e rest, e.nd = Nd.mk 4 [] [a, b] ∧ rest.map tk = us ∧ pBoth d r = pAnd d e rest := by
                    obtain ⟨ea, r1, e1, h1', p1⟩ := (ih a (by omega) d hd).both r _ ha h'
                    obtain ⟨t, r2, rfl, ht, h2'⟩ := peel h1'
                    obtain ⟨eb, r3, e3, h3', p3⟩ := (ih b (by omega) d hd).one r2 _ hb h2'
                    refine ⟨.bin 4 ea eb, r3, by rw [Ex.nd, e1, e3], h3', ?_⟩
                    have : isT t w_and = true := by rw [is_of ht]; rfl
                    rw [p1, pAnd_cons, if_pos this, p3, PR.then_ok]
                  exact ⟨fun _ => hB, fun hu => both_all hu hB⟩
                · refine ⟨fun e => absurd e hk, fun hu => ?_⟩
                  have hj : joinS k = 0 := by unfold joinS; rw [if_neg hk]
                  rw [hj] at ha hb h'
                  have hop : ((1 : Int) != 2 && opW k == w_and) = false := by
                    obtain rfl | rfl | rfl : k = 5 ∨ k = 6 ∨ k = 7 := by omega
                    all_goals rfl
                  obtain ⟨ea, r1, e1, h1', p1⟩ := (ih a (by omega) d hd).all r _ ha (noAnd_cons hop) h'
                  obtain ⟨t, r2, rfl, ht, h2'⟩ := peel h1'
                  obtain ⟨eb, r3, e3, h3', p3⟩ := (ih b (by omega) d hd).both r2 _ hb h2'
                  have hlk := low_of (by omega) ht
                  refine ⟨.bin k ea eb, r3, by rw [Ex.nd, e1, e3], h3', ?_⟩
                  rw [p1, pLow_cons, if_pos (by rw [hlk]; omega), p3, and_stops (by rw [h3']; exact hu), PR.then_ok, hlk]
              have one : ∀ L, joinS k < L → ∀ (r : List Tok) (us : List TK), rightB (.mk k [] [a, b]) (L + 1) (64 - d) = true → r.map tk = toksT (.mk k [] [a, b]) L ++ us → ∃ e rest, e.nd = Nd.mk k [] [a, b] ∧ rest.map tk = us ∧ pOne d r = .ok (e, rest) := by
                intro L hL r us hr h
                rw [rightB_bin _ _ _ _ _ h3, if_pos (by omega)] at hr
                simp only [Bool.and_eq_true, decide_eq_true_eq] at hr
                obtain ⟨⟨hd1, ha⟩, hb⟩ := hr
                rw [show (64 : Int) - (d : Int) - 1 = 64 - ((d + 1 : Nat) : Int) by omega] at ha hb
                rw [toksT_bin _ _ _ _ h3, if_pos hL, if_pos hL] at h
                have h' : r.map tk = (3, [40], 0) :: (toksT a (joinS k) ++ [(1, opW k, 0)] ++ toksT b (joinS k + 1) ++ ((3, [41], 0) :: us)) := by rw [h]; simp
                obtain ⟨t, r1, rfl, ht, h1'⟩ := peel h'
                obtain ⟨e, r2, e2, h2', p2⟩ := (core (d + 1) (by omega) r1 _ ha hb h1').2 (noAnd_cons (by decide))
                have hlow : NoLow (r2.map tk) := by rw [h2']; intro u us' e; cases e; exact ⟨by decide, by decide, by decide⟩
                obtain ⟨r3, h3', p3⟩ := must_back (c := 41) h2'
                refine ⟨e, r3, e2, h3', ?_⟩
                have g1 : isT t w_empty = false := by rw [is_of ht]; rfl
                have g2 : isT t w_boxes = false := by rw [is_of ht]; rfl
                have g3 : isT t [40] = true := by rw [is_of ht]; rfl
                rw [pOne_cons, if_neg (by rw [g1]; decide), if_neg (by rw [g2]; decide), if_pos g3, if_neg (by omega), p2, low_stops hlow, PR.then_ok, p3, PR.then_ok]
              refine ⟨fun r us hr h => one 2 (by omega) r us hr h, fun r us hr h => ?_, fun r us hr hu h => ?_⟩
              · by_cases hk : k = 4
                · have hj : joinS k = 1 := by unfold joinS; rw [if_pos hk]
                  rw [rightB_bin _ _ _ _ _ h3, if_neg (by omega)] at hr
                  simp only [Bool.and_eq_true, decide_eq_true_eq] at hr
                  rw [toksT_bin _ _ _ _ h3, if_neg (by omega), if_neg (by omega)] at h
                  exact (core d hd r us hr.1.2 hr.2 (by rw [h]; simp)).1 hk
                · have hj : joinS k = 0 := by unfold joinS; rw [if_neg hk]
                  exact one_both (one 1 (by omega) r us hr h)
              · rw [rightB_bin _ _ _ _ _ h3, if_neg (by omega)] at hr
                simp only [Bool.and_eq_true, decide_eq_true_eq] at hr
                rw [toksT_bin _ _ _ _ h3, if_neg (by omega), if_neg (by omega)] at h
                exact (core d hd r us hr.1.2 hr.2 (by rw [h]; simp)).2 hu
            · have hno : ∀ least deep, rightB (.mk k s l) least deep = false := by
                intro least deep
                rw [rightB_eq, if_neg h1, if_neg h2, if_pos h3]
                split
                · rename_i a b
                  have : (s == []) = false := by
                    by_cases e : s = []
                    · exact absurd ⟨a, b, rfl, e⟩ hlist
                    · simpa using e
                  rw [this]; simp
                · rfl
              exact ⟨fun r us hr _ => (by rw [hno] at hr; cases hr), fun r us hr _ => (by rw [hno] at hr; cases hr), fun r us hr _ _ => (by rw [hno] at hr; cases hr)⟩
          · have hno : ∀ least deep, rightB (.mk k s l) least deep = false := by
              intro least deep
              rw [rightB_eq, if_neg h1, if_neg h2, if_neg h3]
            exact ⟨fun r us hr _ => (by rw [hno] at hr; cases hr), fun r us hr _ => (by rw [hno] at hr; cases hr), fun r us hr _ _ => (by rw [hno] at hr; cases hr)⟩

/-- An expression is read back ahead of a sign. -/
theorem expr_back {n : Nd} {d : Nat} (hd : d ≤ 64) {r : List Tok} {c : UInt8} {us : List TK} (hr : rightB n 1 (64 - d) = true) (h : r.map tk = toksT n 0 ++ tSign c :: us) :
    ∃ (e : Ex) (rest : List Tok), e.nd = n ∧ rest.map tk = tSign c :: us ∧ pExpr d r = .ok (e, rest) := by
  have hne : ∀ w : List UInt8, 2 ≤ w.length → ((3 : Int) != 2 && [c] == w) = false := by
    intro w hw
    by_cases e : [c] = w
    · rw [← e] at hw; simp at hw
    · simpa using e
  obtain ⟨e, rest, h1, h2, h3⟩ := (back _ n (Nat.le_refl _) d hd).all r _ hr (noAnd_cons (hne w_and (by decide))) h
  refine ⟨e, rest, h1, h2, ?_⟩
  rw [pExpr_eq, h3, low_stops]
  rw [h2]
  intro u us' e
  cases e
  exact ⟨hne w_or (by decide), hne w_not (by decide), hne w_xor (by decide)⟩

theorem kindNo_back {t : Tok} {k : Int} (hk : 1 ≤ k ∧ k ≤ 5) (h : tk t = (1, kindW k, 0)) : kindNo t = k := by
  unfold kindNo
  rw [is_of h, is_of h, is_of h, is_of h, is_of h]
  obtain rfl | rfl | rfl | rfl | rfl : k = 1 ∨ k = 2 ∨ k = 3 ∨ k = 4 ∨ k = 5 := by omega
  all_goals rfl
theorem ruleNo_back {t : Tok} {k : Int} (hk : 1 ≤ k ∧ k ≤ 6) (h : tk t = (1, ruleW k, 0)) : ruleNo t = k := by
  unfold ruleNo
  rw [is_of h, is_of h, is_of h, is_of h, is_of h, is_of h]
  obtain rfl | rfl | rfl | rfl | rfl | rfl : k = 1 ∨ k = 2 ∨ k = 3 ∨ k = 4 ∨ k = 5 ∨ k = 6 := by omega
  all_goals rfl

theorem semi_back {r : List Tok} {us : List TK} (x : St) (h : r.map tk = tSign 59 :: us) : ∃ rest, rest.map tk = us ∧ pSemi x r = .ok (x, rest) := by
  obtain ⟨rest, h1, h2⟩ := must_back h
  exact ⟨rest, h1, by rw [pSemi, h2, PR.then_ok]⟩
theorem layers_back {r : List Tok} {us : List TK} {n k : Int} (h0 : 0 ≤ n ∧ n ≤ 32767 ∧ 0 ≤ k ∧ k ≤ 32767) (h : r.map tk = tNum n :: tSign 47 :: tNum k :: us) : ∃ rest, rest.map tk = us ∧ pLayers r = .ok ((n, k), rest) := by
  obtain ⟨r1, h1, p1⟩ := num_back (lo := 0) (hi := 32767) ⟨h0.1, h0.2.1⟩ h
  obtain ⟨r2, h2, p2⟩ := must_back h1
  obtain ⟨r3, h3, p3⟩ := num_back (lo := 0) (hi := 32767) ⟨h0.2.2.1, h0.2.2.2⟩ h2
  exact ⟨r3, h3, by rw [pLayers, p1, PR.then_ok, p2, PR.then_ok, p3, PR.then_ok]⟩

theorem stmt_back {x : St} {r : List Tok} {us : List TK} (hx : fitB x = true) (h : r.map tk = toksS x ++ us) : ∃ rest, rest.map tk = us ∧ pStmt r = .ok (x, rest) := by
  obtain ⟨kind, name, a, b, rule, n, d, k, snap⟩ := x
  have hk : 1 ≤ kind ∧ kind ≤ 5 := by
    unfold fitB at hx
    rw [Bool.and_eq_true] at hx
    have hx := hx.2
    simp only at hx
    repeat' split at hx
    all_goals first | omega | cases hx
  unfold fitB at hx
  rw [Bool.and_eq_true] at hx
  obtain ⟨hn, hx⟩ := hx
  have h' : r.map tk = (1, kindW kind, 0) :: (1, name, 0) :: tSign 61 :: (toksB ⟨kind, name, a, b, rule, n, d, k, snap⟩ ++ us) := h
  obtain ⟨t, r1, rfl, ht, h1⟩ := peel h'
  obtain ⟨r2, h2, p2⟩ := name_back hn h1
  obtain ⟨r3, h3, p3⟩ := must_back h2
  have hkn := kindNo_back hk ht
  have hp : pStmt (t :: r1) = sBody kind name r3 := by
    simp only [pStmt, hkn]
    rw [if_neg (by omega), p2, PR.then_ok, p3, PR.then_ok]
  rw [hp]
  clear hp p2 p3 h h' h1 h2 hkn ht
  simp only at hx
  split at hx
  · rename_i h1
    obtain rfl : kind = 1 := h1
    simp only [Bool.and_eq_true, layersB, decide_eq_true_eq, beq_iff_eq, Bool.not_eq_true'] at hx
    obtain ⟨⟨⟨⟨hL, ha⟩, hb⟩, hr⟩, hs⟩ := hx
    obtain rfl := noneB_zero' ha
    obtain rfl := noneB_zero' hb
    obtain ⟨l1, l2, l3, l4, rfl⟩ := hL
    subst hr; subst hs
    have h3' : r3.map tk = tNum n :: tSign 47 :: tNum k :: tSign 59 :: us := h3
    obtain ⟨r4, h4, p4⟩ := layers_back ⟨l1, l2, l3, l4⟩ h3'
    obtain ⟨r5, h5, p5⟩ := semi_back ⟨1, name, .zero, .zero, 0, n, 0, k, false⟩ h4
    exact ⟨r5, h5, by rw [sBody, if_pos rfl, sInput, p4, PR.then_ok]; exact p5⟩
  · rename_i h1
    have h1' : ¬ kind = 1 := h1
    split at hx
    · rename_i h2
      obtain rfl : kind = 2 := h2
      simp only [Bool.and_eq_true, beq_iff_eq, Bool.not_eq_true'] at hx
      obtain ⟨⟨⟨⟨⟨⟨ha, hb⟩, hr⟩, hnn⟩, hd⟩, hk0⟩, hs⟩ := hx
      obtain rfl := noneB_zero' hb
      subst hr; subst hs; subst hnn; subst hd; subst hk0
      have h3' : r3.map tk = toksT a 0 ++ tSign 59 :: us := by rw [h3]; simp [toksB]
      obtain ⟨e, r4, rfl, h4, p4⟩ := expr_back (d := 0) (by decide) ha h3'
      obtain ⟨r5, h5, p5⟩ := semi_back ⟨2, name, e.nd, .zero, 0, 0, 0, 0, false⟩ h4
      exact ⟨r5, h5, by rw [sBody, if_neg h1', if_pos rfl, sLet, p4, PR.then_ok]; exact p5⟩
    · rename_i h2
      have h2' : ¬ kind = 2 := h2
      split at hx
      · rename_i h3
        obtain rfl : kind = 3 := h3
        simp only [Bool.and_eq_true, decide_eq_true_eq, twoB, Bool.or_eq_true, beq_iff_eq, Bool.not_eq_true'] at hx
        obtain ⟨⟨⟨⟨⟨⟨hr, ht⟩, ha⟩, hnn⟩, hd⟩, hk0⟩, hs⟩ := hx
        subst hd; subst hk0; subst hs
        have h3' : r3.map tk = (1, ruleW rule, 0) :: tSign 40 :: (toksT a 0 ++ tSign 44 :: ((if 3 < rule then toksT b 0 ++ [tSign 44] else []) ++ tNum n :: tSign 41 :: tSign 59 :: us)) := by
          rw [h3]
          by_cases h33 : 3 < rule <;> simp [toksB, h33]
        obtain ⟨t, r4, rfl, ht4, h4⟩ := peel h3'
        have hrn := ruleNo_back hr ht4
        obtain ⟨r5, h5, p5⟩ := must_back h4
        obtain ⟨e, r6, rfl, h6, p6⟩ := expr_back (d := 1) (by decide) ha h5
        obtain ⟨r7, h7, p7⟩ := must_back h6
        have hend : ∀ (b : Nd) (r : List Tok), r.map tk = tNum n :: tSign 41 :: tSign 59 :: us → ∃ rest, rest.map tk = us ∧ sCheck2 ⟨3, name, e.nd, b, rule, 0, 0, 0, false⟩ r = .ok (⟨3, name, e.nd, b, rule, n, 0, 0, false⟩, rest) := by
          intro b r h
          obtain ⟨q1, g1, f1⟩ := num_back (lo := 1) (hi := 2147483647) hnn h
          obtain ⟨q2, g2, f2⟩ := must_back g1
          obtain ⟨q3, g3, f3⟩ := semi_back ⟨3, name, e.nd, b, rule, n, 0, 0, false⟩ g2
          exact ⟨q3, g3, by rw [sCheck2, f1, PR.then_ok, f2, PR.then_ok]; exact f3⟩
        have hc : ∃ rest, rest.map tk = us ∧ sCheck1 ⟨3, name, e.nd, .zero, rule, 0, 0, 0, false⟩ r7 = .ok (⟨3, name, e.nd, b, rule, n, 0, 0, false⟩, rest) := by
          rcases ht with ⟨hr3, hb⟩ | ⟨hr3, hb⟩
          · have h7' : r7.map tk = toksT b 0 ++ tSign 44 :: (tNum n :: tSign 41 :: tSign 59 :: us) := by rw [h7, if_pos hr3]; simp
            obtain ⟨e2, r8, rfl, h8, p8⟩ := expr_back (d := 1) (by decide) hb h7'
            obtain ⟨r9, h9, p9⟩ := must_back h8
            obtain ⟨r10, h10, p10⟩ := hend e2.nd r9 h9
            exact ⟨r10, h10, by rw [sCheck1, if_pos hr3, p8, PR.then_ok, p9, PR.then_ok]; exact p10⟩
          · obtain rfl := noneB_zero' hb
            rw [if_neg (by omega)] at h7
            obtain ⟨r10, h10, p10⟩ := hend .zero r7 h7
            exact ⟨r10, h10, by rw [sCheck1, if_neg (by show ¬ 3 < rule; omega)]; exact p10⟩
        obtain ⟨r10, h10, p10⟩ := hc
        refine ⟨r10, h10, ?_⟩
        rw [sBody, if_neg h1', if_neg h2', if_pos rfl]
        simp only [sCheck, hrn]
        rw [if_neg (by omega), p5, PR.then_ok, p6, PR.then_ok, p7, PR.then_ok]
        exact p10
      · rename_i h3
        have h3'' : ¬ kind = 3 := h3
        split at hx
        · rename_i h4
          obtain rfl : kind = 4 := h4
          simp only [Bool.and_eq_true, decide_eq_true_eq, beq_iff_eq, Bool.not_eq_true'] at hx
          obtain ⟨⟨⟨⟨⟨⟨ha, hb⟩, hr⟩, hnn⟩, hd⟩, hk0⟩, hs⟩ := hx
          obtain rfl := noneB_zero' hb
          subst hr; subst hk0; subst hs
          have h3' : r3.map tk = toksT a 0 ++ tSign 44 :: (tNum n :: ((if d = 1 then [] else [tSign 47, tNum d]) ++ tSign 59 :: us)) := by rw [h3]; simp [toksB]
          obtain ⟨e, r6, rfl, h6, p6⟩ := expr_back (d := 0) (by decide) ha h3'
          obtain ⟨r7, h7, p7⟩ := must_back h6
          obtain ⟨r8, h8, p8⟩ := num_back (lo := 0) (hi := 2147483647) hnn h7
          have hc : ∃ rest, rest.map tk = us ∧ sSmall1 ⟨4, name, e.nd, .zero, 0, n, 1, 0, false⟩ r8 = .ok (⟨4, name, e.nd, .zero, 0, n, d, 0, false⟩, rest) := by
            by_cases hd1 : d = 1
            · subst hd1
              have h8' : r8.map tk = tSign 59 :: us := h8
              obtain ⟨r9, h9, p9⟩ := semi_back ⟨4, name, e.nd, .zero, 0, n, 1, 0, false⟩ h8'
              obtain ⟨t, q, rfl, ht, _⟩ := peel h8'
              refine ⟨r9, h9, ?_⟩
              have g : isT t [47] = false := by rw [is_of ht]; rfl
              simp only [sSmall1]
              rw [if_neg (by rw [g]; decide)]
              exact p9
            · rw [if_neg hd1] at h8
              have h8' : r8.map tk = tSign 47 :: tNum d :: tSign 59 :: us := h8
              obtain ⟨t, q, rfl, ht, hq⟩ := peel h8'
              obtain ⟨q1, g1, f1⟩ := num_back (lo := 1) (hi := 2147483647) hd hq
              obtain ⟨r9, h9, p9⟩ := semi_back ⟨4, name, e.nd, .zero, 0, n, d, 0, false⟩ g1
              refine ⟨r9, h9, ?_⟩
              have g : isT t [47] = true := by rw [is_of ht]; rfl
              simp only [sSmall1]
              rw [if_pos g, f1, PR.then_ok]
              exact p9
          obtain ⟨r10, h10, p10⟩ := hc
          refine ⟨r10, h10, ?_⟩
          rw [sBody, if_neg h1', if_neg h2', if_neg h3'', if_pos rfl, sSmall, p6, PR.then_ok, p7, PR.then_ok, p8, PR.then_ok]
          exact p10
        · rename_i h4
          have h4' : ¬ kind = 4 := h4
          split at hx
          · rename_i h5
            obtain rfl : kind = 5 := h5
            simp only [Bool.and_eq_true, layersB, decide_eq_true_eq, beq_iff_eq] at hx
            obtain ⟨⟨⟨hL, ha⟩, hb⟩, hr⟩ := hx
            obtain rfl := noneB_zero' hb
            obtain ⟨l1, l2, l3, l4, rfl⟩ := hL
            subst hr
            have h3' : r3.map tk = toksT a 0 ++ tSign 44 :: (tNum n :: tSign 47 :: tNum k :: ((if snap then [(1, w_snap, 0)] else []) ++ tSign 59 :: us)) := by rw [h3]; simp [toksB]
            obtain ⟨e, r6, rfl, h6, p6⟩ := expr_back (d := 0) (by decide) ha h3'
            obtain ⟨r7, h7, p7⟩ := must_back h6
            obtain ⟨r8, h8, p8⟩ := layers_back ⟨l1, l2, l3, l4⟩ h7
            have hc : ∃ rest, rest.map tk = us ∧ sWrite1 ⟨5, name, e.nd, .zero, 0, n, 0, k, false⟩ r8 = .ok (⟨5, name, e.nd, .zero, 0, n, 0, k, snap⟩, rest) := by
              cases snap with
              | false =>
                have h8' : r8.map tk = tSign 59 :: us := h8
                obtain ⟨r9, h9, p9⟩ := semi_back ⟨5, name, e.nd, .zero, 0, n, 0, k, false⟩ h8'
                obtain ⟨t, q, rfl, ht, _⟩ := peel h8'
                refine ⟨r9, h9, ?_⟩
                have g : isT t w_snap = false := by rw [is_of ht]; rfl
                simp only [sWrite1]
                rw [if_neg (by rw [g]; decide)]
                exact p9
              | true =>
                have h8' : r8.map tk = (1, w_snap, 0) :: tSign 59 :: us := h8
                obtain ⟨t, q, rfl, ht, hq⟩ := peel h8'
                obtain ⟨r9, h9, p9⟩ := semi_back ⟨5, name, e.nd, .zero, 0, n, 0, k, true⟩ hq
                refine ⟨r9, h9, ?_⟩
                have g : isT t w_snap = true := by rw [is_of ht]; rfl
                simp only [sWrite1]
                rw [if_pos g]
                exact p9
            obtain ⟨r10, h10, p10⟩ := hc
            refine ⟨r10, h10, ?_⟩
            rw [sBody, if_neg h1', if_neg h2', if_neg h3'', if_neg h4', sWrite, p6, PR.then_ok, p7, PR.then_ok, p8, PR.then_ok]
            exact p10
          · cases hx

theorem deck_back (l : List St) : ∀ (r : List Tok) (acc : List St) (f : Nat), (∀ x ∈ l, fitB x = true) → r.map tk = l.flatMap toksS → acc.length + l.length ≤ 1000 → r.length < f → pDeckF f r acc = .ok (acc ++ l) := by
  induction l with
  | nil =>
    intro r acc f _ h _ _
    have : r = [] := by simpa using h
    subst this
    cases f <;> simp [pDeckF]
  | cons x l ih =>
    intro r acc f hx h hl hf
    rw [List.flatMap_cons] at h
    obtain ⟨rest, h1, h2⟩ := stmt_back (hx x (by simp)) h
    have hlen := pStmt_len h2
    cases r with
    | nil => simp at hlen
    | cons t r =>
      cases f with
      | zero => omega
      | succ f =>
        simp only [List.length_cons] at hl hf hlen
        rw [pDeckF, if_neg (by omega), h2]
        show pDeckF f rest (acc ++ [x]) = _
        rw [ih rest (acc ++ [x]) f (fun y hy => hx y (by simp [hy])) h1 (by simp; omega) (by omega)]
        simp

/-- What is printed is parsed as it was. -/
theorem print_back {l : List St} (hx : ∀ x ∈ l, fitB x = true) (hl : l.length ≤ 1000) (ht : (l.flatMap lineP).length ≤ 65536) : parseS (l.flatMap lineP) = .ok l := by
  obtain ⟨ts, e1, e2⟩ := lex_lines l hx ((l.flatMap lineP).length + 1) 0 [] (Nat.lt_succ_self _)
  rw [List.nil_append] at e1
  have hd := deck_back l ts [] (ts.length + 1) hx e2 (by simpa using hl) (Nat.lt_succ_self _)
  rw [parseS, lexS, if_neg (by omega), e1]
  simp only [pDeck, hd]
  rfl

theorem linesP_all (l : List St) : ∀ acc : List UInt8, (acc ++ l.flatMap lineP).length ≤ 131072 → linesP l acc = some (acc ++ l.flatMap lineP) := by
  induction l with
  | nil => intro acc _; simp [linesP]
  | cons x l ih =>
    intro acc h
    rw [List.flatMap_cons, ← List.append_assoc] at h ⊢
    rw [linesP, if_neg (by rw [List.length_append] at h; omega)]
    exact ih _ h
theorem linesP_some (l : List St) : ∀ (acc t : List UInt8), linesP l acc = some t → t = acc ++ l.flatMap lineP := by
  induction l with
  | nil => intro acc t h; cases h; simp
  | cons x l ih =>
    intro acc t h
    rw [linesP] at h
    split at h
    · cases h
    · rw [ih _ _ h]; simp

/-- When statements are printed, and as what. -/
theorem printS_iff (l : List St) (t : List UInt8) : printS l = some t ↔ (∀ x ∈ l, fitB x = true) ∧ l.length ≤ 1000 ∧ (l.flatMap lineP).length ≤ 65536 ∧ t = l.flatMap lineP := by
  constructor
  · intro h
    rw [printS] at h
    split at h
    · cases h
    · rename_i t' e
      split at h
      · cases h
      · rename_i m hm
        split at h
        · rename_i hs
          cases h
          obtain rfl := (Sts.same_iff l m).1 hs
          have e' := linesP_some _ _ _ e
          rw [List.nil_append] at e'
          subst e'
          obtain ⟨h1, h2, h3⟩ := parse_fits hm
          exact ⟨h1, h2, h3, rfl⟩
        · cases h
  · rintro ⟨h1, h2, h3, rfl⟩
    have e := linesP_all l [] (by rw [List.nil_append]; omega)
    rw [List.nil_append] at e
    simp only [printS, e, print_back h1 h2 h3, (Sts.same_iff l l).2 rfl, if_pos]
end Go.Proofs.YtdjklnlkocconaaGreatDoor

namespace Go.Proofs.YtdjklnlkocconaaGreatDoor

/-- How many bytes tokens have together. -/
def Wt (r : List Tok) : Nat := (r.map fun t => t.text.length).sum
theorem wt_cons (t : Tok) (r : List Tok) : Wt (t :: r) = t.text.length + Wt r := rfl

theorem textP_mono (n : Nd) : (textP n 0).length ≤ (textP n 1).length ∧ (textP n 1).length ≤ (textP n 2).length ∧ (textP n 2).length ≤ (textP n 0).length + 2 := by
  cases n with
  | mk k s l =>
    have hj : joinS k = 0 ∨ joinS k = 1 := by unfold joinS; split <;> simp
    rw [textP_un, textP_un, textP_un]
    split
    · exact ⟨Nat.le_refl _, Nat.le_refl _, by omega⟩
    · split
      · exact ⟨Nat.le_refl _, Nat.le_refl _, by omega⟩
      · split
        · exact ⟨Nat.le_refl _, Nat.le_refl _, by omega⟩
        · split
          · rcases hj with hj | hj <;> rw [hj] <;> simp <;> omega
          · simp

theorem joinW_len (k : Int) : (joinW k).length ≤ 5 := by
  unfold joinW
  repeat' split
  all_goals decide

theorem textP_bin (k : Int) (a b : Nd) (L : Int) (h : 4 ≤ k) : (textP (.mk k [] [a, b]) L).length ≤ (if joinS k < L then 2 else 0) + (textP a (joinS k)).length + 5 + (textP b (joinS k + 1)).length := by
  have := joinW_len k
  rw [textP_un, if_neg (by omega), if_neg (by omega), if_neg (by omega)]
  simp only [List.length_append]
  split <;> simp <;> omega

theorem isT_len {t : Tok} {w : List UInt8} (h : isT t w = true) : t.text.length = w.length := by
  simp only [isT, Bool.and_eq_true, beq_iff_eq] at h
  rw [h.2]
theorem low_len {t : Tok} (h : lowKind t ≠ 0) : 2 ≤ t.text.length := by
  unfold lowKind at h
  split at h
  · rename_i h1; rw [isT_len h1]; decide
  · split at h
    · rename_i h1; rw [isT_len h1]; decide
    · split at h
      · rename_i h1; rw [isT_len h1]; decide
      · exact absurd rfl h
theorem kindNo_len {t : Tok} (h : kindNo t ≠ 0) : 3 ≤ t.text.length ∧ (1 ≤ kindNo t ∧ kindNo t ≤ 5) := by
  unfold kindNo at h ⊢
  split
  · rename_i h1; rw [isT_len h1]; decide
  · rename_i n1; rw [if_neg n1] at h; split
    · rename_i h1; rw [isT_len h1]; decide
    · rename_i n2; rw [if_neg n2] at h; split
      · rename_i h1; rw [isT_len h1]; decide
      · rename_i n3; rw [if_neg n3] at h; split
        · rename_i h1; rw [isT_len h1]; decide
        · rename_i n4; rw [if_neg n4] at h; split
          · rename_i h1; rw [isT_len h1]; decide
          · rename_i n5; rw [if_neg n5] at h; exact absurd rfl h
theorem ruleNo_len {t : Tok} (h : ruleNo t ≠ 0) : 4 ≤ t.text.length := by
  unfold ruleNo at h
  split at h
  · rename_i h1; rw [isT_len h1]; decide
  · split at h
    · rename_i h1; rw [isT_len h1]; decide
    · split at h
      · rename_i h1; rw [isT_len h1]; decide
      · split at h
        · rename_i h1; rw [isT_len h1]; decide
        · split at h
          · rename_i h1; rw [isT_len h1]; decide
          · split at h
            · rename_i h1; rw [isT_len h1]; decide
            · exact absurd rfl h
theorem ruleW_len (k : Int) : (ruleW k).length ≤ 6 := by
  unfold ruleW
  repeat' split
  all_goals decide
theorem stWord_len (k : Int) : (stWord k).length ≤ 6 := by
  unfold stWord
  repeat' split
  all_goals decide

theorem wt_name {r : List Tok} {s : List UInt8} {r1 : List Tok} (h : pName r = .ok (s, r1)) : Wt r = s.length + Wt r1 := by
  obtain ⟨t, rfl, rfl, _⟩ := pName_rest h
  rfl
theorem wt_must {r : List Tok} {s : List UInt8} {u : Unit} {r1 : List Tok} (h : pMust s r = .ok (u, r1)) : Wt r = s.length + Wt r1 := by
  cases r with
  | nil => cases h
  | cons t r =>
    rw [pMust] at h
    split at h
    · rename_i h1; cases h; rw [wt_cons, isT_len h1]
    · cases h
theorem numT_len {n : Int} (h : 0 ≤ n ∧ n ≤ 2147483647) : (numT n).length ≤ 10 := by
  obtain ⟨m, rfl⟩ : ∃ m : Nat, n = m := ⟨n.toNat, by omega⟩
  rw [numT_nat, Lib.decDigits_length]
  have key : ∀ (k m : Nat), m < 10 ^ (k + 1) → Lib.nDigits m ≤ k + 1 := by
    intro k
    induction k with
    | zero => intro m h; rw [Lib.nDigits_small (by omega)]; omega
    | succ k ih =>
      intro m h
      by_cases hm : m < 10
      · rw [Lib.nDigits_small hm]; omega
      · rw [Lib.nDigits_big hm]
        have := ih (m / 10) (by rw [Nat.pow_succ] at h; omega)
        omega
  exact key 9 m (by omega)

/-- Tokens with a text of at least one byte. -/
theorem ok_text {t : Tok} (h : TokOk t) : 1 ≤ t.text.length := by
  rcases h with ⟨_, _, _, c, r, e, _⟩ | ⟨_, _, _, e⟩ | ⟨_, _, c, e, _⟩
  · rw [e]; simp
  · cases ht : t.text with
    | nil => exact absurd ht e
    | cons c r => simp
  · rw [e]; simp

theorem wt_num {lo hi : Int} {r : List Tok} {n : Int} {r1 : List Tok} (ho : OkR r) (h : pNum lo hi r = .ok (n, r1)) (hlo : 0 ≤ lo) (hhi : hi ≤ 2147483647) : Wt r1 + 1 ≤ Wt r ∧ (numT n).length ≤ 10 ∧ OkR r1 := by
  obtain ⟨hn, h1⟩ := gives_num ho n r1 h
  cases r with
  | nil => cases h
  | cons t r =>
    rw [pNum] at h
    split at h
    · cases h
      have := ok_text (ho t (by simp))
      exact ⟨by rw [wt_cons]; omega, numT_len (by omega), h1⟩
    · cases h

theorem cost_exprs (m : Nat) : ∀ (d : Nat) (r : List Tok), r.length ≤ m → OkR r →
    (∀ e r1, pOne d r = .ok (e, r1) → (textP e.nd 2).length + 13 * Wt r1 ≤ 13 * Wt r ∧ OkR r1) ∧
    (∀ (n e : Ex) (r1 : List Tok), pAnd d n r = .ok (e, r1) → (textP e.nd 1).length + 13 * Wt r1 ≤ (textP n.nd 1).length + 13 * Wt r ∧ OkR r1) ∧
    (∀ (n e : Ex) (r1 : List Tok), pLow d n r = .ok (e, r1) → (textP e.nd 0).length + 13 * Wt r1 ≤ (textP n.nd 0).length + 13 * Wt r ∧ OkR r1) := by
  induction m with
  | zero =>
    intro d r hl ho
    obtain rfl : r = [] := List.length_eq_zero_iff.1 (by omega)
    refine ⟨fun e r1 h => (by cases h), fun n e r1 h => ?_, fun n e r1 h => ?_⟩
    · rw [pAnd_nil] at h; cases h; exact ⟨Nat.le_refl _, ho⟩
    · rw [pLow_nil] at h; cases h; exact ⟨Nat.le_refl _, ho⟩
  | succ m ih =>
    have both : ∀ (d : Nat) (r : List Tok), r.length ≤ m → OkR r → ∀ e r1, pBoth d r = .ok (e, r1) → (textP e.nd 1).length + 13 * Wt r1 ≤ 13 * Wt r ∧ OkR r1 := by
      intro d r hl ho e r2 h
      rw [pBoth] at h
      obtain ⟨n, r1, e1, e2⟩ := then_ok_of h
      obtain ⟨h1, o1⟩ := (ih d r hl ho).1 n r1 e1
      obtain ⟨h2, o2⟩ := (ih d r1 (by have := pOne_len e1; omega) o1).2.1 n e r2 e2
      have := (textP_mono n.nd).2.1
      exact ⟨by omega, o2⟩
    have expr : ∀ (d : Nat) (r : List Tok), r.length ≤ m → OkR r → ∀ e r1, pEx d r = .ok (e, r1) → (textP e.nd 0).length + 13 * Wt r1 ≤ 13 * Wt r ∧ OkR r1 := by
      intro d r hl ho e r2 h
      rw [pEx] at h
      obtain ⟨n, r1, e1, e2⟩ := then_ok_of h
      obtain ⟨h1, o1⟩ := both d r hl ho n r1 e1
      obtain ⟨h2, o2⟩ := (ih d r1 (by have := pBoth_len e1; omega) o1).2.2 n e r2 e2
      have := (textP_mono n.nd).1
      exact ⟨by omega, o2⟩
    intro d r hl ho
    cases r with
    | nil =>
      refine ⟨fun e r1 h => (by cases h), fun n e r1 h => ?_, fun n e r1 h => ?_⟩
      · rw [pAnd_nil] at h; cases h; exact ⟨Nat.le_refl _, ho⟩
      · rw [pLow_nil] at h; cases h; exact ⟨Nat.le_refl _, ho⟩
    | cons t r =>
      have hl' : r.length ≤ m := by simpa using hl
      refine ⟨fun e r2 h => ?_, fun n e r2 h => ?_, fun n e r2 h => ?_⟩
      · rw [pOne_cons] at h
        split at h
        · rename_i h1
          cases h
          refine ⟨?_, ho.tail⟩
          rw [wt_cons, isT_len h1]
          have : (textP Ex.empty.nd 2).length = w_empty.length := rfl
          omega
        · split at h
          · rename_i h1
            obtain ⟨s, r1, e1, e2⟩ := then_ok_of h
            cases e2
            refine ⟨?_, (gives_name ho.tail s _ e1).2⟩
            have hw := wt_name e1
            rw [wt_cons, isT_len h1, hw]
            have : (textP (Ex.boxes s).nd 2).length = 6 + s.length := by rw [Ex.nd, textP_un]; simp; omega
            have : w_boxes.length = 5 := rfl
            omega
          · split at h
            · rename_i h1
              split at h
              · cases h
              · obtain ⟨n, r1, e1, e2⟩ := then_ok_of h
                obtain ⟨u, r3, e3, e4⟩ := then_ok_of e2
                obtain ⟨q1, o1⟩ := expr (d + 1) r hl' ho.tail n r1 e1
                cases e4
                have hm := wt_must e3
                refine ⟨?_, (gives_must o1 u _ e3).2⟩
                rw [wt_cons, isT_len h1]
                have := (textP_mono e.nd).2.2
                have : ([40] : List UInt8).length = 1 := rfl
                have : ([41] : List UInt8).length = 1 := rfl
                omega
            · obtain ⟨s, r1, e1, e2⟩ := then_ok_of h
              cases e2
              refine ⟨?_, (gives_name ho s _ e1).2⟩
              have hw := wt_name e1
              rw [hw]
              have : (textP (Ex.name s).nd 2).length = s.length := by rw [Ex.nd, textP_un]; simp
              omega
      · rw [pAnd_cons] at h
        split at h
        · rename_i h1
          obtain ⟨k, r1, e1, e2⟩ := then_ok_of h
          obtain ⟨q1, o1⟩ := (ih d r hl' ho.tail).1 k r1 e1
          obtain ⟨q2, o2⟩ := (ih d r1 (by have := pOne_len e1; omega) o1).2.1 _ e r2 e2
          refine ⟨?_, o2⟩
          have hb := textP_bin 4 n.nd k.nd 1 (by decide)
          have hj : joinS 4 = 1 := rfl
          rw [hj, if_neg (by decide)] at hb
          have hb' : (textP (Ex.bin 4 n k).nd 1).length ≤ 0 + (textP n.nd 1).length + 5 + (textP k.nd 2).length := hb
          rw [wt_cons, isT_len h1]
          have : w_and.length = 3 := rfl
          omega
        · cases h; exact ⟨Nat.le_refl _, ho⟩
      · rw [pLow_cons] at h
        split at h
        · rename_i h1
          obtain ⟨k, r1, e1, e2⟩ := then_ok_of h
          obtain ⟨q1, o1⟩ := both d r hl' ho.tail k r1 e1
          obtain ⟨q2, o2⟩ := (ih d r1 (by have := pBoth_len e1; omega) o1).2.2 _ e r2 e2
          refine ⟨?_, o2⟩
          obtain ⟨hj, hk4, _⟩ := joinS_low h1
          have hb := textP_bin (lowKind t) n.nd k.nd 0 hk4
          rw [hj, if_neg (by decide)] at hb
          have hb' : (textP (Ex.bin (lowKind t) n k).nd 0).length ≤ 0 + (textP n.nd 0).length + 5 + (textP k.nd 1).length := hb
          rw [wt_cons]
          have := low_len h1
          omega
        · cases h; exact ⟨Nat.le_refl _, ho⟩

theorem cost_expr {d : Nat} {r : List Tok} (ho : OkR r) {e : Ex} {r1 : List Tok} (h : pExpr d r = .ok (e, r1)) : (textP e.nd 0).length + 13 * Wt r1 ≤ 13 * Wt r ∧ OkR r1 := by
  rw [pExpr_eq, pEx, pBoth, PR.then_then] at h
  obtain ⟨n, r2, e1, e2⟩ := then_ok_of h
  obtain ⟨k, r3, e3, e4⟩ := then_ok_of e2
  obtain ⟨h1, o1⟩ := (cost_exprs r.length d r (Nat.le_refl _) ho).1 n r2 e1
  obtain ⟨h2, o2⟩ := (cost_exprs r2.length d r2 (Nat.le_refl _) o1).2.1 n k r3 e3
  obtain ⟨h3, o3⟩ := (cost_exprs r3.length d r3 (Nat.le_refl _) o2).2.2 k e r1 e4
  have := (textP_mono n.nd).2.1
  have := (textP_mono k.nd).1
  exact ⟨by omega, o3⟩
theorem cost_name {r : List Tok} (ho : OkR r) {s : List UInt8} {r1 : List Tok} (h : pName r = .ok (s, r1)) : Wt r = s.length + Wt r1 ∧ 1 ≤ s.length ∧ OkR r1 := by
  obtain ⟨t, rfl, rfl, _⟩ := pName_rest h
  exact ⟨rfl, ok_text (ho t (by simp)), ho.tail⟩
theorem cost_must {r : List Tok} (ho : OkR r) {c : UInt8} {u : Unit} {r1 : List Tok} (h : pMust [c] r = .ok (u, r1)) : Wt r = 1 + Wt r1 ∧ OkR r1 := ⟨wt_must h, (gives_must ho u _ h).2⟩
theorem cost_semi {r : List Tok} (ho : OkR r) {x y : St} {r1 : List Tok} (h : pSemi x r = .ok (y, r1)) : y = x ∧ Wt r = 1 + Wt r1 ∧ OkR r1 := by
  obtain ⟨u, r2, e1, e2⟩ := then_ok_of h
  cases e2
  obtain ⟨h1, h2⟩ := cost_must ho e1
  exact ⟨rfl, h1, h2⟩
theorem cost_layers {r : List Tok} (ho : OkR r) {nk : Int × Int} {r1 : List Tok} (h : pLayers r = .ok (nk, r1)) : Wt r1 + 3 ≤ Wt r ∧ (numT nk.1).length ≤ 10 ∧ (numT nk.2).length ≤ 10 ∧ OkR r1 := by
  obtain ⟨n, r2, e1, h⟩ := then_ok_of h
  obtain ⟨u, r3, e2, h⟩ := then_ok_of h
  obtain ⟨k, r4, e3, h⟩ := then_ok_of h
  cases h
  obtain ⟨a1, a2, o1⟩ := wt_num ho e1 (by decide) (by decide)
  obtain ⟨b1, o2⟩ := cost_must o1 e2
  obtain ⟨c1, c2, o3⟩ := wt_num o2 e3 (by decide) (by decide)
  exact ⟨by omega, a2, c2, o3⟩

/-- A statement's text, and how many bytes its tokens have at least. -/
theorem cost_stmt {r : List Tok} (ho : OkR r) {x : St} {r1 : List Tok} (h : pStmt r = .ok (x, r1)) : (lineP x).length + 13 * Wt r1 ≤ 13 * Wt r ∧ Wt r1 + 6 ≤ Wt r ∧ OkR r1 := by
  cases r with
  | nil => cases h
  | cons t r =>
    simp only [pStmt] at h
    split at h
    · cases h
    · rename_i hk
      obtain ⟨hw, hk1⟩ := kindNo_len hk
      obtain ⟨s, r2, e2, h⟩ := then_ok_of h
      obtain ⟨u, r3, e3, h⟩ := then_ok_of h
      obtain ⟨a1, a2, o2⟩ := cost_name ho.tail e2
      obtain ⟨b1, o3⟩ := cost_must o2 e3
      have hst := stWord_len (kindNo t)
      rw [wt_cons, a1, b1]
      generalize kindNo t = K at h hk hk1 hst
      unfold sBody at h
      split at h
      · rename_i h1
        subst h1
        obtain ⟨nk, r4, e4, h⟩ := then_ok_of h
        obtain ⟨c1, c2, c3, o4⟩ := cost_layers o3 e4
        obtain ⟨rfl, d1, o5⟩ := cost_semi o4 h
        refine ⟨?_, by omega, o5⟩
        simp [lineP] at hst ⊢
        omega
      · split at h
        · rename_i h1
          subst h1
          obtain ⟨a, r4, e4, h⟩ := then_ok_of h
          obtain ⟨c1, o4⟩ := cost_expr o3 e4
          obtain ⟨rfl, d1, o5⟩ := cost_semi o4 h
          refine ⟨?_, by omega, o5⟩
          simp [lineP] at hst ⊢
          omega
        · split at h
          · rename_i h1
            subst h1
            cases r3 with
            | nil => cases h
            | cons t3 r3 =>
              simp only [sCheck] at h
              split at h
              · cases h
              · rename_i hr
                have hrl := ruleNo_len hr
                have hrw := ruleW_len (ruleNo t3)
                have hrr := ruleNo_range hr
                obtain ⟨u4, r4, e4, h⟩ := then_ok_of h
                obtain ⟨a, r5, e5, h⟩ := then_ok_of h
                obtain ⟨u6, r6, e6, h⟩ := then_ok_of h
                obtain ⟨c1, o4⟩ := cost_must o3.tail e4
                obtain ⟨c2, o5⟩ := cost_expr o4 e5
                obtain ⟨c3, o6⟩ := cost_must o5 e6
                rw [wt_cons]
                unfold sCheck1 at h
                split at h
                · rename_i h3
                  have h3' : 3 < ruleNo t3 := h3
                  obtain ⟨b, r7, e7, h⟩ := then_ok_of h
                  obtain ⟨u8, r8, e8, h⟩ := then_ok_of h
                  obtain ⟨n, r9, e9, h⟩ := then_ok_of h
                  obtain ⟨u10, r10, e10, h⟩ := then_ok_of h
                  obtain ⟨c4, o7⟩ := cost_expr o6 e7
                  obtain ⟨c5, o8⟩ := cost_must o7 e8
                  obtain ⟨c6, c7, o9⟩ := wt_num o8 e9 (by decide) (by decide)
                  obtain ⟨c8, o10⟩ := cost_must o9 e10
                  obtain ⟨rfl, d1, o11⟩ := cost_semi o10 h
                  refine ⟨?_, by omega, o11⟩
                  have hno : ¬ (ruleNo t3 < 1 ∨ 6 < ruleNo t3) := by omega
                  simp [lineP, hno, h3'] at hst ⊢
                  omega
                · rename_i h3
                  have h3' : ¬ 3 < ruleNo t3 := h3
                  obtain ⟨n, r9, e9, h⟩ := then_ok_of h
                  obtain ⟨u10, r10, e10, h⟩ := then_ok_of h
                  obtain ⟨c6, c7, o9⟩ := wt_num o6 e9 (by decide) (by decide)
                  obtain ⟨c8, o10⟩ := cost_must o9 e10
                  obtain ⟨rfl, d1, o11⟩ := cost_semi o10 h
                  refine ⟨?_, by omega, o11⟩
                  have hno : ¬ (ruleNo t3 < 1 ∨ 6 < ruleNo t3) := by omega
                  simp [lineP, hno, h3'] at hst ⊢
                  omega
          · split at h
            · rename_i h1
              subst h1
              obtain ⟨a, r4, e4, h⟩ := then_ok_of h
              obtain ⟨u5, r5, e5, h⟩ := then_ok_of h
              obtain ⟨n, r6, e6, h⟩ := then_ok_of h
              obtain ⟨c1, o4⟩ := cost_expr o3 e4
              obtain ⟨c2, o5⟩ := cost_must o4 e5
              obtain ⟨c3, c4, o6⟩ := wt_num o5 e6 (by decide) (by decide)
              cases r6 with
              | nil => cases h
              | cons t6 r6 =>
                simp only [sSmall1] at h
                split at h
                · rename_i h7
                  obtain ⟨d, r7, e7, h⟩ := then_ok_of h
                  obtain ⟨c5, c6, o7⟩ := wt_num o6.tail e7 (by decide) (by decide)
                  obtain ⟨rfl, d1, o8⟩ := cost_semi o7 h
                  refine ⟨?_, by rw [wt_cons] at c3; omega, o8⟩
                  rw [wt_cons, isT_len h7] at c3
                  have : ([47] : List UInt8).length = 1 := rfl
                  by_cases hd1 : d = 1
                  · simp [lineP, hd1] at hst ⊢
                    omega
                  · simp [lineP, hd1] at hst ⊢
                    omega
                · obtain ⟨rfl, d1, o8⟩ := cost_semi o6 h
                  refine ⟨?_, by omega, o8⟩
                  simp [lineP] at hst ⊢
                  omega
            · have hK : K = 5 := by omega
              subst hK
              obtain ⟨a, r4, e4, h⟩ := then_ok_of h
              obtain ⟨u5, r5, e5, h⟩ := then_ok_of h
              obtain ⟨nk, r6, e6, h⟩ := then_ok_of h
              obtain ⟨c1, o4⟩ := cost_expr o3 e4
              obtain ⟨c2, o5⟩ := cost_must o4 e5
              obtain ⟨c3, c4, c5, o6⟩ := cost_layers o5 e6
              cases r6 with
              | nil => cases h
              | cons t6 r6 =>
                simp only [sWrite1] at h
                split at h
                · rename_i h7
                  obtain ⟨rfl, d1, o8⟩ := cost_semi o6.tail h
                  refine ⟨?_, by rw [wt_cons] at c3; omega, o8⟩
                  rw [wt_cons, isT_len h7] at c3
                  have : w_snap.length = 4 := rfl
                  simp [lineP] at hst ⊢
                  omega
                · obtain ⟨rfl, d1, o8⟩ := cost_semi o6 h
                  refine ⟨?_, by omega, o8⟩
                  have hz : St.zero.snap = false := rfl
                  simp [lineP, hz] at hst ⊢
                  omega

theorem cost_deck (f : Nat) : ∀ (r : List Tok) (acc l : List St), OkR r → pDeckF f r acc = .ok l → r.length < f → ∃ us, l = acc ++ us ∧ (us.flatMap lineP).length ≤ 13 * Wt r ∧ 6 * us.length ≤ Wt r := by
  induction f with
  | zero => intro r acc l _ h hf; omega
  | succ f ih =>
    intro r acc l ho h hf
    cases r with
    | nil => cases h; exact ⟨[], by simp, by simp, by simp⟩
    | cons t r =>
      rw [pDeckF] at h
      split at h
      · cases h
      · split at h
        · cases h
        · rename_i x r1 hp
          obtain ⟨h1, h2, o1⟩ := cost_stmt ho hp
          have hl := pStmt_len hp
          obtain ⟨us, e, q1, q2⟩ := ih r1 (acc ++ [x]) l o1 h (by simp only [List.length_cons] at hl hf; omega)
          refine ⟨x :: us, by rw [e]; simp, ?_, ?_⟩
          · rw [List.flatMap_cons, List.length_append]; omega
          · simp only [List.length_cons]; omega

/-- The text of a deck's statements, and how many there are. -/
theorem parse_size {s : List UInt8} {l : List St} (h : parseS s = .ok l) : (l.flatMap lineP).length ≤ 13 * s.length ∧ 6 * l.length ≤ s.length := by
  rw [parseS] at h
  split at h
  · cases h
  · rename_i ts hl
    split at h
    · cases h
    · rename_i m hm
      cases h
      obtain ⟨o, hs, _⟩ := lexS_ok hl
      obtain ⟨us, e, q1, q2⟩ := cost_deck _ _ _ _ o hm (Nat.lt_succ_self _)
      rw [List.nil_append] at e
      subst e
      have : Wt ts ≤ s.length := hs
      exact ⟨by omega, by omega⟩

/-- What is parsed of a deck of at most 5000 bytes is printed. -/
theorem printS_of_parse {s : List UInt8} {l : List St} (h : parseS s = .ok l) (hs : s.length ≤ 5000) : printS l = some (l.flatMap lineP) := by
  obtain ⟨h1, h2⟩ := parse_size h
  obtain ⟨h3, h4, _⟩ := parse_fits h
  exact (printS_iff l _).2 ⟨h3, h4, by omega, rfl⟩
end Go.Proofs.YtdjklnlkocconaaGreatDoor

namespace Go.Proofs.YtdjklnlkocconaaGreatDoor

/-- What is left, and where it stops, is an end of what there was. -/
def Suf {α : Type} (x : PR α) (r : List Tok) : Prop := (∀ a r1, x = .ok (a, r1) → r1 <:+ r) ∧ (∀ r1, x = .error r1 → r1 <:+ r)

/-- .. and a semicolon stands just ahead of what is left. -/
structure SemiS {α : Type} (x : PR α) (r : List Tok) : Prop where
  ok : ∀ a r1, x = .ok (a, r1) → ∃ t, isT t [59] = true ∧ (t :: r1) <:+ r
  err : ∀ r1, x = .error r1 → r1 <:+ r

end Go.Proofs.YtdjklnlkocconaaGreatDoor
