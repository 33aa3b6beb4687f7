/-
  Walks of the small functions of lex and of its reference: each says what the call returns; the world stays as it was.
-/
import Derived.Test.YtgnjaneddidbbaaDoorBase
import Derived.Test.YtgnjaneddidbbaaDoorLexSpec
import Derived.WalkKit
import Derived.WalkSpells
import Derived.WalkLawsBesides
import Derived.Deep.QuietTactic
import Derived.BigQuiet
import Derived.Outline
import Derived.Lib.Hide
namespace Go.Proofs.YtgnjaneddidbbaaDoor
open Go Go.RowKit




theorem small_any (c : Int) (w : World) :
    Calls Tryd.prog 23 #[.int .u8 c] w fun e w' => e = .returned (.bool (smallB c)) ∧ w = w' := by
  unfold smallB
  by_cases h1 : 97 ≤ c
  · go_enter Tryd.func23, Tryd.ntmps23
    go_wp2
    go_ret
    exact ⟨ret_bool (by simp [h1]), rfl⟩
  · go_enter Tryd.func23, Tryd.ntmps23
    go_wp2
    go_ret
    exact ⟨ret_bool (by simp; omega), rfl⟩

theorem digit_any (c : Int) (w : World) :
    Calls Tryd.prog 26 #[.int .u8 c] w fun e w' => e = .returned (.bool (digitB c)) ∧ w = w' := by
  unfold digitB
  by_cases h1 : 48 ≤ c
  · go_enter Tryd.func26, Tryd.ntmps26
    go_wp2
    go_ret
    exact ⟨ret_bool (by simp [h1]), rfl⟩
  · go_enter Tryd.func26, Tryd.ntmps26
    go_wp2
    go_ret
    exact ⟨ret_bool (by simp; omega), rfl⟩

theorem tok1_any (c : Int) (w : World) :
    Calls Tryd.prog 25 #[.int .u8 c] w fun e w' => e = .returned (.bool (wordB c)) ∧ w = w' := by
  unfold wordB
  cases hs : smallB c <;> cases hd : digitB c
  all_goals
    go_enter Tryd.func25, Tryd.ntmps25
    go_wp2_with (first
      | (go_at_call 23; refine (small_any _ _).mono ?_; rintro e w' ⟨rfl, rfl⟩)
      | (go_at_call 26; refine (digit_any _ _).mono ?_; rintro e w' ⟨rfl, rfl⟩))
    go_ret
    exact ⟨ret_bool (by simp; try exact decide_eq_decide.2 Iff.rfl), rfl⟩

/-- How many bytes from the front a test takes. -/
def runLen (p : Int → Bool) (s : ByteArray) : Nat := (s.data.toList.takeWhile (fun b => p b.toNat)).length

theorem runLen_of {p : Int → Bool} {s : ByteArray} {k : Nat} (hk : k ≤ s.size) (h : ∀ j (hj : j < s.size), j < k → p s[j].toNat = true)
    (hend : k = s.size ∨ ∃ hj : k < s.size, p s[k].toNat = false) : runLen p s = k := by
  unfold runLen
  obtain ⟨⟨l⟩⟩ := s
  simp only [ByteArray.size, List.size_toArray] at hk h hend
  have h' : ∀ j (hj : j < l.length), j < k → p (l[j]).toNat = true := fun j hj hjk => h j hj hjk
  have hend' : k = l.length ∨ ∃ hj : k < l.length, p (l[k]).toNat = false := hend
  clear h hend
  show (l.takeWhile (fun b => p b.toNat)).length = k
  induction l generalizing k with
  | nil => simp at hk; simp [hk]
  | cons b l ih =>
    cases k with
    | zero =>
      rcases hend' with h | ⟨hj, h⟩
      · simp at h
      · simp at h; simp [h]
    | succ k =>
      have h0 := h' 0 (by simp) (by omega)
      simp at h0
      simp only [List.takeWhile_cons, h0, if_true, List.length_cons]
      rw [ih (k := k) (by simpa using hk)]
      · intro j hj hjk; exact h' (j + 1) (by simp; omega) (by omega)
      · rcases hend' with h | ⟨hj, h⟩
        · left; simpa using h
        · right; exact ⟨by simpa using hj, by simpa using h⟩

set_option maxHeartbeats 400000 in
theorem runWord_any (s : ByteArray) (w : World) (hs : s.size ≤ maxLen) :
    Calls Tryd.prog 24 #[.string s, .func (.func 25) #[] #[]] w fun e w' => e = .returned (.string (s.extract 0 (runLen wordB s))) ∧ w = w' := by
  unfold maxLen at hs
  go_enter Tryd.func24, Tryd.ntmps24
  go_wp2
  go_loop [5] (fun i => ∃ k : Nat, k ≤ s.size ∧ i = .int .i64 k ∧ ∀ j (hj : j < s.size), j < k → wordB s[j].toNat = true) (fun i => s.size - (intOf i).toNat)
  case atStart => exact ⟨0, Nat.zero_le _, rfl, fun j _ h => absurd h (by omega)⟩
  case round =>
    obtain ⟨k, hk, rfl, hall⟩ := hrel
    have H := Lib.hid hall
    clear hall
    by_cases hlt : k < s.size
    · cases hp : wordB s[k].toNat
      · go_wp2_with (go_at_call 25; refine (tok1_any _ _).mono ?_; rintro e w' ⟨rfl, rfl⟩)
        go_ret
        exact ⟨ret_str (by rw [runLen_of hk H.out (.inr ⟨hlt, hp⟩)]), rfl⟩
      · go_wp2_with (go_at_call 25; refine (tok1_any _ _).mono ?_; rintro e w' ⟨rfl, rfl⟩)
        go_round
        case rel =>
          refine ⟨k + 1, by omega, by go_num, fun j hj hjk => ?_⟩
          rcases Nat.lt_or_ge j k with h | h
          · exact H.out j hj h
          · obtain rfl : j = k := by omega
            exact hp
        case measure => simp [intOf]; omega
    · go_wp2
      go_ret
      exact ⟨ret_str (by rw [runLen_of hk H.out (.inl (by omega))]), rfl⟩

set_option maxHeartbeats 400000 in
theorem runDigit_any (s : ByteArray) (w : World) (hs : s.size ≤ maxLen) :
    Calls Tryd.prog 24 #[.string s, .func (.func 26) #[] #[]] w fun e w' => e = .returned (.string (s.extract 0 (runLen digitB s))) ∧ w = w' := by
  unfold maxLen at hs
  go_enter Tryd.func24, Tryd.ntmps24
  go_wp2
  go_loop [5] (fun i => ∃ k : Nat, k ≤ s.size ∧ i = .int .i64 k ∧ ∀ j (hj : j < s.size), j < k → digitB s[j].toNat = true) (fun i => s.size - (intOf i).toNat)
  case atStart => exact ⟨0, Nat.zero_le _, rfl, fun j _ h => absurd h (by omega)⟩
  case round =>
    obtain ⟨k, hk, rfl, hall⟩ := hrel
    have H := Lib.hid hall
    clear hall
    by_cases hlt : k < s.size
    · cases hp : digitB s[k].toNat
      · go_wp2_with (go_at_call 26; refine (digit_any _ _).mono ?_; rintro e w' ⟨rfl, rfl⟩)
        go_ret
        exact ⟨ret_str (by rw [runLen_of hk H.out (.inr ⟨hlt, hp⟩)]), rfl⟩
      · go_wp2_with (go_at_call 26; refine (digit_any _ _).mono ?_; rintro e w' ⟨rfl, rfl⟩)
        go_round
        case rel =>
          refine ⟨k + 1, by omega, by go_num, fun j hj hjk => ?_⟩
          rcases Nat.lt_or_ge j k with h | h
          · exact H.out j hj h
          · obtain rfl : j = k := by omega
            exact hp
        case measure => simp [intOf]; omega
    · go_wp2
      go_ret
      exact ⟨ret_str (by rw [runLen_of hk H.out (.inl (by omega))]), rfl⟩

end Go.Proofs.YtgnjaneddidbbaaDoor
