/-
  Walks of the small functions of lex and of its reference: each says what the call returns; the world stays as it was.
  strconv.ParseUint with base 10 and 31 bits, of digits alone; strings.IndexByte.
  strconv.ParseUint with base 10 and 31 bits, of digits alone; strings.IndexByte.
-/
import Derived.Test.YtdjklnlkocconaaGreatDoorGroundZ
import Derived.Test.YtdjklnlkocconaaGreatDoorPlainZ
import Derived.Test.YtdjklnlkocconaaGreatDoorShelf
import Derived.WalkKit
import Derived.WalkSpells
import Derived.WalkLawsBesides
import Derived.Deep.QuietTactic
import Derived.BigQuiet
import Derived.Outline
import Derived.Lib.Hide
import Derived.Lib.Strings
import Derived.Lib.Walk
import Derived.Lib.ConvBytes
import Derived.Lib.ParseIntBMem
import Derived.Laws.Strings3
import Derived.Laws.Closers25
import Derived.Laws.Closers25b
import Derived.BigCall
import Derived.BigGuard
import Derived.Lib.IndexLaws
import Derived.Lib.Bytealg
namespace Go.Proofs.YtdjklnlkocconaaGreatDoor
open Go Go.RowKit




theorem small_any (c : Int) (w : World) :
    Calls Tryz.prog 49 #[.int .u8 c] w fun e w' => e = .returned (.bool (smallB c)) ∧ w = w' := by
  unfold smallB
  by_cases h1 : 97 ≤ c
  · go_enter Tryz.func49, Tryz.ntmps49
    go_wp2
    go_ret
    exact ⟨ret_bool (by simp [h1]), rfl⟩
  · go_enter Tryz.func49, Tryz.ntmps49
    go_wp2
    go_ret
    exact ⟨ret_bool (by simp; omega), rfl⟩

theorem digit_any (c : Int) (w : World) :
    Calls Tryz.prog 52 #[.int .u8 c] w fun e w' => e = .returned (.bool (digitB c)) ∧ w = w' := by
  unfold digitB
  by_cases h1 : 48 ≤ c
  · go_enter Tryz.func52, Tryz.ntmps52
    go_wp2
    go_ret
    exact ⟨ret_bool (by simp [h1]), rfl⟩
  · go_enter Tryz.func52, Tryz.ntmps52
    go_wp2
    go_ret
    exact ⟨ret_bool (by simp; omega), rfl⟩

theorem tok1_any (c : Int) (w : World) :
    Calls Tryz.prog 51 #[.int .u8 c] w fun e w' => e = .returned (.bool (wordB c)) ∧ w = w' := by
  unfold wordB
  cases hs : smallB c <;> cases hd : digitB c
  all_goals
    go_enter Tryz.func51, Tryz.ntmps51
    go_wp2_with (first
      | (go_at_call 49; refine (small_any _ _).mono ?_; rintro e w' ⟨rfl, rfl⟩)
      | (go_at_call 52; refine (digit_any _ _).mono ?_; rintro e w' ⟨rfl, rfl⟩))
    go_ret
    exact ⟨ret_bool (by simp; try exact decide_eq_decide.2 Iff.rfl), rfl⟩

/-- How many bytes from the front a test takes. -/
def runLen (p : Int → Bool) (s : ByteArray) : Nat := (s.data.toList.takeWhile (fun b => p b.toNat)).length

theorem runLen_of {p : Int → Bool} {s : ByteArray} {k : Nat} (hk : k ≤ s.size) (h : ∀ j (hj : j < s.size), j < k → p s[j].toNat = true)
    (hend : k = s.size ∨ ∃ hj : k < s.size, p s[k].toNat = false) : runLen p s = k := by
  unfold runLen
  obtain ⟨⟨l⟩⟩ := s
  simp only [ByteArray.size, List.size_toArray] at hk h hend
  have h' : ∀ j (hj : j < l.length), j < k → p (l[j]).toNat = true := fun j hj hjk => h j hj hjk
  have hend' : k = l.length ∨ ∃ hj : k < l.length, p (l[k]).toNat = false := hend
  clear h hend
  show (l.takeWhile (fun b => p b.toNat)).length = k
  induction l generalizing k with
  | nil => simp at hk; simp [hk]
  | cons b l ih =>
    cases k with
    | zero =>
      rcases hend' with h | ⟨hj, h⟩
      · simp at h
      · simp at h; simp [h]
    | succ k =>
      have h0 := h' 0 (by simp) (by omega)
      simp at h0
      simp only [List.takeWhile_cons, h0, if_true, List.length_cons]
      rw [ih (k := k) (by simpa using hk)]
      · intro j hj hjk; exact h' (j + 1) (by simp; omega) (by omega)
      · rcases hend' with h | ⟨hj, h⟩
        · left; simpa using h
        · right; exact ⟨by simpa using hj, by simpa using h⟩

set_option maxHeartbeats 400000 in
theorem runWord_any (s : ByteArray) (w : World) (hs : s.size ≤ maxLen) :
    Calls Tryz.prog 50 #[.string s, .func (.func 51) #[] #[]] w fun e w' => e = .returned (.string (s.extract 0 (runLen wordB s))) ∧ w = w' := by
  unfold maxLen at hs
  go_enter Tryz.func50, Tryz.ntmps50
  go_wp2
  go_loop [5] (fun i => ∃ k : Nat, k ≤ s.size ∧ i = .int .i64 k ∧ ∀ j (hj : j < s.size), j < k → wordB s[j].toNat = true) (fun i => s.size - (intOf i).toNat)
  case atStart => exact ⟨0, Nat.zero_le _, rfl, fun j _ h => absurd h (by omega)⟩
  case round =>
    obtain ⟨k, hk, rfl, hall⟩ := hrel
    have H := Lib.hid hall
    clear hall
    by_cases hlt : k < s.size
    · cases hp : wordB s[k].toNat
      · go_wp2_with (go_at_call 51; refine (tok1_any _ _).mono ?_; rintro e w' ⟨rfl, rfl⟩)
        go_ret
        exact ⟨ret_str (by rw [runLen_of hk H.out (.inr ⟨hlt, hp⟩)]), rfl⟩
      · go_wp2_with (go_at_call 51; refine (tok1_any _ _).mono ?_; rintro e w' ⟨rfl, rfl⟩)
        go_round
        case rel =>
          refine ⟨k + 1, by omega, by go_num, fun j hj hjk => ?_⟩
          rcases Nat.lt_or_ge j k with h | h
          · exact H.out j hj h
          · obtain rfl : j = k := by omega
            exact hp
        case measure => simp [intOf]; omega
    · go_wp2
      go_ret
      exact ⟨ret_str (by rw [runLen_of hk H.out (.inl (by omega))]), rfl⟩

set_option maxHeartbeats 400000 in
theorem runDigit_any (s : ByteArray) (w : World) (hs : s.size ≤ maxLen) :
    Calls Tryz.prog 50 #[.string s, .func (.func 52) #[] #[]] w fun e w' => e = .returned (.string (s.extract 0 (runLen digitB s))) ∧ w = w' := by
  unfold maxLen at hs
  go_enter Tryz.func50, Tryz.ntmps50
  go_wp2
  go_loop [5] (fun i => ∃ k : Nat, k ≤ s.size ∧ i = .int .i64 k ∧ ∀ j (hj : j < s.size), j < k → digitB s[j].toNat = true) (fun i => s.size - (intOf i).toNat)
  case atStart => exact ⟨0, Nat.zero_le _, rfl, fun j _ h => absurd h (by omega)⟩
  case round =>
    obtain ⟨k, hk, rfl, hall⟩ := hrel
    have H := Lib.hid hall
    clear hall
    by_cases hlt : k < s.size
    · cases hp : digitB s[k].toNat
      · go_wp2_with (go_at_call 52; refine (digit_any _ _).mono ?_; rintro e w' ⟨rfl, rfl⟩)
        go_ret
        exact ⟨ret_str (by rw [runLen_of hk H.out (.inr ⟨hlt, hp⟩)]), rfl⟩
      · go_wp2_with (go_at_call 52; refine (digit_any _ _).mono ?_; rintro e w' ⟨rfl, rfl⟩)
        go_round
        case rel =>
          refine ⟨k + 1, by omega, by go_num, fun j hj hjk => ?_⟩
          rcases Nat.lt_or_ge j k with h | h
          · exact H.out j hj h
          · obtain rfl : j = k := by omega
            exact hp
        case measure => simp [intOf]; omega
    · go_wp2
      go_ret
      exact ⟨ret_str (by rw [runLen_of hk H.out (.inl (by omega))]), rfl⟩

end Go.Proofs.YtdjklnlkocconaaGreatDoor

namespace Go.Proofs.YtdjklnlkocconaaGreatDoor
open Go Go.RowKit

set_option maxHeartbeats 32000000 in
set_option maxRecDepth 100000 in
/-- internal/strconv.ParseUint(s, 10, 31), s not empty. -/
theorem parse31 (t : ByteArray) (hne : t.size ≠ 0) (hmax : t.size ≤ 9223372036854775806) (w : World) :
    Calls Tryz.prog 78 #[.string t, .int .i64 10, .int .i64 31] w fun e w' => e = .returned (Lib.uintTupleM 142 2147483647 (Lib.parseUintM 2147483647 0 t.data.toList)) ∧ w' = Lib.bytesWorld w 5 t := by
  have hemp : t.toList.isEmpty = false := by
    rw [← decide_eq_emptyBytes]
    exact decide_eq_false (fun h => hne (by rw [h]; rfl))
  have hcv := Lib.run_convert_string_bytes (P := Tryz.prog) w 9 104 5 t (u := .string) Tryz.underlying9 Tryz.underlying104 Tryz.underlying5
  have hB : ∀ j, j < t.size → (Lib.bytesWorld w 5 t).cell? ⟨w.heap.size, j, none⟩ = some (.int .u8 (t.data.toList.getD j 0).toNat) := fun j hj => Lib.bytesWorld_cell w 5 t j hj
  obtain ⟨W1, hW1⟩ : ∃ W1, W1 = Lib.bytesWorld w 5 t := ⟨_, rfl⟩
  rw [← hW1] at hcv hB ⊢
  clear hW1
  obtain ⟨bs, hL⟩ : ∃ bs, bs = t.data.toList := ⟨_, rfl⟩
  have hLn : bs.length = t.size := by rw [hL, Lib.size_eq]
  rw [← hL] at hB ⊢
  clear hL
  have hmv : IntKind.u64.wrap (IntKind.u64.wrap 2147483648 - 1) = 2147483647 := by
    rw [IntKind.wrap_u64, IntKind.wrap_u64]
    decide
  go_enter Tryz.func78, Tryz.ntmps78
  go_wp2
  go_loop [12, 13, 101] (fun vu vn vi => ∃ (k acc : Nat) (a : Int), vu = .bool false ∧ vn = .int .u64 a ∧ vi = .int .i64 k ∧ k ≤ t.size ∧ Hid (a = (acc : Int) ∧ acc ≤ 2147483647 ∧ Lib.parseUintM 2147483647 0 bs = Lib.parseUintM 2147483647 acc (bs.drop k)))
    (fun _ _ vi => t.size - (intOf vi).toNat)
  case atStart => exact ⟨0, 0, 0, rfl, rfl, rfl, by omega, rfl, by omega, rfl⟩
  case round =>
    obtain ⟨k, acc, a, rfl, rfl, rfl, hk, hh⟩ := hrel
    obtain ⟨ha, hacc, hdec⟩ := hh.out
    clear hh
    have a0 : 0 ≤ a := by omega
    have a1 : a ≤ 2147483647 := by omega
    by_cases hkn : k < t.size
    · have hc := hB k hkn
      have hdrop : bs.drop k = bs[k]'(by omega) :: bs.drop (k + 1) := List.drop_eq_getElem_cons (by omega)
      have hget : bs.getD k 0 = bs[k]'(by omega) := by simp [List.getD, List.getElem?_eq_getElem (show k < bs.length by omega)]
      rw [hdrop] at hdec
      rw [hget] at hc
      generalize bs[k]'(by omega) = c at hc hdec
      have hc256 : c.toNat < 256 := c.toNat_lt
      clear hB hdrop hget
      by_cases hdig : 48 ≤ c.toNat ∧ c.toNat ≤ 57
      · obtain ⟨hd0, hd1⟩ := hdig
        have hcut : ¬ 1844674407370955162 ≤ acc := by omega
        by_cases hov : 2147483647 < acc * 10 + (c.toNat - 48)
        · have hF : Lib.parseUintM 2147483647 acc (c :: bs.drop (k + 1)) = .range := by simp [Lib.parseUintM, hd0, hd1, hcut, hov]
          rw [hF] at hdec
          have iov : 2147483647 < a * 10 + ((c.toNat : Int) - 48) := by omega
          clear hcut hacc hF hov ha
          go_wp2
          go_ret2
          exact ⟨rfl, rfl⟩
        · have hF : Lib.parseUintM 2147483647 acc (c :: bs.drop (k + 1)) = Lib.parseUintM 2147483647 (acc * 10 + (c.toNat - 48)) (bs.drop (k + 1)) := by simp [Lib.parseUintM, hd0, hd1, hcut, hov]
          have HN : Hid (a * 10 + ((c.toNat : Int) - 48) = ((acc * 10 + (c.toNat - 48) : Nat) : Int) ∧ acc * 10 + (c.toNat - 48) ≤ 2147483647 ∧ Lib.parseUintM 2147483647 0 bs = Lib.parseUintM 2147483647 (acc * 10 + (c.toNat - 48)) (bs.drop (k + 1))) := Lib.hid ⟨by omega, by omega, hdec.trans hF⟩
          have iov : a * 10 + ((c.toNat : Int) - 48) ≤ 2147483647 := by omega
          clear hcut hacc hF hov hdec ha
          go_wp2
          refine ⟨⟨k + 1, acc * 10 + (c.toNat - 48), a * 10 + ((c.toNat : Int) - 48), rfl, (by first | rfl | (congr 1; omega)), (by first | rfl | (congr 1; omega)), by omega, HN⟩, by simp [intOf]; omega⟩
      · have hF : Lib.parseUintM 2147483647 acc (c :: bs.drop (k + 1)) = .syntax := by simp [Lib.parseUintM, hdig]
        rw [hF] at hdec
        clear hacc hF ha
        have hv0 := bits_lo_u8 .or (c.toNat : Int) 32
        have hv1 := bits_hi_u8 .or (c.toNat : Int) 32
        have hu0 := bits_lo_u8 .or 95 32
        have hu1 := bits_hi_u8 .or 95 32
        go_wp2_with (go_at_call 101; refine (Tryz.internal_strconv_lower _ _).mono ?_; rintro e w' ⟨rfl, rfl⟩)
        all_goals go_ret2
        all_goals first | exact ⟨rfl, rfl⟩ | exact ⟨by rw [hdec]; rfl, rfl⟩
    · have hkk : k = t.size := by omega
      subst hkk
      have hF : Lib.parseUintM 2147483647 acc (bs.drop t.size) = .ok acc := by rw [List.drop_eq_nil_of_le (by omega)]; rfl
      rw [hF] at hdec
      subst ha
      clear hacc hF a0 a1
      go_wp2
      go_ret2
      exact ⟨rfl, rfl⟩

end Go.Proofs.YtdjklnlkocconaaGreatDoor

namespace Go.Proofs.YtdjklnlkocconaaGreatDoor
open Go Go.RowKit

/-- What digits alone parse as. -/
theorem parse_digits (M : Nat) (hM : M < 1844674407370955162) : ∀ (l : List UInt8) (acc : Nat), (∀ b ∈ l, digitB b.toNat = true) → acc ≤ M →
    Lib.parseUintM M acc l = if decVal acc l ≤ M then .ok (decVal acc l) else .range := by
  intro l
  induction l with
  | nil => intro acc _ ha; rw [Lib.parseUintM, decVal_nil, if_pos ha]
  | cons c r ih =>
    intro acc hd ha
    have hc := hd c (List.mem_cons_self ..)
    simp only [digitB, decide_eq_true_eq] at hc
    have h0 : 48 ≤ c.toNat ∧ c.toNat ≤ 57 := by omega
    rw [Lib.parseUintM, if_pos h0, if_neg (by omega), decVal_cons, show decStep acc c = acc * 10 + (c.toNat - 48) from rfl]
    by_cases hov : M < acc * 10 + (c.toNat - 48)
    · rw [if_pos hov, if_neg]
      have := decVal_ge r (acc * 10 + (c.toNat - 48))
      omega
    · rw [if_neg hov]
      exact ih _ (fun b hb => hd b (List.mem_cons_of_mem _ hb)) (by omega)

theorem bytesWorld_below (w : World) (e : TypeId) (s : ByteArray) : Below w.heap.size w (Lib.bytesWorld w e s) := by
  refine ⟨rfl, rfl, rfl, ?_, fun k hk => ?_⟩
  · unfold Lib.bytesWorld World.freeze
    split <;> simp
  · unfold Lib.bytesWorld World.freeze
    have h0 : (w.drew.alloc (.cells (Lib.bytesCells w e s) e)).heap[k]? = w.heap[k]? := Below.heap_alloc w.drew _ k hk
    split
    · exact h0
    · simp only [Array.getElem?_modify]
      rw [if_neg (by omega)]
      exact h0

set_option maxHeartbeats 400000 in
/-- strconv.ParseUint(t, 10, 31), t digits that spell a number that fits. -/
theorem parse_ok (t : ByteArray) (n : Nat) (hne : t.size ≠ 0) (hmax : t.size ≤ 9223372036854775806) (hv : Lib.parseUintM 2147483647 0 t.data.toList = .ok n) (w : World) :
    Calls Tryz.prog 53 #[.string t, .int .i64 10, .int .i64 31] w fun e w' => e = .returned (.tuple #[.int .u64 n, .nilIface]) ∧ Below w.heap.size w w' := by
  have hc := parse31 t hne hmax w
  rw [hv] at hc
  simp only [Lib.uintTupleM] at hc
  have HB : Hid (Below w.heap.size w (Lib.bytesWorld w 5 t)) := bytesWorld_below w _ t
  have HC := Lib.hid hc
  clear hc hv
  generalize Lib.bytesWorld w 5 t = W1 at HB HC
  go_enter Tryz.func53, Tryz.ntmps53
  go_wp2_with (go_at_call 78; refine HC.out.mono ?_; rintro e w' ⟨rfl, rfl⟩)
  go_ret2
  exact ⟨rfl, HB⟩

def BigEnd (e : Ending) : Prop := ∃ N, e = .returned (.tuple #[.int .u64 2147483647, .iface 144 (.pointer (some ⟨N, 0, none⟩))])

set_option maxHeartbeats 400000 in
/-- strconv.ParseUint(t, 10, 31), t digits that spell a number that does not fit. -/
theorem parse_big (t : ByteArray) (hne : t.size ≠ 0) (hmax : t.size ≤ 281474976710656) (hv : Lib.parseUintM 2147483647 0 t.data.toList = .range) (w : World) (hg : Good w) :
    Calls Tryz.prog 53 #[.string t, .int .i64 10, .int .i64 31] w fun e w' => BigEnd e ∧ Below w.heap.size w w' := by
  have hc := parse31 t hne (by omega) w
  rw [hv] at hc
  simp only [Lib.uintTupleM] at hc
  have hb := bytesWorld_below w 5 t
  have hg1 := hg.at hb
  have HB : Hid (Below w.heap.size w (Lib.bytesWorld w 5 t)) := hb
  have HC := Lib.hid hc
  clear hc hv hb hg
  generalize Lib.bytesWorld w 5 t = W1 at HB HC hg1
  obtain ⟨ev, he1, he2⟩ := hg1.rng
  have HE : Hid (W1.cell? ⟨2, 0, none⟩ = some ev) := he1
  clear he1
  go_enter Tryz.func53, Tryz.ntmps53
  go_wp2_with (first
    | (go_at_call 78; refine HC.out.mono ?_; rintro e w' ⟨rfl, rfl⟩)
    | (go_at_call 79; refine (Tryz.strconv_toError_range _ _ _ _ ev _ hmax HE.out he2).mono ?_; rintro e w' ⟨N, rfl, _, _, hb2⟩))
  go_ret2
  exact ⟨⟨_, rfl⟩, HB.out.trans (hb2.mono HB.out.size)⟩

theorem index_of (s : ByteArray) (c : Int) (n : Int) (w : World) (h : Hid (Lib.indexByte s.data.toList c.toNat.toUInt8 = n)) :
    Calls Tryz.prog 48 #[.string s, .int .u8 c] w fun e w' => e = .returned (.int .i64 n) ∧ w = w' := by
  rw [← h.out]
  exact (Tryz.strings_IndexByte s c w).mono fun _ _ ⟨he, hw⟩ => ⟨he, hw.symm⟩

theorem index_sign (c : UInt8) : decide (0 ≤ Lib.indexByte [40, 41, 44, 61, 47, 59] c) = signB c.toNat := by
  have : ∀ n : Fin 256, decide (0 ≤ Lib.indexByte [40, 41, 44, 61, 47, 59] (UInt8.ofNat n.val)) = signB (UInt8.ofNat n.val).toNat := by decide +kernel
  simpa using this ⟨c.toNat, c.toNat_lt⟩

theorem index_remark (l : List UInt8) : (Lib.indexByte l 10 = -1 ∧ remark l = l) ∨ (Lib.indexByte l 10 = ((remark l).length : Int) ∧ (remark l).length < l.length) := by
  have hge := Lib.indexByte_ge l 10
  rcases (show Lib.indexByte l 10 < 0 ∨ 0 ≤ Lib.indexByte l 10 by omega) with h | h
  · have h1 : Lib.indexByte l 10 = -1 := by omega
    exact .inl ⟨h1, remark_all l (Lib.indexByte_none h1)⟩
  · obtain ⟨o, ho⟩ := Int.eq_ofNat_of_zero_le h
    obtain ⟨h1, h2⟩ := Lib.indexByte_some ho
    have hol : o < l.length := (List.getElem?_eq_some_iff.1 h1).1
    have hr := remark_len l o h1 h2
    exact .inr ⟨by rw [ho, hr], by omega⟩

end Go.Proofs.YtdjklnlkocconaaGreatDoor
