/-
  The reference's sort of a byte: the walk.
  The reference's Tokens: the walk.
-/
import Derived.Test.YtdjklnlkocconaaGreatDoorLexABZ
import Derived.Test.YtdjklnlkocconaaGreatDoorLexCZ
namespace Go.Proofs.YtdjklnlkocconaaGreatDoor
open Go Go.RowKit

def sortV (c : Int) : Int := if blankB c then 0 else if smallB c then 1 else if digitB c then 2 else if c = 95 then 3 else if signB c then 4 else if c = 35 then 5 else 6

set_option maxHeartbeats 4000000 in
theorem sort_any (c : Int) (w : World) :
    Calls Tryz.prog 112 #[.int .u8 c] w fun e w' => e = .returned (.int .i64 (sortV c)) ∧ w = w' := by
  by_cases hl : c = 32 ∨ c = 9 ∨ c = 10 ∨ c = 13 ∨ c = 95 ∨ c = 40 ∨ c = 41 ∨ c = 44 ∨ c = 61 ∨ c = 47 ∨ c = 59 ∨ c = 35
  · rcases hl with rfl | rfl | rfl | rfl | rfl | rfl | rfl | rfl | rfl | rfl | rfl | rfl
    all_goals
      go_enter Tryz.func112, Tryz.ntmps112
      go_wp2
      go_ret
      exact ⟨rfl, rfl⟩
  · have e1 : (c == 32) = false := by simp; omega
    have e2 : (c == 9) = false := by simp; omega
    have e3 : (c == 10) = false := by simp; omega
    have e4 : (c == 13) = false := by simp; omega
    have e5 : (c == 95) = false := by simp; omega
    have e6 : (c == 40) = false := by simp; omega
    have e7 : (c == 41) = false := by simp; omega
    have e8 : (c == 44) = false := by simp; omega
    have e9 : (c == 61) = false := by simp; omega
    have e10 : (c == 47) = false := by simp; omega
    have e11 : (c == 59) = false := by simp; omega
    have e12 : (c == 35) = false := by simp; omega
    have hv : sortV c = if 97 ≤ c ∧ c ≤ 122 then 1 else if 48 ≤ c ∧ c ≤ 57 then 2 else 6 := by
      have h1 : blankB c = false := by simp only [blankB, decide_eq_false_iff_not]; omega
      have h2 : signB c = false := by simp only [signB, decide_eq_false_iff_not]; omega
      have h3 : c ≠ 95 := by omega
      have h4 : c ≠ 35 := by omega
      simp [sortV, h1, h2, h3, h4, smallB, digitB]
    have HV := Lib.hid hv
    clear hv hl
    by_cases h1 : 97 ≤ c
    · by_cases h2 : c ≤ 122
      all_goals
        go_enter Tryz.func112, Tryz.ntmps112
        go_wp2
        go_ret
        exact ⟨ret_int (by rw [HV.out]; (repeat' split) <;> first | rfl | (exfalso; omega)), rfl⟩
    · by_cases h2 : 48 ≤ c
      · by_cases h3 : c ≤ 57
        all_goals
          go_enter Tryz.func112, Tryz.ntmps112
          go_wp2
          go_ret
          exact ⟨ret_int (by rw [HV.out]; (repeat' split) <;> first | rfl | (exfalso; omega)), rfl⟩
      · go_enter Tryz.func112, Tryz.ntmps112
        go_wp2
        go_ret
        exact ⟨ret_int (by rw [HV.out]; (repeat' split) <;> first | rfl | (exfalso; omega)), rfl⟩

theorem sortV_word (c : Int) : wordB c = true → 1 ≤ sortV c ∧ sortV c ≤ 3 := by
  intro h
  simp only [wordB, smallB, digitB, Bool.or_eq_true, decide_eq_true_eq] at h
  have h1 : blankB c = false := by simp only [blankB, decide_eq_false_iff_not]; omega
  unfold sortV
  rw [if_neg (by rw [h1]; decide)]
  by_cases h2 : smallB c = true
  · rw [if_pos h2]; decide
  · rw [if_neg h2]
    by_cases h3 : digitB c = true
    · rw [if_pos h3]; decide
    · rw [if_neg h3]
      simp only [smallB, digitB, decide_eq_true_eq] at h2 h3
      rw [if_pos (by omega)]; decide

theorem sortV_noword (c : Int) : wordB c = false → sortV c < 1 ∨ 3 < sortV c := by
  intro h
  simp only [wordB, Bool.or_eq_false_iff, decide_eq_false_iff_not] at h
  unfold sortV
  by_cases h1 : blankB c = true
  · rw [if_pos h1]; decide
  · rw [if_neg h1, if_neg (by rw [h.1.1]; decide), if_neg (by rw [h.1.2]; decide), if_neg h.2]
    by_cases h2 : signB c = true
    · rw [if_pos h2]; decide
    · rw [if_neg h2]
      by_cases h3 : c = 35
      · rw [if_pos h3]; decide
      · rw [if_neg h3]; decide

theorem sortV_digit (c : Int) : (sortV c == 2) = digitB c := by
  cases h : digitB c
  · simp only [beq_eq_false_iff_ne, ne_eq]
    unfold sortV
    repeat' split
    all_goals simp_all
  · simp only [beq_iff_eq]
    simp only [digitB, decide_eq_true_eq] at h
    have h1 : blankB c = false := by simp only [blankB, decide_eq_false_iff_not]; omega
    have h2 : smallB c = false := by simp only [smallB, decide_eq_false_iff_not]; omega
    unfold sortV
    rw [if_neg (by rw [h1]; decide), if_neg (by rw [h2]; decide), if_pos (by simp only [digitB, decide_eq_true_eq]; omega)]
end Go.Proofs.YtdjklnlkocconaaGreatDoor

namespace Go.Proofs.YtdjklnlkocconaaGreatDoor
open Go Go.RowKit

theorem takeWhile_true {α : Type} (p : α → Bool) (l : List α) : ∀ j x, j < (l.takeWhile p).length → l[j]? = some x → p x = true := by
  induction l with
  | nil => intro j x h; simp at h
  | cons y l ih =>
    intro j x h hx
    cases hy : p y
    · simp [hy] at h
    · cases j with
      | zero => simp at hx; rw [← hx]; exact hy
      | succ j => exact ih j x (by simpa [hy] using h) (by simpa using hx)

theorem takeWhile_false {α : Type} (p : α → Bool) (l : List α) : ∀ m x, (l.takeWhile p).length = m → l[m]? = some x → p x = false := by
  induction l with
  | nil => intro m x _ h; simp at h
  | cons y l ih =>
    intro m x hm hx
    cases hy : p y
    · simp [hy] at hm; subst hm; simp at hx; rw [← hx]; exact hy
    · simp [hy] at hm
      subst hm
      exact ih _ x rfl (by simpa using hx)

theorem get_drop {s : ByteArray} {L : List UInt8} {k : Nat} (hL : s.data.toList.drop k = L) (j : Nat) (h : k + j < s.size) : L[j]? = some s[k + j] := by
  subst hL
  obtain ⟨⟨l⟩⟩ := s
  simp only [List.getElem?_drop]
  exact List.getElem?_eq_getElem (by simpa [ByteArray.size] using h)

theorem decVal_append (a : Nat) (l r : List UInt8) : decVal a (l ++ r) = decVal (decVal a l) r := by
  rw [decVal, decVal, decVal, List.foldl_append]

theorem decVal_take_le (l : List UInt8) (j : Nat) : decVal 0 (l.take j) ≤ decVal 0 l := by
  have h : l = l.take j ++ l.drop j := (List.take_append_drop j l).symm
  have h2 : decVal 0 l = decVal (decVal 0 (l.take j)) (l.drop j) := by rw [← decVal_append, List.take_append_drop]
  rw [h2]
  exact decVal_ge _ _

theorem decVal_snoc (l : List UInt8) (j : Nat) (x : UInt8) (h : l[j]? = some x) : decVal 0 (l.take (j + 1)) = decStep (decVal 0 (l.take j)) x := by
  obtain ⟨hj, rfl⟩ := List.getElem?_eq_some_iff.1 h
  rw [List.take_succ_eq_append_getElem hj, decVal_append]
  rfl

def LexEndR (B : Nat) (R : Except Nat (List Tok)) (e : Ending) (w' : World) : Prop :=
  match R with
  | .error k => e = .returned (.tuple #[.slice none 0 0, .int .i64 k, .int .i64 21])
  | .ok ts => ∃ v, e = .returned (.tuple #[v, .int .i64 0, .int .i64 0]) ∧ w'.ownsRow B 129 4 v ts.length (ts.flatMap tokCells)

theorem info129 : (Tryz.prog.info? 129).map (fun i => (i.zero, i.size, i.bytes)) = some (some (.agg #[.int .i64 0, .string ⟨#[]⟩, .int .i64 0, .int .i64 0]), 4, 40) := by kernel_rfl

theorem rtok_grown {B : Nat} {w wr X w1 : World} {v v' : Value} {acc : List Tok} {t : Tok} (hown : wr.ownsRow B 129 4 v acc.length (acc.flatMap tokCells)) (hb : Below B w X) (hB : B ≤ X.heap.size)
    (hown3 : w1.ownsRow B 129 4 v' (acc.length + 1) (acc.flatMap tokCells ++ tokCells t)) (hgrow : X.grownBy w1 v.ownBlock) :
    w1.ownsRow B 129 4 v' (acc ++ [t]).length ((acc ++ [t]).flatMap tokCells) ∧ Below B w w1 := by
  refine ⟨?_, below_grown hown hb hB hgrow⟩
  have e1 : (acc ++ [t]).length = acc.length + 1 := by simp
  have e2 : (acc ++ [t]).flatMap tokCells = acc.flatMap tokCells ++ tokCells t := by simp
  rw [e1, e2]
  exact hown3

set_option maxHeartbeats 8000000 in
set_option maxRecDepth 100000 in
theorem rtokens_any (s : ByteArray) (w : World) (hs : s.size ≤ 65536) :
    Calls Tryz.prog 87 #[.string s] w fun e w' => LexEndR w.heap.size (lexS s.data.toList) e w' ∧ Below w.heap.size w w' := by
  obtain ⟨i0, hi, hz0, hz1, hz2⟩ := info_parts info129
  go_enter Tryz.func87, Tryz.ntmps87
  go_wp2
  go_loopw [5, 6] (fun v i wr => ∃ (k : Nat) (acc : List Tok), i = .int .i64 k ∧ k ≤ s.size ∧ wr.ownsRow w.heap.size 129 4 v acc.length (acc.flatMap tokCells) ∧ Below w.heap.size w wr ∧ Hid (LexAt s k acc)) (fun _ i _ => s.size - (intOf i).toNat)
  case atStart =>
    refine ⟨0, [], rfl, by omega, World.ownsRow_nil _ _ _ _, Below.refl _ _, Lib.hid ⟨by simp, s.size + 1, by omega, ?_⟩⟩
    rw [lexS, if_neg (by rw [← Lib.size_eq]; omega), ← Lib.size_eq]
    rfl
  case round =>
    obtain ⟨k, acc, rfl, hk, hown, hb, hat⟩ := hrel
    by_cases hlt : k < s.size
    · obtain ⟨L, HL⟩ : ∃ L, Hid (s.data.toList.drop k = L) := ⟨_, rfl⟩
      have HLs : Hid (L.length + k = s.size) := by
        show L.length + k = s.size
        rw [← HL.out, List.length_drop, ← Lib.size_eq]
        omega
      obtain ⟨c8, r, hcr⟩ : ∃ c8 r, L = c8 :: r := by
        cases L with
        | nil => have := HLs.out; simp at this; omega
        | cons c8 r => exact ⟨c8, r, rfl⟩
      obtain ⟨c, hc⟩ : ∃ c, s[k].toNat = c := ⟨_, rfl⟩
      have HC : Hid (c8.toNat = c) := by
        have h1 := get_drop HL.out 0 hlt
        rw [hcr] at h1
        have h2 : c8 = s[k] := by simpa using h1
        show c8.toNat = c
        rw [h2]
        exact hc
      have hc0 : c < 256 := by rw [← HC.out]; exact c8.toNat_lt
      have hal := hat.out.1
      have hbs := hb.size
      have HCR := Lib.hid hcr
      clear hcr
      have hown2 : ∀ o1, (wr.alloc o1).ownsRow w.heap.size 129 4 _ acc.length (acc.flatMap tokCells) := fun o1 => hown.alloc o1
      by_cases hbl : blankB c = true
      · have hv : sortV c = 0 := by unfold sortV; rw [if_pos hbl]
        clear hown2
        go_wp2_with (go_at_call 112; refine (sort_any _ _).mono ?_; rintro e w' ⟨rfl, rfl⟩)
        go_roundw
        case rel =>
          refine ⟨k + 1, acc, by go_num, by omega, hown, hb, Lib.hid (lexAt_step hat.out (by omega) (by omega) (by omega) ?_)⟩
          intro f
          have h1 := HL.out
          rw [HCR.out] at h1
          have h3 : s.data.toList.drop (k + 1) = r := by rw [← List.drop_drop, h1]; rfl
          rw [h1, h3]
          exact lexF_blank (by rw [HC.out]; exact hbl) f
        case measure => simp [intOf]; omega
      · by_cases h35 : c = 35
        · subst h35
          have hv : sortV (35 : Nat) = 5 := by decide
          obtain ⟨m, HM⟩ : ∃ m, Hid ((remark L).length = m) := ⟨_, rfl⟩
          have hm1 : 1 ≤ m := by rw [← HM.out, HCR.out]; exact remark_pos HC.out
          have hm2 : k + m ≤ s.size := by have := takeWhile_le (fun b : UInt8 => b != 10) L; have := HLs.out; have := HM.out; unfold remark at this; omega
          have HT : Hid (∀ j (h : k + j < s.size), j < m → ((s[k + j].toNat : Int) != 10) = true) := by
            intro j h hj
            have h1 := takeWhile_true (fun b : UInt8 => b != 10) L j _ (by rw [← HM.out] at hj; exact hj) (get_drop HL.out j h)
            simp only [bne_iff_ne, ne_eq] at h1 ⊢
            intro h2
            exact h1 (UInt8.toNat_inj.1 (by show s[k + j].toNat = 10; omega))
          have HF : Hid (∀ h : k + m < s.size, ((s[k + m].toNat : Int) != 10) = false) := by
            intro h
            have h1 := takeWhile_false (fun b : UInt8 => b != 10) L m _ HM.out (get_drop HL.out m h)
            have h3 : s[k + m] = 10 := by simpa using h1
            rw [h3]; decide
          clear hown2
          go_wp2_with (go_at_call 112; refine (sort_any _ _).mono ?_; rintro e w' ⟨rfl, rfl⟩)
          go_loop [8] (fun e => ∃ j : Nat, 1 ≤ j ∧ j ≤ m ∧ e = .int .i64 ((k + j : Nat) : Int)) (fun e => s.size - (intOf e).toNat)
          case atStart => exact ⟨1, by omega, hm1, by go_num⟩
          case round =>
            obtain ⟨j, hj1, hj2, rfl⟩ := hrel
            by_cases hjm : j < m
            · have hin : k + j < s.size := by omega
              have hx := HT.out j hin hjm
              go_wp2
              first
                | exact ⟨⟨j + 1, by omega, by omega, by go_num⟩, by simp [intOf]; omega⟩
                | (refine ⟨⟨trivial, ?_⟩, by simp [intOf]; omega⟩; (repeat apply Exists.intro); exact ⟨⟨j + 1, by omega, by omega, by go_num⟩, rfl⟩)
            · obtain rfl : j = m := by omega
              by_cases hin : k + j < s.size
              · have hx := HF.out hin
                go_wp2
                go_roundw
                case rel =>
                  refine ⟨k + j, acc, by go_num, by omega, hown, hb, Lib.hid (lexAt_step hat.out (by omega) (by omega) (by omega) ?_)⟩
                  intro f
                  have h3 : s.data.toList.drop (k + j) = L.drop j := by rw [← List.drop_drop, HL.out]
                  rw [h3, HL.out, HCR.out, lexF_remark HC.out, ← HCR.out, HM.out]
                case measure => simp [intOf]; omega
              · go_wp2
                go_roundw
                case rel =>
                  refine ⟨k + j, acc, by go_num, by omega, hown, hb, Lib.hid (lexAt_step hat.out (by omega) (by omega) (by omega) ?_)⟩
                  intro f
                  have h3 : s.data.toList.drop (k + j) = L.drop j := by rw [← List.drop_drop, HL.out]
                  rw [h3, HL.out, HCR.out, lexF_remark HC.out, ← HCR.out, HM.out]
                case measure => simp [intOf]; omega
        · cases hsm : smallB c
          · cases hdg : digitB c
            · cases hsg : signB c
              · have hv : (sortV c == 0) = false ∧ (sortV c == 5) = false ∧ (sortV c == 1) = false ∧ (sortV c == 2) = false ∧ (sortV c != 4) = true := by
                  have e : sortV c = 3 ∨ sortV c = 6 := by
                    unfold sortV
                    rw [if_neg hbl, if_neg (by rw [hsm]; decide), if_neg (by rw [hdg]; decide)]
                    by_cases h95 : (c : Int) = 95
                    · rw [if_pos h95]; exact .inl rfl
                    · rw [if_neg h95, if_neg (by rw [hsg]; decide), if_neg (by omega)]; exact .inr rfl
                  rcases e with e | e <;> rw [e] <;> decide
                obtain ⟨hv0, hv5, hv1, hv2, hv4⟩ := hv
                clear hown2
                go_wp2_with (go_at_call 112; refine (sort_any _ _).mono ?_; rintro e w' ⟨rfl, rfl⟩)
                refine ret3 rfl rfl ⟨?_, hb⟩
                have hR : lexS s.data.toList = .error k := by
                  obtain ⟨_, f, hf, hR⟩ := hat.out
                  cases f with
                  | zero => omega
                  | succ f =>
                    rw [hR, HL.out, HCR.out]
                    exact lexF_bad (by rw [HC.out]; simpa using hbl) (by rw [HC.out]; exact h35) (by rw [HC.out]; exact hsm) (by rw [HC.out]; exact hdg) (by rw [HC.out]; exact hsg) f
                rw [hR]
                rfl
              · have hv : sortV c = 4 := by
                  have hsg' := hsg
                  simp only [signB, decide_eq_true_eq] at hsg'
                  unfold sortV
                  rw [if_neg hbl, if_neg (by rw [hsm]; decide), if_neg (by rw [hdg]; decide), if_neg (by omega), if_pos hsg]
                obtain ⟨tx, htx⟩ : ∃ tx, s.extract k (k + 1) = tx := ⟨_, rfl⟩
                have HT : Hid (tx = bs [c8]) := by
                  refine bs_eq ?_
                  rw [← htx, Lib.extract_data, HL.out, HCR.out, show k + 1 - k = 1 by omega]; rfl
                go_wp2_with (first
                  | (go_at_call 112; refine (sort_any _ _).mono ?_; rintro e w' ⟨rfl, rfl⟩)
                  | (at_builtin; go_must (refine wpList_append_own _ rfl _ _ 126 rfl w.heap.size 129 i0 _ 4 40 Tryz.underlying126 hi hz0 hz1 hz2 rfl (by decide) _ _ _ rfl (hown2 _) ⟨wr.heap.size, 0, none⟩ 1 1 (tokCells ⟨3, [c8], 0, k⟩) rfl rfl ?c1 (tokCells_one _) (by unfold maxLen; omega) (by omega) (by simp; omega) ?_)))
                case c1 =>
                  rw [HT.out]
                  first | exact fun _ _ h => h | exact cell_new _ (tokCells ⟨3, [c8], 0, k⟩) _ (by first | rfl | simp)
                · intro v' w1 hown3 hgrow _
                  obtain ⟨hown4, hb4⟩ := rtok_grown hown (hb.alloc hb.size _) (by simp; omega) hown3 hgrow
                  clear hown2 hown3 hgrow
                  go_wp2
                  go_roundw
                  case rel =>
                    refine ⟨k + 1, _, by go_num, by omega, hown4, hb4, Lib.hid (lexAt_step hat.out (by omega) (by omega) (by simp; omega) ?_)⟩
                    intro f
                    have h1 := HL.out
                    rw [HCR.out] at h1
                    have h3 : s.data.toList.drop (k + 1) = r := by rw [← List.drop_drop, h1]; rfl
                    rw [h1, h3]
                    exact lexF_sign (by rw [HC.out]; exact hsg) f
                  case measure => simp [intOf]; omega
            · obtain ⟨m, HM⟩ : ∃ m, Hid ((digitRun L).length = m) := ⟨_, rfl⟩
              obtain ⟨tx, htx⟩ : ∃ tx, s.extract k (k + m) = tx := ⟨_, rfl⟩
              have HDR : Hid (L.take m = digitRun L) := by
                show L.take m = digitRun L
                rw [← HM.out]
                exact takeWhile_take _ _
              have HT : Hid (tx = bs (digitRun L)) := by
                refine bs_eq ?_
                rw [← htx, Lib.extract_data, HL.out, show k + m - k = m by omega]
                exact HDR.out
              have hv : sortV c = 2 := by
                unfold sortV
                rw [if_neg hbl, if_neg (by rw [hsm]; decide), if_pos hdg]
              have hm1 : 1 ≤ m := by rw [← HM.out, HCR.out]; exact digitRun_pos (by rw [HC.out]; exact hdg)
              have hm2 : k + m ≤ s.size := by have := takeWhile_le (fun b : UInt8 => digitB b.toNat) L; have := HLs.out; have := HM.out; unfold digitRun at this; omega
              have HTR : Hid (∀ j (h : k + j < s.size), j < m → digitB s[k + j].toNat = true) := by
                intro j h hj
                exact takeWhile_true (fun b : UInt8 => digitB b.toNat) L j _ (by rw [← HM.out] at hj; exact hj) (get_drop HL.out j h)
              have HF : Hid (∀ h : k + m < s.size, digitB s[k + m].toNat = false) := by
                intro h
                exact takeWhile_false (fun b : UInt8 => digitB b.toNat) L m _ HM.out (get_drop HL.out m h)
              have HST : Hid (∀ j (h : k + j < s.size), j < m → decVal 0 (L.take (j + 1)) = decVal 0 (L.take j) * 10 + (s[k + j].toNat - 48)) := by
                intro j h hj
                exact decVal_snoc L j _ (get_drop HL.out j h)
              go_wp2_with (go_at_call 112; refine (sort_any _ _).mono ?_; rintro e w' ⟨rfl, rfl⟩)
              go_loop [8, 9] (fun e n => ∃ (j N : Nat), j ≤ m ∧ N ≤ 2147483647 ∧ Hid (N = decVal 0 (L.take j)) ∧ ¬ (1 < j ∧ c = 48) ∧ e = .int .i64 ((k + j : Nat) : Int) ∧ n = .int .i64 N) (fun e _ => s.size - (intOf e).toNat)
              case atStart => exact ⟨0, 0, by omega, by omega, rfl, by omega, by go_num, rfl⟩
              case round =>
                obtain ⟨j, N, hj2, hN, hNv, hno, rfl, rfl⟩ := hrel
                by_cases hjm : j < m
                · have hin : k + j < s.size := by omega
                  have hx := HTR.out j hin hjm
                  have hy := HST.out j hin hjm
                  obtain ⟨x, hxx⟩ : ∃ x, s[k + j].toNat = x := ⟨_, rfl⟩
                  rw [hxx, ← hNv.out] at hy
                  rw [hxx] at hx
                  have hsx0 : (sortV x == 2) = true := by rw [sortV_digit]; exact hx
                  simp only [digitB, decide_eq_true_eq] at hx
                  have hx1 : 48 ≤ x := by omega
                  have hx2 : x ≤ 57 := by omega
                  obtain ⟨y, rfl⟩ : ∃ y, x = y + 48 := ⟨x - 48, by omega⟩
                  have hy1 : decVal 0 (L.take (j + 1)) = 10 * N + y := by omega
                  have hsx : (sortV ((y : Int) + 48) == 2) = true := hsx0
                  have HY := Lib.hid hy1
                  clear hy hy1 hx hown2 hsx0
                  by_cases hbig : 2147483647 < 10 * N + y
                  · go_wp2_with (go_at_call 112; refine (sort_any _ _).mono ?_; rintro e w' ⟨rfl, rfl⟩)
                    refine ret3 rfl rfl ⟨?_, hb⟩
                    have hR : lexS s.data.toList = .error k := by
                      obtain ⟨_, f, hf, hR⟩ := hat.out
                      cases f with
                      | zero => omega
                      | succ f =>
                        rw [hR, HL.out, HCR.out, lexF_num (by rw [HC.out]; exact hdg), ← HCR.out, if_pos (.inl (by
                              have h1 := decVal_take_le (digitRun L) (j + 1)
                              rw [← HDR.out, List.take_take, Nat.min_eq_left (by omega), HY.out] at h1
                              rw [← HDR.out]
                              omega))]
                    rw [hR]
                    rfl
                  · by_cases hj0 : 0 < j
                    · by_cases h48 : c = 48
                      · go_wp2_with (go_at_call 112; refine (sort_any _ _).mono ?_; rintro e w' ⟨rfl, rfl⟩)
                        refine ret3 rfl rfl ⟨?_, hb⟩
                        have hR : lexS s.data.toList = .error k := by
                          obtain ⟨_, f, hf, hR⟩ := hat.out
                          cases f with
                          | zero => omega
                          | succ f =>
                            rw [hR, HL.out, HCR.out, lexF_num (by rw [HC.out]; exact hdg), ← HCR.out, if_pos (.inr ⟨by rw [HM.out]; omega, by rw [HC.out]; exact h48⟩)]
                        rw [hR]
                        rfl
                      · have h48' : ((c : Int) == 48) = false := by simp; omega
                        go_wp2_with (go_at_call 112; refine (sort_any _ _).mono ?_; rintro e w' ⟨rfl, rfl⟩)
                        first
                          | exact ⟨⟨j + 1, 10 * N + y, by omega, by omega, Lib.hid HY.out.symm, by omega, by go_num, by go_num⟩, by simp [intOf]; omega⟩
                          | (refine ⟨⟨trivial, ?_⟩, by simp [intOf]; omega⟩; (repeat apply Exists.intro); exact ⟨⟨j + 1, 10 * N + y, by omega, by omega, Lib.hid HY.out.symm, by omega, by go_num, by go_num⟩, rfl⟩)
                    · obtain rfl : j = 0 := by omega
                      have hcy : c = y + 48 := by rw [← hc]; exact hxx
                      subst hcy
                      go_wp2_with (go_at_call 112; refine (sort_any _ _).mono ?_; rintro e w' ⟨rfl, rfl⟩)
                      first
                        | exact ⟨⟨1, 10 * N + y, by omega, by omega, Lib.hid (show 10 * N + y = decVal 0 (L.take 1) from HY.out.symm), by omega, by go_num, by go_num⟩, by simp [intOf]; omega⟩
                        | (refine ⟨⟨trivial, ?_⟩, by simp [intOf]; omega⟩; (repeat apply Exists.intro); exact ⟨⟨1, 10 * N + y, by omega, by omega, Lib.hid (show 10 * N + y = decVal 0 (L.take 1) from HY.out.symm), by omega, by go_num, by go_num⟩, rfl⟩)
                · obtain rfl : j = m := by omega
                  by_cases hin : k + j < s.size
                  · have hx : (sortV s[k + j].toNat == 2) = false := by rw [sortV_digit]; exact HF.out hin
                    go_wp2_with (first
                      | (go_at_call 112; refine (sort_any _ _).mono ?_; rintro e w' ⟨rfl, rfl⟩)
                      | (at_builtin; go_must (refine wpList_append_own _ rfl _ _ 126 rfl w.heap.size 129 i0 _ 4 40 Tryz.underlying126 hi hz0 hz1 hz2 rfl (by decide) _ _ _ rfl (hown2 _) ⟨wr.heap.size, 0, none⟩ 1 1 (tokCells ⟨2, digitRun L, N, k⟩) rfl rfl ?c1 (tokCells_one _) (by unfold maxLen; omega) (by omega) (by simp; omega) ?_)))
                    case c1 =>
                      rw [HT.out]
                      first | exact fun _ _ h => h | exact cell_new _ (tokCells ⟨2, digitRun L, N, k⟩) _ (by first | rfl | simp)
                    · intro v' w1 hown3 hgrow _
                      obtain ⟨hown4, hb4⟩ := rtok_grown hown (hb.alloc hb.size _) (by simp; omega) hown3 hgrow
                      clear hown2 hown3 hgrow
                      go_wp2
                      go_roundw
                      case rel =>
                        refine ⟨k + j, _, by go_num, by omega, hown4, hb4, Lib.hid (lexAt_step hat.out (by omega) (by omega) (by simp; omega) ?_)⟩
                        intro f
                        have h3 : s.data.toList.drop (k + j) = L.drop j := by rw [← List.drop_drop, HL.out]
                        have h4 : N = decVal 0 (digitRun L) := by rw [← HDR.out]; exact hNv.out
                        rw [h3, HL.out, HCR.out, lexF_num (by rw [HC.out]; exact hdg), ← HCR.out, HM.out, ← h4, if_neg (by rw [HC.out]; omega)]
                      case measure => simp [intOf]; omega
                  · go_wp2_with (first
                      | (go_at_call 112; refine (sort_any _ _).mono ?_; rintro e w' ⟨rfl, rfl⟩)
                      | (at_builtin; go_must (refine wpList_append_own _ rfl _ _ 126 rfl w.heap.size 129 i0 _ 4 40 Tryz.underlying126 hi hz0 hz1 hz2 rfl (by decide) _ _ _ rfl (hown2 _) ⟨wr.heap.size, 0, none⟩ 1 1 (tokCells ⟨2, digitRun L, N, k⟩) rfl rfl ?c1 (tokCells_one _) (by unfold maxLen; omega) (by omega) (by simp; omega) ?_)))
                    case c1 =>
                      rw [HT.out]
                      first | exact fun _ _ h => h | exact cell_new _ (tokCells ⟨2, digitRun L, N, k⟩) _ (by first | rfl | simp)
                    · intro v' w1 hown3 hgrow _
                      obtain ⟨hown4, hb4⟩ := rtok_grown hown (hb.alloc hb.size _) (by simp; omega) hown3 hgrow
                      clear hown2 hown3 hgrow
                      go_wp2
                      go_roundw
                      case rel =>
                        refine ⟨k + j, _, by go_num, by omega, hown4, hb4, Lib.hid (lexAt_step hat.out (by omega) (by omega) (by simp; omega) ?_)⟩
                        intro f
                        have h3 : s.data.toList.drop (k + j) = L.drop j := by rw [← List.drop_drop, HL.out]
                        have h4 : N = decVal 0 (digitRun L) := by rw [← HDR.out]; exact hNv.out
                        rw [h3, HL.out, HCR.out, lexF_num (by rw [HC.out]; exact hdg), ← HCR.out, HM.out, ← h4, if_neg (by rw [HC.out]; omega)]
                      case measure => simp [intOf]; omega
          · obtain ⟨m, HM⟩ : ∃ m, Hid ((wordRun L).length = m) := ⟨_, rfl⟩
            obtain ⟨tx, htx⟩ : ∃ tx, s.extract k (k + m) = tx := ⟨_, rfl⟩
            have HT : Hid (tx = bs (wordRun L)) := by
              refine bs_eq ?_
              rw [← htx, Lib.extract_data, HL.out, show k + m - k = m by omega, ← HM.out]
              exact takeWhile_take _ _
            have hv1 := sortV_word c (by simp [wordB, hsm])
            have hv : sortV c = 1 := by
              have hsm' := hsm
              simp only [smallB, decide_eq_true_eq] at hsm'
              unfold sortV
              rw [if_neg hbl, if_pos hsm]
            have hm1 : 1 ≤ m := by rw [← HM.out, HCR.out]; exact wordRun_pos (by rw [HC.out]; exact hsm)
            have hm2 : k + m ≤ s.size := by have := takeWhile_le (fun b : UInt8 => wordB b.toNat) L; have := HLs.out; have := HM.out; unfold wordRun at this; omega
            have HTR : Hid (∀ j (h : k + j < s.size), j < m → wordB s[k + j].toNat = true) := by
              intro j h hj
              exact takeWhile_true (fun b : UInt8 => wordB b.toNat) L j _ (by rw [← HM.out] at hj; exact hj) (get_drop HL.out j h)
            have HF : Hid (∀ h : k + m < s.size, wordB s[k + m].toNat = false) := by
              intro h
              exact takeWhile_false (fun b : UInt8 => wordB b.toNat) L m _ HM.out (get_drop HL.out m h)
            clear hv1
            go_wp2_with (go_at_call 112; refine (sort_any _ _).mono ?_; rintro e w' ⟨rfl, rfl⟩)
            go_loop [8] (fun e => ∃ j : Nat, 1 ≤ j ∧ j ≤ m ∧ e = .int .i64 ((k + j : Nat) : Int)) (fun e => s.size - (intOf e).toNat)
            case atStart => exact ⟨1, by omega, hm1, by go_num⟩
            case round =>
              obtain ⟨j, hj1, hj2, rfl⟩ := hrel
              by_cases hjm : j < m
              · have hin : k + j < s.size := by omega
                have hx := HTR.out j hin hjm
                obtain ⟨hx1, hx2⟩ := sortV_word _ hx
                clear hown2 hx
                go_wp2_with (go_at_call 112; refine (sort_any _ _).mono ?_; rintro e w' ⟨rfl, rfl⟩)
                first
                  | exact ⟨⟨j + 1, by omega, by omega, by go_num⟩, by simp [intOf]; omega⟩
                  | (refine ⟨⟨trivial, ?_⟩, by simp [intOf]; omega⟩; (repeat apply Exists.intro); exact ⟨⟨j + 1, by omega, by omega, by go_num⟩, rfl⟩)
              · obtain rfl : j = m := by omega
                by_cases hin : k + j < s.size
                · rcases sortV_noword _ (HF.out hin) with hx | hx
                  · by_cases h32 : 32 < j
                    · clear hown2
                      go_wp2_with (go_at_call 112; refine (sort_any _ _).mono ?_; rintro e w' ⟨rfl, rfl⟩)
                      refine ret3 rfl rfl ⟨?_, hb⟩
                      have hR : lexS s.data.toList = .error k := by
                        obtain ⟨_, f, hf, hR⟩ := hat.out
                        cases f with
                        | zero => omega
                        | succ f =>
                          rw [hR, HL.out, HCR.out, lexF_word (by rw [HC.out]; exact hsm), ← HCR.out, HM.out, if_pos h32]
                      rw [hR]
                      rfl
                    · go_wp2_with (first
                        | (go_at_call 112; refine (sort_any _ _).mono ?_; rintro e w' ⟨rfl, rfl⟩)
                        | (at_builtin; go_must (refine wpList_append_own _ rfl _ _ 126 rfl w.heap.size 129 i0 _ 4 40 Tryz.underlying126 hi hz0 hz1 hz2 rfl (by decide) _ _ _ rfl (hown2 _) ⟨wr.heap.size, 0, none⟩ 1 1 (tokCells ⟨1, wordRun L, 0, k⟩) rfl rfl ?c1 (tokCells_one _) (by unfold maxLen; omega) (by omega) (by simp; omega) ?_)))
                      case c1 =>
                        rw [HT.out]
                        first | exact fun _ _ h => h | exact cell_new _ (tokCells ⟨1, wordRun L, 0, k⟩) _ (by first | rfl | simp)
                      · intro v' w1 hown3 hgrow _
                        obtain ⟨hown4, hb4⟩ := rtok_grown hown (hb.alloc hb.size _) (by simp; omega) hown3 hgrow
                        clear hown2 hown3 hgrow
                        go_wp2
                        go_roundw
                        case rel =>
                          refine ⟨k + j, _, by go_num, by omega, hown4, hb4, Lib.hid (lexAt_step hat.out (by omega) (by omega) (by simp; omega) ?_)⟩
                          intro f
                          have h3 : s.data.toList.drop (k + j) = L.drop j := by rw [← List.drop_drop, HL.out]
                          rw [h3, HL.out, HCR.out, lexF_word (by rw [HC.out]; exact hsm), ← HCR.out, HM.out, if_neg h32]
                        case measure => simp [intOf]; omega
                  · by_cases h32 : 32 < j
                    · clear hown2
                      go_wp2_with (go_at_call 112; refine (sort_any _ _).mono ?_; rintro e w' ⟨rfl, rfl⟩)
                      refine ret3 rfl rfl ⟨?_, hb⟩
                      have hR : lexS s.data.toList = .error k := by
                        obtain ⟨_, f, hf, hR⟩ := hat.out
                        cases f with
                        | zero => omega
                        | succ f =>
                          rw [hR, HL.out, HCR.out, lexF_word (by rw [HC.out]; exact hsm), ← HCR.out, HM.out, if_pos h32]
                      rw [hR]
                      rfl
                    · go_wp2_with (first
                        | (go_at_call 112; refine (sort_any _ _).mono ?_; rintro e w' ⟨rfl, rfl⟩)
                        | (at_builtin; go_must (refine wpList_append_own _ rfl _ _ 126 rfl w.heap.size 129 i0 _ 4 40 Tryz.underlying126 hi hz0 hz1 hz2 rfl (by decide) _ _ _ rfl (hown2 _) ⟨wr.heap.size, 0, none⟩ 1 1 (tokCells ⟨1, wordRun L, 0, k⟩) rfl rfl ?c1 (tokCells_one _) (by unfold maxLen; omega) (by omega) (by simp; omega) ?_)))
                      case c1 =>
                        rw [HT.out]
                        first | exact fun _ _ h => h | exact cell_new _ (tokCells ⟨1, wordRun L, 0, k⟩) _ (by first | rfl | simp)
                      · intro v' w1 hown3 hgrow _
                        obtain ⟨hown4, hb4⟩ := rtok_grown hown (hb.alloc hb.size _) (by simp; omega) hown3 hgrow
                        clear hown2 hown3 hgrow
                        go_wp2
                        go_roundw
                        case rel =>
                          refine ⟨k + j, _, by go_num, by omega, hown4, hb4, Lib.hid (lexAt_step hat.out (by omega) (by omega) (by simp; omega) ?_)⟩
                          intro f
                          have h3 : s.data.toList.drop (k + j) = L.drop j := by rw [← List.drop_drop, HL.out]
                          rw [h3, HL.out, HCR.out, lexF_word (by rw [HC.out]; exact hsm), ← HCR.out, HM.out, if_neg h32]
                        case measure => simp [intOf]; omega
                · by_cases h32 : 32 < j
                  · clear hown2
                    go_wp2_with (go_at_call 112; refine (sort_any _ _).mono ?_; rintro e w' ⟨rfl, rfl⟩)
                    refine ret3 rfl rfl ⟨?_, hb⟩
                    have hR : lexS s.data.toList = .error k := by
                      obtain ⟨_, f, hf, hR⟩ := hat.out
                      cases f with
                      | zero => omega
                      | succ f =>
                        rw [hR, HL.out, HCR.out, lexF_word (by rw [HC.out]; exact hsm), ← HCR.out, HM.out, if_pos h32]
                    rw [hR]
                    rfl
                  · go_wp2_with (first
                      | (go_at_call 112; refine (sort_any _ _).mono ?_; rintro e w' ⟨rfl, rfl⟩)
                      | (at_builtin; go_must (refine wpList_append_own _ rfl _ _ 126 rfl w.heap.size 129 i0 _ 4 40 Tryz.underlying126 hi hz0 hz1 hz2 rfl (by decide) _ _ _ rfl (hown2 _) ⟨wr.heap.size, 0, none⟩ 1 1 (tokCells ⟨1, wordRun L, 0, k⟩) rfl rfl ?c1 (tokCells_one _) (by unfold maxLen; omega) (by omega) (by simp; omega) ?_)))
                    case c1 =>
                      rw [HT.out]
                      first | exact fun _ _ h => h | exact cell_new _ (tokCells ⟨1, wordRun L, 0, k⟩) _ (by first | rfl | simp)
                    · intro v' w1 hown3 hgrow _
                      obtain ⟨hown4, hb4⟩ := rtok_grown hown (hb.alloc hb.size _) (by simp; omega) hown3 hgrow
                      clear hown2 hown3 hgrow
                      go_wp2
                      go_roundw
                      case rel =>
                        refine ⟨k + j, _, by go_num, by omega, hown4, hb4, Lib.hid (lexAt_step hat.out (by omega) (by omega) (by simp; omega) ?_)⟩
                        intro f
                        have h3 : s.data.toList.drop (k + j) = L.drop j := by rw [← List.drop_drop, HL.out]
                        rw [h3, HL.out, HCR.out, lexF_word (by rw [HC.out]; exact hsm), ← HCR.out, HM.out, if_neg h32]
                      case measure => simp [intOf]; omega
    · go_wp2_with fail
      refine ret3 rfl rfl ?_
      have hkk : k = s.size := by omega
      obtain ⟨_, f, hf, hR⟩ := hat.out
      refine ⟨?_, hb⟩
      have h0 : s.data.toList.drop k = [] := List.drop_eq_nil_of_le (by rw [← Lib.size_eq]; omega)
      rw [h0] at hR
      have hR2 : lexS s.data.toList = .ok acc := by rw [hR, lexF_nil]
      rw [hR2]
      exact ⟨_, rfl, hown⟩
end Go.Proofs.YtdjklnlkocconaaGreatDoor
