/-
  The reference's none, digits: the walks.
  The reference's name: the walk.
-/
import Derived.Test.YtdjklnlkocconaaGreatDoorSmAZ
import Derived.Test.YtdjklnlkocconaaGreatDoorPlBZ
import Derived.Test.YtdjklnlkocconaaGreatDoorGnAZ
import Derived.Test.YtdjklnlkocconaaGreatDoorRdLZ
import Derived.Test.YtdjklnlkocconaaGreatDoorRdAZ
import Derived.StillTailTactics
import Derived.Laws.BytesString
namespace Go.Proofs.YtdjklnlkocconaaGreatDoor
open Go Go.RowKit

theorem bs_empty (s : List UInt8) (h : s ≠ []) : ((bs s).toList == []) = false := by
  rw [bs_toList]
  simpa using h

set_option maxHeartbeats 2000000 in
set_option maxRecDepth 100000 in
theorem none_any (n : Nd) (v : Value) (w : World) (h : NdIs Any w n v) :
    Calls Tryz.prog 70 #[v] w fun e w' => e = .returned (.bool (noneB n)) ∧ w.grownBy w' none := by
  obtain ⟨k, s, l⟩ := n
  unfold NdIs at h
  obtain ⟨a, c, rfl, hl, _⟩ := h
  have b1 := Blk3.new w (.int .i64 k) (.string (bs s)) (.slice a l.length c)
  obtain ⟨x0, x1, x2, _, _, _⟩ := b1.cells
  have HA : Hid (w.grownBy (w.alloc (.cells #[.int .i64 k, .string (bs s), .slice a l.length c] 37)) none) := grown_alloc _ _ _
  clear b1
  by_cases hk : k = 0
  · subst hk
    by_cases hs : s = []
    · subst hs
      have hs2 : ((bs []).toList == []) = true := by rw [bs_toList]; rfl
      by_cases hl0 : l = []
      · subst hl0
        go_enter Tryz.func70, Tryz.ntmps70
        go_wp2
        go_ret
        exact ⟨rfl, HA.out⟩
      · have hn2 : ((l.length : Int) == 0) = false := by simpa using hl0
        have hB : noneB (.mk 0 [] l) = false := by cases l with | nil => exact absurd rfl hl0 | cons x l => rfl
        rw [hB]
        go_enter Tryz.func70, Tryz.ntmps70
        go_wp2
        go_ret
        exact ⟨rfl, HA.out⟩
    · have hs2 := bs_empty s hs
      have hB : noneB (.mk 0 s l) = false := by simp [noneB, hs]
      rw [hB]
      go_enter Tryz.func70, Tryz.ntmps70
      go_wp2
      go_ret
      exact ⟨rfl, HA.out⟩
  · have hk2 : (k == 0) = false := by simpa using hk
    have hB : noneB (.mk k s l) = false := by simp [noneB, hk]
    rw [hB]
    go_enter Tryz.func70, Tryz.ntmps70
    go_wp2
    go_ret
    exact ⟨rfl, HA.out⟩

/-- 'string([]byte{b})', the one byte in a new block. -/
theorem conv1 (w : World) (z : Int) : (convert 104 9 (.slice (some ⟨w.heap.size, 0, none⟩) 1 1)).run Tryz.prog (w.alloc (.cells #[.int .u8 z] 5)) = .ok (.string (bs [UInt8.ofNat z.toNat])) (w.alloc (.cells #[.int .u8 z] 5)) := by
  have hc : (w.alloc (.cells #[.int .u8 z] 5)).cell? ⟨w.heap.size, 0, none⟩ = some (.int .u8 z) := by
    unfold World.cell?
    rw [(MapKept.heap_alloc w _).1]
    rfl
  rw [run_convert_bytes_string _ _ _ _ _ _ _ Tryz.underlying104 Tryz.underlying5 Tryz.underlying9]
  rw [run_bytesToString (P := Tryz.prog) (w.alloc (.cells #[.int .u8 z] 5)) ⟨w.heap.size, 0, none⟩ 1 1 [z] (by simp [loadCells, go_sem, hc])]
  rfl

theorem bs_app (a b : List UInt8) : bs a ++ bs b = bs (a ++ b) := by
  have : (bs a ++ bs b).data = (bs (a ++ b)).data := by
    apply Array.ext'
    rw [Joins.data_append]
    simp [bs]
  cases h1 : bs a ++ bs b with
  | mk d => rw [h1] at this; cases h2 : bs (a ++ b) with | mk e => rw [h2] at this; exact congrArg ByteArray.mk this

theorem u8_add (m : Nat) : (48 : UInt8) + UInt8.ofNat m = UInt8.ofNat (48 + m) := by
  rw [UInt8.ofNat_add]; rfl

/-- digits at work. -/
def DigAt (w : World) (n : Nat) (k : Nat) (u z : Value) (wr : World) : Prop :=
  ∃ (m : Nat) (S : List UInt8), u = .int .i64 m ∧ z = .string (bs S) ∧ m < k ∧ m ≤ 2147483647 ∧ S.length + Lib.nDigits m ≤ 12 ∧ Lib.decDigits n = (if m = 0 then S else Lib.decDigits m ++ S) ∧ w.grownBy wr none

theorem dec_step (m : Nat) (S : List UInt8) : (if m / 10 = 0 then UInt8.ofNat (48 + m % 10) :: S else Lib.decDigits (m / 10) ++ UInt8.ofNat (48 + m % 10) :: S) = Lib.decDigits m ++ S := by
  by_cases h : m < 10
  · rw [if_pos (by omega), Lib.decDigits_one h, Nat.mod_eq_of_lt h]; rfl
  · rw [if_neg (by omega)]
    have e : Lib.decDigits m = Lib.decDigits (m / 10) ++ [UInt8.ofNat (48 + m % 10)] := by rw [Lib.decDigits, dif_neg h]
    rw [e]; simp
theorem nd_le (m : Nat) (h : m ≤ 2147483647) : Lib.nDigits m ≤ 10 := by
  have := numT_len (n := (m : Int)) (by omega)
  rw [numT_nat, Lib.decDigits_length] at this
  exact this
theorem nd_step (m : Nat) (h : 0 < m) : Lib.nDigits (m / 10) ≤ Lib.nDigits m ∧ (10 ≤ m → Lib.nDigits (m / 10) + 1 = Lib.nDigits m) := by
  by_cases hm : m < 10
  · rw [show m / 10 = 0 by omega, Lib.nDigits_small (by omega), Lib.nDigits_small hm]
    exact ⟨Nat.le_refl _, fun h => by omega⟩
  · rw [Lib.nDigits_big hm]
    exact ⟨by omega, fun _ => rfl⟩

set_option maxHeartbeats 2000000 in
set_option maxRecDepth 100000 in
theorem digits_any (n : Nat) (w : World) (hn : n ≤ 2147483647) :
    Calls Tryz.prog 40 #[.int .i64 n] w fun e w' => e = .returned (.string (bs (Lib.decDigits n))) ∧ w.grownBy w' none := by
  have hc := conv1 w
  go_enter Tryz.func40, Tryz.ntmps40
  go_wp2_with fail
  have hA0 : Hid (w.grownBy (w.alloc (.cells #[.int .u8 (48 + (n : Int) % 10)] 5)) none) := grown_alloc _ _ _
  have hN := nd_le (n / 10) (by omega)
  clear hc
  go_loopg [0, 3] (n + 1) (fun k u z wr => Hid (DigAt w n k u z wr))
  case atStart => exact ⟨n / 10, [UInt8.ofNat (48 + n % 10)], (by first | rfl | go_num), (by rw [← u8_add]), by omega, by omega, by simp; omega, by have := dec_step n []; rw [List.append_nil] at this; exact this.symm, hA0.out⟩
  case round =>
    obtain ⟨m, S, rfl, rfl, hm, hm2, hS, hdec, hg⟩ := hrel.out
    have HG := Lib.hid hg
    have HDEC := Lib.hid hdec
    have hsz : (bs S).size ≤ 12 := by rw [bs_size]; omega
    have hc := conv1 wr
    have hs1 : (bs [48 + UInt8.ofNat (m % 10)]).size = 1 := by rw [bs_size]; rfl
    clear hrel hg hdec
    by_cases hm0 : 0 < m
    · have hnd := nd_step m hm0
      go_wp2_with fail
      have HA : Hid (w.grownBy (wr.alloc (.cells #[.int .u8 (48 + (m : Int) % 10)] 5)) none) := grown_trans HG.out (grown_alloc _ _ _)
      go_roundg (gk - 1)
      case measure => omega
      case rel =>
        refine ⟨m / 10, UInt8.ofNat (48 + m % 10) :: S, (by first | rfl | go_num), ?_, by omega, by omega, ?_, ?_, HA.out⟩
        · rw [← u8_add]; exact congrArg Value.string (bs_app [48 + UInt8.ofNat (m % 10)] S)
        · rw [List.length_cons]
          by_cases h10 : 10 ≤ m
          · have := hnd.2 h10; omega
          · rw [show m / 10 = 0 by omega, Lib.nDigits_small (by omega)]
            rw [Lib.nDigits_small (by omega)] at hS
            have h1 := HDEC.out
            rw [if_neg (by omega)] at h1
            have h2 := congrArg List.length h1
            rw [List.length_append, Lib.decDigits_length, Lib.decDigits_length, Lib.nDigits_small (show m < 10 by omega)] at h2
            have := nd_le n hn
            omega
        · have h1 := HDEC.out
          rw [if_neg (by omega)] at h1
          rw [h1]
          exact (dec_step m S).symm
    · obtain rfl : m = 0 := by omega
      have h1 := HDEC.out
      rw [if_pos rfl] at h1
      clear hc hs1 hm0
      go_wp2
      go_ret
      exact ⟨by first | rfl | rw [h1], HG.out⟩
end Go.Proofs.YtdjklnlkocconaaGreatDoor

namespace Go.Proofs.YtdjklnlkocconaaGreatDoor
open Go Go.RowKit

theorem rtk_long (s : ByteArray) (w : World) (hs : 65536 < s.size) (hs2 : s.size ≤ maxLen) :
    Calls Tryz.prog 87 #[.string s] w fun e w' => e = .returned (.tuple #[.slice none 0 0, .int .i64 0, .int .i64 21]) ∧ w = w' := by
  unfold maxLen at hs2
  go_enter Tryz.func87, Tryz.ntmps87
  go_wp2
  exact ret3 rfl rfl ⟨rfl, rfl⟩
theorem rtk_every (s : ByteArray) (w : World) (hs : s.size ≤ maxLen) :
    Calls Tryz.prog 87 #[.string s] w fun e w' => LexEndR w.heap.size (lexS s.data.toList) e w' ∧ Below w.heap.size w w' := by
  by_cases h : 65536 < s.size
  · have hR : lexS s.data.toList = .error 0 := by rw [lexS, if_pos (by rw [← Lib.size_eq]; exact h)]
    rw [hR]
    exact (rtk_long s w h hs).mono fun e w' ⟨he, hw⟩ => ⟨he, by rw [← hw]; exact Below.refl _ _⟩
  · exact rtokens_any s w (by omega)

def nameR (s : List UInt8) : Except Nat (List Tok) → Bool
  | .ok [t] => t.kind == 1 && t.text == s && !takenL.contains s
  | _ => false
theorem nameB_R (s : List UInt8) : nameB s = nameR s (lexS s) := by
  unfold nameB
  cases lexS s with
  | error k => rfl
  | ok ts =>
    match ts with
    | [] => rfl
    | [t] => rfl
    | _ :: _ :: _ => rfl

set_option maxHeartbeats 2000000 in
set_option maxRecDepth 100000 in
theorem rname_any (s : List UInt8) (w : World) (hs : s.length ≤ maxLen) :
    Calls Tryz.prog 69 #[.string (bs s)] w fun e w' => e = .returned (.bool (nameB s)) ∧ Below w.heap.size w w' := by
  have HT := Lib.hid (rtk_every (bs s) w (by rw [bs_size]; exact hs))
  obtain ⟨R0, h0⟩ : ∃ b, nameB s = b := ⟨_, rfl⟩
  rw [h0]
  have H0 := Lib.hid h0
  clear hs h0
  go_enter Tryz.func69, Tryz.ntmps69
  go_wp2_with fail
  refine HT.out.mono ?_
  rintro e w1 ⟨hE, hb⟩
  have B1 := Lib.hid hb
  clear hb HT
  have hE2 : LexEndR w.heap.size (lexS s) e w1 := hE
  clear hE
  cases hR : lexS s with
  | error k =>
    rw [hR] at hE2
    have h1 : e = .returned (.tuple #[.slice none 0 0, .int .i64 k, .int .i64 21]) := hE2
    subst h1
    obtain rfl : R0 = false := by rw [← H0.out, nameB_R, hR]; rfl
    clear hE2 H0 hR
    go_wp2
    go_ret
    exact ⟨rfl, B1.out⟩
  | ok ts =>
    rw [hR] at hE2
    obtain ⟨v, h1, hown⟩ := hE2
    subst h1
    have HN : Hid (R0 = nameR s (.ok ts)) := by show _ = _; rw [← H0.out, nameB_R, hR]
    clear hR H0
    match ts, hown, HN with
    | [], hown, HN =>
      obtain ⟨a, c, rfl⟩ := owns_nil hown
      obtain rfl : R0 = false := HN.out
      clear hown HN
      go_wp2
      go_ret
      exact ⟨rfl, B1.out⟩
    | t1 :: t2 :: r, hown, HN =>
      obtain ⟨g, c, rfl, _⟩ := owns_slice hown (by simp)
      obtain rfl : R0 = false := HN.out
      have hne : (((t1 :: t2 :: r).length : Int) == 1) = false := by
        have : ((t1 :: t2 :: r).length : Int) ≠ 1 := by simp only [List.length_cons]; omega
        simpa using this
      clear hown HN
      generalize (t1 :: t2 :: r).length = q at *
      go_wp2
      go_ret
      exact ⟨rfl, B1.out⟩
    | [t], hown, HN =>
      obtain ⟨g, c, rfl, _, hg, _, hc⟩ := owns_slice hown (by simp)
      have c0 := hc 0 (.int .i64 t.kind) rfl
      have c1 := hc 1 (.string (bs t.text)) rfl
      have hN : R0 = (t.kind == 1 && t.text == s && !takenL.contains s) := HN.out
      clear hown hc HN
      have hone : ([t] : List Tok).length = 1 := rfl
      rw [hone]
      by_cases hk : t.kind = 1
      · rw [show (t.kind == 1) = true by simpa using hk, Bool.true_and] at hN
        rw [hk] at c0
        cases htx : (t.text == s) with
        | false =>
          have hq := eq_bytes htx
          rw [htx, Bool.false_and] at hN
          subst hN
          clear htx
          go_wp2
          go_ret
          exact ⟨rfl, B1.out⟩
        | true =>
          have hq := eq_bytes htx
          rw [htx, Bool.true_and] at hN
          have HTK := Lib.hid (rtaken_any s)
          rw [taken_same s] at HTK
          obtain ⟨b, hb⟩ : ∃ b, takenL.contains s = b := ⟨_, rfl⟩
          rw [hb] at HTK hN
          clear hb htx
          go_wp2_with fail
          refine (HTK.out _).mono ?_
          rintro e w2 ⟨rfl, rfl⟩
          clear HTK
          subst hN
          cases b with
          | false =>
            go_wp2
            go_ret
            exact ⟨rfl, B1.out⟩
          | true =>
            go_wp2
            go_ret
            exact ⟨rfl, B1.out⟩
      · have hk2 : (t.kind == 1) = false := by simpa using hk
        rw [hk2, Bool.false_and, Bool.false_and] at hN
        subst hN
        go_wp2
        go_ret
        exact ⟨rfl, B1.out⟩
end Go.Proofs.YtdjklnlkocconaaGreatDoor
