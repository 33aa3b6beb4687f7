/-
  DeckDeep: the plain facts, the walk, and that the call returns true.
-/
import Derived.Test.YtgnjaneddidbbaaDoorDeckLen
import Derived.KernelRfl
import Derived.Test.YtgnjaneddidbbaaDoorDeckKnown
import Derived.Deep.LoopGhost
namespace Go.Proofs.YtgnjaneddidbbaaDoor
section
def rep (c : UInt8) (k : Nat) : List UInt8 := List.replicate k c
theorem rep_succ (c : UInt8) (k : Nat) : rep c (k + 1) = rep c k ++ [c] := List.replicate_succ'
def headL (rule : Bool) : List UInt8 := if rule then [99, 104, 101, 99, 107, 32, 98, 32, 61, 32, 119, 105, 100, 116, 104, 40] else [108, 101, 116, 32, 98, 32, 61, 32]
def tailL (rule : Bool) : List UInt8 := if rule then [44, 32, 49, 41, 59] else [59]
def deepL (rule : Bool) (m : Nat) : List UInt8 := headL rule ++ (rep 40 m ++ [97] ++ rep 41 m) ++ tailL rule
def deepX (rule : Bool) : St := if rule then ⟨3, [98], .mk 1 [97] [], .zero, 1, 1, 0, 0, false⟩ else ⟨2, [98], .mk 1 [97] [], .zero, 0, 0, 0, 0, false⟩
def most (rule : Bool) : Nat := if rule then 63 else 64
def headN (rule : Bool) : Nat := if rule then 16 else 8

theorem deep_false_60 : parseS (deepL false 60) = .ok [deepX false] := by kernel_rfl
theorem deep_false_61 : parseS (deepL false 61) = .ok [deepX false] := by kernel_rfl
theorem deep_false_62 : parseS (deepL false 62) = .ok [deepX false] := by kernel_rfl
theorem deep_false_63 : parseS (deepL false 63) = .ok [deepX false] := by kernel_rfl
theorem deep_false_64 : parseS (deepL false 64) = .ok [deepX false] := by kernel_rfl
theorem deep_false_65 : parseS (deepL false 65) = .error ((headN false + most false : Nat) : Int) := by kernel_rfl
theorem deep_false_66 : parseS (deepL false 66) = .error ((headN false + most false : Nat) : Int) := by kernel_rfl
theorem deep_false_67 : parseS (deepL false 67) = .error ((headN false + most false : Nat) : Int) := by kernel_rfl
theorem deep_true_60 : parseS (deepL true 60) = .ok [deepX true] := by kernel_rfl
theorem deep_true_61 : parseS (deepL true 61) = .ok [deepX true] := by kernel_rfl
theorem deep_true_62 : parseS (deepL true 62) = .ok [deepX true] := by kernel_rfl
theorem deep_true_63 : parseS (deepL true 63) = .ok [deepX true] := by kernel_rfl
theorem deep_true_64 : parseS (deepL true 64) = .error ((headN true + most true : Nat) : Int) := by kernel_rfl
theorem deep_true_65 : parseS (deepL true 65) = .error ((headN true + most true : Nat) : Int) := by kernel_rfl
theorem deep_true_66 : parseS (deepL true 66) = .error ((headN true + most true : Nat) : Int) := by kernel_rfl
theorem deep_true_67 : parseS (deepL true 67) = .error ((headN true + most true : Nat) : Int) := by kernel_rfl
theorem deep_ok (rule : Bool) (m : Nat) (h0 : 60 ≤ m) (h1 : m ≤ most rule) : parseS (deepL rule m) = .ok [deepX rule] := by
  cases rule
  · have h2 : m ≤ 64 := h1
    obtain rfl | rfl | rfl | rfl | rfl : m = 60 ∨ m = 61 ∨ m = 62 ∨ m = 63 ∨ m = 64 := by omega
    · exact deep_false_60
    · exact deep_false_61
    · exact deep_false_62
    · exact deep_false_63
    · exact deep_false_64
  · have h2 : m ≤ 63 := h1
    obtain rfl | rfl | rfl | rfl : m = 60 ∨ m = 61 ∨ m = 62 ∨ m = 63 := by omega
    · exact deep_true_60
    · exact deep_true_61
    · exact deep_true_62
    · exact deep_true_63
theorem deep_not (rule : Bool) (m : Nat) (h0 : most rule < m) (h1 : m ≤ 67) : parseS (deepL rule m) = .error ((headN rule + most rule : Nat) : Int) := by
  cases rule
  · have h2 : 64 < m := h0
    obtain rfl | rfl | rfl : m = 65 ∨ m = 66 ∨ m = 67 := by omega
    · exact deep_false_65
    · exact deep_false_66
    · exact deep_false_67
  · have h2 : 63 < m := h0
    obtain rfl | rfl | rfl | rfl : m = 64 ∨ m = 65 ∨ m = 66 ∨ m = 67 := by omega
    · exact deep_true_64
    · exact deep_true_65
    · exact deep_true_66
    · exact deep_true_67

/-! ### Many statements -/
def oneL : List UInt8 := [108, 101, 116, 32, 97, 61, 98, 59]
def manyL : Nat → List UInt8
  | 0 => []
  | q + 1 => oneL ++ manyL q
theorem manyL_succ (q : Nat) : manyL (q + 1) = manyL q ++ oneL := by
  induction q with
  | zero => simp [manyL]
  | succ q ih =>
    have h : oneL ++ manyL (q + 1) = (oneL ++ manyL q) ++ oneL := by rw [ih, List.append_assoc]
    exact h
def toksAt (k : Nat) : List Tok := [⟨1, [108, 101, 116], 0, k⟩, ⟨1, [97], 0, k + 4⟩, ⟨3, [61], 0, k + 5⟩, ⟨1, [98], 0, k + 6⟩, ⟨3, [59], 0, k + 7⟩]
def manyT : Nat → Nat → List Tok
  | 0, _ => []
  | q + 1, k => toksAt k ++ manyT q (k + 8)

theorem manyL_length (q : Nat) : (manyL q).length = 8 * q := by
  induction q with
  | zero => rfl
  | succ q ih => rw [manyL, List.length_append, ih]; simp [oneL]; omega

theorem lex_one (f : Nat) (r : List UInt8) (k : Nat) (acc : List Tok) : lexF (f + 6) (oneL ++ r) k acc = lexF f r (k + 8) (acc ++ toksAt k) := by
  have e : oneL ++ r = 108 :: 101 :: 116 :: 32 :: 97 :: 61 :: 98 :: 59 :: r := rfl
  rw [e]
  rw [show f + 6 = (f + 5) + 1 from rfl, lexF_word (by decide)]
  have w1 : wordRun (108 :: 101 :: 116 :: 32 :: 97 :: 61 :: 98 :: 59 :: r) = [108, 101, 116] := rfl
  rw [w1, if_neg (by decide)]
  simp only [List.length_cons, List.length_nil, List.drop_succ_cons, List.drop_zero]
  rw [show f + 5 = (f + 4) + 1 from rfl, lexF_blank (by decide)]
  rw [show f + 4 = (f + 3) + 1 from rfl, lexF_word (by decide)]
  have w2 : wordRun (97 :: 61 :: 98 :: 59 :: r) = [97] := rfl
  rw [w2, if_neg (by decide)]
  simp only [List.length_cons, List.length_nil, List.drop_succ_cons, List.drop_zero]
  rw [show f + 3 = (f + 2) + 1 from rfl, lexF_sign (by decide)]
  rw [show f + 2 = (f + 1) + 1 from rfl, lexF_word (by decide)]
  have w3 : wordRun (98 :: 59 :: r) = [98] := rfl
  rw [w3, if_neg (by decide)]
  simp only [List.length_cons, List.length_nil, List.drop_succ_cons, List.drop_zero]
  rw [lexF_sign (by decide)]
  simp only [List.append_assoc, Nat.add_assoc]
  rfl

theorem lex_many (q : Nat) : ∀ (f k : Nat) (acc : List Tok), 6 * q ≤ f → lexF f (manyL q) k acc = .ok (acc ++ manyT q k) := by
  induction q with
  | zero => intro f k acc _; rw [manyL, lexF_nil, manyT, List.append_nil]
  | succ q ih =>
    intro f k acc hf
    obtain ⟨g, rfl⟩ : ∃ g, f = g + 6 := ⟨f - 6, by omega⟩
    rw [manyL, lex_one, ih g _ _ (by omega), manyT, List.append_assoc]

theorem lexS_many (q : Nat) (h : q ≤ 8000) : lexS (manyL q) = .ok (manyT q 0) := by
  rw [lexS, if_neg (by rw [manyL_length]; omega), lex_many q _ _ _ (by rw [manyL_length]; omega)]
  rfl

def manyX : St := ⟨2, [97], .mk 1 [98] [], .zero, 0, 0, 0, 0, false⟩
theorem pStmt_many (k : Nat) (r : List Tok) : pStmt (toksAt k ++ r) = .ok (manyX, r) := by rfl

theorem pDeckF_many (q : Nat) : ∀ (f k : Nat) (acc : List St), q < f → acc.length + q ≤ 1000 → pDeckF f (manyT q k) acc = .ok (acc ++ List.replicate q manyX) := by
  induction q with
  | zero =>
    intro f k acc hf _
    cases f with
    | zero => omega
    | succ f => simp [manyT, pDeckF]
  | succ q ih =>
    intro f k acc hf hl
    cases f with
    | zero => omega
    | succ f =>
      have e : manyT (q + 1) k = toksAt k ++ manyT q (k + 8) := rfl
      have h1 : pDeckF (f + 1) (toksAt k ++ manyT q (k + 8)) acc = if acc.length = 1000 then .error (toksAt k ++ manyT q (k + 8)) else match pStmt (toksAt k ++ manyT q (k + 8)) with | .error r1 => .error r1 | .ok (x, r1) => pDeckF f r1 (acc ++ [x]) := rfl
      rw [e, h1, if_neg (by omega), pStmt_many]
      show pDeckF f (manyT q (k + 8)) (acc ++ [manyX]) = _
      rw [ih f _ _ (by omega) (by simp; omega), List.replicate_succ, List.append_assoc]
      rfl
theorem pDeckF_over (q : Nat) : ∀ (f k : Nat) (acc : List St), q < f → acc.length ≤ 1000 → 1000 < acc.length + q → pDeckF f (manyT q k) acc = .error (manyT (q - (1000 - acc.length)) (k + 8 * (1000 - acc.length))) := by
  induction q with
  | zero => intro f k acc _ h1 h2; omega
  | succ q ih =>
    intro f k acc hf h1 h2
    cases f with
    | zero => omega
    | succ f =>
      have e : manyT (q + 1) k = toksAt k ++ manyT q (k + 8) := rfl
      have h3 : pDeckF (f + 1) (toksAt k ++ manyT q (k + 8)) acc = if acc.length = 1000 then .error (toksAt k ++ manyT q (k + 8)) else match pStmt (toksAt k ++ manyT q (k + 8)) with | .error r1 => .error r1 | .ok (x, r1) => pDeckF f r1 (acc ++ [x]) := rfl
      by_cases hc : acc.length = 1000
      · rw [e, h3, if_pos hc, hc]; rfl
      · rw [e, h3, if_neg hc, pStmt_many]
        show pDeckF f (manyT q (k + 8)) (acc ++ [manyX]) = _
        rw [ih f _ _ (by omega) (by simp; omega) (by simp; omega)]
        have e1 : (acc ++ [manyX]).length = acc.length + 1 := by simp
        rw [e1]
        have e2 : q - (1000 - (acc.length + 1)) = q + 1 - (1000 - acc.length) := by omega
        have e3 : k + 8 + 8 * (1000 - (acc.length + 1)) = k + 8 * (1000 - acc.length) := by omega
        rw [e2, e3]

theorem manyT_length (q k : Nat) : q ≤ (manyT q k).length := by
  induction q generalizing k with
  | zero => simp
  | succ q ih => rw [manyT, List.length_append]; have := ih (k + 8); simp [toksAt]; omega

theorem many_ok (q : Nat) (h : q ≤ 1000) : parseS (manyL q) = .ok (List.replicate q manyX) := by
  simp only [parseS, lexS_many q (by omega), pDeck]
  rw [pDeckF_many q _ 0 [] (by have := manyT_length q 0; omega) (by simpa using h)]
  rfl
theorem many_over (q : Nat) (h : 1000 < q) (h2 : q ≤ 8000) : parseS (manyL q) = .error 8000 := by
  simp only [parseS, lexS_many q h2, pDeck]
  rw [pDeckF_over q _ 0 [] (by have := manyT_length q 0; omega) (by simp) (by simpa using h)]
  obtain ⟨p, rfl⟩ : ∃ p, q = p + 1001 := ⟨q - 1001, by omega⟩
  have e : p + 1001 - (1000 - ([] : List St).length) = p + 1 := by simp
  rw [e]
  rfl
end
section
open Go Go.ChangeShapes Go.WideShapes Go.ChangeAt Go.WideMaps Go.WideElems Go.RowKit

theorem wrapped (n c k : Int) (hc : 0 ≤ c) (hc2 : c ≤ 1000) (hk : 0 < k) (hk2 : k ≤ 100) : ∃ m : Nat, Hid (wrap64 (c + wrap64 ((IntKind.u64.wrap n).tmod k)) = m) ∧ c ≤ m ∧ m < c + k := by
  have h := wrap_u64_nonneg n
  have h1 := Int.emod_nonneg (IntKind.u64.wrap n) (show k ≠ 0 by omega)
  have h2 := Int.emod_lt_of_pos (IntKind.u64.wrap n) hk
  rw [Int.tmod_eq_emod_of_nonneg h]
  generalize IntKind.u64.wrap n % k = x at *
  refine ⟨(c + x).toNat, ?_, by omega, by omega⟩
  show _ = _
  unfold wrap64
  omega

/-- A loop that makes a string: behind j rounds it reads F j. -/
def LoopG (F : Nat → List UInt8) (m : Nat) (w : World) (k : Nat) (s i : Value) (wr : World) : Prop := ∃ (j : Nat) (S : ByteArray), i = .int .i64 j ∧ s = .string S ∧ j ≤ m ∧ m < k + j ∧ S.data.toList = F j ∧ w = wr

theorem size_of {S : ByteArray} {l : List UInt8} (h : S.data.toList = l) : S.size = l.length := by rw [Lib.size_eq, h]
theorem rep_length (c : UInt8) (k : Nat) : (rep c k).length = k := List.length_replicate ..

set_option maxHeartbeats 4000000 in
set_option maxRecDepth 100000 in
theorem deep_false (n stmts : Int) (w : World) (hg : Good w) (m q : Nat) (HM : Hid (wrap64 (60 + wrap64 ((IntKind.u64.wrap n).tmod 8)) = m)) (hm0 : 60 ≤ m) (hm1 : m ≤ 67) (HQ : Hid (wrap64 (998 + wrap64 ((IntKind.u64.wrap stmts).tmod 5)) = q)) (hq0 : 998 ≤ q) (hq1 : q ≤ 1002) :
    Calls Tryd.prog 8 #[.int .i64 n, .bool false, .int .i64 stmts] w fun e w' => e = .returned (.bool true) ∧ Below w.heap.size w w' := by
  have G0 := Lib.hid hg
  clear hg
  go_enter Tryd.func8, Tryd.ntmps8
  go_wp2_with fail
  rw [HM.out]
  go_loopg [7, 8] (m + 1) (fun k s i wr => Hid (LoopG (fun j => rep 40 j) m w k s i wr))
  case atStart => exact ⟨0, _, rfl, rfl, Nat.zero_le _, by omega, rfl, rfl⟩
  case round =>
    obtain ⟨j1, S, rfl, rfl, hj, hk, hS, rfl⟩ := hrel.out
    have HS := Lib.hid hS
    have hsz : S.size ≤ 200 := by
      rw [size_of hS]; (rw [rep_length]; omega)
    clear hrel hS
    by_cases hlt : j1 < m
    · go_wp2_with fail
      go_roundg (gk - 1)
      case measure => omega
      case rel => exact ⟨j1 + 1, _, by go_num, rfl, by omega, by omega, by rw [Joins.data_append, HS.out]; exact (rep_succ 40 j1).symm, rfl⟩
    · have hjm : j1 = m := by omega
      subst hjm
      go_wp2_with fail
      have HS1 := HS
      clear HS
      have hm := Lib.hid hm0
      clear hsz
      go_loopg [7, 9] (j1 + 1) (fun k s i wr => Hid (LoopG (fun i => rep 40 j1 ++ [97] ++ rep 41 i) j1 w k s i wr))
      case atStart => exact ⟨0, _, rfl, rfl, Nat.zero_le _, by omega, (by rw [Joins.data_append, HS1.out]; simp [rep]), rfl⟩
      case round =>
        obtain ⟨j2, S, rfl, rfl, hj, hk, hS, rfl⟩ := hrel.out
        have HS := Lib.hid hS
        have hsz : S.size ≤ 400 := by
          rw [size_of hS]; (simp only [List.length_append, rep_length, List.length_cons, List.length_nil]; omega)
        clear hrel hS
        by_cases hlt : j2 < j1
        · go_wp2_with fail
          go_roundg (gk - 1)
          case measure => omega
          case rel => exact ⟨j2 + 1, _, by go_num, rfl, by omega, by omega, by rw [Joins.data_append, HS.out]; (show _ ++ rep 41 j2 ++ [41] = _ ++ rep 41 (j2 + 1); rw [rep_succ, List.append_assoc]), rfl⟩
        · have hjm : j2 = j1 := by omega
          subst hjm
          have HS2 := HS
          clear HS
          have hsz2 : S.size ≤ 300 := by
            rw [size_of HS2.out]; simp only [List.length_append, rep_length, List.length_cons, List.length_nil]; omega
          have HT : Hid ((((⟨#[108, 101, 116, 32, 98, 32, 61, 32]⟩ : ByteArray) ++ S) ++ ⟨#[59]⟩).data.toList = deepL false j2 ∧ (((⟨#[108, 101, 116, 32, 98, 32, 61, 32]⟩ : ByteArray) ++ S) ++ ⟨#[59]⟩).size ≤ maxLen) := by
            refine ⟨?_, ?_⟩
            · rw [Joins.data_append, Joins.data_append, HS2.out]; rfl
            · rw [ByteArray.size_append, ByteArray.size_append]
              have h2 : ∀ p q : Nat, p = 8 → q = 1 → p + S.size + q ≤ maxLen := by intro p q hp hq; unfold maxLen; omega
              exact h2 _ _ rfl rfl
          by_cases hmost : j2 ≤ 64
          · go_wp2_with fail
            refine (parse_is (deepL false j2) _ _ w HT.out (deep_ok false j2 hm.out hmost) G0.out).mono ?_
            rintro e w1 ⟨hE, hb1⟩
            obtain ⟨v, cs, rfl, hown, _⟩ := hE
            obtain ⟨g, cap, rfl, _⟩ := owns_slice hown (by simp)
            have hone : ([deepX false] : List St).length = 1 := rfl
            rw [hone]
            clear hown hone
            have G1 : Hid (Good w1) := G0.out.at hb1
            have B1 := Lib.hid hb1
            clear hb1 HT HS2 HS1 G0
            go_wp2_with fail
            rw [HQ.out]
            go_loopg [16, 17] (q + 1) (fun k s i wr => Hid (LoopG (manyL) q w1 k s i wr))
            case atStart => exact ⟨0, _, rfl, rfl, Nat.zero_le _, by omega, rfl, rfl⟩
            case round =>
              obtain ⟨j3, S, rfl, rfl, hj, hk, hS, rfl⟩ := hrel.out
              have HS := Lib.hid hS
              have hsz : S.size ≤ 10000 := by
                rw [size_of hS]; (rw [manyL_length]; omega)
              clear hrel hS
              by_cases hlt : j3 < q
              · go_wp2_with fail
                go_roundg (gk - 1)
                case measure => omega
                case rel => exact ⟨j3 + 1, _, by go_num, rfl, by omega, by omega, by rw [Joins.data_append, HS.out]; (rw [manyL_succ]; rfl), rfl⟩
              · have hjm : j3 = q := by omega
                subst hjm
                have HL : Hid (S.data.toList = manyL j3 ∧ S.size ≤ maxLen) := ⟨HS.out, by unfold maxLen; omega⟩
                by_cases hover : j3 ≤ 1000
                · go_wp2_with fail
                  refine (parse_is (manyL j3) _ _ w1 HL.out (many_ok j3 hover) G1.out).mono ?_
                  rintro e w2 ⟨hE, hb2⟩
                  obtain ⟨v, cs, rfl, hown, _⟩ := hE
                  obtain ⟨g, cap, rfl, _⟩ := owns_slice hown (by simp; omega)
                  have hlen : (List.replicate j3 manyX).length = j3 := List.length_replicate ..
                  rw [hlen]
                  clear hown hlen
                  have G2 : Hid (Good w2) := G1.out.at hb2
                  have B2 : Hid (Below w.heap.size w w2) := B1.out.trans (hb2.mono B1.out.size)
                  clear hb2 HL HS G1 B1
                  go_wp2_with fail
                  refine (known23_any w2 G2.out).mono ?_
                  rintro e w3 ⟨rfl, hb3⟩
                  have B3 : Hid (Below w.heap.size w w3) := B2.out.trans (hb3.mono B2.out.size)
                  clear hb3 B2 G2
                  go_wp2
                  go_ret
                  exact ⟨rfl, B3.out⟩
                · go_wp2_with fail
                  refine (parse_not (manyL j3) 8000 _ w1 HL.out (many_over j3 (by omega) (by omega)) G1.out).mono ?_
                  rintro e w2 ⟨rfl, hb2⟩
                  have G2 : Hid (Good w2) := G1.out.at hb2
                  have B2 : Hid (Below w.heap.size w w2) := B1.out.trans (hb2.mono B1.out.size)
                  clear hb2 HL HS G1 B1
                  go_wp2_with fail
                  refine (known23_any w2 G2.out).mono ?_
                  rintro e w3 ⟨rfl, hb3⟩
                  have B3 : Hid (Below w.heap.size w w3) := B2.out.trans (hb3.mono B2.out.size)
                  clear hb3 B2 G2
                  go_wp2
                  go_ret
                  exact ⟨rfl, B3.out⟩
          · go_wp2_with fail
            refine (parse_not (deepL false j2) 72 _ w HT.out (deep_not false j2 (by show 64 < j2; omega) hm1) G0.out).mono ?_
            rintro e w1 ⟨rfl, hb1⟩
            have G1 : Hid (Good w1) := G0.out.at hb1
            have B1 := Lib.hid hb1
            clear hb1 HT HS2 HS1 G0
            go_wp2_with fail
            rw [HQ.out]
            go_loopg [16, 17] (q + 1) (fun k s i wr => Hid (LoopG (manyL) q w1 k s i wr))
            case atStart => exact ⟨0, _, rfl, rfl, Nat.zero_le _, by omega, rfl, rfl⟩
            case round =>
              obtain ⟨j3, S, rfl, rfl, hj, hk, hS, rfl⟩ := hrel.out
              have HS := Lib.hid hS
              have hsz : S.size ≤ 10000 := by
                rw [size_of hS]; (rw [manyL_length]; omega)
              clear hrel hS
              by_cases hlt : j3 < q
              · go_wp2_with fail
                go_roundg (gk - 1)
                case measure => omega
                case rel => exact ⟨j3 + 1, _, by go_num, rfl, by omega, by omega, by rw [Joins.data_append, HS.out]; (rw [manyL_succ]; rfl), rfl⟩
              · have hjm : j3 = q := by omega
                subst hjm
                have HL : Hid (S.data.toList = manyL j3 ∧ S.size ≤ maxLen) := ⟨HS.out, by unfold maxLen; omega⟩
                by_cases hover : j3 ≤ 1000
                · go_wp2_with fail
                  refine (parse_is (manyL j3) _ _ w1 HL.out (many_ok j3 hover) G1.out).mono ?_
                  rintro e w2 ⟨hE, hb2⟩
                  obtain ⟨v, cs, rfl, hown, _⟩ := hE
                  obtain ⟨g, cap, rfl, _⟩ := owns_slice hown (by simp; omega)
                  have hlen : (List.replicate j3 manyX).length = j3 := List.length_replicate ..
                  rw [hlen]
                  clear hown hlen
                  have G2 : Hid (Good w2) := G1.out.at hb2
                  have B2 : Hid (Below w.heap.size w w2) := B1.out.trans (hb2.mono B1.out.size)
                  clear hb2 HL HS G1 B1
                  go_wp2_with fail
                  refine (known23_any w2 G2.out).mono ?_
                  rintro e w3 ⟨rfl, hb3⟩
                  have B3 : Hid (Below w.heap.size w w3) := B2.out.trans (hb3.mono B2.out.size)
                  clear hb3 B2 G2
                  go_wp2
                  go_ret
                  exact ⟨rfl, B3.out⟩
                · go_wp2_with fail
                  refine (parse_not (manyL j3) 8000 _ w1 HL.out (many_over j3 (by omega) (by omega)) G1.out).mono ?_
                  rintro e w2 ⟨rfl, hb2⟩
                  have G2 : Hid (Good w2) := G1.out.at hb2
                  have B2 : Hid (Below w.heap.size w w2) := B1.out.trans (hb2.mono B1.out.size)
                  clear hb2 HL HS G1 B1
                  go_wp2_with fail
                  refine (known23_any w2 G2.out).mono ?_
                  rintro e w3 ⟨rfl, hb3⟩
                  have B3 : Hid (Below w.heap.size w w3) := B2.out.trans (hb3.mono B2.out.size)
                  clear hb3 B2 G2
                  go_wp2
                  go_ret
                  exact ⟨rfl, B3.out⟩

set_option maxHeartbeats 4000000 in
set_option maxRecDepth 100000 in
theorem deep_true (n stmts : Int) (w : World) (hg : Good w) (m q : Nat) (HM : Hid (wrap64 (60 + wrap64 ((IntKind.u64.wrap n).tmod 8)) = m)) (hm0 : 60 ≤ m) (hm1 : m ≤ 67) (HQ : Hid (wrap64 (998 + wrap64 ((IntKind.u64.wrap stmts).tmod 5)) = q)) (hq0 : 998 ≤ q) (hq1 : q ≤ 1002) :
    Calls Tryd.prog 8 #[.int .i64 n, .bool true, .int .i64 stmts] w fun e w' => e = .returned (.bool true) ∧ Below w.heap.size w w' := by
  have G0 := Lib.hid hg
  clear hg
  go_enter Tryd.func8, Tryd.ntmps8
  go_wp2_with fail
  rw [HM.out]
  go_loopg [7, 8] (m + 1) (fun k s i wr => Hid (LoopG (fun j => rep 40 j) m w k s i wr))
  case atStart => exact ⟨0, _, rfl, rfl, Nat.zero_le _, by omega, rfl, rfl⟩
  case round =>
    obtain ⟨j1, S, rfl, rfl, hj, hk, hS, rfl⟩ := hrel.out
    have HS := Lib.hid hS
    have hsz : S.size ≤ 200 := by
      rw [size_of hS]; (rw [rep_length]; omega)
    clear hrel hS
    by_cases hlt : j1 < m
    · go_wp2_with fail
      go_roundg (gk - 1)
      case measure => omega
      case rel => exact ⟨j1 + 1, _, by go_num, rfl, by omega, by omega, by rw [Joins.data_append, HS.out]; exact (rep_succ 40 j1).symm, rfl⟩
    · have hjm : j1 = m := by omega
      subst hjm
      go_wp2_with fail
      have HS1 := HS
      clear HS
      have hm := Lib.hid hm0
      clear hsz
      go_loopg [7, 9] (j1 + 1) (fun k s i wr => Hid (LoopG (fun i => rep 40 j1 ++ [97] ++ rep 41 i) j1 w k s i wr))
      case atStart => exact ⟨0, _, rfl, rfl, Nat.zero_le _, by omega, (by rw [Joins.data_append, HS1.out]; simp [rep]), rfl⟩
      case round =>
        obtain ⟨j2, S, rfl, rfl, hj, hk, hS, rfl⟩ := hrel.out
        have HS := Lib.hid hS
        have hsz : S.size ≤ 400 := by
          rw [size_of hS]; (simp only [List.length_append, rep_length, List.length_cons, List.length_nil]; omega)
        clear hrel hS
        by_cases hlt : j2 < j1
        · go_wp2_with fail
          go_roundg (gk - 1)
          case measure => omega
          case rel => exact ⟨j2 + 1, _, by go_num, rfl, by omega, by omega, by rw [Joins.data_append, HS.out]; (show _ ++ rep 41 j2 ++ [41] = _ ++ rep 41 (j2 + 1); rw [rep_succ, List.append_assoc]), rfl⟩
        · have hjm : j2 = j1 := by omega
          subst hjm
          have HS2 := HS
          clear HS
          have hsz2 : S.size ≤ 300 := by
            rw [size_of HS2.out]; simp only [List.length_append, rep_length, List.length_cons, List.length_nil]; omega
          have HT : Hid ((((⟨#[99, 104, 101, 99, 107, 32, 98, 32, 61, 32, 119, 105, 100, 116, 104, 40]⟩ : ByteArray) ++ S) ++ ⟨#[44, 32, 49, 41, 59]⟩).data.toList = deepL true j2 ∧ (((⟨#[99, 104, 101, 99, 107, 32, 98, 32, 61, 32, 119, 105, 100, 116, 104, 40]⟩ : ByteArray) ++ S) ++ ⟨#[44, 32, 49, 41, 59]⟩).size ≤ maxLen) := by
            refine ⟨?_, ?_⟩
            · rw [Joins.data_append, Joins.data_append, HS2.out]; rfl
            · rw [ByteArray.size_append, ByteArray.size_append]
              have h2 : ∀ p q : Nat, p = 16 → q = 5 → p + S.size + q ≤ maxLen := by intro p q hp hq; unfold maxLen; omega
              exact h2 _ _ rfl rfl
          by_cases hmost : j2 ≤ 63
          · go_wp2_with fail
            refine (parse_is (deepL true j2) _ _ w HT.out (deep_ok true j2 hm.out hmost) G0.out).mono ?_
            rintro e w1 ⟨hE, hb1⟩
            obtain ⟨v, cs, rfl, hown, _⟩ := hE
            obtain ⟨g, cap, rfl, _⟩ := owns_slice hown (by simp)
            have hone : ([deepX true] : List St).length = 1 := rfl
            rw [hone]
            clear hown hone
            have G1 : Hid (Good w1) := G0.out.at hb1
            have B1 := Lib.hid hb1
            clear hb1 HT HS2 HS1 G0
            go_wp2_with fail
            rw [HQ.out]
            go_loopg [16, 17] (q + 1) (fun k s i wr => Hid (LoopG (manyL) q w1 k s i wr))
            case atStart => exact ⟨0, _, rfl, rfl, Nat.zero_le _, by omega, rfl, rfl⟩
            case round =>
              obtain ⟨j3, S, rfl, rfl, hj, hk, hS, rfl⟩ := hrel.out
              have HS := Lib.hid hS
              have hsz : S.size ≤ 10000 := by
                rw [size_of hS]; (rw [manyL_length]; omega)
              clear hrel hS
              by_cases hlt : j3 < q
              · go_wp2_with fail
                go_roundg (gk - 1)
                case measure => omega
                case rel => exact ⟨j3 + 1, _, by go_num, rfl, by omega, by omega, by rw [Joins.data_append, HS.out]; (rw [manyL_succ]; rfl), rfl⟩
              · have hjm : j3 = q := by omega
                subst hjm
                have HL : Hid (S.data.toList = manyL j3 ∧ S.size ≤ maxLen) := ⟨HS.out, by unfold maxLen; omega⟩
                by_cases hover : j3 ≤ 1000
                · go_wp2_with fail
                  refine (parse_is (manyL j3) _ _ w1 HL.out (many_ok j3 hover) G1.out).mono ?_
                  rintro e w2 ⟨hE, hb2⟩
                  obtain ⟨v, cs, rfl, hown, _⟩ := hE
                  obtain ⟨g, cap, rfl, _⟩ := owns_slice hown (by simp; omega)
                  have hlen : (List.replicate j3 manyX).length = j3 := List.length_replicate ..
                  rw [hlen]
                  clear hown hlen
                  have G2 : Hid (Good w2) := G1.out.at hb2
                  have B2 : Hid (Below w.heap.size w w2) := B1.out.trans (hb2.mono B1.out.size)
                  clear hb2 HL HS G1 B1
                  go_wp2_with fail
                  refine (known23_any w2 G2.out).mono ?_
                  rintro e w3 ⟨rfl, hb3⟩
                  have B3 : Hid (Below w.heap.size w w3) := B2.out.trans (hb3.mono B2.out.size)
                  clear hb3 B2 G2
                  go_wp2
                  go_ret
                  exact ⟨rfl, B3.out⟩
                · go_wp2_with fail
                  refine (parse_not (manyL j3) 8000 _ w1 HL.out (many_over j3 (by omega) (by omega)) G1.out).mono ?_
                  rintro e w2 ⟨rfl, hb2⟩
                  have G2 : Hid (Good w2) := G1.out.at hb2
                  have B2 : Hid (Below w.heap.size w w2) := B1.out.trans (hb2.mono B1.out.size)
                  clear hb2 HL HS G1 B1
                  go_wp2_with fail
                  refine (known23_any w2 G2.out).mono ?_
                  rintro e w3 ⟨rfl, hb3⟩
                  have B3 : Hid (Below w.heap.size w w3) := B2.out.trans (hb3.mono B2.out.size)
                  clear hb3 B2 G2
                  go_wp2
                  go_ret
                  exact ⟨rfl, B3.out⟩
          · go_wp2_with fail
            refine (parse_not (deepL true j2) 79 _ w HT.out (deep_not true j2 (by show 63 < j2; omega) hm1) G0.out).mono ?_
            rintro e w1 ⟨rfl, hb1⟩
            have G1 : Hid (Good w1) := G0.out.at hb1
            have B1 := Lib.hid hb1
            clear hb1 HT HS2 HS1 G0
            go_wp2_with fail
            rw [HQ.out]
            go_loopg [16, 17] (q + 1) (fun k s i wr => Hid (LoopG (manyL) q w1 k s i wr))
            case atStart => exact ⟨0, _, rfl, rfl, Nat.zero_le _, by omega, rfl, rfl⟩
            case round =>
              obtain ⟨j3, S, rfl, rfl, hj, hk, hS, rfl⟩ := hrel.out
              have HS := Lib.hid hS
              have hsz : S.size ≤ 10000 := by
                rw [size_of hS]; (rw [manyL_length]; omega)
              clear hrel hS
              by_cases hlt : j3 < q
              · go_wp2_with fail
                go_roundg (gk - 1)
                case measure => omega
                case rel => exact ⟨j3 + 1, _, by go_num, rfl, by omega, by omega, by rw [Joins.data_append, HS.out]; (rw [manyL_succ]; rfl), rfl⟩
              · have hjm : j3 = q := by omega
                subst hjm
                have HL : Hid (S.data.toList = manyL j3 ∧ S.size ≤ maxLen) := ⟨HS.out, by unfold maxLen; omega⟩
                by_cases hover : j3 ≤ 1000
                · go_wp2_with fail
                  refine (parse_is (manyL j3) _ _ w1 HL.out (many_ok j3 hover) G1.out).mono ?_
                  rintro e w2 ⟨hE, hb2⟩
                  obtain ⟨v, cs, rfl, hown, _⟩ := hE
                  obtain ⟨g, cap, rfl, _⟩ := owns_slice hown (by simp; omega)
                  have hlen : (List.replicate j3 manyX).length = j3 := List.length_replicate ..
                  rw [hlen]
                  clear hown hlen
                  have G2 : Hid (Good w2) := G1.out.at hb2
                  have B2 : Hid (Below w.heap.size w w2) := B1.out.trans (hb2.mono B1.out.size)
                  clear hb2 HL HS G1 B1
                  go_wp2_with fail
                  refine (known23_any w2 G2.out).mono ?_
                  rintro e w3 ⟨rfl, hb3⟩
                  have B3 : Hid (Below w.heap.size w w3) := B2.out.trans (hb3.mono B2.out.size)
                  clear hb3 B2 G2
                  go_wp2
                  go_ret
                  exact ⟨rfl, B3.out⟩
                · go_wp2_with fail
                  refine (parse_not (manyL j3) 8000 _ w1 HL.out (many_over j3 (by omega) (by omega)) G1.out).mono ?_
                  rintro e w2 ⟨rfl, hb2⟩
                  have G2 : Hid (Good w2) := G1.out.at hb2
                  have B2 : Hid (Below w.heap.size w w2) := B1.out.trans (hb2.mono B1.out.size)
                  clear hb2 HL HS G1 B1
                  go_wp2_with fail
                  refine (known23_any w2 G2.out).mono ?_
                  rintro e w3 ⟨rfl, hb3⟩
                  have B3 : Hid (Below w.heap.size w w3) := B2.out.trans (hb3.mono B2.out.size)
                  clear hb3 B2 G2
                  go_wp2
                  go_ret
                  exact ⟨rfl, B3.out⟩
end
section
open Go Go.ChangeShapes Go.WideShapes Go.ChangeAt Go.WideMaps Go.WideElems Go.RowKit

theorem deckDeep_any (n stmts : Int) (rule : Bool) (w : World) (hg : Good w) :
    Calls Tryd.prog 8 #[.int .i64 n, .bool rule, .int .i64 stmts] w fun e w' => e = .returned (.bool true) ∧ Below w.heap.size w w' := by
  obtain ⟨m, hm, h1, h2⟩ := wrapped n 60 8 (by omega) (by omega) (by omega) (by omega)
  obtain ⟨q, hq, h3, h4⟩ := wrapped stmts 998 5 (by omega) (by omega) (by omega) (by omega)
  cases rule
  · exact deep_false n stmts w hg m q hm (by omega) (by omega) hq (by omega) (by omega)
  · exact deep_true n stmts w hg m q hm (by omega) (by omega) hq (by omega) (by omega)

theorem deckDeep_spec {H : Type} {enc : TypeId × Value → H} {W : World} {vs : List Value} {ds : List (DataW H)} {p : List MemPlace} {sp : Nat → Bool}
    (hA : DataW.TrodAll enc Tryd.prog W 0 sp true Tryd.f8.params.toList vs ds p) : Rows.deckDeepSpec.fn H (ds ++ []) = { results := [.lit (.bool true)], args := ds } := by
  rw [Tryd.params8] at hA
  obtain ⟨v, vs', d, ds', p, q, rfl, rfl, rfl, h1, h2⟩ := trodAll_cons hA
  obtain ⟨v, vs', d, ds', p, q, rfl, rfl, rfl, h3, h4⟩ := trodAll_cons h2
  obtain ⟨v, vs', d, ds', p, q, rfl, rfl, rfl, h5, h6⟩ := trodAll_cons h4
  obtain ⟨rfl, rfl, rfl⟩ := trodAll_nil h6
  rfl

set_option maxRecDepth 100000 in
theorem deckDeep_calls {H : Type} {enc : TypeId × Value → H} (W : World) (base : Nat) (args : Array Value) (ds : List (DataW H)) (p : List MemPlace) (hg : Good W)
    (hval : ∀ (j : Nat) t v, Tryd.f8.params[j]? = some t → args[j]? = some v → Value.okWide Tryd.prog W .any base t v)
    (hA : DataW.TrodAll enc Tryd.prog W 0 (fun _ => true) true Tryd.f8.params.toList args.toList ds p) :
    Calls Tryd.prog 8 args W fun e w' => e = .returned (.bool true) ∧ Below W.heap.size W w' := by
  rw [Tryd.params8] at hA hval
  obtain ⟨v0, v1, v2, d0, d1, d2, p0, p1, p2, rfl, rfl, rfl, h0, h1, h2⟩ := trodAll_three hA
  obtain ⟨n, rfl, _, _, _⟩ := ChangeShapes.open_int Tryd.underlying3 (hval 0 3 v0 rfl rfl) h0
  obtain ⟨r, rfl, _, _⟩ := open_bool Tryd.underlying4 (hval 1 4 v1 rfl rfl) h1
  obtain ⟨q, rfl, _, _, _⟩ := ChangeShapes.open_int Tryd.underlying3 (hval 2 3 v2 rfl rfl) h2
  exact deckDeep_any n q r W hg
end
end Go.Proofs.YtgnjaneddidbbaaDoor
