/-
  LexTokens: the call returns true, whatever the string.
-/
import Derived.Test.YtgnjaneddidbbaaDoorBase
import Derived.Test.YtgnjaneddidbbaaDoorRefLexB
import Derived.Test.YtgnjaneddidbbaaDoorLexKnown
import Derived.Deep.QuietTactic
import Derived.BigQuiet
namespace Go.Proofs.YtgnjaneddidbbaaDoor
open Go Go.ChangeShapes Go.WideShapes Go.ChangeAt Go.WideMaps Go.WideElems Go.RowKit

theorem rtokens_long (s : ByteArray) (w : World) (hs : 65536 < s.size) (hs2 : s.size ≤ maxLen) :
    Calls Tryd.prog 12 #[.string s] w fun e w' => e = .returned (.tuple #[.slice none 0 0, .int .i64 0, .int .i64 21]) ∧ w = w' := by
  unfold maxLen at hs2
  go_enter Tryd.func12, Tryd.ntmps12
  go_wp2
  exact ret3 rfl rfl ⟨rfl, rfl⟩

theorem rtokens_every (s : ByteArray) (w : World) (hs : s.size ≤ maxLen) :
    Calls Tryd.prog 12 #[.string s] w fun e w' => LexEndR w.heap.size (lexS s.data.toList) e w' ∧ Below w.heap.size w w' := by
  by_cases h : 65536 < s.size
  · have hR : lexS s.data.toList = .error 0 := by rw [lexS, if_pos (by rw [← Lib.size_eq]; exact h)]
    rw [hR]
    exact (rtokens_long s w h hs).mono fun e w' ⟨he, hw⟩ => ⟨he, by rw [← hw]; exact Below.refl _ _⟩
  · exact rtokens_any s w (by omega)

theorem tok_cell (ts : List Tok) : ∀ (i : Nat) (t : Tok) (f : Nat) (u : Value), ts[i]? = some t → (tokCells t)[f]? = some u → (ts.flatMap tokCells)[i * 4 + f]? = some u := by
  induction ts with
  | nil => intro i t f u h; simp at h
  | cons x ts ih =>
    intro i t f u h hf
    have hf4 : f < 4 := (List.getElem?_eq_some_iff.1 hf).1
    cases i with
    | zero =>
      obtain rfl : x = t := by simpa using h
      rw [List.flatMap_cons, List.getElem?_append_left (by simp [tokCells]; omega)]
      simpa using hf
    | succ i =>
      have := ih i t f u (by simpa using h) hf
      rw [List.flatMap_cons, List.getElem?_append_right (by simp [tokCells]; omega), ← this]
      congr 1
      simp [tokCells]
      omega

theorem owns_len {w : World} {B : Nat} {e : TypeId} {size : Nat} {v : Value} {n : Nat} {xs : List Value} (h : w.ownsRow B e size v n xs) : n ≤ 9223372036854775807 := by
  obtain ⟨_, ⟨_, h0⟩ | ⟨g, cap, cur, _, _, _, hc, hm, _⟩⟩ := h
  · omega
  · unfold maxLen at hm; omega

/-- What is left of the law behind the calls: the comparison of two rows of tokens. -/
def TwoRows (w : World) (g1 g2 : Nat) (ts : List Tok) : Prop :=
  ∀ j u, (ts.flatMap tokCells)[j]? = some u → w.cell? ⟨g1, j, none⟩ = some u ∧ w.cell? ⟨g2, j, none⟩ = some u

set_option maxHeartbeats 2000000 in
set_option maxRecDepth 100000 in
/-- The law, the string cut already. -/
theorem lexTokens_cut (s : ByteArray) (w : World) (hs : s.size ≤ 70000) (hg : Good w) :
    Calls Tryd.prog 3 #[.string s] w fun e w' => e = .returned (.bool true) ∧ Below w.heap.size w w' := by
  go_enter Tryd.func3, Tryd.ntmps3
  go_wp2_with fail
  refine (tokens_every _ _ (by unfold maxLen; omega) hg).mono ?_
  rintro e w1 ⟨h1, hb1⟩
  have hG1 := hg.at hb1
  obtain ⟨R, HR⟩ : ∃ R, Hid (lexS s.data.toList = R) := ⟨_, rfl⟩
  rw [HR.out] at h1
  cases R with
  | error k =>
    obtain rfl := lexEnd_error h1 rfl
    clear h1
    go_wp2_with fail
    refine (rtokens_every _ _ (by unfold maxLen; omega)).mono ?_
    rintro e w2 ⟨h2, hb2⟩
    rw [HR.out] at h2
    obtain rfl : e = _ := h2
    have hG2 := hG1.at hb2
    go_wp2_with (go_at_call 13; refine (known22_any _ hG2).mono ?_; rintro e w3 ⟨rfl, hb3⟩)
    refine wp_loop_once ?_
    go_wp2
    go_ret
    exact ⟨rfl, hb1.trans ((hb2.mono hb1.size).trans (hb3.mono (Nat.le_trans hb1.size hb2.size)))⟩
  | ok ts =>
    obtain ⟨v1, rfl, hown1⟩ := lexEnd_ok h1 rfl
    clear h1
    go_wp2_with fail
    refine (rtokens_every _ _ (by unfold maxLen; omega)).mono ?_
    rintro e w2 ⟨h2, hb2⟩
    rw [HR.out] at h2
    obtain ⟨v2, he2, hown2⟩ := h2
    subst he2
    have hG2 := hG1.at hb2
    by_cases hn : 0 < ts.length
    · obtain ⟨g1, cap1, rfl, hB1, hg1, hc1, hcell1⟩ := owns_slice hown1 hn
      obtain ⟨g2, cap2, rfl, hB2, hg2, hc2, hcell2⟩ := owns_slice hown2 hn
      have hnl := owns_len hown1
      obtain ⟨n, hnn⟩ : ∃ n, ts.length = n := ⟨_, rfl⟩
      rw [hnn] at hc1 hc2 hn hnl ⊢
      have HN := Lib.hid hnn
      have HB2 := Lib.hid (hb1.trans (hb2.mono hb1.size))
      have hbz := hb2.size
      have hbz1 := hb1.size
      have H2 : Hid (TwoRows w2 g1 g2 ts) := fun j u hj => ⟨by rw [hb2.cell (by show g1 < _; omega)]; exact hcell1 j u hj, hcell2 j u hj⟩
      clear hb1 hb2 hown1 hown2 hcell1 hcell2 hnn hG1
      go_wp2_with (go_at_call 13; refine (known22_any _ hG2).mono ?_; rintro e w3 ⟨rfl, hb3⟩)
      have H3 : Hid (TwoRows w3 g1 g2 ts) := fun j u hj => ⟨by rw [hb3.cell (by show g1 < _; omega)]; exact (H2.out j u hj).1, by rw [hb3.cell (by show g2 < _; omega)]; exact (H2.out j u hj).2⟩
      have HB3 := Lib.hid (HB2.out.trans (hb3.mono HB2.out.size))
      clear hb3
      go_loopw [9] (fun i wr => ∃ j : Nat, j ≤ n ∧ i = .int .i64 j ∧ Hid (Below w.heap.size w wr) ∧ Hid (TwoRows wr g1 g2 ts)) (fun i _ => n - (intOf i).toNat)
      case atStart => exact ⟨0, Nat.zero_le _, rfl, HB3, H3⟩
      case round =>
        obtain ⟨j, hj, rfl, HBr, HTr⟩ := hrel
        by_cases hjn : j < n
        · obtain ⟨t, ht⟩ : ∃ t, ts[j]? = some t := ⟨ts[j]'(by have := HN.out; omega), List.getElem?_eq_getElem _⟩
          have c0 := HTr.out _ _ (tok_cell ts j t 0 _ ht rfl)
          have c1 := HTr.out _ _ (tok_cell ts j t 1 _ ht rfl)
          have c2 := HTr.out _ _ (tok_cell ts j t 2 _ ht rfl)
          have c3 := HTr.out _ _ (tok_cell ts j t 3 _ ht rfl)
          obtain ⟨a0, b0⟩ := c0
          obtain ⟨a1, b1⟩ := c1
          obtain ⟨a2, b2⟩ := c2
          obtain ⟨a3, b3⟩ := c3
          simp only [Nat.add_zero] at a0 b0
          go_wp2_with fail
          go_quiet (fail)
          clear a0 b0 a1 b1 a2 b2 a3 b3
          go_wp2
          go_roundw
          case rel => exact ⟨j + 1, by omega, by go_num, Lib.hid (below_drewN HBr.out _), Lib.hid (fun j u h => HTr.out j u h)⟩
          case measure => simp [intOf]; omega
        · go_wp2
          go_ret
          exact ⟨rfl, HBr.out⟩
    · obtain rfl : ts = [] := List.length_eq_zero_iff.1 (by omega)
      obtain ⟨a1, cap1, rfl⟩ := owns_nil hown1
      obtain ⟨a2, cap2, rfl⟩ := owns_nil hown2
      clear hown1 hown2 hn
      have HB2 := Lib.hid (hb1.trans (hb2.mono hb1.size))
      clear hb1 hb2
      go_wp2_with (go_at_call 13; refine (known22_any _ hG2).mono ?_; rintro e w3 ⟨rfl, hb3⟩)
      refine wp_loop_once ?_
      go_wp2
      go_ret
      exact ⟨rfl, HB2.out.trans (hb3.mono HB2.out.size)⟩

set_option maxHeartbeats 2000000 in
set_option maxRecDepth 100000 in
/-- The law at a string that it cuts: both are too long. -/
theorem lexTokens_long (s : ByteArray) (w : World) (hs : 70000 < s.size) (hs2 : s.size ≤ maxLen) (hg : Good w) :
    Calls Tryd.prog 3 #[.string s] w fun e w' => e = .returned (.bool true) ∧ Below w.heap.size w w' := by
  have hs3 := hs2
  unfold maxLen at hs3
  obtain ⟨tx, htx⟩ : ∃ tx, s.extract 0 70000 = tx := ⟨_, rfl⟩
  have hts : tx.size = 70000 := by rw [← htx]; simp; omega
  have HTS := Lib.hid hts
  clear hts
  go_enter Tryd.func3, Tryd.ntmps3
  go_wp2_with (first
    | (go_at_call 11; refine (tokens_long _ _ (by rw [HTS.out]; omega) (by rw [HTS.out]; unfold maxLen; omega)).mono ?_; rintro e w' ⟨rfl, rfl⟩)
    | (go_at_call 12; refine (rtokens_long _ _ (by rw [HTS.out]; omega) (by rw [HTS.out]; unfold maxLen; omega)).mono ?_; rintro e w' ⟨rfl, rfl⟩)
    | (go_at_call 13; refine (known22_any _ hg).mono ?_; rintro e w3 ⟨rfl, hb3⟩))
  refine wp_loop_once ?_
  go_wp2
  go_ret
  exact ⟨rfl, hb3⟩

theorem lexTokens_any (s : ByteArray) (w : World) (hs : s.size ≤ maxLen) (hg : Good w) :
    Calls Tryd.prog 3 #[.string s] w fun e w' => e = .returned (.bool true) ∧ Below w.heap.size w w' := by
  by_cases h : 70000 < s.size
  · exact lexTokens_long s w h hs hg
  · exact lexTokens_cut s w (by omega) hg

theorem lexTokens_spec {H : Type} {enc : TypeId × Value → H} {W : World} {vs : List Value} {ds : List (DataW H)} {p : List MemPlace} {sp : Nat → Bool}
    (hA : DataW.TrodAll enc Tryd.prog W 0 sp true Tryd.f3.params.toList vs ds p) : Rows.lexTokensSpec.fn H (ds ++ []) = { results := [.lit (.bool true)], args := ds } := by
  rw [Tryd.params3] at hA
  obtain ⟨v, vs', d, ds', p, q, rfl, rfl, rfl, h1, h2⟩ := trodAll_cons hA
  obtain ⟨rfl, rfl, rfl⟩ := trodAll_nil h2
  rfl

set_option maxRecDepth 100000 in
theorem lexTokens_calls {H : Type} {enc : TypeId × Value → H} (W : World) (base : Nat) (args : Array Value) (ds : List (DataW H)) (p : List MemPlace) (hg : Good W)
    (hval : ∀ (j : Nat) t v, Tryd.f3.params[j]? = some t → args[j]? = some v → Value.okWide Tryd.prog W .any base t v)
    (hA : DataW.TrodAll enc Tryd.prog W 0 (fun _ => true) true Tryd.f3.params.toList args.toList ds p) :
    Calls Tryd.prog 3 args W fun e w' => e = .returned (.bool true) ∧ Below W.heap.size W w' := by
  rw [Tryd.params3] at hA hval
  obtain ⟨v0, d0, rfl, rfl, h0⟩ := trodAll_one hA
  obtain ⟨s, rfl, rfl, rfl, hs⟩ := ChangeMaps.open_string Tryd.underlying9 (hval 0 9 v0 rfl rfl) h0
  exact lexTokens_any s W hs hg
end Go.Proofs.YtgnjaneddidbbaaDoor
