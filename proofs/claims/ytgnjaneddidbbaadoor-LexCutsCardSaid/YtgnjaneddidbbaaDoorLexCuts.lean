/-
  LexCuts: the call returns true, whatever the strings.
-/
import Derived.Test.YtgnjaneddidbbaaDoorLexKnown
import Derived.Test.YtgnjaneddidbbaaDoorLexPlain
namespace Go.Proofs.YtgnjaneddidbbaaDoor
open Go Go.ChangeShapes Go.WideShapes Go.ChangeAt Go.WideMaps Go.WideElems Go.RowKit

theorem app_list (a b : ByteArray) : (a ++ b).data.toList = a.data.toList ++ b.data.toList := by simp

set_option maxHeartbeats 2000000 in
set_option maxRecDepth 100000 in
theorem lexCuts_any (s m : ByteArray) (w : World) (hs : s.size ≤ maxLen) (hm : m.size ≤ maxLen) (hg : Good w) :
    Calls Tryd.prog 5 #[.string s, .string m] w fun e w' => e = .returned (.bool true) ∧ Below w.heap.size w w' := by
  unfold maxLen at hs hm
  have hcut : ∀ x : ByteArray, 2000 < x.size → ∃ y, x.extract 0 2000 = y ∧ y.size ≤ 2000 := fun x hx => ⟨_, rfl, by simp; omega⟩
  by_cases h1 : 2000 < s.size
  · obtain ⟨s1, hs1, hsz⟩ := hcut s h1
    by_cases h2 : 2000 < m.size
    · obtain ⟨m1, hm1, hmz⟩ := hcut m h2
      clear hcut
      obtain ⟨R, HR⟩ : ∃ R, Hid (lexS s1.data.toList = R) := ⟨_, rfl⟩
      go_enter Tryd.func5, Tryd.ntmps5
      go_wp2_with fail
      refine (tokens_any _ _ (by omega) hg).mono ?_
      rintro e w1 ⟨h3, hb1⟩
      have hG1 := hg.at hb1
      rw [HR.out] at h3
      cases R with
      | error k =>
        obtain rfl := lexEnd_error h3 rfl
        clear h3
        go_wp2_with (go_at_call 13; refine (known22_any _ hG1).mono ?_; rintro e w2 ⟨rfl, hb2⟩)
        have hG2 := hG1.at hb2
        have hsz2 : (s1 ++ m1).size ≤ 65536 := by rw [ByteArray.size_append]; omega
        refine (tokens_any _ _ hsz2 hG2).mono ?_
        rintro e w3 ⟨h4, hb3⟩
        obtain rfl := lexEnd_error h4 (by rw [app_list]; exact lexS_more _ _ _ (by rw [← app_list, ← Lib.size_eq]; exact hsz2) HR.out)
        have HB := Lib.hid (hb1.trans ((hb2.mono hb1.size).trans (hb3.mono (Nat.le_trans hb1.size hb2.size))))
        clear h4 hb1 hb2 hb3
        go_wp2
        go_ret
        exact ⟨rfl, HB.out⟩
      | ok ts =>
        obtain ⟨v1, rfl, hown1⟩ := lexEnd_ok h3 rfl
        clear h3
        go_wp2_with (go_at_call 13; refine (known22_any _ hG1).mono ?_; rintro e w2 ⟨rfl, hb2⟩)
        have hG2 := hG1.at hb2
        have hsz2 : (s1 ++ ({ data := #[10, 36] } : ByteArray) ++ m1).size ≤ 65536 := by rw [ByteArray.size_append, ByteArray.size_append]; show s1.size + 2 + m1.size ≤ _; omega
        refine (tokens_any _ _ hsz2 hG2).mono ?_
        rintro e w3 ⟨h4, hb3⟩
        have hl : (s1 ++ ({ data := #[10, 36] } : ByteArray) ++ m1).data.toList = s1.data.toList ++ 10 :: 36 :: m1.data.toList := by rw [app_list, app_list, List.append_assoc]; rfl
        obtain rfl := lexEnd_error h4 (by rw [hl]; exact lexS_then _ _ ts (by rw [← hl, ← Lib.size_eq]; exact hsz2) HR.out)
        have HB := Lib.hid (hb1.trans ((hb2.mono hb1.size).trans (hb3.mono (Nat.le_trans hb1.size hb2.size))))
        have hll : s1.data.toList.length = s1.size := (Lib.size_eq s1).symm
        rw [hll]
        clear h4 hb1 hb2 hb3 hl hll
        go_wp2
        go_ret
        exact ⟨rfl, HB.out⟩
    · obtain ⟨m1, rfl⟩ : ∃ m1, m1 = m := ⟨_, rfl⟩
      have hmz : m1.size ≤ 2000 := by omega
      clear hcut
      obtain ⟨R, HR⟩ : ∃ R, Hid (lexS s1.data.toList = R) := ⟨_, rfl⟩
      go_enter Tryd.func5, Tryd.ntmps5
      go_wp2_with fail
      refine (tokens_any _ _ (by omega) hg).mono ?_
      rintro e w1 ⟨h3, hb1⟩
      have hG1 := hg.at hb1
      rw [HR.out] at h3
      cases R with
      | error k =>
        obtain rfl := lexEnd_error h3 rfl
        clear h3
        go_wp2_with (go_at_call 13; refine (known22_any _ hG1).mono ?_; rintro e w2 ⟨rfl, hb2⟩)
        have hG2 := hG1.at hb2
        have hsz2 : (s1 ++ m1).size ≤ 65536 := by rw [ByteArray.size_append]; omega
        refine (tokens_any _ _ hsz2 hG2).mono ?_
        rintro e w3 ⟨h4, hb3⟩
        obtain rfl := lexEnd_error h4 (by rw [app_list]; exact lexS_more _ _ _ (by rw [← app_list, ← Lib.size_eq]; exact hsz2) HR.out)
        have HB := Lib.hid (hb1.trans ((hb2.mono hb1.size).trans (hb3.mono (Nat.le_trans hb1.size hb2.size))))
        clear h4 hb1 hb2 hb3
        go_wp2
        go_ret
        exact ⟨rfl, HB.out⟩
      | ok ts =>
        obtain ⟨v1, rfl, hown1⟩ := lexEnd_ok h3 rfl
        clear h3
        go_wp2_with (go_at_call 13; refine (known22_any _ hG1).mono ?_; rintro e w2 ⟨rfl, hb2⟩)
        have hG2 := hG1.at hb2
        have hsz2 : (s1 ++ ({ data := #[10, 36] } : ByteArray) ++ m1).size ≤ 65536 := by rw [ByteArray.size_append, ByteArray.size_append]; show s1.size + 2 + m1.size ≤ _; omega
        refine (tokens_any _ _ hsz2 hG2).mono ?_
        rintro e w3 ⟨h4, hb3⟩
        have hl : (s1 ++ ({ data := #[10, 36] } : ByteArray) ++ m1).data.toList = s1.data.toList ++ 10 :: 36 :: m1.data.toList := by rw [app_list, app_list, List.append_assoc]; rfl
        obtain rfl := lexEnd_error h4 (by rw [hl]; exact lexS_then _ _ ts (by rw [← hl, ← Lib.size_eq]; exact hsz2) HR.out)
        have HB := Lib.hid (hb1.trans ((hb2.mono hb1.size).trans (hb3.mono (Nat.le_trans hb1.size hb2.size))))
        have hll : s1.data.toList.length = s1.size := (Lib.size_eq s1).symm
        rw [hll]
        clear h4 hb1 hb2 hb3 hl hll
        go_wp2
        go_ret
        exact ⟨rfl, HB.out⟩
  · obtain ⟨s1, rfl⟩ : ∃ s1, s1 = s := ⟨_, rfl⟩
    have hsz : s1.size ≤ 2000 := by omega
    by_cases h2 : 2000 < m.size
    · obtain ⟨m1, hm1, hmz⟩ := hcut m h2
      clear hcut
      obtain ⟨R, HR⟩ : ∃ R, Hid (lexS s1.data.toList = R) := ⟨_, rfl⟩
      go_enter Tryd.func5, Tryd.ntmps5
      go_wp2_with fail
      refine (tokens_any _ _ (by omega) hg).mono ?_
      rintro e w1 ⟨h3, hb1⟩
      have hG1 := hg.at hb1
      rw [HR.out] at h3
      cases R with
      | error k =>
        obtain rfl := lexEnd_error h3 rfl
        clear h3
        go_wp2_with (go_at_call 13; refine (known22_any _ hG1).mono ?_; rintro e w2 ⟨rfl, hb2⟩)
        have hG2 := hG1.at hb2
        have hsz2 : (s1 ++ m1).size ≤ 65536 := by rw [ByteArray.size_append]; omega
        refine (tokens_any _ _ hsz2 hG2).mono ?_
        rintro e w3 ⟨h4, hb3⟩
        obtain rfl := lexEnd_error h4 (by rw [app_list]; exact lexS_more _ _ _ (by rw [← app_list, ← Lib.size_eq]; exact hsz2) HR.out)
        have HB := Lib.hid (hb1.trans ((hb2.mono hb1.size).trans (hb3.mono (Nat.le_trans hb1.size hb2.size))))
        clear h4 hb1 hb2 hb3
        go_wp2
        go_ret
        exact ⟨rfl, HB.out⟩
      | ok ts =>
        obtain ⟨v1, rfl, hown1⟩ := lexEnd_ok h3 rfl
        clear h3
        go_wp2_with (go_at_call 13; refine (known22_any _ hG1).mono ?_; rintro e w2 ⟨rfl, hb2⟩)
        have hG2 := hG1.at hb2
        have hsz2 : (s1 ++ ({ data := #[10, 36] } : ByteArray) ++ m1).size ≤ 65536 := by rw [ByteArray.size_append, ByteArray.size_append]; show s1.size + 2 + m1.size ≤ _; omega
        refine (tokens_any _ _ hsz2 hG2).mono ?_
        rintro e w3 ⟨h4, hb3⟩
        have hl : (s1 ++ ({ data := #[10, 36] } : ByteArray) ++ m1).data.toList = s1.data.toList ++ 10 :: 36 :: m1.data.toList := by rw [app_list, app_list, List.append_assoc]; rfl
        obtain rfl := lexEnd_error h4 (by rw [hl]; exact lexS_then _ _ ts (by rw [← hl, ← Lib.size_eq]; exact hsz2) HR.out)
        have HB := Lib.hid (hb1.trans ((hb2.mono hb1.size).trans (hb3.mono (Nat.le_trans hb1.size hb2.size))))
        have hll : s1.data.toList.length = s1.size := (Lib.size_eq s1).symm
        rw [hll]
        clear h4 hb1 hb2 hb3 hl hll
        go_wp2
        go_ret
        exact ⟨rfl, HB.out⟩
    · obtain ⟨m1, rfl⟩ : ∃ m1, m1 = m := ⟨_, rfl⟩
      have hmz : m1.size ≤ 2000 := by omega
      clear hcut
      obtain ⟨R, HR⟩ : ∃ R, Hid (lexS s1.data.toList = R) := ⟨_, rfl⟩
      go_enter Tryd.func5, Tryd.ntmps5
      go_wp2_with fail
      refine (tokens_any _ _ (by omega) hg).mono ?_
      rintro e w1 ⟨h3, hb1⟩
      have hG1 := hg.at hb1
      rw [HR.out] at h3
      cases R with
      | error k =>
        obtain rfl := lexEnd_error h3 rfl
        clear h3
        go_wp2_with (go_at_call 13; refine (known22_any _ hG1).mono ?_; rintro e w2 ⟨rfl, hb2⟩)
        have hG2 := hG1.at hb2
        have hsz2 : (s1 ++ m1).size ≤ 65536 := by rw [ByteArray.size_append]; omega
        refine (tokens_any _ _ hsz2 hG2).mono ?_
        rintro e w3 ⟨h4, hb3⟩
        obtain rfl := lexEnd_error h4 (by rw [app_list]; exact lexS_more _ _ _ (by rw [← app_list, ← Lib.size_eq]; exact hsz2) HR.out)
        have HB := Lib.hid (hb1.trans ((hb2.mono hb1.size).trans (hb3.mono (Nat.le_trans hb1.size hb2.size))))
        clear h4 hb1 hb2 hb3
        go_wp2
        go_ret
        exact ⟨rfl, HB.out⟩
      | ok ts =>
        obtain ⟨v1, rfl, hown1⟩ := lexEnd_ok h3 rfl
        clear h3
        go_wp2_with (go_at_call 13; refine (known22_any _ hG1).mono ?_; rintro e w2 ⟨rfl, hb2⟩)
        have hG2 := hG1.at hb2
        have hsz2 : (s1 ++ ({ data := #[10, 36] } : ByteArray) ++ m1).size ≤ 65536 := by rw [ByteArray.size_append, ByteArray.size_append]; show s1.size + 2 + m1.size ≤ _; omega
        refine (tokens_any _ _ hsz2 hG2).mono ?_
        rintro e w3 ⟨h4, hb3⟩
        have hl : (s1 ++ ({ data := #[10, 36] } : ByteArray) ++ m1).data.toList = s1.data.toList ++ 10 :: 36 :: m1.data.toList := by rw [app_list, app_list, List.append_assoc]; rfl
        obtain rfl := lexEnd_error h4 (by rw [hl]; exact lexS_then _ _ ts (by rw [← hl, ← Lib.size_eq]; exact hsz2) HR.out)
        have HB := Lib.hid (hb1.trans ((hb2.mono hb1.size).trans (hb3.mono (Nat.le_trans hb1.size hb2.size))))
        have hll : s1.data.toList.length = s1.size := (Lib.size_eq s1).symm
        rw [hll]
        clear h4 hb1 hb2 hb3 hl hll
        go_wp2
        go_ret
        exact ⟨rfl, HB.out⟩

theorem lexCuts_spec {H : Type} {enc : TypeId × Value → H} {W : World} {vs : List Value} {ds : List (DataW H)} {p : List MemPlace} {sp : Nat → Bool}
    (hA : DataW.TrodAll enc Tryd.prog W 0 sp true Tryd.f5.params.toList vs ds p) : Rows.lexCutsSpec.fn H (ds ++ []) = { results := [.lit (.bool true)], args := ds } := by
  rw [Tryd.params5] at hA
  obtain ⟨v, vs', d, ds', p, q, rfl, rfl, rfl, h1, h2⟩ := trodAll_cons hA
  obtain ⟨v, vs', d, ds', p, q, rfl, rfl, rfl, h3, h4⟩ := trodAll_cons h2
  obtain ⟨rfl, rfl, rfl⟩ := trodAll_nil h4
  rfl

set_option maxRecDepth 100000 in
theorem lexCuts_calls {H : Type} {enc : TypeId × Value → H} (W : World) (base : Nat) (args : Array Value) (ds : List (DataW H)) (p : List MemPlace) (hg : Good W)
    (hval : ∀ (j : Nat) t v, Tryd.f5.params[j]? = some t → args[j]? = some v → Value.okWide Tryd.prog W .any base t v)
    (hA : DataW.TrodAll enc Tryd.prog W 0 (fun _ => true) true Tryd.f5.params.toList args.toList ds p) :
    Calls Tryd.prog 5 args W fun e w' => e = .returned (.bool true) ∧ Below W.heap.size W w' := by
  rw [Tryd.params5] at hA hval
  obtain ⟨v0, v1, d0, d1, p0, p1, rfl, rfl, rfl, h0, h1⟩ := trodAll_two hA
  obtain ⟨s, rfl, rfl, rfl, hs⟩ := ChangeMaps.open_string Tryd.underlying9 (hval 0 9 v0 rfl rfl) h0
  obtain ⟨m, rfl, rfl, rfl, hm⟩ := ChangeMaps.open_string Tryd.underlying9 (hval 1 9 v1 rfl rfl) h1
  exact lexCuts_any s m W hs hm hg
end Go.Proofs.YtgnjaneddidbbaaDoor
