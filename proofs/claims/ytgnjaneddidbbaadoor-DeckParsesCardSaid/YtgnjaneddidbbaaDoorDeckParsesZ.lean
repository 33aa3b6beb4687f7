/-
  DeckParses: the call returns true, whatever the string.
-/
import Derived.Test.YtgnjaneddidbbaaDoorGroundZ
import Derived.Test.YtgnjaneddidbbaaDoorRdEZ
import Derived.Test.YtgnjaneddidbbaaDoorSameStsZ
import Derived.Test.YtgnjaneddidbbaaDoorPrCZ
namespace Go.Proofs.YtgnjaneddidbbaaDoor
section
open Go Go.RowKit

theorem stsIs_nil (w : World) : StsIs w (.slice none 0 0) [] := ⟨by simp, none, 0, rfl, .inl rfl⟩

/-- What both parsers come to, side by side. -/
theorem stsIs_below {w w' : World} {v : Value} {l : List St} (h : StsIs w v l) (hb : Below w.heap.size w w') : StsIs w' v l := h.still (grown_of_below hb none)

set_option maxHeartbeats 2000000 in
set_option maxRecDepth 100000 in
/-- The law, the string cut already. -/
theorem deckParses_cut (s : ByteArray) (w : World) (hs : s.size ≤ 66000) (hg : Good w) :
    Calls Tryd.prog 6 #[.string s] w fun e w' => e = .returned (.bool true) ∧ Below w.heap.size w w' := by
  have HM : Hid (s.size ≤ maxLen) := by show _ ≤ _; unfold maxLen; omega
  have HG := Lib.hid hg
  clear hg
  go_enter Tryd.func6, Tryd.ntmps6
  go_wp2_with fail
  refine (parse_any _ _ HM.out HG.out).mono ?_
  rintro e w1 ⟨h1, hb1⟩
  have G1 := Lib.hid (HG.out.at hb1)
  have B1 := Lib.hid hb1
  obtain ⟨R, HR⟩ : ∃ R, Hid (parseS s.data.toList = R) := ⟨_, rfl⟩
  rw [HR.out] at h1
  clear hb1 HG
  cases R with
  | error k =>
    have h1' : e = .returned (.tuple #[.slice none 0 0, .int .i64 k, .int .i64 21]) := h1
    subst h1'
    clear h1
    go_wp2_with fail
    refine (rparse_any _ _ HM.out).mono ?_
    rintro e w2 ⟨h2, hb2⟩
    rw [HR.out] at h2
    have h2' : e = .returned (.tuple #[.slice none 0 0, .int .i64 k, .int .i64 21]) := h2
    subst h2'
    clear h2
    have G2 := Lib.hid (G1.out.at hb2)
    have B2 : Hid (Below w.heap.size w w2) := B1.out.trans (hb2.mono B1.out.size)
    clear hb2 B1 G1
    go_wp2_with fail
    refine (known23_any _ G2.out).mono ?_
    rintro e w3 ⟨rfl, hb3⟩
    have B3 : Hid (Below w.heap.size w w3) := B2.out.trans (hb3.mono B2.out.size)
    clear hb3 B2
    go_wp2_with fail
    refine (sameSts [] _ _ _ (stsIs_nil _) (stsIs_nil _)).mono ?_
    rintro e w4 ⟨rfl, hg4⟩
    have B4 : Hid (Below w.heap.size w w4) := B3.out.grown hg4 B3.out.size (fun k e => by cases e)
    clear hg4 B3
    go_wp2
    go_ret
    exact ⟨rfl, B4.out⟩
  | ok l =>
    obtain ⟨v1, cs1, he1, hown1, hr1⟩ := h1
    subst he1
    have S1 := Lib.hid (stsIs_of_owns hown1 hr1)
    clear hown1 hr1
    go_wp2_with fail
    refine (rparse_any _ _ HM.out).mono ?_
    rintro e w2 ⟨h2, hb2⟩
    rw [HR.out] at h2
    obtain ⟨v2, cs2, he2, hown2, hr2⟩ := h2
    subst he2
    have S2 := Lib.hid (stsIs_of_owns hown2 hr2)
    have T1 := Lib.hid (stsIs_below S1.out hb2)
    have G2 := Lib.hid (G1.out.at hb2)
    have B2 : Hid (Below w.heap.size w w2) := B1.out.trans (hb2.mono B1.out.size)
    clear hb2 B1 G1 hown2 hr2 S1
    go_wp2_with fail
    refine (known23_any _ G2.out).mono ?_
    rintro e w3 ⟨rfl, hb3⟩
    have B3 : Hid (Below w.heap.size w w3) := B2.out.trans (hb3.mono B2.out.size)
    have T2 := Lib.hid (stsIs_below T1.out hb3)
    have U2 := Lib.hid (stsIs_below S2.out hb3)
    clear hb3 B2 T1 S2
    go_wp2_with fail
    refine (sameSts l _ _ _ T2.out U2.out).mono ?_
    rintro e w4 ⟨rfl, hg4⟩
    have B4 : Hid (Below w.heap.size w w4) := B3.out.grown hg4 B3.out.size (fun k e => by cases e)
    clear hg4 B3 T2 U2
    go_wp2
    go_ret
    exact ⟨rfl, B4.out⟩

set_option maxHeartbeats 2000000 in
set_option maxRecDepth 100000 in
/-- The law at a string that it cuts: both are too long. -/
theorem deckParses_long (s : ByteArray) (w : World) (hs : 66000 < s.size) (hs2 : s.size ≤ maxLen) (hg : Good w) :
    Calls Tryd.prog 6 #[.string s] w fun e w' => e = .returned (.bool true) ∧ Below w.heap.size w w' := by
  have hs3 := hs2
  unfold maxLen at hs3
  obtain ⟨tx, htx⟩ : ∃ tx, s.extract 0 66000 = tx := ⟨_, rfl⟩
  have hts : tx.size = 66000 := by rw [← htx]; simp; omega
  have HM : Hid (tx.size ≤ maxLen) := by show _ ≤ _; unfold maxLen; omega
  have HR : Hid (parseS tx.data.toList = .error 0) := by
    show _ = _
    have e : lexS tx.data.toList = .error 0 := by rw [lexS, if_pos (by rw [← Lib.size_eq, hts]; decide)]
    rw [parseS, e]
    rfl
  have HG := Lib.hid hg
  clear hts hg
  go_enter Tryd.func6, Tryd.ntmps6
  go_wp2_with fail
  refine (parse_any _ _ HM.out HG.out).mono ?_
  rintro e w1 ⟨h1, hb1⟩
  rw [HR.out] at h1
  have h1' : e = .returned (.tuple #[.slice none 0 0, .int .i64 0, .int .i64 21]) := h1
  subst h1'
  have G1 := Lib.hid (HG.out.at hb1)
  have B1 := Lib.hid hb1
  clear hb1 HG h1
  go_wp2_with fail
  refine (rparse_any _ _ HM.out).mono ?_
  rintro e w2 ⟨h2, hb2⟩
  rw [HR.out] at h2
  have h2' : e = .returned (.tuple #[.slice none 0 0, .int .i64 0, .int .i64 21]) := h2
  subst h2'
  clear h2
  have G2 := Lib.hid (G1.out.at hb2)
  have B2 : Hid (Below w.heap.size w w2) := B1.out.trans (hb2.mono B1.out.size)
  clear hb2 B1 G1
  go_wp2_with fail
  refine (known23_any _ G2.out).mono ?_
  rintro e w3 ⟨rfl, hb3⟩
  have B3 : Hid (Below w.heap.size w w3) := B2.out.trans (hb3.mono B2.out.size)
  clear hb3 B2
  go_wp2_with fail
  refine (sameSts [] _ _ _ (stsIs_nil _) (stsIs_nil _)).mono ?_
  rintro e w4 ⟨rfl, hg4⟩
  have B4 : Hid (Below w.heap.size w w4) := B3.out.grown hg4 B3.out.size (fun k e => by cases e)
  clear hg4 B3
  go_wp2
  go_ret
  exact ⟨rfl, B4.out⟩

theorem deckParses_any (s : ByteArray) (w : World) (hs : s.size ≤ maxLen) (hg : Good w) :
    Calls Tryd.prog 6 #[.string s] w fun e w' => e = .returned (.bool true) ∧ Below w.heap.size w w' := by
  by_cases h : 66000 < s.size
  · exact deckParses_long s w h hs hg
  · exact deckParses_cut s w (by omega) hg
end

section
open Go Go.ChangeShapes Go.WideShapes Go.ChangeAt Go.WideMaps Go.WideElems Go.RowKit

theorem deckParses_spec {H : Type} {enc : TypeId × Value → H} {W : World} {vs : List Value} {ds : List (DataW H)} {p : List MemPlace} {sp : Nat → Bool}
    (hA : DataW.TrodAll enc Tryd.prog W 0 sp true Tryd.f6.params.toList vs ds p) : Rows.deckParsesSpec.fn H (ds ++ []) = { results := [.lit (.bool true)], args := ds } := by
  rw [Tryd.params6] at hA
  obtain ⟨v, vs', d, ds', p, q, rfl, rfl, rfl, h1, h2⟩ := trodAll_cons hA
  obtain ⟨rfl, rfl, rfl⟩ := trodAll_nil h2
  rfl

set_option maxRecDepth 100000 in
theorem deckParses_calls {H : Type} {enc : TypeId × Value → H} (W : World) (base : Nat) (args : Array Value) (ds : List (DataW H)) (p : List MemPlace) (hg : Good W)
    (hval : ∀ (j : Nat) t v, Tryd.f6.params[j]? = some t → args[j]? = some v → Value.okWide Tryd.prog W .any base t v)
    (hA : DataW.TrodAll enc Tryd.prog W 0 (fun _ => true) true Tryd.f6.params.toList args.toList ds p) :
    Calls Tryd.prog 6 args W fun e w' => e = .returned (.bool true) ∧ Below W.heap.size W w' := by
  rw [Tryd.params6] at hA hval
  obtain ⟨v0, d0, rfl, rfl, h0⟩ := trodAll_one hA
  obtain ⟨s, rfl, rfl, rfl, hs⟩ := ChangeMaps.open_string Tryd.underlying9 (hval 0 9 v0 rfl rfl) h0
  exact deckParses_any s W hs hg
end
end Go.Proofs.YtgnjaneddidbbaaDoor
