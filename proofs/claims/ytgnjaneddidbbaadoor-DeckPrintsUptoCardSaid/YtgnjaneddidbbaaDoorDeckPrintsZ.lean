/-
  DeckPrints: the call returns true, whatever the statements.
-/
import Derived.Test.YtgnjaneddidbbaaDoorGroundZ
import Derived.Test.YtgnjaneddidbbaaDoorDeckBackZ
import Derived.Test.YtgnjaneddidbbaaDoorRpHZ
import Derived.Test.YtgnjaneddidbbaaDoorOpenNamesZ
namespace Go.Proofs.YtgnjaneddidbbaaDoor
section
open Go Go.RowKit

set_option maxHeartbeats 4000000 in
set_option maxRecDepth 100000 in
theorem deckPrints_any (l : List St) (v : Value) (w : World) (hp : Prints l) (hnb : ∀ x ∈ l, x.name.length ≤ maxLen ∧ NdB x.a ∧ NdB x.b) (hsz : ∀ x ∈ l, (lineP x).length ≤ 100000000) (h : StsIs w v l) (hg : Good w) :
    Calls Tryd.prog 9 #[v] w fun e w' => e = .returned (.bool true) ∧ Below w.heap.size w w' := by
  have HP := Lib.hid hp
  have HNB := Lib.hid hnb
  have HSZ := Lib.hid hsz
  have H0 := Lib.hid h
  have G0 := Lib.hid hg
  obtain ⟨hn, a, c, rfl, _⟩ := h
  clear hp hg hn hnb hsz
  go_enter Tryd.func9, Tryd.ntmps9
  go_wp2_with fail
  refine (few_any l _ w H0.out).mono ?_
  rintro e w1 ⟨⟨b, rfl⟩, hg1⟩
  have B1 : Hid (Below w.heap.size w w1) := below_still hg1
  have G1 := Lib.hid (G0.out.at B1.out)
  have H1 := Lib.hid (H0.out.still hg1)
  clear hg1 G0 H0
  cases b with
  | false =>
    go_wp2_with fail
    refine (known23_any _ G1.out).mono ?_
    rintro e w2 ⟨rfl, hb2⟩
    have B2 : Hid (Below w.heap.size w w2) := B1.out.trans (hb2.mono B1.out.size)
    clear hb2 B1 G1
    go_wp2
    go_ret
    exact ⟨rfl, B2.out⟩
  | true =>
    go_wp2_with fail
    refine (print_at l _ _ HP.out H1.out G1.out).mono ?_
    rintro e w2 ⟨he, hb2⟩
    have B2 : Hid (Below w.heap.size w w2) := B1.out.trans (hb2.mono B1.out.size)
    have G2 := Lib.hid (G1.out.at hb2)
    have H2 := Lib.hid (sts_below H1.out hb2)
    clear hb2 B1 G1 H1
    have HR := Lib.hid (fun w h => rprint_any l (.slice a l.length c) w HNB.out HSZ.out h)
    have HT := Lib.hid (fun w h hg => right_at l (.slice a l.length c) w HP.out h hg)
    obtain ⟨P, hP⟩ : ∃ P, printS l = P := ⟨_, rfl⟩
    rw [hP] at he HR HT
    clear hP HNB HSZ HP
    cases P with
    | none =>
      have he2 : e = .returned (.tuple #[.string ⟨#[]⟩, .int .i64 3]) := he
      subst he2
      clear he
      go_wp2_with fail
      refine (HR.out _ H2.out).mono ?_
      rintro e w3 ⟨he, hb3⟩
      have he2 : e = .returned (.tuple #[.string ⟨#[]⟩, .int .i64 3]) := he
      subst he2
      have B3 : Hid (Below w.heap.size w w3) := B2.out.trans (hb3.mono B2.out.size)
      have G3 := Lib.hid (G2.out.at hb3)
      have H3 := Lib.hid (sts_below H2.out hb3)
      clear hb3 B2 G2 H2 he HR
      go_wp2_with fail
      refine (known23_any _ G3.out).mono ?_
      rintro e w4 ⟨rfl, hb4⟩
      have B4 : Hid (Below w.heap.size w w4) := B3.out.trans (hb4.mono B3.out.size)
      have G4 := Lib.hid (G3.out.at hb4)
      have H4 := Lib.hid (sts_below H3.out hb4)
      clear hb4 B3 G3 H3
      go_wp2_with fail
      refine (HT.out _ H4.out G4.out).mono ?_
      rintro e w5 ⟨he, hb5⟩
      have he2 : e = .returned (.bool false) := he
      subst he2
      have B5 : Hid (Below w.heap.size w w5) := B4.out.trans (hb5.mono B4.out.size)
      clear hb5 B4 G4 H4 he HT
      go_wp2
      go_ret
      exact ⟨rfl, B5.out⟩
    | some t =>
      have he2 : e = .returned (.tuple #[.string (bs t), .int .i64 0]) := he
      subst he2
      clear he
      go_wp2_with fail
      refine (HR.out _ H2.out).mono ?_
      rintro e w3 ⟨he, hb3⟩
      have he2 : e = .returned (.tuple #[.string (bs t), .int .i64 0]) := he
      subst he2
      have B3 : Hid (Below w.heap.size w w3) := B2.out.trans (hb3.mono B2.out.size)
      have G3 := Lib.hid (G2.out.at hb3)
      have H3 := Lib.hid (sts_below H2.out hb3)
      clear hb3 B2 G2 H2 he HR
      go_wp2_with fail
      refine (known23_any _ G3.out).mono ?_
      rintro e w4 ⟨rfl, hb4⟩
      have B4 : Hid (Below w.heap.size w w4) := B3.out.trans (hb4.mono B3.out.size)
      have G4 := Lib.hid (G3.out.at hb4)
      have H4 := Lib.hid (sts_below H3.out hb4)
      clear hb4 B3 G3 H3
      have heq : ((bs t).toList == (bs t).toList) = true := by simp
      go_wp2_with fail
      refine (HT.out _ H4.out G4.out).mono ?_
      rintro e w5 ⟨he, hb5⟩
      have he2 : e = .returned (.bool true) := he
      subst he2
      have B5 : Hid (Below w.heap.size w w5) := B4.out.trans (hb5.mono B4.out.size)
      clear hb5 B4 G4 H4 he HT
      go_wp2
      go_ret
      exact ⟨rfl, B5.out⟩
end

section
open Go Go.ChangeShapes Go.WideShapes Go.ChangeAt Go.WideMaps Go.WideElems Go.RowKit

theorem deckPrints_spec {H : Type} {enc : TypeId × Value → H} {W : World} {vs : List Value} {ds : List (DataW H)} {p : List MemPlace} {sp : Nat → Bool}
    (hA : DataW.TrodAll enc Tryd.prog W 0 sp true Tryd.f9.params.toList vs ds p) : Rows.deckPrintsSpec.fn H (ds ++ []) = { results := [.lit (.bool true)], args := ds } := by
  rw [Tryd.params9] at hA
  obtain ⟨v, vs', d, ds', p, q, rfl, rfl, rfl, h1, h2⟩ := trodAll_cons hA
  obtain ⟨rfl, rfl, rfl⟩ := trodAll_nil h2
  rfl

set_option maxRecDepth 100000 in
theorem deckPrints_calls {H : Type} {enc : TypeId × Value → H} (W : World) (base : Nat) (args : Array Value) (ds : List (DataW H)) (p : List MemPlace) (hg : Good W)
    (hval : ∀ (j : Nat) t v, Tryd.f9.params[j]? = some t → args[j]? = some v → Value.okWide Tryd.prog W .any base t v)
    (hA : DataW.TrodAll enc Tryd.prog W 0 (fun _ => true) true Tryd.f9.params.toList args.toList ds p) (hk : Rows.uptoBulkAll ds ≤ 1048576) :
    Calls Tryd.prog 9 args W fun e w' => e = .returned (.bool true) ∧ Below W.heap.size W w' := by
  rw [Tryd.params9] at hA hval
  obtain ⟨v0, d0, rfl, rfl, h0⟩ := trodAll_one hA
  obtain ⟨l, hl, hb⟩ := open_sts (hval 0 38 v0 rfl rfl) h0
  have hk0 : Rows.uptoBulk d0 ≤ 1048576 := Nat.le_trans (bulk_mem (by simp)) hk
  exact deckPrints_any l v0 W (prints_of hb hk0) (open_names_sts hl h0) (fun x hx => by have := (hb x hx).2; omega) hl hg
end
end Go.Proofs.YtgnjaneddidbbaaDoor
