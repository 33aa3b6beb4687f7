/-
  DeckBack: the call returns true, whatever the statements and the string.
-/
import Derived.Test.YtgnjaneddidbbaaDoorGroundZ
import Derived.Test.YtgnjaneddidbbaaDoorGnBZ
import Derived.Test.YtgnjaneddidbbaaDoorLnBZ
import Derived.Test.YtgnjaneddidbbaaDoorSameStsZ
import Derived.Test.YtgnjaneddidbbaaDoorOpAZ
import Derived.Test.YtgnjaneddidbbaaDoorDeckJoinsZ
namespace Go.Proofs.YtgnjaneddidbbaaDoor
section
open Go Go.RowKit

theorem printS_parse {l : List St} {t : List UInt8} (h : printS l = some t) : parseS t = .ok l ∧ t.length ≤ 65536 := by
  obtain ⟨h1, h2, h3, rfl⟩ := (printS_iff l t).1 h
  exact ⟨print_back h1 h2 h3, h3⟩
theorem line_in {l : List St} {x : St} (h : x ∈ l) : (lineP x).length ≤ (l.flatMap lineP).length := by
  induction l with
  | nil => cases h
  | cons y l ih =>
    rw [List.flatMap_cons, List.length_append]
    rcases List.mem_cons.1 h with rfl | h
    · omega
    · have := ih h; omega

/-- What Print asks of statements. -/
def Prints (l : List St) : Prop := (∀ x ∈ l, LineC x) ∧ ∀ x ∈ l, (lineP x).length ≤ 140737488000000
theorem prints_parsed {s : List UInt8} {l : List St} (h : parseS s = .ok l) : Prints l := by
  obtain ⟨h1, _, h3⟩ := parse_fits h
  have h4 := (parse_size h).1
  exact ⟨fun x hx => lineC_fit x (h1 x hx), fun x hx => by have := line_in hx; omega⟩
theorem print_at (l : List St) (v : Value) (w : World) (hp : Prints l) (h : StsIs w v l) (hg : Good w) :
    Calls Tryd.prog 18 #[v] w fun e w' => e = printE (printS l) ∧ Below w.heap.size w w' := print_any l v w hp.1 hp.2 h hg

set_option maxHeartbeats 1000000 in
set_option maxRecDepth 100000 in
theorem right_at (l : List St) (v : Value) (w : World) (hp : Prints l) (h : StsIs w v l) (hg : Good w) :
    Calls Tryd.prog 21 #[v] w fun e w' => e = .returned (.bool (printS l).isSome) ∧ Below w.heap.size w w' := by
  have HP := Lib.hid (print_at l v w hp h hg)
  clear hp h hg
  go_enter Tryd.func21, Tryd.ntmps21
  go_wp2_with fail
  refine HP.out.mono ?_
  rintro e w1 ⟨he, hb⟩
  clear HP
  cases hR : printS l with
  | none =>
    rw [hR] at he
    unfold printE at he
    subst he
    go_wp2
    go_ret
    exact ⟨by rw [hR]; rfl, hb⟩
  | some t =>
    rw [hR] at he
    unfold printE at he
    subst he
    go_wp2
    go_ret
    exact ⟨by rw [hR]; rfl, hb⟩

theorem sts_below {w w' : World} {v : Value} {l : List St} (h : StsIs w v l) (hb : Below w.heap.size w w') : StsIs w' v l := h.still (grown_of_below hb none)
theorem below_still {w w' : World} (hg : w.grownBy w' none) : Below w.heap.size w w' := ⟨hg.os, hg.tape, hg.output, hg.size, fun k hk => hg.block k hk (by simp)⟩

set_option maxHeartbeats 4000000 in
set_option maxRecDepth 100000 in
theorem deckBack_any (l : List St) (v : Value) (s : ByteArray) (w : World) (hs : s.size ≤ maxLen) (hp : Prints l) (h : StsIs w v l) (hg : Good w) :
    Calls Tryd.prog 10 #[v, .string s] w fun e w' => e = .returned (.bool true) ∧ Below w.heap.size w w' := by
  have HM := Lib.hid hs
  have HP := Lib.hid hp
  have H0 := Lib.hid h
  have G0 := Lib.hid hg
  obtain ⟨hn, a, c, rfl, _⟩ := h
  clear hs hp hg hn
  go_enter Tryd.func10, Tryd.ntmps10
  go_wp2_with fail
  refine (few_any l _ w H0.out).mono ?_
  rintro e w1 ⟨⟨b, rfl⟩, hg1⟩
  have B1 : Hid (Below w.heap.size w w1) := below_still hg1
  have G1 := Lib.hid (G0.out.at B1.out)
  have H1 := Lib.hid (H0.out.still hg1)
  clear hg1 G0 H0
  by_cases hfew : b = true ∧ ¬ 8000 < s.size
  case neg =>
    cases b with
    | false =>
      clear hfew
      go_wp2_with fail
      refine (known23_any _ G1.out).mono ?_
      rintro e w2 ⟨rfl, hb2⟩
      have B2 : Hid (Below w.heap.size w w2) := B1.out.trans (hb2.mono B1.out.size)
      clear hb2 B1 G1
      go_wp2
      go_ret
      exact ⟨rfl, B2.out⟩
    | true =>
      have hlong : 8000 < s.size := by simpa using hfew
      clear hfew
      go_wp2_with fail
      refine (known23_any _ G1.out).mono ?_
      rintro e w2 ⟨rfl, hb2⟩
      have B2 : Hid (Below w.heap.size w w2) := B1.out.trans (hb2.mono B1.out.size)
      clear hb2 B1 G1
      go_wp2
      go_ret
      exact ⟨rfl, B2.out⟩
  obtain ⟨rfl, hshort⟩ := hfew
  go_wp2_with fail
  refine (print_at l _ _ HP.out H1.out G1.out).mono ?_
  rintro e w2 ⟨he, hb2⟩
  have B2 : Hid (Below w.heap.size w w2) := B1.out.trans (hb2.mono B1.out.size)
  have G2 := Lib.hid (G1.out.at hb2)
  have H2 := Lib.hid (sts_below H1.out hb2)
  clear hb2 B1 G1 H1
  obtain ⟨R, hR⟩ : ∃ R, printS l = R := ⟨_, rfl⟩
  rw [hR] at he
  unfold printE at he
  cases R with
  | none =>
    subst he
    clear hR
    go_wp2_with fail
    refine (parse_any _ _ HM.out G2.out).mono ?_
    rintro e w3 ⟨he, hb3⟩
    have B3 : Hid (Below w.heap.size w w3) := B2.out.trans (hb3.mono B2.out.size)
    have G3 := Lib.hid (G2.out.at hb3)
    clear hb3 B2 G2
    obtain ⟨Q, hQ⟩ : ∃ Q, parseS s.data.toList = Q := ⟨_, rfl⟩
    rw [hQ] at he
    cases Q with
    | error k =>
      have he' : e = .returned (.tuple #[.slice none 0 0, .int .i64 k, .int .i64 21]) := he
      subst he'
      clear he hQ
      go_wp2_with fail
      refine (known23_any _ G3.out).mono ?_
      rintro e w4 ⟨rfl, hb4⟩
      have B4 : Hid (Below w.heap.size w w4) := B3.out.trans (hb4.mono B3.out.size)
      clear hb4 B3 G3
      go_wp2
      go_ret
      exact ⟨rfl, B4.out⟩
    | ok m =>
      obtain ⟨vm, csm, he2, om, rm⟩ := he
      subst he2
      have M3 := Lib.hid (stsIs_of_owns om rm)
      obtain ⟨am, cm, rfl, _⟩ := Own.shape (l := m) ⟨om, rm⟩
      have HQ := Lib.hid hQ
      have HPM := Lib.hid (prints_parsed hQ)
      clear om rm hQ
      go_wp2_with fail
      refine (print_at m _ _ HPM.out M3.out G3.out).mono ?_
      rintro e w4 ⟨he, hb4⟩
      have B4 : Hid (Below w.heap.size w w4) := B3.out.trans (hb4.mono B3.out.size)
      have G4 := Lib.hid (G3.out.at hb4)
      have M4 := Lib.hid (sts_below M3.out hb4)
      clear hb4 B3 G3 M3
      obtain ⟨P, hP⟩ : ∃ P, printS m = P := ⟨_, rfl⟩
      rw [hP] at he
      unfold printE at he
      cases P with
      | none =>
        subst he
        have hlong : 5000 < s.size := by
          rcases Nat.lt_or_ge 5000 s.size with h | h
          · exact h
          · have := printS_of_parse HQ.out (by rw [← Lib.size_eq]; exact h)
            rw [hP] at this; cases this
        clear hP
        go_wp2
        go_ret
        exact ⟨rfl, B4.out⟩
      | some t2 =>
        subst he
        obtain ⟨hp1, hp2⟩ := printS_parse hP
        have HT2 : Hid ((bs t2).data.toList = t2 ∧ (bs t2).size ≤ maxLen) := ⟨rfl, by rw [bs_size]; unfold maxLen; omega⟩
        have HP2 := Lib.hid hp1
        clear hP hp1 hp2
        go_wp2_with fail
        refine (parse_is t2 _ _ w4 HT2.out HP2.out G4.out).mono ?_
        rintro e w5 ⟨he, hb5⟩
        have B5 : Hid (Below w.heap.size w w5) := B4.out.trans (hb5.mono B4.out.size)
        have G5 := Lib.hid (G4.out.at hb5)
        have M5 := Lib.hid (sts_below M4.out hb5)
        clear hb5 B4 G4 M4
        obtain ⟨vo, cso, he2, oo, ro⟩ := he
        subst he2
        have O5 := Lib.hid (stsIs_of_owns oo ro)
        obtain ⟨ao, co, rfl, _⟩ := Own.shape (l := m) ⟨oo, ro⟩
        clear oo ro
        go_wp2_with fail
        refine (sameSts m _ _ _ M5.out O5.out).mono ?_
        rintro e w6 ⟨rfl, hg6⟩
        have B6 : Hid (Below w.heap.size w w6) := B5.out.trans ((below_still hg6).mono B5.out.size)
        have G6 := Lib.hid (G5.out.at (below_still hg6))
        clear hg6 B5 G5 M5 O5
        go_wp2_with fail
        refine (known23_any _ G6.out).mono ?_
        rintro e w7 ⟨rfl, hb7⟩
        have B7 : Hid (Below w.heap.size w w7) := B6.out.trans (hb7.mono B6.out.size)
        clear hb7 B6 G6
        go_wp2
        go_ret
        exact ⟨rfl, B7.out⟩
  | some t =>
    subst he
    obtain ⟨hp1, hp2⟩ := printS_parse hR
    have HT : Hid ((bs t).data.toList = t ∧ (bs t).size ≤ maxLen) := ⟨rfl, by rw [bs_size]; unfold maxLen; omega⟩
    have HP1 := Lib.hid hp1
    have HR := Lib.hid hR
    clear hR hp1 hp2
    go_wp2_with fail
    refine (parse_is t _ _ w2 HT.out HP1.out G2.out).mono ?_
    rintro e w3 ⟨he, hb3⟩
    have B3 : Hid (Below w.heap.size w w3) := B2.out.trans (hb3.mono B2.out.size)
    have G3 := Lib.hid (G2.out.at hb3)
    have H3 := Lib.hid (sts_below H2.out hb3)
    clear hb3 B2 G2 H2
    obtain ⟨vn, csn, he2, on, rn⟩ := he
    subst he2
    have N3 := Lib.hid (stsIs_of_owns on rn)
    obtain ⟨an, cn, rfl, _⟩ := Own.shape (l := l) ⟨on, rn⟩
    clear on rn
    go_wp2_with fail
    refine (print_at l _ _ HP.out N3.out G3.out).mono ?_
    rintro e w4 ⟨he, hb4⟩
    have B4 : Hid (Below w.heap.size w w4) := B3.out.trans (hb4.mono B3.out.size)
    have G4 := Lib.hid (G3.out.at hb4)
    have H4 := Lib.hid (sts_below H3.out hb4)
    have N4 := Lib.hid (sts_below N3.out hb4)
    clear hb4 B3 G3 H3 N3
    rw [HR.out] at he
    unfold printE at he
    subst he
    have hne : ((bs t).toList != (bs t).toList) = false := by simp
    go_wp2_with fail
    refine (sameSts l _ _ _ H4.out N4.out).mono ?_
    rintro e w5 ⟨rfl, hg5⟩
    have B5 : Hid (Below w.heap.size w w5) := B4.out.trans ((below_still hg5).mono B4.out.size)
    have G5 := Lib.hid (G4.out.at (below_still hg5))
    have N5 := Lib.hid (N4.out.still hg5)
    clear hg5 B4 G4 N4 H4
    go_wp2_with fail
    refine (right_at l _ _ HP.out N5.out G5.out).mono ?_
    rintro e w6 ⟨he, hb6⟩
    have B6 : Hid (Below w.heap.size w w6) := B5.out.trans (hb6.mono B5.out.size)
    have G6 := Lib.hid (G5.out.at hb6)
    clear hb6 B5 G5  N5
    rw [HR.out] at he
    have he2 : e = .returned (.bool true) := he
    subst he2
    clear he hne
    go_wp2_with fail
    refine (parse_any _ _ HM.out G6.out).mono ?_
    rintro e w7 ⟨he, hb7⟩
    have B7 : Hid (Below w.heap.size w w7) := B6.out.trans (hb7.mono B6.out.size)
    have G7 := Lib.hid (G6.out.at hb7)
    clear hb7 B6 G6
    obtain ⟨Q, hQ⟩ : ∃ Q, parseS s.data.toList = Q := ⟨_, rfl⟩
    rw [hQ] at he
    cases Q with
    | error k =>
      have he' : e = .returned (.tuple #[.slice none 0 0, .int .i64 k, .int .i64 21]) := he
      subst he'
      clear he hQ
      go_wp2_with fail
      refine (known23_any _ G7.out).mono ?_
      rintro e w8 ⟨rfl, hb8⟩
      have B8 : Hid (Below w.heap.size w w8) := B7.out.trans (hb8.mono B7.out.size)
      clear hb8 B7 G7
      go_wp2
      go_ret
      exact ⟨rfl, B8.out⟩
    | ok m =>
      obtain ⟨vm, csm, he2, om, rm⟩ := he
      subst he2
      have M7 := Lib.hid (stsIs_of_owns om rm)
      obtain ⟨am, cm, rfl, _⟩ := Own.shape (l := m) ⟨om, rm⟩
      have HQ := Lib.hid hQ
      have HPM := Lib.hid (prints_parsed hQ)
      clear om rm hQ
      go_wp2_with fail
      refine (print_at m _ _ HPM.out M7.out G7.out).mono ?_
      rintro e w8 ⟨he, hb8⟩
      have B8 : Hid (Below w.heap.size w w8) := B7.out.trans (hb8.mono B7.out.size)
      have G8 := Lib.hid (G7.out.at hb8)
      have M8 := Lib.hid (sts_below M7.out hb8)
      clear hb8 B7 G7 M7
      obtain ⟨P, hP⟩ : ∃ P, printS m = P := ⟨_, rfl⟩
      rw [hP] at he
      unfold printE at he
      cases P with
      | none =>
        subst he
        have hlong : 5000 < s.size := by
          rcases Nat.lt_or_ge 5000 s.size with h | h
          · exact h
          · have := printS_of_parse HQ.out (by rw [← Lib.size_eq]; exact h)
            rw [hP] at this; cases this
        clear hP
        go_wp2
        go_ret
        exact ⟨rfl, B8.out⟩
      | some t2 =>
        subst he
        obtain ⟨hp1, hp2⟩ := printS_parse hP
        have HT2 : Hid ((bs t2).data.toList = t2 ∧ (bs t2).size ≤ maxLen) := ⟨rfl, by rw [bs_size]; unfold maxLen; omega⟩
        have HP2 := Lib.hid hp1
        clear hP hp1 hp2
        go_wp2_with fail
        refine (parse_is t2 _ _ w8 HT2.out HP2.out G8.out).mono ?_
        rintro e w9 ⟨he, hb9⟩
        have B9 : Hid (Below w.heap.size w w9) := B8.out.trans (hb9.mono B8.out.size)
        have G9 := Lib.hid (G8.out.at hb9)
        have M9 := Lib.hid (sts_below M8.out hb9)
        clear hb9 B8 G8 M8
        obtain ⟨vo, cso, he2, oo, ro⟩ := he
        subst he2
        have O9 := Lib.hid (stsIs_of_owns oo ro)
        obtain ⟨ao, co, rfl, _⟩ := Own.shape (l := m) ⟨oo, ro⟩
        clear oo ro
        go_wp2_with fail
        refine (sameSts m _ _ _ M9.out O9.out).mono ?_
        rintro e w10 ⟨rfl, hg10⟩
        have B10 : Hid (Below w.heap.size w w10) := B9.out.trans ((below_still hg10).mono B9.out.size)
        have G10 := Lib.hid (G9.out.at (below_still hg10))
        clear hg10 B9 G9 M9 O9
        go_wp2_with fail
        refine (known23_any _ G10.out).mono ?_
        rintro e w11 ⟨rfl, hb11⟩
        have B11 : Hid (Below w.heap.size w w11) := B10.out.trans (hb11.mono B10.out.size)
        clear hb11 B10 G10
        go_wp2
        go_ret
        exact ⟨rfl, B11.out⟩
end

section
open Go Go.ChangeShapes Go.WideShapes Go.ChangeAt Go.WideMaps Go.WideElems Go.RowKit

theorem prints_of {l : List St} {n : Nat} (h : ∀ x ∈ l, (Rng x.n ∧ Rng x.d ∧ Rng x.k) ∧ (lineP x).length ≤ 14 * n + 100) (hn : n ≤ 1048576) : Prints l :=
  ⟨fun x hx => lineC_any x (h x hx).1, fun x hx => by have := (h x hx).2; omega⟩

theorem deckBack_spec {H : Type} {enc : TypeId × Value → H} {W : World} {vs : List Value} {ds : List (DataW H)} {p : List MemPlace} {sp : Nat → Bool}
    (hA : DataW.TrodAll enc Tryd.prog W 0 sp true Tryd.f10.params.toList vs ds p) : Rows.deckBackSpec.fn H (ds ++ []) = { results := [.lit (.bool true)], args := ds } := by
  rw [Tryd.params10] at hA
  obtain ⟨v, vs', d, ds', p, q, rfl, rfl, rfl, h1, h2⟩ := trodAll_cons hA
  obtain ⟨v, vs', d, ds', p, q, rfl, rfl, rfl, h3, h4⟩ := trodAll_cons h2
  obtain ⟨rfl, rfl, rfl⟩ := trodAll_nil h4
  rfl

set_option maxRecDepth 100000 in
theorem deckBack_calls {H : Type} {enc : TypeId × Value → H} (W : World) (base : Nat) (args : Array Value) (ds : List (DataW H)) (p : List MemPlace) (hg : Good W)
    (hval : ∀ (j : Nat) t v, Tryd.f10.params[j]? = some t → args[j]? = some v → Value.okWide Tryd.prog W .any base t v)
    (hA : DataW.TrodAll enc Tryd.prog W 0 (fun _ => true) true Tryd.f10.params.toList args.toList ds p) (hk : Rows.uptoBulkAll ds ≤ 1048576) :
    Calls Tryd.prog 10 args W fun e w' => e = .returned (.bool true) ∧ Below W.heap.size W w' := by
  rw [Tryd.params10] at hA hval
  obtain ⟨v0, v1, d0, d1, p0, p1, rfl, rfl, rfl, h0, h1⟩ := trodAll_two hA
  obtain ⟨l, hl, hb⟩ := open_sts (hval 0 38 v0 rfl rfl) h0
  obtain ⟨s, rfl, _, _, hs⟩ := ChangeMaps.open_string Tryd.underlying9 (hval 1 9 v1 rfl rfl) h1
  have hk0 : Rows.uptoBulk d0 ≤ 1048576 := Nat.le_trans (bulk_mem (by simp)) hk
  exact deckBack_any l v0 s W hs (prints_of hb hk0) hl hg
end
end Go.Proofs.YtgnjaneddidbbaaDoor
