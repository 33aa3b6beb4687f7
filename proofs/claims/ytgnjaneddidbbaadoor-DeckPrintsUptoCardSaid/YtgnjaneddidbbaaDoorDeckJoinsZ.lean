/-
  DeckJoins: the call returns true, whatever the strings.
-/
import Derived.Test.YtgnjaneddidbbaaDoorGroundZ
import Derived.Test.YtgnjaneddidbbaaDoorLnBZ
import Derived.Test.YtgnjaneddidbbaaDoorSameStsZ
namespace Go.Proofs.YtgnjaneddidbbaaDoor
section
open Go Go.RowKit

theorem StRow.app {ok : Nat → Prop} {w : World} {m : List St} {cm : List Value} (hm : StRow ok w m cm) : ∀ {l : List St} {cs : List Value}, StRow ok w l cs → StRow ok w (l ++ m) (cs ++ cm)
  | [], _, h => by rw [show _ = [] from h]; exact hm
  | _ :: _, _, ⟨A, B, rest, h1, h2, h3, h4⟩ => ⟨A, B, rest ++ cm, by rw [h1, List.append_assoc], h2, h3, StRow.app hm h4⟩
theorem StRow.length {ok : Nat → Prop} {w : World} : ∀ {l : List St} {cs : List Value}, StRow ok w l cs → cs.length = l.length * 13
  | [], _, h => by rw [show _ = [] from h]; rfl
  | _ :: _, _, ⟨A, B, rest, h1, _, _, h4⟩ => by rw [h1, List.length_append, stCells_length, StRow.length h4, List.length_cons]; omega
theorem StRow.one {ok : Nat → Prop} {w : World} : ∀ {l : List St} {cs : List Value}, StRow ok w l cs → ∀ u ∈ cs, u.oneCell' = true
  | [], _, h => by rw [show _ = [] from h]; intro u hu; cases hu
  | x :: _, _, ⟨A, B, rest, h1, _, _, h4⟩ => by
    rw [h1]
    intro u hu
    rcases List.mem_append.1 hu with hu | hu
    · exact stCells_one x A B u hu
    · exact StRow.one h4 u hu

theorem StRow.take {ok : Nat → Prop} {w : World} : ∀ {l : List St} {cs : List Value} (n : Nat), StRow ok w l cs → StRow ok w (l.take n) (cs.take (n * 13))
  | [], _, n, h => by rw [show _ = [] from h]; simp [StRow]
  | x :: l, _, 0, _ => by simp [StRow]
  | x :: l, _, n + 1, ⟨A, B, rest, h1, h2, h3, h4⟩ => by
    refine ⟨A, B, rest.take (n * 13), ?_, h2, h3, StRow.take n h4⟩
    rw [h1, show (n + 1) * 13 = (stCells x A B).length + n * 13 by rw [stCells_length]; omega, List.take_length_add_append]
/-- The first statements of a row. -/
theorem StsIs.first {w : World} {a : Option Addr} {c : Nat} {l : List St} (h : StsIs w (.slice a l.length c) l) (n : Nat) (hn : n ≤ l.length) : StsIs w (.slice a n c) (l.take n) := by
  obtain ⟨h1, a', c', e, h2⟩ := h
  cases e
  have hlen : (l.take n).length = n := by rw [List.length_take]; omega
  refine ⟨by omega, a, c, by rw [hlen], ?_⟩
  rcases h2 with rfl | ⟨g, o, rfl, hg, cs, hc, hr⟩
  · exact .inl (by simp)
  · refine .inr ⟨g, o, rfl, hg, cs.take (n * 13), fun j u hu => hc j u ?_, hr.take n⟩
    rw [List.getElem?_take] at hu
    split at hu
    · exact hu
    · cases hu

/-- Statements of a call's own, in a later world. -/
structure Own (w : World) (B : Nat) (v : Value) (l : List St) (cs : List Value) : Prop where
  own : w.ownsRow B 73 13 v l.length cs
  row : StRow Any w l cs

theorem Own.sts {w : World} {B : Nat} {v : Value} {l : List St} {cs : List Value} (h : Own w B v l cs) : StsIs w v l := stsIs_of_owns h.own h.row
theorem Own.later {w w' : World} {B : Nat} {v : Value} {l : List St} {cs : List Value} (h : Own w B v l cs) (hb : Below w.heap.size w w') : Own w' B v l cs :=
  ⟨owns_below h.own hb, h.row.kept hb.size (fun g hg ho => ⟨hb.block g hg, ho⟩)⟩

set_option maxHeartbeats 2000000 in
set_option maxRecDepth 100000 in
/-- One is too long. -/
theorem joins_long (s t : ByteArray) (cut : Int) (w : World) (hs : 2000 < s.size ∨ 2000 < t.size) (hg : Good w) :
    Calls Tryd.prog 7 #[.string s, .string t, .int .i64 cut] w fun e w' => e = .returned (.bool true) ∧ Below w.heap.size w w' := by
  have HG := Lib.hid hg
  clear hg
  by_cases h1 : 2000 < s.size
  · clear hs
    go_enter Tryd.func7, Tryd.ntmps7
    go_wp2_with fail
    refine (known23_any _ HG.out).mono ?_
    rintro e w3 ⟨rfl, hb3⟩
    go_wp2
    go_ret
    exact ⟨rfl, hb3⟩
  · have h2 : 2000 < t.size := by omega
    clear hs
    go_enter Tryd.func7, Tryd.ntmps7
    go_wp2_with fail
    refine (known23_any _ HG.out).mono ?_
    rintro e w3 ⟨rfl, hb3⟩
    go_wp2
    go_ret
    exact ⟨rfl, hb3⟩

set_option maxHeartbeats 2000000 in
set_option maxRecDepth 100000 in
/-- One is no deck. -/
theorem joins_none (s t : ByteArray) (cut : Int) (w : World) (h1 : ¬ 2000 < s.size) (h2 : ¬ 2000 < t.size) (R Q : Except Int (List St)) (HR : Hid (parseS s.data.toList = R)) (HQ : Hid (parseS t.data.toList = Q)) (hn : (∃ k, R = .error k) ∨ ∃ k, Q = .error k) (hg : Good w) :
    Calls Tryd.prog 7 #[.string s, .string t, .int .i64 cut] w fun e w' => e = .returned (.bool true) ∧ Below w.heap.size w w' := by
  have HM : Hid (s.size ≤ maxLen ∧ t.size ≤ maxLen) := by show _ ∧ _; unfold maxLen; omega
  have HG := Lib.hid hg
  clear hg
  go_enter Tryd.func7, Tryd.ntmps7
  go_wp2_with fail
  refine (parse_any _ _ HM.out.1 HG.out).mono ?_
  rintro e w1 ⟨h3, hb1⟩
  have G1 := Lib.hid (HG.out.at hb1)
  have B1 := Lib.hid hb1
  rw [HR.out] at h3
  clear hb1 HG
  cases R with
  | error k =>
    have h1' : e = .returned (.tuple #[.slice none 0 0, .int .i64 k, .int .i64 21]) := h3
    subst h1'
    clear h3 hn
    go_wp2_with fail
    refine (parse_any _ _ HM.out.2 G1.out).mono ?_
    rintro e w2 ⟨h3, hb2⟩
    have G2 := Lib.hid (G1.out.at hb2)
    have B2 : Hid (Below w.heap.size w w2) := B1.out.trans (hb2.mono B1.out.size)
    rw [HQ.out] at h3
    clear hb2 G1 B1
    cases Q with
    | error q =>
      have h1' : e = .returned (.tuple #[.slice none 0 0, .int .i64 q, .int .i64 21]) := h3
      subst h1'
      clear h3
      go_wp2_with fail
      refine (known23_any _ G2.out).mono ?_
      rintro e w3 ⟨rfl, hb3⟩
      have G3 := Lib.hid (G2.out.at hb3)
      have B3 : Hid (Below w.heap.size w w3) := B2.out.trans (hb3.mono B2.out.size)
      clear hb3 B2 G2
      go_wp2_with fail
      refine (known23_any _ G3.out).mono ?_
      rintro e w4 ⟨rfl, hb4⟩
      have B4 : Hid (Below w.heap.size w w4) := B3.out.trans (hb4.mono B3.out.size)
      clear hb4 B3 G3
      go_wp2
      go_ret
      exact ⟨rfl, B4.out⟩
    | ok m =>
      obtain ⟨v2, cs2, he2, _, _⟩ := h3
      subst he2
      go_wp2_with fail
      refine (known23_any _ G2.out).mono ?_
      rintro e w3 ⟨rfl, hb3⟩
      have G3 := Lib.hid (G2.out.at hb3)
      have B3 : Hid (Below w.heap.size w w3) := B2.out.trans (hb3.mono B2.out.size)
      clear hb3 B2 G2
      go_wp2_with fail
      refine (known23_any _ G3.out).mono ?_
      rintro e w4 ⟨rfl, hb4⟩
      have B4 : Hid (Below w.heap.size w w4) := B3.out.trans (hb4.mono B3.out.size)
      clear hb4 B3 G3
      go_wp2
      go_ret
      exact ⟨rfl, B4.out⟩
  | ok l =>
    obtain ⟨q, rfl⟩ : ∃ k, Q = .error k := by
      rcases hn with ⟨k, e⟩ | h
      · cases e
      · exact h
    obtain ⟨v1, cs1, he1, _, _⟩ := h3
    subst he1
    clear hn
    go_wp2_with fail
    refine (parse_any _ _ HM.out.2 G1.out).mono ?_
    rintro e w2 ⟨h3, hb2⟩
    have G2 := Lib.hid (G1.out.at hb2)
    have B2 : Hid (Below w.heap.size w w2) := B1.out.trans (hb2.mono B1.out.size)
    rw [HQ.out] at h3
    have h1' : e = .returned (.tuple #[.slice none 0 0, .int .i64 q, .int .i64 21]) := h3
    subst h1'
    clear h3 hb2 G1 B1
    go_wp2_with fail
    refine (known23_any _ G2.out).mono ?_
    rintro e w3 ⟨rfl, hb3⟩
    have G3 := Lib.hid (G2.out.at hb3)
    have B3 : Hid (Below w.heap.size w w3) := B2.out.trans (hb3.mono B2.out.size)
    clear hb3 B2 G2
    go_wp2_with fail
    refine (known23_any _ G3.out).mono ?_
    rintro e w4 ⟨rfl, hb4⟩
    have B4 : Hid (Below w.heap.size w w4) := B3.out.trans (hb4.mono B3.out.size)
    clear hb4 B3 G3
    go_wp2
    go_ret
    exact ⟨rfl, B4.out⟩

theorem wpList_wanted {P : Program} {ops : Array Oper} {Q : Exit → Act → World → Prop} {a : Act} {w : World} {rest : List Oper} {o : Oper} (hw : Region.wanted o (yielded ops a.tmps) = true)
    (h : ∀ K : Act → World → Prop, (∀ a w, wpList P ops Q rest a w → K a w) → o.wp P a w K Q) : wpList P ops Q (o :: rest) a w :=
  wpList_step fun K hK => by simp only [hw, if_true]; exact h K hK

/-- 'append(own, xs...)' under a guard that is met; xs nil or not. -/
theorem wpList_append_g {P : Program} (w : World) {ops : Array Oper} {rest : List Oper} {o : Oper} {a : Act} {Q : Exit → Act → World → Prop} (hw : Region.wanted o (yielded ops a.tmps) = true) (s x : Operand) (t : TypeId)
    (ho : o.op = .call { callee := .builtin .append, args := #[s, x], argTypes := #[t, t] })
    (base : Nat) (e : TypeId) (i : TypeInfo) (z : Value) (size bytes : Nat) (ht : P.underlying t = some (.slice e)) (hi : P.info? e = some i) (hz : i.zero = some z)
    (hsize : i.size = size) (hby : i.bytes = bytes) (hzs : z.cells.size = size) (hsz : 0 < size)
    (v : Value) (n : Nat) (xs : List Value) (hs : a.eval s = v) (hown : w.ownsRow base e size v n xs)
    (xv : Value) (m : Nat) (news : List Value) (hx : a.eval x = xv) (hsrc : (xv = .slice none 0 0 ∧ m = 0 ∧ news = []) ∨ ∃ ad c, xv = .slice (some ad) m c ∧ ∀ j u, news[j]? = some u → w.cell? (ad.add j) = some u) (hl : news.length = m * size) (h1 : ∀ u ∈ news, u.oneCell' = true)
    (h63 : n + m ≤ maxLen) (hbytes : (n + m) * bytes ≤ 140737488355328) (hbase : base ≤ w.heap.size)
    (h : ∀ v' w', w'.ownsRow base e size v' (n + m) (xs ++ news) → w.grownBy w' v.ownBlock → wpList P ops Q rest (a.put o.dst v') w') : wpList P ops Q (o :: rest) a w := by
  rcases hsrc with ⟨rfl, rfl, rfl⟩ | ⟨ad, c, rfl, hc⟩
  · refine wpList_wanted hw fun K hK => ?_
    have hrun := run_append_owned_none (P := P) (w := w) base t o.type e i size ht hi v n xs hown
    unfold Oper.wp
    simp [execOp, ho, resolve, invoke, builtin, hs, hx, hrun, Result.andThen]
    exact hK _ _ (h v w (by simpa using hown) ⟨rfl, rfl, rfl, Nat.le_refl _, fun _ _ _ => rfl⟩)
  · exact wpList_wanted hw fun _ hK => wp_append_own w s x t ho base e i z size bytes ht hi hz hsize hby hzs hsz v n xs hs hown ad m c news hx hl hc h1 h63 hbytes hbase fun v' w' h2 h3 _ => hK _ _ (h v' w' h2 h3)

theorem owns_fresh (w : World) {B : Nat} (hB : B ≤ w.heap.size) : (w.alloc (.cells #[] 73)).ownsRow B 73 13 (.slice (some ⟨w.heap.size, 0, none⟩) 0 0) 0 [] :=
  ⟨rfl, .inr ⟨w.heap.size, 0, #[], rfl, hB, (MapKept.heap_alloc w _).1, Nat.le_refl _, Nat.zero_le _, rfl, rfl⟩⟩

theorem u64_small (n : Int) (h0 : 0 ≤ n) (h1 : n ≤ 1000000) : IntKind.u64.wrap n = n := by
  show n % 18446744073709551616 = n
  omega
theorem u64_nonneg (n : Int) : 0 ≤ IntKind.u64.wrap n := by
  show 0 ≤ n % 18446744073709551616
  omega
theorem cut_at (cut : Int) (N : Nat) (h0 : N ≠ 0) (h1 : N ≤ 1000000) : ∃ q : Nat, wrap64 ((IntKind.u64.wrap cut).tmod (IntKind.u64.wrap (N : Int))) = q ∧ q < N := by
  have h := u64_nonneg cut
  rw [u64_small (N : Int) (by omega) (by omega), Int.tmod_eq_emod_of_nonneg h]
  have h2 := Int.emod_nonneg (IntKind.u64.wrap cut) (show (N : Int) ≠ 0 by omega)
  have h3 := Int.emod_lt_of_pos (IntKind.u64.wrap cut) (show (0 : Int) < N by omega)
  generalize IntKind.u64.wrap cut % (N : Int) = x at *
  refine ⟨x.toNat, ?_, by omega⟩
  unfold wrap64
  omega

theorem add_at (g j : Nat) : (⟨g, 0, none⟩ : Addr).add j = ⟨g, j, none⟩ := by
  unfold Addr.add
  split
  · rename_i h; subst h; rfl
  · simp

/-- A row of a call's own as a source. -/
theorem Own.src {w : World} {B : Nat} {v : Value} {l : List St} {cs : List Value} (h : Own w B v l cs) {w' : World} (hb : ∀ g, g < w.heap.size → w'.heap[g]? = w.heap[g]?) :
    (v = .slice none 0 0 ∧ l.length = 0 ∧ cs = []) ∨ ∃ ad c, v = .slice (some ad) l.length c ∧ ∀ j u, cs[j]? = some u → w'.cell? (ad.add j) = some u := by
  have hlt := h.own.lt
  have hcs := fun g hg => h.own.cells (g := g) hg
  obtain ⟨hlen, ⟨h0, hn⟩ | ⟨g, cap, cur, rfl, _⟩⟩ := h.own
  · exact .inl ⟨h0, hn, List.length_eq_zero_iff.1 (by rw [hlen, hn, Nat.zero_mul])⟩
  · refine .inr ⟨_, cap, rfl, fun j u hu => ?_⟩
    have h1 := hcs g rfl j u hu
    rw [add_at] at h1 ⊢
    exact (World.cell?_of_block (a := ⟨g, j, none⟩) (hb g (hlt g rfl).2)).trans h1

theorem Own.shape {w : World} {B : Nat} {v : Value} {l : List St} {cs : List Value} (h : Own w B v l cs) : ∃ a c, v = .slice a l.length c ∧ l.length ≤ c := by
  obtain ⟨_, ⟨h0, hn⟩ | ⟨g, cap, cur, rfl, _, _, hc, _⟩⟩ := h.own
  · exact ⟨none, 0, by rw [h0, hn], by omega⟩
  · exact ⟨_, cap, rfl, hc⟩

set_option maxHeartbeats 2000000 in
set_option maxRecDepth 100000 in
/-- Both are decks. -/
theorem joins_both (s t : ByteArray) (cut : Int) (w : World) (h1 : ¬ 2000 < s.size) (h2 : ¬ 2000 < t.size) (l m : List St) (HR : Hid (parseS s.data.toList = .ok l)) (HQ : Hid (parseS t.data.toList = .ok m)) (hg : Good w) :
    Calls Tryd.prog 7 #[.string s, .string t, .int .i64 cut] w fun e w' => e = .returned (.bool true) ∧ Below w.heap.size w w' := by
  have HM : Hid (s.size ≤ maxLen ∧ t.size ≤ maxLen) := by show _ ∧ _; unfold maxLen; omega
  have HJ : Hid (parseS (((s ++ ⟨#[10]⟩) ++ t)).data.toList = .ok (l ++ m) ∧ ((s ++ ⟨#[10]⟩) ++ t).size ≤ maxLen) := by
    refine ⟨?_, ?_⟩
    · rw [Joins.data_append, Joins.data_append, List.append_assoc]
      show parseS (s.data.toList ++ 10 :: t.data.toList) = _
      exact parse_join HR.out HQ.out (by rw [← Lib.size_eq, ← Lib.size_eq]; omega)
    · rw [ByteArray.size_append, ByteArray.size_append]
      have h3 : ∀ p : Nat, p = 1 → s.size + p + t.size ≤ maxLen := by intro p hp; unfold maxLen; omega
      exact h3 _ rfl
  have HC : Hid (6 * l.length ≤ 2000 ∧ 6 * m.length ≤ 2000) := by
    have a1 := (parse_size HR.out).2
    have a2 := (parse_size HQ.out).2
    rw [← Lib.size_eq] at a1 a2
    exact ⟨by omega, by omega⟩
  have HG := Lib.hid hg
  clear hg
  go_enter Tryd.func7, Tryd.ntmps7
  go_wp2_with fail
  refine (parse_any _ _ HM.out.1 HG.out).mono ?_
  rintro e w1 ⟨h3, hb1⟩
  have G1 := Lib.hid (HG.out.at hb1)
  have B1 := Lib.hid hb1
  rw [HR.out] at h3
  obtain ⟨v1, cs1, he1, o1, r1⟩ := h3
  subst he1
  have O1 : Hid (Own w1 w.heap.size v1 l cs1) := ⟨o1, r1⟩
  clear hb1 HG o1 r1
  go_wp2_with fail
  refine (parse_any _ _ HM.out.2 G1.out).mono ?_
  rintro e w2 ⟨h3, hb2⟩
  have G2 := Lib.hid (G1.out.at hb2)
  have B2 : Hid (Below w.heap.size w w2) := B1.out.trans (hb2.mono B1.out.size)
  have P2 : Hid (Own w2 w.heap.size v1 l cs1) := O1.out.later hb2
  rw [HQ.out] at h3
  obtain ⟨v2, cs2, he2, o2, r2⟩ := h3
  subst he2
  have O2 : Hid (Own w2 w1.heap.size v2 m cs2) := ⟨o2, r2⟩
  clear hb2 G1 B1 O1 o2 r2
  go_wp2_with fail
  refine (known23_any _ G2.out).mono ?_
  rintro e w3 ⟨rfl, hb3⟩
  have G3 := Lib.hid (G2.out.at hb3)
  have B3 : Hid (Below w.heap.size w w3) := B2.out.trans (hb3.mono B2.out.size)
  have P3 : Hid (Own w3 w.heap.size v1 l cs1) := P2.out.later hb3
  have O3 : Hid (Own w3 w1.heap.size v2 m cs2) := O2.out.later hb3
  clear hb3 B2 G2 P2 O2
  go_wp2_with fail
  refine (parse_any _ _ HJ.out.2 G3.out).mono ?_
  rintro e w4 ⟨h3, hb4⟩
  have G4 := Lib.hid (G3.out.at hb4)
  have B4 : Hid (Below w.heap.size w w4) := B3.out.trans (hb4.mono B3.out.size)
  have P4 : Hid (Own w4 w.heap.size v1 l cs1) := P3.out.later hb4
  have O4 : Hid (Own w4 w1.heap.size v2 m cs2) := O3.out.later hb4
  rw [HJ.out.1] at h3
  obtain ⟨v3, cs3, he3, o3, r3⟩ := h3
  subst he3
  have J4 : Hid (Own w4 w3.heap.size v3 (l ++ m) cs3) := ⟨o3, r3⟩
  clear hb4 B3 G3 P3 O3 o3 r3
  obtain ⟨i0, hi, hz0, hz1, hz2⟩ := info_parts info73
  have HL : Hid (cs1.length = l.length * 13 ∧ (∀ u ∈ cs1, u.oneCell' = true) ∧ cs2.length = m.length * 13 ∧ ∀ u ∈ cs2, u.oneCell' = true) := ⟨P4.out.row.length, P4.out.row.one, O4.out.row.length, O4.out.row.one⟩
  have HF := Lib.hid (owns_fresh w4 (Nat.le_refl _))
  have HS1 := Lib.hid (P4.out.src (w' := w4.alloc (.cells #[] 73)) (fun g hg => Below.heap_alloc w4 _ g hg))
  go_wp2_with (at_builtin; refine wpList_append_g _ (by rfl) _ _ 38 (by rfl) w4.heap.size 73 i0 _ 13 160 Tryd.underlying38 hi hz0 hz1 hz2 (by rfl) (by decide) _ _ _ (by rfl) HF.out _ l.length cs1 (by rfl) HS1.out HL.out.1 HL.out.2.1 (by have := HC.out; unfold maxLen; omega) (by have := HC.out; omega) (by simp) ?_)
  intro v5 w5 hown5 hgrow5
  have B5 : Hid (Below w4.heap.size w4 w5) := ((Below.refl w4.heap.size w4).alloc (Nat.le_refl _) _).grown hgrow5 (by simp) (fun k e => by cases e; exact Nat.le_refl _)
  have HS2 := Lib.hid (O4.out.src (w' := w5) (fun g hg => B5.out.block g hg))
  have HOWN5 := Lib.hid hown5
  clear hgrow5 hown5 HF HS1
  go_wp2_with (at_builtin; refine wpList_append_g _ (by rfl) _ _ 38 (by rfl) w4.heap.size 73 i0 _ 13 160 Tryd.underlying38 hi hz0 hz1 hz2 (by rfl) (by decide) _ _ _ (by rfl) HOWN5.out _ m.length cs2 (by rfl) HS2.out HL.out.2.2.1 HL.out.2.2.2 (by have := HC.out; unfold maxLen; omega) (by have := HC.out; omega) B5.out.size ?_)
  intro v6 w6 hown6 hgrow6
  have B6 : Hid (Below w4.heap.size w4 w6) := B5.out.grown hgrow6 B5.out.size (fun k e => (HOWN5.out.lt k e).1)
  have S6 : Hid (StsIs w6 v6 (l ++ m)) := stsIs_of_owns (B := w4.heap.size) (cs := cs1 ++ cs2) (by rw [List.length_append]; simpa using hown6) (StRow.app (O4.out.later B6.out).row (P4.out.later B6.out).row)
  have T6 : Hid (StsIs w6 v3 (l ++ m)) := (J4.out.later B6.out).sts
  have P6 : Hid (Own w6 w.heap.size v1 l cs1) := P4.out.later B6.out
  have G6 := Lib.hid (G4.out.at B6.out)
  have BW6 : Hid (Below w.heap.size w w6) := B4.out.trans (B6.out.mono B4.out.size)
  clear hown6 hgrow6 HOWN5 HS2 B5 B6 J4 P4 O4 G4 B4 HL HC hi hz0 hz1 hz2
  go_wp2_with fail
  refine (sameSts (l ++ m) _ _ _ T6.out S6.out).mono ?_
  rintro e w7 ⟨rfl, hg7⟩
  have hb7 : Below w6.heap.size w6 w7 := ⟨hg7.os, hg7.tape, hg7.output, hg7.size, fun k hk => hg7.block k hk (by simp)⟩
  have B7 : Hid (Below w.heap.size w w7) := BW6.out.trans (hb7.mono BW6.out.size)
  have G7 := Lib.hid (G6.out.at hb7)
  have P7 : Hid (Own w7 w.heap.size v1 l cs1) := P6.out.later hb7
  clear hg7 hb7 T6 S6 P6 G6 BW6
  obtain ⟨T, hT⟩ : ∃ T, l.flatMap lineP = T := ⟨_, rfl⟩
  have HPR := Lib.hid (printS_of_parse HR.out (by rw [← Lib.size_eq]; omega))
  rw [hT] at HPR
  have HTL : Hid (T.length ≤ 26000) := by have := (parse_size HR.out).1; rw [hT, ← Lib.size_eq] at this; show _ ≤ _; omega
  have HPP := Lib.hid (fun v w => print_parsed (s := s.data.toList) l v w HR.out (by rw [← Lib.size_eq]; omega))
  rw [hT] at HPP
  clear hT
  go_wp2_with fail
  refine (HPP.out _ _ P7.out.sts G7.out).mono ?_
  rintro e w8 ⟨rfl, hb8⟩
  have B8 : Hid (Below w.heap.size w w8) := B7.out.trans (hb8.mono B7.out.size)
  have G8 := Lib.hid (G7.out.at hb8)
  have P8 : Hid (Own w8 w.heap.size v1 l cs1) := P7.out.later hb8
  have HSZ : Hid ((bs T).size = T.length) := bs_size _
  clear hb8 HPP P7 G7 B7
  by_cases h0 : (bs T).size = 0
  · go_wp2
    go_ret
    exact ⟨rfl, B8.out⟩
  · obtain ⟨a1, c1, rfl, hc1⟩ := P8.out.shape
    obtain ⟨q, hq, hqn⟩ := cut_at cut (bs T).size h0 (by rw [HSZ.out]; have := HTL.out; omega)
    have HM9 : Hid (((bs T).extract 0 q).data.toList = T.take q ∧ ((bs T).extract 0 q).size ≤ maxLen) := by
      refine ⟨?_, ?_⟩
      · rw [ByteArray.data_extract]
        show ((T.toArray).extract 0 q).toList = _
        simp
      · have := HTL.out
        have := HSZ.out
        rw [ByteArray.size_extract]; unfold maxLen; omega
    have hqn2 : (q : Int) ≤ ((bs T).size : Int) := by omega
    have HLL : Hid ((bs T).size = T.length) := HSZ.out
    have hz : ¬ (IntKind.u64.wrap ((bs T).size : Int) = 0) := by
      rw [u64_small _ (by omega) (by have := HTL.out; have := HLL.out; omega)]
      omega
    clear HSZ
    go_wp2_with fail
    refine (parse_is (T.take q) _ _ w8 HM9.out rfl G8.out).mono ?_
    rintro e w9 ⟨h3, hb9⟩
    have B9 : Hid (Below w.heap.size w w9) := B8.out.trans (hb9.mono B8.out.size)
    have P9 : Hid (Own w9 w.heap.size (.slice a1 l.length c1) l cs1) := P8.out.later hb9
    have HPT : Hid (parseS T = .ok l) := by
      obtain ⟨f1, f2, f3, f4⟩ := (printS_iff l T).1 HPR.out
      show parseS T = .ok l
      rw [f4]
      exact print_back f1 f2 f3
    obtain ⟨R9, hR9⟩ : ∃ R9, parseS (T.take q) = R9 := ⟨_, rfl⟩
    rw [hR9] at h3
    have HR9 := Lib.hid hR9
    clear hb9 B8 P8 G8 hR9
    cases R9 with
    | error k =>
      have h1' : e = .returned (.tuple #[.slice none 0 0, .int .i64 k, .int .i64 21]) := h3
      subst h1'
      have hk : k ≤ (q : Int) := by
        have := (parse_err HR9.out).2
        rw [List.length_take] at this
        omega
      clear h3
      go_wp2
      go_ret
      exact ⟨rfl, B9.out⟩
    | ok part =>
      obtain ⟨v9, cs9, he9, o9, r9⟩ := h3
      subst he9
      obtain ⟨hp1, hp2⟩ := parse_cut HPT.out HR9.out
      have S9 : Hid (StsIs w9 v9 part) := stsIs_of_owns o9 r9
      have U9 : Hid (StsIs w9 (.slice a1 part.length c1) part) := by
        have h := P9.out.sts.first part.length hp1
        rw [hp2] at h
        exact h
      obtain ⟨a9, c9, rfl, _⟩ := Own.shape (l := part) ⟨o9, r9⟩
      clear o9 r9 P9
      have hle : ((part.length : Int) ≤ (l.length : Int)) := by omega
      have hle2 : ((part.length : Int) ≤ (c1 : Int)) := by omega
      have hle3 : part.length ≤ c1 := by omega
      go_wp2_with fail
      refine (sameSts part _ _ _ S9.out (by first | exact U9.out | skip)).mono ?_
      rintro e w10 ⟨rfl, hg10⟩
      have B10 : Hid (Below w.heap.size w w10) := B9.out.grown hg10 B9.out.size (fun k e => by cases e)
      clear hg10 B9
      go_wp2
      go_ret
      exact ⟨rfl, B10.out⟩

theorem deckJoins_any (s t : ByteArray) (cut : Int) (w : World) (hg : Good w) :
    Calls Tryd.prog 7 #[.string s, .string t, .int .i64 cut] w fun e w' => e = .returned (.bool true) ∧ Below w.heap.size w w' := by
  by_cases h1 : 2000 < s.size
  · exact joins_long s t cut w (.inl h1) hg
  · by_cases h2 : 2000 < t.size
    · exact joins_long s t cut w (.inr h2) hg
    · cases hR : parseS s.data.toList with
      | error k => exact joins_none s t cut w h1 h2 _ _ hR rfl (.inl ⟨k, rfl⟩) hg
      | ok l =>
        cases hQ : parseS t.data.toList with
        | error k => exact joins_none s t cut w h1 h2 _ _ hR hQ (.inr ⟨k, rfl⟩) hg
        | ok m => exact joins_both s t cut w h1 h2 l m hR hQ hg
end

section
open Go Go.ChangeShapes Go.WideShapes Go.ChangeAt Go.WideMaps Go.WideElems Go.RowKit

theorem deckJoins_spec {H : Type} {enc : TypeId × Value → H} {W : World} {vs : List Value} {ds : List (DataW H)} {p : List MemPlace} {sp : Nat → Bool}
    (hA : DataW.TrodAll enc Tryd.prog W 0 sp true Tryd.f7.params.toList vs ds p) : Rows.deckJoinsSpec.fn H (ds ++ []) = { results := [.lit (.bool true)], args := ds } := by
  rw [Tryd.params7] at hA
  obtain ⟨v, vs', d, ds', p, q, rfl, rfl, rfl, h1, h2⟩ := trodAll_cons hA
  obtain ⟨v, vs', d, ds', p, q, rfl, rfl, rfl, h3, h4⟩ := trodAll_cons h2
  obtain ⟨v, vs', d, ds', p, q, rfl, rfl, rfl, h5, h6⟩ := trodAll_cons h4
  obtain ⟨rfl, rfl, rfl⟩ := trodAll_nil h6
  rfl

set_option maxRecDepth 100000 in
theorem deckJoins_calls {H : Type} {enc : TypeId × Value → H} (W : World) (base : Nat) (args : Array Value) (ds : List (DataW H)) (p : List MemPlace) (hg : Good W)
    (hval : ∀ (j : Nat) t v, Tryd.f7.params[j]? = some t → args[j]? = some v → Value.okWide Tryd.prog W .any base t v)
    (hA : DataW.TrodAll enc Tryd.prog W 0 (fun _ => true) true Tryd.f7.params.toList args.toList ds p) :
    Calls Tryd.prog 7 args W fun e w' => e = .returned (.bool true) ∧ Below W.heap.size W w' := by
  rw [Tryd.params7] at hA hval
  obtain ⟨v0, v1, v2, d0, d1, d2, p0, p1, p2, rfl, rfl, rfl, h0, h1, h2⟩ := trodAll_three hA
  obtain ⟨s, rfl, _, _, _⟩ := ChangeMaps.open_string Tryd.underlying9 (hval 0 9 v0 rfl rfl) h0
  obtain ⟨t, rfl, _, _, _⟩ := ChangeMaps.open_string Tryd.underlying9 (hval 1 9 v1 rfl rfl) h1
  obtain ⟨n, rfl, _, _, _⟩ := ChangeShapes.open_int Tryd.underlying3 (hval 2 3 v2 rfl rfl) h2
  exact deckJoins_any s t n W hg
end
end Go.Proofs.YtgnjaneddidbbaaDoor
