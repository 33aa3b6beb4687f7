/-
  deck.text: two that are joined: the walks.
  deck.text, whatever the tree.
-/
import Derived.Test.YtdjklnlkocconaaGreatDoorPrAZ
namespace Go.Proofs.YtdjklnlkocconaaGreatDoor
open Go Go.RowKit

/-- The two parts of a tree in memory. -/
theorem NdIs.two {w : World} {b : Nat} {K k : Int} {S : List UInt8} {x y : Nd} {s : ByteArray} {a : Option Addr} {m c : Nat} (h : NdIs (· < b) w (.mk K S [x, y]) (.agg #[.int .i64 k, .string s, .slice a m c])) :
    m = 2 ∧ ∃ g o v1 v2, a = some ⟨g, o, none⟩ ∧ At3 w g o v1 ∧ NdIs (· < b) w x v1 ∧ At3 w g (o + 3) v2 ∧ NdIs (· < b) w y v2 := by
  unfold NdIs at h
  obtain ⟨a', cap, he, _, h⟩ := h
  cases he
  rcases h with h | ⟨g, o, rfl, _, _, h⟩
  · cases h
  · unfold NdsIs at h
    obtain ⟨⟨v1, h1, h2⟩, h⟩ := h
    unfold NdsIs at h
    obtain ⟨⟨v2, h3, h4⟩, _⟩ := h
    exact ⟨rfl, g, o, v1, v2, rfl, h1, h2, h3, h4⟩
theorem At3.cells {w : World} {g o : Nat} {k : Int} {s : ByteArray} {a : Option Addr} {m c : Nat} (h : At3 w g o (.agg #[.int .i64 k, .string s, .slice a m c])) : w.cell? ⟨g, o, none⟩ = some (.int .i64 k) ∧ w.cell? ⟨g, o + 1, none⟩ = some (.string s) ∧ w.cell? ⟨g, o + 2, none⟩ = some (.slice a m c) := by
  obtain ⟨x, y, z, he, h1, h2, h3⟩ := h
  cases he
  exact ⟨h1, h2, h3⟩

set_option maxHeartbeats 1000000 in
set_option maxRecDepth 100000 in
theorem text_and_bad (b : Nat) (l : List UInt8) (n : Nd) (s : ByteArray) (a : Option Addr) (m c : Nat) (level : Int) (w : World) (h : WB w b l) (hn : NdIs (· < b) w n (.agg #[.int .i64 4, .string s, .slice a m c])) (hm : ((m : Int) == 2) = false) :
    Calls Tryz.prog 85 #[.agg #[.int .i64 4, .string s, .slice a m c], .pointer (some ⟨b, 0, none⟩), .int .i64 level] w fun e w' => e = .returned (.tuple #[]) ∧ WB w' b l ∧ Keeps b w w' := by
  have T0 := Lib.hid (TS.start h hn)
  clear h hn
  obtain ⟨k0, k1, k2, _, _, _⟩ := T0.out.bx.cells
  have hm2 : ((m : Int) != 2) = true := by rw [bne, hm]; rfl
  go_enter Tryz.func85, Tryz.ntmps85
  go_wp2
  first | go_end0 | refine bodyPost_ret (results_none rfl _ _ _) rfl ?_
  exact ⟨rfl, T0.out.wb, T0.out.kp⟩

set_option maxHeartbeats 1000000 in
set_option maxRecDepth 100000 in
theorem text_and_two (b : Nat) (l U : List UInt8) (K : Int) (S : List UInt8) (x y : Nd) (s : ByteArray) (a : Option Addr) (m c : Nat) (level : Int) (w : World) (h : WB w b l) (hn : NdIs (· < b) w (.mk K S [x, y]) (.agg #[.int .i64 4, .string s, .slice a m c])) (hx : TextC x) (hy : TextC y) (hlev : decide ((1 : Int) < level) = false) (hU : Hid (U = textP x 1 ++ [32, 97, 110, 100, 32] ++ textP y 2)) (hl : l.length + U.length ≤ 140737488355328) :
    Calls Tryz.prog 85 #[.agg #[.int .i64 4, .string s, .slice a m c], .pointer (some ⟨b, 0, none⟩), .int .i64 level] w fun e w' => e = .returned (.tuple #[]) ∧ WB w' b (l ++ U) ∧ Keeps b w w' := by
  have T0 := Lib.hid (TS.start h hn)
  obtain ⟨rfl, g, o, v1, v2, rfl, _, q1, _, q2⟩ := hn.two
  obtain ⟨k1, s1, a1, m1, c1, rfl⟩ := q1.agg
  obtain ⟨k2, s2, a2, m2, c2, rfl⟩ := q2.agg
  have HLU : Hid (U.length = (textP x 1).length + 5 + (textP y 2).length) := by
    show _ = _
    rw [hU.out]; simp only [List.length_append]; rfl
  have hlu := HLU.out
  obtain ⟨X, hX⟩ : ∃ X, (textP x 1).length = X := ⟨_, rfl⟩
  obtain ⟨Y, hY⟩ : ∃ Y, (textP y 2).length = Y := ⟨_, rfl⟩
  rw [hX, hY] at hlu
  have HX := Lib.hid hX
  have HY := Lib.hid hY
  have hb : l.length + X + Y + 10 ≤ 140737488355338 := by omega
  have HLu := Lib.hid hlu
  clear h hn q1 q2 hX hY hlu
  obtain ⟨z0, z1, z2, _, _, _⟩ := T0.out.bx.cells
  go_enter Tryz.func85, Tryz.ntmps85
  obtain ⟨_, g', o', u1, u2, he, p1, q1, p2, q2⟩ := T0.out.nd.two
  cases he
  obtain ⟨k1, s1, a1, m1, c1, rfl⟩ := q1.agg
  obtain ⟨y0, y1, y2⟩ := p1.cells
  have q1 := Lib.hid q1
  have q2 := Lib.hid q2
  clear p1 p2
  go_wp2_with fail
  refine (hx 1 b l _ _ T0.out.wb q1.out (by decide) (by decide) (by rw [HX.out]; (try simp only [List.length_append, List.length_cons, List.length_nil]); have := HLu.out; omega)).mono ?_
  rintro e w1 ⟨rfl, hw, hk⟩
  have T1 := Lib.hid (T0.out.next hw hk)
  clear hw hk T0 z0 z1 z2 y0 y1 y2 q1 q2
  obtain ⟨z0, z1, z2, _, _, _⟩ := T1.out.bx.cells
  go_wp2_with fail
  refine (writeString_any b (l ++ textP x 1) (bs [32, 97, 110, 100, 32]) _ T1.out.wb (by simp [bs_size]; rw [HX.out]; have := HLu.out; omega)).mono ?_
  rintro e w2 ⟨⟨v, rfl⟩, hw, hk⟩
  have T2 := Lib.hid (T1.out.next hw hk)
  clear hw hk T1 z0 z1 z2
  obtain ⟨z0, z1, z2, _, _, _⟩ := T2.out.bx.cells
  obtain ⟨_, g', o', u1, u2, he, p1, q1, p2, q2⟩ := T2.out.nd.two
  cases he
  obtain ⟨k2, s2, a2, m2, c2, rfl⟩ := q2.agg
  obtain ⟨y0, y1, y2⟩ := p2.cells
  have q1 := Lib.hid q1
  have q2 := Lib.hid q2
  clear p1 p2
  go_wp2_with fail
  refine (hy 2 b ((l ++ textP x 1) ++ [32, 97, 110, 100, 32]) _ _ T2.out.wb q2.out (by decide) (by decide) (by rw [HY.out]; simp; rw [HX.out]; have := HLu.out; omega)).mono ?_
  rintro e w3 ⟨rfl, hw, hk⟩
  have T3 := Lib.hid (T2.out.next hw hk)
  clear hw hk T2 z0 z1 z2 y0 y1 y2 q1 q2
  obtain ⟨z0, z1, z2, _, _, _⟩ := T3.out.bx.cells
  go_wp2
  first | go_end0 | refine bodyPost_ret (results_none rfl _ _ _) rfl ?_
  refine ⟨rfl, ?_, T3.out.kp⟩
  have e : l ++ U = (((l ++ textP x 1) ++ [32, 97, 110, 100, 32]) ++ textP y 2) := by
    rw [hU.out]; simp only [List.append_assoc]
  rw [e]
  exact T3.out.wb

set_option maxHeartbeats 1000000 in
set_option maxRecDepth 100000 in
theorem text_and_par (b : Nat) (l U : List UInt8) (K : Int) (S : List UInt8) (x y : Nd) (s : ByteArray) (a : Option Addr) (m c : Nat) (level : Int) (w : World) (h : WB w b l) (hn : NdIs (· < b) w (.mk K S [x, y]) (.agg #[.int .i64 4, .string s, .slice a m c])) (hx : TextC x) (hy : TextC y) (hlev : decide ((1 : Int) < level) = true) (hU : Hid (U = [40] ++ textP x 1 ++ [32, 97, 110, 100, 32] ++ textP y 2 ++ [41])) (hl : l.length + U.length ≤ 140737488355328) :
    Calls Tryz.prog 85 #[.agg #[.int .i64 4, .string s, .slice a m c], .pointer (some ⟨b, 0, none⟩), .int .i64 level] w fun e w' => e = .returned (.tuple #[]) ∧ WB w' b (l ++ U) ∧ Keeps b w w' := by
  have T0 := Lib.hid (TS.start h hn)
  obtain ⟨rfl, g, o, v1, v2, rfl, _, q1, _, q2⟩ := hn.two
  obtain ⟨k1, s1, a1, m1, c1, rfl⟩ := q1.agg
  obtain ⟨k2, s2, a2, m2, c2, rfl⟩ := q2.agg
  have HLU : Hid (U.length = 1 + (textP x 1).length + 5 + (textP y 2).length + 1) := by
    show _ = _
    rw [hU.out]; simp only [List.length_append]; rfl
  have hlu := HLU.out
  obtain ⟨X, hX⟩ : ∃ X, (textP x 1).length = X := ⟨_, rfl⟩
  obtain ⟨Y, hY⟩ : ∃ Y, (textP y 2).length = Y := ⟨_, rfl⟩
  rw [hX, hY] at hlu
  have HX := Lib.hid hX
  have HY := Lib.hid hY
  have hb : l.length + X + Y + 10 ≤ 140737488355338 := by omega
  have HLu := Lib.hid hlu
  clear h hn q1 q2 hX hY hlu
  obtain ⟨z0, z1, z2, _, _, _⟩ := T0.out.bx.cells
  go_enter Tryz.func85, Tryz.ntmps85
  go_wp2_with fail
  refine (writeByte_any b l 40 40 _ T0.out.wb rfl (by have := HLu.out; omega)).mono ?_
  rintro e w1 ⟨⟨v, rfl⟩, hw, hk⟩
  have T1 := Lib.hid (T0.out.next hw hk)
  clear hw hk T0 z0 z1 z2
  obtain ⟨z0, z1, z2, _, _, _⟩ := T1.out.bx.cells
  obtain ⟨_, g', o', u1, u2, he, p1, q1, p2, q2⟩ := T1.out.nd.two
  cases he
  obtain ⟨k1, s1, a1, m1, c1, rfl⟩ := q1.agg
  obtain ⟨y0, y1, y2⟩ := p1.cells
  have q1 := Lib.hid q1
  have q2 := Lib.hid q2
  clear p1 p2
  go_wp2_with fail
  refine (hx 1 b (l ++ [40]) _ _ T1.out.wb q1.out (by decide) (by decide) (by rw [HX.out]; (try simp only [List.length_append, List.length_cons, List.length_nil]); have := HLu.out; omega)).mono ?_
  rintro e w2 ⟨rfl, hw, hk⟩
  have T2 := Lib.hid (T1.out.next hw hk)
  clear hw hk T1 z0 z1 z2 y0 y1 y2 q1 q2
  obtain ⟨z0, z1, z2, _, _, _⟩ := T2.out.bx.cells
  go_wp2_with fail
  refine (writeString_any b ((l ++ [40]) ++ textP x 1) (bs [32, 97, 110, 100, 32]) _ T2.out.wb (by simp [bs_size]; rw [HX.out]; have := HLu.out; omega)).mono ?_
  rintro e w3 ⟨⟨v, rfl⟩, hw, hk⟩
  have T3 := Lib.hid (T2.out.next hw hk)
  clear hw hk T2 z0 z1 z2
  obtain ⟨z0, z1, z2, _, _, _⟩ := T3.out.bx.cells
  obtain ⟨_, g', o', u1, u2, he, p1, q1, p2, q2⟩ := T3.out.nd.two
  cases he
  obtain ⟨k2, s2, a2, m2, c2, rfl⟩ := q2.agg
  obtain ⟨y0, y1, y2⟩ := p2.cells
  have q1 := Lib.hid q1
  have q2 := Lib.hid q2
  clear p1 p2
  go_wp2_with fail
  refine (hy 2 b (((l ++ [40]) ++ textP x 1) ++ [32, 97, 110, 100, 32]) _ _ T3.out.wb q2.out (by decide) (by decide) (by rw [HY.out]; simp; rw [HX.out]; have := HLu.out; omega)).mono ?_
  rintro e w4 ⟨rfl, hw, hk⟩
  have T4 := Lib.hid (T3.out.next hw hk)
  clear hw hk T3 z0 z1 z2 y0 y1 y2 q1 q2
  obtain ⟨z0, z1, z2, _, _, _⟩ := T4.out.bx.cells
  go_wp2_with fail
  refine (writeByte_any b ((((l ++ [40]) ++ textP x 1) ++ [32, 97, 110, 100, 32]) ++ textP y 2) 41 41 _ T4.out.wb rfl (by simp; rw [HX.out, HY.out]; have := HLu.out; omega)).mono ?_
  rintro e w5 ⟨⟨v, rfl⟩, hw, hk⟩
  have T5 := Lib.hid (T4.out.next hw hk)
  clear hw hk T4 z0 z1 z2
  go_wp2
  first | go_end0 | refine bodyPost_ret (results_none rfl _ _ _) rfl ?_
  refine ⟨rfl, ?_, T5.out.kp⟩
  have e : l ++ U = (((((l ++ [40]) ++ textP x 1) ++ [32, 97, 110, 100, 32]) ++ textP y 2) ++ [41]) := by
    rw [hU.out]; simp only [List.append_assoc]
  rw [e]
  exact T5.out.wb

set_option maxHeartbeats 1000000 in
set_option maxRecDepth 100000 in
theorem text_or_bad (b : Nat) (l : List UInt8) (n : Nd) (s : ByteArray) (a : Option Addr) (m c : Nat) (level : Int) (w : World) (h : WB w b l) (hn : NdIs (· < b) w n (.agg #[.int .i64 5, .string s, .slice a m c])) (hm : ((m : Int) == 2) = false) :
    Calls Tryz.prog 85 #[.agg #[.int .i64 5, .string s, .slice a m c], .pointer (some ⟨b, 0, none⟩), .int .i64 level] w fun e w' => e = .returned (.tuple #[]) ∧ WB w' b l ∧ Keeps b w w' := by
  have T0 := Lib.hid (TS.start h hn)
  clear h hn
  obtain ⟨k0, k1, k2, _, _, _⟩ := T0.out.bx.cells
  have hm2 : ((m : Int) != 2) = true := by rw [bne, hm]; rfl
  go_enter Tryz.func85, Tryz.ntmps85
  go_wp2
  first | go_end0 | refine bodyPost_ret (results_none rfl _ _ _) rfl ?_
  exact ⟨rfl, T0.out.wb, T0.out.kp⟩

set_option maxHeartbeats 1000000 in
set_option maxRecDepth 100000 in
theorem text_or_two (b : Nat) (l U : List UInt8) (K : Int) (S : List UInt8) (x y : Nd) (s : ByteArray) (a : Option Addr) (m c : Nat) (level : Int) (w : World) (h : WB w b l) (hn : NdIs (· < b) w (.mk K S [x, y]) (.agg #[.int .i64 5, .string s, .slice a m c])) (hx : TextC x) (hy : TextC y) (hlev : decide ((0 : Int) < level) = false) (hU : Hid (U = textP x 0 ++ [32, 111, 114, 32] ++ textP y 1)) (hl : l.length + U.length ≤ 140737488355328) :
    Calls Tryz.prog 85 #[.agg #[.int .i64 5, .string s, .slice a m c], .pointer (some ⟨b, 0, none⟩), .int .i64 level] w fun e w' => e = .returned (.tuple #[]) ∧ WB w' b (l ++ U) ∧ Keeps b w w' := by
  have T0 := Lib.hid (TS.start h hn)
  obtain ⟨rfl, g, o, v1, v2, rfl, _, q1, _, q2⟩ := hn.two
  obtain ⟨k1, s1, a1, m1, c1, rfl⟩ := q1.agg
  obtain ⟨k2, s2, a2, m2, c2, rfl⟩ := q2.agg
  have HLU : Hid (U.length = (textP x 0).length + 4 + (textP y 1).length) := by
    show _ = _
    rw [hU.out]; simp only [List.length_append]; rfl
  have hlu := HLU.out
  obtain ⟨X, hX⟩ : ∃ X, (textP x 0).length = X := ⟨_, rfl⟩
  obtain ⟨Y, hY⟩ : ∃ Y, (textP y 1).length = Y := ⟨_, rfl⟩
  rw [hX, hY] at hlu
  have HX := Lib.hid hX
  have HY := Lib.hid hY
  have hb : l.length + X + Y + 10 ≤ 140737488355338 := by omega
  have HLu := Lib.hid hlu
  clear h hn q1 q2 hX hY hlu
  obtain ⟨z0, z1, z2, _, _, _⟩ := T0.out.bx.cells
  go_enter Tryz.func85, Tryz.ntmps85
  obtain ⟨_, g', o', u1, u2, he, p1, q1, p2, q2⟩ := T0.out.nd.two
  cases he
  obtain ⟨k1, s1, a1, m1, c1, rfl⟩ := q1.agg
  obtain ⟨y0, y1, y2⟩ := p1.cells
  have q1 := Lib.hid q1
  have q2 := Lib.hid q2
  clear p1 p2
  go_wp2_with fail
  refine (hx 0 b l _ _ T0.out.wb q1.out (by decide) (by decide) (by rw [HX.out]; (try simp only [List.length_append, List.length_cons, List.length_nil]); have := HLu.out; omega)).mono ?_
  rintro e w1 ⟨rfl, hw, hk⟩
  have T1 := Lib.hid (T0.out.next hw hk)
  clear hw hk T0 z0 z1 z2 y0 y1 y2 q1 q2
  obtain ⟨z0, z1, z2, _, _, _⟩ := T1.out.bx.cells
  go_wp2_with fail
  refine (writeString_any b (l ++ textP x 0) (bs [32, 111, 114, 32]) _ T1.out.wb (by simp [bs_size]; rw [HX.out]; have := HLu.out; omega)).mono ?_
  rintro e w2 ⟨⟨v, rfl⟩, hw, hk⟩
  have T2 := Lib.hid (T1.out.next hw hk)
  clear hw hk T1 z0 z1 z2
  obtain ⟨z0, z1, z2, _, _, _⟩ := T2.out.bx.cells
  obtain ⟨_, g', o', u1, u2, he, p1, q1, p2, q2⟩ := T2.out.nd.two
  cases he
  obtain ⟨k2, s2, a2, m2, c2, rfl⟩ := q2.agg
  obtain ⟨y0, y1, y2⟩ := p2.cells
  have q1 := Lib.hid q1
  have q2 := Lib.hid q2
  clear p1 p2
  go_wp2_with fail
  refine (hy 1 b ((l ++ textP x 0) ++ [32, 111, 114, 32]) _ _ T2.out.wb q2.out (by decide) (by decide) (by rw [HY.out]; simp; rw [HX.out]; have := HLu.out; omega)).mono ?_
  rintro e w3 ⟨rfl, hw, hk⟩
  have T3 := Lib.hid (T2.out.next hw hk)
  clear hw hk T2 z0 z1 z2 y0 y1 y2 q1 q2
  obtain ⟨z0, z1, z2, _, _, _⟩ := T3.out.bx.cells
  go_wp2
  first | go_end0 | refine bodyPost_ret (results_none rfl _ _ _) rfl ?_
  refine ⟨rfl, ?_, T3.out.kp⟩
  have e : l ++ U = (((l ++ textP x 0) ++ [32, 111, 114, 32]) ++ textP y 1) := by
    rw [hU.out]; simp only [List.append_assoc]
  rw [e]
  exact T3.out.wb

set_option maxHeartbeats 1000000 in
set_option maxRecDepth 100000 in
theorem text_or_par (b : Nat) (l U : List UInt8) (K : Int) (S : List UInt8) (x y : Nd) (s : ByteArray) (a : Option Addr) (m c : Nat) (level : Int) (w : World) (h : WB w b l) (hn : NdIs (· < b) w (.mk K S [x, y]) (.agg #[.int .i64 5, .string s, .slice a m c])) (hx : TextC x) (hy : TextC y) (hlev : decide ((0 : Int) < level) = true) (hU : Hid (U = [40] ++ textP x 0 ++ [32, 111, 114, 32] ++ textP y 1 ++ [41])) (hl : l.length + U.length ≤ 140737488355328) :
    Calls Tryz.prog 85 #[.agg #[.int .i64 5, .string s, .slice a m c], .pointer (some ⟨b, 0, none⟩), .int .i64 level] w fun e w' => e = .returned (.tuple #[]) ∧ WB w' b (l ++ U) ∧ Keeps b w w' := by
  have T0 := Lib.hid (TS.start h hn)
  obtain ⟨rfl, g, o, v1, v2, rfl, _, q1, _, q2⟩ := hn.two
  obtain ⟨k1, s1, a1, m1, c1, rfl⟩ := q1.agg
  obtain ⟨k2, s2, a2, m2, c2, rfl⟩ := q2.agg
  have HLU : Hid (U.length = 1 + (textP x 0).length + 4 + (textP y 1).length + 1) := by
    show _ = _
    rw [hU.out]; simp only [List.length_append]; rfl
  have hlu := HLU.out
  obtain ⟨X, hX⟩ : ∃ X, (textP x 0).length = X := ⟨_, rfl⟩
  obtain ⟨Y, hY⟩ : ∃ Y, (textP y 1).length = Y := ⟨_, rfl⟩
  rw [hX, hY] at hlu
  have HX := Lib.hid hX
  have HY := Lib.hid hY
  have hb : l.length + X + Y + 10 ≤ 140737488355338 := by omega
  have HLu := Lib.hid hlu
  clear h hn q1 q2 hX hY hlu
  obtain ⟨z0, z1, z2, _, _, _⟩ := T0.out.bx.cells
  go_enter Tryz.func85, Tryz.ntmps85
  go_wp2_with fail
  refine (writeByte_any b l 40 40 _ T0.out.wb rfl (by have := HLu.out; omega)).mono ?_
  rintro e w1 ⟨⟨v, rfl⟩, hw, hk⟩
  have T1 := Lib.hid (T0.out.next hw hk)
  clear hw hk T0 z0 z1 z2
  obtain ⟨z0, z1, z2, _, _, _⟩ := T1.out.bx.cells
  obtain ⟨_, g', o', u1, u2, he, p1, q1, p2, q2⟩ := T1.out.nd.two
  cases he
  obtain ⟨k1, s1, a1, m1, c1, rfl⟩ := q1.agg
  obtain ⟨y0, y1, y2⟩ := p1.cells
  have q1 := Lib.hid q1
  have q2 := Lib.hid q2
  clear p1 p2
  go_wp2_with fail
  refine (hx 0 b (l ++ [40]) _ _ T1.out.wb q1.out (by decide) (by decide) (by rw [HX.out]; (try simp only [List.length_append, List.length_cons, List.length_nil]); have := HLu.out; omega)).mono ?_
  rintro e w2 ⟨rfl, hw, hk⟩
  have T2 := Lib.hid (T1.out.next hw hk)
  clear hw hk T1 z0 z1 z2 y0 y1 y2 q1 q2
  obtain ⟨z0, z1, z2, _, _, _⟩ := T2.out.bx.cells
  go_wp2_with fail
  refine (writeString_any b ((l ++ [40]) ++ textP x 0) (bs [32, 111, 114, 32]) _ T2.out.wb (by simp [bs_size]; rw [HX.out]; have := HLu.out; omega)).mono ?_
  rintro e w3 ⟨⟨v, rfl⟩, hw, hk⟩
  have T3 := Lib.hid (T2.out.next hw hk)
  clear hw hk T2 z0 z1 z2
  obtain ⟨z0, z1, z2, _, _, _⟩ := T3.out.bx.cells
  obtain ⟨_, g', o', u1, u2, he, p1, q1, p2, q2⟩ := T3.out.nd.two
  cases he
  obtain ⟨k2, s2, a2, m2, c2, rfl⟩ := q2.agg
  obtain ⟨y0, y1, y2⟩ := p2.cells
  have q1 := Lib.hid q1
  have q2 := Lib.hid q2
  clear p1 p2
  go_wp2_with fail
  refine (hy 1 b (((l ++ [40]) ++ textP x 0) ++ [32, 111, 114, 32]) _ _ T3.out.wb q2.out (by decide) (by decide) (by rw [HY.out]; simp; rw [HX.out]; have := HLu.out; omega)).mono ?_
  rintro e w4 ⟨rfl, hw, hk⟩
  have T4 := Lib.hid (T3.out.next hw hk)
  clear hw hk T3 z0 z1 z2 y0 y1 y2 q1 q2
  obtain ⟨z0, z1, z2, _, _, _⟩ := T4.out.bx.cells
  go_wp2_with fail
  refine (writeByte_any b ((((l ++ [40]) ++ textP x 0) ++ [32, 111, 114, 32]) ++ textP y 1) 41 41 _ T4.out.wb rfl (by simp; rw [HX.out, HY.out]; have := HLu.out; omega)).mono ?_
  rintro e w5 ⟨⟨v, rfl⟩, hw, hk⟩
  have T5 := Lib.hid (T4.out.next hw hk)
  clear hw hk T4 z0 z1 z2
  go_wp2
  first | go_end0 | refine bodyPost_ret (results_none rfl _ _ _) rfl ?_
  refine ⟨rfl, ?_, T5.out.kp⟩
  have e : l ++ U = (((((l ++ [40]) ++ textP x 0) ++ [32, 111, 114, 32]) ++ textP y 1) ++ [41]) := by
    rw [hU.out]; simp only [List.append_assoc]
  rw [e]
  exact T5.out.wb

set_option maxHeartbeats 1000000 in
set_option maxRecDepth 100000 in
theorem text_not_bad (b : Nat) (l : List UInt8) (n : Nd) (s : ByteArray) (a : Option Addr) (m c : Nat) (level : Int) (w : World) (h : WB w b l) (hn : NdIs (· < b) w n (.agg #[.int .i64 6, .string s, .slice a m c])) (hm : ((m : Int) == 2) = false) :
    Calls Tryz.prog 85 #[.agg #[.int .i64 6, .string s, .slice a m c], .pointer (some ⟨b, 0, none⟩), .int .i64 level] w fun e w' => e = .returned (.tuple #[]) ∧ WB w' b l ∧ Keeps b w w' := by
  have T0 := Lib.hid (TS.start h hn)
  clear h hn
  obtain ⟨k0, k1, k2, _, _, _⟩ := T0.out.bx.cells
  have hm2 : ((m : Int) != 2) = true := by rw [bne, hm]; rfl
  go_enter Tryz.func85, Tryz.ntmps85
  go_wp2
  first | go_end0 | refine bodyPost_ret (results_none rfl _ _ _) rfl ?_
  exact ⟨rfl, T0.out.wb, T0.out.kp⟩

set_option maxHeartbeats 1000000 in
set_option maxRecDepth 100000 in
theorem text_not_two (b : Nat) (l U : List UInt8) (K : Int) (S : List UInt8) (x y : Nd) (s : ByteArray) (a : Option Addr) (m c : Nat) (level : Int) (w : World) (h : WB w b l) (hn : NdIs (· < b) w (.mk K S [x, y]) (.agg #[.int .i64 6, .string s, .slice a m c])) (hx : TextC x) (hy : TextC y) (hlev : decide ((0 : Int) < level) = false) (hU : Hid (U = textP x 0 ++ [32, 110, 111, 116, 32] ++ textP y 1)) (hl : l.length + U.length ≤ 140737488355328) :
    Calls Tryz.prog 85 #[.agg #[.int .i64 6, .string s, .slice a m c], .pointer (some ⟨b, 0, none⟩), .int .i64 level] w fun e w' => e = .returned (.tuple #[]) ∧ WB w' b (l ++ U) ∧ Keeps b w w' := by
  have T0 := Lib.hid (TS.start h hn)
  obtain ⟨rfl, g, o, v1, v2, rfl, _, q1, _, q2⟩ := hn.two
  obtain ⟨k1, s1, a1, m1, c1, rfl⟩ := q1.agg
  obtain ⟨k2, s2, a2, m2, c2, rfl⟩ := q2.agg
  have HLU : Hid (U.length = (textP x 0).length + 5 + (textP y 1).length) := by
    show _ = _
    rw [hU.out]; simp only [List.length_append]; rfl
  have hlu := HLU.out
  obtain ⟨X, hX⟩ : ∃ X, (textP x 0).length = X := ⟨_, rfl⟩
  obtain ⟨Y, hY⟩ : ∃ Y, (textP y 1).length = Y := ⟨_, rfl⟩
  rw [hX, hY] at hlu
  have HX := Lib.hid hX
  have HY := Lib.hid hY
  have hb : l.length + X + Y + 10 ≤ 140737488355338 := by omega
  have HLu := Lib.hid hlu
  clear h hn q1 q2 hX hY hlu
  obtain ⟨z0, z1, z2, _, _, _⟩ := T0.out.bx.cells
  go_enter Tryz.func85, Tryz.ntmps85
  obtain ⟨_, g', o', u1, u2, he, p1, q1, p2, q2⟩ := T0.out.nd.two
  cases he
  obtain ⟨k1, s1, a1, m1, c1, rfl⟩ := q1.agg
  obtain ⟨y0, y1, y2⟩ := p1.cells
  have q1 := Lib.hid q1
  have q2 := Lib.hid q2
  clear p1 p2
  go_wp2_with fail
  refine (hx 0 b l _ _ T0.out.wb q1.out (by decide) (by decide) (by rw [HX.out]; (try simp only [List.length_append, List.length_cons, List.length_nil]); have := HLu.out; omega)).mono ?_
  rintro e w1 ⟨rfl, hw, hk⟩
  have T1 := Lib.hid (T0.out.next hw hk)
  clear hw hk T0 z0 z1 z2 y0 y1 y2 q1 q2
  obtain ⟨z0, z1, z2, _, _, _⟩ := T1.out.bx.cells
  go_wp2_with fail
  refine (writeString_any b (l ++ textP x 0) (bs [32, 110, 111, 116, 32]) _ T1.out.wb (by simp [bs_size]; rw [HX.out]; have := HLu.out; omega)).mono ?_
  rintro e w2 ⟨⟨v, rfl⟩, hw, hk⟩
  have T2 := Lib.hid (T1.out.next hw hk)
  clear hw hk T1 z0 z1 z2
  obtain ⟨z0, z1, z2, _, _, _⟩ := T2.out.bx.cells
  obtain ⟨_, g', o', u1, u2, he, p1, q1, p2, q2⟩ := T2.out.nd.two
  cases he
  obtain ⟨k2, s2, a2, m2, c2, rfl⟩ := q2.agg
  obtain ⟨y0, y1, y2⟩ := p2.cells
  have q1 := Lib.hid q1
  have q2 := Lib.hid q2
  clear p1 p2
  go_wp2_with fail
  refine (hy 1 b ((l ++ textP x 0) ++ [32, 110, 111, 116, 32]) _ _ T2.out.wb q2.out (by decide) (by decide) (by rw [HY.out]; simp; rw [HX.out]; have := HLu.out; omega)).mono ?_
  rintro e w3 ⟨rfl, hw, hk⟩
  have T3 := Lib.hid (T2.out.next hw hk)
  clear hw hk T2 z0 z1 z2 y0 y1 y2 q1 q2
  obtain ⟨z0, z1, z2, _, _, _⟩ := T3.out.bx.cells
  go_wp2
  first | go_end0 | refine bodyPost_ret (results_none rfl _ _ _) rfl ?_
  refine ⟨rfl, ?_, T3.out.kp⟩
  have e : l ++ U = (((l ++ textP x 0) ++ [32, 110, 111, 116, 32]) ++ textP y 1) := by
    rw [hU.out]; simp only [List.append_assoc]
  rw [e]
  exact T3.out.wb

set_option maxHeartbeats 1000000 in
set_option maxRecDepth 100000 in
theorem text_not_par (b : Nat) (l U : List UInt8) (K : Int) (S : List UInt8) (x y : Nd) (s : ByteArray) (a : Option Addr) (m c : Nat) (level : Int) (w : World) (h : WB w b l) (hn : NdIs (· < b) w (.mk K S [x, y]) (.agg #[.int .i64 6, .string s, .slice a m c])) (hx : TextC x) (hy : TextC y) (hlev : decide ((0 : Int) < level) = true) (hU : Hid (U = [40] ++ textP x 0 ++ [32, 110, 111, 116, 32] ++ textP y 1 ++ [41])) (hl : l.length + U.length ≤ 140737488355328) :
    Calls Tryz.prog 85 #[.agg #[.int .i64 6, .string s, .slice a m c], .pointer (some ⟨b, 0, none⟩), .int .i64 level] w fun e w' => e = .returned (.tuple #[]) ∧ WB w' b (l ++ U) ∧ Keeps b w w' := by
  have T0 := Lib.hid (TS.start h hn)
  obtain ⟨rfl, g, o, v1, v2, rfl, _, q1, _, q2⟩ := hn.two
  obtain ⟨k1, s1, a1, m1, c1, rfl⟩ := q1.agg
  obtain ⟨k2, s2, a2, m2, c2, rfl⟩ := q2.agg
  have HLU : Hid (U.length = 1 + (textP x 0).length + 5 + (textP y 1).length + 1) := by
    show _ = _
    rw [hU.out]; simp only [List.length_append]; rfl
  have hlu := HLU.out
  obtain ⟨X, hX⟩ : ∃ X, (textP x 0).length = X := ⟨_, rfl⟩
  obtain ⟨Y, hY⟩ : ∃ Y, (textP y 1).length = Y := ⟨_, rfl⟩
  rw [hX, hY] at hlu
  have HX := Lib.hid hX
  have HY := Lib.hid hY
  have hb : l.length + X + Y + 10 ≤ 140737488355338 := by omega
  have HLu := Lib.hid hlu
  clear h hn q1 q2 hX hY hlu
  obtain ⟨z0, z1, z2, _, _, _⟩ := T0.out.bx.cells
  go_enter Tryz.func85, Tryz.ntmps85
  go_wp2_with fail
  refine (writeByte_any b l 40 40 _ T0.out.wb rfl (by have := HLu.out; omega)).mono ?_
  rintro e w1 ⟨⟨v, rfl⟩, hw, hk⟩
  have T1 := Lib.hid (T0.out.next hw hk)
  clear hw hk T0 z0 z1 z2
  obtain ⟨z0, z1, z2, _, _, _⟩ := T1.out.bx.cells
  obtain ⟨_, g', o', u1, u2, he, p1, q1, p2, q2⟩ := T1.out.nd.two
  cases he
  obtain ⟨k1, s1, a1, m1, c1, rfl⟩ := q1.agg
  obtain ⟨y0, y1, y2⟩ := p1.cells
  have q1 := Lib.hid q1
  have q2 := Lib.hid q2
  clear p1 p2
  go_wp2_with fail
  refine (hx 0 b (l ++ [40]) _ _ T1.out.wb q1.out (by decide) (by decide) (by rw [HX.out]; (try simp only [List.length_append, List.length_cons, List.length_nil]); have := HLu.out; omega)).mono ?_
  rintro e w2 ⟨rfl, hw, hk⟩
  have T2 := Lib.hid (T1.out.next hw hk)
  clear hw hk T1 z0 z1 z2 y0 y1 y2 q1 q2
  obtain ⟨z0, z1, z2, _, _, _⟩ := T2.out.bx.cells
  go_wp2_with fail
  refine (writeString_any b ((l ++ [40]) ++ textP x 0) (bs [32, 110, 111, 116, 32]) _ T2.out.wb (by simp [bs_size]; rw [HX.out]; have := HLu.out; omega)).mono ?_
  rintro e w3 ⟨⟨v, rfl⟩, hw, hk⟩
  have T3 := Lib.hid (T2.out.next hw hk)
  clear hw hk T2 z0 z1 z2
  obtain ⟨z0, z1, z2, _, _, _⟩ := T3.out.bx.cells
  obtain ⟨_, g', o', u1, u2, he, p1, q1, p2, q2⟩ := T3.out.nd.two
  cases he
  obtain ⟨k2, s2, a2, m2, c2, rfl⟩ := q2.agg
  obtain ⟨y0, y1, y2⟩ := p2.cells
  have q1 := Lib.hid q1
  have q2 := Lib.hid q2
  clear p1 p2
  go_wp2_with fail
  refine (hy 1 b (((l ++ [40]) ++ textP x 0) ++ [32, 110, 111, 116, 32]) _ _ T3.out.wb q2.out (by decide) (by decide) (by rw [HY.out]; simp; rw [HX.out]; have := HLu.out; omega)).mono ?_
  rintro e w4 ⟨rfl, hw, hk⟩
  have T4 := Lib.hid (T3.out.next hw hk)
  clear hw hk T3 z0 z1 z2 y0 y1 y2 q1 q2
  obtain ⟨z0, z1, z2, _, _, _⟩ := T4.out.bx.cells
  go_wp2_with fail
  refine (writeByte_any b ((((l ++ [40]) ++ textP x 0) ++ [32, 110, 111, 116, 32]) ++ textP y 1) 41 41 _ T4.out.wb rfl (by simp; rw [HX.out, HY.out]; have := HLu.out; omega)).mono ?_
  rintro e w5 ⟨⟨v, rfl⟩, hw, hk⟩
  have T5 := Lib.hid (T4.out.next hw hk)
  clear hw hk T4 z0 z1 z2
  go_wp2
  first | go_end0 | refine bodyPost_ret (results_none rfl _ _ _) rfl ?_
  refine ⟨rfl, ?_, T5.out.kp⟩
  have e : l ++ U = (((((l ++ [40]) ++ textP x 0) ++ [32, 110, 111, 116, 32]) ++ textP y 1) ++ [41]) := by
    rw [hU.out]; simp only [List.append_assoc]
  rw [e]
  exact T5.out.wb

set_option maxHeartbeats 1000000 in
set_option maxRecDepth 100000 in
theorem text_xor_bad (b : Nat) (l : List UInt8) (n : Nd) (s : ByteArray) (a : Option Addr) (m c : Nat) (level : Int) (w : World) (h : WB w b l) (hn : NdIs (· < b) w n (.agg #[.int .i64 7, .string s, .slice a m c])) (hm : ((m : Int) == 2) = false) :
    Calls Tryz.prog 85 #[.agg #[.int .i64 7, .string s, .slice a m c], .pointer (some ⟨b, 0, none⟩), .int .i64 level] w fun e w' => e = .returned (.tuple #[]) ∧ WB w' b l ∧ Keeps b w w' := by
  have T0 := Lib.hid (TS.start h hn)
  clear h hn
  obtain ⟨k0, k1, k2, _, _, _⟩ := T0.out.bx.cells
  have hm2 : ((m : Int) != 2) = true := by rw [bne, hm]; rfl
  go_enter Tryz.func85, Tryz.ntmps85
  go_wp2
  first | go_end0 | refine bodyPost_ret (results_none rfl _ _ _) rfl ?_
  exact ⟨rfl, T0.out.wb, T0.out.kp⟩

set_option maxHeartbeats 1000000 in
set_option maxRecDepth 100000 in
theorem text_xor_two (b : Nat) (l U : List UInt8) (K : Int) (S : List UInt8) (x y : Nd) (s : ByteArray) (a : Option Addr) (m c : Nat) (level : Int) (w : World) (h : WB w b l) (hn : NdIs (· < b) w (.mk K S [x, y]) (.agg #[.int .i64 7, .string s, .slice a m c])) (hx : TextC x) (hy : TextC y) (hlev : decide ((0 : Int) < level) = false) (hU : Hid (U = textP x 0 ++ [32, 120, 111, 114, 32] ++ textP y 1)) (hl : l.length + U.length ≤ 140737488355328) :
    Calls Tryz.prog 85 #[.agg #[.int .i64 7, .string s, .slice a m c], .pointer (some ⟨b, 0, none⟩), .int .i64 level] w fun e w' => e = .returned (.tuple #[]) ∧ WB w' b (l ++ U) ∧ Keeps b w w' := by
  have T0 := Lib.hid (TS.start h hn)
  obtain ⟨rfl, g, o, v1, v2, rfl, _, q1, _, q2⟩ := hn.two
  obtain ⟨k1, s1, a1, m1, c1, rfl⟩ := q1.agg
  obtain ⟨k2, s2, a2, m2, c2, rfl⟩ := q2.agg
  have HLU : Hid (U.length = (textP x 0).length + 5 + (textP y 1).length) := by
    show _ = _
    rw [hU.out]; simp only [List.length_append]; rfl
  have hlu := HLU.out
  obtain ⟨X, hX⟩ : ∃ X, (textP x 0).length = X := ⟨_, rfl⟩
  obtain ⟨Y, hY⟩ : ∃ Y, (textP y 1).length = Y := ⟨_, rfl⟩
  rw [hX, hY] at hlu
  have HX := Lib.hid hX
  have HY := Lib.hid hY
  have hb : l.length + X + Y + 10 ≤ 140737488355338 := by omega
  have HLu := Lib.hid hlu
  clear h hn q1 q2 hX hY hlu
  obtain ⟨z0, z1, z2, _, _, _⟩ := T0.out.bx.cells
  go_enter Tryz.func85, Tryz.ntmps85
  obtain ⟨_, g', o', u1, u2, he, p1, q1, p2, q2⟩ := T0.out.nd.two
  cases he
  obtain ⟨k1, s1, a1, m1, c1, rfl⟩ := q1.agg
  obtain ⟨y0, y1, y2⟩ := p1.cells
  have q1 := Lib.hid q1
  have q2 := Lib.hid q2
  clear p1 p2
  go_wp2_with fail
  refine (hx 0 b l _ _ T0.out.wb q1.out (by decide) (by decide) (by rw [HX.out]; (try simp only [List.length_append, List.length_cons, List.length_nil]); have := HLu.out; omega)).mono ?_
  rintro e w1 ⟨rfl, hw, hk⟩
  have T1 := Lib.hid (T0.out.next hw hk)
  clear hw hk T0 z0 z1 z2 y0 y1 y2 q1 q2
  obtain ⟨z0, z1, z2, _, _, _⟩ := T1.out.bx.cells
  go_wp2_with fail
  refine (writeString_any b (l ++ textP x 0) (bs [32, 120, 111, 114, 32]) _ T1.out.wb (by simp [bs_size]; rw [HX.out]; have := HLu.out; omega)).mono ?_
  rintro e w2 ⟨⟨v, rfl⟩, hw, hk⟩
  have T2 := Lib.hid (T1.out.next hw hk)
  clear hw hk T1 z0 z1 z2
  obtain ⟨z0, z1, z2, _, _, _⟩ := T2.out.bx.cells
  obtain ⟨_, g', o', u1, u2, he, p1, q1, p2, q2⟩ := T2.out.nd.two
  cases he
  obtain ⟨k2, s2, a2, m2, c2, rfl⟩ := q2.agg
  obtain ⟨y0, y1, y2⟩ := p2.cells
  have q1 := Lib.hid q1
  have q2 := Lib.hid q2
  clear p1 p2
  go_wp2_with fail
  refine (hy 1 b ((l ++ textP x 0) ++ [32, 120, 111, 114, 32]) _ _ T2.out.wb q2.out (by decide) (by decide) (by rw [HY.out]; simp; rw [HX.out]; have := HLu.out; omega)).mono ?_
  rintro e w3 ⟨rfl, hw, hk⟩
  have T3 := Lib.hid (T2.out.next hw hk)
  clear hw hk T2 z0 z1 z2 y0 y1 y2 q1 q2
  obtain ⟨z0, z1, z2, _, _, _⟩ := T3.out.bx.cells
  go_wp2
  first | go_end0 | refine bodyPost_ret (results_none rfl _ _ _) rfl ?_
  refine ⟨rfl, ?_, T3.out.kp⟩
  have e : l ++ U = (((l ++ textP x 0) ++ [32, 120, 111, 114, 32]) ++ textP y 1) := by
    rw [hU.out]; simp only [List.append_assoc]
  rw [e]
  exact T3.out.wb

set_option maxHeartbeats 1000000 in
set_option maxRecDepth 100000 in
theorem text_xor_par (b : Nat) (l U : List UInt8) (K : Int) (S : List UInt8) (x y : Nd) (s : ByteArray) (a : Option Addr) (m c : Nat) (level : Int) (w : World) (h : WB w b l) (hn : NdIs (· < b) w (.mk K S [x, y]) (.agg #[.int .i64 7, .string s, .slice a m c])) (hx : TextC x) (hy : TextC y) (hlev : decide ((0 : Int) < level) = true) (hU : Hid (U = [40] ++ textP x 0 ++ [32, 120, 111, 114, 32] ++ textP y 1 ++ [41])) (hl : l.length + U.length ≤ 140737488355328) :
    Calls Tryz.prog 85 #[.agg #[.int .i64 7, .string s, .slice a m c], .pointer (some ⟨b, 0, none⟩), .int .i64 level] w fun e w' => e = .returned (.tuple #[]) ∧ WB w' b (l ++ U) ∧ Keeps b w w' := by
  have T0 := Lib.hid (TS.start h hn)
  obtain ⟨rfl, g, o, v1, v2, rfl, _, q1, _, q2⟩ := hn.two
  obtain ⟨k1, s1, a1, m1, c1, rfl⟩ := q1.agg
  obtain ⟨k2, s2, a2, m2, c2, rfl⟩ := q2.agg
  have HLU : Hid (U.length = 1 + (textP x 0).length + 5 + (textP y 1).length + 1) := by
    show _ = _
    rw [hU.out]; simp only [List.length_append]; rfl
  have hlu := HLU.out
  obtain ⟨X, hX⟩ : ∃ X, (textP x 0).length = X := ⟨_, rfl⟩
  obtain ⟨Y, hY⟩ : ∃ Y, (textP y 1).length = Y := ⟨_, rfl⟩
  rw [hX, hY] at hlu
  have HX := Lib.hid hX
  have HY := Lib.hid hY
  have hb : l.length + X + Y + 10 ≤ 140737488355338 := by omega
  have HLu := Lib.hid hlu
  clear h hn q1 q2 hX hY hlu
  obtain ⟨z0, z1, z2, _, _, _⟩ := T0.out.bx.cells
  go_enter Tryz.func85, Tryz.ntmps85
  go_wp2_with fail
  refine (writeByte_any b l 40 40 _ T0.out.wb rfl (by have := HLu.out; omega)).mono ?_
  rintro e w1 ⟨⟨v, rfl⟩, hw, hk⟩
  have T1 := Lib.hid (T0.out.next hw hk)
  clear hw hk T0 z0 z1 z2
  obtain ⟨z0, z1, z2, _, _, _⟩ := T1.out.bx.cells
  obtain ⟨_, g', o', u1, u2, he, p1, q1, p2, q2⟩ := T1.out.nd.two
  cases he
  obtain ⟨k1, s1, a1, m1, c1, rfl⟩ := q1.agg
  obtain ⟨y0, y1, y2⟩ := p1.cells
  have q1 := Lib.hid q1
  have q2 := Lib.hid q2
  clear p1 p2
  go_wp2_with fail
  refine (hx 0 b (l ++ [40]) _ _ T1.out.wb q1.out (by decide) (by decide) (by rw [HX.out]; (try simp only [List.length_append, List.length_cons, List.length_nil]); have := HLu.out; omega)).mono ?_
  rintro e w2 ⟨rfl, hw, hk⟩
  have T2 := Lib.hid (T1.out.next hw hk)
  clear hw hk T1 z0 z1 z2 y0 y1 y2 q1 q2
  obtain ⟨z0, z1, z2, _, _, _⟩ := T2.out.bx.cells
  go_wp2_with fail
  refine (writeString_any b ((l ++ [40]) ++ textP x 0) (bs [32, 120, 111, 114, 32]) _ T2.out.wb (by simp [bs_size]; rw [HX.out]; have := HLu.out; omega)).mono ?_
  rintro e w3 ⟨⟨v, rfl⟩, hw, hk⟩
  have T3 := Lib.hid (T2.out.next hw hk)
  clear hw hk T2 z0 z1 z2
  obtain ⟨z0, z1, z2, _, _, _⟩ := T3.out.bx.cells
  obtain ⟨_, g', o', u1, u2, he, p1, q1, p2, q2⟩ := T3.out.nd.two
  cases he
  obtain ⟨k2, s2, a2, m2, c2, rfl⟩ := q2.agg
  obtain ⟨y0, y1, y2⟩ := p2.cells
  have q1 := Lib.hid q1
  have q2 := Lib.hid q2
  clear p1 p2
  go_wp2_with fail
  refine (hy 1 b (((l ++ [40]) ++ textP x 0) ++ [32, 120, 111, 114, 32]) _ _ T3.out.wb q2.out (by decide) (by decide) (by rw [HY.out]; simp; rw [HX.out]; have := HLu.out; omega)).mono ?_
  rintro e w4 ⟨rfl, hw, hk⟩
  have T4 := Lib.hid (T3.out.next hw hk)
  clear hw hk T3 z0 z1 z2 y0 y1 y2 q1 q2
  obtain ⟨z0, z1, z2, _, _, _⟩ := T4.out.bx.cells
  go_wp2_with fail
  refine (writeByte_any b ((((l ++ [40]) ++ textP x 0) ++ [32, 120, 111, 114, 32]) ++ textP y 1) 41 41 _ T4.out.wb rfl (by simp; rw [HX.out, HY.out]; have := HLu.out; omega)).mono ?_
  rintro e w5 ⟨⟨v, rfl⟩, hw, hk⟩
  have T5 := Lib.hid (T4.out.next hw hk)
  clear hw hk T4 z0 z1 z2
  go_wp2
  first | go_end0 | refine bodyPost_ret (results_none rfl _ _ _) rfl ?_
  refine ⟨rfl, ?_, T5.out.kp⟩
  have e : l ++ U = (((((l ++ [40]) ++ textP x 0) ++ [32, 120, 111, 114, 32]) ++ textP y 1) ++ [41]) := by
    rw [hU.out]; simp only [List.append_assoc]
  rw [e]
  exact T5.out.wb

set_option maxHeartbeats 1000000 in
set_option maxRecDepth 100000 in
theorem text_other_bad (b : Nat) (l : List UInt8) (n : Nd) (s : ByteArray) (a : Option Addr) (m c : Nat) (level : Int) (k : Int) (h1 : ((k : Int) == 1) = false) (h2 : ((k : Int) == 2) = false) (h3 : ((k : Int) == 3) = false) (h4 : ((k : Int) == 4) = false) (h5 : ((k : Int) == 5) = false) (h6 : ((k : Int) == 6) = false) (h7 : ((k : Int) == 7) = false) (w : World) (h : WB w b l) (hn : NdIs (· < b) w n (.agg #[.int .i64 k, .string s, .slice a m c])) (hm : ((m : Int) == 2) = false) :
    Calls Tryz.prog 85 #[.agg #[.int .i64 k, .string s, .slice a m c], .pointer (some ⟨b, 0, none⟩), .int .i64 level] w fun e w' => e = .returned (.tuple #[]) ∧ WB w' b l ∧ Keeps b w w' := by
  have T0 := Lib.hid (TS.start h hn)
  clear h hn
  obtain ⟨k0, k1, k2, _, _, _⟩ := T0.out.bx.cells
  have hm2 : ((m : Int) != 2) = true := by rw [bne, hm]; rfl
  go_enter Tryz.func85, Tryz.ntmps85
  go_wp2
  first | go_end0 | refine bodyPost_ret (results_none rfl _ _ _) rfl ?_
  exact ⟨rfl, T0.out.wb, T0.out.kp⟩

set_option maxHeartbeats 1000000 in
set_option maxRecDepth 100000 in
theorem text_other_two (b : Nat) (l U : List UInt8) (K : Int) (S : List UInt8) (x y : Nd) (s : ByteArray) (a : Option Addr) (m c : Nat) (level : Int) (k : Int) (h1 : ((k : Int) == 1) = false) (h2 : ((k : Int) == 2) = false) (h3 : ((k : Int) == 3) = false) (h4 : ((k : Int) == 4) = false) (h5 : ((k : Int) == 5) = false) (h6 : ((k : Int) == 6) = false) (h7 : ((k : Int) == 7) = false) (w : World) (h : WB w b l) (hn : NdIs (· < b) w (.mk K S [x, y]) (.agg #[.int .i64 k, .string s, .slice a m c])) (hx : TextC x) (hy : TextC y) (hlev : decide ((0 : Int) < level) = false) (hU : Hid (U = textP x 0 ++ [] ++ textP y 1)) (hl : l.length + U.length ≤ 140737488355328) :
    Calls Tryz.prog 85 #[.agg #[.int .i64 k, .string s, .slice a m c], .pointer (some ⟨b, 0, none⟩), .int .i64 level] w fun e w' => e = .returned (.tuple #[]) ∧ WB w' b (l ++ U) ∧ Keeps b w w' := by
  have T0 := Lib.hid (TS.start h hn)
  obtain ⟨rfl, g, o, v1, v2, rfl, _, q1, _, q2⟩ := hn.two
  obtain ⟨k1, s1, a1, m1, c1, rfl⟩ := q1.agg
  obtain ⟨k2, s2, a2, m2, c2, rfl⟩ := q2.agg
  have HLU : Hid (U.length = (textP x 0).length + 0 + (textP y 1).length) := by
    show _ = _
    rw [hU.out]; simp only [List.length_append]; rfl
  have hlu := HLU.out
  obtain ⟨X, hX⟩ : ∃ X, (textP x 0).length = X := ⟨_, rfl⟩
  obtain ⟨Y, hY⟩ : ∃ Y, (textP y 1).length = Y := ⟨_, rfl⟩
  rw [hX, hY] at hlu
  have HX := Lib.hid hX
  have HY := Lib.hid hY
  have hb : l.length + X + Y + 10 ≤ 140737488355338 := by omega
  have HLu := Lib.hid hlu
  clear h hn q1 q2 hX hY hlu
  obtain ⟨z0, z1, z2, _, _, _⟩ := T0.out.bx.cells
  go_enter Tryz.func85, Tryz.ntmps85
  obtain ⟨_, g', o', u1, u2, he, p1, q1, p2, q2⟩ := T0.out.nd.two
  cases he
  obtain ⟨k1, s1, a1, m1, c1, rfl⟩ := q1.agg
  obtain ⟨y0, y1, y2⟩ := p1.cells
  have q1 := Lib.hid q1
  have q2 := Lib.hid q2
  clear p1 p2
  go_wp2_with fail
  refine (hx 0 b l _ _ T0.out.wb q1.out (by decide) (by decide) (by rw [HX.out]; (try simp only [List.length_append, List.length_cons, List.length_nil]); have := HLu.out; omega)).mono ?_
  rintro e w1 ⟨rfl, hw, hk⟩
  have T1 := Lib.hid (T0.out.next hw hk)
  clear hw hk T0 z0 z1 z2 y0 y1 y2 q1 q2
  obtain ⟨z0, z1, z2, _, _, _⟩ := T1.out.bx.cells
  go_wp2_with fail
  refine (writeString_any b (l ++ textP x 0) (bs []) _ T1.out.wb (by simp [bs_size]; rw [HX.out]; have := HLu.out; omega)).mono ?_
  rintro e w2 ⟨⟨v, rfl⟩, hw, hk⟩
  have T2 := Lib.hid (T1.out.next hw hk)
  clear hw hk T1 z0 z1 z2
  obtain ⟨z0, z1, z2, _, _, _⟩ := T2.out.bx.cells
  obtain ⟨_, g', o', u1, u2, he, p1, q1, p2, q2⟩ := T2.out.nd.two
  cases he
  obtain ⟨k2, s2, a2, m2, c2, rfl⟩ := q2.agg
  obtain ⟨y0, y1, y2⟩ := p2.cells
  have q1 := Lib.hid q1
  have q2 := Lib.hid q2
  clear p1 p2
  go_wp2_with fail
  refine (hy 1 b ((l ++ textP x 0) ++ []) _ _ T2.out.wb q2.out (by decide) (by decide) (by rw [HY.out]; simp; rw [HX.out]; have := HLu.out; omega)).mono ?_
  rintro e w3 ⟨rfl, hw, hk⟩
  have T3 := Lib.hid (T2.out.next hw hk)
  clear hw hk T2 z0 z1 z2 y0 y1 y2 q1 q2
  obtain ⟨z0, z1, z2, _, _, _⟩ := T3.out.bx.cells
  go_wp2
  first | go_end0 | refine bodyPost_ret (results_none rfl _ _ _) rfl ?_
  refine ⟨rfl, ?_, T3.out.kp⟩
  have e : l ++ U = (((l ++ textP x 0) ++ []) ++ textP y 1) := by
    rw [hU.out]; simp only [List.append_assoc]
  rw [e]
  exact T3.out.wb

set_option maxHeartbeats 1000000 in
set_option maxRecDepth 100000 in
theorem text_other_par (b : Nat) (l U : List UInt8) (K : Int) (S : List UInt8) (x y : Nd) (s : ByteArray) (a : Option Addr) (m c : Nat) (level : Int) (k : Int) (h1 : ((k : Int) == 1) = false) (h2 : ((k : Int) == 2) = false) (h3 : ((k : Int) == 3) = false) (h4 : ((k : Int) == 4) = false) (h5 : ((k : Int) == 5) = false) (h6 : ((k : Int) == 6) = false) (h7 : ((k : Int) == 7) = false) (w : World) (h : WB w b l) (hn : NdIs (· < b) w (.mk K S [x, y]) (.agg #[.int .i64 k, .string s, .slice a m c])) (hx : TextC x) (hy : TextC y) (hlev : decide ((0 : Int) < level) = true) (hU : Hid (U = [40] ++ textP x 0 ++ [] ++ textP y 1 ++ [41])) (hl : l.length + U.length ≤ 140737488355328) :
    Calls Tryz.prog 85 #[.agg #[.int .i64 k, .string s, .slice a m c], .pointer (some ⟨b, 0, none⟩), .int .i64 level] w fun e w' => e = .returned (.tuple #[]) ∧ WB w' b (l ++ U) ∧ Keeps b w w' := by
  have T0 := Lib.hid (TS.start h hn)
  obtain ⟨rfl, g, o, v1, v2, rfl, _, q1, _, q2⟩ := hn.two
  obtain ⟨k1, s1, a1, m1, c1, rfl⟩ := q1.agg
  obtain ⟨k2, s2, a2, m2, c2, rfl⟩ := q2.agg
  have HLU : Hid (U.length = 1 + (textP x 0).length + 0 + (textP y 1).length + 1) := by
    show _ = _
    rw [hU.out]; simp only [List.length_append]; rfl
  have hlu := HLU.out
  obtain ⟨X, hX⟩ : ∃ X, (textP x 0).length = X := ⟨_, rfl⟩
  obtain ⟨Y, hY⟩ : ∃ Y, (textP y 1).length = Y := ⟨_, rfl⟩
  rw [hX, hY] at hlu
  have HX := Lib.hid hX
  have HY := Lib.hid hY
  have hb : l.length + X + Y + 10 ≤ 140737488355338 := by omega
  have HLu := Lib.hid hlu
  clear h hn q1 q2 hX hY hlu
  obtain ⟨z0, z1, z2, _, _, _⟩ := T0.out.bx.cells
  go_enter Tryz.func85, Tryz.ntmps85
  go_wp2_with fail
  refine (writeByte_any b l 40 40 _ T0.out.wb rfl (by have := HLu.out; omega)).mono ?_
  rintro e w1 ⟨⟨v, rfl⟩, hw, hk⟩
  have T1 := Lib.hid (T0.out.next hw hk)
  clear hw hk T0 z0 z1 z2
  obtain ⟨z0, z1, z2, _, _, _⟩ := T1.out.bx.cells
  obtain ⟨_, g', o', u1, u2, he, p1, q1, p2, q2⟩ := T1.out.nd.two
  cases he
  obtain ⟨k1, s1, a1, m1, c1, rfl⟩ := q1.agg
  obtain ⟨y0, y1, y2⟩ := p1.cells
  have q1 := Lib.hid q1
  have q2 := Lib.hid q2
  clear p1 p2
  go_wp2_with fail
  refine (hx 0 b (l ++ [40]) _ _ T1.out.wb q1.out (by decide) (by decide) (by rw [HX.out]; (try simp only [List.length_append, List.length_cons, List.length_nil]); have := HLu.out; omega)).mono ?_
  rintro e w2 ⟨rfl, hw, hk⟩
  have T2 := Lib.hid (T1.out.next hw hk)
  clear hw hk T1 z0 z1 z2 y0 y1 y2 q1 q2
  obtain ⟨z0, z1, z2, _, _, _⟩ := T2.out.bx.cells
  go_wp2_with fail
  refine (writeString_any b ((l ++ [40]) ++ textP x 0) (bs []) _ T2.out.wb (by simp [bs_size]; rw [HX.out]; have := HLu.out; omega)).mono ?_
  rintro e w3 ⟨⟨v, rfl⟩, hw, hk⟩
  have T3 := Lib.hid (T2.out.next hw hk)
  clear hw hk T2 z0 z1 z2
  obtain ⟨z0, z1, z2, _, _, _⟩ := T3.out.bx.cells
  obtain ⟨_, g', o', u1, u2, he, p1, q1, p2, q2⟩ := T3.out.nd.two
  cases he
  obtain ⟨k2, s2, a2, m2, c2, rfl⟩ := q2.agg
  obtain ⟨y0, y1, y2⟩ := p2.cells
  have q1 := Lib.hid q1
  have q2 := Lib.hid q2
  clear p1 p2
  go_wp2_with fail
  refine (hy 1 b (((l ++ [40]) ++ textP x 0) ++ []) _ _ T3.out.wb q2.out (by decide) (by decide) (by rw [HY.out]; simp; rw [HX.out]; have := HLu.out; omega)).mono ?_
  rintro e w4 ⟨rfl, hw, hk⟩
  have T4 := Lib.hid (T3.out.next hw hk)
  clear hw hk T3 z0 z1 z2 y0 y1 y2 q1 q2
  obtain ⟨z0, z1, z2, _, _, _⟩ := T4.out.bx.cells
  go_wp2_with fail
  refine (writeByte_any b ((((l ++ [40]) ++ textP x 0) ++ []) ++ textP y 1) 41 41 _ T4.out.wb rfl (by simp; rw [HX.out, HY.out]; have := HLu.out; omega)).mono ?_
  rintro e w5 ⟨⟨v, rfl⟩, hw, hk⟩
  have T5 := Lib.hid (T4.out.next hw hk)
  clear hw hk T4 z0 z1 z2
  go_wp2
  first | go_end0 | refine bodyPost_ret (results_none rfl _ _ _) rfl ?_
  refine ⟨rfl, ?_, T5.out.kp⟩
  have e : l ++ U = (((((l ++ [40]) ++ textP x 0) ++ []) ++ textP y 1) ++ [41]) := by
    rw [hU.out]; simp only [List.append_assoc]
  rw [e]
  exact T5.out.wb

end Go.Proofs.YtdjklnlkocconaaGreatDoor

namespace Go.Proofs.YtdjklnlkocconaaGreatDoor
open Go Go.RowKit

theorem textP_eq (k : Int) (s : List UInt8) (l : List Nd) (level : Int) : textP (.mk k s l) level =
    if k = 1 then s else if k = 2 then w_empty else if k = 3 then [98, 111, 120, 101, 115, 32] ++ s
    else match l with
      | [a, b] => (if joinS k < level then [40] else []) ++ textP a (joinS k) ++ joinW k ++ textP b (joinS k + 1) ++ (if joinS k < level then [41] else [])
      | _ => [] := by
  match l with
  | [] => simp [textP]
  | [_] => simp [textP]
  | [x, y] => rw [textP]
  | _ :: _ :: _ :: _ => simp [textP]
theorem textP_join {k : Int} {s : List UInt8} {l : List Nd} {level : Int} (h1 : k ≠ 1) (h2 : k ≠ 2) (h3 : k ≠ 3) : textP (.mk k s l) level =
    match l with
    | [a, b] => (if joinS k < level then [40] else []) ++ textP a (joinS k) ++ joinW k ++ textP b (joinS k + 1) ++ (if joinS k < level then [41] else [])
    | _ => [] := by
  rw [textP_eq, if_neg h1, if_neg h2, if_neg h3]
theorem len_ne {l : List Nd} (h : ∀ x y, l ≠ [x, y]) : (((l.length : Nat) : Int) == 2) = false := by
  rw [beq_eq_false_iff_ne]
  intro e
  match l, h with
  | [], _ => simp at e
  | [_], _ => simp at e
  | [x, y], h => exact h x y rfl
  | _ :: _ :: _ :: _, _ => simp at e; omega
theorem two_or (l : List Nd) : (∃ x y, l = [x, y]) ∨ ∀ x y, l ≠ [x, y] := by
  match l with
  | [] => exact .inr (by simp)
  | [_] => exact .inr (by simp)
  | [x, y] => exact .inl ⟨x, y, rfl⟩
  | _ :: _ :: _ :: _ => exact .inr (by simp)
theorem textP_bad {k : Int} {s : List UInt8} {l : List Nd} {level : Int} (h1 : k ≠ 1) (h2 : k ≠ 2) (h3 : k ≠ 3) (h : ∀ x y, l ≠ [x, y]) : textP (.mk k s l) level = [] := by
  rw [textP_join h1 h2 h3]
  match l, h with
  | [], _ => rfl
  | [_], _ => rfl
  | [x, y], h => exact absurd rfl (h x y)
  | _ :: _ :: _ :: _, _ => rfl

theorem text_step (k : Int) (s : List UInt8) (l : List Nd) (ih : ∀ x ∈ l, TextC x) : TextC (.mk k s l) := by
  intro level b acc v w hw hn h0 h2 hlen
  have hn2 := hn
  unfold NdIs at hn2
  obtain ⟨a, c, rfl, _, _⟩ := hn2
  have hsz : (bs s).size = s.length := bs_size s
  by_cases e1 : k = 1
  · subst e1
    have e : textP (.mk 1 s l) level = s := by rw [textP_eq, if_pos rfl]
    rw [e] at hlen ⊢
    exact text_name b acc s _ (bs s) a _ c level w rfl hw hn (by rw [hsz]; exact hlen)
  by_cases e2 : k = 2
  · subst e2
    have e : textP (.mk 2 s l) level = w_empty := by rw [textP_eq, if_neg (by decide), if_pos rfl]
    rw [e] at hlen ⊢
    exact text_empty b acc _ (bs s) a _ c level w hw hn hlen
  by_cases e3 : k = 3
  · subst e3
    have e : textP (.mk 3 s l) level = [98, 111, 120, 101, 115, 32] ++ s := by rw [textP_eq, if_neg (by decide), if_neg (by decide), if_pos rfl]
    rw [e] at hlen ⊢
    exact text_boxes b acc _ _ (bs s) a _ c level w rfl hw hn (by rw [hsz]; simp only [List.length_append] at hlen; exact hlen)
  have n1 : (k == 1) = false := by simpa using e1
  have n2 : (k == 2) = false := by simpa using e2
  have n3 : (k == 3) = false := by simpa using e3
  by_cases e4 : k = 4
  · subst e4
    have hj : joinS 4 = 1 := rfl
    have hjw : joinW 4 = [32, 97, 110, 100, 32] := rfl
    rcases two_or l with ⟨x, y, rfl⟩ | hl
    · have hx := ih x (by simp)
      have hy := ih y (by simp)
      have e := textP_join (k := 4) (s := s) (l := [x, y]) (level := level) (by decide) (by decide) (by decide)
      simp only [hj, hjw] at e
      cases hlev : decide ((1 : Int) < level)
      · have hlev2 : ¬ (1 : Int) < level := by simpa using hlev
        rw [if_neg hlev2, if_neg hlev2, List.nil_append, List.append_nil] at e
        rw [e] at hlen ⊢
        exact text_and_two b acc _ 4 s x y (bs s) a _ c level w hw hn hx hy hlev rfl hlen
      · have hlev2 : (1 : Int) < level := by simpa using hlev
        rw [if_pos hlev2, if_pos hlev2] at e
        rw [e] at hlen ⊢
        exact text_and_par b acc _ 4 s x y (bs s) a _ c level w hw hn hx hy hlev rfl hlen
    · rw [textP_bad (by decide) (by decide) (by decide) hl, List.append_nil]
      exact text_and_bad b acc _ (bs s) a _ c level w hw hn (len_ne hl)
  have n4 : (k == 4) = false := by simpa using e4
  by_cases e5 : k = 5
  · subst e5
    have hj : joinS 5 = 0 := rfl
    have hjw : joinW 5 = [32, 111, 114, 32] := rfl
    rcases two_or l with ⟨x, y, rfl⟩ | hl
    · have hx := ih x (by simp)
      have hy := ih y (by simp)
      have e := textP_join (k := 5) (s := s) (l := [x, y]) (level := level) (by decide) (by decide) (by decide)
      simp only [hj, hjw] at e
      cases hlev : decide ((0 : Int) < level)
      · have hlev2 : ¬ (0 : Int) < level := by simpa using hlev
        rw [if_neg hlev2, if_neg hlev2, List.nil_append, List.append_nil] at e
        rw [e] at hlen ⊢
        exact text_or_two b acc _ 5 s x y (bs s) a _ c level w hw hn hx hy hlev rfl hlen
      · have hlev2 : (0 : Int) < level := by simpa using hlev
        rw [if_pos hlev2, if_pos hlev2] at e
        rw [e] at hlen ⊢
        exact text_or_par b acc _ 5 s x y (bs s) a _ c level w hw hn hx hy hlev rfl hlen
    · rw [textP_bad (by decide) (by decide) (by decide) hl, List.append_nil]
      exact text_or_bad b acc _ (bs s) a _ c level w hw hn (len_ne hl)
  have n5 : (k == 5) = false := by simpa using e5
  by_cases e6 : k = 6
  · subst e6
    have hj : joinS 6 = 0 := rfl
    have hjw : joinW 6 = [32, 110, 111, 116, 32] := rfl
    rcases two_or l with ⟨x, y, rfl⟩ | hl
    · have hx := ih x (by simp)
      have hy := ih y (by simp)
      have e := textP_join (k := 6) (s := s) (l := [x, y]) (level := level) (by decide) (by decide) (by decide)
      simp only [hj, hjw] at e
      cases hlev : decide ((0 : Int) < level)
      · have hlev2 : ¬ (0 : Int) < level := by simpa using hlev
        rw [if_neg hlev2, if_neg hlev2, List.nil_append, List.append_nil] at e
        rw [e] at hlen ⊢
        exact text_not_two b acc _ 6 s x y (bs s) a _ c level w hw hn hx hy hlev rfl hlen
      · have hlev2 : (0 : Int) < level := by simpa using hlev
        rw [if_pos hlev2, if_pos hlev2] at e
        rw [e] at hlen ⊢
        exact text_not_par b acc _ 6 s x y (bs s) a _ c level w hw hn hx hy hlev rfl hlen
    · rw [textP_bad (by decide) (by decide) (by decide) hl, List.append_nil]
      exact text_not_bad b acc _ (bs s) a _ c level w hw hn (len_ne hl)
  have n6 : (k == 6) = false := by simpa using e6
  by_cases e7 : k = 7
  · subst e7
    have hj : joinS 7 = 0 := rfl
    have hjw : joinW 7 = [32, 120, 111, 114, 32] := rfl
    rcases two_or l with ⟨x, y, rfl⟩ | hl
    · have hx := ih x (by simp)
      have hy := ih y (by simp)
      have e := textP_join (k := 7) (s := s) (l := [x, y]) (level := level) (by decide) (by decide) (by decide)
      simp only [hj, hjw] at e
      cases hlev : decide ((0 : Int) < level)
      · have hlev2 : ¬ (0 : Int) < level := by simpa using hlev
        rw [if_neg hlev2, if_neg hlev2, List.nil_append, List.append_nil] at e
        rw [e] at hlen ⊢
        exact text_xor_two b acc _ 7 s x y (bs s) a _ c level w hw hn hx hy hlev rfl hlen
      · have hlev2 : (0 : Int) < level := by simpa using hlev
        rw [if_pos hlev2, if_pos hlev2] at e
        rw [e] at hlen ⊢
        exact text_xor_par b acc _ 7 s x y (bs s) a _ c level w hw hn hx hy hlev rfl hlen
    · rw [textP_bad (by decide) (by decide) (by decide) hl, List.append_nil]
      exact text_xor_bad b acc _ (bs s) a _ c level w hw hn (len_ne hl)
  have n7 : (k == 7) = false := by simpa using e7
  have hj : joinS k = 0 := (by rw [joinS, if_neg e4])
  have hjw : joinW k = [] := (by rw [joinW, if_neg e4, if_neg e5, if_neg e6, if_neg e7])
  rcases two_or l with ⟨x, y, rfl⟩ | hl
  · have hx := ih x (by simp)
    have hy := ih y (by simp)
    have e := textP_join (k := k) (s := s) (l := [x, y]) (level := level) e1 e2 e3
    simp only [hj, hjw] at e
    cases hlev : decide ((0 : Int) < level)
    · have hlev2 : ¬ (0 : Int) < level := by simpa using hlev
      rw [if_neg hlev2, if_neg hlev2, List.nil_append, List.append_nil] at e
      rw [e] at hlen ⊢
      exact text_other_two b acc _ k s x y (bs s) a _ c level k n1 n2 n3 n4 n5 n6 n7 w hw hn hx hy hlev rfl hlen
    · have hlev2 : (0 : Int) < level := by simpa using hlev
      rw [if_pos hlev2, if_pos hlev2] at e
      rw [e] at hlen ⊢
      exact text_other_par b acc _ k s x y (bs s) a _ c level k n1 n2 n3 n4 n5 n6 n7 w hw hn hx hy hlev rfl hlen
  · rw [textP_bad e1 e2 e3 hl, List.append_nil]
    exact text_other_bad b acc _ (bs s) a _ c level k n1 n2 n3 n4 n5 n6 n7 w hw hn (len_ne hl)

theorem text_all (f : Nat) : ∀ n : Nd, SizeOf.sizeOf n ≤ f → TextC n := by
  induction f with
  | zero => intro n h; cases n; simp at h
  | succ f ih =>
    intro n h
    cases n with
    | mk k s l =>
      refine text_step k s l fun x hx => ih x ?_
      have := List.sizeOf_lt_of_mem hx
      simp at h
      omega
theorem text_any (n : Nd) : TextC n := text_all _ n (Nat.le_refl _)
end Go.Proofs.YtdjklnlkocconaaGreatDoor
