/-
  slices.EqualFunc at statements, of any two rows of them: are they the same?
  deck.Print of whatever statements: their text, if they are some deck's.
-/
import Derived.Test.YtdjklnlkocconaaGreatDoorGnAZ
import Derived.Test.YtdjklnlkocconaaGreatDoorSmAZ
import Derived.Test.YtdjklnlkocconaaGreatDoorPrCZ
namespace Go.Proofs.YtdjklnlkocconaaGreatDoor
open Go Go.RowKit

/-- The loop over two rows of statements, the same so far. -/
def EqSt (w : World) (l m : List St) (R : Bool) (n : Nat) (k : Nat) (u : Value) (wr : World) : Prop := ∃ i : Nat, u = .int .i64 i ∧ i ≤ n ∧ n < k + i ∧ w.grownBy wr none ∧ Sts.same (l.drop i) (m.drop i) = R

theorem stsame_len : ∀ (l m : List St), Sts.same l m = true → l.length = m.length
  | [], [], _ => rfl
  | [], _ :: _, h => by simp [Sts.same] at h
  | _ :: _, [], h => by simp [Sts.same] at h
  | a :: l, b :: m, h => by
    simp only [Sts.same, Bool.and_eq_true] at h
    rw [List.length_cons, List.length_cons, stsame_len l m h.2]

set_option maxHeartbeats 4000000 in
set_option maxRecDepth 100000 in
theorem eqStsG (l m : List St) (v1 v2 : Value) (w : World) (h1 : StsIs w v1 l) (h2 : StsIs w v2 m) :
    Calls Tryz.prog 67 #[v1, v2, .func (.func 68) #[] #[]] w fun e w' => e = .returned (.bool (Sts.same l m)) ∧ w.grownBy w' none := by
  have H1 := Lib.hid h1
  have H2 := Lib.hid h2
  obtain ⟨hn, a1, c1, rfl, _⟩ := h1
  obtain ⟨_, a2, c2, rfl, _⟩ := h2
  by_cases hlm : l.length = m.length
  case neg =>
    have hR : Sts.same l m = false := by
      cases h : Sts.same l m with
      | false => rfl
      | true => exact absurd (stsame_len l m h) hlm
    rw [hR]
    have hd : ((l.length : Int) != (m.length : Int)) = true := by simp; omega
    clear hlm H1 H2 hn hR
    go_enter Tryz.func67, Tryz.ntmps67
    go_wp2
    go_ret
    exact ⟨rfl, grown_refl _ _⟩
  obtain ⟨n, hln⟩ : ∃ n, l.length = n := ⟨_, rfl⟩
  have HLN : Hid (l.length = n ∧ m.length = n) := ⟨hln, by rw [← hlm, hln]⟩
  rw [← hlm] at H2 ⊢
  rw [hln] at hn H1 H2 ⊢
  clear hln hlm
  obtain ⟨R, hR⟩ : ∃ R, Sts.same l m = R := ⟨_, rfl⟩
  have HA0 : Hid (EqSt w l m R n (n + 1) (.int .i64 0) w) := ⟨0, rfl, Nat.zero_le _, by omega, grown_refl _ _, hR⟩
  rw [hR]
  clear hR
  go_enter Tryz.func67, Tryz.ntmps67
  go_wp2_with fail
  go_loopg [17] (n + 1) (fun k u wr => Hid (EqSt w l m R n k u wr))
  case atStart => exact HA0
  case round =>
    obtain ⟨i, rfl, hi, hk, hg, hs⟩ := hrel.out
    have HG := Lib.hid hg
    have HS := Lib.hid hs
    clear hrel hg hs
    by_cases hlt : i < n
    · obtain ⟨x, hx⟩ : ∃ x, l[i]? = some x := ⟨l[i]'(by rw [HLN.out.1]; exact hlt), List.getElem?_eq_getElem _⟩
      obtain ⟨y, hy⟩ : ∃ y, m[i]? = some y := ⟨m[i]'(by rw [HLN.out.2]; exact hlt), List.getElem?_eq_getElem _⟩
      obtain ⟨g1, o1, cap1, e1, hl1, A, B, q1, na, nb⟩ := (H1.out.still HG.out).get hx
      obtain ⟨g2, o2, cap2, e2, hl2, C, D, q2, nc, nd⟩ := (H2.out.still HG.out).get hy
      injection e1 with e1a e1b e1c
      injection e2 with e2a e2b e2c
      subst e1a e1c e2a e2c
      have hs2 := HS.out
      rw [getElem_drop hx, getElem_drop hy, Sts.same] at hs2
      obtain ⟨kind, name, xa, xb, rule, N, d, K, snap⟩ := x
      obtain ⟨kind', name', xc, xd, rule', N', d', K', snap'⟩ := y
      have x0 := q1 0 (by decide)
      have y0 := fun o => (Below.cell (p := ⟨g2, o2 + i * 13 + 0, none⟩) ((Below.refl wr.heap.size wr).alloc (Nat.le_refl _) o) hl2).trans (q2 0 (by decide))
      have x1 := q1 1 (by decide)
      have y1 := fun o => (Below.cell (p := ⟨g2, o2 + i * 13 + 1, none⟩) ((Below.refl wr.heap.size wr).alloc (Nat.le_refl _) o) hl2).trans (q2 1 (by decide))
      have x2 := q1 2 (by decide)
      have y2 := fun o => (Below.cell (p := ⟨g2, o2 + i * 13 + 2, none⟩) ((Below.refl wr.heap.size wr).alloc (Nat.le_refl _) o) hl2).trans (q2 2 (by decide))
      have x3 := q1 3 (by decide)
      have y3 := fun o => (Below.cell (p := ⟨g2, o2 + i * 13 + 3, none⟩) ((Below.refl wr.heap.size wr).alloc (Nat.le_refl _) o) hl2).trans (q2 3 (by decide))
      have x4 := q1 4 (by decide)
      have y4 := fun o => (Below.cell (p := ⟨g2, o2 + i * 13 + 4, none⟩) ((Below.refl wr.heap.size wr).alloc (Nat.le_refl _) o) hl2).trans (q2 4 (by decide))
      have x5 := q1 5 (by decide)
      have y5 := fun o => (Below.cell (p := ⟨g2, o2 + i * 13 + 5, none⟩) ((Below.refl wr.heap.size wr).alloc (Nat.le_refl _) o) hl2).trans (q2 5 (by decide))
      have x6 := q1 6 (by decide)
      have y6 := fun o => (Below.cell (p := ⟨g2, o2 + i * 13 + 6, none⟩) ((Below.refl wr.heap.size wr).alloc (Nat.le_refl _) o) hl2).trans (q2 6 (by decide))
      have x7 := q1 7 (by decide)
      have y7 := fun o => (Below.cell (p := ⟨g2, o2 + i * 13 + 7, none⟩) ((Below.refl wr.heap.size wr).alloc (Nat.le_refl _) o) hl2).trans (q2 7 (by decide))
      have x8 := q1 8 (by decide)
      have y8 := fun o => (Below.cell (p := ⟨g2, o2 + i * 13 + 8, none⟩) ((Below.refl wr.heap.size wr).alloc (Nat.le_refl _) o) hl2).trans (q2 8 (by decide))
      have x9 := q1 9 (by decide)
      have y9 := fun o => (Below.cell (p := ⟨g2, o2 + i * 13 + 9, none⟩) ((Below.refl wr.heap.size wr).alloc (Nat.le_refl _) o) hl2).trans (q2 9 (by decide))
      have x10 := q1 10 (by decide)
      have y10 := fun o => (Below.cell (p := ⟨g2, o2 + i * 13 + 10, none⟩) ((Below.refl wr.heap.size wr).alloc (Nat.le_refl _) o) hl2).trans (q2 10 (by decide))
      have x11 := q1 11 (by decide)
      have y11 := fun o => (Below.cell (p := ⟨g2, o2 + i * 13 + 11, none⟩) ((Below.refl wr.heap.size wr).alloc (Nat.le_refl _) o) hl2).trans (q2 11 (by decide))
      have x12 := q1 12 (by decide)
      have y12 := fun o => (Below.cell (p := ⟨g2, o2 + i * 13 + 12, none⟩) ((Below.refl wr.heap.size wr).alloc (Nat.le_refl _) o) hl2).trans (q2 12 (by decide))
      simp only [stCells, List.getElem?_cons_succ, List.getElem?_cons_zero, Nat.add_zero] at x0 y0 x1 y1 x2 y2 x3 y3 x4 y4 x5 y5 x6 y6 x7 y7 x8 y8 x9 y9 x10 y10 x11 y11 x12 y12
      have NA := Lib.hid na
      have NB := Lib.hid nb
      have NC := Lib.hid nc
      have ND := Lib.hid nd
      obtain ⟨b, hb⟩ : ∃ b, St.same ⟨kind, name, xa, xb, rule, N, d, K, snap⟩ ⟨kind', name', xc, xd, rule', N', d', K', snap'⟩ = b := ⟨_, rfl⟩
      rw [hb] at hs2
      have HB := Lib.hid hb
      have HS2 := Lib.hid hs2
      clear na nb nc nd q1 q2 hx hy hb hs2 HS e1b e2b
      go_wp2_with fail
      have HA : Hid (wr.grownBy ((wr.alloc (.cells #[.int .i64 kind, .string (bs name), .int .i64 A.k, .string A.s, .slice A.a A.n A.c, .int .i64 B.k, .string B.s, .slice B.a B.n B.c, .int .i64 rule, .int .i64 N, .int .i64 d, .int .i64 K, .bool snap] 39)).alloc (.cells #[.int .i64 kind', .string (bs name'), .int .i64 C.k, .string C.s, .slice C.a C.n C.c, .int .i64 D.k, .string D.s, .slice D.a D.n D.c, .int .i64 rule', .int .i64 N', .int .i64 d', .int .i64 K', .bool snap'] 39)) none) := grown_trans (grown_alloc _ _ _) (grown_alloc _ _ _)
      refine (alikeG kind kind' name name' xa xb xc xd rule N d K rule' N' d' K' snap snap' A B C D _ (NA.out.still HA.out) (NB.out.still HA.out) (NC.out.still HA.out) (ND.out.still HA.out)).mono ?_
      rintro e w3 ⟨he, hg3⟩
      rw [HB.out] at he
      subst he
      have HG3 : Hid (w.grownBy w3 none) := grown_trans HG.out (grown_trans HA.out hg3)
      clear hg3 HA NA NB NC ND HG HB x0 y0 x1 y1 x2 y2 x3 y3 x4 y4 x5 y5 x6 y6 x7 y7 x8 y8 x9 y9 x10 y10 x11 y11 x12 y12
      cases b with
      | true =>
        have HS3 : Hid (Sts.same (l.drop (i + 1)) (m.drop (i + 1)) = R) := by have h := HS2.out; rw [Bool.true_and] at h; exact h
        clear HS2
        go_wp2
        go_roundg (gk - 1)
        case measure => omega
        case rel => exact ⟨i + 1, by go_num, by omega, by omega, HG3.out, HS3.out⟩
      | false =>
        obtain rfl : R = false := by have h := HS2.out; rw [Bool.false_and] at h; exact h.symm
        clear HS2
        go_wp2
        go_ret
        exact ⟨rfl, HG3.out⟩
    · have hin : i = n := by omega
      subst hin
      obtain rfl : R = true := by
        have h := HS.out
        rw [List.drop_eq_nil_of_le (by rw [HLN.out.1]; exact Nat.le_refl _), List.drop_eq_nil_of_le (by rw [HLN.out.2]; exact Nat.le_refl _), Sts.same] at h
        exact h.symm
      clear HS
      go_wp2
      go_ret
      exact ⟨rfl, HG.out⟩
end Go.Proofs.YtdjklnlkocconaaGreatDoor

namespace Go.Proofs.YtdjklnlkocconaaGreatDoor
open Go Go.RowKit

/-- What Print gives back. -/
def printE : Option (List UInt8) → Ending
  | some t => .returned (.tuple #[.string (bs t), .int .i64 0])
  | none => .returned (.tuple #[.string ⟨#[]⟩, .int .i64 3])

/-- Print at work. -/
def PrG (w : World) (l : List St) (R : Option (List UInt8)) (n : Nat) (k : Nat) (u : Value) (wr : World) : Prop :=
  ∃ (i : Nat) (acc : List UInt8), u = .int .i64 i ∧ i ≤ n ∧ n < k + i ∧ WB wr w.heap.size acc ∧ Keeps w.heap.size w wr ∧ Good wr ∧ acc.length ≤ 131072 ∧ linesP (l.drop i) acc = R

theorem Keeps.belowH {w w' : World} (h : Keeps w.heap.size w w') : Below w.heap.size w w' := by
  rcases h.below with hb | hb
  · exact hb
  · exact ⟨h.os, h.tape, h.output, h.size, fun k hk => h.block k hk (by omega) (.inl hk)⟩

set_option maxHeartbeats 4000000 in
set_option maxRecDepth 100000 in
theorem print_any (l : List St) (v : Value) (w : World) (hl : ∀ x ∈ l, LineC x) (hsz : ∀ x ∈ l, (lineP x).length ≤ 140737488000000) (h : StsIs w v l) (hg : Good w) :
    Calls Tryz.prog 37 #[v] w fun e w' => e = printE (printS l) ∧ Below w.heap.size w w' := by
  have H := Lib.hid h
  obtain ⟨hn, a, c, rfl, _⟩ := h
  obtain ⟨n, hln⟩ : ∃ n, l.length = n := ⟨_, rfl⟩
  rw [hln] at hn H ⊢
  have HLN := Lib.hid hln
  have HSZ0 := Lib.hid hsz
  have HLC0 := Lib.hid hl
  obtain ⟨R, hR⟩ : ∃ R, linesP l [] = R := ⟨_, rfl⟩
  have HR := Lib.hid hR
  obtain ⟨P, hP⟩ : ∃ P, printS l = P := ⟨_, rfl⟩
  rw [hP]
  have HP := Lib.hid hP
  clear hln hsz hl hP
  have HA : Hid (PrG w l R n (n + 1) (.int .i64 0) (w.alloc (.cells #[.pointer none, .slice none 0 0] 106))) :=
    ⟨0, [], rfl, Nat.zero_le _, by omega, WB.fresh w, Keeps.none (grown_alloc _ _ _), hg.still (grown_alloc _ _ _), by decide, hR⟩
  have H6 : Hid (6 ≤ w.heap.size) := hg.size
  clear hg hR
  go_enter Tryz.func37, Tryz.ntmps37
  go_wp2_with fail
  go_loopg [12] (n + 1) (fun k u wr => Hid (PrG w l R n k u wr))
  case atStart => exact HA
  case round =>
    obtain ⟨i, acc, rfl, hi, hk, hwb, hkp, hgd, hacc, hlp⟩ := hrel.out
    have HWB := Lib.hid hwb
    have HK := Lib.hid hkp
    have HGD := Lib.hid hgd
    have HLP := Lib.hid hlp
    have HACC := Lib.hid hacc
    clear hrel hwb hkp hgd hlp hacc
    have hbel : Hid (Below w.heap.size w wr) := by
      rcases HK.out.below with hb | hb
      · exact hb
      · exact ⟨HK.out.os, HK.out.tape, HK.out.output, HK.out.size, fun k hk => HK.out.block k hk (by omega) (.inl hk)⟩
    by_cases hlt : i < n
    · obtain ⟨x, hx⟩ : ∃ x, l[i]? = some x := ⟨l[i]'(by rw [HLN.out]; exact hlt), List.getElem?_eq_getElem _⟩
      have HX := Lib.hid hx
      have hdrop : l.drop i = x :: l.drop (i + 1) := by
        have hil : i < l.length := by rw [HLN.out]; exact hlt
        rw [List.drop_eq_getElem_cons hil]
        congr 1
        exact Option.some.inj ((List.getElem?_eq_getElem hil).symm.trans hx)
      have hlc := HLP.out
      rw [hdrop, linesP] at hlc
      have HLC1 := Lib.hid hlc
      have HSZ1 := Lib.hid (HSZ0.out x (List.mem_of_getElem? hx))
      obtain ⟨g1, o1, cap1, e1, hl1, A, B, q1, na, nb⟩ := H.out.later HK.out.size (fun g hg => hbel.out.block g hg) hx
      injection e1 with e1a e1b e1c
      subst e1a e1c
      have HLC := Lib.hid (HLC0.out x (List.mem_of_getElem? hx))
      clear hdrop hlc hx e1b
      obtain ⟨kind, name, xa, xb, rule, N, d, K, snap⟩ := x
      have x0 := q1 0 (by decide)
      have x1 := q1 1 (by decide)
      have x2 := q1 2 (by decide)
      have x3 := q1 3 (by decide)
      have x4 := q1 4 (by decide)
      have x5 := q1 5 (by decide)
      have x6 := q1 6 (by decide)
      have x7 := q1 7 (by decide)
      have x8 := q1 8 (by decide)
      have x9 := q1 9 (by decide)
      have x10 := q1 10 (by decide)
      have x11 := q1 11 (by decide)
      have x12 := q1 12 (by decide)
      simp only [stCells, List.getElem?_cons_succ, List.getElem?_cons_zero, Nat.add_zero] at x0 x1 x2 x3 x4 x5 x6 x7 x8 x9 x10 x11 x12
      have NA := Lib.hid na
      have NB := Lib.hid nb
      clear na nb q1
      go_wp2_with fail
      have HA2 : Hid (wr.grownBy (wr.alloc (.cells #[.int .i64 kind, .string (bs name), .int .i64 A.k, .string A.s, .slice A.a A.n A.c, .int .i64 B.k, .string B.s, .slice B.a B.n B.c, .int .i64 rule, .int .i64 N, .int .i64 d, .int .i64 K, .bool snap] 39)) none) := grown_alloc _ _ _
      refine (HLC.out A B w.heap.size acc _ (HWB.out.still HA2.out) H6.out (HGD.out.still HA2.out) (NA.out.keeps (Keeps.none HA2.out)) (NB.out.keeps (Keeps.none HA2.out)) (by have h1 := HACC.out; have h2 := HSZ1.out; omega)).mono ?_
      rintro e w3 ⟨rfl, hw3, hk3⟩
      have K3 : Hid (Keeps w.heap.size w w3) := HK.out.trans ((Keeps.none HA2.out).trans hk3)
      have G3 : Hid (Good w3) := (HGD.out.still HA2.out).keeps hk3 (HWB.out.still HA2.out).lt H6.out
      have W3 := Lib.hid hw3
      clear hw3 hk3 NA NB HWB HK HGD HA2 x0 x1 x2 x3 x4 x5 x6 x7 x8 x9 x10 x11 x12
      obtain ⟨M, hM⟩ : ∃ M, (acc ++ lineP ⟨kind, name, xa, xb, rule, N, d, K, snap⟩).length = M := ⟨_, rfl⟩
      have hMb : M ≤ 140737488355328 := by have h1 := HACC.out; have h2 := HSZ1.out; rw [← hM, List.length_append]; omega
      have HM : Hid ((Lib.byteCells (acc ++ lineP ⟨kind, name, xa, xb, rule, N, d, K, snap⟩)).length = M) := by
        show _ = _
        rw [Lib.byteCells_length, hM]
      have hlc := HLC1.out
      rw [hM] at hlc
      have HLC2 := Lib.hid hlc
      have HMM := Lib.hid hM
      clear hM hlc HLC1 HSZ1
      by_cases hbig : 131072 < M
      · obtain rfl : R = none := by have h := HLC2.out; rw [if_pos hbig] at h; exact h.symm
        clear HLC2
        go_wp2_with fail
        refine (Tryz.Builder_Len w.heap.size w.heap.size _ w3 W3.out).mono ?_
        rintro e w4 ⟨rfl, rfl⟩
        rw [HM.out]
        go_wp2
        go_ret2
        obtain rfl : P = none := by rw [← HP.out, printS, HR.out]
        exact ⟨rfl, K3.out.belowH⟩
      · have hrest : linesP (l.drop (i + 1)) (acc ++ lineP ⟨kind, name, xa, xb, rule, N, d, K, snap⟩) = R := by have h := HLC2.out; rw [if_neg hbig] at h; exact h
        have HREST := Lib.hid hrest
        clear HLC2 hrest
        go_wp2_with fail
        refine (Tryz.Builder_Len w.heap.size w.heap.size _ w3 W3.out).mono ?_
        rintro e w4 ⟨rfl, rfl⟩
        rw [HM.out]
        go_wp2
        go_roundg (gk - 1)
        case measure => omega
        case rel => exact ⟨i + 1, _, by go_num, by omega, by omega, W3.out, K3.out, G3.out, by rw [HMM.out]; omega, HREST.out⟩
    · have hin : i = n := by omega
      subst hin
      obtain rfl : R = some acc := by
        have h1 := HLP.out
        rw [List.drop_eq_nil_of_le (by rw [HLN.out]; exact Nat.le_refl _), linesP] at h1
        exact h1.symm
      have HACC2 : Hid (acc.length ≤ 131072) := HACC.out
      clear HLP HACC
      go_wp2_with fail
      have HF : Hid (Lib.IsBuilderF 106 5 w.heap.size w.heap.size (Lib.byteCells acc) wr) := Lib.IsBuilderF.of HWB.out
      refine (Tryz.Builder_String_any_f w.heap.size w.heap.size acc wr HF.out (Nat.le_of_lt HWB.out.lt)).mono ?_
      rintro e w5 ⟨rfl, hf5, hb5⟩
      have F5 := Lib.hid hf5
      have B5 : Hid (Below w.heap.size w w5) := hbel.out.trans hb5
      have G5 : Hid (Good w5) := HGD.out.below hb5 H6.out
      clear hf5 hb5
      have HSZ : Hid ((bs acc).size ≤ maxLen) := by
        show _ ≤ _
        have := HACC2.out
        rw [bs_size]; unfold maxLen; omega
      go_wp2_with fail
      refine (parse_any (bs acc) w5 HSZ.out G5.out).mono ?_
      rintro e w6 ⟨hE, hb6⟩
      obtain ⟨Q, hQ⟩ : ∃ Q, parseS acc = Q := ⟨_, rfl⟩
      have hE2 : ParseEnd w5.heap.size Q e w6 := by rw [← hQ]; exact hE
      have HQ := Lib.hid hQ
      have B6 : Hid (Below w.heap.size w w6) := B5.out.trans (hb6.mono B5.out.size)
      have F6 := Lib.hid (builderF_still F5.out hb6)
      clear hE hb6 F5 B5 G5 HSZ hQ
      cases Q with
      | error k =>
        have hE3 : e = .returned (.tuple #[.slice none 0 0, .int .i64 k, .int .i64 21]) := hE2
        subst hE3
        clear hE2
        obtain rfl : P = none := by rw [← HP.out]; simp only [printS, HR.out, HQ.out]
        go_wp2
        go_ret2
        exact ⟨rfl, B6.out⟩
      | ok m =>
        obtain ⟨v2, cs, he, hown, hr⟩ := hE2
        subst he
        have S2 := Lib.hid (stsIs_of_owns hown hr)
        have S1 : Hid (StsIs w6 (.slice a i c) l) := H.out.still (grown_of_below B6.out none)
        obtain ⟨b, hb⟩ : ∃ b, Sts.same l m = b := ⟨_, rfl⟩
        have HB := Lib.hid hb
        clear hown hr hb
        go_wp2_with fail
        refine (eqStsG l m _ _ _ S1.out S2.out).mono ?_
        rintro e w7 ⟨he, hg7⟩
        rw [HB.out] at he
        subst he
        have hb7 : Below w6.heap.size w6 w7 := ⟨hg7.os, hg7.tape, hg7.output, hg7.size, fun k hk => hg7.block k hk (by simp)⟩
        have B7 : Hid (Below w.heap.size w w7) := B6.out.trans (hb7.mono B6.out.size)
        have F7 := Lib.hid (builderF_still F6.out hb7)
        have HS7 : Hid (w.heap.size ≤ w7.heap.size) := B7.out.size
        clear hg7 hb7 F6 B6 S1 S2
        cases b with
        | false =>
          obtain rfl : P = none := by rw [← HP.out]; simp only [printS, HR.out, HQ.out, HB.out]; rfl
          go_wp2
          go_ret2
          exact ⟨rfl, B7.out⟩
        | true =>
          obtain rfl : P = some acc := by rw [← HP.out]; simp only [printS, HR.out, HQ.out, HB.out]; rfl
          go_wp2_with fail
          refine (Tryz.Builder_String_any_f w.heap.size w.heap.size acc w7 F7.out HS7.out).mono ?_
          rintro e w8 ⟨rfl, _, hb8⟩
          have B8 : Hid (Below w.heap.size w w8) := B7.out.trans hb8
          clear hb8 F7 HS7 B7
          go_wp2
          go_ret2
          exact ⟨rfl, B8.out⟩
end Go.Proofs.YtdjklnlkocconaaGreatDoor
