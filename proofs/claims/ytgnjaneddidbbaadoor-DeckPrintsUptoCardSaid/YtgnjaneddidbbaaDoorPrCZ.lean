/-
  deck.Print of statements whose text is a deck of just these: the walk.
  The law's known() for decks: true.
-/
import Derived.Test.YtgnjaneddidbbaaDoorPrintDZ
import Derived.Test.YtgnjaneddidbbaaDoorSmAZ
import Derived.Test.YtgnjaneddidbbaaDoorPaFZ
import Derived.Lib.FrozenHead
namespace Go.Proofs.YtgnjaneddidbbaaDoor
open Go Go.RowKit

/-- What line does at a statement. -/
def LineC (x : St) : Prop := ∀ (A B : NV) (b : Nat) (acc : List UInt8) (w : World), WB w b acc → 6 ≤ b → Good w → NdIs (· < b) w x.a A.val → NdIs (· < b) w x.b B.val → acc.length + (lineP x).length ≤ 140737488355328 →
  Calls Tryd.prog 34 #[stVal x A B, .pointer (some ⟨b, 0, none⟩)] w fun e w' => e = .returned (.tuple #[]) ∧ WB w' b (acc ++ lineP x) ∧ Keeps b w w'

/-- A statement out of a slice of them, in a later world. -/
theorem StsIs.later {w w' : World} {v : Value} {l : List St} (h : StsIs w v l) (hs : w.heap.size ≤ w'.heap.size) (hb : ∀ g, g < w.heap.size → w'.heap[g]? = w.heap[g]?) {k : Nat} {x : St} (hk : l[k]? = some x) : ∃ g o cap, v = .slice (some ⟨g, o, none⟩) l.length cap ∧ g < w.heap.size ∧ ∃ A B : NV, (∀ j, j < 13 → w'.cell? ⟨g, o + k * 13 + j, none⟩ = (stCells x A B)[j]?) ∧ NdIs (· < w.heap.size) w' x.a A.val ∧ NdIs (· < w.heap.size) w' x.b B.val := by
  obtain ⟨g, o, cap, e, hl, A, B, h1, h2, h3⟩ := h.get hk
  refine ⟨g, o, cap, e, hl, A, B, fun j hj => ?_, NdIs.kept hs (fun g hl _ => ⟨hb g hl, hl⟩) _ _ h2, NdIs.kept hs (fun g hl _ => ⟨hb g hl, hl⟩) _ _ h3⟩
  rw [← h1 j hj]
  exact World.cell?_of_block (a := ⟨g, o + k * 13 + j, none⟩) (hb g hl)

/-- Print at work: statements from i on are to come. -/
def PrAt (w : World) (l : List St) (t : List UInt8) (n : Nat) (k : Nat) (u : Value) (wr : World) : Prop :=
  ∃ (i : Nat) (acc : List UInt8), u = .int .i64 i ∧ i ≤ n ∧ n < k + i ∧ WB wr w.heap.size acc ∧ Keeps w.heap.size w wr ∧ Good wr ∧ linesP (l.drop i) acc = some t

theorem WB.fresh (w : World) : WB (w.alloc (.cells #[.pointer none, .slice none 0 0] 82)) w.heap.size [] := Lib.fresh_isBuilder _ _ w

theorem linesP_cons {x : St} {r : List St} {acc t : List UInt8} (h : linesP (x :: r) acc = some t) : (acc ++ lineP x).length ≤ 131072 ∧ linesP r (acc ++ lineP x) = some t := by
  rw [linesP] at h
  by_cases hc : 131072 < (acc ++ lineP x).length
  · rw [if_pos hc] at h; cases h
  · rw [if_neg hc] at h; exact ⟨by omega, h⟩

theorem stsIs_of_owns {w : World} {B : Nat} {v : Value} {l : List St} {cs : List Value} (h : w.ownsRow B 73 13 v l.length cs) (hr : StRow Any w l cs) : StsIs w v l := by
  refine ⟨?_, ?_⟩
  · obtain ⟨_, ⟨_, h0⟩ | ⟨g, cap, cur, _, _, _, hc, hm, _⟩⟩ := h
    · omega
    · unfold maxLen at hm; omega
  · cases l with
    | nil =>
      obtain ⟨a, cap, rfl⟩ := owns_nil h
      exact ⟨a, cap, rfl, .inl rfl⟩
    | cons x l =>
      obtain ⟨g, cap, rfl, _, hg, _, hc⟩ := owns_slice h (by simp)
      exact ⟨_, cap, rfl, .inr ⟨g, 0, rfl, hg, cs, fun j u hu => by rw [Nat.zero_add]; exact hc j u hu, hr⟩⟩

theorem builderF_still {w w' : World} {b : Nat} {cs : List Value} (h : Lib.IsBuilderF 82 5 b b cs w) (hb : Below w.heap.size w w') : Lib.IsBuilderF 82 5 b b cs w' := by
  have hg := grown_of_below hb none
  have key : ∀ p, Lib.BuilderAtF 82 5 b b p cs w → Lib.BuilderAtF 82 5 b b p cs w' := by
    intro p h
    have hlt := h.lt
    obtain ⟨hB, v, hbk, hown, hne⟩ := h
    refine ⟨hB, v, (hg.block b hlt (by simp)).trans hbk, hown.kept hg ?_, hne⟩
    cases v.ownBlock with
    | none => exact .inl rfl
    | some k => exact .inr (by simp)
  rcases h with h | h
  · exact .inl (key _ h)
  · exact .inr (key _ h)

set_option maxHeartbeats 4000000 in
set_option maxRecDepth 100000 in
theorem print_ok (l : List St) (t : List UInt8) (v : Value) (w : World) (hl : ∀ x ∈ l, LineC x) (h : StsIs w v l) (hg : Good w) (ht : linesP l [] = some t) (htl : t.length ≤ 131072) (hp : parseS t = .ok l) :
    Calls Tryd.prog 18 #[v] w fun e w' => e = .returned (.tuple #[.string (bs t), .int .i64 0]) ∧ Below w.heap.size w w' := by
  have H := Lib.hid h
  obtain ⟨hn, a, c, rfl, _⟩ := h
  obtain ⟨n, hln⟩ : ∃ n, l.length = n := ⟨_, rfl⟩
  rw [hln] at hn H ⊢
  have HLN := Lib.hid hln
  have HP := Lib.hid hp
  clear hln hp
  have HA : Hid (PrAt w l t n (n + 1) (.int .i64 0) (w.alloc (.cells #[.pointer none, .slice none 0 0] 82))) :=
    ⟨0, [], rfl, Nat.zero_le _, by omega, WB.fresh w, Keeps.none (grown_alloc _ _ _), hg.still (grown_alloc _ _ _), ht⟩
  have H6 : Hid (6 ≤ w.heap.size) := hg.size
  clear hg ht
  go_enter Tryd.func18, Tryd.ntmps18
  go_wp2_with fail
  go_loopg [12] (n + 1) (fun k u wr => Hid (PrAt w l t n k u wr))
  case atStart => exact HA
  case round =>
    obtain ⟨i, acc, rfl, hi, hk, hwb, hkp, hgd, hlp⟩ := hrel.out
    have HWB := Lib.hid hwb
    have HK := Lib.hid hkp
    have HGD := Lib.hid hgd
    have HLP := Lib.hid hlp
    clear hrel hwb hkp hgd hlp
    have hbel : Hid (Below w.heap.size w wr) := by
      rcases HK.out.below with hb | hb
      · exact hb
      · exact ⟨HK.out.os, HK.out.tape, HK.out.output, HK.out.size, fun k hk => HK.out.block k hk (by omega) (.inl hk)⟩
    by_cases hlt : i < n
    · obtain ⟨x, hx⟩ : ∃ x, l[i]? = some x := ⟨l[i]'(by rw [HLN.out]; exact hlt), List.getElem?_eq_getElem _⟩
      have HX := Lib.hid hx
      have hdrop : l.drop i = x :: l.drop (i + 1) := by
        have hil : i < l.length := by rw [HLN.out]; exact hlt
        rw [List.drop_eq_getElem_cons hil]
        congr 1
        exact Option.some.inj ((List.getElem?_eq_getElem hil).symm.trans hx)
      have hlc := HLP.out
      rw [hdrop] at hlc
      obtain ⟨hlen, hrest⟩ := linesP_cons hlc
      have HREST := Lib.hid hrest
      have HLEN := Lib.hid hlen
      obtain ⟨g1, o1, cap1, e1, hl1, A, B, q1, na, nb⟩ := H.out.later HK.out.size (fun g hg => hbel.out.block g hg) hx
      cases e1
      have HLC := Lib.hid (hl x (List.mem_of_getElem? hx))
      clear hdrop hlc hrest hlen hx
      obtain ⟨kind, name, xa, xb, rule, N, d, K, snap⟩ := x
      have x0 := q1 0 (by decide)
      have x1 := q1 1 (by decide)
      have x2 := q1 2 (by decide)
      have x3 := q1 3 (by decide)
      have x4 := q1 4 (by decide)
      have x5 := q1 5 (by decide)
      have x6 := q1 6 (by decide)
      have x7 := q1 7 (by decide)
      have x8 := q1 8 (by decide)
      have x9 := q1 9 (by decide)
      have x10 := q1 10 (by decide)
      have x11 := q1 11 (by decide)
      have x12 := q1 12 (by decide)
      simp only [stCells, List.getElem?_cons_succ, List.getElem?_cons_zero, Nat.add_zero] at x0 x1 x2 x3 x4 x5 x6 x7 x8 x9 x10 x11 x12
      have NA := Lib.hid na
      have NB := Lib.hid nb
      clear na nb q1
      go_wp2_with fail
      have HA2 : Hid (wr.grownBy (wr.alloc (.cells #[.int .i64 kind, .string (bs name), .int .i64 A.k, .string A.s, .slice A.a A.n A.c, .int .i64 B.k, .string B.s, .slice B.a B.n B.c, .int .i64 rule, .int .i64 N, .int .i64 d, .int .i64 K, .bool snap] 73)) none) := grown_alloc _ _ _
      refine (HLC.out A B w.heap.size acc _ (HWB.out.still HA2.out) H6.out (HGD.out.still HA2.out) (NA.out.keeps (Keeps.none HA2.out)) (NB.out.keeps (Keeps.none HA2.out)) (by have h1 := HLEN.out; rw [List.length_append] at h1; omega)).mono ?_
      rintro e w3 ⟨rfl, hw3, hk3⟩
      have K3 : Hid (Keeps w.heap.size w w3) := HK.out.trans ((Keeps.none HA2.out).trans hk3)
      have G3 : Hid (Good w3) := (HGD.out.still HA2.out).keeps hk3 (HWB.out.still HA2.out).lt H6.out
      have W3 := Lib.hid hw3
      clear hw3 hk3 NA NB HWB HK HGD HA2 x0 x1 x2 x3 x4 x5 x6 x7 x8 x9 x10 x11 x12
      obtain ⟨M, hM⟩ : ∃ M, (acc ++ lineP ⟨kind, name, xa, xb, rule, N, d, K, snap⟩).length = M := ⟨_, rfl⟩
      have hM2 : M ≤ 131072 := by rw [← hM]; exact HLEN.out
      have HM : Hid ((Lib.byteCells (acc ++ lineP ⟨kind, name, xa, xb, rule, N, d, K, snap⟩)).length = M) := by
        show _ = _
        rw [Lib.byteCells_length, hM]
      clear hM
      go_wp2_with fail
      refine (Tryd.Builder_Len w.heap.size w.heap.size _ w3 W3.out).mono ?_
      rintro e w4 ⟨rfl, rfl⟩
      rw [HM.out]
      go_wp2
      go_roundg (gk - 1)
      case measure => omega
      case rel => exact ⟨i + 1, _, by go_num, by omega, by omega, W3.out, K3.out, G3.out, HREST.out⟩
    · have hin : i = n := by omega
      subst hin
      have hacc : acc = t := by
        have h1 := HLP.out
        rw [List.drop_eq_nil_of_le (by rw [HLN.out]; exact Nat.le_refl _), linesP] at h1
        exact Option.some.inj h1
      subst hacc
      go_wp2_with fail
      have HF : Hid (Lib.IsBuilderF 82 5 w.heap.size w.heap.size (Lib.byteCells acc) wr) := Lib.IsBuilderF.of HWB.out
      refine (Tryd.Builder_String_any_f w.heap.size w.heap.size acc wr HF.out (Nat.le_of_lt HWB.out.lt)).mono ?_
      rintro e w5 ⟨rfl, hf5, hb5⟩
      have F5 := Lib.hid hf5
      have B5 : Hid (Below w.heap.size w w5) := hbel.out.trans hb5
      have G5 : Hid (Good w5) := HGD.out.below hb5 H6.out
      clear hf5 hb5
      have HSZ : Hid ((bs acc).size ≤ maxLen) := by
        show _ ≤ _
        rw [bs_size]; unfold maxLen; omega
      go_wp2_with fail
      refine (parse_any (bs acc) w5 HSZ.out G5.out).mono ?_
      rintro e w6 ⟨hE, hb6⟩
      have hE2 : ParseEnd w5.heap.size (.ok l) e w6 := by rw [← HP.out]; exact hE
      obtain ⟨v2, cs, rfl, hown, hr⟩ := hE2
      have S2 := Lib.hid (stsIs_of_owns hown hr)
      have B6 : Hid (Below w.heap.size w w6) := B5.out.trans (hb6.mono B5.out.size)
      have S1 : Hid (StsIs w6 (.slice a i c) l) := H.out.still (grown_of_below B6.out none)
      have F6 := Lib.hid (builderF_still F5.out hb6)
      clear hE hown hr hb6 F5 B5 G5 HSZ
      go_wp2_with fail
      refine (eqStmts l _ _ _ S1.out S2.out).mono ?_
      rintro e w7 ⟨rfl, hg7⟩
      have hb7 : Below w6.heap.size w6 w7 := ⟨hg7.os, hg7.tape, hg7.output, hg7.size, fun k hk => hg7.block k hk (by simp)⟩
      have B7 : Hid (Below w.heap.size w w7) := B6.out.trans (hb7.mono B6.out.size)
      have F7 := Lib.hid (builderF_still F6.out hb7)
      have HS7 : Hid (w.heap.size ≤ w7.heap.size) := B7.out.size
      clear hg7 hb7 F6 B6 S1 S2
      go_wp2_with fail
      refine (Tryd.Builder_String_any_f w.heap.size w.heap.size acc w7 F7.out HS7.out).mono ?_
      rintro e w8 ⟨rfl, _, hb8⟩
      have B8 : Hid (Below w.heap.size w w8) := B7.out.trans hb8
      clear hb8 F7 HS7 B7
      go_wp2
      go_ret2
      exact ⟨rfl, B8.out⟩
end Go.Proofs.YtgnjaneddidbbaaDoor

namespace Go.Proofs.YtgnjaneddidbbaaDoor
open Go Go.RowKit

theorem lineC_let (name : List UInt8) (xa xb : Nd) (rule n d k : Int) (snap : Bool) (hr : Rng n ∧ Rng k) : LineC ⟨2, name, xa, xb, rule, n, d, k, snap⟩ := by
  intro A B b acc w hw h6 hg ha hb hl
  have e : lineP ⟨2, name, xa, xb, rule, n, d, k, snap⟩ = [108, 101, 116, 32] ++ name ++ [32, 61, 32] ++ textP xa 0 ++ [59, 10] := by
    simp [lineP, stWord]
  rw [e] at hl ⊢
  exact line_let name xa xb rule n d k snap A B b acc _ _ w hw h6 hg ha hb hr rfl rfl hl _ _ ⟨rfl, rfl⟩

def d1 : List UInt8 := [108, 101, 116, 32, 97, 32, 61, 32, 98, 32, 97, 110, 100, 32, 40, 99, 32, 111, 114, 32, 100, 41, 32, 97, 110, 100, 32, 98, 111, 120, 101, 115, 32, 101, 59]
def d1p : List UInt8 := [108, 101, 116, 32, 97, 32, 61, 32, 98, 32, 97, 110, 100, 32, 40, 99, 32, 111, 114, 32, 100, 41, 32, 97, 110, 100, 32, 98, 111, 120, 101, 115, 32, 101, 59, 10]
def x1 : St := ⟨2, [97], .mk 4 [] [.mk 4 [] [.mk 1 [98] [], .mk 5 [] [.mk 1 [99] [], .mk 1 [100] []]], .mk 3 [101] []], .zero, 0, 0, 0, 0, false⟩
theorem k1 : parseS [108, 101, 116, 32, 97, 32, 61, 32, 98, 32, 97, 110, 100, 32, 40, 99, 32, 111, 114, 32, 100, 41, 32, 97, 110, 100, 32, 98, 111, 120, 101, 115, 32, 101, 59] = .ok [x1] := by rfl
theorem k1l : linesP [x1] [] = some [108, 101, 116, 32, 97, 32, 61, 32, 98, 32, 97, 110, 100, 32, 40, 99, 32, 111, 114, 32, 100, 41, 32, 97, 110, 100, 32, 98, 111, 120, 101, 115, 32, 101, 59, 10] := by rfl
theorem k1p : parseS [108, 101, 116, 32, 97, 32, 61, 32, 98, 32, 97, 110, 100, 32, 40, 99, 32, 111, 114, 32, 100, 41, 32, 97, 110, 100, 32, 98, 111, 120, 101, 115, 32, 101, 59, 10] = .ok [x1] := by rfl
theorem k2 : parseS [99, 104, 101, 99, 107, 32, 119, 32, 61, 32, 119, 105, 100, 116, 104, 40, 97, 44, 32, 48, 41, 59] = .error 19 := by rfl
theorem k3 : parseS [105, 110, 112, 117, 116, 32, 97, 32, 61, 32, 49, 47, 50] = .error 13 := by rfl
theorem k4 : parseS [108, 101, 116, 32, 97, 110, 100, 32, 61, 32, 98, 59] = .error 4 := by rfl

theorem parse_is (L : List UInt8) (R : Except Int (List St)) (s : ByteArray) (w : World) (hs : Hid (s.data.toList = L ∧ s.size ≤ maxLen)) (hR : Hid (parseS L = R)) (hg : Good w) :
    Calls Tryd.prog 14 #[.string s] w fun e w' => ParseEnd w.heap.size R e w' ∧ Below w.heap.size w w' := by
  rw [← hR.out, ← hs.out.1]
  exact parse_any s w hs.out.2 hg

theorem parse_not (L : List UInt8) (k : Int) (s : ByteArray) (w : World) (hs : Hid (s.data.toList = L ∧ s.size ≤ maxLen)) (hR : Hid (parseS L = .error k)) (hg : Good w) :
    Calls Tryd.prog 14 #[.string s] w fun e w' => e = .returned (.tuple #[.slice none 0 0, .int .i64 k, .int .i64 21]) ∧ Below w.heap.size w w' :=
  (parse_is L _ s w hs hR hg).mono fun _ _ ⟨he, hb⟩ => ⟨he, hb⟩

set_option maxHeartbeats 2000000 in
set_option maxRecDepth 100000 in
theorem known23_any (w : World) (hg : Good w) :
    Calls Tryd.prog 16 #[] w fun e w' => e = .returned (.bool true) ∧ Below w.heap.size w w' := by
  have G0 := Lib.hid hg
  clear hg
  go_enter Tryd.func16, Tryd.ntmps16
  go_wp2_with fail
  refine (parse_is [108, 101, 116, 32, 97, 32, 61, 32, 98, 32, 97, 110, 100, 32, 40, 99, 32, 111, 114, 32, 100, 41, 32, 97, 110, 100, 32, 98, 111, 120, 101, 115, 32, 101, 59] _ _ w ⟨rfl, by decide⟩ k1 G0.out).mono ?_
  rintro e w1 ⟨hE, hb1⟩
  obtain ⟨v, cs, rfl, hown, hr⟩ := hE
  have HS := Lib.hid (stsIs_of_owns hown hr)
  obtain ⟨g, cap, rfl, hB, hgl, _, hc⟩ := owns_slice hown (by decide)
  obtain ⟨A, B, rest, rfl, ha, _, _⟩ := hr
  have hk4 : A.k = 4 := by
    have ha2 : NdIs _ _ (.mk 4 [] _) A.val := ha
    unfold NdIs at ha2
    obtain ⟨a', c', he, _⟩ := ha2
    unfold NV.val at he
    cases A
    cases he
    rfl
  have hcell : w1.cell? ⟨g, 2, none⟩ = some (.int .i64 4) := by
    rw [hc 2 (.int .i64 A.k) rfl, hk4]
  have HC := Lib.hid hcell
  have HGL := Lib.hid hgl
  have G1 : Hid (Good w1) := G0.out.at hb1
  have B1 := Lib.hid hb1
  have hone : ([x1] : List St).length = 1 := rfl
  rw [hone] at HS ⊢
  clear hb1 hcell hgl hown hc ha hk4 hone G0
  go_wp2_with fail
  refine (print_ok [x1] [108, 101, 116, 32, 97, 32, 61, 32, 98, 32, 97, 110, 100, 32, 40, 99, 32, 111, 114, 32, 100, 41, 32, 97, 110, 100, 32, 98, 111, 120, 101, 115, 32, 101, 59, 10] _ w1 (fun x hx => by rw [List.mem_singleton.1 hx]; exact lineC_let _ _ _ _ _ _ _ _ ⟨⟨by decide, by decide⟩, ⟨by decide, by decide⟩⟩) HS.out G1.out k1l (by decide) k1p).mono ?_
  rintro e w2 ⟨rfl, hb2⟩
  have G2 : Hid (Good w2) := G1.out.at hb2
  have B2 : Hid (Below w1.heap.size w1 w2) := hb2
  clear hb2 G1 HS
  go_wp2_with fail
  refine (parse_not [99, 104, 101, 99, 107, 32, 119, 32, 61, 32, 119, 105, 100, 116, 104, 40, 97, 44, 32, 48, 41, 59] 19 _ w2 ⟨rfl, by decide⟩ k2 G2.out).mono ?_
  rintro e w3 ⟨rfl, hb3⟩
  have G3 : Hid (Good w3) := G2.out.at hb3
  have B3 : Hid (Below w1.heap.size w1 w3) := B2.out.trans (hb3.mono B2.out.size)
  clear hb3 G2 B2
  go_wp2_with fail
  refine (parse_not [105, 110, 112, 117, 116, 32, 97, 32, 61, 32, 49, 47, 50] 13 _ w3 ⟨rfl, by decide⟩ k3 G3.out).mono ?_
  rintro e w4 ⟨rfl, hb4⟩
  have G4 : Hid (Good w4) := G3.out.at hb4
  have B4 : Hid (Below w1.heap.size w1 w4) := B3.out.trans (hb4.mono B3.out.size)
  clear hb4 G3 B3
  go_wp2_with fail
  refine (parse_not [108, 101, 116, 32, 97, 110, 100, 32, 61, 32, 98, 59] 4 _ w4 ⟨rfl, by decide⟩ k4 G4.out).mono ?_
  rintro e w5 ⟨rfl, hb5⟩
  have B5 : Hid (Below w1.heap.size w1 w5) := B4.out.trans (hb5.mono B4.out.size)
  clear hb5 G4 B4
  have c2 : w5.cell? ⟨g, 2, none⟩ = some (.int .i64 4) := (B5.out.cell (p := ⟨g, 2, none⟩) HGL.out).trans HC.out
  have hs : ((bs [108, 101, 116, 32, 97, 32, 61, 32, 98, 32, 97, 110, 100, 32, 40, 99, 32, 111, 114, 32, 100, 41, 32, 97, 110, 100, 32, 98, 111, 120, 101, 115, 32, 101, 59, 10]).toList == [108, 101, 116, 32, 97, 32, 61, 32, 98, 32, 97, 110, 100, 32, 40, 99, 32, 111, 114, 32, 100, 41, 32, 97, 110, 100, 32, 98, 111, 120, 101, 115, 32, 101, 59, 10]) = true := by rw [bs_toList]; rfl
  go_wp2
  go_ret
  exact ⟨rfl, B1.out.trans (B5.out.mono B1.out.size)⟩
end Go.Proofs.YtgnjaneddidbbaaDoor
