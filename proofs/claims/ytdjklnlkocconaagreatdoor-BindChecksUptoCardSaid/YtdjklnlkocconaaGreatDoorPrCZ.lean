/-
  deck.Print of statements whose text is a deck of just these: the walk.
-/
import Derived.Test.YtdjklnlkocconaaGreatDoorPrintDZ
import Derived.Test.YtdjklnlkocconaaGreatDoorSmAZ
import Derived.Test.YtdjklnlkocconaaGreatDoorPaFZ
import Derived.Lib.FrozenHead
namespace Go.Proofs.YtdjklnlkocconaaGreatDoor
open Go Go.RowKit

/-- What line does at a statement. -/
def LineC (x : St) : Prop := ∀ (A B : NV) (b : Nat) (acc : List UInt8) (w : World), WB w b acc → 6 ≤ b → Good w → NdIs (· < b) w x.a A.val → NdIs (· < b) w x.b B.val → acc.length + (lineP x).length ≤ 140737488355328 →
  Calls Tryz.prog 64 #[stVal x A B, .pointer (some ⟨b, 0, none⟩)] w fun e w' => e = .returned (.tuple #[]) ∧ WB w' b (acc ++ lineP x) ∧ Keeps b w w'

/-- A statement out of a slice of them, in a later world. -/
theorem StsIs.later {w w' : World} {v : Value} {l : List St} (h : StsIs w v l) (hs : w.heap.size ≤ w'.heap.size) (hb : ∀ g, g < w.heap.size → w'.heap[g]? = w.heap[g]?) {k : Nat} {x : St} (hk : l[k]? = some x) : ∃ g o cap, v = .slice (some ⟨g, o, none⟩) l.length cap ∧ g < w.heap.size ∧ ∃ A B : NV, (∀ j, j < 13 → w'.cell? ⟨g, o + k * 13 + j, none⟩ = (stCells x A B)[j]?) ∧ NdIs (· < w.heap.size) w' x.a A.val ∧ NdIs (· < w.heap.size) w' x.b B.val := by
  obtain ⟨g, o, cap, e, hl, A, B, h1, h2, h3⟩ := h.get hk
  refine ⟨g, o, cap, e, hl, A, B, fun j hj => ?_, NdIs.kept hs (fun g hl _ => ⟨hb g hl, hl⟩) _ _ h2, NdIs.kept hs (fun g hl _ => ⟨hb g hl, hl⟩) _ _ h3⟩
  rw [← h1 j hj]
  exact World.cell?_of_block (a := ⟨g, o + k * 13 + j, none⟩) (hb g hl)

/-- Print at work: statements from i on are to come. -/
def PrAt (w : World) (l : List St) (t : List UInt8) (n : Nat) (k : Nat) (u : Value) (wr : World) : Prop :=
  ∃ (i : Nat) (acc : List UInt8), u = .int .i64 i ∧ i ≤ n ∧ n < k + i ∧ WB wr w.heap.size acc ∧ Keeps w.heap.size w wr ∧ Good wr ∧ linesP (l.drop i) acc = some t

theorem WB.fresh (w : World) : WB (w.alloc (.cells #[.pointer none, .slice none 0 0] 106)) w.heap.size [] := Lib.fresh_isBuilder _ _ w

theorem linesP_cons {x : St} {r : List St} {acc t : List UInt8} (h : linesP (x :: r) acc = some t) : (acc ++ lineP x).length ≤ 131072 ∧ linesP r (acc ++ lineP x) = some t := by
  rw [linesP] at h
  by_cases hc : 131072 < (acc ++ lineP x).length
  · rw [if_pos hc] at h; cases h
  · rw [if_neg hc] at h; exact ⟨by omega, h⟩

theorem stsIs_of_owns {w : World} {B : Nat} {v : Value} {l : List St} {cs : List Value} (h : w.ownsRow B 39 13 v l.length cs) (hr : StRow Any w l cs) : StsIs w v l := by
  refine ⟨?_, ?_⟩
  · obtain ⟨_, ⟨_, h0⟩ | ⟨g, cap, cur, _, _, _, hc, hm, _⟩⟩ := h
    · omega
    · unfold maxLen at hm; omega
  · cases l with
    | nil =>
      obtain ⟨a, cap, rfl⟩ := owns_nil h
      exact ⟨a, cap, rfl, .inl rfl⟩
    | cons x l =>
      obtain ⟨g, cap, rfl, _, hg, _, hc⟩ := owns_slice h (by simp)
      exact ⟨_, cap, rfl, .inr ⟨g, 0, rfl, hg, cs, fun j u hu => by rw [Nat.zero_add]; exact hc j u hu, hr⟩⟩

theorem builderF_still {w w' : World} {b : Nat} {cs : List Value} (h : Lib.IsBuilderF 106 5 b b cs w) (hb : Below w.heap.size w w') : Lib.IsBuilderF 106 5 b b cs w' := by
  have hg := grown_of_below hb none
  have key : ∀ p, Lib.BuilderAtF 106 5 b b p cs w → Lib.BuilderAtF 106 5 b b p cs w' := by
    intro p h
    have hlt := h.lt
    obtain ⟨hB, v, hbk, hown, hne⟩ := h
    refine ⟨hB, v, (hg.block b hlt (by simp)).trans hbk, hown.kept hg ?_, hne⟩
    cases v.ownBlock with
    | none => exact .inl rfl
    | some k => exact .inr (by simp)
  rcases h with h | h
  · exact .inl (key _ h)
  · exact .inr (key _ h)

set_option maxHeartbeats 4000000 in
set_option maxRecDepth 100000 in
theorem print_ok (l : List St) (t : List UInt8) (v : Value) (w : World) (hl : ∀ x ∈ l, LineC x) (h : StsIs w v l) (hg : Good w) (ht : linesP l [] = some t) (htl : t.length ≤ 131072) (hp : parseS t = .ok l) :
    Calls Tryz.prog 37 #[v] w fun e w' => e = .returned (.tuple #[.string (bs t), .int .i64 0]) ∧ Below w.heap.size w w' := by
  have H := Lib.hid h
  obtain ⟨hn, a, c, rfl, _⟩ := h
  obtain ⟨n, hln⟩ : ∃ n, l.length = n := ⟨_, rfl⟩
  rw [hln] at hn H ⊢
  have HLN := Lib.hid hln
  have HP := Lib.hid hp
  clear hln hp
  have HA : Hid (PrAt w l t n (n + 1) (.int .i64 0) (w.alloc (.cells #[.pointer none, .slice none 0 0] 106))) :=
    ⟨0, [], rfl, Nat.zero_le _, by omega, WB.fresh w, Keeps.none (grown_alloc _ _ _), hg.still (grown_alloc _ _ _), ht⟩
  have H6 : Hid (6 ≤ w.heap.size) := hg.size
  clear hg ht
  go_enter Tryz.func37, Tryz.ntmps37
  go_wp2_with fail
  go_loopg [12] (n + 1) (fun k u wr => Hid (PrAt w l t n k u wr))
  case atStart => exact HA
  case round =>
    obtain ⟨i, acc, rfl, hi, hk, hwb, hkp, hgd, hlp⟩ := hrel.out
    have HWB := Lib.hid hwb
    have HK := Lib.hid hkp
    have HGD := Lib.hid hgd
    have HLP := Lib.hid hlp
    clear hrel hwb hkp hgd hlp
    have hbel : Hid (Below w.heap.size w wr) := by
      rcases HK.out.below with hb | hb
      · exact hb
      · exact ⟨HK.out.os, HK.out.tape, HK.out.output, HK.out.size, fun k hk => HK.out.block k hk (by omega) (.inl hk)⟩
    by_cases hlt : i < n
    · obtain ⟨x, hx⟩ : ∃ x, l[i]? = some x := ⟨l[i]'(by rw [HLN.out]; exact hlt), List.getElem?_eq_getElem _⟩
      have HX := Lib.hid hx
      have hdrop : l.drop i = x :: l.drop (i + 1) := by
        have hil : i < l.length := by rw [HLN.out]; exact hlt
        rw [List.drop_eq_getElem_cons hil]
        congr 1
        exact Option.some.inj ((List.getElem?_eq_getElem hil).symm.trans hx)
      have hlc := HLP.out
      rw [hdrop] at hlc
      obtain ⟨hlen, hrest⟩ := linesP_cons hlc
      have HREST := Lib.hid hrest
      have HLEN := Lib.hid hlen
      obtain ⟨g1, o1, cap1, e1, hl1, A, B, q1, na, nb⟩ := H.out.later HK.out.size (fun g hg => hbel.out.block g hg) hx
      cases e1
      have HLC := Lib.hid (hl x (List.mem_of_getElem? hx))
      clear hdrop hlc hrest hlen hx
      obtain ⟨kind, name, xa, xb, rule, N, d, K, snap⟩ := x
      have x0 := q1 0 (by decide)
      have x1 := q1 1 (by decide)
      have x2 := q1 2 (by decide)
      have x3 := q1 3 (by decide)
      have x4 := q1 4 (by decide)
      have x5 := q1 5 (by decide)
      have x6 := q1 6 (by decide)
      have x7 := q1 7 (by decide)
      have x8 := q1 8 (by decide)
      have x9 := q1 9 (by decide)
      have x10 := q1 10 (by decide)
      have x11 := q1 11 (by decide)
      have x12 := q1 12 (by decide)
      simp only [stCells, List.getElem?_cons_succ, List.getElem?_cons_zero, Nat.add_zero] at x0 x1 x2 x3 x4 x5 x6 x7 x8 x9 x10 x11 x12
      have NA := Lib.hid na
      have NB := Lib.hid nb
      clear na nb q1
      go_wp2_with fail
      have HA2 : Hid (wr.grownBy (wr.alloc (.cells #[.int .i64 kind, .string (bs name), .int .i64 A.k, .string A.s, .slice A.a A.n A.c, .int .i64 B.k, .string B.s, .slice B.a B.n B.c, .int .i64 rule, .int .i64 N, .int .i64 d, .int .i64 K, .bool snap] 39)) none) := grown_alloc _ _ _
      refine (HLC.out A B w.heap.size acc _ (HWB.out.still HA2.out) H6.out (HGD.out.still HA2.out) (NA.out.keeps (Keeps.none HA2.out)) (NB.out.keeps (Keeps.none HA2.out)) (by have h1 := HLEN.out; rw [List.length_append] at h1; omega)).mono ?_
      rintro e w3 ⟨rfl, hw3, hk3⟩
      have K3 : Hid (Keeps w.heap.size w w3) := HK.out.trans ((Keeps.none HA2.out).trans hk3)
      have G3 : Hid (Good w3) := (HGD.out.still HA2.out).keeps hk3 (HWB.out.still HA2.out).lt H6.out
      have W3 := Lib.hid hw3
      clear hw3 hk3 NA NB HWB HK HGD HA2 x0 x1 x2 x3 x4 x5 x6 x7 x8 x9 x10 x11 x12
      obtain ⟨M, hM⟩ : ∃ M, (acc ++ lineP ⟨kind, name, xa, xb, rule, N, d, K, snap⟩).length = M := ⟨_, rfl⟩
      have hM2 : M ≤ 131072 := by rw [← hM]; exact HLEN.out
      have HM : Hid ((Lib.byteCells (acc ++ lineP ⟨kind, name, xa, xb, rule, N, d, K, snap⟩)).length = M) := by
        show _ = _
        rw [Lib.byteCells_length, hM]
      clear hM
      go_wp2_with fail
      refine (Tryz.Builder_Len w.heap.size w.heap.size _ w3 W3.out).mono ?_
      rintro e w4 ⟨rfl, rfl⟩
      rw [HM.out]
      go_wp2
      go_roundg (gk - 1)
      case measure => omega
      case rel => exact ⟨i + 1, _, by go_num, by omega, by omega, W3.out, K3.out, G3.out, HREST.out⟩
    · have hin : i = n := by omega
      subst hin
      have hacc : acc = t := by
        have h1 := HLP.out
        rw [List.drop_eq_nil_of_le (by rw [HLN.out]; exact Nat.le_refl _), linesP] at h1
        exact Option.some.inj h1
      subst hacc
      go_wp2_with fail
      have HF : Hid (Lib.IsBuilderF 106 5 w.heap.size w.heap.size (Lib.byteCells acc) wr) := Lib.IsBuilderF.of HWB.out
      refine (Tryz.Builder_String_any_f w.heap.size w.heap.size acc wr HF.out (Nat.le_of_lt HWB.out.lt)).mono ?_
      rintro e w5 ⟨rfl, hf5, hb5⟩
      have F5 := Lib.hid hf5
      have B5 : Hid (Below w.heap.size w w5) := hbel.out.trans hb5
      have G5 : Hid (Good w5) := HGD.out.below hb5 H6.out
      clear hf5 hb5
      have HSZ : Hid ((bs acc).size ≤ maxLen) := by
        show _ ≤ _
        rw [bs_size]; unfold maxLen; omega
      go_wp2_with fail
      refine (parse_any (bs acc) w5 HSZ.out G5.out).mono ?_
      rintro e w6 ⟨hE, hb6⟩
      have hE2 : ParseEnd w5.heap.size (.ok l) e w6 := by rw [← HP.out]; exact hE
      obtain ⟨v2, cs, rfl, hown, hr⟩ := hE2
      have S2 := Lib.hid (stsIs_of_owns hown hr)
      have B6 : Hid (Below w.heap.size w w6) := B5.out.trans (hb6.mono B5.out.size)
      have S1 : Hid (StsIs w6 (.slice a i c) l) := H.out.still (grown_of_below B6.out none)
      have F6 := Lib.hid (builderF_still F5.out hb6)
      clear hE hown hr hb6 F5 B5 G5 HSZ
      go_wp2_with fail
      refine (eqStmts l _ _ _ S1.out S2.out).mono ?_
      rintro e w7 ⟨rfl, hg7⟩
      have hb7 : Below w6.heap.size w6 w7 := ⟨hg7.os, hg7.tape, hg7.output, hg7.size, fun k hk => hg7.block k hk (by simp)⟩
      have B7 : Hid (Below w.heap.size w w7) := B6.out.trans (hb7.mono B6.out.size)
      have F7 := Lib.hid (builderF_still F6.out hb7)
      have HS7 : Hid (w.heap.size ≤ w7.heap.size) := B7.out.size
      clear hg7 hb7 F6 B6 S1 S2
      go_wp2_with fail
      refine (Tryz.Builder_String_any_f w.heap.size w.heap.size acc w7 F7.out HS7.out).mono ?_
      rintro e w8 ⟨rfl, _, hb8⟩
      have B8 : Hid (Below w.heap.size w w8) := B7.out.trans hb8
      clear hb8 F7 HS7 B7
      go_wp2
      go_ret2
      exact ⟨rfl, B8.out⟩
end Go.Proofs.YtdjklnlkocconaaGreatDoor
