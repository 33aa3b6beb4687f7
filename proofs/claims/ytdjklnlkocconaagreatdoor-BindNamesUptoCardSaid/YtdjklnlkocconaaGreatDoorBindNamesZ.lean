/-
  BindNames: the call returns true, whatever the statements and the name.
-/
import Derived.Test.YtdjklnlkocconaaGreatDoorGroundZ
import Derived.Test.YtdjklnlkocconaaGreatDoorBnVZ
namespace Go.Proofs.YtdjklnlkocconaaGreatDoor
section
open Go Go.RowKit

def BmAt (w : World) (l : List St) (v : Value) (n k : Nat) (u : Value) (wr : World) : Prop := ∃ i : Nat, u = .int .i64 i ∧ i ≤ n ∧ n < k + i ∧ Below w.heap.size w wr ∧ Good wr ∧ StsIs wr v l

set_option maxHeartbeats 4000000 in
set_option maxRecDepth 100000 in
theorem bindNames_any (l : List St) (v : Value) (s : List UInt8) (w : World) (hok : BindOk l v) (h : StsIs w v l) (hg : Good w) :
    Calls Tryz.prog 6 #[v, .string (bs s)] w fun e w' => e = .returned (.bool true) ∧ Below w.heap.size w w' := by
  have HOK := Lib.hid hok
  have H0 := Lib.hid h
  have G0 := Lib.hid hg
  obtain ⟨hn, a, c, rfl, _⟩ := h
  clear hok hg hn
  go_enter Tryz.func6, Tryz.ntmps6
  go_wp2_with fail
  refine (few24_any l _ w H0.out).mono ?_
  rintro e w1 ⟨⟨b, rfl⟩, hg1⟩
  have B1 : Hid (Below w.heap.size w w1) := below_still hg1
  have G1 := Lib.hid (G0.out.at B1.out)
  have H1 := Lib.hid (H0.out.still hg1)
  clear hg1 G0 H0
  cases b with
  | false =>
    go_wp2_with fail
    refine (known24_any _ G1.out).mono ?_
    rintro e w2 ⟨rfl, hb2⟩
    have B2 : Hid (Below w.heap.size w w2) := B1.out.trans (hb2.mono B1.out.size)
    clear hb2 B1 G1
    go_wp2
    go_ret
    exact ⟨rfl, B2.out⟩
  | true =>
    have HT1 := Lib.hid (fun w (h : StsIs w (.slice a l.length c) l) => type_any l _ s w h)
    have HT2 := Lib.hid (fun w (h : StsIs w (.slice a l.length c) l) => rtype_any l _ s w h)
    obtain ⟨T, hT⟩ : ∃ q, typeIn l s = q := ⟨_, rfl⟩
    rw [hT] at HT1 HT2
    clear hT
    go_wp2_with fail
    refine (HT1.out _ H1.out).mono ?_
    rintro e w2 ⟨rfl, hg2⟩
    have B2 : Hid (Below w.heap.size w w2) := B1.out.trans ((below_still hg2).mono B1.out.size)
    have G2 := Lib.hid (G1.out.at (below_still hg2))
    have H2 := Lib.hid (H1.out.still hg2)
    clear hg2 B1 G1 H1 HT1
    go_wp2_with fail
    refine (HT2.out _ H2.out).mono ?_
    rintro e w3 ⟨rfl, hg3⟩
    have B3 : Hid (Below w.heap.size w w3) := B2.out.trans ((below_still hg3).mono B2.out.size)
    have G3 := Lib.hid (G2.out.at (below_still hg3))
    have H3 := Lib.hid (H2.out.still hg3)
    clear hg3 B2 G2 H2 HT2
    have hTT : (T != T) = false := by simp
    obtain ⟨n, hn⟩ : ∃ q, l.length = q := ⟨_, rfl⟩
    rw [hn] at H3 ⊢
    have HN := Lib.hid hn
    have hnn : n ≤ 1048576 := by have := HOK.out.len; omega
    clear hn
    go_wp2_with fail
    clear hTT
    go_loopg [5] (n + 1) (fun k u wr => Hid (BmAt w l (.slice a n c) n k u wr))
    case atStart => exact ⟨0, rfl, Nat.zero_le _, by omega, B3.out, G3.out, H3.out⟩
    case round =>
      obtain ⟨i, rfl, hi, hk, hb, hgd, hst⟩ := hrel.out
      obtain ⟨gO, hgO⟩ : ∃ q, q = gk := ⟨_, rfl⟩
      subst hgO
      have HB := Lib.hid hb
      have HGd := Lib.hid hgd
      have H1 := Lib.hid hst
      clear hrel hb hgd hst B3 G3 H3
      by_cases hlt : i < n
      · obtain ⟨x, hx⟩ : ∃ x, l[i]? = some x := ⟨l[i]'(by rw [HN.out]; exact hlt), List.getElem?_eq_getElem _⟩
        obtain ⟨g1, o1, cap1, e1, hl1, A, B, q1, na, nb⟩ := H1.out.get hx
        injection e1 with e1a e1b e1c
        subst e1a e1c
        clear e1b
        have HUS := HOK.out.uses _ (List.mem_of_getElem? hx)
        obtain ⟨kind, name, xa, xb, rule, N, d, K, snap⟩ := x
        have x0 := q1 0 (by decide)
        have x1 := q1 1 (by decide)
        have x2 := q1 2 (by decide)
        have x3 := q1 3 (by decide)
        have x4 := q1 4 (by decide)
        have x5 := q1 5 (by decide)
        have x6 := q1 6 (by decide)
        have x7 := q1 7 (by decide)
        have x8 := q1 8 (by decide)
        have x9 := q1 9 (by decide)
        have x10 := q1 10 (by decide)
        have x11 := q1 11 (by decide)
        have x12 := q1 12 (by decide)
        simp only [stCells, List.getElem?_cons_succ, List.getElem?_cons_zero, Nat.add_zero] at x0 x1 x2 x3 x4 x5 x6 x7 x8 x9 x10 x11 x12
        have NA := Lib.hid na
        have NB := Lib.hid nb
        have HUL : Hid ((usesN xa).length + (usesN xb).length ≤ 4000000) := by rw [usesSt_len] at HUS; exact HUS
        obtain ⟨L, hL⟩ : ∃ q, (usesD ⟨kind, name, xa, xb, rule, N, d, K, snap⟩) = q := ⟨_, rfl⟩
        obtain ⟨m, hm⟩ : ∃ q, L.length = q := ⟨_, rfl⟩
        have HDL : Hid ((usesD ⟨kind, name, xa, xb, rule, N, d, K, snap⟩) = L) := hL
        have HDM : Hid (L.length = m) := hm
        have hm4 : m ≤ 4000000 := by
          rw [← hm, ← hL]
          exact Nat.le_trans (usesD_len _) HUS
        have hd2 : decide (i < n) = true := by simp; omega
        have hd3 : decide ((i : Int) < (n : Int)) = true := by simp; omega
        have HGD : Hid (wr.grownBy wr.drew none) := grown_drew wr 1 none
        clear q1 hx na nb HUS hL hm
        go_wp2_with fail
        go_region_held3 (fun w' => w'.cell? ⟨g1, o1 + i * 13, none⟩ = some (.int .i64 kind) ∧ w'.cell? ⟨g1, o1 + i * 13 + 1, none⟩ = some (.string (bs name)) ∧ w'.cell? ⟨g1, o1 + i * 13 + 2, none⟩ = some (.int .i64 A.k) ∧ w'.cell? ⟨g1, o1 + i * 13 + 3, none⟩ = some (.string A.s) ∧ w'.cell? ⟨g1, o1 + i * 13 + 4, none⟩ = some (.slice A.a A.n A.c) ∧ w'.cell? ⟨g1, o1 + i * 13 + 5, none⟩ = some (.int .i64 B.k) ∧ w'.cell? ⟨g1, o1 + i * 13 + 6, none⟩ = some (.string B.s) ∧ w'.cell? ⟨g1, o1 + i * 13 + 7, none⟩ = some (.slice B.a B.n B.c) ∧ w'.cell? ⟨g1, o1 + i * 13 + 8, none⟩ = some (.int .i64 rule) ∧ w'.cell? ⟨g1, o1 + i * 13 + 9, none⟩ = some (.int .i64 N) ∧ w'.cell? ⟨g1, o1 + i * 13 + 10, none⟩ = some (.int .i64 d) ∧ w'.cell? ⟨g1, o1 + i * 13 + 11, none⟩ = some (.int .i64 K) ∧ w'.cell? ⟨g1, o1 + i * 13 + 12, none⟩ = some (.bool snap)) (first | exact ⟨x0, x1, x2, x3, x4, x5, x6, x7, x8, x9, x10, x11, x12⟩ | exact ⟨y0, y1, y2, y3, y4, y5, y6, y7, y8, y9, y10, y11, y12⟩ | exact ⟨z0, z1, z2, z3, z4, z5, z6, z7, z8, z9, z10, z11, z12⟩)
          (first
            | (go_at_call 16; have tok := Sq; refine (bUses_any kind name xa xb rule N d K snap A B _ (NA.out.still (grown_of_below tok.out.1 none)) (NB.out.still (grown_of_below tok.out.1 none)) HUL.out).mono ?_; rintro e wi ⟨va, rfl, hra, hb3⟩; rw [HDL.out, HDM.out] at hra; obtain ⟨ap, cp, rfl⟩ := owns_shape hra; have SF : Hid (Below wr.heap.size wr wi ∧ wi.ownsRow wr.heap.size 9 1 (.slice ap m cp) m (strL L) ∧ wi.ownsRow wr.heap.size 9 1 (.slice aq m cq) m (strL L)) := ⟨tok.out.1.trans (hb3.mono tok.out.1.size), Joins.ownsRow_le hra tok.out.1.size, owns_below tok.out.2 hb3⟩; have z0 := (World.cell?_of_block (a := ⟨g1, o1 + i * 13, none⟩) (SF.out.1.block g1 hl1)).trans x0; have z1 := (World.cell?_of_block (a := ⟨g1, o1 + i * 13 + 1, none⟩) (SF.out.1.block g1 hl1)).trans x1; have z2 := (World.cell?_of_block (a := ⟨g1, o1 + i * 13 + 2, none⟩) (SF.out.1.block g1 hl1)).trans x2; have z3 := (World.cell?_of_block (a := ⟨g1, o1 + i * 13 + 3, none⟩) (SF.out.1.block g1 hl1)).trans x3; have z4 := (World.cell?_of_block (a := ⟨g1, o1 + i * 13 + 4, none⟩) (SF.out.1.block g1 hl1)).trans x4; have z5 := (World.cell?_of_block (a := ⟨g1, o1 + i * 13 + 5, none⟩) (SF.out.1.block g1 hl1)).trans x5; have z6 := (World.cell?_of_block (a := ⟨g1, o1 + i * 13 + 6, none⟩) (SF.out.1.block g1 hl1)).trans x6; have z7 := (World.cell?_of_block (a := ⟨g1, o1 + i * 13 + 7, none⟩) (SF.out.1.block g1 hl1)).trans x7; have z8 := (World.cell?_of_block (a := ⟨g1, o1 + i * 13 + 8, none⟩) (SF.out.1.block g1 hl1)).trans x8; have z9 := (World.cell?_of_block (a := ⟨g1, o1 + i * 13 + 9, none⟩) (SF.out.1.block g1 hl1)).trans x9; have z10 := (World.cell?_of_block (a := ⟨g1, o1 + i * 13 + 10, none⟩) (SF.out.1.block g1 hl1)).trans x10; have z11 := (World.cell?_of_block (a := ⟨g1, o1 + i * 13 + 11, none⟩) (SF.out.1.block g1 hl1)).trans x11; have z12 := (World.cell?_of_block (a := ⟨g1, o1 + i * 13 + 12, none⟩) (SF.out.1.block g1 hl1)).trans x12; clear hra hb3 tok)
            | (go_at_call 16; refine (bUses_any kind name xa xb rule N d K snap A B _ (NA.out.still HGD.out) (NB.out.still HGD.out) HUL.out).mono ?_; rintro e wi ⟨va, rfl, hra, hb3⟩; rw [HDL.out, HDM.out] at hra; obtain ⟨ap, cp, rfl⟩ := owns_shape hra; have Sp : Hid (Below wr.heap.size wr wi ∧ wi.ownsRow wr.heap.size 9 1 (.slice ap m cp) m (strL L)) := ⟨(show Below wr.heap.size wr wr.drew from ⟨rfl, rfl, rfl, Nat.le_refl _, fun _ _ => rfl⟩).trans hb3, hra⟩; have y0 := (World.cell?_of_block (a := ⟨g1, o1 + i * 13, none⟩) (Sp.out.1.block g1 hl1)).trans x0; have y1 := (World.cell?_of_block (a := ⟨g1, o1 + i * 13 + 1, none⟩) (Sp.out.1.block g1 hl1)).trans x1; have y2 := (World.cell?_of_block (a := ⟨g1, o1 + i * 13 + 2, none⟩) (Sp.out.1.block g1 hl1)).trans x2; have y3 := (World.cell?_of_block (a := ⟨g1, o1 + i * 13 + 3, none⟩) (Sp.out.1.block g1 hl1)).trans x3; have y4 := (World.cell?_of_block (a := ⟨g1, o1 + i * 13 + 4, none⟩) (Sp.out.1.block g1 hl1)).trans x4; have y5 := (World.cell?_of_block (a := ⟨g1, o1 + i * 13 + 5, none⟩) (Sp.out.1.block g1 hl1)).trans x5; have y6 := (World.cell?_of_block (a := ⟨g1, o1 + i * 13 + 6, none⟩) (Sp.out.1.block g1 hl1)).trans x6; have y7 := (World.cell?_of_block (a := ⟨g1, o1 + i * 13 + 7, none⟩) (Sp.out.1.block g1 hl1)).trans x7; have y8 := (World.cell?_of_block (a := ⟨g1, o1 + i * 13 + 8, none⟩) (Sp.out.1.block g1 hl1)).trans x8; have y9 := (World.cell?_of_block (a := ⟨g1, o1 + i * 13 + 9, none⟩) (Sp.out.1.block g1 hl1)).trans x9; have y10 := (World.cell?_of_block (a := ⟨g1, o1 + i * 13 + 10, none⟩) (Sp.out.1.block g1 hl1)).trans x10; have y11 := (World.cell?_of_block (a := ⟨g1, o1 + i * 13 + 11, none⟩) (Sp.out.1.block g1 hl1)).trans x11; have y12 := (World.cell?_of_block (a := ⟨g1, o1 + i * 13 + 12, none⟩) (Sp.out.1.block g1 hl1)).trans x12; clear hra hb3)
            | (go_at_call 17; have tok := Sp; refine (rUses_any kind name xa xb rule N d K snap A B _ (NA.out.still (grown_of_below tok.out.1 none)) (NB.out.still (grown_of_below tok.out.1 none)) HUL.out).mono ?_; rintro e wi ⟨va, rfl, hra, hb3⟩; rw [HDL.out, HDM.out] at hra; obtain ⟨aq, cq, rfl⟩ := owns_shape hra; have SF : Hid (Below wr.heap.size wr wi ∧ wi.ownsRow wr.heap.size 9 1 (.slice aq m cq) m (strL L) ∧ wi.ownsRow wr.heap.size 9 1 (.slice ap m cp) m (strL L)) := ⟨tok.out.1.trans (hb3.mono tok.out.1.size), Joins.ownsRow_le hra tok.out.1.size, owns_below tok.out.2 hb3⟩; have z0 := (World.cell?_of_block (a := ⟨g1, o1 + i * 13, none⟩) (SF.out.1.block g1 hl1)).trans x0; have z1 := (World.cell?_of_block (a := ⟨g1, o1 + i * 13 + 1, none⟩) (SF.out.1.block g1 hl1)).trans x1; have z2 := (World.cell?_of_block (a := ⟨g1, o1 + i * 13 + 2, none⟩) (SF.out.1.block g1 hl1)).trans x2; have z3 := (World.cell?_of_block (a := ⟨g1, o1 + i * 13 + 3, none⟩) (SF.out.1.block g1 hl1)).trans x3; have z4 := (World.cell?_of_block (a := ⟨g1, o1 + i * 13 + 4, none⟩) (SF.out.1.block g1 hl1)).trans x4; have z5 := (World.cell?_of_block (a := ⟨g1, o1 + i * 13 + 5, none⟩) (SF.out.1.block g1 hl1)).trans x5; have z6 := (World.cell?_of_block (a := ⟨g1, o1 + i * 13 + 6, none⟩) (SF.out.1.block g1 hl1)).trans x6; have z7 := (World.cell?_of_block (a := ⟨g1, o1 + i * 13 + 7, none⟩) (SF.out.1.block g1 hl1)).trans x7; have z8 := (World.cell?_of_block (a := ⟨g1, o1 + i * 13 + 8, none⟩) (SF.out.1.block g1 hl1)).trans x8; have z9 := (World.cell?_of_block (a := ⟨g1, o1 + i * 13 + 9, none⟩) (SF.out.1.block g1 hl1)).trans x9; have z10 := (World.cell?_of_block (a := ⟨g1, o1 + i * 13 + 10, none⟩) (SF.out.1.block g1 hl1)).trans x10; have z11 := (World.cell?_of_block (a := ⟨g1, o1 + i * 13 + 11, none⟩) (SF.out.1.block g1 hl1)).trans x11; have z12 := (World.cell?_of_block (a := ⟨g1, o1 + i * 13 + 12, none⟩) (SF.out.1.block g1 hl1)).trans x12; clear hra hb3 tok)
            | (go_at_call 17; refine (rUses_any kind name xa xb rule N d K snap A B _ (NA.out.still HGD.out) (NB.out.still HGD.out) HUL.out).mono ?_; rintro e wi ⟨va, rfl, hra, hb3⟩; rw [HDL.out, HDM.out] at hra; obtain ⟨aq, cq, rfl⟩ := owns_shape hra; have Sq : Hid (Below wr.heap.size wr wi ∧ wi.ownsRow wr.heap.size 9 1 (.slice aq m cq) m (strL L)) := ⟨(show Below wr.heap.size wr wr.drew from ⟨rfl, rfl, rfl, Nat.le_refl _, fun _ _ => rfl⟩).trans hb3, hra⟩; have y0 := (World.cell?_of_block (a := ⟨g1, o1 + i * 13, none⟩) (Sq.out.1.block g1 hl1)).trans x0; have y1 := (World.cell?_of_block (a := ⟨g1, o1 + i * 13 + 1, none⟩) (Sq.out.1.block g1 hl1)).trans x1; have y2 := (World.cell?_of_block (a := ⟨g1, o1 + i * 13 + 2, none⟩) (Sq.out.1.block g1 hl1)).trans x2; have y3 := (World.cell?_of_block (a := ⟨g1, o1 + i * 13 + 3, none⟩) (Sq.out.1.block g1 hl1)).trans x3; have y4 := (World.cell?_of_block (a := ⟨g1, o1 + i * 13 + 4, none⟩) (Sq.out.1.block g1 hl1)).trans x4; have y5 := (World.cell?_of_block (a := ⟨g1, o1 + i * 13 + 5, none⟩) (Sq.out.1.block g1 hl1)).trans x5; have y6 := (World.cell?_of_block (a := ⟨g1, o1 + i * 13 + 6, none⟩) (Sq.out.1.block g1 hl1)).trans x6; have y7 := (World.cell?_of_block (a := ⟨g1, o1 + i * 13 + 7, none⟩) (Sq.out.1.block g1 hl1)).trans x7; have y8 := (World.cell?_of_block (a := ⟨g1, o1 + i * 13 + 8, none⟩) (Sq.out.1.block g1 hl1)).trans x8; have y9 := (World.cell?_of_block (a := ⟨g1, o1 + i * 13 + 9, none⟩) (Sq.out.1.block g1 hl1)).trans x9; have y10 := (World.cell?_of_block (a := ⟨g1, o1 + i * 13 + 10, none⟩) (Sq.out.1.block g1 hl1)).trans x10; have y11 := (World.cell?_of_block (a := ⟨g1, o1 + i * 13 + 11, none⟩) (Sq.out.1.block g1 hl1)).trans x11; have y12 := (World.cell?_of_block (a := ⟨g1, o1 + i * 13 + 12, none⟩) (Sq.out.1.block g1 hl1)).trans x12; clear hra hb3))
        all_goals
          have HS2 := Lib.hid (sts_below H1.out SF.out.1)
          have HB2 : Hid (Below w.heap.size w wi) := HB.out.trans (SF.out.1.mono HB.out.size)
          have HG2 := Lib.hid (HGd.out.at SF.out.1)
          have HZ1 := Lib.hid z1
          have hl2 : g1 < wi.heap.size := Nat.lt_of_lt_of_le hl1 SF.out.1.size
          have HR1 : Hid (wi.ownsRow wr.heap.size 9 1 (.slice ap m cp) m (strL L)) := by first | exact SF.out.2.1 | exact SF.out.2.2
          have HR2 : Hid (wi.ownsRow wr.heap.size 9 1 (.slice aq m cq) m (strL L)) := by first | exact SF.out.2.2 | exact SF.out.2.1
          try clear SF Sp
          try clear SF Sq
          clear x0 x1 x2 x3 x4 x5 x6 x7 x8 x9 x10 x11 x12 y0 y1 y2 y3 y4 y5 y6 y7 y8 y9 y10 y11 y12 z0 z2 z3 z4 z5 z6 z7 z8 z9 z10 z11 z12 HB HGd H1 NA NB HUL HDL HGD hl1
          generalize wr.heap.size = wo at *
          have HT1 : Hid (∀ w', wi.grownBy w' none → Calls Tryz.prog 14 #[.slice (some ⟨g1, o1, none⟩) n c, .string (bs name)] w' fun e w'' => e = .returned (.int .i64 (typeIn l name)) ∧ w'.grownBy w'' none) := fun w' hg' => type_any l _ name w' (HS2.out.still hg')
          have HT2 : Hid (∀ w', wi.grownBy w' none → Calls Tryz.prog 15 #[.slice (some ⟨g1, o1, none⟩) n c, .string (bs name)] w' fun e w'' => e = .returned (.int .i64 (typeIn l name)) ∧ w'.grownBy w'' none) := fun w' hg' => rtype_any l _ name w' (HS2.out.still hg')
          obtain ⟨T2, hT2⟩ : ∃ q, typeIn l name = q := ⟨_, rfl⟩
          rw [hT2] at HT1 HT2
          clear hT2
          have hmm : ((m : Int) != (m : Int)) = false := by simp
          have hmm2 : (m != m) = false := by simp
          have hTT : (T2 != T2) = false := by simp
          have HGD2 : Hid (wi.grownBy wi.drew none) := grown_drew wi 1 none
          go_wp2_with fail
          go_region_held3 (fun w' => w'.cell? ⟨g1, o1 + i * 13 + 1, none⟩ = some (.string (bs name)) ∧ True) (first | exact ⟨z1, trivial⟩ | exact ⟨y1, trivial⟩ | exact ⟨q1, trivial⟩)
            (first
              | (go_at_call 14; have tok := V2; refine (HT1.out _ tok.out).mono ?_; rintro e wj ⟨rfl, hg5⟩; have VF : Hid (wi.grownBy wj none) := grown_trans tok.out hg5; have q1 := (grown_cell VF.out hl2).trans z1; clear hg5 tok)
              | (go_at_call 14; refine (HT1.out _ HGD2.out).mono ?_; rintro e wj ⟨rfl, hg5⟩; have V1 : Hid (wi.grownBy wj none) := grown_trans HGD2.out hg5; have y1 := (grown_cell V1.out hl2).trans z1; clear hg5)
              | (go_at_call 15; have tok := V1; refine (HT2.out _ tok.out).mono ?_; rintro e wj ⟨rfl, hg5⟩; have VF : Hid (wi.grownBy wj none) := grown_trans tok.out hg5; have q1 := (grown_cell VF.out hl2).trans z1; clear hg5 tok)
              | (go_at_call 15; refine (HT2.out _ HGD2.out).mono ?_; rintro e wj ⟨rfl, hg5⟩; have V2 : Hid (wi.grownBy wj none) := grown_trans HGD2.out hg5; have y1 := (grown_cell V2.out hl2).trans z1; clear hg5))
          all_goals
            have HB3 : Hid (Below w.heap.size w wj) := HB2.out.grown VF.out HB2.out.size (fun _ e => by cases e)
            have HG3 := Lib.hid (HG2.out.at (below_still VF.out))
            have HS3 := Lib.hid (HS2.out.still VF.out)
            have HQ1 := Lib.hid (owns_below HR1.out (below_still VF.out))
            have HQ2 := Lib.hid (owns_below HR2.out (below_still VF.out))
            try clear VF V1
            try clear VF V2
            clear y1 q1 z1 hmm hmm2 hTT HGD2 HT1 HT2 HB2 HG2 HS2 HR1 HR2 HZ1 hl2
            go_wp2_with fail
            go_loopg [8] (m + 1) (fun k u wr => Hid (SmAt wj m k u wr))
            case atStart => exact ⟨0, rfl, Nat.zero_le _, by omega, grown_refl _ _⟩
            case round =>
              obtain ⟨j, rfl, hj, hkj, hg⟩ := hrel.out
              have HGW := Lib.hid hg
              clear hrel hg
              by_cases hjm : j < m
              · obtain ⟨t, ht⟩ : ∃ t, L[j]? = some t := ⟨L[j]'(by rw [HDM.out]; exact hjm), List.getElem?_eq_getElem _⟩
                obtain ⟨ga, ka, ea, _, hga, _, hca⟩ := owns_slice HQ1.out (by omega)
                cases ea
                obtain ⟨gb, kb, eb, _, hgb, _, hcb⟩ := owns_slice HQ2.out (by omega)
                cases eb
                have y1 := (World.cell?_of_block (a := ⟨ga, j, none⟩) (HGW.out.block ga hga (by simp))).trans (hca _ _ (strL_get ht))
                have y2 := (World.cell?_of_block (a := ⟨gb, j, none⟩) (HGW.out.block gb hgb (by simp))).trans (hcb _ _ (strL_get ht))
                have hd4 : decide (j < m) = true := by simp; omega
                have hd5 : decide ((j : Int) < (m : Int)) = true := by simp; omega
                have hne : ((bs t).toList != (bs t).toList) = false := by simp
                clear hca hcb ht
                go_wp2
                go_quiet (fail)
                go_wp2
                go_roundg (gk - 1)
                case measure => omega
                case rel => exact ⟨j + 1, by go_num, by omega, by omega, grown_trans HGW.out (grown_drew _ _ none)⟩
              · have hjm2 : j = m := by omega
                have hd4 : decide (j < m) = false := by simp; omega
                have hd5 : decide ((j : Int) < (m : Int)) = false := by simp; omega
                have HBE : Hid (Below w.heap.size w wr) := HB3.out.grown HGW.out HB3.out.size (fun _ e => by cases e)
                have HGE := Lib.hid (HG3.out.at (below_still HGW.out))
                have HSE := Lib.hid (HS3.out.still HGW.out)
                clear hjm2 HB3 HG3 HS3 HGW
                go_wp2
                go_roundg (gO - 1)
                case measure => omega
                case rel => exact ⟨i + 1, by go_num, by omega, by omega, HBE.out, HGE.out, HSE.out⟩
      · have hin : i = n := by omega
        subst hin
        have hd2 : decide (i < i) = false := by simp
        have hd3 : decide ((i : Int) < (i : Int)) = false := by simp
        go_wp2_with fail
        refine (known24_any _ HGd.out).mono ?_
        rintro e w5 ⟨rfl, hb5⟩
        have B5 : Hid (Below w.heap.size w w5) := HB.out.trans (hb5.mono HB.out.size)
        clear hb5 HB HGd H1
        go_wp2
        go_ret
        exact ⟨rfl, B5.out⟩
end

section
open Go Go.ChangeShapes Go.WideShapes Go.ChangeAt Go.WideMaps Go.WideElems Go.RowKit

theorem bindNames_spec {H : Type} {enc : TypeId × Value → H} {W : World} {vs : List Value} {ds : List (DataW H)} {p : List MemPlace} {sp : Nat → Bool}
    (hA : DataW.TrodAll enc Tryz.prog W 0 sp true Tryz.f6.params.toList vs ds p) : Rows.bindNamesSpec.fn H (ds ++ []) = { results := [.lit (.bool true)], args := ds } := by
  rw [Tryz.params6] at hA
  obtain ⟨v, vs', d, ds', p, q, rfl, rfl, rfl, h1, h2⟩ := trodAll_cons hA
  obtain ⟨v, vs', d, ds', p, q, rfl, rfl, rfl, h3, h4⟩ := trodAll_cons h2
  obtain ⟨rfl, rfl, rfl⟩ := trodAll_nil h4
  rfl

set_option maxRecDepth 100000 in
theorem bindNames_calls {H : Type} {enc : TypeId × Value → H} (W : World) (base : Nat) (args : Array Value) (ds : List (DataW H)) (p : List MemPlace) (hg : Good W)
    (hval : ∀ (j : Nat) t v, Tryz.f6.params[j]? = some t → args[j]? = some v → Value.okWide Tryz.prog W .any base t v)
    (hA : DataW.TrodAll enc Tryz.prog W 0 (fun _ => true) true Tryz.f6.params.toList args.toList ds p) (hk : Rows.uptoBulkAll ds ≤ 1048576) :
    Calls Tryz.prog 6 args W fun e w' => e = .returned (.bool true) ∧ Below W.heap.size W w' := by
  rw [Tryz.params6] at hA hval
  obtain ⟨v0, v1, d0, d1, p0, p1, rfl, rfl, rfl, h0, h1⟩ := trodAll_two hA
  obtain ⟨s, rfl, _, _, hs⟩ := ChangeMaps.open_string Tryz.underlying9 (hval 1 9 v1 rfl rfl) h1
  have hk0 : Rows.uptoBulk d0 ≤ 1048576 := Nat.le_trans (bulk_mem (by simp)) hk
  obtain ⟨l, hl, hok⟩ := open_bind (hval 0 22 v0 rfl rfl) h0 hk0
  rw [bs_back s]
  exact bindNames_any l v0 s.data.toList W hok hl hg
end
end Go.Proofs.YtdjklnlkocconaaGreatDoor
