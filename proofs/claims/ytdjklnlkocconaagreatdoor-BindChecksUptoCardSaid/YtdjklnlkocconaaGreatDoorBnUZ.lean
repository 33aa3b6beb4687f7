/-
  The reference's Check: whether a deck is bound, or where it is not.
  The reference's Needs: the places of the statements on which one leans, rising: a new row.
-/
import Derived.Test.YtdjklnlkocconaaGreatDoorBnSZ
import Derived.Test.YtdjklnlkocconaaGreatDoorRpHZ
import Derived.Test.YtdjklnlkocconaaGreatDoorOpenNamesZ
import Derived.Test.YtdjklnlkocconaaGreatDoorOwnZ
import Derived.Test.YtdjklnlkocconaaGreatDoorBnTZ
namespace Go.Proofs.YtdjklnlkocconaaGreatDoor
open Go Go.RowKit

theorem StsIs.first2 {w : World} {a : Option Addr} {c n : Nat} {l : List St} (h : StsIs w (.slice a n c) l) (hl : l.length = n) (k : Nat) (hk : k ≤ n) : StsIs w (.slice a k c) (l.take k) := by
  subst hl
  exact h.first k hk

theorem strU_get {us : List Use} {j : Nat} {u : Use} (h : us[j]? = some u) : (strU us)[j]? = some (.string (bs u.1)) := by simp [strU, h]
theorem intU_get {us : List Use} {j : Nat} {u : Use} (h : us[j]? = some u) : (intU us)[j]? = some (.int .i64 u.2) := by simp [intU, h]
theorem place_cases (l : List St) (u : Use) {P : Int} (hP : placeS l u.1 = P) : (P = -1 ∧ typeIn l u.1 = 0) ∨ ∃ (j : Nat) (x : St), P = (j : Int) ∧ l[j]? = some x ∧ typeIn l u.1 = giveV x.kind := by
  rw [placeS] at hP
  rcases placeF_spec l u.1 0 with ⟨h1, h2, _⟩ | ⟨j, x, h1, h2, _, h4, _⟩
  · exact .inl ⟨hP.symm.trans h1, h2⟩
  · refine .inr ⟨j, x, hP.symm.trans (h1.trans ?_), h2, h4⟩
    rw [Nat.zero_add]

def RcAt (w : World) (l : List St) (R : Option Nat) (n k : Nat) (u : Value) (wr : World) : Prop := ∃ i : Nat, u = .int .i64 i ∧ i ≤ n ∧ n < k + i ∧ Below w.heap.size w wr ∧ checkF (l.take i) (l.drop i) = R

set_option maxHeartbeats 16000000 in
set_option maxRecDepth 100000 in
theorem rcheck_any (l : List St) (v : Value) (w : World) (hnb : ∀ x ∈ l, x.name.length ≤ maxLen ∧ NdB x.a ∧ NdB x.b) (hszl : ∀ x ∈ l, (lineP x).length ≤ 100000000) (hus : ∀ x ∈ l, (usesSt x).length ≤ 4000000) (h : StsIs w v l) (hcap : ∀ a n c, v = .slice a n c → n ≤ c ∧ c ≤ maxLen) :
    Calls Tryz.prog 10 #[v] w fun e w' => e = .returned (.tuple #[.int .i64 (checkS l).1, .int .i64 (checkS l).2]) ∧ Below w.heap.size w w' := by
  have H := Lib.hid h
  have HR := Lib.hid (rprint_any l v w hnb hszl h)
  have HUS := Lib.hid hus
  obtain ⟨hn, a, c, rfl, _⟩ := h
  obtain ⟨hc1, hc2⟩ := hcap _ _ _ rfl
  unfold maxLen at hc2
  obtain ⟨n, hln⟩ : ∃ n, l.length = n := ⟨_, rfl⟩
  rw [hln] at hn H HR hc1 ⊢
  have HLN := Lib.hid hln
  clear hnb hszl hus hln hcap
  cases hP : printS l with
  | none =>
    have e : checkS l = (-1, 3) := by rw [checkS, hP]; rfl
    rw [e]
    rw [hP] at HR
    clear e hP
    go_enter Tryz.func10, Tryz.ntmps10
    go_wp2_with fail
    refine HR.out.mono ?_
    rintro e w1 ⟨he, hb1⟩
    have he2 : e = .returned (.tuple #[.string ⟨#[]⟩, .int .i64 3]) := he
    subst he2
    clear he HR
    go_wp2
    go_ret2
    exact ⟨rfl, hb1⟩
  | some t =>
    have HK : Hid (KindsOk l) := fun x hx => kinds_fit x (((printS_iff l t).1 hP).1 x hx)
    obtain ⟨R, hR⟩ : ∃ R, checkF [] l = R := ⟨_, rfl⟩
    have e : checkS l = checkR R := by rw [checkS, hP, hR]; rfl
    rw [e]
    rw [hP] at HR
    have HF := Lib.hid hR
    clear e hP hR
    go_enter Tryz.func10, Tryz.ntmps10
    go_wp2_with fail
    refine HR.out.mono ?_
    rintro e w1 ⟨he, hb1⟩
    have he2 : e = .returned (.tuple #[.string (bs t), .int .i64 0]) := he
    subst he2
    have B1 := Lib.hid hb1
    clear he HR hb1
    go_wp2_with fail
    go_loopg [6] (n + 1) (fun k u wr => Hid (RcAt w l R n k u wr))
    case atStart => exact ⟨0, rfl, Nat.zero_le _, by omega, B1.out, HF.out⟩
    case round =>
      obtain ⟨i, rfl, hi, hk, hb, hr⟩ := hrel.out
      obtain ⟨gO, hgO⟩ : ∃ q, q = gk := ⟨_, rfl⟩
      subst hgO
      have HB := Lib.hid hb
      have HFR := Lib.hid hr
      clear hrel hb hr HF B1
      by_cases hlt : i < n
      · obtain ⟨x, hx⟩ : ∃ x, l[i]? = some x := ⟨l[i]'(by rw [HLN.out]; exact hlt), List.getElem?_eq_getElem _⟩
        have HX := Lib.hid hx
        obtain ⟨g1, o1, cap1, e1, hl1, A, B, q1, na, nb⟩ := (sts_below H.out HB.out).get hx
        injection e1 with e1a e1b e1c
        subst e1a e1c
        clear e1b
        obtain ⟨kind, name, xa, xb, rule, N, d, K, snap⟩ := x
        have x0 := q1 0 (by decide)
        have x1 := q1 1 (by decide)
        have x2 := q1 2 (by decide)
        have x3 := q1 3 (by decide)
        have x4 := q1 4 (by decide)
        have x5 := q1 5 (by decide)
        have x6 := q1 6 (by decide)
        have x7 := q1 7 (by decide)
        have x8 := q1 8 (by decide)
        have x9 := q1 9 (by decide)
        have x10 := q1 10 (by decide)
        have x11 := q1 11 (by decide)
        have x12 := q1 12 (by decide)
        simp only [stCells, List.getElem?_cons_succ, List.getElem?_cons_zero, Nat.add_zero] at x0 x1 x2 x3 x4 x5 x6 x7 x8 x9 x10 x11 x12
        have NA := Lib.hid na
        have NB := Lib.hid nb
        have HXN := Lib.hid x1
        have HGL := Lib.hid hl1
        have HUL : Hid ((usesN xa).length + (usesN xb).length ≤ 4000000) := by have h := HUS.out _ (List.mem_of_getElem? hx); rw [usesSt_len] at h; exact h
        have hd2 : decide (i < n) = true := by simp; omega
        have hd3 : decide ((i : Int) < (n : Int)) = true := by simp; omega
        clear q1 hx na nb
        go_wp2_with fail
        refine (of_any kind name xa xb rule N d K snap A B _ NA.out NB.out HUL.out).mono ?_
        rintro e w3 ⟨va, vb, rfl, h3⟩
        obtain ⟨us, hus⟩ : ∃ us, usesN xa ++ usesN xb = us := ⟨_, rfl⟩
        have HUX : Hid (usesSt ⟨kind, name, xa, xb, rule, N, d, K, snap⟩ = us) := hus
        rw [hus] at h3
        obtain ⟨m, hm⟩ : ∃ m, us.length = m := ⟨_, rfl⟩
        have HUM : Hid (us.length = m ∧ m ≤ 4000000) := ⟨hm, by have h := HUL.out; have h2 := congrArg List.length hus; rw [List.length_append] at h2; omega⟩
        have hm4 := HUM.out.2
        have hra := h3.ra
        have hrb := h3.rb
        rw [hm] at hra hrb
        obtain ⟨aa, ca, rfl⟩ := owns_shape hra
        obtain ⟨ab, cb, rfl⟩ := owns_shape hrb
        have HRA := Lib.hid hra
        have HRB := Lib.hid hrb
        have HB3 : Hid (Below w.heap.size w w3) := HB.out.trans (h3.below.mono HB.out.size)
        have HXN3 : Hid (w3.cell? ⟨g1, o1 + i * 13 + 1, none⟩ = some (.string (bs name))) := (World.cell?_of_block (a := ⟨g1, o1 + i * 13 + 1, none⟩) (h3.below.block g1 hl1)).trans HXN.out
        have hw3 : g1 < w3.heap.size := Nat.lt_of_lt_of_le hl1 h3.below.size
        have HS3 := Lib.hid (sts_below H.out HB3.out)
        clear hus hm hra hrb h3 NA NB HUL HB HXN x0 x1 x2 x3 x4 x5 x6 x7 x8 x9 x10 x11 x12
        go_wp2_with fail
        go_loopg [9] (m + 1) (fun k u wr => Hid (UsAt w3 us (l.take i) m k u wr))
        case atStart => exact ⟨0, rfl, Nat.zero_le _, by omega, grown_refl _ _, fun _ h => by cases h⟩
        case round =>
          obtain ⟨j, rfl, hj, hkj, hg2, hall⟩ := hrel.out
          have HG2 := Lib.hid hg2
          have HALL := Lib.hid hall
          clear hrel hg2 hall
          by_cases hjm : j < m
          · obtain ⟨u, hu⟩ : ∃ u, us[j]? = some u := ⟨us[j]'(by rw [HUM.out.1]; exact hjm), List.getElem?_eq_getElem _⟩
            have HUU := Lib.hid hu
            have HU2 : Hid (u.2 = 1 ∨ u.2 = 2) := usesSt_as (by rw [HUX.out]; exact List.mem_of_getElem? hu)
            obtain ⟨ga, capa, hv, _, hga, _, hca⟩ := owns_slice HRA.out (by omega)
            cases hv
            obtain ⟨gb, capb, hv, _, hgb, _, hcb⟩ := owns_slice HRB.out (by omega)
            cases hv
            have y0 := (World.cell?_of_block (a := ⟨ga, j, none⟩) (HG2.out.block ga hga (by simp))).trans (hca _ _ (strU_get hu))
            have HYB := Lib.hid ((World.cell?_of_block (a := ⟨gb, j, none⟩) (HG2.out.block gb hgb (by simp))).trans (hcb _ _ (intU_get hu)))
            have hd4 : decide (j < m) = true := by simp; omega
            have hd5 : decide ((j : Int) < (m : Int)) = true := by simp; omega
            have hic : i ≤ c := by omega
            have hic2 : (i : Int) ≤ (c : Int) := by omega
            have HGD : Hid (wr.grownBy wr.drew none) := grown_drew wr 1 none
            have hgw : ga < wr.heap.size := Nat.lt_of_lt_of_le hga HG2.out.size
            have hgbw : gb < wr.heap.size := Nat.lt_of_lt_of_le hgb HG2.out.size
            obtain ⟨P, hP⟩ : ∃ P, placeS (l.take i) u.1 = P := ⟨_, rfl⟩
            have HPL : Hid (∀ w', w3.grownBy w' none → Calls Tryz.prog 25 #[.slice (some ⟨g1, o1, none⟩) i c, .string (bs u.1)] w' fun e w'' => e = .returned (.int .i64 P) ∧ w'.grownBy w'' none) := by
              intro w' hg'
              rw [← hP]
              exact place_any _ _ u.1 w' ((HS3.out.still hg').first2 HLN.out i (by omega))
            have HSP := Lib.hid (place_cases (l.take i) u hP)
            clear hu hca hcb hP
            go_wp2
            go_region_held3 (fun w' => w'.cell? ⟨ga, j, none⟩ = some (.string (bs u.1)) ∧ True) (first | exact ⟨y0, trivial⟩ | exact ⟨z0, trivial⟩)
              ((go_at_call 25; refine (HPL.out _ (grown_trans HG2.out HGD.out)).mono ?_; rintro e w5 ⟨rfl, hg5⟩; have HG5 : Hid (wr.grownBy w5 none) := grown_trans HGD.out hg5; have z0 := (grown_cell HG5.out hgw).trans y0; clear hg5))
            have y1 := (grown_cell HG5.out hgbw).trans HYB.out
            have HG35 : Hid (w3.grownBy w5 none) := grown_trans HG2.out HG5.out
            have HGD5 : Hid (w5.grownBy w5.drew none) := grown_drew w5 1 none
            have hgb5 : gb < w5.heap.size := Nat.lt_of_lt_of_le hgbw HG5.out.size
            clear y0 z0 HGD HYB HPL
            rcases HSP.out with ⟨hp, hbad⟩ | ⟨j2, x2, hp, hx2, hbad⟩
            · subst hp
              have HRS : Hid (R = some i) := by
                show _ = _
                rw [← HFR.out, drop_at HX.out, checkF, if_pos (bad_use (List.mem_of_getElem? HUU.out) HUX.out (by rcases HU2.out with h | h <;> rw [hbad, h] <;> decide)), List.length_take, Nat.min_eq_left (by rw [HLN.out]; omega)]
              have HBE : Hid (Below w.heap.size w w5) := HB3.out.grown HG35.out HB3.out.size (fun _ e => by cases e)
              clear hbad HSP
              go_wp2
              go_quiet (fail)
              go_wp2
              go_ret2
              refine ⟨?_, HBE.out.grown (row := none) (grown_drew _ _ _) HBE.out.size (fun _ e => by cases e)⟩
              rw [HRS.out]
              rfl
            · subst hp
              have hj2 : j2 < i := by
                have := (List.getElem?_eq_some_iff.1 hx2).1
                rw [List.length_take] at this
                omega
              have hx3 : l[j2]? = some x2 := by
                rw [List.getElem?_take, if_pos hj2] at hx2
                exact hx2
              obtain ⟨g2, o2, cap2, e2, hl2, A2, B2, q2, _, _⟩ := (HS3.out.still HG35.out).get hx3
              injection e2 with e2a e2b e2c
              obtain ⟨hg12, ho12⟩ : g1 = g2 ∧ o1 = o2 := by cases e2a; exact ⟨rfl, rfl⟩
              subst hg12 ho12
              clear e2a e2b e2c
              obtain ⟨kind2, name2, xa2, xb2, rule2, N2, d2, K2, snap2⟩ := x2
              have v0 := q2 0 (by decide)
              have v1 := q2 1 (by decide)
              have v2 := q2 2 (by decide)
              have v3 := q2 3 (by decide)
              have v4 := q2 4 (by decide)
              have v5 := q2 5 (by decide)
              have v6 := q2 6 (by decide)
              have v7 := q2 7 (by decide)
              have v8 := q2 8 (by decide)
              have v9 := q2 9 (by decide)
              have v10 := q2 10 (by decide)
              have v11 := q2 11 (by decide)
              have v12 := q2 12 (by decide)
              simp only [stCells, List.getElem?_cons_succ, List.getElem?_cons_zero, Nat.add_zero] at v0 v1 v2 v3 v4 v5 v6 v7 v8 v9 v10 v11 v12
              have hj2n : j2 < n := by omega
              have hd6 : decide ((j2 : Int) < 0) = false := by simp
              have hd7 : decide (j2 < n) = true := by simp; omega
              have hd8 : decide ((j2 : Int) < (n : Int)) = true := by simp; omega
              obtain ⟨GV, hGV⟩ : ∃ q, giveV kind2 = q := ⟨_, rfl⟩
              have HGI : Hid (∀ w', Calls Tryz.prog 26 #[.agg #[.int .i64 kind2, .string (bs name2), .int .i64 A2.k, .string A2.s, .slice A2.a A2.n A2.c, .int .i64 B2.k, .string B2.s, .slice B2.a B2.n B2.c, .int .i64 rule2, .int .i64 N2, .int .i64 d2, .int .i64 K2, .bool snap2]] w' fun e w'' => e = .returned (.int .i64 GV) ∧ w'.grownBy w'' none) := by
                intro w'
                rw [← hGV]
                exact gives_any kind2 name2 rule2 N2 d2 K2 snap2 A2 B2 w'
              have HBD : Hid (typeIn (l.take i) u.1 = GV) := by
                show _ = _
                rw [hbad, ← hGV]
              obtain ⟨bad, hb⟩ : ∃ bad, (GV != u.2) = bad := ⟨_, rfl⟩
              have HBB := Lib.hid hb
              clear q2 hx2 hx3 hGV hbad hb HSP
              go_wp2
              go_region_held3 (fun w' => w'.cell? ⟨g1, o1 + j2 * 13, none⟩ = some (.int .i64 kind2) ∧ w'.cell? ⟨g1, o1 + j2 * 13 + 1, none⟩ = some (.string (bs name2)) ∧ w'.cell? ⟨g1, o1 + j2 * 13 + 2, none⟩ = some (.int .i64 A2.k) ∧ w'.cell? ⟨g1, o1 + j2 * 13 + 3, none⟩ = some (.string A2.s) ∧ w'.cell? ⟨g1, o1 + j2 * 13 + 4, none⟩ = some (.slice A2.a A2.n A2.c) ∧ w'.cell? ⟨g1, o1 + j2 * 13 + 5, none⟩ = some (.int .i64 B2.k) ∧ w'.cell? ⟨g1, o1 + j2 * 13 + 6, none⟩ = some (.string B2.s) ∧ w'.cell? ⟨g1, o1 + j2 * 13 + 7, none⟩ = some (.slice B2.a B2.n B2.c) ∧ w'.cell? ⟨g1, o1 + j2 * 13 + 8, none⟩ = some (.int .i64 rule2) ∧ w'.cell? ⟨g1, o1 + j2 * 13 + 9, none⟩ = some (.int .i64 N2) ∧ w'.cell? ⟨g1, o1 + j2 * 13 + 10, none⟩ = some (.int .i64 d2) ∧ w'.cell? ⟨g1, o1 + j2 * 13 + 11, none⟩ = some (.int .i64 K2) ∧ w'.cell? ⟨g1, o1 + j2 * 13 + 12, none⟩ = some (.bool snap2) ∧ w'.cell? ⟨gb, j, none⟩ = some (.int .i64 u.2)) (first | exact ⟨v0, v1, v2, v3, v4, v5, v6, v7, v8, v9, v10, v11, v12, y1⟩ | exact hz)
                ((go_at_call 26; refine (HGI.out _).mono ?_; rintro e w6 ⟨rfl, hg6⟩; have HG6 : Hid (w5.grownBy w6 none) := grown_trans HGD5.out hg6; have hz : w6.cell? ⟨g1, o1 + j2 * 13, none⟩ = some (.int .i64 kind2) ∧ w6.cell? ⟨g1, o1 + j2 * 13 + 1, none⟩ = some (.string (bs name2)) ∧ w6.cell? ⟨g1, o1 + j2 * 13 + 2, none⟩ = some (.int .i64 A2.k) ∧ w6.cell? ⟨g1, o1 + j2 * 13 + 3, none⟩ = some (.string A2.s) ∧ w6.cell? ⟨g1, o1 + j2 * 13 + 4, none⟩ = some (.slice A2.a A2.n A2.c) ∧ w6.cell? ⟨g1, o1 + j2 * 13 + 5, none⟩ = some (.int .i64 B2.k) ∧ w6.cell? ⟨g1, o1 + j2 * 13 + 6, none⟩ = some (.string B2.s) ∧ w6.cell? ⟨g1, o1 + j2 * 13 + 7, none⟩ = some (.slice B2.a B2.n B2.c) ∧ w6.cell? ⟨g1, o1 + j2 * 13 + 8, none⟩ = some (.int .i64 rule2) ∧ w6.cell? ⟨g1, o1 + j2 * 13 + 9, none⟩ = some (.int .i64 N2) ∧ w6.cell? ⟨g1, o1 + j2 * 13 + 10, none⟩ = some (.int .i64 d2) ∧ w6.cell? ⟨g1, o1 + j2 * 13 + 11, none⟩ = some (.int .i64 K2) ∧ w6.cell? ⟨g1, o1 + j2 * 13 + 12, none⟩ = some (.bool snap2) ∧ w6.cell? ⟨gb, j, none⟩ = some (.int .i64 u.2) := ⟨(grown_cell HG6.out hl2).trans v0, (grown_cell HG6.out hl2).trans v1, (grown_cell HG6.out hl2).trans v2, (grown_cell HG6.out hl2).trans v3, (grown_cell HG6.out hl2).trans v4, (grown_cell HG6.out hl2).trans v5, (grown_cell HG6.out hl2).trans v6, (grown_cell HG6.out hl2).trans v7, (grown_cell HG6.out hl2).trans v8, (grown_cell HG6.out hl2).trans v9, (grown_cell HG6.out hl2).trans v10, (grown_cell HG6.out hl2).trans v11, (grown_cell HG6.out hl2).trans v12, (grown_cell HG6.out hgb5).trans y1⟩; clear hg6))
              have HG36 : Hid (w3.grownBy w6 none) := grown_trans HG35.out HG6.out
              have HBE : Hid (Below w.heap.size w w6) := HB3.out.grown HG36.out HB3.out.size (fun _ e => by cases e)
              have hbb := HBB.out
              clear y1 hz v0 v1 v2 v3 v4 v5 v6 v7 v8 v9 v10 v11 v12
              cases bad with
              | true =>
                have HRS : Hid (R = some i) := by
                  show _ = _
                  rw [← HFR.out, drop_at HX.out, checkF, if_pos (bad_use (List.mem_of_getElem? HUU.out) HUX.out (by rw [HBD.out]; simpa using HBB.out)), List.length_take, Nat.min_eq_left (by rw [HLN.out]; omega)]
                go_wp2
                go_ret2
                refine ⟨?_, HBE.out⟩
                rw [HRS.out]
                rfl
              | false =>
                have HAL2 : Hid (∀ x ∈ us.take (j + 1), typeIn (l.take i) x.1 = x.2) := by
                  show ∀ x ∈ _, _
                  intro x hx
                  rw [List.take_add_one, HUU.out] at hx
                  rcases List.mem_append.1 hx with hx | hx
                  · exact HALL.out x hx
                  · obtain rfl : x = u := by simpa using hx
                    rw [HBD.out]
                    simpa using HBB.out
                go_wp2
                go_roundg (gk - 1)
                case measure => omega
                case rel => exact ⟨j + 1, by go_num, by omega, by omega, HG36.out, HAL2.out⟩
          · have hjm2 : j = m := by omega
            have HAL2 : Hid (∀ x ∈ us, typeIn (l.take i) x.1 = x.2) := by
              have h := HALL.out
              rw [hjm2, List.take_of_length_le (by rw [HUM.out.1]; omega)] at h
              exact h
            have hd4 : decide (j < m) = false := by simp; omega
            have hd5 : decide ((j : Int) < (m : Int)) = false := by simp; omega
            have hic : i ≤ c := by omega
            have hic2 : (i : Int) ≤ (c : Int) := by omega
            have y0 := (grown_cell HG2.out hw3).trans HXN3.out
            have hgw : g1 < wr.heap.size := Nat.lt_of_lt_of_le hw3 HG2.out.size
            have HGD : Hid (wr.grownBy wr.drew none) := grown_drew wr 1 none
            obtain ⟨P, hP⟩ : ∃ P, placeS (l.take i) name = P := ⟨_, rfl⟩
            have HPL : Hid (∀ w', w3.grownBy w' none → Calls Tryz.prog 25 #[.slice (some ⟨g1, o1, none⟩) i c, .string (bs name)] w' fun e w'' => e = .returned (.int .i64 P) ∧ w'.grownBy w'' none) := by
              intro w' hg'
              rw [← hP]
              exact place_any _ _ name w' ((HS3.out.still hg').first2 HLN.out i (by omega))
            have HPN : Hid ((typeIn (l.take i) name != 0) = decide (0 ≤ P)) := by
              show _ = _
              rw [← hP]
              exact place_name (fun x hx => HK.out x (List.mem_of_mem_take hx)) name
            obtain ⟨bad, hb⟩ : ∃ bad, decide (0 ≤ P) = bad := ⟨_, rfl⟩
            have HBB := Lib.hid hb
            clear hP hjm2 HALL hb
            go_wp2
            go_region_held3 (fun w' => w'.cell? ⟨g1, o1 + i * 13 + 1, none⟩ = some (.string (bs name)) ∧ True) (first | exact ⟨y0, trivial⟩ | exact ⟨z0, trivial⟩)
              ((go_at_call 25; refine (HPL.out _ (grown_trans HG2.out HGD.out)).mono ?_; rintro e w5 ⟨rfl, hg5⟩; have HG5 : Hid (wr.grownBy w5 none) := grown_trans HGD.out hg5; have z0 := (grown_cell HG5.out hgw).trans y0; clear hg5))
            have HG35 : Hid (w3.grownBy w5 none) := grown_trans HG2.out HG5.out
            have HBE : Hid (Below w.heap.size w w5) := HB3.out.grown HG35.out HB3.out.size (fun _ e => by cases e)
            have hbb := HBB.out
            clear y0 z0 HGD HPL
            cases bad with
            | true =>
              have hP0 : 0 ≤ P := of_decide_eq_true HBB.out
              have HRS : Hid (R = some i) := by
                show _ = _
                rw [← HFR.out, drop_at HX.out, checkF, if_pos (bad_name (by have h := HPN.out; rw [HBB.out] at h; simpa using h)), List.length_take, Nat.min_eq_left (by rw [HLN.out]; omega)]
              go_wp2
              go_ret2
              refine ⟨?_, HBE.out⟩
              rw [HRS.out]
              rfl
            | false =>
              have hP0 : ¬ 0 ≤ P := of_decide_eq_false HBB.out
              have HFN : Hid (checkF (l.take (i + 1)) (l.drop (i + 1)) = R) := by
                show _ = _
                rw [← HFR.out, drop_at HX.out, checkF, if_neg (good_st HAL2.out HUX.out (by have h := HPN.out; rw [HBB.out] at h; simpa using h)), List.take_add_one, HX.out]
                rfl
              go_wp2
              go_roundg (gO - 1)
              case measure => omega
              case rel => exact ⟨i + 1, by go_num, by omega, by omega, HBE.out, HFN.out⟩
      · have hin : i = n := by omega
        obtain rfl : R = none := by
          have h := HFR.out
          rw [List.drop_eq_nil_of_le (by rw [HLN.out]; omega), checkF] at h
          exact h.symm
        have hd2 : decide (i < n) = false := by simp; omega
        have hd3 : decide ((i : Int) < (n : Int)) = false := by simp; omega
        clear HFR hin
        go_wp2
        go_ret2
        exact ⟨rfl, HB.out⟩
end Go.Proofs.YtdjklnlkocconaaGreatDoor

namespace Go.Proofs.YtdjklnlkocconaaGreatDoor
open Go Go.RowKit

/-- w', but for two blocks and new ones, is as w was. -/
structure Kept2 (w w' : World) (a b : Nat) : Prop where
  os : w'.os = w.os
  tape : w'.tape = w.tape
  output : w'.output = w.output
  size : w.heap.size ≤ w'.heap.size
  block : ∀ k, k < w.heap.size → k ≠ a → k ≠ b → w'.heap[k]? = w.heap[k]?
theorem Kept2.refl (w : World) (a b : Nat) : Kept2 w w a b := ⟨rfl, rfl, rfl, Nat.le_refl _, fun _ _ _ _ => rfl⟩
theorem Kept2.grown {w w' w'' : World} {a b : Nat} {row : Option Nat} (h : Kept2 w w' a b) (hg : w'.grownBy w'' row) (hr : ∀ k, row = some k → k = a ∨ k = b ∨ w.heap.size ≤ k) : Kept2 w w'' a b :=
  ⟨hg.os.trans h.os, hg.tape.trans h.tape, hg.output.trans h.output, Nat.le_trans h.size hg.size, fun k hk ha hb => (hg.block k (Nat.lt_of_lt_of_le hk h.size) (fun e => by rcases hr k e.symm with h1 | h1 | h1 <;> omega)).trans (h.block k hk ha hb)⟩
theorem Kept2.below {w0 w w' : World} {a b : Nat} (h : Kept2 w w' a b) (hb : Below w0.heap.size w0 w) (h1 : w0.heap.size ≤ a) (h2 : w0.heap.size ≤ b) : Below w0.heap.size w0 w' :=
  ⟨h.os.trans hb.os, h.tape.trans hb.tape, h.output.trans hb.output, Nat.le_trans hb.size h.size, fun k hk => (h.block k (Nat.lt_of_lt_of_le hk hb.size) (by omega) (by omega)).trans (hb.block k hk)⟩

def RqAt (w : World) (b : Nat) (l : List St) (n : Nat) (R : List Nat) (k : Nat) (v : Value) (wr : World) : Prop := ∃ (f : Nat) (need row : List Nat) (va : Value), va = v ∧ f < k ∧ f ≤ n + 2 ∧ Below w.heap.size w wr ∧ NArr wr b n need ∧ QRow wr (b + 1) v row ∧ goF (outS l) f row need = R ∧ row.length + (n - need.length) < f ∧ need.Nodup ∧ (∀ j ∈ need, j < n) ∧ (∀ j ∈ row, j < n)
def RpAt (w3 : World) (b gq : Nat) (L : List (List UInt8)) (l : List St) (n m r0 : Nat) (F : List Nat × List Nat) (k : Nat) (v u : Value) (wr : World) : Prop := ∃ (j : Nat) (need row : List Nat) (va : Value), va = v ∧ u = .int .i64 j ∧ j ≤ m ∧ m < k + j ∧ Kept2 w3 wr b gq ∧ NArr wr b n need ∧ QRow wr (b + 1) v row ∧ (v.ownBlock = some gq ∨ ∃ g, v.ownBlock = some g ∧ w3.heap.size ≤ g) ∧ row.length ≤ r0 + j ∧ pushF ((L.drop j).map (plc l)) need row = F
def flt (R : List Nat) (k : Nat) : List Nat := (List.range k).filter fun j => R.contains j
def RoAt (w4 : World) (n : Nat) (R : List Nat) (k : Nat) (v u : Value) (wr : World) : Prop := ∃ (j : Nat) (va : Value), va = v ∧ u = .int .i64 j ∧ j ≤ n ∧ n < k + j ∧ Below w4.heap.size w4 wr ∧ wr.ownsRow w4.heap.size 3 1 v (flt R j).length (intL (flt R j))
end Go.Proofs.YtdjklnlkocconaaGreatDoor
