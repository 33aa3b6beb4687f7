/-
  The reference's Check: whether a deck is bound, or where it is not.
  The reference's Needs: the places of the statements on which one leans, rising: a new row.
-/
import Derived.Test.YtdjklnlkocconaaGreatDoorBnSZ
import Derived.Test.YtdjklnlkocconaaGreatDoorRpHZ
import Derived.Test.YtdjklnlkocconaaGreatDoorOpenNamesZ
import Derived.Test.YtdjklnlkocconaaGreatDoorOwnZ
import Derived.Test.YtdjklnlkocconaaGreatDoorBnTZ
namespace Go.Proofs.YtdjklnlkocconaaGreatDoor
open Go Go.RowKit

theorem StsIs.first2 {w : World} {a : Option Addr} {c n : Nat} {l : List St} (h : StsIs w (.slice a n c) l) (hl : l.length = n) (k : Nat) (hk : k ≤ n) : StsIs w (.slice a k c) (l.take k) := by
  subst hl
  exact h.first k hk

theorem strU_get {us : List Use} {j : Nat} {u : Use} (h : us[j]? = some u) : (strU us)[j]? = some (.string (bs u.1)) := by simp [strU, h]
theorem intU_get {us : List Use} {j : Nat} {u : Use} (h : us[j]? = some u) : (intU us)[j]? = some (.int .i64 u.2) := by simp [intU, h]
theorem place_cases (l : List St) (u : Use) {P : Int} (hP : placeS l u.1 = P) : (P = -1 ∧ typeIn l u.1 = 0) ∨ ∃ (j : Nat) (x : St), P = (j : Int) ∧ l[j]? = some x ∧ typeIn l u.1 = giveV x.kind := by
  rw [placeS] at hP
  rcases placeF_spec l u.1 0 with ⟨h1, h2, _⟩ | ⟨j, x, h1, h2, _, h4, _⟩
  · exact .inl ⟨hP.symm.trans h1, h2⟩
  · refine .inr ⟨j, x, hP.symm.trans (h1.trans ?_), h2, h4⟩
    rw [Nat.zero_add]

def RcAt (w : World) (l : List St) (R : Option Nat) (n k : Nat) (u : Value) (wr : World) : Prop := ∃ i : Nat, u = .int .i64 i ∧ i ≤ n ∧ n < k + i ∧ Below w.heap.size w wr ∧ checkF (l.take i) (l.drop i) = R

set_option maxHeartbeats 16000000 in
set_option maxRecDepth 100000 in
theorem rcheck_any (l : List St) (v : Value) (w : World) (hnb : ∀ x ∈ l, x.name.length ≤ maxLen ∧ NdB x.a ∧ NdB x.b) (hszl : ∀ x ∈ l, (lineP x).length ≤ 100000000) (hus : ∀ x ∈ l, (usesSt x).length ≤ 4000000) (h : StsIs w v l) (hcap : ∀ a n c, v = .slice a n c → n ≤ c ∧ c ≤ maxLen) :
    Calls Tryz.prog 10 #[v] w fun e w' => e = .returned (.tuple #[.int .i64 (checkS l).1, .int .i64 (checkS l).2]) ∧ Below w.heap.size w w' := by
  have H := Lib.hid h
  have HR := Lib.hid (rprint_any l v w hnb hszl h)
  have HUS := Lib.hid hus
  obtain ⟨hn, a, c, rfl, _⟩ := h
  obtain ⟨hc1, hc2⟩ := hcap _ _ _ rfl
  unfold maxLen at hc2
  obtain ⟨n, hln⟩ : ∃ n, l.length = n := ⟨_, rfl⟩
  rw [hln] at hn H HR hc1 ⊢
  have HLN := Lib.hid hln
  clear hnb hszl hus hln hcap
  cases hP : printS l with
  | none =>
    have e : checkS l = (-1, 3) := by rw [checkS, hP]; rfl
    rw [e]
    rw [hP] at HR
    clear e hP
    go_enter Tryz.func10, Tryz.ntmps10
    go_wp2_with fail
    refine HR.out.mono ?_
    rintro e w1 ⟨he, hb1⟩
    have he2 : e = .returned (.tuple #[.string ⟨#[]⟩, .int .i64 3]) := he
    subst he2
    clear he HR
    go_wp2
    go_ret2
    exact ⟨rfl, hb1⟩
  | some t =>
    have HK : Hid (KindsOk l) := fun x hx => kinds_fit x (((printS_iff l t).1 hP).1 x hx)
    obtain ⟨R, hR⟩ : ∃ R, checkF [] l = R := ⟨_, rfl⟩
    have e : checkS l = checkR R := by rw [checkS, hP, hR]; rfl
    rw [e]
    rw [hP] at HR
    have HF := Lib.hid hR
    clear e hP hR
    go_enter Tryz.func10, Tryz.ntmps10
    go_wp2_with fail
    refine HR.out.mono ?_
    rintro e w1 ⟨he, hb1⟩
    have he2 : e = .returned (.tuple #[.string (bs t), .int .i64 0]) := he
    subst he2
    have B1 := Lib.hid hb1
    clear he HR hb1
    go_wp2_with fail
    go_loopg [6] (n + 1) (fun k u wr => Hid (RcAt w l R n k u wr))
    case atStart => exact ⟨0, rfl, Nat.zero_le _, by omega, B1.out, HF.out⟩
    case round =>
      obtain ⟨i, rfl, hi, hk, hb, hr⟩ := hrel.out
      obtain ⟨gO, hgO⟩ : ∃ q, q = gk := ⟨_, rfl⟩
      subst hgO
      have HB := Lib.hid hb
      have HFR := Lib.hid hr
      clear hrel hb hr HF B1
      by_cases hlt : i < n
      · obtain ⟨x, hx⟩ : ∃ x, l[i]? = some x := ⟨l[i]'(by rw [HLN.out]; exact hlt), List.getElem?_eq_getElem _⟩
        have HX := Lib.hid hx
        obtain ⟨g1, o1, cap1, e1, hl1, A, B, q1, na, nb⟩ := (sts_below H.out HB.out).get hx
        injection e1 with e1a e1b e1c
        subst e1a e1c
        clear e1b
        obtain ⟨kind, name, xa, xb, rule, N, d, K, snap⟩ := x
        have x0 := q1 0 (by decide)
        have x1 := q1 1 (by decide)
        have x2 := q1 2 (by decide)
        have x3 := q1 3 (by decide)
        have x4 := q1 4 (by decide)
        have x5 := q1 5 (by decide)
        have x6 := q1 6 (by decide)
        have x7 := q1 7 (by decide)
        have x8 := q1 8 (by decide)
        have x9 := q1 9 (by decide)
        have x10 := q1 10 (by decide)
        have x11 := q1 11 (by decide)
        have x12 := q1 12 (by decide)
        simp only [stCells, List.getElem?_cons_succ, List.getElem?_cons_zero, Nat.add_zero] at x0 x1 x2 x3 x4 x5 x6 x7 x8 x9 x10 x11 x12
        have NA := Lib.hid na
        have NB := Lib.hid nb
        have HXN := Lib.hid x1
        have HGL := Lib.hid hl1
        have HUL : Hid ((usesN xa).length + (usesN xb).length ≤ 4000000) := by have h := HUS.out _ (List.mem_of_getElem? hx); rw [usesSt_len] at h; exact h
        have hd2 : decide (i < n) = true := by simp; omega
        have hd3 : decide ((i : Int) < (n : Int)) = true := by simp; omega
        clear q1 hx na nb
        go_wp2_with fail
        refine (of_any kind name xa xb rule N d K snap A B _ NA.out NB.out HUL.out).mono ?_
        rintro e w3 ⟨va, vb, rfl, h3⟩
        obtain ⟨us, hus⟩ : ∃ us, usesN xa ++ usesN xb = us := ⟨_, rfl⟩
        have HUX : Hid (usesSt ⟨kind, name, xa, xb, rule, N, d, K, snap⟩ = us) := hus
        rw [hus] at h3
        obtain ⟨m, hm⟩ : ∃ m, us.length = m := ⟨_, rfl⟩
        have HUM : Hid (us.length = m ∧ m ≤ 4000000) := ⟨hm, by have h := HUL.out; have h2 := congrArg List.length hus; rw [List.length_append] at h2; omega⟩
        have hm4 := HUM.out.2
        have hra := h3.ra
        have hrb := h3.rb
        rw [hm] at hra hrb
        obtain ⟨aa, ca, rfl⟩ := owns_shape hra
        obtain ⟨ab, cb, rfl⟩ := owns_shape hrb
        have HRA := Lib.hid hra
        have HRB := Lib.hid hrb
        have HB3 : Hid (Below w.heap.size w w3) := HB.out.trans (h3.below.mono HB.out.size)
        have HXN3 : Hid (w3.cell? ⟨g1, o1 + i * 13 + 1, none⟩ = some (.string (bs name))) := (World.cell?_of_block (a := ⟨g1, o1 + i * 13 + 1, none⟩) (h3.below.block g1 hl1)).trans HXN.out
        have hw3 : g1 < w3.heap.size := Nat.lt_of_lt_of_le hl1 h3.below.size
        have HS3 := Lib.hid (sts_below H.out HB3.out)
        clear hus hm hra hrb h3 NA NB HUL HB HXN x0 x1 x2 x3 x4 x5 x6 x7 x8 x9 x10 x11 x12
        go_wp2_with fail
        go_loopg [9] (m + 1) (fun k u wr => Hid (UsAt w3 us (l.take i) m k u wr))
        case atStart => exact ⟨0, rfl, Nat.zero_le _, by omega, grown_refl _ _, fun _ h => by cases h⟩
        case round =>
          obtain ⟨j, rfl, hj, hkj, hg2, hall⟩ := hrel.out
          have HG2 := Lib.hid hg2
          have HALL := Lib.hid hall
          clear hrel hg2 hall
          by_cases hjm : j < m
          · obtain ⟨u, hu⟩ : ∃ u, us[j]? = some u := ⟨us[j]'(by rw [HUM.out.1]; exact hjm), List.getElem?_eq_getElem _⟩
            have HUU := Lib.hid hu
            have HU2 : Hid (u.2 = 1 ∨ u.2 = 2) := usesSt_as (by rw [HUX.out]; exact List.mem_of_getElem? hu)
            obtain ⟨ga, capa, hv, _, hga, _, hca⟩ := owns_slice HRA.out (by omega)
            cases hv
            obtain ⟨gb, capb, hv, _, hgb, _, hcb⟩ := owns_slice HRB.out (by omega)
            cases hv
            have y0 := (World.cell?_of_block (a := ⟨ga, j, none⟩) (HG2.out.block ga hga (by simp))).trans (hca _ _ (strU_get hu))
            have HYB := Lib.hid ((World.cell?_of_block (a := ⟨gb, j, none⟩) (HG2.out.block gb hgb (by simp))).trans (hcb _ _ (intU_get hu)))
            have hd4 : decide (j < m) = true := by simp; omega
            have hd5 : decide ((j : Int) < (m : Int)) = true := by simp; omega
            have hic : i ≤ c := by omega
            have hic2 : (i : Int) ≤ (c : Int) := by omega
            have HGD : Hid (wr.grownBy wr.drew none) := grown_drew wr 1 none
            have hgw : ga < wr.heap.size := Nat.lt_of_lt_of_le hga HG2.out.size
            have hgbw : gb < wr.heap.size := Nat.lt_of_lt_of_le hgb HG2.out.size
            obtain ⟨P, hP⟩ : ∃ P, placeS (l.take i) u.1 = P := ⟨_, rfl⟩
            have HPL : Hid (∀ w', w3.grownBy w' none → Calls Tryz.prog 25 #[.slice (some ⟨g1, o1, none⟩) i c, .string (bs u.1)] w' fun e w'' => e = .returned (.int .i64 P) ∧ w'.grownBy w'' none) := by
              intro w' hg'
              rw [← hP]
              exact place_any _ _ u.1 w' ((HS3.out.still hg').first2 HLN.out i (by omega))
            have HSP := Lib.hid (place_cases (l.take i) u hP)
            clear hu hca hcb hP
            go_wp2
            go_region_held3 (fun w' => w'.cell? ⟨ga, j, none⟩ = some (.string (bs u.1)) ∧ True) (first | exact ⟨y0, trivial⟩ | exact ⟨z0, trivial⟩)
              ((go_at_call 25; refine (HPL.out _ (grown_trans HG2.out HGD.out)).mono ?_; rintro e w5 ⟨rfl, hg5⟩; have HG5 : Hid (wr.grownBy w5 none) := grown_trans HGD.out hg5; have z0 := (grown_cell HG5.out hgw).trans y0; clear hg5))
            have y1 := (grown_cell HG5.out hgbw).trans HYB.out
            have HG35 : Hid (w3.grownBy w5 none) := grown_trans HG2.out HG5.out
            have HGD5 : Hid (w5.grownBy w5.drew none) := grown_drew w5 1 none
            have hgb5 : gb < w5.heap.size := Nat.lt_of_lt_of_le hgbw HG5.out.size
            clear y0 z0 HGD HYB HPL
            rcases HSP.out with ⟨hp, hbad⟩ | ⟨j2, x2, hp, hx2, hbad⟩
            · subst hp
              have HRS : Hid (R = some i) := by
                show _ = _
                rw [← HFR.out, drop_at HX.out, checkF, if_pos (bad_use (List.mem_of_getElem? HUU.out) HUX.out (by rcases HU2.out with h | h <;> rw [hbad, h] <;> decide)), List.length_take, Nat.min_eq_left (by rw [HLN.out]; omega)]
              have HBE : Hid (Below w.heap.size w w5) := HB3.out.grown HG35.out HB3.out.size (fun _ e => by cases e)
              clear hbad HSP
              go_wp2
              go_quiet (fail)
              go_wp2
              go_ret2
              refine ⟨?_, HBE.out.grown (row := none) (grown_drew _ _ _) HBE.out.size (fun _ e => by cases e)⟩
              rw [HRS.out]
              rfl
            · subst hp
              have hj2 : j2 < i := by
                have := (List.getElem?_eq_some_iff.1 hx2).1
                rw [List.length_take] at this
                omega
              have hx3 : l[j2]? = some x2 := by
                rw [List.getElem?_take, if_pos hj2] at hx2
                exact hx2
              obtain ⟨g2, o2, cap2, e2, hl2, A2, B2, q2, _, _⟩ := (HS3.out.still HG35.out).get hx3
              injection e2 with e2a e2b e2c
              obtain ⟨hg12, ho12⟩ : g1 = g2 ∧ o1 = o2 := by cases e2a; exact ⟨rfl, rfl⟩
              subst hg12 ho12
              clear e2a e2b e2c
              obtain ⟨kind2, name2, xa2, xb2, rule2, N2, d2, K2, snap2⟩ := x2
              have v0 := q2 0 (by decide)
              have v1 := q2 1 (by decide)
              have v2 := q2 2 (by decide)
              have v3 := q2 3 (by decide)
              have v4 := q2 4 (by decide)
              have v5 := q2 5 (by decide)
              have v6 := q2 6 (by decide)
              have v7 := q2 7 (by decide)
              have v8 := q2 8 (by decide)
              have v9 := q2 9 (by decide)
              have v10 := q2 10 (by decide)
              have v11 := q2 11 (by decide)
              have v12 := q2 12 (by decide)
              simp only [stCells, List.getElem?_cons_succ, List.getElem?_cons_zero, Nat.add_zero] at v0 v1 v2 v3 v4 v5 v6 v7 v8 v9 v10 v11 v12
              have hj2n : j2 < n := by omega
              have hd6 : decide ((j2 : Int) < 0) = false := by simp
              have hd7 : decide (j2 < n) = true := by simp; omega
              have hd8 : decide ((j2 : Int) < (n : Int)) = true := by simp; omega
              obtain ⟨GV, hGV⟩ : ∃ q, giveV kind2 = q := ⟨_, rfl⟩
              have HGI : Hid (∀ w', Calls Tryz.prog 26 #[.agg #[.int .i64 kind2, .string (bs name2), .int .i64 A2.k, .string A2.s, .slice A2.a A2.n A2.c, .int .i64 B2.k, .string B2.s, .slice B2.a B2.n B2.c, .int .i64 rule2, .int .i64 N2, .int .i64 d2, .int .i64 K2, .bool snap2]] w' fun e w'' => e = .returned (.int .i64 GV) ∧ w'.grownBy w'' none) := by
                intro w'
                rw [← hGV]
                exact gives_any kind2 name2 rule2 N2 d2 K2 snap2 A2 B2 w'
              have HBD : Hid (typeIn (l.take i) u.1 = GV) := by
                show _ = _
                rw [hbad, ← hGV]
              obtain ⟨bad, hb⟩ : ∃ bad, (GV != u.2) = bad := ⟨_, rfl⟩
              have HBB := Lib.hid hb
              clear q2 hx2 hx3 hGV hbad hb HSP
              go_wp2
              go_region_held3 (fun w' => w'.cell? ⟨g1, o1 + j2 * 13, none⟩ = some (.int .i64 kind2) ∧ w'.cell? ⟨g1, o1 + j2 * 13 + 1, none⟩ = some (.string (bs name2)) ∧ w'.cell? ⟨g1, o1 + j2 * 13 + 2, none⟩ = some (.int .i64 A2.k) ∧ w'.cell? ⟨g1, o1 + j2 * 13 + 3, none⟩ = some (.string A2.s) ∧ w'.cell? ⟨g1, o1 + j2 * 13 + 4, none⟩ = some (.slice A2.a A2.n A2.c) ∧ w'.cell? ⟨g1, o1 + j2 * 13 + 5, none⟩ = some (.int .i64 B2.k) ∧ w'.cell? ⟨g1, o1 + j2 * 13 + 6, none⟩ = some (.string B2.s) ∧ w'.cell? ⟨g1, o1 + j2 * 13 + 7, none⟩ = some (.slice B2.a B2.n B2.c) ∧ w'.cell? ⟨g1, o1 + j2 * 13 + 8, none⟩ = some (.int .i64 rule2) ∧ w'.cell? ⟨g1, o1 + j2 * 13 + 9, none⟩ = some (.int .i64 N2) ∧ w'.cell? ⟨g1, o1 + j2 * 13 + 10, none⟩ = some (.int .i64 d2) ∧ w'.cell? ⟨g1, o1 + j2 * 13 + 11, none⟩ = some (.int .i64 K2) ∧ w'.cell? ⟨g1, o1 + j2 * 13 + 12, none⟩ = some (.bool snap2) ∧ w'.cell? ⟨gb, j, none⟩ = some (.int .i64 u.2)) (first | exact ⟨v0, v1, v2, v3, v4, v5, v6, v7, v8, v9, v10, v11, v12, y1⟩ | exact hz)
                ((go_at_call 26; refine (HGI.out _).mono ?_; rintro e w6 ⟨rfl, hg6⟩; have HG6 : Hid (w5.grownBy w6 none) := grown_trans HGD5.out hg6; have hz : w6.cell? ⟨g1, o1 + j2 * 13, none⟩ = some (.int .i64 kind2) ∧ w6.cell? ⟨g1, o1 + j2 * 13 + 1, none⟩ = some (.string (bs name2)) ∧ w6.cell? ⟨g1, o1 + j2 * 13 + 2, none⟩ = some (.int .i64 A2.k) ∧ w6.cell? ⟨g1, o1 + j2 * 13 + 3, none⟩ = some (.string A2.s) ∧ w6.cell? ⟨g1, o1 + j2 * 13 + 4, none⟩ = some (.slice A2.a A2.n A2.c) ∧ w6.cell? ⟨g1, o1 + j2 * 13 + 5, none⟩ = some (.int .i64 B2.k) ∧ w6.cell? ⟨g1, o1 + j2 * 13 + 6, none⟩ = some (.string B2.s) ∧ w6.cell? ⟨g1, o1 + j2 * 13 + 7, none⟩ = some (.slice B2.a B2.n B2.c) ∧ w6.cell? ⟨g1, o1 + j2 * 13 + 8, none⟩ = some (.int .i64 rule2) ∧ w6.cell? ⟨g1, o1 + j2 * 13 + 9, none⟩ = some (.int .i64 N2) ∧ w6.cell? ⟨g1, o1 + j2 * 13 + 10, none⟩ = some (.int .i64 d2) ∧ w6.cell? ⟨g1, o1 + j2 * 13 + 11, none⟩ = some (.int .i64 K2) ∧ w6.cell? ⟨g1, o1 + j2 * 13 + 12, none⟩ = some (.bool snap2) ∧ w6.cell? ⟨gb, j, none⟩ = some (.int .i64 u.2) := ⟨(grown_cell HG6.out hl2).trans v0, (grown_cell HG6.out hl2).trans v1, (grown_cell HG6.out hl2).trans v2, (grown_cell HG6.out hl2).trans v3, (grown_cell HG6.out hl2).trans v4, (grown_cell HG6.out hl2).trans v5, (grown_cell HG6.out hl2).trans v6, (grown_cell HG6.out hl2).trans v7, (grown_cell HG6.out hl2).trans v8, (grown_cell HG6.out hl2).trans v9, (grown_cell HG6.out hl2).trans v10, (grown_cell HG6.out hl2).trans v11, (grown_cell HG6.out hl2).trans v12, (grown_cell HG6.out hgb5).trans y1⟩; clear hg6))
              have HG36 : Hid (w3.grownBy w6 none) := grown_trans HG35.out HG6.out
              have HBE : Hid (Below w.heap.size w w6) := HB3.out.grown HG36.out HB3.out.size (fun _ e => by cases e)
              have hbb := HBB.out
              clear y1 hz v0 v1 v2 v3 v4 v5 v6 v7 v8 v9 v10 v11 v12
              cases bad with
              | true =>
                have HRS : Hid (R = some i) := by
                  show _ = _
                  rw [← HFR.out, drop_at HX.out, checkF, if_pos (bad_use (List.mem_of_getElem? HUU.out) HUX.out (by rw [HBD.out]; simpa using HBB.out)), List.length_take, Nat.min_eq_left (by rw [HLN.out]; omega)]
                go_wp2
                go_ret2
                refine ⟨?_, HBE.out⟩
                rw [HRS.out]
                rfl
              | false =>
                have HAL2 : Hid (∀ x ∈ us.take (j + 1), typeIn (l.take i) x.1 = x.2) := by
                  show ∀ x ∈ _, _
                  intro x hx
                  rw [List.take_add_one, HUU.out] at hx
                  rcases List.mem_append.1 hx with hx | hx
                  · exact HALL.out x hx
                  · obtain rfl : x = u := by simpa using hx
                    rw [HBD.out]
                    simpa using HBB.out
                go_wp2
                go_roundg (gk - 1)
                case measure => omega
                case rel => exact ⟨j + 1, by go_num, by omega, by omega, HG36.out, HAL2.out⟩
          · have hjm2 : j = m := by omega
            have HAL2 : Hid (∀ x ∈ us, typeIn (l.take i) x.1 = x.2) := by
              have h := HALL.out
              rw [hjm2, List.take_of_length_le (by rw [HUM.out.1]; omega)] at h
              exact h
            have hd4 : decide (j < m) = false := by simp; omega
            have hd5 : decide ((j : Int) < (m : Int)) = false := by simp; omega
            have hic : i ≤ c := by omega
            have hic2 : (i : Int) ≤ (c : Int) := by omega
            have y0 := (grown_cell HG2.out hw3).trans HXN3.out
            have hgw : g1 < wr.heap.size := Nat.lt_of_lt_of_le hw3 HG2.out.size
            have HGD : Hid (wr.grownBy wr.drew none) := grown_drew wr 1 none
            obtain ⟨P, hP⟩ : ∃ P, placeS (l.take i) name = P := ⟨_, rfl⟩
            have HPL : Hid (∀ w', w3.grownBy w' none → Calls Tryz.prog 25 #[.slice (some ⟨g1, o1, none⟩) i c, .string (bs name)] w' fun e w'' => e = .returned (.int .i64 P) ∧ w'.grownBy w'' none) := by
              intro w' hg'
              rw [← hP]
              exact place_any _ _ name w' ((HS3.out.still hg').first2 HLN.out i (by omega))
            have HPN : Hid ((typeIn (l.take i) name != 0) = decide (0 ≤ P)) := by
              show _ = _
              rw [← hP]
              exact place_name (fun x hx => HK.out x (List.mem_of_mem_take hx)) name
            obtain ⟨bad, hb⟩ : ∃ bad, decide (0 ≤ P) = bad := ⟨_, rfl⟩
            have HBB := Lib.hid hb
            clear hP hjm2 HALL hb
            go_wp2
            go_region_held3 (fun w' => w'.cell? ⟨g1, o1 + i * 13 + 1, none⟩ = some (.string (bs name)) ∧ True) (first | exact ⟨y0, trivial⟩ | exact ⟨z0, trivial⟩)
              ((go_at_call 25; refine (HPL.out _ (grown_trans HG2.out HGD.out)).mono ?_; rintro e w5 ⟨rfl, hg5⟩; have HG5 : Hid (wr.grownBy w5 none) := grown_trans HGD.out hg5; have z0 := (grown_cell HG5.out hgw).trans y0; clear hg5))
            have HG35 : Hid (w3.grownBy w5 none) := grown_trans HG2.out HG5.out
            have HBE : Hid (Below w.heap.size w w5) := HB3.out.grown HG35.out HB3.out.size (fun _ e => by cases e)
            have hbb := HBB.out
            clear y0 z0 HGD HPL
            cases bad with
            | true =>
              have hP0 : 0 ≤ P := of_decide_eq_true HBB.out
              have HRS : Hid (R = some i) := by
                show _ = _
                rw [← HFR.out, drop_at HX.out, checkF, if_pos (bad_name (by have h := HPN.out; rw [HBB.out] at h; simpa using h)), List.length_take, Nat.min_eq_left (by rw [HLN.out]; omega)]
              go_wp2
              go_ret2
              refine ⟨?_, HBE.out⟩
              rw [HRS.out]
              rfl
            | false =>
              have hP0 : ¬ 0 ≤ P := of_decide_eq_false HBB.out
              have HFN : Hid (checkF (l.take (i + 1)) (l.drop (i + 1)) = R) := by
                show _ = _
                rw [← HFR.out, drop_at HX.out, checkF, if_neg (good_st HAL2.out HUX.out (by have h := HPN.out; rw [HBB.out] at h; simpa using h)), List.take_add_one, HX.out]
                rfl
              go_wp2
              go_roundg (gO - 1)
              case measure => omega
              case rel => exact ⟨i + 1, by go_num, by omega, by omega, HBE.out, HFN.out⟩
      · have hin : i = n := by omega
        obtain rfl : R = none := by
          have h := HFR.out
          rw [List.drop_eq_nil_of_le (by rw [HLN.out]; omega), checkF] at h
          exact h.symm
        have hd2 : decide (i < n) = false := by simp; omega
        have hd3 : decide ((i : Int) < (n : Int)) = false := by simp; omega
        clear HFR hin
        go_wp2
        go_ret2
        exact ⟨rfl, HB.out⟩
end Go.Proofs.YtdjklnlkocconaaGreatDoor

namespace Go.Proofs.YtdjklnlkocconaaGreatDoor
open Go Go.RowKit

/-- w', but for two blocks and new ones, is as w was. -/
structure Kept2 (w w' : World) (a b : Nat) : Prop where
  os : w'.os = w.os
  tape : w'.tape = w.tape
  output : w'.output = w.output
  size : w.heap.size ≤ w'.heap.size
  block : ∀ k, k < w.heap.size → k ≠ a → k ≠ b → w'.heap[k]? = w.heap[k]?
theorem Kept2.refl (w : World) (a b : Nat) : Kept2 w w a b := ⟨rfl, rfl, rfl, Nat.le_refl _, fun _ _ _ _ => rfl⟩
theorem Kept2.grown {w w' w'' : World} {a b : Nat} {row : Option Nat} (h : Kept2 w w' a b) (hg : w'.grownBy w'' row) (hr : ∀ k, row = some k → k = a ∨ k = b ∨ w.heap.size ≤ k) : Kept2 w w'' a b :=
  ⟨hg.os.trans h.os, hg.tape.trans h.tape, hg.output.trans h.output, Nat.le_trans h.size hg.size, fun k hk ha hb => (hg.block k (Nat.lt_of_lt_of_le hk h.size) (fun e => by rcases hr k e.symm with h1 | h1 | h1 <;> omega)).trans (h.block k hk ha hb)⟩
theorem Kept2.below {w0 w w' : World} {a b : Nat} (h : Kept2 w w' a b) (hb : Below w0.heap.size w0 w) (h1 : w0.heap.size ≤ a) (h2 : w0.heap.size ≤ b) : Below w0.heap.size w0 w' :=
  ⟨h.os.trans hb.os, h.tape.trans hb.tape, h.output.trans hb.output, Nat.le_trans hb.size h.size, fun k hk => (h.block k (Nat.lt_of_lt_of_le hk hb.size) (by omega) (by omega)).trans (hb.block k hk)⟩

def RqAt (w : World) (b : Nat) (l : List St) (n : Nat) (R : List Nat) (k : Nat) (v : Value) (wr : World) : Prop := ∃ (f : Nat) (need row : List Nat) (va : Value), va = v ∧ f < k ∧ f ≤ n + 2 ∧ Below w.heap.size w wr ∧ NArr wr b n need ∧ QRow wr (b + 1) v row ∧ goF (outS l) f row need = R ∧ row.length + (n - need.length) < f ∧ need.Nodup ∧ (∀ j ∈ need, j < n) ∧ (∀ j ∈ row, j < n)
def RpAt (w3 : World) (b gq : Nat) (L : List (List UInt8)) (l : List St) (n m r0 : Nat) (F : List Nat × List Nat) (k : Nat) (v u : Value) (wr : World) : Prop := ∃ (j : Nat) (need row : List Nat) (va : Value), va = v ∧ u = .int .i64 j ∧ j ≤ m ∧ m < k + j ∧ Kept2 w3 wr b gq ∧ NArr wr b n need ∧ QRow wr (b + 1) v row ∧ (v.ownBlock = some gq ∨ ∃ g, v.ownBlock = some g ∧ w3.heap.size ≤ g) ∧ row.length ≤ r0 + j ∧ pushF ((L.drop j).map (plc l)) need row = F
def flt (R : List Nat) (k : Nat) : List Nat := (List.range k).filter fun j => R.contains j
def RoAt (w4 : World) (n : Nat) (R : List Nat) (k : Nat) (v u : Value) (wr : World) : Prop := ∃ (j : Nat) (va : Value), va = v ∧ u = .int .i64 j ∧ j ≤ n ∧ n < k + j ∧ Below w4.heap.size w4 wr ∧ wr.ownsRow w4.heap.size 3 1 v (flt R j).length (intL (flt R j))
theorem flt_len (R : List Nat) (k : Nat) : (flt R k).length ≤ k := by
  have := List.length_filter_le (fun j => R.contains j) (List.range k)
  simpa [flt] using this
theorem flt_step (R : List Nat) (k : Nat) : flt R (k + 1) = if R.contains k then flt R k ++ [k] else flt R k := by
  rw [flt, List.range_succ, List.filter_append]
  cases h : R.contains k with
  | true => rw [if_pos rfl, List.filter_cons_of_pos (by rw [h])]; rfl
  | false => rw [if_neg (by simp), List.filter_cons_of_neg (by rw [h]; simp), List.filter_nil, List.append_nil]; rfl
theorem intL_snoc (l : List Nat) (k : Nat) : intL (l ++ [k]) = intL l ++ [.int .i64 (k : Int)] := by simp [intL]
theorem nodup_le {need : List Nat} {n : Nat} (hn : need.Nodup) (h : ∀ j ∈ need, j < n) : need.length ≤ n := by
  have := hn.length_le_of_subset (l₂ := List.range n) (fun j hj => List.mem_range.2 (h j hj))
  simpa using this

set_option maxHeartbeats 4000000 in
set_option maxRecDepth 100000 in
theorem rneeds_any (l : List St) (v : Value) (i : Int) (w : World) (hnb : ∀ x ∈ l, x.name.length ≤ maxLen ∧ NdB x.a ∧ NdB x.b) (hszl : ∀ x ∈ l, (lineP x).length ≤ 100000000) (hus : ∀ x ∈ l, (usesSt x).length ≤ 4000000) (h : StsIs w v l) (hcap : ∀ a n c, v = .slice a n c → n ≤ c ∧ c ≤ maxLen) :
    Calls Tryz.prog 13 #[v, .int .i64 i] w (RowE w (needsV l i)) := by
  have H := Lib.hid h
  have HCH := Lib.hid (rcheck_any l v w hnb hszl hus h hcap)
  have HUS := Lib.hid hus
  obtain ⟨hn, a, c, rfl, _⟩ := h
  obtain ⟨n, hln⟩ : ∃ n, l.length = n := ⟨_, rfl⟩
  rw [hln] at hn H HCH ⊢
  have HLN := Lib.hid hln
  clear hnb hszl hus hcap
  by_cases hok : (checkS l).2 = 0 ∧ 0 ≤ i ∧ i < n
  case neg =>
    rw [needsV_not (by rw [hln]; exact hok)]
    obtain ⟨E, hE⟩ : ∃ q, (checkS l).2 = q := ⟨_, rfl⟩
    rw [hE] at hok HCH
    clear hE hln
    by_cases hE0 : E = 0
    · subst hE0
      by_cases hi0 : i < 0
      · clear hok
        go_enter Tryz.func13, Tryz.ntmps13
        go_wp2_with fail
        refine HCH.out.mono ?_
        rintro e w1 ⟨rfl, hb1⟩
        go_wp2
        go_ret
        exact rowE_nil hb1
      · have hi1 : (n : Int) ≤ i := by omega
        have hd1 : decide ((n : Int) ≤ i) = true := by simp; omega
        clear hok
        go_enter Tryz.func13, Tryz.ntmps13
        go_wp2_with fail
        refine HCH.out.mono ?_
        rintro e w1 ⟨rfl, hb1⟩
        go_wp2
        go_ret
        exact rowE_nil hb1
    · have hEn : (E != 0) = true := by simpa using hE0
      clear hok hE0
      go_enter Tryz.func13, Tryz.ntmps13
      go_wp2_with fail
      refine HCH.out.mono ?_
      rintro e w1 ⟨rfl, hb1⟩
      go_wp2
      go_ret
      exact rowE_nil hb1
  obtain ⟨h0, h1, h2⟩ := hok
  obtain ⟨i0, rfl⟩ := Int.eq_ofNat_of_zero_le h1
  have hin : i0 < n := by omega
  rw [needsV_of h0 (by rw [hln]; exact hin)]
  obtain ⟨hpt, hck⟩ := checkS_ok h0
  have HCK := Lib.hid hck
  obtain ⟨t, ht⟩ := hpt
  have hn1000 : n ≤ 1000 := by
    have := ((printS_iff l t).1 ht).2.1
    omega
  rw [h0] at HCH
  obtain ⟨NS, hNS⟩ : ∃ q, needsS l i0 = q := ⟨_, rfl⟩
  obtain ⟨R, hR⟩ : ∃ q, goF (outS l) (n + 2) [i0] [] = q := ⟨_, rfl⟩
  have HRS : Hid (flt R n = NS) := by
    show _ = _
    rw [← hNS, ← hR, ← hln]
    exact go_needs hck (by rw [hln]; exact hin) _ (by omega)
  rw [hNS]
  have HR := Lib.hid hR
  obtain ⟨E1, hE1⟩ : ∃ q, (checkS l).1 = q := ⟨_, rfl⟩
  rw [hE1] at HCH
  obtain ⟨ii, hi, hi0, hi1, hi2⟩ := info_parts info3
  have hd0 : decide ((n : Int) ≤ (i0 : Int)) = false := by simp; omega
  have hd1 : decide (n ≤ i0) = false := by simp; omega
  have hd9 : decide ((i0 : Int) < 0) = false := by simp
  clear h0 h1 h2 hck ht hNS hR hln hE1
  go_enter Tryz.func13, Tryz.ntmps13
  go_wp2_with fail
  refine HCH.out.mono ?_
  rintro e w1 ⟨rfl, hb1⟩
  have B1 := Lib.hid hb1
  clear HCH hb1
  obtain ⟨w2, hmk, hna2, hg2⟩ := NArr.made w1 n (by omega)
  have hbz := hna2.lt
  have HN2 := Lib.hid hna2
  have HB2 : Hid (Below w.heap.size w w2) := B1.out.trans ((below_still2 hg2).mono B1.out.size)
  have hbb := B1.out.size
  clear hna2 hg2
  go_wp2_with fail
  have HA0 : Hid (RqAt w w1.heap.size l n R (n + 3) (.slice (some ⟨w2.heap.size, 0, none⟩) 1 1) (w2.alloc (.cells #[.int .i64 (i0 : Int)] 3))) :=
    ⟨n + 2, [], [i0], _, rfl, by omega, Nat.le_refl _, HB2.out.alloc HB2.out.size _, HN2.out.kept (Below.heap_alloc _ _ _ hbz), QRow.lit (Blk1.new w2 _ _) hbz, HR.out, by simp; omega, List.nodup_nil, by simp, by simp; omega⟩
  generalize w1.heap.size = b at *
  generalize (w2.alloc (.cells #[.int .i64 (i0 : Int)] 3)) = w3 at *
  clear HN2 HB2 B1 HR hmk hd0 hd1 hd9 hbz
  go_loopg [8] (n + 3) (fun k v wr => Hid (RqAt w b l n R k v wr))
  case atStart => exact HA0
  case round =>
    obtain ⟨f, need, row, v, rfl, hfk, hfn, hbw, hna, hqr, hgo, hflt, hnd, hnb, hrb⟩ := hrel.out
    obtain ⟨gO, hgO⟩ : ∃ q, q = gk := ⟨_, rfl⟩
    subst hgO
    have HB := Lib.hid hbw
    have HNA := Lib.hid hna
    have HQ := Lib.hid hqr
    have HGO := Lib.hid hgo
    have HND := Lib.hid hnd
    have HNB := Lib.hid hnb
    have HRB := Lib.hid hrb
    have hbl := hna.lt
    clear hrel hbw hna hqr hgo hnd hnb hrb HA0
    cases f with
    | zero => exact absurd hflt (Nat.not_lt_zero _)
    | succ f =>
    cases row with
    | nil =>
      obtain rfl : need = R := HGO.out
      obtain ⟨g, o, cq, cur, rfl, -, -, -, -, -, -⟩ := HQ.out
      obtain ⟨w4, hw4⟩ : ∃ q : World, q = wr := ⟨_, rfl⟩
      subst hw4
      clear HQ HGO hflt HND HNB HRB
      go_wp2_with fail
      go_loopg [13, 14] (n + 1) (fun k v u wr => Hid (RoAt w4 n need k v u wr))
      case atStart => exact ⟨0, _, rfl, rfl, Nat.zero_le _, by omega, Below.refl _ _, World.ownsRow_nil _ _ _ _⟩
      case round =>
        obtain ⟨j, v, rfl, rfl, hj, hkj, hbw, hrow⟩ := hrel.out
        have HBW := Lib.hid hbw
        have HRW := Lib.hid hrow
        have hgz := hbw.size
        clear hrel hbw hrow
        by_cases hjn : j < n
        · have y0 := (World.cell?_of_block (a := ⟨b, j, none⟩) (HBW.out.block b hbl)).trans (HNA.out.cell hjn)
          have hd4 : decide (j < n) = true := by simp; omega
          have hd5 : decide ((j : Int) < (n : Int)) = true := by simp; omega
          obtain ⟨cb, hcb⟩ : ∃ q, need.contains j = q := ⟨_, rfl⟩
          have HCB := Lib.hid hcb
          rw [hcb] at y0
          have hfl := flt_len need j
          clear hcb
          cases cb with
          | false =>
            have HRN : Hid (wr.ownsRow w4.heap.size 3 1 v (flt need (j + 1)).length (intL (flt need (j + 1)))) := by
              show World.ownsRow _ _ _ _ _ _ _
              rw [flt_step, HCB.out]
              exact HRW.out
            clear HRW HCB
            go_wp2
            go_roundg (gk - 1)
            case measure => omega
            case rel => exact ⟨j + 1, _, rfl, by go_num, by omega, by omega, HBW.out, HRN.out⟩
          | true =>
            go_wp2_with (at_builtin; go_must (refine wpList_append_lies _ rfl _ _ 31 rfl w4.heap.size 3 ii _ 1 8 Tryz.underlying31 hi hi0 hi1 hi2 rfl (by decide) _ _ _ rfl (HRW.out.alloc _) ⟨wr.heap.size, 0, none⟩ 1 1 [.int .i64 (j : Int)] rfl rfl (cell_new _ [.int .i64 (j : Int)] _ (by simp)) (by simp [Value.oneCell']) (by decide) (by unfold maxLen; omega) (by omega) (by simp; omega) (wr.heap.size + 1) (by simp) ?_))
            intro g7 cap7 w7 hown7 hgrow hat hlt7
            have hg0 : ∀ k, v.ownBlock = some k → w4.heap.size ≤ k := fun k e => (HRW.out.lt k e).1
            have HB7 : Hid (Below w4.heap.size w4 w7) := (HBW.out.alloc hgz _).grown hgrow (by simp; omega) hg0
            have HO7 : Hid (w7.ownsRow w4.heap.size 3 1 (.slice (some ⟨g7, 0, none⟩) ((flt need j).length + 1) cap7) (flt need (j + 1)).length (intL (flt need (j + 1)))) := by
              show World.ownsRow _ _ _ _ _ _ _
              rw [flt_step, HCB.out, if_pos rfl, intL_snoc, List.length_append]
              exact hown7
            clear hown7 hgrow hat hlt7 hg0 HRW HCB
            go_wp2
            go_roundg (gk - 1)
            case measure => omega
            case rel => exact ⟨j + 1, _, rfl, by go_num, by omega, by omega, HB7.out, HO7.out⟩
        · have hjn2 : j = n := by omega
          have hd4 : decide (j < n) = false := by simp; omega
          have hd5 : decide ((j : Int) < (n : Int)) = false := by simp; omega
          have HRF : Hid (RowE w NS (.returned v) wr) := by
            refine ⟨_, rfl, ?_, HB.out.trans (HBW.out.mono HB.out.size)⟩
            have h := HRW.out
            rw [hjn2, HRS.out] at h
            exact Joins.ownsRow_le h HB.out.size
          clear HRW HBW hjn2
          go_wp2
          go_ret
          exact HRF.out
    | cons x0 row =>
      have hxn : x0 < n := HRB.out x0 (by simp)
      obtain ⟨FF, hFF⟩ : ∃ q, pushF (outS l x0) need row = q := ⟨_, rfl⟩
      have HFF := Lib.hid hFF
      have HGN : Hid (goF (outS l) f FF.2 FF.1 = R) := by
        have h := HGO.out
        rw [goF, hFF] at h
        exact h
      obtain ⟨g, o, cq, rfl, hc0⟩ := HQ.out.head
      obtain ⟨v2, hsl, hq2, ho2⟩ := HQ.out.pop
      have HQ2 := Lib.hid hq2
      have ho3 : v2.ownBlock = some g := ho2
      have HO2 := Lib.hid ho3
      obtain ⟨gq, hgq, hgb, hgl⟩ := hq2.lt
      obtain rfl : g = gq := Option.some.inj (ho3.symm.trans hgq)
      obtain ⟨x, hx⟩ : ∃ x, l[x0]? = some x := ⟨l[x0]'(by rw [HLN.out]; omega), List.getElem?_eq_getElem _⟩
      have HX := Lib.hid hx
      obtain ⟨g1, o1, cap1, e1, hl1, A, B, q1, na, nb⟩ := (sts_below H.out HB.out).get hx
      injection e1 with e1a e1b e1c
      subst e1a e1c
      clear e1b
      obtain ⟨kind, name, xa, xb, rule, N, d, K, snap⟩ := x
      have z0 := q1 0 (by decide)
      have z1 := q1 1 (by decide)
      have z2 := q1 2 (by decide)
      have z3 := q1 3 (by decide)
      have z4 := q1 4 (by decide)
      have z5 := q1 5 (by decide)
      have z6 := q1 6 (by decide)
      have z7 := q1 7 (by decide)
      have z8 := q1 8 (by decide)
      have z9 := q1 9 (by decide)
      have z10 := q1 10 (by decide)
      have z11 := q1 11 (by decide)
      have z12 := q1 12 (by decide)
      simp only [stCells, List.getElem?_cons_succ, List.getElem?_cons_zero, Nat.add_zero] at z0 z1 z2 z3 z4 z5 z6 z7 z8 z9 z10 z11 z12
      have NA := Lib.hid na
      have NB := Lib.hid nb
      have HUL : Hid ((usesN xa).length + (usesN xb).length ≤ 4000000) := by have h := HUS.out _ (List.mem_of_getElem? hx); rw [usesSt_len] at h; exact h
      have hd2 : decide (x0 < n) = true := by simp; omega
      have hd3 : decide ((x0 : Int) < (n : Int)) = true := by simp; omega
      have hrl : row.length ≤ n + 1 := by simp at hflt; omega
      have hd6 : decide (0 < row.length + 1) = true := by simp
      have hd7 : decide ((0 : Int) < ((row.length + 1 : Nat) : Int)) = true := decide_eq_true (by omega)
      clear q1 hx na nb hFF hq2 ho2 ho3 hgq HQ
      go_wp2_with fail
      refine (rUses_any kind name xa xb rule N d K snap A B _ NA.out NB.out HUL.out).mono ?_
      rintro e w3 ⟨va, rfl, hra, hb3⟩
      obtain ⟨L, hL⟩ : ∃ q, usesD ⟨kind, name, xa, xb, rule, N, d, K, snap⟩ = q := ⟨_, rfl⟩
      have HOUT : Hid (outS l x0 = L.map (plc l)) := by
        show _ = _
        rw [outS_some HX.out, hL]
        rfl
      have HED : Hid (∀ s ∈ L, ∃ j : Nat, placeS l s = j ∧ j < x0) := by
        intro s hs
        rw [← hL] at hs
        obtain ⟨j, y, h1, h2, _, _⟩ := bound_edge HCK.out HX.out hs
        exact ⟨j, h1, h2⟩
      have hLl : L.length ≤ 4000000 := by
        rw [← hL]
        exact Nat.le_trans (usesD_len _) (HUS.out _ (List.mem_of_getElem? HX.out))
      rw [hL] at hra
      obtain ⟨m, hm⟩ : ∃ m, L.length = m := ⟨_, rfl⟩
      have HUM : Hid (L.length = m) := hm
      rw [hm] at hra hLl
      obtain ⟨aa, ca, rfl⟩ := owns_shape hra
      have HRA := Lib.hid hra
      have HRL : Hid (∀ g, (Value.slice aa m ca).ownBlock = some g → wr.heap.size ≤ g) := fun g e => (hra.lt g e).1
      have HB3 : Hid (Below w.heap.size w w3) := HB.out.trans (hb3.mono HB.out.size)
      have HN3 : Hid (NArr w3 b n need) := HNA.out.kept (hb3.block b hbl)
      have HQ3 : Hid (QRow w3 (b + 1) v2 row) := HQ2.out.kept (fun k e => hb3.block k (by have := Option.some.inj (HO2.out.symm.trans e); omega))
      have HPF : Hid (pushF (L.map (plc l)) need row = FF) := by
        show _ = _
        rw [← HOUT.out]
        exact HFF.out
      have hgz := hb3.size
      obtain ⟨wo, hwo⟩ : ∃ q : Nat, q = wr.heap.size := ⟨_, rfl⟩
      rw [← hwo] at HRL hgl hbl hgz
      clear hL hm hra hb3 NA NB HUL HB HNA HQ2 hsl hc0 hwo z0 z1 z2 z3 z4 z5 z6 z7 z8 z9 z10 z11 z12
      go_wp2_with fail
      go_loopg [8, 11] (m + 1) (fun k v u wr => Hid (RpAt w3 b g L l n m row.length FF k v u wr))
      case atStart => exact ⟨0, need, row, _, rfl, rfl, Nat.zero_le _, by omega, Kept2.refl _ _ _, HN3.out, HQ3.out, .inl HO2.out, Nat.le_refl _, HPF.out⟩
      case round =>
        obtain ⟨j, need2, row2, v, rfl, rfl, hj, hkj, hkp, hna, hqr, how, hrl2, hpf⟩ := hrel.out
        have HKP := Lib.hid hkp
        have HNW := Lib.hid hna
        have HQW := Lib.hid hqr
        have HOW := Lib.hid how
        have HPW := Lib.hid hpf
        clear hrel hkp hna hqr how hpf
        by_cases hjm : j < m
        · obtain ⟨s, hsj⟩ : ∃ s, L[j]? = some s := ⟨L[j]'(by rw [HUM.out]; exact hjm), List.getElem?_eq_getElem _⟩
          have HSJ := Lib.hid hsj
          obtain ⟨P, hP, hPk⟩ := HED.out s (List.mem_of_getElem? hsj)
          obtain ⟨ga, capa, hv, _, hga, _, hca⟩ := owns_slice HRA.out (by omega)
          have hbga : wo ≤ ga := HRL.out ga (by rw [hv]; rfl)
          cases hv
          have y0 := (World.cell?_of_block (a := ⟨ga, j, none⟩) (HKP.out.block ga hga (by omega) (by omega))).trans (hca _ _ (strL_get hsj))
          have hd4 : decide (j < m) = true := by simp; omega
          have hd5 : decide ((j : Int) < (m : Int)) = true := by simp; omega
          have HBR : Hid (Below w.heap.size w wr) := HKP.out.below HB3.out hbb (by omega)
          have HPL : Hid (Calls Tryz.prog 25 #[.slice (some ⟨g1, o1, none⟩) n c, .string (bs s)] wr fun e w' => e = .returned (.int .i64 (P : Int)) ∧ wr.grownBy w' none) := by
            show Calls _ _ _ _ _
            rw [← hP]
            exact place_any l _ s wr (sts_below H.out HBR.out)
          have HPN : Hid (plc l s = P) := by
            show _ = _
            rw [plc, hP]
            rfl
          have hPn : P < n := by omega
          clear hsj hP hca
          go_wp2_with fail
          refine HPL.out.mono ?_
          rintro e w5 ⟨rfl, hg5⟩
          have HG5 := Lib.hid hg5
          have hg5z := hg5.size
          have hbw : b < wr.heap.size := HNW.out.lt
          have HN5 : Hid (NArr w5 b n need2) := HNW.out.kept (hg5.block b hbw (by simp))
          have HQ5 : Hid (QRow w5 (b + 1) v row2) := HQW.out.kept (fun k e => by
            obtain ⟨k2, e2, _, h3⟩ := HQW.out.lt
            obtain rfl := Option.some.inj (e2.symm.trans e)
            exact hg5.block k2 h3 (by simp))
          have HK5 : Hid (Kept2 w3 w5 b g) := HKP.out.grown hg5 (fun k e => by cases e)
          have c0 := HN5.out.cell hPn
          have c1 := HN5.out.free P
          have hd10 : decide (P < n) = true := by simp; omega
          have hd11 : decide ((P : Int) < (n : Int)) = true := by simp; omega
          obtain ⟨cb, hcb⟩ : ∃ q, need2.contains P = q := ⟨_, rfl⟩
          have HCB := Lib.hid hcb
          rw [hcb] at c0
          clear hg5 hcb HPL y0 HNW HQW HKP HBR
          cases cb with
          | true =>
            have HPW2 : Hid (pushF ((L.drop (j + 1)).map (plc l)) need2 row2 = FF) := by
              have h := HPW.out
              rw [drop_at HSJ.out, List.map_cons, HPN.out, pushF, if_pos HCB.out] at h
              exact h
            clear HPW HCB
            go_wp2
            go_roundg (gk - 1)
            case measure => omega
            case rel => exact ⟨j + 1, need2, row2, _, rfl, by go_num, by omega, by omega, HK5.out, HN5.out, HQ5.out, HOW.out, by omega, HPW2.out⟩
          | false =>
            have HPW2 : Hid (pushF ((L.drop (j + 1)).map (plc l)) (need2 ++ [P]) (row2 ++ [P]) = FF) := by
              have h := HPW.out
              rw [drop_at HSJ.out, List.map_cons, HPN.out, pushF, if_neg (by rw [HCB.out]; simp)] at h
              exact h
            obtain ⟨hst1, hst2⟩ := HN5.out.store P
            have HST1 := Lib.hid hst1
            have HST2 := Lib.hid hst2
            obtain ⟨k2, ek2, hk2, hk3⟩ := HQ5.out.lt
            have HEK := Lib.hid ek2
            have HQS : Hid (QRow ((w5.setCell ⟨b, P, none⟩ (.bool true)).alloc (.cells #[.int .i64 (P : Int)] 3)) (b + 1) v row2) := HQ5.out.kept (fun k e => by
              obtain rfl := Option.some.inj (HEK.out.symm.trans e)
              exact (Below.heap_alloc _ _ _ (by simp; omega)).trans (hst2.block k2 hk3 (fun e => by have := Option.some.inj e; omega)))
            clear HPW HCB hst1 hst2 ek2
            go_wp2_with (at_builtin; go_must (refine wpList_append_q _ rfl _ _ 31 rfl (b + 1) ii _ 8 Tryz.underlying31 hi hi0 hi1 hi2 (by decide) _ row2 rfl HQS.out w5.heap.size P rfl (Blk1.new_at (w5.setCell ⟨b, P, none⟩ (.bool true)) _ _ (by simp)).cell (by unfold maxLen; omega) (by omega) (by simp; omega) ?_))
            intro v7 w7 hq7 hgrow hat
            have HK7 : Hid (Kept2 w3 w7 b g) := ((HK5.out.grown HST2.out (fun k e => .inl (by cases e; rfl))).grown (grown_alloc _ _ none) (fun k e => by cases e)).grown hgrow (fun k e => by
              rcases HOW.out with h1 | ⟨q, h1, h2⟩
              · exact .inr (.inl (Option.some.inj (e.symm.trans h1)))
              · obtain rfl := Option.some.inj (e.symm.trans h1)
                exact .inr (.inr h2))
            have HN7 : Hid (NArr w7 b n (need2 ++ [P])) := (HST1.out.kept (w' := ((w5.setCell ⟨b, P, none⟩ (.bool true)).alloc (.cells #[.int .i64 (P : Int)] 3))) (Below.heap_alloc _ _ _ (by simp; omega))).kept (hgrow.block b (by simp; omega) (fun e => by
              have := Option.some.inj (HEK.out.symm.trans e.symm)
              omega))
            have HO7 : Hid (v7.ownBlock = some g ∨ ∃ q, v7.ownBlock = some q ∧ w3.heap.size ≤ q) := by
              rcases hat with h1 | ⟨q, h1, h2⟩
              · rcases HOW.out with h3 | ⟨q, h3, h4⟩
                · exact .inl (h1.trans h3)
                · exact .inr ⟨q, h1.trans h3, h4⟩
              · refine .inr ⟨q, h1, ?_⟩
                have := HK5.out.size
                have hz : ((w5.setCell ⟨b, P, none⟩ (.bool true)).alloc (.cells #[.int .i64 (P : Int)] 3)).heap.size = w5.heap.size + 1 := by simp
                omega
            have HQ7 := Lib.hid hq7
            clear hq7 hgrow hat HST1 HST2 HQS HN5 HQ5 HK5 HOW c0 c1
            go_wp2
            go_roundg (gk - 1)
            case measure => omega
            case rel => exact ⟨j + 1, need2 ++ [P], row2 ++ [P], _, rfl, by go_num, by omega, by omega, HK7.out, HN7.out, HQ7.out, HO7.out, by simp; omega, HPW2.out⟩
        · have hjm2 : j = m := by omega
          have hd4 : decide (j < m) = false := by simp; omega
          have hd5 : decide ((j : Int) < (m : Int)) = false := by simp; omega
          have HE : Hid ((need2, row2) = FF) := by
            have h := HPW.out
            rw [List.drop_eq_nil_of_le (by rw [HUM.out]; omega), List.map_nil, pushF] at h
            exact h
          have HBR : Hid (Below w.heap.size w wr) := HKP.out.below HB3.out hbb (by omega)
          have hgn := HGN.out
          have hff := HFF.out
          rw [← HE.out] at hgn hff
          obtain ⟨p1, p2, p3, p4⟩ := pushF_mem (outS l x0) need row
          rw [hff] at p1 p2 p3 p4
          have HG2 := Lib.hid hgn
          have HD2 : Hid (need2.Nodup) := p4 HND.out
          have HM2 : Hid (∀ q ∈ need2, q < n) := by
            intro q hq
            rcases (p1 q).1 hq with h | h
            · exact HNB.out q h
            · have := outS_lower HCK.out x0 q h
              omega
          have HM3 : Hid (∀ q ∈ row2, q < n) := by
            intro q hq
            rcases (p2 q).1 hq with h | ⟨h, _⟩
            · exact HRB.out q (by simp [h])
            · exact HM2.out q h
          have hl1 := nodup_le HND.out HNB.out
          have hl2 := nodup_le HD2.out HM2.out
          have hl3 : row2.length + (n - need2.length) < f := by
            simp only [List.length_cons] at hflt p3
            omega
          clear hgn hff p1 p2 p3 p4 HE HPW hjm2 HGN
          go_wp2
          go_roundg (gO - 1)
          case measure => omega
          case rel => exact ⟨f, need2, row2, _, rfl, by omega, by omega, HBR.out, HNW.out, HQW.out, HG2.out, hl3, HD2.out, HM2.out, HM3.out⟩
end Go.Proofs.YtdjklnlkocconaaGreatDoor
