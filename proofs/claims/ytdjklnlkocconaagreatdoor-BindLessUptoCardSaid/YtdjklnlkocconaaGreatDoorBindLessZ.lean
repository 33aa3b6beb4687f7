/-
  BindLess: the call returns true, whatever the statements and the place.
-/
import Derived.Test.YtdjklnlkocconaaGreatDoorGroundZ
import Derived.Test.YtdjklnlkocconaaGreatDoorBnRowZ
namespace Go.Proofs.YtdjklnlkocconaaGreatDoor
section
open Go Go.RowKit

def LsAt (w : World) (l : List St) (v : Value) (k n kk : Nat) (b u : Value) (wr : World) : Prop := ∃ (i : Nat) (lb : Bool), b = .bool lb ∧ u = .int .i64 i ∧ leansB l k i = lb ∧ i ≤ n ∧ n < kk + i ∧ Below w.heap.size w wr ∧ Good wr ∧ StsIs wr v l
def LjAt (w3 : World) (NV : List Nat) (lb : Bool) (k m kk : Nat) (b u : Value) (wr : World) : Prop := ∃ (j : Nat) (c : Bool), b = .bool c ∧ u = .int .i64 j ∧ (lb || (NV.take j).contains k) = c ∧ j ≤ m ∧ m < kk + j ∧ w3.grownBy wr none
theorem take_containsN {L : List Nat} {s t : Nat} {j : Nat} (h : L[j]? = some t) : (L.take (j + 1)).contains s = ((L.take j).contains s || s == t) := by
  rw [List.take_add_one, h, Bool.eq_iff_iff]
  simp
theorem elem_kept {W w5 : World} {cs : List Value} {T : TypeId} {b : Nat} {row : Option Nat} (hb : W.heap[b]? = some (.cells cs.toArray T (0, 0))) (hg : W.grownBy w5 row) (hne : some b ≠ row) : ∀ (j : Nat) (u : Value), cs[j]? = some u → w5.cell? ((⟨b, 0, none⟩ : Addr).add j) = some u := by
  intro j u hu
  have hlt : b < W.heap.size := (Array.getElem?_eq_some_iff.1 hb).1
  rw [add_none, Nat.zero_add, cell_of_row w5 b j _ T (0, 0) ((hg.block b hlt hne).trans hb)]
  simpa using hu
theorem new_at13 (w : World) (x : St) (A B : NV) {b : Nat} (hb : b = w.heap.size) : Blk13 (w.alloc (.cells (stCells x A B).toArray 39)) b x A B := by
  subst hb
  exact Blk13.new w x A B
theorem owns_fresh_at (w : World) {B b : Nat} (hb : b = w.heap.size) (hB : B ≤ b) : (w.alloc (.cells #[] 39)).ownsRow B 39 13 (.slice (some ⟨b, 0, none⟩) 0 0) 0 [] := by
  subst hb
  exact owns_fresh w hB

set_option maxHeartbeats 4000000 in
set_option maxRecDepth 100000 in
theorem bindLess_any (l : List St) (v : Value) (at0 : Int) (w : World) (hok : BindOk l v) (h : StsIs w v l) (hg : Good w) :
    Calls Tryz.prog 5 #[v, .int .i64 at0] w fun e w' => e = .returned (.bool true) ∧ Below w.heap.size w w' := by
  have HOK := Lib.hid hok
  have H0 := Lib.hid h
  have G0 := Lib.hid hg
  obtain ⟨hn, a, c, rfl, _⟩ := h
  clear hok hg hn
  go_enter Tryz.func5, Tryz.ntmps5
  go_wp2_with fail
  refine (few24_any l _ w H0.out).mono ?_
  rintro e w1 ⟨⟨b, rfl⟩, hg1⟩
  have B1 : Hid (Below w.heap.size w w1) := below_still hg1
  have G1 := Lib.hid (G0.out.at B1.out)
  have H1 := Lib.hid (H0.out.still hg1)
  clear hg1 G0 H0
  cases b with
  | false =>
    go_wp2_with fail
    refine (known24_any _ G1.out).mono ?_
    rintro e w2 ⟨rfl, hb2⟩
    have B2 : Hid (Below w.heap.size w w2) := B1.out.trans (hb2.mono B1.out.size)
    clear hb2 B1 G1
    go_wp2
    go_ret
    exact ⟨rfl, B2.out⟩
  | true =>
    obtain ⟨n, hn⟩ : ∃ q, l.length = q := ⟨_, rfl⟩
    rw [hn] at H1 ⊢
    have HN := Lib.hid hn
    clear hn
    by_cases hn0 : n = 0
    · subst hn0
      go_wp2_with fail
      refine (known24_any _ G1.out).mono ?_
      rintro e w9 ⟨rfl, hb9⟩
      have B9 : Hid (Below w.heap.size w w9) := B1.out.trans (hb9.mono B1.out.size)
      clear hb9 B1 G1
      go_wp2
      go_ret
      exact ⟨rfl, B9.out⟩
    have hnz : ((n : Int) == 0) = false := by simpa using hn0
    have hnz2 : (n == 0) = false := by simpa using hn0
    obtain ⟨E1, hE1⟩ : ∃ q, (checkS l).1 = q := ⟨_, rfl⟩
    obtain ⟨E2, hE2⟩ : ∃ q, (checkS l).2 = q := ⟨_, rfl⟩
    have HE : Hid (checkS l = (E1, E2)) := by show _ = _; rw [← hE1, ← hE2]
    have HCK := Lib.hid HOK.out.chk
    clear hE1 hE2
    go_wp2_with fail
    refine (HCK.out.check H1.out G1.out HE.out).mono ?_
    rintro e w2 ⟨rfl, hb2⟩
    have B2 : Hid (Below w.heap.size w w2) := B1.out.trans (hb2.mono B1.out.size)
    have G2 := Lib.hid (G1.out.at hb2)
    have H2 := Lib.hid (sts_below H1.out hb2)
    clear hb2 B1 G1 H1
    go_wp2_with fail
    refine (known24_any _ G2.out).mono ?_
    rintro e w3 ⟨rfl, hb3⟩
    have B3 : Hid (Below w.heap.size w w3) := B2.out.trans (hb3.mono B2.out.size)
    have G3 := Lib.hid (G2.out.at hb3)
    have H3 := Lib.hid (sts_below H2.out hb3)
    clear hb3 B2 G2 H2
    by_cases hE0 : E2 = 0
    case neg =>
      have hne : (E2 != 0) = true := by simpa using hE0
      clear hE0
      go_wp2_with fail
      refine (known24_any _ G3.out).mono ?_
      rintro e w9 ⟨rfl, hb9⟩
      have B9 : Hid (Below w.heap.size w w9) := B3.out.trans (hb9.mono B3.out.size)
      clear hb9 B3 G3
      go_wp2
      go_ret
      exact ⟨rfl, B9.out⟩
    subst hE0
    have HC0 : Hid ((checkS l).2 = 0) := by show _ = _; rw [HE.out]
    have hn1000 : n ≤ 1000 := by
      obtain ⟨⟨t, ht⟩, _⟩ := checkS_ok HC0.out
      have := ((printS_iff l t).1 ht).2.1
      rw [HN.out] at this
      exact this
    obtain ⟨k, hk, hkn⟩ := cut_at at0 n hn0 (by omega)
    have hz : ¬ (IntKind.u64.wrap (n : Int) = 0) := by
      rw [u64_small _ (by omega) (by omega)]
      omega
    have hk2 := hk
    rw [u64_small (n : Int) (by omega) (by omega)] at hk2
    have HPOS : Hid (0 < n) := Nat.pos_of_ne_zero hn0
    clear hn0 HE
    have HK2 := Lib.hid hk2
    clear hk hk2
    go_wp2_with fail
    rw [HK2.out]
    clear hz hnz hnz2
    go_loopg [8, 9] (n + 1) (fun kk b u wr => Hid (LsAt w l (.slice a n c) k n kk b u wr))
    case atStart => exact ⟨0, false, rfl, rfl, rfl, Nat.zero_le _, by omega, B3.out, G3.out, H3.out⟩
    case round =>
      obtain ⟨i, lb, rfl, rfl, hlb, hi, hkk, hb, hgd, hst⟩ := hrel.out
      obtain ⟨gO, hgO⟩ : ∃ q, q = gk := ⟨_, rfl⟩
      subst hgO
      have HLB := Lib.hid hlb
      have HB := Lib.hid hb
      have HG := Lib.hid hgd
      have H1 := Lib.hid hst
      clear hrel hlb hb hgd hst B3 G3 H3
      by_cases hlt : i < n
      · have HNC := Lib.hid ((show BindOk l (.slice a n c) from HN.out ▸ HOK.out).needs (i : Int) H1.out HG.out)
        rw [needsV_of HC0.out (by rw [HN.out]; exact hlt)] at HNC
        have hlo := fun q (hq : q ∈ needsS l i) => needsS_lower (checkS_ok HC0.out).2 hq
        have hst := leansB_step l k i
        have hnlen := needsV_len l (i : Int)
        rw [needsV_of HC0.out (by rw [HN.out]; exact hlt)] at hnlen
        obtain ⟨NV, hNV⟩ : ∃ q, needsS l i = q := ⟨_, rfl⟩
        rw [hNV] at HNC hlo hst hnlen
        have HLO := Lib.hid hlo
        have HST := Lib.hid hst
        obtain ⟨m, hm⟩ : ∃ q, NV.length = q := ⟨_, rfl⟩
        have hm1 : m ≤ 1000 := by rw [HN.out, hm] at hnlen; omega
        have HM := Lib.hid hm
        have hd2 : decide (i < n) = true := by simp; omega
        have hd3 : decide ((i : Int) < (n : Int)) = true := by simp; omega
        clear hlo hst hnlen hNV
        go_wp2_with fail
        refine HNC.out.mono ?_
        rintro e w4 ⟨v4, rfl, hr4, hb4⟩
        rw [hm] at hr4
        obtain ⟨a4, c4, rfl⟩ := owns_shape hr4
        have HR4 := Lib.hid hr4
        have HB4 : Hid (Below w.heap.size w w4) := HB.out.trans (hb4.mono HB.out.size)
        have HG4 := Lib.hid (HG.out.at hb4)
        have HS4 := Lib.hid (sts_below H1.out hb4)
        clear hr4 hb4 hm HB HG H1 HNC
        go_wp2_with fail
        go_loopg [8, 11] (m + 1) (fun kk b u wr => Hid (LjAt w4 NV lb k m kk b u wr))
        case atStart => exact ⟨0, lb, rfl, rfl, by simp, Nat.zero_le _, by omega, grown_refl _ _⟩
        case round =>
          obtain ⟨j, cb, rfl, rfl, hcb, hj, hkj, hgw⟩ := hrel.out
          have HCB := Lib.hid hcb
          have HGW := Lib.hid hgw
          clear hrel hcb hgw
          by_cases hjm : j < m
          · obtain ⟨x, hx⟩ : ∃ x, NV[j]? = some x := ⟨NV[j]'(by rw [HM.out]; exact hjm), List.getElem?_eq_getElem _⟩
            have hxi : x < i := HLO.out x (List.mem_of_getElem? hx)
            obtain ⟨ga, ka, ea, _, hga, _, hca⟩ := owns_slice HR4.out (by omega)
            cases ea
            have y0 := (World.cell?_of_block (a := ⟨ga, j, none⟩) (HGW.out.block ga hga (by simp))).trans (hca _ _ (intL_get hx))
            have hd4 : decide (j < m) = true := by simp; omega
            have hd5 : decide ((j : Int) < (m : Int)) = true := by simp; omega
            have hd6 : decide (i ≤ x) = false := by simp; omega
            have hd7 : decide ((i : Int) ≤ (x : Int)) = false := by simp; omega
            have htk := take_containsN (s := k) hx
            obtain ⟨e, he⟩ : ∃ e, (k == x) = e := ⟨_, rfl⟩
            rw [he] at htk
            have HTK := Lib.hid htk
            have he1 : (x == k) = e := by rw [← he]; exact Bool.eq_iff_iff.2 (by simp only [beq_iff_eq]; exact ⟨Eq.symm, Eq.symm⟩)
            have he2 : ((x : Int) == (k : Int)) = e := by rw [← he1]; exact Bool.eq_iff_iff.2 (by simp only [beq_iff_eq]; omega)
            clear hca hx htk he
            cases cb with
            | true =>
              have HCN : Hid ((lb || (NV.take (j + 1)).contains k) = true) := by
                show _ = _
                rw [HTK.out, ← Bool.or_assoc, HCB.out]
                rfl
              clear HTK HCB he1 he2
              go_wp2
              go_roundg (gk - 1)
              case measure => omega
              case rel => exact ⟨j + 1, true, rfl, by go_num, HCN.out, by omega, by omega, HGW.out⟩
            | false =>
              have HCN : Hid ((lb || (NV.take (j + 1)).contains k) = e) := by
                show _ = _
                rw [HTK.out, ← Bool.or_assoc, HCB.out]
                rfl
              clear HTK HCB
              go_wp2
              go_roundg (gk - 1)
              case measure => omega
              case rel => exact ⟨j + 1, e, rfl, by go_num, HCN.out, by omega, by omega, HGW.out⟩
          · have hjm2 : j = m := by omega
            have hd4 : decide (j < m) = false := by simp; omega
            have hd5 : decide ((j : Int) < (m : Int)) = false := by simp; omega
            have HLN : Hid (leansB l k (i + 1) = cb) := by
              have h := HCB.out
              rw [hjm2, List.take_of_length_le (by rw [HM.out]; omega)] at h
              show _ = _
              rw [HST.out, HLB.out]
              exact h
            have HBE : Hid (Below w.heap.size w wr) := HB4.out.grown HGW.out HB4.out.size (fun _ e => by cases e)
            have HGE := Lib.hid (HG4.out.at (below_still HGW.out))
            have HSE := Lib.hid (HS4.out.still HGW.out)
            clear hjm2 HB4 HG4 HS4 HGW HCB
            go_wp2
            go_roundg (gO - 1)
            case measure => omega
            case rel => exact ⟨i + 1, cb, rfl, by go_num, HLN.out, by omega, by omega, HBE.out, HGE.out, HSE.out⟩
      · have hin : i = n := by omega
        have hd2 : decide (i < n) = false := by simp; omega
        have hd3 : decide ((i : Int) < (n : Int)) = false := by simp; omega
        have HLN : Hid (leansB l k n = lb) := by
          have h := HLB.out
          rw [hin] at h
          exact h
        have hcap := HOK.out.cap a l.length c rfl
        rw [HN.out] at hcap
        obtain ⟨hc1, hc2⟩ := hcap
        unfold maxLen at hc2
        obtain ⟨g, o, cs, rfl, hgl, hcl, hone, hrow, hcs⟩ := sts_cells H1.out HN.out HPOS.out
        obtain ⟨ad, hsl, had⟩ := slice_from g o n c k hkn hc1
        obtain ⟨x, hx⟩ : ∃ x, l[k]? = some x := ⟨l[k]'(by rw [HN.out]; exact hkn), List.getElem?_eq_getElem _⟩
        have HX := Lib.hid hx
        obtain ⟨i0, hi0, hz0, hz1, hz2⟩ := info_parts info39
        have HROW := Lib.hid hrow
        have HOLD : Hid (∀ w' : World, (∀ q, q < wr.heap.size → w'.heap[q]? = wr.heap[q]?) → ∀ (j : Nat) (u : Value), cs[j]? = some u → w'.cell? ⟨g, o + j, none⟩ = some u) := fun w' hq j u hu => (World.cell?_of_block (a := ⟨g, o + j, none⟩) (hq g hgl)).trans (hcs j u hu)
        have HLEN := Lib.hid hcl
        have HONE := Lib.hid hone
        have HAD := Lib.hid had
        have hkc : k ≤ c := by omega
        have hkc2 : (k : Int) ≤ (c : Int) := by omega
        have hwk : IntKind.i64.wrap ((k : Int) + 1) = (k : Int) + 1 := IntWalk.i64_in _ (by omega)
        have hsrc1 : Hid (∀ w' : World, (∀ q, q < wr.heap.size → w'.heap[q]? = wr.heap[q]?) → ∀ (j : Nat) (u : Value), (cs.take (k * 13))[j]? = some u → w'.cell? ((⟨g, o, none⟩ : Addr).add j) = some u) := by
          intro w' hq j u hu
          rw [add_none]
          refine HOLD.out w' hq j u ?_
          rw [List.getElem?_take] at hu
          split at hu
          · exact hu
          · cases hu
        have hsrc2 : Hid (∀ w' : World, (∀ q, q < wr.heap.size → w'.heap[q]? = wr.heap[q]?) → ∀ (j : Nat) (u : Value), (cs.drop ((k + 1) * 13))[j]? = some u → w'.cell? (ad.add j) = some u) := by
          intro w' hq j u hu
          rw [List.getElem?_drop] at hu
          have hlt2 := (List.getElem?_eq_some_iff.1 hu).1
          rw [HAD.out (by omega), add_none, Nat.add_assoc]
          exact HOLD.out w' hq _ u hu
        have HL1 : Hid ((cs.take (k * 13)).length = k * 13 ∧ ∀ u ∈ cs.take (k * 13), u.oneCell' = true) := ⟨by rw [List.length_take, hcl]; omega, fun u hu => hone u (List.mem_of_mem_take hu)⟩
        have HL2 : Hid ((cs.drop ((k + 1) * 13)).length = (n - (k + 1)) * 13 ∧ ∀ u ∈ cs.drop ((k + 1) * 13), u.oneCell' = true) := ⟨by rw [List.length_drop, hcl]; omega, fun u hu => hone u (List.mem_of_mem_drop hu)⟩
        have HFR : Hid ((wr.drew.alloc (.cells #[] 39)).ownsRow wr.heap.size 39 13 (.slice (some ⟨wr.heap.size, 0, none⟩) 0 0) 0 []) := owns_fresh wr.drew (Nat.le_refl _)
        have HFB : Hid (Below wr.heap.size wr (wr.drew.alloc (.cells #[] 39))) := (show Below wr.heap.size wr wr.drew from ⟨rfl, rfl, rfl, Nat.le_refl _, fun _ _ => rfl⟩).alloc (Nat.le_refl _) _
        clear hin HLB hlt hrow hcs hcl hone had hx hi
        go_wp2_with fail
        go_region_held3 (fun _ => True) (exact trivial)
          (first
            | (refine step_append_g rfl (.tmp 78) (.tmp 81) 22 rfl wr.heap.size 39 i0 _ 13 160 Tryz.underlying22 hi0 hz0 hz1 hz2 rfl (by decide) _ _ _ rfl HFR.out ⟨g, o, none⟩ k c (cs.take (k * 13)) rfl (hsrc1.out _ HFB.out.block) HL1.out.1 HL1.out.2 (by unfold maxLen; omega) (by omega) HFB.out.size ?_; intro v5 w5 hown5 hgrow5; have HB5 : Hid (Below wr.heap.size wr w5) := HFB.out.grown hgrow5 HFB.out.size (fun q e => by cases e; exact Nat.le_refl _); have HO5 := Lib.hid hown5; clear hgrow5 hown5)
            | (refine step_append_g rfl (.tmp 82) (.tmp 86) 22 rfl wr.heap.size 39 i0 _ 13 160 Tryz.underlying22 hi0 hz0 hz1 hz2 rfl (by decide) _ _ _ rfl HO5.out ad (n - (k + 1)) (c - (k + 1)) (cs.drop ((k + 1) * 13)) rfl (hsrc2.out _ HB5.out.block) HL2.out.1 HL2.out.2 (by unfold maxLen; omega) (by omega) HB5.out.size ?_; intro v6 w6 hown6 hgrow6; have HB6 : Hid (Below wr.heap.size wr w6) := HB5.out.grown hgrow6 HB5.out.size (fun q e => (HO5.out.lt q e).1); have HO6 := Lib.hid hown6; clear hgrow6 hown6))
        have S6 : Hid (StsIs w6 v6 (l.take k ++ l.drop (k + 1))) := by
          refine stsIs_of_owns (B := wr.heap.size) (cs := cs.take (k * 13) ++ cs.drop ((k + 1) * 13)) ?_ (StRow.app ((HROW.out.kept HB6.out.size (fun q hq ho => ⟨HB6.out.block q hq, ho⟩)).drop (k + 1)) ((HROW.out.kept HB6.out.size (fun q hq ho => ⟨HB6.out.block q hq, ho⟩)).take k))
          have h := HO6.out
          rw [List.nil_append] at h
          have e : (l.take k ++ l.drop (k + 1)).length = 0 + k + (n - (k + 1)) := by
            rw [List.length_append, List.length_take, List.length_drop, HN.out]
            omega
          rw [e]
          exact h
        have G6 := Lib.hid (HG.out.at HB6.out)
        have B6 : Hid (Below w.heap.size w w6) := HB.out.trans (HB6.out.mono HB.out.size)
        have H6 := Lib.hid (sts_below H1.out HB6.out)
        have HF : Hid (((checkS (l.take k ++ l.drop (k + 1))).2 == 0) = !lb) := by
          show _ = _
          rw [← HLN.out, ← HN.out]
          exact without_bool kinds_fit HC0.out (by rw [HN.out]; exact hkn)
        obtain ⟨F1, hF1⟩ : ∃ q, (checkS (l.take k ++ l.drop (k + 1))).1 = q := ⟨_, rfl⟩
        obtain ⟨F2, hF2⟩ : ∃ q, (checkS (l.take k ++ l.drop (k + 1))).2 = q := ⟨_, rfl⟩
        have HFE : Hid (checkS (l.take k ++ l.drop (k + 1)) = (F1, F2)) := by show _ = _; rw [← hF1, ← hF2]
        rw [hF2] at HF
        have HCW : Hid (ChkOk (l.take k ++ l.drop (k + 1))) := HCK.out.sub (fun y hy => by
          rcases List.mem_append.1 hy with h | h
          · exact List.mem_of_mem_take h
          · exact List.mem_of_mem_drop h)
        have HTW : Hid (checkS (l ++ [x]) = (-1, 3) ∨ checkS (l ++ [x]) = ((n : Int), 22)) := by
          have h := twice_not kinds_fit HC0.out HX.out
          rw [HN.out] at h
          exact h
        have HCT : Hid (ChkOk (l ++ [x])) := HCK.out.sub (fun y hy => by
          rcases List.mem_append.1 hy with h | h
          · exact h
          · rw [List.mem_singleton.1 h]; exact List.mem_of_getElem? HX.out)
        have HOLD2 : Hid (∀ w' : World, (∀ q, q < wr.heap.size → w'.heap[q]? = wr.heap[q]?) → ∀ (j : Nat) (u : Value), cs[j]? = some u → w'.cell? ((⟨g, o, none⟩ : Addr).add j) = some u) := by
          intro w' hq j u hu
          rw [add_none]
          exact HOLD.out w' hq j u hu
        clear hF1 hF2 HOLD HAD hsrc1 hsrc2 HL1 HL2 HFR HFB HB5 HO5 HO6 hsl hwk HB HG H1 HLN
        go_wp2_with fail
        refine (HCW.out.check S6.out G6.out HFE.out).mono ?_
        rintro e w7 ⟨rfl, hb7⟩
        have B7 : Hid (Below w.heap.size w w7) := B6.out.trans (hb7.mono B6.out.size)
        have G7 := Lib.hid (G6.out.at hb7)
        have H7 := Lib.hid (sts_below H6.out hb7)
        have HB7 : Hid (Below wr.heap.size wr w7) := HB6.out.trans (hb7.mono HB6.out.size)
        clear hb7 B6 G6 H6 S6 HB6 HCW HFE
        go_wp2_with fail
        refine ((HCK.out.sub (fun y hy => List.mem_of_mem_take hy)).check (H7.out.first2 HN.out k (by omega)) G7.out (first_ok HC0.out k)).mono ?_
        rintro e w8 ⟨rfl, hb8⟩
        have B8 : Hid (Below w.heap.size w w8) := B7.out.trans (hb8.mono B7.out.size)
        have G8 := Lib.hid (G7.out.at hb8)
        have H8 := Lib.hid (sts_below H7.out hb8)
        have HB8 : Hid (Below wr.heap.size wr w8) := HB7.out.trans (hb8.mono HB7.out.size)
        have hsrc3 : Hid (∀ w' : World, (∀ q, q < w8.heap.size → w'.heap[q]? = w8.heap[q]?) → ∀ (j : Nat) (u : Value), cs[j]? = some u → w'.cell? ((⟨g, o, none⟩ : Addr).add j) = some u) := by
          intro w' hq j u hu
          exact HOLD2.out w' (fun q h => (hq q (Nat.lt_of_lt_of_le h HB8.out.size)).trans (HB8.out.block q h)) j u hu
        have HROW8 : Hid (StRow Any w8 l cs) := HROW.out.kept HB8.out.size (fun q hq ho => ⟨HB8.out.block q hq, ho⟩)
        clear hb8 B7 G7 H7 HB7 HOLD2 HB8 HROW
        obtain ⟨g1, o1, cap1, e1, hl1, A, B, q1, na, nb⟩ := H8.out.get HX.out
        obtain ⟨rfl, rfl⟩ : g1 = g ∧ o1 = o := by cases e1; exact ⟨rfl, rfl⟩
        clear e1
        obtain ⟨kind, name, xa, xb, rule, N, d, K, snap⟩ := x
        have x0 := q1 0 (by decide)
        have x1 := q1 1 (by decide)
        have x2 := q1 2 (by decide)
        have x3 := q1 3 (by decide)
        have x4 := q1 4 (by decide)
        have x5 := q1 5 (by decide)
        have x6 := q1 6 (by decide)
        have x7 := q1 7 (by decide)
        have x8 := q1 8 (by decide)
        have x9 := q1 9 (by decide)
        have x10 := q1 10 (by decide)
        have x11 := q1 11 (by decide)
        have x12 := q1 12 (by decide)
        simp only [stCells, List.getElem?_cons_succ, List.getElem?_cons_zero, Nat.add_zero] at x0 x1 x2 x3 x4 x5 x6 x7 x8 x9 x10 x11 x12
        have NA := Lib.hid na
        have NB := Lib.hid nb
        have HLEN3 : Hid (cs.length = n * 13 ∧ ∀ u ∈ cs, u.oneCell' = true) := ⟨HLEN.out, HONE.out⟩
        have hd4 : decide (k < n) = true := by simp; omega
        have hd5 : decide ((k : Int) < (n : Int)) = true := by simp; omega
        have BD : Hid (Below w8.heap.size w8 w8.drew) := ⟨rfl, rfl, rfl, Nat.le_refl _, fun _ _ => rfl⟩
        clear q1 na nb HLEN HONE
        go_wp2_with fail
        go_region_held3 (fun w' => w'.cell? ⟨g1, o1 + k * 13, none⟩ = some (.int .i64 kind) ∧ w'.cell? ⟨g1, o1 + k * 13 + 1, none⟩ = some (.string (bs name)) ∧ w'.cell? ⟨g1, o1 + k * 13 + 2, none⟩ = some (.int .i64 A.k) ∧ w'.cell? ⟨g1, o1 + k * 13 + 3, none⟩ = some (.string A.s) ∧ w'.cell? ⟨g1, o1 + k * 13 + 4, none⟩ = some (.slice A.a A.n A.c) ∧ w'.cell? ⟨g1, o1 + k * 13 + 5, none⟩ = some (.int .i64 B.k) ∧ w'.cell? ⟨g1, o1 + k * 13 + 6, none⟩ = some (.string B.s) ∧ w'.cell? ⟨g1, o1 + k * 13 + 7, none⟩ = some (.slice B.a B.n B.c) ∧ w'.cell? ⟨g1, o1 + k * 13 + 8, none⟩ = some (.int .i64 rule) ∧ w'.cell? ⟨g1, o1 + k * 13 + 9, none⟩ = some (.int .i64 N) ∧ w'.cell? ⟨g1, o1 + k * 13 + 10, none⟩ = some (.int .i64 d) ∧ w'.cell? ⟨g1, o1 + k * 13 + 11, none⟩ = some (.int .i64 K) ∧ w'.cell? ⟨g1, o1 + k * 13 + 12, none⟩ = some (.bool snap)) (first | exact ⟨x0, x1, x2, x3, x4, x5, x6, x7, x8, x9, x10, x11, x12⟩ | exact ⟨y0, y1, y2, y3, y4, y5, y6, y7, y8, y9, y10, y11, y12⟩ | exact ⟨z0, z1, z2, z3, z4, z5, z6, z7, z8, z9, z10, z11, z12⟩ | go_keep | (try dsimp only; repeat' apply And.intro; all_goals go_keep))
          (first
            | (refine step_append_g rfl (.tmp 100) (.tmp 101) 22 rfl w8.heap.size 39 i0 _ 13 160 Tryz.underlying22 hi0 hz0 hz1 hz2 rfl (by decide) _ 0 [] rfl (by first | exact owns_fresh_at w8.drew rfl (Nat.le_refl _) | exact (owns_fresh_at w8.drew rfl (Nat.le_refl _)).alloc _ | exact owns_fresh_at (w8.drew.alloc _) (by simp) (by simp)) ⟨g1, o1, none⟩ n c cs rfl (by first | exact hsrc3.out _ (BD.out.alloc (Nat.le_refl _) _).block | exact hsrc3.out _ ((BD.out.alloc (Nat.le_refl _) _).alloc (by simp) _).block) HLEN3.out.1 HLEN3.out.2 (by unfold maxLen; omega) (by omega) (by simp; try omega) ?_; intro v5 w5 hown5 hgrow5; have HB5 : Hid (Below w8.heap.size w8 w5) := (by first | exact (BD.out.alloc (Nat.le_refl _) _).grown hgrow5 (by simp) (fun q e => by cases e; first | exact Nat.le_refl _ | exact Nat.le_succ _ | omega) | exact ((BD.out.alloc (Nat.le_refl _) _).alloc (by simp) _).grown hgrow5 (by simp; try omega) (fun q e => by cases e; first | exact Nat.le_refl _ | exact Nat.le_succ _ | omega)); have HO5 := Lib.hid hown5; (first | (have HEL : Hid (∀ (j : Nat) (u : Value), (stCells ⟨kind, name, xa, xb, rule, N, d, K, snap⟩ A B)[j]? = some u → w5.cell? ((⟨w8.heap.size + 1, 0, none⟩ : Addr).add j) = some u) := elem_kept (b := w8.heap.size + 1) (new_at13 (w8.drew.alloc (.cells #[] 39)) ⟨kind, name, xa, xb, rule, N, d, K, snap⟩ A B (by simp)) hgrow5 (show some (w8.heap.size + 1) ≠ some w8.heap.size from by simp)) | (have HEL : Hid (∀ (j : Nat) (u : Value), (stCells ⟨kind, name, xa, xb, rule, N, d, K, snap⟩ A B)[j]? = some u → w5.cell? ((⟨w8.heap.size, 0, none⟩ : Addr).add j) = some u) := elem_kept (b := w8.heap.size) ((new_at13 w8.drew ⟨kind, name, xa, xb, rule, N, d, K, snap⟩ A B rfl).still (grown_alloc _ _ none)) hgrow5 (show some w8.heap.size ≠ some (w8.heap.size + 1) from by simp)) | skip); have y0 := (World.cell?_of_block (a := ⟨g1, o1 + k * 13, none⟩) (HB5.out.block g1 hl1)).trans x0; have y1 := (World.cell?_of_block (a := ⟨g1, o1 + k * 13 + 1, none⟩) (HB5.out.block g1 hl1)).trans x1; have y2 := (World.cell?_of_block (a := ⟨g1, o1 + k * 13 + 2, none⟩) (HB5.out.block g1 hl1)).trans x2; have y3 := (World.cell?_of_block (a := ⟨g1, o1 + k * 13 + 3, none⟩) (HB5.out.block g1 hl1)).trans x3; have y4 := (World.cell?_of_block (a := ⟨g1, o1 + k * 13 + 4, none⟩) (HB5.out.block g1 hl1)).trans x4; have y5 := (World.cell?_of_block (a := ⟨g1, o1 + k * 13 + 5, none⟩) (HB5.out.block g1 hl1)).trans x5; have y6 := (World.cell?_of_block (a := ⟨g1, o1 + k * 13 + 6, none⟩) (HB5.out.block g1 hl1)).trans x6; have y7 := (World.cell?_of_block (a := ⟨g1, o1 + k * 13 + 7, none⟩) (HB5.out.block g1 hl1)).trans x7; have y8 := (World.cell?_of_block (a := ⟨g1, o1 + k * 13 + 8, none⟩) (HB5.out.block g1 hl1)).trans x8; have y9 := (World.cell?_of_block (a := ⟨g1, o1 + k * 13 + 9, none⟩) (HB5.out.block g1 hl1)).trans x9; have y10 := (World.cell?_of_block (a := ⟨g1, o1 + k * 13 + 10, none⟩) (HB5.out.block g1 hl1)).trans x10; have y11 := (World.cell?_of_block (a := ⟨g1, o1 + k * 13 + 11, none⟩) (HB5.out.block g1 hl1)).trans x11; have y12 := (World.cell?_of_block (a := ⟨g1, o1 + k * 13 + 12, none⟩) (HB5.out.block g1 hl1)).trans x12; clear hgrow5 hown5)
            | (refine step_append_g rfl (.tmp 102) (.tmp 107) 22 rfl w8.heap.size 39 i0 _ 13 160 Tryz.underlying22 hi0 hz0 hz1 hz2 rfl (by decide) _ _ _ rfl (HO5.out.alloc _) ⟨w5.heap.size, 0, none⟩ 1 1 (stCells ⟨kind, name, xa, xb, rule, N, d, K, snap⟩ A B) rfl (cell_new w5 _ _ rfl) (by rw [stCells_length]) (stCells_one _ A B) (by unfold maxLen; omega) (by omega) (by have := HB5.out.size; simp; omega) ?_; intro v9 w9 hown9 hgrow9; have HB9 : Hid (Below w8.heap.size w8 w9) := (HB5.out.alloc HB5.out.size _).grown hgrow9 (by have := HB5.out.size; simp; omega) (fun q e => (HO5.out.lt q e).1); have HO9 := Lib.hid hown9; have z0 := (World.cell?_of_block (a := ⟨g1, o1 + k * 13, none⟩) (HB9.out.block g1 hl1)).trans x0; have z1 := (World.cell?_of_block (a := ⟨g1, o1 + k * 13 + 1, none⟩) (HB9.out.block g1 hl1)).trans x1; have z2 := (World.cell?_of_block (a := ⟨g1, o1 + k * 13 + 2, none⟩) (HB9.out.block g1 hl1)).trans x2; have z3 := (World.cell?_of_block (a := ⟨g1, o1 + k * 13 + 3, none⟩) (HB9.out.block g1 hl1)).trans x3; have z4 := (World.cell?_of_block (a := ⟨g1, o1 + k * 13 + 4, none⟩) (HB9.out.block g1 hl1)).trans x4; have z5 := (World.cell?_of_block (a := ⟨g1, o1 + k * 13 + 5, none⟩) (HB9.out.block g1 hl1)).trans x5; have z6 := (World.cell?_of_block (a := ⟨g1, o1 + k * 13 + 6, none⟩) (HB9.out.block g1 hl1)).trans x6; have z7 := (World.cell?_of_block (a := ⟨g1, o1 + k * 13 + 7, none⟩) (HB9.out.block g1 hl1)).trans x7; have z8 := (World.cell?_of_block (a := ⟨g1, o1 + k * 13 + 8, none⟩) (HB9.out.block g1 hl1)).trans x8; have z9 := (World.cell?_of_block (a := ⟨g1, o1 + k * 13 + 9, none⟩) (HB9.out.block g1 hl1)).trans x9; have z10 := (World.cell?_of_block (a := ⟨g1, o1 + k * 13 + 10, none⟩) (HB9.out.block g1 hl1)).trans x10; have z11 := (World.cell?_of_block (a := ⟨g1, o1 + k * 13 + 11, none⟩) (HB9.out.block g1 hl1)).trans x11; have z12 := (World.cell?_of_block (a := ⟨g1, o1 + k * 13 + 12, none⟩) (HB9.out.block g1 hl1)).trans x12; clear hgrow9 hown9)
            | (refine step_append_g rfl (.tmp 102) (.tmp 107) 22 rfl w8.heap.size 39 i0 _ 13 160 Tryz.underlying22 hi0 hz0 hz1 hz2 rfl (by decide) _ _ _ rfl HO5.out ⟨w8.heap.size + 1, 0, none⟩ 1 1 (stCells ⟨kind, name, xa, xb, rule, N, d, K, snap⟩ A B) rfl HEL.out (by rw [stCells_length]) (stCells_one _ A B) (by unfold maxLen; omega) (by omega) HB5.out.size ?_; intro v9 w9 hown9 hgrow9; have HB9 : Hid (Below w8.heap.size w8 w9) := HB5.out.grown hgrow9 HB5.out.size (fun q e => (HO5.out.lt q e).1); have HO9 := Lib.hid hown9; have z0 := (World.cell?_of_block (a := ⟨g1, o1 + k * 13, none⟩) (HB9.out.block g1 hl1)).trans x0; have z1 := (World.cell?_of_block (a := ⟨g1, o1 + k * 13 + 1, none⟩) (HB9.out.block g1 hl1)).trans x1; have z2 := (World.cell?_of_block (a := ⟨g1, o1 + k * 13 + 2, none⟩) (HB9.out.block g1 hl1)).trans x2; have z3 := (World.cell?_of_block (a := ⟨g1, o1 + k * 13 + 3, none⟩) (HB9.out.block g1 hl1)).trans x3; have z4 := (World.cell?_of_block (a := ⟨g1, o1 + k * 13 + 4, none⟩) (HB9.out.block g1 hl1)).trans x4; have z5 := (World.cell?_of_block (a := ⟨g1, o1 + k * 13 + 5, none⟩) (HB9.out.block g1 hl1)).trans x5; have z6 := (World.cell?_of_block (a := ⟨g1, o1 + k * 13 + 6, none⟩) (HB9.out.block g1 hl1)).trans x6; have z7 := (World.cell?_of_block (a := ⟨g1, o1 + k * 13 + 7, none⟩) (HB9.out.block g1 hl1)).trans x7; have z8 := (World.cell?_of_block (a := ⟨g1, o1 + k * 13 + 8, none⟩) (HB9.out.block g1 hl1)).trans x8; have z9 := (World.cell?_of_block (a := ⟨g1, o1 + k * 13 + 9, none⟩) (HB9.out.block g1 hl1)).trans x9; have z10 := (World.cell?_of_block (a := ⟨g1, o1 + k * 13 + 10, none⟩) (HB9.out.block g1 hl1)).trans x10; have z11 := (World.cell?_of_block (a := ⟨g1, o1 + k * 13 + 11, none⟩) (HB9.out.block g1 hl1)).trans x11; have z12 := (World.cell?_of_block (a := ⟨g1, o1 + k * 13 + 12, none⟩) (HB9.out.block g1 hl1)).trans x12; clear hgrow9 hown9)
            | (refine step_append_g rfl (.tmp 102) (.tmp 107) 22 rfl w8.heap.size 39 i0 _ 13 160 Tryz.underlying22 hi0 hz0 hz1 hz2 rfl (by decide) _ _ _ rfl HO5.out ⟨w8.heap.size, 0, none⟩ 1 1 (stCells ⟨kind, name, xa, xb, rule, N, d, K, snap⟩ A B) rfl HEL.out (by rw [stCells_length]) (stCells_one _ A B) (by unfold maxLen; omega) (by omega) HB5.out.size ?_; intro v9 w9 hown9 hgrow9; have HB9 : Hid (Below w8.heap.size w8 w9) := HB5.out.grown hgrow9 HB5.out.size (fun q e => (HO5.out.lt q e).1); have HO9 := Lib.hid hown9; have z0 := (World.cell?_of_block (a := ⟨g1, o1 + k * 13, none⟩) (HB9.out.block g1 hl1)).trans x0; have z1 := (World.cell?_of_block (a := ⟨g1, o1 + k * 13 + 1, none⟩) (HB9.out.block g1 hl1)).trans x1; have z2 := (World.cell?_of_block (a := ⟨g1, o1 + k * 13 + 2, none⟩) (HB9.out.block g1 hl1)).trans x2; have z3 := (World.cell?_of_block (a := ⟨g1, o1 + k * 13 + 3, none⟩) (HB9.out.block g1 hl1)).trans x3; have z4 := (World.cell?_of_block (a := ⟨g1, o1 + k * 13 + 4, none⟩) (HB9.out.block g1 hl1)).trans x4; have z5 := (World.cell?_of_block (a := ⟨g1, o1 + k * 13 + 5, none⟩) (HB9.out.block g1 hl1)).trans x5; have z6 := (World.cell?_of_block (a := ⟨g1, o1 + k * 13 + 6, none⟩) (HB9.out.block g1 hl1)).trans x6; have z7 := (World.cell?_of_block (a := ⟨g1, o1 + k * 13 + 7, none⟩) (HB9.out.block g1 hl1)).trans x7; have z8 := (World.cell?_of_block (a := ⟨g1, o1 + k * 13 + 8, none⟩) (HB9.out.block g1 hl1)).trans x8; have z9 := (World.cell?_of_block (a := ⟨g1, o1 + k * 13 + 9, none⟩) (HB9.out.block g1 hl1)).trans x9; have z10 := (World.cell?_of_block (a := ⟨g1, o1 + k * 13 + 10, none⟩) (HB9.out.block g1 hl1)).trans x10; have z11 := (World.cell?_of_block (a := ⟨g1, o1 + k * 13 + 11, none⟩) (HB9.out.block g1 hl1)).trans x11; have z12 := (World.cell?_of_block (a := ⟨g1, o1 + k * 13 + 12, none⟩) (HB9.out.block g1 hl1)).trans x12; clear hgrow9 hown9))
        all_goals
          have S9 : Hid (StsIs w9 v9 (l ++ [⟨kind, name, xa, xb, rule, N, d, K, snap⟩])) := by
            refine stsIs_of_owns (B := w8.heap.size) (cs := cs ++ (stCells ⟨kind, name, xa, xb, rule, N, d, K, snap⟩ A B)) ?_ (StRow.snoc (NA.out.still (grown_of_below HB9.out none)) (NB.out.still (grown_of_below HB9.out none)) (HROW8.out.kept HB9.out.size (fun q hq ho => ⟨HB9.out.block q hq, ho⟩)))
            have h := HO9.out
            rw [List.nil_append] at h
            have e : (l ++ [(⟨kind, name, xa, xb, rule, N, d, K, snap⟩ : St)]).length = 0 + n + 1 := by
              rw [List.length_append, HN.out]
              simp
            rw [e]
            exact h
          have G9 := Lib.hid (G8.out.at HB9.out)
          have B9 : Hid (Below w.heap.size w w9) := B8.out.trans (HB9.out.mono B8.out.size)
          clear x0 x1 x2 x3 x4 x5 x6 x7 x8 x9 x10 x11 x12 HB9 HO9 HO5 HB5 hd4 hd5 B8 G8 H8 HROW8 NA NB BD hsrc3 HLEN3
          have hnn : ((n : Int) == (n : Int)) = true := by simp
          have hnn2 : (n == n) = true := by simp
          rcases HTW.out with ht | ht
          · skip
            go_wp2_with fail
            refine (HCT.out.check S9.out G9.out ht).mono ?_
            rintro e w10 ⟨rfl, hb10⟩
            have B10 : Hid (Below w.heap.size w w10) := B9.out.trans (hb10.mono B9.out.size)
            clear hb10 B9 G9 S9 ht
            cases lb with
            | true =>
              have hf : (F2 == 0) = false := HF.out
              go_wp2
              go_ret
              exact ⟨rfl, B10.out⟩
            | false =>
              have hf : (F2 == 0) = true := HF.out
              go_wp2
              go_ret
              exact ⟨rfl, B10.out⟩
          · skip
            go_wp2_with fail
            refine (HCT.out.check S9.out G9.out ht).mono ?_
            rintro e w10 ⟨rfl, hb10⟩
            have B10 : Hid (Below w.heap.size w w10) := B9.out.trans (hb10.mono B9.out.size)
            clear hb10 B9 G9 S9 ht
            cases lb with
            | true =>
              have hf : (F2 == 0) = false := HF.out
              go_wp2
              go_ret
              exact ⟨rfl, B10.out⟩
            | false =>
              have hf : (F2 == 0) = true := HF.out
              go_wp2
              go_ret
              exact ⟨rfl, B10.out⟩
end

section
open Go Go.ChangeShapes Go.WideShapes Go.ChangeAt Go.WideMaps Go.WideElems Go.RowKit

theorem bindLess_spec {H : Type} {enc : TypeId × Value → H} {W : World} {vs : List Value} {ds : List (DataW H)} {p : List MemPlace} {sp : Nat → Bool}
    (hA : DataW.TrodAll enc Tryz.prog W 0 sp true Tryz.f5.params.toList vs ds p) : Rows.bindLessSpec.fn H (ds ++ []) = { results := [.lit (.bool true)], args := ds } := by
  rw [Tryz.params5] at hA
  obtain ⟨v, vs', d, ds', p, q, rfl, rfl, rfl, h1, h2⟩ := trodAll_cons hA
  obtain ⟨v, vs', d, ds', p, q, rfl, rfl, rfl, h3, h4⟩ := trodAll_cons h2
  obtain ⟨rfl, rfl, rfl⟩ := trodAll_nil h4
  rfl

set_option maxRecDepth 100000 in
theorem bindLess_calls {H : Type} {enc : TypeId × Value → H} (W : World) (base : Nat) (args : Array Value) (ds : List (DataW H)) (p : List MemPlace) (hg : Good W)
    (hval : ∀ (j : Nat) t v, Tryz.f5.params[j]? = some t → args[j]? = some v → Value.okWide Tryz.prog W .any base t v)
    (hA : DataW.TrodAll enc Tryz.prog W 0 (fun _ => true) true Tryz.f5.params.toList args.toList ds p) (hk : Rows.uptoBulkAll ds ≤ 1048576) :
    Calls Tryz.prog 5 args W fun e w' => e = .returned (.bool true) ∧ Below W.heap.size W w' := by
  rw [Tryz.params5] at hA hval
  obtain ⟨v0, v1, d0, d1, p0, p1, rfl, rfl, rfl, h0, h1⟩ := trodAll_two hA
  obtain ⟨n, rfl, _, _, _⟩ := ChangeShapes.open_int Tryz.underlying3 (hval 1 3 v1 rfl rfl) h1
  have hk0 : Rows.uptoBulk d0 ≤ 1048576 := Nat.le_trans (bulk_mem (by simp)) hk
  obtain ⟨l, hl, hok⟩ := open_bind (hval 0 22 v0 rfl rfl) h0 hk0
  exact bindLess_any l v0 n W hok hl hg
end
end Go.Proofs.YtdjklnlkocconaaGreatDoor
