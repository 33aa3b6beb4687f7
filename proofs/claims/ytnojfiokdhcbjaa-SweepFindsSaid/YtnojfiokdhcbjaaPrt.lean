/-
  sweep.Pairs: the walk.
-/
import Derived.Test.YtnojfiokdhcbjaaPrs5
namespace Go.Proofs.Ytnojfiokdhcbjaa
open Go Go.RowKit Go.Lib Go.Sort Go.Shelf
set_option maxHeartbeats 16000000 in
set_option maxRecDepth 1000000 in
theorem pairs_anyF (k : Nat) (zE : ∀ w, (Go.sizeOf 72).run Try.prog w = .ok k w) (hk18 : k = 18) (ss ts : List Sg) (na nb ca cb : Nat) (oa ob : Option Addr) (d : Int) (w : World) (ha : SegSlice w (.slice oa na ca) ss) (hb : SegSlice w (.slice ob nb cb) ts) (hna : na = ss.length) (hnb : nb = ts.length) (hs : na ≤ 20000) (ht : nb ≤ 20000)
  (hd0 : 0 ≤ d) (hd1 : d ≤ 9223372036854775807) (hsl : ∀ s, s ∈ ss → SgL s) (htl : ∀ s, s ∈ ts → SgL s) :
  Calls Try.prog 8 #[.slice oa na ca, .slice ob nb cb, .int .i64 d] w fun e w' => ∃ v, e = .returned (.tuple #[v, .int .i64 0]) ∧ PairRow w' v (pairsS (boxesL ss (d : Rat) false) (boxesL ts 0 true)) ∧ Below w.heap.size w w' ∧ ∀ k, v.ownBlock = some k → w.heap.size ≤ k := by
 have HA := Lib.hid ha
 have HB := Lib.hid hb
 have HSL := Lib.hid hsl
 have HTL := Lib.hid htl
 have HNA := Lib.hid hna
 have HNB := Lib.hid hnb
 have HDD := Lib.hid (And.intro hd0 hd1)
 have HSZ := Lib.hid (And.intro hs ht)
 have HK := Lib.hid hk18
 have hdz : ¬ d < 0 := by omega
 have hsz : ¬ (20000 : Int) < (na : Int) := by omega
 have htz : ¬ (20000 : Int) < (nb : Int) := by omega
 clear ha hb hsl htl hna hnb hk18
 go_enter Try.func8, Try.ntmps8
 go_wp2_with fail
 refine (zedOf_any d _ (by have := HDD.out; omega) (by have := HDD.out; omega)).mono ?_
 rintro e w1 ⟨v1, rfl, hv1, hg1⟩
 have HV1 := Lib.hid hv1
 have HG1 := Lib.hid hg1
 clear hv1 hg1
 obtain ⟨a1, n1, b1, rfl⟩ := HV1.out.parts
 go_wp2_with fail
 refine (whole_any d _ _ HV1.out).mono ?_
 rintro e w2 ⟨v2, rfl, hv2, hg2⟩
 have hdl : rlen (d : Rat) ≤ 1000 := by
  have := limbs_i64 (n := d) (by omega) hd1
  unfold rlen
  have h1 : (limbs (d : Rat).den).length ≤ 1 := by rw [(whole_frac d).2, limbs_len]; decide
  rw [(whole_frac d).1]
  omega
 obtain ⟨u, rfl, hu⟩ := RV.ok.of hv2 (show rlen (d : Rat) ≤ 300000 by omega)
 have HU := Lib.hid hu
 have HDL := Lib.hid hdl
 have HG2 : Hid (Own w.heap.size w w2) := HG1.out.call HG1.out.size hg2
 clear hv2 hg2 hu hdl HG1 HV1
 go_wp2_with fail
 refine (boxesAll_any _ ss u d false _ (HA.out.still HG2.out.b) (by rw [← HNA.out]; omega) HSL.out HU.out HDL.out).mono ?_
 rintro e w3 ⟨rv1, rfl, ys1, hx1⟩
 have HX1 := Lib.hid hx1
 have HG3 : Hid (Below w.heap.size w w3) := HG2.out.b.trans (hx1.b.mono HG2.out.size)
 clear hx1
 go_wp2_with fail
 refine (boxesAll_any _ ts RV.zero 0 true _ (HB.out.still HG3.out) (by rw [← HNB.out]; omega) HTL.out (RV.zero_ok _) rlen_zero1).mono ?_
 rintro e w4 ⟨rv2, rfl, ys2, hx2⟩
 have HX2 := Lib.hid hx2
 have HG4 : Hid (Below w.heap.size w w4) := HG3.out.trans (hx2.b.mono HG3.out.size)
 have HR1 : Hid (BoxRow w4 rv1 ys1) := HX1.out.row.grown (grown_of_below hx2.b none) (by simp)
 have HOK1 : Hid (∀ y, y ∈ ys1 → y.1.ok w4 y.2) := fun y hy => (HX1.out.ok y hy).keep (keep_below hx2.b)
 have HOW1 : Hid (∀ k, rv1.ownBlock = some k → w.heap.size ≤ k) := fun k hk => Nat.le_trans HG2.out.size (HX1.out.own k hk)
 clear hx2
 have HL1 : Hid (ys1.length ≤ 20000) := by
  show _ ≤ _
  have h := congrArg List.length HX1.out.eq
  rw [List.length_map] at h
  unfold boxesL at h
  rw [List.length_mapIdx, ← HNA.out] at h
  omega
 have HL2 : Hid (ys2.length ≤ 20000) := by
  show _ ≤ _
  have h := congrArg List.length HX2.out.eq
  rw [List.length_map] at h
  unfold boxesL at h
  rw [List.length_mapIdx, ← HNB.out] at h
  omega
 go_wp2_with (refine wpList_app rfl (.tmp 34) (.tmp 37) rfl rfl rfl (owns_of_boxRow HR1.out HOW1.out) HX2.out.row HX2.out.nil (by have := HL1.out; have := HL2.out; omega) HG4.out.size ?_; intro v5 w5 hown5 hgr5; have HO5 := Lib.hid hown5; have HG5 := Lib.hid hgr5; clear hown5 hgr5)
 have HK5 : Hid (Keep w4 w5) := keep_grown_row (owns_of_boxRow HR1.out HOW1.out) HG5.out
 have HR5 : Hid (BoxRow w5 v5 (ys1 ++ ys2)) := boxRow_of_owns (B := w.heap.size) (by rw [List.length_append, List.flatMap_append]; exact HO5.out)
 have HOK5 : Hid (∀ y, y ∈ ys1 ++ ys2 → y.1.ok w5 y.2) := fun y hy => by
  rcases List.mem_append.1 hy with h | h
  ·exact (HOK1.out y h).keep HK5.out
  ·exact (HX2.out.ok y h).keep HK5.out
 have HW5 : Hid (∀ k, v5.ownBlock = some k → w.heap.size ≤ k) := fun k hk => (HO5.out.lt k hk).1
 have HB5 : Hid (Below w.heap.size w w5) := below_grown (owns_of_boxRow HR1.out HOW1.out) HG4.out HG4.out.size HG5.out
 refine (sortAll_any w5 v5 (ys1 ++ ys2) HR5.out HOK5.out (by rw [List.length_append]; have := HL1.out; have := HL2.out; omega)).mono ?_
 rintro e w6 ⟨rfl, L, hp6, hs6, hr6, hg6, hk6, hd6⟩
 have HP6 := Lib.hid hp6
 have HS6 := Lib.hid hs6
 have HR6 := Lib.hid hr6
 have HOK6 : Hid (∀ y, y ∈ L → y.1.ok w6 y.2) := fun y hy => (HOK5.out y (hp6.mem_iff.1 hy)).keep hk6
 have HB6 : Hid (Below w.heap.size w w6) := HB5.out.grown hg6 HB5.out.size (fun k hk => HW5.out k hk)
 have HLN : Hid (L.length ≤ 40000) := by
  show _ ≤ _
  rw [hp6.length_eq, List.length_append]
  have := HL1.out
  have := HL2.out
  omega
 have HX1E := Lib.hid HX1.out.eq
 have HX2E := Lib.hid HX2.out.eq
 obtain ⟨oL, cL, hsh, hoL⟩ := hr6.shape
 have HSH := Lib.hid hoL
 clear hp6 hs6 hg6 hk6 hd6 hr6 hoL HX1 HX2 HR1 HOK1 HOW1 HO5 HG5 HK5 HR5 HOK5 HB5 HG4 HG3 HG2 HU HDL HA HB HL1 HL2 hdz hsz htz
 obtain ⟨n, hn⟩ : ∃ n, L.length = n := ⟨_, rfl⟩
 rw [hn] at hsh
 have HN := Lib.hid hn
 clear hn
 subst hsh
 go_wp2_with fail
 obtain ⟨A, hA⟩ : ∃ A, L ≠ [] → oL = some ⟨A, 0, none⟩ := by
  by_cases hL : L = []
  ·exact ⟨0, fun h => absurd hL h⟩
  ·obtain ⟨g, hg⟩ := HSH.out hL
   exact ⟨g, fun _ => hg⟩
 have HA := Lib.hid hA
 have HP0 : Hid (PrT w A w6.heap.size L 0 (.slice none 0 0) (.slice none 0 0) (.slice none 0 0) [] [] [] (w6.alloc (.cells #[.slice none 0 0, .slice none 0 0] 76))) := by
  have ga := grown_alloc w6 (.cells #[.slice none 0 0, .slice none 0 0] 76) none
  refine ⟨⟨HB6.out.alloc HB6.out.size _, fun y hy => (HOK6.out y hy).keep (keep_alloc _ _), fun hL => ?_, fun hL => HW5.out A (by rw [hA hL]; rfl), BlkC.new _ w6 [.slice none 0 0, .slice none 0 0], HB6.out.size, World.ownsRow_nil _ _ _ _⟩, ⟨.inl ⟨rfl, rfl⟩, fun k hk => by cases hk⟩, ⟨.inl ⟨rfl, rfl⟩, fun k hk => by cases hk⟩, (fun k hk => by cases hk), by simp, by simp, rfl, Nat.le_refl _, Nat.le_refl _, by simp⟩
  rcases HR6.out with ⟨_, e⟩ | ⟨g, cap, cs, e, h1, h2, h3, h4, h5⟩
  ·exact absurd e hL
  ·have e1 := hA hL
   injection e with e
   rw [e1] at e
   injection e with e
   injection e with e
   subst e
   have e2 := ga.block A (Array.getElem?_eq_some_iff.1 h1).1 (by simp)
   exact ⟨holdsK_block h5 e2, cs, e2.trans h1⟩
 clear hA HSH HR6 HOK6 HB6
 have hnb : n ≤ 40000 := by have := HLN.out; have := HN.out; omega
 obtain ⟨T, hT⟩ : ∃ T, T = w6.heap.size := ⟨_, rfl⟩
 rw [← hT] at HP0 ⊢
 clear hT
 go_loopg [10, 43] n (fun kx s10 s43 wr => ∃ (i : Nat) (vo v0 v1 : Value) (l0 l1 : List PB) (out : List (Nat × Nat)), vo = s10 ∧ s43 = .int .i64 i ∧ i ≤ n ∧ n ≤ kx + i ∧ Hid (PrT w A T L i v0 v1 vo l0 l1 out wr))
 case atStart => exact ⟨0, _, _, _, _, _, _, rfl, rfl, Nat.zero_le _, by omega, HP0⟩
 case round =>
  clear HP0
  obtain ⟨i, vo, v0, v1, l0, l1, out, rfl, rfl, hin, hkx, HP⟩ := hrel
  by_cases hlt : i < n
  ·have hlz : (i : Int) < (n : Int) := by omega
   have ia0 : (0 : Int) ≤ (i : Int) := by omega
   have iat : ((i : Int)).toNat = i := by omega
   obtain ⟨x, hx⟩ : ∃ x, L[i]? = some x := ⟨_, List.getElem?_eq_getElem (by rw [HN.out]; exact hlt)⟩
   have hne : L ≠ [] := by rintro rfl; simp at hx
   have hoL := HA.out hne
   obtain ⟨hall, hallT⟩ := HP.out.m.all hne
   have hld := run_loadCellsFrom_list Try.prog wr ⟨A, 0 + i * 18, none⟩ _ 18 (PB.len _) (HoldsK.cells hall PB.len (i := i) (by simpa [HN.out] using hlt))
   rw [Nat.zero_add, ← HK.out, show L.toArray[i]! = x by rw [getElem!_pos _ _ (by simpa [HN.out] using hlt)]; simpa using (List.getElem?_eq_some_iff.1 hx).2] at hld
   have s1 := fresh_st wr #[.slice none 0 0, .bool false, .slice none 0 0, .bool false, .slice none 0 0, .bool false, .slice none 0 0, .bool false, .slice none 0 0, .bool false, .slice none 0 0, .bool false, .slice none 0 0, .bool false, .slice none 0 0, .bool false, .int .i64 0, .bool false] rfl x
   have HXB : Hid (BlkC 72 (wr.alloc (.cells (PB.enc x).toArray 72)) wr.heap.size (PB.enc x)) := BlkC.new _ wr (PB.enc x)
   have HGA : Hid (Gr wr (wr.alloc (.cells (PB.enc x).toArray 72))) := own_alloc _ _
   have xok := HP.out.m.ok x (List.mem_of_getElem? hx)
   have hxs : x.1.s = x.2.s := xok.2.2.2.2.2
   have sx : (wr.alloc (.cells (PB.enc x).toArray 72)).cell? ⟨wr.heap.size, 17, none⟩ = some (.bool x.1.s) := by rw [HXB.out.cell 17]; rfl
   rw [hxs] at sx
   have HX := Lib.hid hx
   have HXO := Lib.hid (xok.keep (Gr.keep HGA.out))
   have HALL := Lib.hid (And.intro hall hallT)
   have HNE := Lib.hid hne
   have HT1 : Hid (BlkC 76 (wr.alloc (.cells (PB.enc x).toArray 72)) T [v0, v1]) := HP.out.m.t.still (Gr.grown HGA.out)
   have nx : (PB.enc x).length = k := by rw [HK.out]; rfl
   clear hx hne hall hallT xok hxs
   subst hoL
   cases hsec : x.2.s with
   | false =>
    rw [hsec] at sx
    go_wp2_with fail
    have hb1 := HP.out.m.gr HGA.out
    have rO := HP.out.r1.gr HGA.out
    have rW := HP.out.r0.gr HGA.out
    have hTlt := HP.out.m.t.lt
    have hOx : v1.ownBlock ≠ some wr.heap.size := fun e => absurd (boxRow_lt HP.out.r1.r e) (Nat.lt_irrefl _)
    refine Calls.mono (drop_any _ T 1 wr.heap.size v1 [v0, v1] l1 x.1 x.2 hb1.t rfl rO.r (by have := HP.out.n1; have := HLN.out; have := HN.out; omega) HXB.out hOx HXO.out (fun y hy => hb1.ok y (HP.out.m1 y hy)) (rO.ne hb1)) ?_
    rintro e w3' ⟨rfl, rv', w2, rfl, hob, hr2, hg2, hk2, hd2⟩
    have hb2 := hb1.row rO hg2 hk2
    have rWb : PrR w A L v0 l0 w2 := ⟨rW.r.grown hg2 (fun k hk e => HP.out.ap k hk e), rW.b⟩
    have rOb : PrR w A L rv' (l1.filter fun y => passes x.2 y.2) w2 := ⟨hr2, by rw [hob]; exact rO.b⟩
    have HB3 := Lib.hid (hb2.put 1 rv' v0 rv' rfl)
    have HRW3 := Lib.hid (rWb.put hb2 1 rv')
    have HRO3 := Lib.hid (rOb.put hb2 1 rv')
    have HAP3 : Hid (Apart v0 rv') := fun k hk e => HP.out.ap k hk (by rw [← hob]; exact e)
    have HX3 : Hid (BlkC 72 (w2.setCell ⟨T, 1, none⟩ rv') wr.heap.size (PB.enc x)) := (HXB.out.grown hg2 (Ne.symm hOx)).grown (grown_setCell w2 ⟨T, 1, none⟩ rv') (fun e => by have h : wr.heap.size = T := Option.some.inj e; omega)
    have HSUB : Hid (∀ y, y ∈ (l1.filter fun y => passes x.2 y.2) → y ∈ L) := fun y hy => HP.out.m1 y (List.mem_filter.1 hy).1
    obtain ⟨F, hF⟩ : ∃ F, (l1.filter fun y => passes x.2 y.2) = F := ⟨_, rfl⟩
    rw [hF] at HRO3 HSUB
    have HF := Lib.hid hF
    have HFL : Hid (F.length ≤ i) := by
     show _ ≤ _
     rw [← hF]
     exact Nat.le_trans (List.length_filter_le _ _) HP.out.n1
    have HXO3 : Hid (x.1.ok (w2.setCell ⟨T, 1, none⟩ rv') x.2) := HB3.out.ok x (List.mem_of_getElem? HX.out)
    have HST := Lib.hid HP.out.st
    have HM := Lib.hid (And.intro HP.out.m0 HP.out.n0)
    have HNO := Lib.hid HP.out.no
    obtain ⟨oR, cR, hsh, hoR⟩ := HRO3.out.r.shape
    have HOR := Lib.hid hoR
    obtain ⟨m, hm⟩ : ∃ m, F.length = m := ⟨_, rfl⟩
    rw [hm] at hsh
    have HFM := Lib.hid hm
    clear hb1 rO rW hTlt hOx hob hr2 hg2 hk2 hd2 hb2 rWb rOb hF hoR hm hld s1 sx HXB HGA HXO HALL HT1 HP
    subst hsh
    obtain ⟨w3, hw3⟩ : ∃ w3, w2.setCell ⟨T, 1, none⟩ (.slice oR m cR) = w3 := ⟨_, rfl⟩
    rw [hw3] at HB3 HRW3 HRO3 HX3 HXO3 ⊢
    clear hw3
    have tT : w3.cell? ⟨T, 1, none⟩ = some (.slice oR m cR) := by rw [HB3.out.t.cell 1]; rfl
    go_wp2_with fail
    clear tT
    have hmb : m ≤ 40000 := by have := HFL.out; have := HFM.out; omega
    obtain ⟨bx, hbx⟩ : ∃ bx, wr.heap.size = bx := ⟨_, rfl⟩
    rw [hbx] at HX3 ⊢
    clear hbx
    go_loopg [10, 61] m (fun ky s10 s61 wr => ∃ (j : Nat) (vq : Value), vq = s10 ∧ s61 = .int .i64 j ∧ j ≤ m ∧ m ≤ ky + j ∧ Hid (PrB w A T L v0 (.slice oR m cR) vq (out ++ foundBy x F j) wr) ∧ Hid (PrR w A L v0 l0 wr) ∧ Hid (PrR w A L (.slice oR m cR) F wr) ∧ Hid (BlkC 72 wr bx (PB.enc x)))
    case atStart => exact ⟨0, _, rfl, rfl, Nat.zero_le _, by omega, (by show PrB _ _ _ _ _ _ _ _ _; rw [show foundBy x F 0 = [] from rfl, List.append_nil]; exact HB3.out), HRW3, HRO3, HX3⟩
    case round =>
     clear HB3 HRW3 HRO3 HX3
     obtain ⟨j, vq, rfl, rfl, hjm, hky, IB, IW, IO, IX⟩ := hrel
     by_cases hjl : j < m
     ·have hjz : (j : Int) < (m : Int) := by omega
      have ja0 : (0 : Int) ≤ (j : Int) := by omega
      have jat : ((j : Int)).toNat = j := by omega
      obtain ⟨y, hy⟩ : ∃ y, F[j]? = some y := ⟨_, List.getElem?_eq_getElem (by rw [HFM.out]; exact hjl)⟩
      have hFne : F ≠ [] := by rintro rfl; simp at hy
      obtain ⟨gR, hgR⟩ := HOR.out hFne
      subst hgR
      have hld2 : Sem.run Try.prog (loadCellsFrom ⟨gR, j * k, none⟩ 0 k #[]) wr = .ok (PB.enc y).toArray wr := by
       rcases IO.out.r with ⟨e, _⟩ | ⟨g, cap, cs, e, _, _, _, _, hH⟩
       ·cases e
       ·injection e with e
        injection e with e
        injection e with e
        subst e
        have hh := run_loadCellsFrom_list Try.prog wr ⟨gR, 0 + j * 18, none⟩ _ 18 (PB.len _) (HoldsK.cells hH PB.len (i := j) (by simpa [HFM.out] using hjl))
        rw [Nat.zero_add, ← HK.out, show F.toArray[j]! = y by rw [getElem!_pos _ _ (by simpa [HFM.out] using hjl)]; simpa using (List.getElem?_eq_some_iff.1 hy).2] at hh
        exact hh
      have s2 := fresh_st wr #[.slice none 0 0, .bool false, .slice none 0 0, .bool false, .slice none 0 0, .bool false, .slice none 0 0, .bool false, .slice none 0 0, .bool false, .slice none 0 0, .bool false, .slice none 0 0, .bool false, .slice none 0 0, .bool false, .int .i64 0, .bool false] rfl y
      have HYB : Hid (BlkC 72 (wr.alloc (.cells (PB.enc y).toArray 72)) wr.heap.size (PB.enc y)) := BlkC.new _ wr (PB.enc y)
      have HGY : Hid (Gr wr (wr.alloc (.cells (PB.enc y).toArray 72))) := own_alloc _ _
      have HXW : Hid (BlkC 72 (wr.alloc (.cells (PB.enc y).toArray 72)) bx (PB.enc x)) := IX.out.still (Gr.grown HGY.out)
      have HY := Lib.hid hy
      have HYO : Hid (y.1.ok (wr.alloc (.cells (PB.enc y).toArray 72)) y.2) := (IB.out.ok y (HSUB.out y (List.mem_of_getElem? hy))).keep (Gr.keep HGY.out)
      have HXQ : Hid (x.1.ok (wr.alloc (.cells (PB.enc y).toArray 72)) x.2) := (IB.out.ok x (List.mem_of_getElem? HX.out)).keep (Gr.keep HGY.out)
      have ny : (PB.enc y).length = k := by rw [HK.out]; rfl
      have yb0 : (wr.alloc (.cells (PB.enc y).toArray 72)).cell? ⟨wr.heap.size, 8, none⟩ = some (.slice y.1.b.a y.1.b.n y.1.b.n) := by rw [HYB.out.cell 8]; rfl
      have yb1 : (wr.alloc (.cells (PB.enc y).toArray 72)).cell? ⟨wr.heap.size, 9, none⟩ = some (.bool y.1.b.b) := by rw [HYB.out.cell 9]; rfl
      have yb2 : (wr.alloc (.cells (PB.enc y).toArray 72)).cell? ⟨wr.heap.size, 10, none⟩ = some (.slice y.1.b.c y.1.b.m y.1.b.m) := by rw [HYB.out.cell 10]; rfl
      have yb3 : (wr.alloc (.cells (PB.enc y).toArray 72)).cell? ⟨wr.heap.size, 11, none⟩ = some (.bool y.1.b.d) := by rw [HYB.out.cell 11]; rfl
      have xt0 : (wr.alloc (.cells (PB.enc y).toArray 72)).cell? ⟨bx, 12, none⟩ = some (.slice x.1.t.a x.1.t.n x.1.t.n) := by rw [HXW.out.cell 12]; rfl
      have xt1 : (wr.alloc (.cells (PB.enc y).toArray 72)).cell? ⟨bx, 13, none⟩ = some (.bool x.1.t.b) := by rw [HXW.out.cell 13]; rfl
      have xt2 : (wr.alloc (.cells (PB.enc y).toArray 72)).cell? ⟨bx, 14, none⟩ = some (.slice x.1.t.c x.1.t.m x.1.t.m) := by rw [HXW.out.cell 14]; rfl
      have xt3 : (wr.alloc (.cells (PB.enc y).toArray 72)).cell? ⟨bx, 15, none⟩ = some (.bool x.1.t.d) := by rw [HXW.out.cell 15]; rfl
      clear hy hFne
      go_wp2_with fail
      refine (fcmp_any y.2.b x.2.t _ _ _ HYO.out.2.2.1.1 HXQ.out.2.2.2.1.1 (ok_cmp HYO.out.2.2.1) (ok_cmp HXQ.out.2.2.2.1)).mono ?_
      rintro e wc ⟨rfl, hgc⟩
      have HGC : Hid (Gr wr wc) := HGY.out.call HGY.out.size hgc
      have KB := Lib.hid (IB.out.gr HGC.out)
      have KW := Lib.hid (IW.out.gr HGC.out)
      have KO := Lib.hid (IO.out.gr HGC.out)
      have KX := Lib.hid (IX.out.still (Gr.grown HGC.out))
      have KY := Lib.hid (HYB.out.still (Gr.grown hgc))
      have KYO := Lib.hid (HYO.out.keep (Gr.keep hgc))
      have KXO := Lib.hid (HXQ.out.keep (Gr.keep hgc))
      clear hld2 s2 hgc HGY HXW HYB HYO HXQ IB IW IO IX yb0 yb1 yb2 yb3 xt0 xt1 xt2 xt3
      by_cases h1 : x.2.t < y.2.b
      ·rw [show cmpR y.2.b x.2.t = 1 from cmpR_gt h1]
       have hno : ¬ hits x.2 y.2 = true := by unfold hits; simp [h1]
       go_wp2_with fail
       go_roundg (m - (j + 1))
       case measure => omega
       case rel => exact ⟨j + 1, _, rfl, by go_num, by omega, by omega, (by rw [foundBy_succ x F j y HY.out, if_neg hno]; exact KB.out), KW.out, KO.out, KX.out⟩
      ·have hc1 : ¬ 0 < cmpR y.2.b x.2.t := cmpR_le h1
       have xb0 : wc.cell? ⟨bx, 8, none⟩ = some (.slice x.1.b.a x.1.b.n x.1.b.n) := by rw [KX.out.cell 8]; rfl
       have xb1 : wc.cell? ⟨bx, 9, none⟩ = some (.bool x.1.b.b) := by rw [KX.out.cell 9]; rfl
       have xb2 : wc.cell? ⟨bx, 10, none⟩ = some (.slice x.1.b.c x.1.b.m x.1.b.m) := by rw [KX.out.cell 10]; rfl
       have xb3 : wc.cell? ⟨bx, 11, none⟩ = some (.bool x.1.b.d) := by rw [KX.out.cell 11]; rfl
       have yt0 : wc.cell? ⟨wr.heap.size, 12, none⟩ = some (.slice y.1.t.a y.1.t.n y.1.t.n) := by rw [KY.out.cell 12]; rfl
       have yt1 : wc.cell? ⟨wr.heap.size, 13, none⟩ = some (.bool y.1.t.b) := by rw [KY.out.cell 13]; rfl
       have yt2 : wc.cell? ⟨wr.heap.size, 14, none⟩ = some (.slice y.1.t.c y.1.t.m y.1.t.m) := by rw [KY.out.cell 14]; rfl
       have yt3 : wc.cell? ⟨wr.heap.size, 15, none⟩ = some (.bool y.1.t.d) := by rw [KY.out.cell 15]; rfl
       go_wp2_with fail
       refine (fcmp_any x.2.b y.2.t _ _ _ KXO.out.2.2.1.1 KYO.out.2.2.2.1.1 (ok_cmp KXO.out.2.2.1) (ok_cmp KYO.out.2.2.2.1)).mono ?_
       rintro e wd ⟨rfl, hgd⟩
       have JB := Lib.hid (KB.out.gr hgd)
       have JW := Lib.hid (KW.out.gr hgd)
       have JO := Lib.hid (KO.out.gr hgd)
       have JX := Lib.hid (KX.out.still (Gr.grown hgd))
       have JY := Lib.hid (KY.out.still (Gr.grown hgd))
       have JE := Lib.hid (And.intro KXO.out.2.2.2.2 KYO.out.2.2.2.2)
       clear hgd KB KW KO KX KY KYO KXO xb0 xb1 xb2 xb3 yt0 yt1 yt2 yt3 HGC
       have KB := JB
       have KW := JW
       have KO := JO
       have KX := JX
       by_cases h2 : y.2.t < x.2.b
       ·rw [show cmpR x.2.b y.2.t = 1 from cmpR_gt h2]
        have hno : ¬ hits x.2 y.2 = true := by unfold hits; simp [h2]
        go_wp2_with fail
        go_roundg (m - (j + 1))
        case measure => omega
        case rel => exact ⟨j + 1, _, rfl, by go_num, by omega, by omega, (by rw [foundBy_succ x F j y HY.out, if_neg hno]; exact KB.out), KW.out, KO.out, KX.out⟩
       ·have hc2 : ¬ 0 < cmpR x.2.b y.2.t := cmpR_le h2
        have hyes : hits x.2 y.2 = true := by unfold hits; simp [h1, h2]
        have x16 : wd.cell? ⟨bx, 16, none⟩ = some (.int .i64 (x.1.i : Int)) := by rw [KX.out.cell 16]; rfl
        have x17 : wd.cell? ⟨bx, 17, none⟩ = some (.bool x.1.s) := by rw [KX.out.cell 17]; rfl
        have y16 : wd.cell? ⟨wr.heap.size, 16, none⟩ = some (.int .i64 (y.1.i : Int)) := by rw [JY.out.cell 16]; rfl
        rw [JE.out.1.1] at x16
        rw [JE.out.1.2, hsec] at x17
        rw [JE.out.2.1] at y16
        have lx := KX.out.lt
        have ly := JY.out.lt
        obtain ⟨ip, hip, hip0, hip1, hip2⟩ := pairInfo
        have HGE : Hid (Gr wd ((wd.alloc (.cells #[.int .i64 (x.2.i : Int), .int .i64 (y.2.i : Int)] 56)).alloc (.cells #[.int .i64 (x.2.i : Int), .int .i64 (y.2.i : Int)] 56))) := (own_alloc _ _).alloc (by simp) _
        have HBE : Hid (BlkC 56 ((wd.alloc (.cells #[.int .i64 (x.2.i : Int), .int .i64 (y.2.i : Int)] 56)).alloc (.cells #[.int .i64 (x.2.i : Int), .int .i64 (y.2.i : Int)] 56)) (wd.heap.size + 1) [.int .i64 (x.2.i : Int), .int .i64 (y.2.i : Int)]) := blk_at (cs := [.int .i64 (x.2.i : Int), .int .i64 (y.2.i : Int)]) (by simp)
        have JB2 := Lib.hid (KB.out.gr HGE.out)
        have JW2 := Lib.hid (KW.out.gr HGE.out)
        have JO2 := Lib.hid (KO.out.gr HGE.out)
        have JX2 := Lib.hid (KX.out.still (Gr.grown HGE.out))
        have hnl : (out ++ foundBy x F j).length ≤ 2000000000 := by
         rw [List.length_append]
         have := foundBy_len x F j
         have := HNO.out
         omega
        clear KB KW KO KX JB JW JO JX JY JE
        go_wp2_with (refine wpList_append_own _ rfl (.tmp 91) (.tmp 93) 36 rfl w.heap.size 56 ip _ 2 16 Try.underlying36 hip hip0 hip1 hip2 rfl (by decide) vq (out ++ foundBy x F j).length _ rfl JB2.out.o ⟨wd.heap.size + 1, 0, none⟩ 1 1 [.int .i64 (x.2.i : Int), .int .i64 (y.2.i : Int)] rfl rfl (fun q u hq => by rw [Addr.add_lit, Nat.zero_add, HBE.out.cell q]; exact hq) (by intro u hu; simp only [List.mem_cons, List.not_mem_nil, or_false] at hu; rcases hu with rfl | rfl <;> rfl) (by unfold maxLen; omega) (by omega) JB2.out.b.size ?_; intro v9 w9 ho9 hg9 _; have HO9 := Lib.hid ho9; have HG9 := Lib.hid hg9; clear ho9 hg9)
        have hk9 := keep_row JB2.out.o (by decide) HG9.out
        have hnx : some bx ≠ vq.ownBlock := fun e => owns_ne_type JB2.out.o JX2.out (by decide) e.symm
        go_roundg (m - (j + 1))
        case measure => omega
        case rel => exact ⟨j + 1, _, rfl, by go_num, by omega, by omega, (by
         show PrB _ _ _ _ _ _ _ _ _
         rw [foundBy_succ x F j y HY.out, if_pos hyes, ← List.append_assoc, show pairB x.2 y.2 = (x.2.i, y.2.i) by unfold pairB; rw [hsec]; rfl]
         exact JB2.out.found HO9.out HG9.out hk9), JW2.out.found JB2.out HG9.out, JO2.out.found JB2.out HG9.out, JX2.out.grown HG9.out hnx⟩
     ·have hjz : ¬ (j : Int) < (m : Int) := by omega
      have hje : j = m := by omega
      subst hje
      go_wp2_with fail
      have mixed : Try.prog.follows .mixedOrders = true := by kernel_rfl
      refine region_x (B := wr.heap.size) (by kernel_rfl) (by kernel_rfl) rfl (s := fun | 0 => .is (.pointer (some ⟨T, 0, none⟩)) | 1 => .is (.pointer (some ⟨T, 0, none⟩)) | 2 => .is (.pointer (some ⟨T, 0, none⟩)) | 3 => .is (.pointer (some ⟨T, 0, none⟩)) | 4 => .is v0 | 5 => .is (.agg (PB.enc x).toArray) | 6 => .sl (PB.enc x) | 8 => .is (.pointer (some ⟨T, 0, none⟩)) | 9 => .is (.pointer (some ⟨T, 0, none⟩)) | _ => .any) (J := AJ w wr A T L 0 v0 (.slice oR j cR) vq v0 (.slice oR j cR) l0 F (out ++ foundBy x F j) x bx) (fun f g a w hn h => AJ.ext hn h) ?_ ?_ ?_
      ·exact ⟨fun _ => gr_of_grown ⟨rfl, rfl, rfl, Nat.le_refl _, fun _ _ _ => rfl⟩ (Nat.le_succ _), (fun e => by cases e), (fun e => by cases e), (fun e => by cases e)⟩
      ·intro i' o f A' W hi hJ hf hdep hdn hcl hfr hsz
       rcases i' with _ | _ | _ | _ | _ | _ | _ | _ | _ | _ | _ | i'
       all_goals (simp at hi)
       all_goals (try subst hi)
       ·have t13 := hfr 13 (by simp)
        refine par_value (v := .pointer (some ⟨T, 0, none⟩)) (w' := W) ?_ ⟨RX.refl _ _, hJ.same _ _ _ (by simp) (by simp), rfl⟩
        simp [go_sem, Act.eval, t13]
       ·have t13 := hfr 13 (by simp)
        refine par_value (v := .pointer (some ⟨T, 0, none⟩)) (w' := W) ?_ ⟨RX.refl _ _, hJ.same _ _ _ (by simp) (by simp), rfl⟩
        simp [go_sem, Act.eval, t13]
       ·have t97 : A'.tmps.getD 97 undef = .pointer (some ⟨T, 0, none⟩) := hdep 1 _ 97 rfl (by kernel_rfl) rfl
        refine par_value (v := .pointer (some ⟨T, 0, none⟩)) (w' := W) ?_ ⟨RX.refl _ _, hJ.same _ _ _ (by simp) (by simp), rfl⟩
        simp [go_sem, Act.eval, t97]
       ·have t98 : A'.tmps.getD 98 undef = .pointer (some ⟨T, 0, none⟩) := hdep 2 _ 98 rfl (by kernel_rfl) rfl
        refine par_value (v := .pointer (some ⟨T, 0, none⟩)) (w' := W) ?_ ⟨RX.refl _ _, hJ.same _ _ _ (by simp) (by simp), rfl⟩
        simp [go_sem, Act.eval, t98]
       ·have t99 : A'.tmps.getD 99 undef = .pointer (some ⟨T, 0, none⟩) := hdep 3 _ 99 rfl (by kernel_rfl) rfl
        have h7 : f 7 = false := by
         cases h : f 7 with
         | false => rfl
         | true => rw [hcl 7 _ 4 rfl h (by kernel_rfl)] at hf; cases hf
        have c0 : W.cell? ⟨T, 0, none⟩ = some v0 := by rw [(IB.out.gr (hJ.pre h7)).t.cell 0]; rfl
        refine par_value (v := v0) (w' := W) ?_ ⟨RX.refl _ _, hJ.same _ _ _ (by simp) (by simp), rfl⟩
        simp [go_sem, Act.eval, t99, c0]
       ·have t12 := hfr 12 (by simp)
        have h7 : f 7 = false := by
         cases h : f 7 with
         | false => rfl
         | true =>
          have h6 := hcl 7 _ 6 rfl h (by kernel_rfl)
          rw [hcl 6 _ 5 rfl h6 (by kernel_rfl)] at hf
          cases hf
        have ld := fresh_ld HK.out (IX.out.still (Gr.grown (hJ.pre h7)))
        refine par_value (v := .agg (PB.enc x).toArray) (w' := W) ?_ ⟨RX.refl _ _, hJ.same _ _ _ (by simp) (by simp), rfl⟩
        simp [go_sem, Act.eval, t12, zE, ld]
       ·have t101 : A'.tmps.getD 101 undef = .agg (PB.enc x).toArray := hdep 5 _ 101 rfl (by kernel_rfl) rfl
        have g0 := (Array.getD_eq_getD_getElem? ..).symm.trans t101
        refine par_value (v := .slice (some ⟨W.heap.size, 0, none⟩) 1 1) (w' := W.alloc (.cells (PB.enc x).toArray 72)) ?_ ⟨RX.gr (own_alloc _ _), hJ.gr (own_alloc _ _) _ _ _ (by simp) (by simp), ⟨W.heap.size, rfl, (by
         have h7 : f 7 = false := by
          cases h : f 7 with
          | false => rfl
          | true => rw [hcl 7 _ 6 rfl h (by kernel_rfl)] at hf; cases hf
         exact (hJ.pre h7).size), BlkC.new _ W (PB.enc x)⟩⟩
        simp [go_sem, Act.eval, g0, PB.enc, BV.cells]
       ·have t100 : A'.tmps.getD 100 undef = v0 := hdep 4 _ 100 rfl (by kernel_rfl) rfl
        obtain ⟨g61, e61, l61, b61⟩ : ∃ g, A'.tmps.getD 102 undef = .slice (some ⟨g, 0, none⟩) 1 1 ∧ wr.heap.size ≤ g ∧ BlkC 72 W g (PB.enc x) := hdep 6 _ 102 rfl (by kernel_rfl) rfl
        have hgr := hJ.pre hf
        have pB := IB.out.gr hgr
        have pW := IW.out.gr hgr
        have pO := IO.out.gr hgr
        obtain ⟨ib, hib, hib0, hib1, hib2⟩ := boxInfo2
        have hown := owns_of_boxRow (B := w.heap.size) pW.r (fun k hk => (pW.b k hk).1)
        intro Q'
        refine wp_append_lies W (.tmp 100) (.tmp 102) 66 rfl w.heap.size 72 ib _ 18 272 Try.underlying66 hib hib0 hib1 hib2 rfl (by decide) v0 l0.length _ t100 hown ⟨g61, 0, none⟩ 1 1 (PB.enc x) e61 rfl (fun q u hq => by rw [Addr.add_lit, Nat.zero_add, b61.cell q]; exact hq) (fun u hu => PB.one x u hu) (by omega) (by have := HM.out.2; unfold maxLen; omega) (by have := HM.out.2; omega) pB.b.size W.heap.size rfl ?_
        intro g9 cap9 w9 h1 h2 h3 h4
        have hk9 := keep_row hown (by decide) h2
        exact ⟨_, rfl, RX.grown h2 (fun k hk => boxRow_lt IW.out.r hk), hJ.app hsz (by simp) hf pB pW pO HAP3.out h1 h2 hk9 (fun k hk => by
         have e : g9 = k := by injection hk
         rcases h3 with h | h
         ·exact .inl (h.trans (congrArg some e))
         ·exact .inr (e.symm.trans h)), trivial⟩
       ·have t96 : A'.tmps.getD 96 undef = .pointer (some ⟨T, 0, none⟩) := hdep 0 _ 96 rfl (by kernel_rfl) rfl
        refine par_value (v := .pointer (some ⟨T, 0, none⟩)) (w' := W) ?_ ⟨RX.refl _ _, hJ.same _ _ _ (by simp) (by simp), rfl⟩
        simp [go_sem, Act.eval, t96]
       ·have t104 : A'.tmps.getD 104 undef = .pointer (some ⟨T, 0, none⟩) := hdep 8 _ 104 rfl (by kernel_rfl) rfl
        refine par_value (v := .pointer (some ⟨T, 0, none⟩)) (w' := W) ?_ ⟨RX.refl _ _, hJ.same _ _ _ (by simp) (by simp), rfl⟩
        simp [go_sem, Act.eval, t104]
       ·have t105 : A'.tmps.getD 105 undef = .pointer (some ⟨T, 0, none⟩) := hdep 9 _ 105 rfl (by kernel_rfl) rfl
        have h7 := hdn 7 (by kernel_rfl)
        obtain ⟨m1, m2, m3, m4⟩ := hJ.mid h7 hf
        obtain ⟨o9, c9, e9, _⟩ := m2.r.shape
        have c0 : W.cell? ⟨T, 0, none⟩ = some v0 := by rw [m1.t.cell 0]; rfl
        have f0 := m1.t.free 0
        have hp := hJ.put h7 hf undef (u0 := A'.tmps.getD 103 undef) (u1 := (.slice oR j cR)) rfl
        have hrx : RX wr.heap.size W (W.setCell ⟨T, 0, none⟩ (A'.tmps.getD 103 undef)) := RX.grown (grown_setCell W ⟨T, 0, none⟩ _) (fun k hk => by
         have e : T = k := Option.some.inj hk
         have := IB.out.t.lt
         omega)
        refine par_skip (w' := W.setCell ⟨T, 0, none⟩ (A'.tmps.getD 103 undef)) ?_ ⟨hrx, hp, trivial⟩
        simp [go_sem, Act.eval, t105, e9, c0, f0]
      ·intro vs W hJ
       obtain ⟨v', u0, u1, hs9, n1, n2, n3, n4⟩ := hJ.fin rfl
       clear hJ
       simp only [List.set_cons_zero, List.cons.injEq, and_true] at hs9
       obtain ⟨q0, q1⟩ := hs9
       subst q0
       subst q1
       simp only [putAll, List.foldl_cons, List.foldl_nil, Act.put, List.setIfInBounds_toArray, List.set_cons_succ, List.set_cons_zero]
       go_wp2_with fail
       go_roundg (n - (i + 1))
       case measure => omega
       case rel => exact ⟨i + 1, _, _, _, (l0 ++ [x]), F, out ++ foundBy x F j, rfl, by go_num, by omega, by omega, ⟨n1, n2, n3, n4, fun y hy => by
        rcases List.mem_append.1 hy with h | h
        ·exact HM.out.1 y h
        ·rw [List.mem_singleton.1 h]; exact List.mem_of_getElem? HX.out,
        HSUB.out, (by rw [passed_next HX.out, HST.out, step_f _ _ _ _ hsec, HF.out, HFM.out]), (by rw [List.length_append]; have := HM.out.2; simp; omega), (by have := HFL.out; omega), (by rw [List.length_append]; have := HNO.out; have := foundBy_len x F j; omega)⟩⟩
   | true =>
    rw [hsec] at sx
    go_wp2_with fail
    have hb1 := HP.out.m.gr HGA.out
    have rO := HP.out.r0.gr HGA.out
    have rW := HP.out.r1.gr HGA.out
    have hTlt := HP.out.m.t.lt
    have hOx : v0.ownBlock ≠ some wr.heap.size := fun e => absurd (boxRow_lt HP.out.r0.r e) (Nat.lt_irrefl _)
    refine Calls.mono (drop_any _ T 0 wr.heap.size v0 [v0, v1] l0 x.1 x.2 hb1.t rfl rO.r (by have := HP.out.n0; have := HLN.out; have := HN.out; omega) HXB.out hOx HXO.out (fun y hy => hb1.ok y (HP.out.m0 y hy)) (rO.ne hb1)) ?_
    rintro e w3' ⟨rfl, rv', w2, rfl, hob, hr2, hg2, hk2, hd2⟩
    have hb2 := hb1.row rO hg2 hk2
    have rWb : PrR w A L v1 l1 w2 := ⟨rW.r.grown hg2 (fun k hk e => HP.out.ap.symm k hk e), rW.b⟩
    have rOb : PrR w A L rv' (l0.filter fun y => passes x.2 y.2) w2 := ⟨hr2, by rw [hob]; exact rO.b⟩
    have HB3 := Lib.hid (hb2.put 0 rv' rv' v1 rfl)
    have HRW3 := Lib.hid (rWb.put hb2 0 rv')
    have HRO3 := Lib.hid (rOb.put hb2 0 rv')
    have HAP3 : Hid (Apart v1 rv') := fun k hk e => HP.out.ap.symm k hk (by rw [← hob]; exact e)
    have HX3 : Hid (BlkC 72 (w2.setCell ⟨T, 0, none⟩ rv') wr.heap.size (PB.enc x)) := (HXB.out.grown hg2 (Ne.symm hOx)).grown (grown_setCell w2 ⟨T, 0, none⟩ rv') (fun e => by have h : wr.heap.size = T := Option.some.inj e; omega)
    have HSUB : Hid (∀ y, y ∈ (l0.filter fun y => passes x.2 y.2) → y ∈ L) := fun y hy => HP.out.m0 y (List.mem_filter.1 hy).1
    obtain ⟨F, hF⟩ : ∃ F, (l0.filter fun y => passes x.2 y.2) = F := ⟨_, rfl⟩
    rw [hF] at HRO3 HSUB
    have HF := Lib.hid hF
    have HFL : Hid (F.length ≤ i) := by
     show _ ≤ _
     rw [← hF]
     exact Nat.le_trans (List.length_filter_le _ _) HP.out.n0
    have HXO3 : Hid (x.1.ok (w2.setCell ⟨T, 0, none⟩ rv') x.2) := HB3.out.ok x (List.mem_of_getElem? HX.out)
    have HST := Lib.hid HP.out.st
    have HM := Lib.hid (And.intro HP.out.m1 HP.out.n1)
    have HNO := Lib.hid HP.out.no
    obtain ⟨oR, cR, hsh, hoR⟩ := HRO3.out.r.shape
    have HOR := Lib.hid hoR
    obtain ⟨m, hm⟩ : ∃ m, F.length = m := ⟨_, rfl⟩
    rw [hm] at hsh
    have HFM := Lib.hid hm
    clear hb1 rO rW hTlt hOx hob hr2 hg2 hk2 hd2 hb2 rWb rOb hF hoR hm hld s1 sx HXB HGA HXO HALL HT1 HP
    subst hsh
    obtain ⟨w3, hw3⟩ : ∃ w3, w2.setCell ⟨T, 0, none⟩ (.slice oR m cR) = w3 := ⟨_, rfl⟩
    rw [hw3] at HB3 HRW3 HRO3 HX3 HXO3 ⊢
    clear hw3
    have tT : w3.cell? ⟨T, 0, none⟩ = some (.slice oR m cR) := by rw [HB3.out.t.cell 0]; rfl
    go_wp2_with fail
    clear tT
    have hmb : m ≤ 40000 := by have := HFL.out; have := HFM.out; omega
    obtain ⟨bx, hbx⟩ : ∃ bx, wr.heap.size = bx := ⟨_, rfl⟩
    rw [hbx] at HX3 ⊢
    clear hbx
    go_loopg [10, 61] m (fun ky s10 s61 wr => ∃ (j : Nat) (vq : Value), vq = s10 ∧ s61 = .int .i64 j ∧ j ≤ m ∧ m ≤ ky + j ∧ Hid (PrB w A T L (.slice oR m cR) v1 vq (out ++ foundBy x F j) wr) ∧ Hid (PrR w A L v1 l1 wr) ∧ Hid (PrR w A L (.slice oR m cR) F wr) ∧ Hid (BlkC 72 wr bx (PB.enc x)))
    case atStart => exact ⟨0, _, rfl, rfl, Nat.zero_le _, by omega, (by show PrB _ _ _ _ _ _ _ _ _; rw [show foundBy x F 0 = [] from rfl, List.append_nil]; exact HB3.out), HRW3, HRO3, HX3⟩
    case round =>
     clear HB3 HRW3 HRO3 HX3
     obtain ⟨j, vq, rfl, rfl, hjm, hky, IB, IW, IO, IX⟩ := hrel
     by_cases hjl : j < m
     ·have hjz : (j : Int) < (m : Int) := by omega
      have ja0 : (0 : Int) ≤ (j : Int) := by omega
      have jat : ((j : Int)).toNat = j := by omega
      obtain ⟨y, hy⟩ : ∃ y, F[j]? = some y := ⟨_, List.getElem?_eq_getElem (by rw [HFM.out]; exact hjl)⟩
      have hFne : F ≠ [] := by rintro rfl; simp at hy
      obtain ⟨gR, hgR⟩ := HOR.out hFne
      subst hgR
      have hld2 : Sem.run Try.prog (loadCellsFrom ⟨gR, j * k, none⟩ 0 k #[]) wr = .ok (PB.enc y).toArray wr := by
       rcases IO.out.r with ⟨e, _⟩ | ⟨g, cap, cs, e, _, _, _, _, hH⟩
       ·cases e
       ·injection e with e
        injection e with e
        injection e with e
        subst e
        have hh := run_loadCellsFrom_list Try.prog wr ⟨gR, 0 + j * 18, none⟩ _ 18 (PB.len _) (HoldsK.cells hH PB.len (i := j) (by simpa [HFM.out] using hjl))
        rw [Nat.zero_add, ← HK.out, show F.toArray[j]! = y by rw [getElem!_pos _ _ (by simpa [HFM.out] using hjl)]; simpa using (List.getElem?_eq_some_iff.1 hy).2] at hh
        exact hh
      have s2 := fresh_st wr #[.slice none 0 0, .bool false, .slice none 0 0, .bool false, .slice none 0 0, .bool false, .slice none 0 0, .bool false, .slice none 0 0, .bool false, .slice none 0 0, .bool false, .slice none 0 0, .bool false, .slice none 0 0, .bool false, .int .i64 0, .bool false] rfl y
      have HYB : Hid (BlkC 72 (wr.alloc (.cells (PB.enc y).toArray 72)) wr.heap.size (PB.enc y)) := BlkC.new _ wr (PB.enc y)
      have HGY : Hid (Gr wr (wr.alloc (.cells (PB.enc y).toArray 72))) := own_alloc _ _
      have HXW : Hid (BlkC 72 (wr.alloc (.cells (PB.enc y).toArray 72)) bx (PB.enc x)) := IX.out.still (Gr.grown HGY.out)
      have HY := Lib.hid hy
      have HYO : Hid (y.1.ok (wr.alloc (.cells (PB.enc y).toArray 72)) y.2) := (IB.out.ok y (HSUB.out y (List.mem_of_getElem? hy))).keep (Gr.keep HGY.out)
      have HXQ : Hid (x.1.ok (wr.alloc (.cells (PB.enc y).toArray 72)) x.2) := (IB.out.ok x (List.mem_of_getElem? HX.out)).keep (Gr.keep HGY.out)
      have ny : (PB.enc y).length = k := by rw [HK.out]; rfl
      have yb0 : (wr.alloc (.cells (PB.enc y).toArray 72)).cell? ⟨wr.heap.size, 8, none⟩ = some (.slice y.1.b.a y.1.b.n y.1.b.n) := by rw [HYB.out.cell 8]; rfl
      have yb1 : (wr.alloc (.cells (PB.enc y).toArray 72)).cell? ⟨wr.heap.size, 9, none⟩ = some (.bool y.1.b.b) := by rw [HYB.out.cell 9]; rfl
      have yb2 : (wr.alloc (.cells (PB.enc y).toArray 72)).cell? ⟨wr.heap.size, 10, none⟩ = some (.slice y.1.b.c y.1.b.m y.1.b.m) := by rw [HYB.out.cell 10]; rfl
      have yb3 : (wr.alloc (.cells (PB.enc y).toArray 72)).cell? ⟨wr.heap.size, 11, none⟩ = some (.bool y.1.b.d) := by rw [HYB.out.cell 11]; rfl
      have xt0 : (wr.alloc (.cells (PB.enc y).toArray 72)).cell? ⟨bx, 12, none⟩ = some (.slice x.1.t.a x.1.t.n x.1.t.n) := by rw [HXW.out.cell 12]; rfl
      have xt1 : (wr.alloc (.cells (PB.enc y).toArray 72)).cell? ⟨bx, 13, none⟩ = some (.bool x.1.t.b) := by rw [HXW.out.cell 13]; rfl
      have xt2 : (wr.alloc (.cells (PB.enc y).toArray 72)).cell? ⟨bx, 14, none⟩ = some (.slice x.1.t.c x.1.t.m x.1.t.m) := by rw [HXW.out.cell 14]; rfl
      have xt3 : (wr.alloc (.cells (PB.enc y).toArray 72)).cell? ⟨bx, 15, none⟩ = some (.bool x.1.t.d) := by rw [HXW.out.cell 15]; rfl
      clear hy hFne
      go_wp2_with fail
      refine (fcmp_any y.2.b x.2.t _ _ _ HYO.out.2.2.1.1 HXQ.out.2.2.2.1.1 (ok_cmp HYO.out.2.2.1) (ok_cmp HXQ.out.2.2.2.1)).mono ?_
      rintro e wc ⟨rfl, hgc⟩
      have HGC : Hid (Gr wr wc) := HGY.out.call HGY.out.size hgc
      have KB := Lib.hid (IB.out.gr HGC.out)
      have KW := Lib.hid (IW.out.gr HGC.out)
      have KO := Lib.hid (IO.out.gr HGC.out)
      have KX := Lib.hid (IX.out.still (Gr.grown HGC.out))
      have KY := Lib.hid (HYB.out.still (Gr.grown hgc))
      have KYO := Lib.hid (HYO.out.keep (Gr.keep hgc))
      have KXO := Lib.hid (HXQ.out.keep (Gr.keep hgc))
      clear hld2 s2 hgc HGY HXW HYB HYO HXQ IB IW IO IX yb0 yb1 yb2 yb3 xt0 xt1 xt2 xt3
      by_cases h1 : x.2.t < y.2.b
      ·rw [show cmpR y.2.b x.2.t = 1 from cmpR_gt h1]
       have hno : ¬ hits x.2 y.2 = true := by unfold hits; simp [h1]
       go_wp2_with fail
       go_roundg (m - (j + 1))
       case measure => omega
       case rel => exact ⟨j + 1, _, rfl, by go_num, by omega, by omega, (by rw [foundBy_succ x F j y HY.out, if_neg hno]; exact KB.out), KW.out, KO.out, KX.out⟩
      ·have hc1 : ¬ 0 < cmpR y.2.b x.2.t := cmpR_le h1
       have xb0 : wc.cell? ⟨bx, 8, none⟩ = some (.slice x.1.b.a x.1.b.n x.1.b.n) := by rw [KX.out.cell 8]; rfl
       have xb1 : wc.cell? ⟨bx, 9, none⟩ = some (.bool x.1.b.b) := by rw [KX.out.cell 9]; rfl
       have xb2 : wc.cell? ⟨bx, 10, none⟩ = some (.slice x.1.b.c x.1.b.m x.1.b.m) := by rw [KX.out.cell 10]; rfl
       have xb3 : wc.cell? ⟨bx, 11, none⟩ = some (.bool x.1.b.d) := by rw [KX.out.cell 11]; rfl
       have yt0 : wc.cell? ⟨wr.heap.size, 12, none⟩ = some (.slice y.1.t.a y.1.t.n y.1.t.n) := by rw [KY.out.cell 12]; rfl
       have yt1 : wc.cell? ⟨wr.heap.size, 13, none⟩ = some (.bool y.1.t.b) := by rw [KY.out.cell 13]; rfl
       have yt2 : wc.cell? ⟨wr.heap.size, 14, none⟩ = some (.slice y.1.t.c y.1.t.m y.1.t.m) := by rw [KY.out.cell 14]; rfl
       have yt3 : wc.cell? ⟨wr.heap.size, 15, none⟩ = some (.bool y.1.t.d) := by rw [KY.out.cell 15]; rfl
       go_wp2_with fail
       refine (fcmp_any x.2.b y.2.t _ _ _ KXO.out.2.2.1.1 KYO.out.2.2.2.1.1 (ok_cmp KXO.out.2.2.1) (ok_cmp KYO.out.2.2.2.1)).mono ?_
       rintro e wd ⟨rfl, hgd⟩
       have JB := Lib.hid (KB.out.gr hgd)
       have JW := Lib.hid (KW.out.gr hgd)
       have JO := Lib.hid (KO.out.gr hgd)
       have JX := Lib.hid (KX.out.still (Gr.grown hgd))
       have JY := Lib.hid (KY.out.still (Gr.grown hgd))
       have JE := Lib.hid (And.intro KXO.out.2.2.2.2 KYO.out.2.2.2.2)
       clear hgd KB KW KO KX KY KYO KXO xb0 xb1 xb2 xb3 yt0 yt1 yt2 yt3 HGC
       have KB := JB
       have KW := JW
       have KO := JO
       have KX := JX
       by_cases h2 : y.2.t < x.2.b
       ·rw [show cmpR x.2.b y.2.t = 1 from cmpR_gt h2]
        have hno : ¬ hits x.2 y.2 = true := by unfold hits; simp [h2]
        go_wp2_with fail
        go_roundg (m - (j + 1))
        case measure => omega
        case rel => exact ⟨j + 1, _, rfl, by go_num, by omega, by omega, (by rw [foundBy_succ x F j y HY.out, if_neg hno]; exact KB.out), KW.out, KO.out, KX.out⟩
       ·have hc2 : ¬ 0 < cmpR x.2.b y.2.t := cmpR_le h2
        have hyes : hits x.2 y.2 = true := by unfold hits; simp [h1, h2]
        have x16 : wd.cell? ⟨bx, 16, none⟩ = some (.int .i64 (x.1.i : Int)) := by rw [KX.out.cell 16]; rfl
        have x17 : wd.cell? ⟨bx, 17, none⟩ = some (.bool x.1.s) := by rw [KX.out.cell 17]; rfl
        have y16 : wd.cell? ⟨wr.heap.size, 16, none⟩ = some (.int .i64 (y.1.i : Int)) := by rw [JY.out.cell 16]; rfl
        rw [JE.out.1.1] at x16
        rw [JE.out.1.2, hsec] at x17
        rw [JE.out.2.1] at y16
        have lx := KX.out.lt
        have ly := JY.out.lt
        obtain ⟨ip, hip, hip0, hip1, hip2⟩ := pairInfo
        have HGE : Hid (Gr wd ((wd.alloc (.cells #[.int .i64 (y.2.i : Int), .int .i64 (x.2.i : Int)] 56)).alloc (.cells #[.int .i64 (y.2.i : Int), .int .i64 (x.2.i : Int)] 56))) := (own_alloc _ _).alloc (by simp) _
        have HBE : Hid (BlkC 56 ((wd.alloc (.cells #[.int .i64 (y.2.i : Int), .int .i64 (x.2.i : Int)] 56)).alloc (.cells #[.int .i64 (y.2.i : Int), .int .i64 (x.2.i : Int)] 56)) (wd.heap.size + 1) [.int .i64 (y.2.i : Int), .int .i64 (x.2.i : Int)]) := blk_at (cs := [.int .i64 (y.2.i : Int), .int .i64 (x.2.i : Int)]) (by simp)
        have JB2 := Lib.hid (KB.out.gr HGE.out)
        have JW2 := Lib.hid (KW.out.gr HGE.out)
        have JO2 := Lib.hid (KO.out.gr HGE.out)
        have JX2 := Lib.hid (KX.out.still (Gr.grown HGE.out))
        have hnl : (out ++ foundBy x F j).length ≤ 2000000000 := by
         rw [List.length_append]
         have := foundBy_len x F j
         have := HNO.out
         omega
        clear KB KW KO KX JB JW JO JX JY JE
        go_wp2_with (refine wpList_append_own _ rfl (.tmp 91) (.tmp 93) 36 rfl w.heap.size 56 ip _ 2 16 Try.underlying36 hip hip0 hip1 hip2 rfl (by decide) vq (out ++ foundBy x F j).length _ rfl JB2.out.o ⟨wd.heap.size + 1, 0, none⟩ 1 1 [.int .i64 (y.2.i : Int), .int .i64 (x.2.i : Int)] rfl rfl (fun q u hq => by rw [Addr.add_lit, Nat.zero_add, HBE.out.cell q]; exact hq) (by intro u hu; simp only [List.mem_cons, List.not_mem_nil, or_false] at hu; rcases hu with rfl | rfl <;> rfl) (by unfold maxLen; omega) (by omega) JB2.out.b.size ?_; intro v9 w9 ho9 hg9 _; have HO9 := Lib.hid ho9; have HG9 := Lib.hid hg9; clear ho9 hg9)
        have hk9 := keep_row JB2.out.o (by decide) HG9.out
        have hnx : some bx ≠ vq.ownBlock := fun e => owns_ne_type JB2.out.o JX2.out (by decide) e.symm
        go_roundg (m - (j + 1))
        case measure => omega
        case rel => exact ⟨j + 1, _, rfl, by go_num, by omega, by omega, (by
         show PrB _ _ _ _ _ _ _ _ _
         rw [foundBy_succ x F j y HY.out, if_pos hyes, ← List.append_assoc, show pairB x.2 y.2 = (y.2.i, x.2.i) by unfold pairB; rw [hsec]; rfl]
         exact JB2.out.found HO9.out HG9.out hk9), JW2.out.found JB2.out HG9.out, JO2.out.found JB2.out HG9.out, JX2.out.grown HG9.out hnx⟩
     ·have hjz : ¬ (j : Int) < (m : Int) := by omega
      have hje : j = m := by omega
      subst hje
      go_wp2_with fail
      have mixed : Try.prog.follows .mixedOrders = true := by kernel_rfl
      refine region_x (B := wr.heap.size) (by kernel_rfl) (by kernel_rfl) rfl (s := fun | 0 => .is (.pointer (some ⟨T, 1, none⟩)) | 1 => .is (.pointer (some ⟨T, 1, none⟩)) | 2 => .is (.pointer (some ⟨T, 1, none⟩)) | 3 => .is (.pointer (some ⟨T, 1, none⟩)) | 4 => .is v1 | 5 => .is (.agg (PB.enc x).toArray) | 6 => .sl (PB.enc x) | 8 => .is (.pointer (some ⟨T, 1, none⟩)) | 9 => .is (.pointer (some ⟨T, 1, none⟩)) | _ => .any) (J := AJ w wr A T L 1 (.slice oR j cR) v1 vq v1 (.slice oR j cR) l1 F (out ++ foundBy x F j) x bx) (fun f g a w hn h => AJ.ext hn h) ?_ ?_ ?_
      ·exact ⟨fun _ => gr_of_grown ⟨rfl, rfl, rfl, Nat.le_refl _, fun _ _ _ => rfl⟩ (Nat.le_succ _), (fun e => by cases e), (fun e => by cases e), (fun e => by cases e)⟩
      ·intro i' o f A' W hi hJ hf hdep hdn hcl hfr hsz
       rcases i' with _ | _ | _ | _ | _ | _ | _ | _ | _ | _ | _ | i'
       all_goals (simp at hi)
       all_goals (try subst hi)
       ·have t13 := hfr 13 (by simp)
        refine par_value (v := .pointer (some ⟨T, 1, none⟩)) (w' := W) ?_ ⟨RX.refl _ _, hJ.same _ _ _ (by simp) (by simp), rfl⟩
        simp [go_sem, Act.eval, t13]
       ·have t13 := hfr 13 (by simp)
        refine par_value (v := .pointer (some ⟨T, 1, none⟩)) (w' := W) ?_ ⟨RX.refl _ _, hJ.same _ _ _ (by simp) (by simp), rfl⟩
        simp [go_sem, Act.eval, t13]
       ·have t97 : A'.tmps.getD 97 undef = .pointer (some ⟨T, 1, none⟩) := hdep 1 _ 97 rfl (by kernel_rfl) rfl
        refine par_value (v := .pointer (some ⟨T, 1, none⟩)) (w' := W) ?_ ⟨RX.refl _ _, hJ.same _ _ _ (by simp) (by simp), rfl⟩
        simp [go_sem, Act.eval, t97]
       ·have t98 : A'.tmps.getD 98 undef = .pointer (some ⟨T, 1, none⟩) := hdep 2 _ 98 rfl (by kernel_rfl) rfl
        refine par_value (v := .pointer (some ⟨T, 1, none⟩)) (w' := W) ?_ ⟨RX.refl _ _, hJ.same _ _ _ (by simp) (by simp), rfl⟩
        simp [go_sem, Act.eval, t98]
       ·have t99 : A'.tmps.getD 99 undef = .pointer (some ⟨T, 1, none⟩) := hdep 3 _ 99 rfl (by kernel_rfl) rfl
        have h7 : f 7 = false := by
         cases h : f 7 with
         | false => rfl
         | true => rw [hcl 7 _ 4 rfl h (by kernel_rfl)] at hf; cases hf
        have c0 : W.cell? ⟨T, 1, none⟩ = some v1 := by rw [(IB.out.gr (hJ.pre h7)).t.cell 1]; rfl
        refine par_value (v := v1) (w' := W) ?_ ⟨RX.refl _ _, hJ.same _ _ _ (by simp) (by simp), rfl⟩
        simp [go_sem, Act.eval, t99, c0]
       ·have t12 := hfr 12 (by simp)
        have h7 : f 7 = false := by
         cases h : f 7 with
         | false => rfl
         | true =>
          have h6 := hcl 7 _ 6 rfl h (by kernel_rfl)
          rw [hcl 6 _ 5 rfl h6 (by kernel_rfl)] at hf
          cases hf
        have ld := fresh_ld HK.out (IX.out.still (Gr.grown (hJ.pre h7)))
        refine par_value (v := .agg (PB.enc x).toArray) (w' := W) ?_ ⟨RX.refl _ _, hJ.same _ _ _ (by simp) (by simp), rfl⟩
        simp [go_sem, Act.eval, t12, zE, ld]
       ·have t101 : A'.tmps.getD 101 undef = .agg (PB.enc x).toArray := hdep 5 _ 101 rfl (by kernel_rfl) rfl
        have g0 := (Array.getD_eq_getD_getElem? ..).symm.trans t101
        refine par_value (v := .slice (some ⟨W.heap.size, 0, none⟩) 1 1) (w' := W.alloc (.cells (PB.enc x).toArray 72)) ?_ ⟨RX.gr (own_alloc _ _), hJ.gr (own_alloc _ _) _ _ _ (by simp) (by simp), ⟨W.heap.size, rfl, (by
         have h7 : f 7 = false := by
          cases h : f 7 with
          | false => rfl
          | true => rw [hcl 7 _ 6 rfl h (by kernel_rfl)] at hf; cases hf
         exact (hJ.pre h7).size), BlkC.new _ W (PB.enc x)⟩⟩
        simp [go_sem, Act.eval, g0, PB.enc, BV.cells]
       ·have t100 : A'.tmps.getD 100 undef = v1 := hdep 4 _ 100 rfl (by kernel_rfl) rfl
        obtain ⟨g61, e61, l61, b61⟩ : ∃ g, A'.tmps.getD 102 undef = .slice (some ⟨g, 0, none⟩) 1 1 ∧ wr.heap.size ≤ g ∧ BlkC 72 W g (PB.enc x) := hdep 6 _ 102 rfl (by kernel_rfl) rfl
        have hgr := hJ.pre hf
        have pB := IB.out.gr hgr
        have pW := IW.out.gr hgr
        have pO := IO.out.gr hgr
        obtain ⟨ib, hib, hib0, hib1, hib2⟩ := boxInfo2
        have hown := owns_of_boxRow (B := w.heap.size) pW.r (fun k hk => (pW.b k hk).1)
        intro Q'
        refine wp_append_lies W (.tmp 100) (.tmp 102) 66 rfl w.heap.size 72 ib _ 18 272 Try.underlying66 hib hib0 hib1 hib2 rfl (by decide) v1 l1.length _ t100 hown ⟨g61, 0, none⟩ 1 1 (PB.enc x) e61 rfl (fun q u hq => by rw [Addr.add_lit, Nat.zero_add, b61.cell q]; exact hq) (fun u hu => PB.one x u hu) (by omega) (by have := HM.out.2; unfold maxLen; omega) (by have := HM.out.2; omega) pB.b.size W.heap.size rfl ?_
        intro g9 cap9 w9 h1 h2 h3 h4
        have hk9 := keep_row hown (by decide) h2
        exact ⟨_, rfl, RX.grown h2 (fun k hk => boxRow_lt IW.out.r hk), hJ.app hsz (by simp) hf pB pW pO HAP3.out h1 h2 hk9 (fun k hk => by
         have e : g9 = k := by injection hk
         rcases h3 with h | h
         ·exact .inl (h.trans (congrArg some e))
         ·exact .inr (e.symm.trans h)), trivial⟩
       ·have t96 : A'.tmps.getD 96 undef = .pointer (some ⟨T, 1, none⟩) := hdep 0 _ 96 rfl (by kernel_rfl) rfl
        refine par_value (v := .pointer (some ⟨T, 1, none⟩)) (w' := W) ?_ ⟨RX.refl _ _, hJ.same _ _ _ (by simp) (by simp), rfl⟩
        simp [go_sem, Act.eval, t96]
       ·have t104 : A'.tmps.getD 104 undef = .pointer (some ⟨T, 1, none⟩) := hdep 8 _ 104 rfl (by kernel_rfl) rfl
        refine par_value (v := .pointer (some ⟨T, 1, none⟩)) (w' := W) ?_ ⟨RX.refl _ _, hJ.same _ _ _ (by simp) (by simp), rfl⟩
        simp [go_sem, Act.eval, t104]
       ·have t105 : A'.tmps.getD 105 undef = .pointer (some ⟨T, 1, none⟩) := hdep 9 _ 105 rfl (by kernel_rfl) rfl
        have h7 := hdn 7 (by kernel_rfl)
        obtain ⟨m1, m2, m3, m4⟩ := hJ.mid h7 hf
        obtain ⟨o9, c9, e9, _⟩ := m2.r.shape
        have c0 : W.cell? ⟨T, 1, none⟩ = some v1 := by rw [m1.t.cell 1]; rfl
        have f0 := m1.t.free 1
        have hp := hJ.put h7 hf undef (u0 := (.slice oR j cR)) (u1 := A'.tmps.getD 103 undef) rfl
        have hrx : RX wr.heap.size W (W.setCell ⟨T, 1, none⟩ (A'.tmps.getD 103 undef)) := RX.grown (grown_setCell W ⟨T, 1, none⟩ _) (fun k hk => by
         have e : T = k := Option.some.inj hk
         have := IB.out.t.lt
         omega)
        refine par_skip (w' := W.setCell ⟨T, 1, none⟩ (A'.tmps.getD 103 undef)) ?_ ⟨hrx, hp, trivial⟩
        simp [go_sem, Act.eval, t105, e9, c0, f0]
      ·intro vs W hJ
       obtain ⟨v', u0, u1, hs9, n1, n2, n3, n4⟩ := hJ.fin rfl
       clear hJ
       simp only [List.set_cons_zero, List.set_cons_succ, List.cons.injEq, and_true] at hs9
       obtain ⟨q0, q1⟩ := hs9
       subst q0
       subst q1
       simp only [putAll, List.foldl_cons, List.foldl_nil, Act.put, List.setIfInBounds_toArray, List.set_cons_succ, List.set_cons_zero]
       go_wp2_with fail
       go_roundg (n - (i + 1))
       case measure => omega
       case rel => exact ⟨i + 1, _, _, _, F, (l1 ++ [x]), out ++ foundBy x F j, rfl, by go_num, by omega, by omega, ⟨n1, n3, n2, n4.symm, HSUB.out, fun y hy => by
        rcases List.mem_append.1 hy with h | h
        ·exact HM.out.1 y h
        ·rw [List.mem_singleton.1 h]; exact List.mem_of_getElem? HX.out,
        (by rw [passed_next HX.out, HST.out, step_t _ _ _ _ hsec, HF.out, HFM.out]), (by have := HFL.out; omega), (by rw [List.length_append]; have := HM.out.2; simp; omega), (by rw [List.length_append]; have := HNO.out; have := foundBy_len x F j; omega)⟩⟩
  ·have hlz : ¬ (i : Int) < (n : Int) := by omega
   have hie : i = n := by omega
   subst hie
   have HTK : Hid (L.take i = L) := by
    show _ = _
    rw [← HN.out]; exact List.take_length
   have HST := HP.out.st
   rw [HTK.out] at HST
   obtain ⟨hbd, hres⟩ := found_end (d := (d : Rat)) (by have := HDD.out.1; exact Rat.intCast_nonneg.2 this) HP6.out HX1E.out HX2E.out HS6.out HST
   have HRES := Lib.hid hres
   have HBD : Hid (∀ p, p ∈ out → p.1 < 1073741824 ∧ p.2 < 1073741824) := fun p hp => by
    have h1 := hbd p hp
    have h2 := HNA.out
    have h3 := HNB.out
    have h4 := HSZ.out
    exact ⟨by omega, by omega⟩
   have HOL : Hid (out.length < 4611686018427387904) := by
    show _ < _
    have := HP.out.no
    omega
   clear HST hbd hres
   go_wp2_with fail
   refine (sortOut_any wr w.heap.size vo out HP.out.m.o HBD.out HOL.out).mono ?_
   rintro e w9 ⟨rfl, l', hpl, hsl', hrl, hgl⟩
   have HRL := Lib.hid hrl
   have HE := Lib.hid (HRES.out l' hpl hsl')
   have HOW : Hid (∀ k, vo.ownBlock = some k → w.heap.size ≤ k) := Lib.hid (fun k hk => (HP.out.m.o.lt k hk).1)
   have HB9 : Hid (Below w.heap.size w w9) := HP.out.m.b.grown hgl HP.out.m.b.size (fun k hk => (HP.out.m.o.lt k hk).1)
   clear hpl hsl' hrl hgl
   go_wp2_with fail
   refine bodyPost_ret (results_tmp2 rfl _ _ _) rfl ?_
   exact ⟨vo, rfl, HE.out ▸ HRL.out, HB9.out, HOW.out⟩
theorem pairs_any (k : Nat) (zE : ∀ w, (Go.sizeOf 72).run Try.prog w = .ok k w) (hk18 : k = 18) (ss ts : List Sg) (na nb ca cb : Nat) (oa ob : Option Addr) (d : Int) (w : World) (ha : SegSlice w (.slice oa na ca) ss) (hb : SegSlice w (.slice ob nb cb) ts) (hna : na = ss.length) (hnb : nb = ts.length) (hs : na ≤ 20000) (ht : nb ≤ 20000)
  (hd0 : 0 ≤ d) (hd1 : d ≤ 9223372036854775807) (hsl : ∀ s, s ∈ ss → SgL s) (htl : ∀ s, s ∈ ts → SgL s) :
  Calls Try.prog 8 #[.slice oa na ca, .slice ob nb cb, .int .i64 d] w fun e w' => ∃ v, e = .returned (.tuple #[v, .int .i64 0]) ∧ PairRow w' v (pairsS (boxesL ss (d : Rat) false) (boxesL ts 0 true)) ∧ Below w.heap.size w w' := (pairs_anyF k zE hk18 ss ts na nb ca cb oa ob d w ha hb hna hnb hs ht hd0 hd1 hsl htl).mono fun _ _ ⟨v, h1, h2, h3, _⟩ => ⟨v, h1, h2, h3⟩
end Go.Proofs.Ytnojfiokdhcbjaa
