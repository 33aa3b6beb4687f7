/-
  SweepPairs: the walk. (Printed by gen_spairs.py.)
-/
import Derived.Test.YtnojfiokdhcbjaaSwF
import Derived.Test.YtnojfiokdhcbjaaRefPF
namespace Go.Proofs.Ytnojfiokdhcbjaa
open Go Go.RowKit Go.Lib

theorem RSegs.still {w w' : World} {v : Value} {l : List PQ} (h : RSegs w v l) (hb : Below w.heap.size w w') : RSegs w' v l := by
  obtain ⟨o, c, rfl, h | ⟨g, rfl, hg, hr⟩⟩ := h
  · exact ⟨o, c, rfl, .inl h⟩
  · refine ⟨_, c, rfl, .inr ⟨g, rfl, Nat.lt_of_lt_of_le hg hb.size, fun i p hp => ?_⟩⟩
    obtain ⟨cs, k1, k2⟩ := hr i p hp
    exact ⟨cs, fun j x hx => (World.cell?_of_block (a := ⟨g, _, none⟩) (hb.block g hg)).trans (k1 j x hx), gc_keep (kk_below hb) _ _ k2⟩
theorem sg14_at {l : List PQ} {i : Nat} {p : PQ} (h : (l.take 14)[i]? = some p) : (sg14 l)[i]? = some (sgOf p) := by
  unfold sg14
  rw [List.getElem?_map, h]
  rfl

set_option maxHeartbeats 8000000 in
set_option maxRecDepth 100000 in
theorem sweepPairs_any (l m : List PQ) (u v : Value) (d : Int) (w : World) (hu : PqIs w u l) (hv : PqIs w v m) (hd : I64 d) :
    Calls Try.prog 4 #[u, v, .int .i64 d] w fun e w' => e = .returned (.bool true) ∧ Below w.heap.size w w' := by
  have HU := Lib.hid hu
  have HV := Lib.hid hv
  have HD : Hid (Rng64 d) := Lib.hid hd
  have HOK1 : Hid (∀ p ∈ l, p.ok) := Lib.hid hu.2.1
  have HOK2 : Hid (∀ p ∈ m, p.ok) := Lib.hid hv.2.1
  have HLS : Hid (∀ s, s ∈ sg14 l → SgL s) := Lib.hid (sg14_l hu.2.1)
  have HMS : Hid (∀ s, s ∈ sg14 m → SgL s) := Lib.hid (sg14_l hv.2.1)
  clear hu hv hd
  have mixed : Try.prog.follows .mixedOrders = true := by kernel_rfl
  go_enter Try.func4, Try.ntmps4
  go_wp2_with fail
  refine (segs_any l u _ HU.out).mono ?_
  rintro e w1 ⟨a1, b1, rfl, ha1, hr1, hg1⟩
  have HA1 := Lib.hid ha1
  have HR1 := Lib.hid hr1
  have HG1 := Lib.hid hg1
  have HV1 := Lib.hid (HV.out.still (grown_of_below hg1 none))
  clear ha1 hr1 hg1 HV HU
  go_wp2_with fail
  refine (segs_any m v _ HV1.out).mono ?_
  rintro e w2 ⟨a2, b2, rfl, ha2, hr2, hg2⟩
  have HA2 := Lib.hid ha2
  have HR2 := Lib.hid hr2
  have HR12 := Lib.hid (HR1.out.still hg2)
  have HA12 := Lib.hid (HA1.out.still hg2)
  have HG2 : Hid (Below w.heap.size w w2) := HG1.out.trans (hg2.mono HG1.out.size)
  clear ha2 hr2 hg2 HV1 HA1 HR1 HG1
  go_wp2_with fail
  refine (pairsU_any (sg14 l) (sg14 m) _ _ d _ HA12.out HA2.out (sg14_len l) (sg14_len m) HD.out HLS.out HMS.out).mono ?_
  rintro e w3 ⟨r3, c3, rfl, hp3, hn3, hg3⟩
  have HP3 := Lib.hid hp3
  have HN3 := Lib.hid hn3
  have HR13 := Lib.hid (HR12.out.still hg3)
  have HR23 := Lib.hid (HR2.out.still hg3)
  have HG3 : Hid (Below w.heap.size w w3) := HG2.out.trans (hg3.mono HG2.out.size)
  clear hp3 hn3 hg3 HA12 HA2 HG2 HR12 HR2
  go_wp2_with fail
  refine (known20_any _).mono ?_
  rintro e w4 ⟨rfl, hg4⟩
  have HP4 : Hid (0 ≤ d → c3 = 0 ∧ PairRow w4 r3 (pairsS (boxesL (sg14 l) (d : Rat) false) (boxesL (sg14 m) 0 true))) := Lib.hid (fun h => ⟨(HP3.out h).1, (HP3.out h).2.still fun g hg => hg4.block g hg⟩)
  have HR14 := Lib.hid (HR13.out.still hg4)
  have HR24 := Lib.hid (HR23.out.still hg4)
  have HG4 : Hid (Below w.heap.size w w4) := HG3.out.trans (hg4.mono HG3.out.size)
  clear hg4 HG3 HP3 HR13 HR23
  by_cases hneg : d < 0
  · obtain ⟨e3, e4⟩ := HN3.out hneg
    subst e3 e4
    clear HP4 HN3 HR14 HR24
    go_wp2_with fail
    go_ret
    exact ⟨rfl, HG4.out⟩
  · obtain ⟨e3, hr3⟩ := HP4.out (by omega)
    subst e3
    clear HP4 HN3
    obtain ⟨o3, k3, rfl, hx⟩ := hr3.shape
    obtain ⟨A, hA⟩ : ∃ A, A = boxesL (sg14 l) (d : Rat) false := ⟨_, rfl⟩
    obtain ⟨B, hB⟩ : ∃ B, B = boxesL (sg14 m) 0 true := ⟨_, rfl⟩
    rw [← hA, ← hB] at hx ⊢
    have HLX : Hid ((pairsS A B).length ≤ 196) := Lib.hid (by rw [hA, hB]; exact pairs_max _ _ _ (sg14_len _) (sg14_len _))
    obtain ⟨NX, hNX⟩ : ∃ n, n = (pairsS A B).length := ⟨_, rfl⟩
    rw [← hNX] at hx ⊢
    have HNX := Lib.hid hNX
    have HX := Lib.hid hx
    have HDA := Lib.hid hA
    have HDB := Lib.hid hB
    obtain ⟨ou, cu, rfl, hru⟩ := HR14.out
    obtain ⟨ov, cv, rfl, hrv⟩ := HR24.out
    have hla : A.length = (l.take 14).length := by rw [hA, boxesL_len]; unfold sg14; rw [List.length_map]
    have hlb : B.length = (m.take 14).length := by rw [hB, boxesL_len]; unfold sg14; rw [List.length_map]
    obtain ⟨N1, hN1⟩ : ∃ n, n = (l.take 14).length := ⟨_, rfl⟩
    obtain ⟨N2, hN2⟩ : ∃ n, n = (m.take 14).length := ⟨_, rfl⟩
    have hn1 : N1 ≤ 14 := by rw [hN1, List.length_take]; omega
    have hn2 : N2 ≤ 14 := by rw [hN2, List.length_take]; omega
    rw [← hN1, ← hN2]
    have HN1 := Lib.hid hN1
    have HN2 := Lib.hid hN2
    have HLA := Lib.hid (hla.trans hN1.symm)
    have HLB := Lib.hid (hlb.trans hN2.symm)
    have HRU := Lib.hid hru
    have HRV := Lib.hid hrv
    clear hr3 hx hA hB hNX hru hrv hla hlb hN1 hN2 HR14 HR24
    go_wp2_with fail
    go_loopg [13, 14] N1 (fun kx s13 s14 wr => ∃ i n : Nat, s13 = .int .i64 n ∧ s14 = .int .i64 i ∧ i ≤ N1 ∧ N1 ≤ kx + i ∧ Hid (n = (doneP A B i 0).length) ∧ Hid (Below w.heap.size w wr ∧ Below w4.heap.size w4 wr))
    case atStart => exact ⟨0, 0, rfl, rfl, Nat.zero_le _, by omega, Lib.hid (by rw [done_start]; rfl), Lib.hid ⟨HG4.out, Below.refl _ _⟩⟩
    case round =>
      clear HG4
      obtain ⟨i, n0, rfl, rfl, him, hkx, HN0, HI0⟩ := hrel
      obtain ⟨gO, hgO⟩ : ∃ q, q = gk := ⟨_, rfl⟩
      subst hgO
      obtain ⟨wo, hwo⟩ : ∃ q : World, q = wr := ⟨_, rfl⟩
      subst hwo
      by_cases hlt : i < N1
      · have hlz : (i : Int) < (N1 : Int) := by omega
        have eii : ((i : Int)).toNat = i := by omega
        have pii : (0 : Int) ≤ (i : Int) := by omega
        have bii : (i : Int) < (N1 : Int) := hlz
        obtain ⟨p, hp⟩ : ∃ p, (l.take 14)[i]? = some p := ⟨_, List.getElem?_eq_getElem (by have := HN1.out; omega)⟩
        have HP : Hid p.ok := Lib.hid (HOK1.out p (List.mem_of_mem_take (List.mem_of_getElem? hp)))
        have HAI : Hid (A[i]? = some (boxS (sgOf p) (d : Rat) i false)) := Lib.hid (by rw [HDA.out]; exact boxesL_idx (sg14_at hp))
        have HPP := Lib.hid hp
        rcases HRU.out with h0 | ⟨gu, rfl, hgu, hru⟩
        · exact absurd HN1.out (by rw [h0]; simp; omega)
        have HGUL := Lib.hid hgu
        have HRU2 := Lib.hid hru
        clear hp hgu hru
        go_wp2_with fail
        go_loopg [13, 15] N2 (fun kx s13 s15 wr => ∃ k n : Nat, s13 = .int .i64 n ∧ s15 = .int .i64 k ∧ k ≤ N2 ∧ N2 ≤ kx + k ∧ Hid (n = (doneP A B i k).length) ∧ Hid (Below w.heap.size w wr ∧ Below w4.heap.size w4 wr))
        case atStart => exact ⟨0, n0, rfl, rfl, Nat.zero_le _, by omega, HN0, HI0⟩
        case round =>
          clear HN0 HI0
          obtain ⟨k, n, rfl, rfl, hkm, hkk, HN, HI⟩ := hrel
          by_cases hkt : k < N2
          · have hkz : (k : Int) < (N2 : Int) := by omega
            have ekk : ((k : Int)).toNat = k := by omega
            have pkk : (0 : Int) ≤ (k : Int) := by omega
            have bkk : (k : Int) < (N2 : Int) := hkz
            obtain ⟨q, hq⟩ : ∃ q, (m.take 14)[k]? = some q := ⟨_, List.getElem?_eq_getElem (by have := HN2.out; omega)⟩
            have HQ : Hid q.ok := Lib.hid (HOK2.out q (List.mem_of_mem_take (List.mem_of_getElem? hq)))
            have HBK : Hid (B[k]? = some (boxS (sgOf q) 0 k true)) := Lib.hid (by rw [HDB.out]; exact boxesL_idx (sg14_at hq))
            rcases HRV.out with h0 | ⟨gv, rfl, hgv, hrv⟩
            · exact absurd HN2.out (by rw [h0]; simp; omega)
            obtain ⟨cs, kx1, kg1⟩ := HRU2.out i p HPP.out
            obtain ⟨ct, kx2, kg2⟩ := hrv k q hq
            have HLU : Hid (gu < wr.heap.size) := Lib.hid (Nat.lt_of_lt_of_le HGUL.out HI.out.2.size)
            have HLV : Hid (gv < wr.heap.size) := Lib.hid (Nat.lt_of_lt_of_le hgv HI.out.2.size)
            obtain ⟨s1, a1, n1, c1, s2, a2, n2, c2, s3, a3, n3, c3, s4, a4, n4, c4, s5, a5, n5, c5, s6, a6, n6, c6, rfl⟩ := kg1.shape
            obtain ⟨t1, b1, m1, e1, t2, b2, m2, e2, t3, b3, m3, e3, t4, b4, m4, e4, t5, b5, m5, e5, t6, b6, m6, e6, rfl⟩ := kg2.shape
            have HXU : Hid (∀ (j : Nat) x, ([.int .i64 s1, .slice a1 n1 c1, .int .i64 s2, .slice a2 n2 c2, .int .i64 s3, .slice a3 n3 c3, .int .i64 s4, .slice a4 n4 c4, .int .i64 s5, .slice a5 n5 c5, .int .i64 s6, .slice a6 n6 c6] : List Value)[j]? = some x → wr.cell? ⟨gu, i * 12 + j, none⟩ = some x) := Lib.hid (fun j x hx => (World.cell?_of_block (a := ⟨gu, _, none⟩) (HI.out.2.block gu HGUL.out)).trans (kx1 j x hx))
            have HXV : Hid (∀ (j : Nat) x, ([.int .i64 t1, .slice b1 m1 e1, .int .i64 t2, .slice b2 m2 e2, .int .i64 t3, .slice b3 m3 e3, .int .i64 t4, .slice b4 m4 e4, .int .i64 t5, .slice b5 m5 e5, .int .i64 t6, .slice b6 m6 e6] : List Value)[j]? = some x → wr.cell? ⟨gv, k * 12 + j, none⟩ = some x) := Lib.hid (fun j x hx => (World.cell?_of_block (a := ⟨gv, _, none⟩) (HI.out.2.block gv hgv)).trans (kx2 j x hx))
            have HGU : Hid (GC wr [.int .i64 s1, .slice a1 n1 c1, .int .i64 s2, .slice a2 n2 c2, .int .i64 s3, .slice a3 n3 c3, .int .i64 s4, .slice a4 n4 c4, .int .i64 s5, .slice a5 n5 c5, .int .i64 s6, .slice a6 n6 c6] p) := Lib.hid (gc_keep (kk_below HI.out.2) _ _ kg1)
            have HGV : Hid (GC wr [.int .i64 t1, .slice b1 m1 e1, .int .i64 t2, .slice b2 m2 e2, .int .i64 t3, .slice b3 m3 e3, .int .i64 t4, .slice b4 m4 e4, .int .i64 t5, .slice b5 m5 e5, .int .i64 t6, .slice b6 m6 e6] q) := Lib.hid (gc_keep (kk_below HI.out.2) _ _ kg2)
            obtain ⟨bb, hbb⟩ : ∃ bb, nearB (sgOf p) (sgOf q) (d : Rat) = bb := ⟨_, rfl⟩
            have HBB := Lib.hid hbb
            clear hq hgv hrv kx1 kx2 kg1 kg2 hbb
            go_wp2_with fail
            refine region_kk (by kernel_rfl) (by kernel_rfl) rfl (KK) (fun | 0 => .is (.slice (some ⟨gu, 0, none⟩) N1 cu) | 1 => .is (.int .i64 (i : Int)) | 2 => .is (.pointer (some ⟨gu, i * 12, none⟩)) | 3 => .is (.agg #[.int .i64 s1, .slice a1 n1 c1, .int .i64 s2, .slice a2 n2 c2, .int .i64 s3, .slice a3 n3 c3, .int .i64 s4, .slice a4 n4 c4, .int .i64 s5, .slice a5 n5 c5, .int .i64 s6, .slice a6 n6 c6]) | 4 => .is (.slice (some ⟨gv, 0, none⟩) N2 cv) | 5 => .is (.int .i64 (k : Int)) | 6 => .is (.pointer (some ⟨gv, k * 12, none⟩)) | 7 => .is (.agg #[.int .i64 t1, .slice b1 m1 e1, .int .i64 t2, .slice b2 m2 e2, .int .i64 t3, .slice b3 m3 e3, .int .i64 t4, .slice b4 m4 e4, .int .i64 t5, .slice b5 m5 e5, .int .i64 t6, .slice b6 m6 e6]) | 8 => .is (.int .i64 d) | 9 => .is (.bool bb) | 10 => .is (.bool (!bb)) | _ => .any) (MK wr.heap.size wr wr [] []) (fun f g a w hn h => MK.ext (n := 11) (by simp) hn h) ?_ ?_ ?_
            · exact ⟨(Below.refl _ _).drew, KK.refl _, Nat.le_refl _, (by intro q hq; cases hq), (fun t ht => by cases ht), (fun t u ht => by cases ht)⟩
            · intro i o f A W hi hJ hf hdep hdn hcl hfr hsz
              rcases i with _ | _ | _ | _ | _ | _ | _ | _ | _ | _ | _ | i
              all_goals (simp at hi)
              all_goals (try subst hi)
              · have t8 := hfr 8 (by simp)
                refine par_value (v := .slice (some ⟨gu, 0, none⟩) N1 cu) (w' := W) ?_ ⟨KK.refl _, hJ.same _ _ _ (by simp), rfl⟩
                simp [go_sem, Act.eval, t8]
              · have t14 := hfr 14 (by simp)
                refine par_value (v := .int .i64 (i : Int)) (w' := W) ?_ ⟨KK.refl _, hJ.same _ _ _ (by simp), rfl⟩
                simp [go_sem, Act.eval, t14]
              · have t56 : A.tmps.getD 56 undef = .slice (some ⟨gu, 0, none⟩) N1 cu := hdep 0 _ 56 rfl (by kernel_rfl) rfl
                have t57 : A.tmps.getD 57 undef = .int .i64 (i : Int) := hdep 1 _ 57 rfl (by kernel_rfl) rfl
                refine par_value (v := .pointer (some ⟨gu, i * 12, none⟩)) (w' := W) ?_ ⟨KK.refl _, hJ.same _ _ _ (by simp), rfl⟩
                simp [go_sem, Act.eval, t56, t57, eii, pii, bii]
              · have t58 : A.tmps.getD 58 undef = .pointer (some ⟨gu, i * 12, none⟩) := hdep 2 _ 58 rfl (by kernel_rfl) rfl
                have hb := (hJ.b.block gu HLU.out)
                have k0 : W.cell? ⟨gu, i * 12, none⟩ = some (.int .i64 s1) := (World.cell?_of_block (a := ⟨gu, _, none⟩) hb).trans (HXU.out 0 _ rfl)
                have k1 : W.cell? ⟨gu, i * 12 + 1, none⟩ = some (.slice a1 n1 c1) := (World.cell?_of_block (a := ⟨gu, _, none⟩) hb).trans (HXU.out 1 _ rfl)
                have k2 : W.cell? ⟨gu, i * 12 + 2, none⟩ = some (.int .i64 s2) := (World.cell?_of_block (a := ⟨gu, _, none⟩) hb).trans (HXU.out 2 _ rfl)
                have k3 : W.cell? ⟨gu, i * 12 + 3, none⟩ = some (.slice a2 n2 c2) := (World.cell?_of_block (a := ⟨gu, _, none⟩) hb).trans (HXU.out 3 _ rfl)
                have k4 : W.cell? ⟨gu, i * 12 + 4, none⟩ = some (.int .i64 s3) := (World.cell?_of_block (a := ⟨gu, _, none⟩) hb).trans (HXU.out 4 _ rfl)
                have k5 : W.cell? ⟨gu, i * 12 + 5, none⟩ = some (.slice a3 n3 c3) := (World.cell?_of_block (a := ⟨gu, _, none⟩) hb).trans (HXU.out 5 _ rfl)
                have k6 : W.cell? ⟨gu, i * 12 + 6, none⟩ = some (.int .i64 s4) := (World.cell?_of_block (a := ⟨gu, _, none⟩) hb).trans (HXU.out 6 _ rfl)
                have k7 : W.cell? ⟨gu, i * 12 + 7, none⟩ = some (.slice a4 n4 c4) := (World.cell?_of_block (a := ⟨gu, _, none⟩) hb).trans (HXU.out 7 _ rfl)
                have k8 : W.cell? ⟨gu, i * 12 + 8, none⟩ = some (.int .i64 s5) := (World.cell?_of_block (a := ⟨gu, _, none⟩) hb).trans (HXU.out 8 _ rfl)
                have k9 : W.cell? ⟨gu, i * 12 + 9, none⟩ = some (.slice a5 n5 c5) := (World.cell?_of_block (a := ⟨gu, _, none⟩) hb).trans (HXU.out 9 _ rfl)
                have k10 : W.cell? ⟨gu, i * 12 + 10, none⟩ = some (.int .i64 s6) := (World.cell?_of_block (a := ⟨gu, _, none⟩) hb).trans (HXU.out 10 _ rfl)
                have k11 : W.cell? ⟨gu, i * 12 + 11, none⟩ = some (.slice a6 n6 c6) := (World.cell?_of_block (a := ⟨gu, _, none⟩) hb).trans (HXU.out 11 _ rfl)
                refine par_value (v := .agg #[.int .i64 s1, .slice a1 n1 c1, .int .i64 s2, .slice a2 n2 c2, .int .i64 s3, .slice a3 n3 c3, .int .i64 s4, .slice a4 n4 c4, .int .i64 s5, .slice a5 n5 c5, .int .i64 s6, .slice a6 n6 c6]) (w' := W) ?_ ⟨KK.refl _, hJ.same _ _ _ (by simp), rfl⟩
                simp [go_sem, Act.eval, t58, k0, k1, k2, k3, k4, k5, k6, k7, k8, k9, k10, k11]
              · have t10 := hfr 10 (by simp)
                refine par_value (v := .slice (some ⟨gv, 0, none⟩) N2 cv) (w' := W) ?_ ⟨KK.refl _, hJ.same _ _ _ (by simp), rfl⟩
                simp [go_sem, Act.eval, t10]
              · have t15 := hfr 15 (by simp)
                refine par_value (v := .int .i64 (k : Int)) (w' := W) ?_ ⟨KK.refl _, hJ.same _ _ _ (by simp), rfl⟩
                simp [go_sem, Act.eval, t15]
              · have t60 : A.tmps.getD 60 undef = .slice (some ⟨gv, 0, none⟩) N2 cv := hdep 4 _ 60 rfl (by kernel_rfl) rfl
                have t61 : A.tmps.getD 61 undef = .int .i64 (k : Int) := hdep 5 _ 61 rfl (by kernel_rfl) rfl
                refine par_value (v := .pointer (some ⟨gv, k * 12, none⟩)) (w' := W) ?_ ⟨KK.refl _, hJ.same _ _ _ (by simp), rfl⟩
                simp [go_sem, Act.eval, t60, t61, ekk, pkk, bkk]
              · have t62 : A.tmps.getD 62 undef = .pointer (some ⟨gv, k * 12, none⟩) := hdep 6 _ 62 rfl (by kernel_rfl) rfl
                have hb := (hJ.b.block gv HLV.out)
                have k0 : W.cell? ⟨gv, k * 12, none⟩ = some (.int .i64 t1) := (World.cell?_of_block (a := ⟨gv, _, none⟩) hb).trans (HXV.out 0 _ rfl)
                have k1 : W.cell? ⟨gv, k * 12 + 1, none⟩ = some (.slice b1 m1 e1) := (World.cell?_of_block (a := ⟨gv, _, none⟩) hb).trans (HXV.out 1 _ rfl)
                have k2 : W.cell? ⟨gv, k * 12 + 2, none⟩ = some (.int .i64 t2) := (World.cell?_of_block (a := ⟨gv, _, none⟩) hb).trans (HXV.out 2 _ rfl)
                have k3 : W.cell? ⟨gv, k * 12 + 3, none⟩ = some (.slice b2 m2 e2) := (World.cell?_of_block (a := ⟨gv, _, none⟩) hb).trans (HXV.out 3 _ rfl)
                have k4 : W.cell? ⟨gv, k * 12 + 4, none⟩ = some (.int .i64 t3) := (World.cell?_of_block (a := ⟨gv, _, none⟩) hb).trans (HXV.out 4 _ rfl)
                have k5 : W.cell? ⟨gv, k * 12 + 5, none⟩ = some (.slice b3 m3 e3) := (World.cell?_of_block (a := ⟨gv, _, none⟩) hb).trans (HXV.out 5 _ rfl)
                have k6 : W.cell? ⟨gv, k * 12 + 6, none⟩ = some (.int .i64 t4) := (World.cell?_of_block (a := ⟨gv, _, none⟩) hb).trans (HXV.out 6 _ rfl)
                have k7 : W.cell? ⟨gv, k * 12 + 7, none⟩ = some (.slice b4 m4 e4) := (World.cell?_of_block (a := ⟨gv, _, none⟩) hb).trans (HXV.out 7 _ rfl)
                have k8 : W.cell? ⟨gv, k * 12 + 8, none⟩ = some (.int .i64 t5) := (World.cell?_of_block (a := ⟨gv, _, none⟩) hb).trans (HXV.out 8 _ rfl)
                have k9 : W.cell? ⟨gv, k * 12 + 9, none⟩ = some (.slice b5 m5 e5) := (World.cell?_of_block (a := ⟨gv, _, none⟩) hb).trans (HXV.out 9 _ rfl)
                have k10 : W.cell? ⟨gv, k * 12 + 10, none⟩ = some (.int .i64 t6) := (World.cell?_of_block (a := ⟨gv, _, none⟩) hb).trans (HXV.out 10 _ rfl)
                have k11 : W.cell? ⟨gv, k * 12 + 11, none⟩ = some (.slice b6 m6 e6) := (World.cell?_of_block (a := ⟨gv, _, none⟩) hb).trans (HXV.out 11 _ rfl)
                refine par_value (v := .agg #[.int .i64 t1, .slice b1 m1 e1, .int .i64 t2, .slice b2 m2 e2, .int .i64 t3, .slice b3 m3 e3, .int .i64 t4, .slice b4 m4 e4, .int .i64 t5, .slice b5 m5 e5, .int .i64 t6, .slice b6 m6 e6]) (w' := W) ?_ ⟨KK.refl _, hJ.same _ _ _ (by simp), rfl⟩
                simp [go_sem, Act.eval, t62, k0, k1, k2, k3, k4, k5, k6, k7, k8, k9, k10, k11]
              · have t2 := hfr 2 (by simp)
                refine par_value (v := .int .i64 d) (w' := W) ?_ ⟨KK.refl _, hJ.same _ _ _ (by simp), rfl⟩
                simp [go_sem, Act.eval, t2]
              · have t59 : A.tmps.getD 59 undef = .agg #[.int .i64 s1, .slice a1 n1 c1, .int .i64 s2, .slice a2 n2 c2, .int .i64 s3, .slice a3 n3 c3, .int .i64 s4, .slice a4 n4 c4, .int .i64 s5, .slice a5 n5 c5, .int .i64 s6, .slice a6 n6 c6] := hdep 3 _ 59 rfl (by kernel_rfl) rfl
                have t63 : A.tmps.getD 63 undef = .agg #[.int .i64 t1, .slice b1 m1 e1, .int .i64 t2, .slice b2 m2 e2, .int .i64 t3, .slice b3 m3 e3, .int .i64 t4, .slice b4 m4 e4, .int .i64 t5, .slice b5 m5 e5, .int .i64 t6, .slice b6 m6 e6] := hdep 7 _ 63 rfl (by kernel_rfl) rfl
                have t64 : A.tmps.getD 64 undef = .int .i64 d := hdep 8 _ 64 rfl (by kernel_rfl) rfl
                refine par_call (w' := W) (f := 11) (xs := #[Value.agg #[.int .i64 s1, .slice a1 n1 c1, .int .i64 s2, .slice a2 n2 c2, .int .i64 s3, .slice a3 n3 c3, .int .i64 s4, .slice a4 n4 c4, .int .i64 s5, .slice a5 n5 c5, .int .i64 s6, .slice a6 n6 c6], Value.agg #[.int .i64 t1, .slice b1 m1 e1, .int .i64 t2, .slice b2 m2 e2, .int .i64 t3, .slice b3 m3 e3, .int .i64 t4, .slice b4 m4 e4, .int .i64 t5, .slice b5 m5 e5, .int .i64 t6, .slice b6 m6 e6], Value.int IntKind.i64 d]) (by simp [go_sem, Act.eval, t59, t63, t64]) ?_
                refine (cand_any p q d _ _ _ (gc_keep (kk_below hJ.b) _ _ HGU.out) (gc_keep (kk_below hJ.b) _ _ HGV.out) HP.out HQ.out HD.out).mono ?_
                rintro e w1 ⟨rfl, hg1⟩
                exact ⟨_, rfl, kk_below hg1, hJ.gr hg1 _ _ _ (by simp), (congrArg Value.bool HBB.out)⟩
              · have t65 : A.tmps.getD 65 undef = .bool bb := hdep 9 _ 65 rfl (by kernel_rfl) rfl
                refine par_value (v := .bool (!bb)) (w' := W) ?_ ⟨KK.refl _, hJ.same _ _ _ (by simp), rfl⟩
                simp [go_sem, Act.eval, t65]
            · intro vs W hJ hs
              have HJ9 : Hid (Below w.heap.size w W ∧ Below w4.heap.size w4 W) := Lib.hid ⟨HI.out.1.trans (hJ.b.mono HI.out.1.size), HI.out.2.trans (hJ.b.mono HI.out.2.size)⟩
              have e66 : vs 66 = .bool (!bb) := hs 10 _ _ rfl rfl
              clear hJ hs
              simp only [putAll, List.foldl_cons, List.foldl_nil, Act.put, List.setIfInBounds_toArray, List.set_cons_succ, List.set_cons_zero]
              rw [e66]
              generalize hW9 : W = w9 at *
              clear hW9 HI HXU HXV HGU HGV
              cases bb with
              | false =>
                have HN2 : Hid (n = (doneP A B i (k + 1)).length) := by
                  refine Lib.hid ?_
                  rw [done_step HAI.out HBK.out, if_neg (by rw [near_box, HBB.out]; simp), List.append_nil]
                  exact HN.out
                clear HBB HN
                go_wp2_with fail
                go_roundg (N2 - (k + 1))
                case measure => omega
                case rel => exact ⟨k + 1, n, rfl, by go_num, by omega, by omega, HN2, HJ9⟩
              | true =>
                have hat := done_at HAI.out HBK.out (show meets _ _ = true by rw [near_box]; exact HBB.out)
                rw [← HN.out] at hat
                have HN2 : Hid (n + 1 = (doneP A B i (k + 1)).length) := by
                  refine Lib.hid ?_
                  rw [done_step HAI.out HBK.out, if_pos (by rw [near_box, HBB.out]), List.length_append, ← HN.out]
                  rfl
                obtain ⟨gx, rfl, hlx, x0, x1⟩ := HX.out n (i, k) hat
                have hgl : gx < w4.heap.size := World.block_lt_of_cell? _ _ x0
                have y0 : w9.cell? ⟨gx, n * 2, none⟩ = some (.int .i64 (i : Int)) := (World.cell?_of_block (a := ⟨gx, _, none⟩) (HJ9.out.2.block gx hgl)).trans x0
                have y1 : w9.cell? ⟨gx, n * 2 + 1, none⟩ = some (.int .i64 (k : Int)) := (World.cell?_of_block (a := ⟨gx, _, none⟩) (HJ9.out.2.block gx hgl)).trans x1
                have hnx : n < NX := by have := (List.getElem?_eq_some_iff.1 hat).1; have := HNX.out; omega
                have hnx2 : (n : Int) < (NX : Int) := by omega
                have hnx3 : ¬ (NX : Int) ≤ (n : Int) := by omega
                have enn : ((n : Int)).toNat = n := by omega
                have pnn : (0 : Int) ≤ (n : Int) := by omega
                have hn196 : n ≤ 196 := by have := HLX.out; have := HNX.out; omega
                clear hat x0 x1 HBB HN
                go_wp2_with fail
                go_roundg (N2 - (k + 1))
                case measure => omega
                case rel => exact ⟨k + 1, n + 1, by go_num, by go_num, by omega, by omega, HN2, HJ9⟩
          · have hkz : ¬ (k : Int) < (N2 : Int) := by omega
            have hk2 : k = N2 := by omega
            have HN2' : Hid (n = (doneP A B (i + 1) 0).length) := by
              refine Lib.hid ?_
              rw [← done_row, HLB.out, ← hk2]
              exact HN.out
            clear HN hk2
            go_wp2_with fail
            go_roundg (gO - 1)
            case measure => omega
            case rel => exact ⟨i + 1, n, rfl, by go_num, by omega, by omega, HN2', HI⟩
      · have hlz : ¬ (i : Int) < (N1 : Int) := by omega
        have hi1 : i = N1 := by omega
        have hnx : n0 = NX := by
          rw [HN0.out, hi1, ← HLA.out, done_end]
          exact HNX.out.symm
        subst hnx
        clear hi1 HN0
        go_wp2_with fail
        go_ret
        exact ⟨rfl, HI0.out.1⟩
end Go.Proofs.Ytnojfiokdhcbjaa
