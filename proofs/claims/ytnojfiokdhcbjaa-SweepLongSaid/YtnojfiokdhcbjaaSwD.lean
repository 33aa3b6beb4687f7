/-
  SweepLong: the walk. (Printed by gen_swd.py.)
-/
import Derived.Test.YtnojfiokdhcbjaaSwP
namespace Go.Proofs.Ytnojfiokdhcbjaa
open Go Go.RowKit

/-- law 20's grid, its cells unread. -/
theorem lawGrid_v (a b c d : Int) (w : World) (ha : I64 a) (hb : I64 b) (hc : I64 c) (hd : I64 d) :
    Calls Try.prog 7 #[.int .i64 a, .int .i64 b, .int .i64 c, .int .i64 d] w fun e w' => ∃ v : SV, e = .returned (.agg v.cells.toArray) ∧ v.ok w' ⟨a, b, c, d⟩ ∧ Below w.heap.size w w' :=
  lawGrid_any a b c d w ha hb hc hd
theorem segInfo : (Try.prog.info? 34).map (fun i => (i.zero, i.size, i.bytes)) = some (some (.agg #[.slice none 0 0, .bool false, .slice none 0 0, .bool false, .slice none 0 0, .bool false, .slice none 0 0, .bool false, .slice none 0 0, .bool false, .slice none 0 0, .bool false, .slice none 0 0, .bool false, .slice none 0 0, .bool false]), 16, 256) := by kernel_rfl

set_option maxHeartbeats 8000000 in
set_option maxRecDepth 100000 in
theorem sweepLong_any (n d : Int) (second : Bool) (w : World) (hd : I64 d) :
    Calls Try.prog 3 #[.int .i64 n, .int .i64 d, .bool second] w fun e w' => e = .returned (.bool true) ∧ Below w.heap.size w w' := by
  have HD := Lib.hid hd
  obtain ⟨m, hm0, hm1, hm⟩ := sweep_n n
  obtain ⟨is, his, hi0, hi1, hi2⟩ := info_parts segInfo
  clear hd
  go_enter Try.func3, Try.ntmps3
  go_wp2_with (rw [hm]; refine wpList_make_full w rfl (.tmp 16) (.tmp 16) 23 rfl w.heap.size 34 is _ 16 rfl his hi0 hi1 .i64 .i64 (m : Int) (m : Int) m rfl rfl rfl rfl (by rw [hi2]; omega) (by unfold maxLen; omega) (Nat.le_refl _) ?_; intro w1 ho1 hg1; have HO1 := Lib.hid ho1; have HG1 := Lib.hid hg1; clear ho1 hg1)
  have HL0 : Hid (LRow w w.heap.size m 0 w1) := by
    refine ⟨(Below.refl _ _).grown HG1.out (Nat.le_refl _) (by simp), Nat.le_refl _, ?_, fun j hj => absurd hj (Nat.not_lt_zero _)⟩
    obtain ⟨_, ⟨h, _⟩ | ⟨g, cap, cur, e, _, h1, h2, _, h3, _⟩⟩ := HO1.out
    · cases h
    · injection e with e e2 e3
      injection e with e
      injection e with e
      subst e
      subst e3
      exact ⟨cur, h1, h3⟩
  clear HO1 HG1
  go_loopg [8] m (fun kx s8 wr => ∃ i : Nat, s8 = .int .i64 i ∧ i ≤ m ∧ m ≤ kx + i ∧ Hid (LRow w w.heap.size m i wr))
  case atStart => exact ⟨0, rfl, Nat.zero_le _, by omega, HL0⟩
  case round =>
    clear HL0
    obtain ⟨i, rfl, him, hkx, HL⟩ := hrel
    by_cases hlt : i < m
    · have hlz : (i : Int) < (m : Int) := by omega
      have ia0 : (0 : Int) ≤ (i : Int) := by omega
      have iat : ((i : Int)).toNat = i := by omega
      have him2 : i ≤ 20004 := by omega
      go_wp2_with fail
      refine (lawGrid_v _ 0 _ 0 wr ⟨by omega, by omega⟩ ⟨by decide, by decide⟩ ⟨by omega, by omega⟩ ⟨by decide, by decide⟩).mono ?_
      rintro e w2 ⟨v, rfl, hv, hg⟩
      have HL2 := Lib.hid (HL.out.gr hg)
      have HV := Lib.hid hv
      have hst := HL2.out.st hlt v
      have nx : v.cells.length = 16 := rfl
      have hlt2 : w.heap.size < w2.heap.size := by
        obtain ⟨cs, h1, _⟩ := HL2.out.c
        exact (Array.getElem?_eq_some_iff.1 h1).1
      have HL3 : Hid (LRow w w.heap.size m (i + 1) (w2.setCells w.heap.size (i * 16) v.cells)) := HL2.out.put hlt HV.out
      clear hv hg HL HL2 HV
      go_wp2_with fail
      go_roundg (m - (i + 1))
      case measure => omega
      case rel => exact ⟨i + 1, by go_num, by omega, by omega, HL3⟩
    · have hlz : ¬ (i : Int) < (m : Int) := by omega
      have hie : i = m := by omega
      subst hie
      have HR1 : Hid (SegRow wr w.heap.size (lL i)) := HL.out.row (Nat.le_refl _)
      have HR2 : Hid (SegRow wr w.heap.size (lL 2)) := HL.out.row (by omega)
      have HSA : Hid (SegSlice wr (.slice (some ⟨w.heap.size, 0, none⟩) i i) (lL i)) := ⟨_, i, by rw [lL_len], .inr ⟨_, rfl, HR1.out⟩⟩
      have HSB : Hid (SegSlice wr (.slice (some ⟨w.heap.size, 0, none⟩) (2 : Nat) i) (lL 2)) := ⟨_, i, by rw [lL_len], .inr ⟨_, rfl, HR2.out⟩⟩
      have HB0 : Hid (Below w.heap.size w wr) := HL.out.b
      have hi2 : 2 ≤ i := by omega
      clear HL HR1 HR2
      cases second with
      | true =>
        by_cases hneg : d < 0
        · go_wp2_with fail
          refine (pairsNeg_any (some ⟨w.heap.size, 0, none⟩) (some ⟨w.heap.size, 0, none⟩) (2 : Nat) i i i d wr hneg).mono ?_
          rintro e w3 ⟨rfl, hb3⟩
          have HB3 : Hid (Below w.heap.size w w3) := HB0.out.trans (hb3.mono HB0.out.size)
          clear hb3 HB0 HSA HSB
          go_wp2_with fail
          refine (known20_any _).mono ?_
          rintro e w4 ⟨rfl, hk4⟩
          have HB4 : Hid (Below w.heap.size w w4) := HB3.out.trans (hk4.mono HB3.out.size)
          clear hk4
          go_wp2_with fail
          go_ret
          exact ⟨rfl, HB4.out⟩
        · by_cases hbig : 20000 < i
          · have hbigz : (20000 : Int) < (i : Int) := by omega
            go_wp2_with fail
            refine (pairsLong_any (some ⟨w.heap.size, 0, none⟩) (some ⟨w.heap.size, 0, none⟩) (2 : Nat) i i i d wr (by omega) (by omega) (by omega) (by omega)).mono ?_
            rintro e w3 ⟨rfl, hb3⟩
            have HB3 : Hid (Below w.heap.size w w3) := HB0.out.trans (hb3.mono HB0.out.size)
            clear hb3 HB0 HSA HSB
            go_wp2_with fail
            refine (known20_any _).mono ?_
            rintro e w4 ⟨rfl, hk4⟩
            have HB4 : Hid (Below w.heap.size w w4) := HB3.out.trans (hk4.mono HB3.out.size)
            clear hk4
            go_wp2_with fail
            go_ret
            exact ⟨rfl, HB4.out⟩
          · have hbigz : ¬ (20000 : Int) < (i : Int) := by omega
            go_wp2_with fail
            refine (pairsAll_any (lL 2) (lL i) _ _ d wr HSB.out HSA.out (by rw [lL_len]; omega) (by rw [lL_len]; omega) (by omega) HD.out.2 (lL_l (by omega)) (lL_l (by omega))).mono ?_
            rintro e w3 ⟨r3, rfl, hp3, hb3⟩
            have htwo := pairs_two (dl := (d : Rat)) (Rat.intCast_nonneg.2 (by omega)) (lL_get (m := (2 : Nat)) (i := 0) (by omega)) (lL_get (m := (2 : Nat)) (i := 1) (by omega)) (lL_get (m := i) (i := 0) (by omega)) (lL_get (m := i) (i := 1) (by omega))
            obtain ⟨o3, c3, rfl, -⟩ := hp3.shape
            generalize (pairsS (boxesL (lL 2) (d : Rat) false) (boxesL (lL i) 0 true)).length = q at *
            have hq : (2 : Int) ≤ (q : Int) := by omega
            have HB3 : Hid (Below w.heap.size w w3) := HB0.out.trans (hb3.mono HB0.out.size)
            clear hb3 HB0 HSA HSB hp3 htwo
            go_wp2_with fail
            refine (known20_any _).mono ?_
            rintro e w4 ⟨rfl, hk4⟩
            have HB4 : Hid (Below w.heap.size w w4) := HB3.out.trans (hk4.mono HB3.out.size)
            clear hk4
            go_wp2_with fail
            go_ret
            exact ⟨rfl, HB4.out⟩
      | false =>
        by_cases hneg : d < 0
        · go_wp2_with fail
          refine (pairsNeg_any (some ⟨w.heap.size, 0, none⟩) (some ⟨w.heap.size, 0, none⟩) i (2 : Nat) i i d wr hneg).mono ?_
          rintro e w3 ⟨rfl, hb3⟩
          have HB3 : Hid (Below w.heap.size w w3) := HB0.out.trans (hb3.mono HB0.out.size)
          clear hb3 HB0 HSA HSB
          go_wp2_with fail
          refine (known20_any _).mono ?_
          rintro e w4 ⟨rfl, hk4⟩
          have HB4 : Hid (Below w.heap.size w w4) := HB3.out.trans (hk4.mono HB3.out.size)
          clear hk4
          go_wp2_with fail
          go_ret
          exact ⟨rfl, HB4.out⟩
        · by_cases hbig : 20000 < i
          · have hbigz : (20000 : Int) < (i : Int) := by omega
            go_wp2_with fail
            refine (pairsLong_any (some ⟨w.heap.size, 0, none⟩) (some ⟨w.heap.size, 0, none⟩) i (2 : Nat) i i d wr (by omega) (by omega) (by omega) (by omega)).mono ?_
            rintro e w3 ⟨rfl, hb3⟩
            have HB3 : Hid (Below w.heap.size w w3) := HB0.out.trans (hb3.mono HB0.out.size)
            clear hb3 HB0 HSA HSB
            go_wp2_with fail
            refine (known20_any _).mono ?_
            rintro e w4 ⟨rfl, hk4⟩
            have HB4 : Hid (Below w.heap.size w w4) := HB3.out.trans (hk4.mono HB3.out.size)
            clear hk4
            go_wp2_with fail
            go_ret
            exact ⟨rfl, HB4.out⟩
          · have hbigz : ¬ (20000 : Int) < (i : Int) := by omega
            go_wp2_with fail
            refine (pairsAll_any (lL i) (lL 2) _ _ d wr HSA.out HSB.out (by rw [lL_len]; omega) (by rw [lL_len]; omega) (by omega) HD.out.2 (lL_l (by omega)) (lL_l (by omega))).mono ?_
            rintro e w3 ⟨r3, rfl, hp3, hb3⟩
            have htwo := pairs_two (dl := (d : Rat)) (Rat.intCast_nonneg.2 (by omega)) (lL_get (m := i) (i := 0) (by omega)) (lL_get (m := i) (i := 1) (by omega)) (lL_get (m := (2 : Nat)) (i := 0) (by omega)) (lL_get (m := (2 : Nat)) (i := 1) (by omega))
            obtain ⟨o3, c3, rfl, -⟩ := hp3.shape
            generalize (pairsS (boxesL (lL i) (d : Rat) false) (boxesL (lL 2) 0 true)).length = q at *
            have hq : (2 : Int) ≤ (q : Int) := by omega
            have HB3 : Hid (Below w.heap.size w w3) := HB0.out.trans (hb3.mono HB0.out.size)
            clear hb3 HB0 HSA HSB hp3 htwo
            go_wp2_with fail
            refine (known20_any _).mono ?_
            rintro e w4 ⟨rfl, hk4⟩
            have HB4 : Hid (Below w.heap.size w w4) := HB3.out.trans (hk4.mono HB3.out.size)
            clear hk4
            go_wp2_with fail
            go_ret
            exact ⟨rfl, HB4.out⟩
end Go.Proofs.Ytnojfiokdhcbjaa
