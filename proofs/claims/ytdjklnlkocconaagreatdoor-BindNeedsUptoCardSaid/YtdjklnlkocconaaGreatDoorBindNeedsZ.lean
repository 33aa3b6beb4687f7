/-
  BindNeeds: the call returns true, whatever the statements and the place.
-/
import Derived.Test.YtdjklnlkocconaaGreatDoorGroundZ
import Derived.Test.YtdjklnlkocconaaGreatDoorBnVZ
namespace Go.Proofs.YtdjklnlkocconaaGreatDoor
section
open Go Go.RowKit

def BnAt (w : World) (l : List St) (v : Value) (n k : Nat) (u : Value) (wr : World) : Prop := ∃ i : Nat, u = .int .i64 i ∧ i ≤ n ∧ n < k + i ∧ Below w.heap.size w wr ∧ Good wr ∧ StsIs wr v l

set_option maxHeartbeats 4000000 in
set_option maxRecDepth 100000 in
theorem bindNeeds_any (l : List St) (v : Value) (at0 : Int) (w : World) (hok : BindOk l v) (h : StsIs w v l) (hg : Good w) :
    Calls Tryz.prog 4 #[v, .int .i64 at0] w fun e w' => e = .returned (.bool true) ∧ Below w.heap.size w w' := by
  have HOK := Lib.hid hok
  have H0 := Lib.hid h
  have G0 := Lib.hid hg
  obtain ⟨hn, a, c, rfl, _⟩ := h
  clear hok hg hn
  go_enter Tryz.func4, Tryz.ntmps4
  go_wp2_with fail
  refine (few24_any l _ w H0.out).mono ?_
  rintro e w1 ⟨⟨b, rfl⟩, hg1⟩
  have B1 : Hid (Below w.heap.size w w1) := below_still hg1
  have G1 := Lib.hid (G0.out.at B1.out)
  have H1 := Lib.hid (H0.out.still hg1)
  clear hg1 G0 H0
  cases b with
  | false =>
    go_wp2_with fail
    refine (known24_any _ G1.out).mono ?_
    rintro e w2 ⟨rfl, hb2⟩
    have B2 : Hid (Below w.heap.size w w2) := B1.out.trans (hb2.mono B1.out.size)
    clear hb2 B1 G1
    go_wp2
    go_ret
    exact ⟨rfl, B2.out⟩
  | true =>
    have HN1 := Lib.hid (HOK.out.needs at0 H1.out G1.out)
    have HN2 := Lib.hid (fun w (h : StsIs w (.slice a l.length c) l) => HOK.out.rneeds at0 h)
    have hnl := needsV_len l at0
    have hol := HOK.out.len
    obtain ⟨NV, hNV⟩ : ∃ q, needsV l at0 = q := ⟨_, rfl⟩
    rw [hNV] at HN1 HN2 hnl
    have hnl2 : NV.length ≤ 1048576 := by omega
    clear hNV hnl hol
    go_wp2_with fail
    refine HN1.out.mono ?_
    rintro e w2 ⟨v1, rfl, hr1, hb2⟩
    have B2 : Hid (Below w.heap.size w w2) := B1.out.trans (hb2.mono B1.out.size)
    have G2 := Lib.hid (G1.out.at hb2)
    have H2 := Lib.hid (sts_below H1.out hb2)
    have R1 := Lib.hid hr1
    clear hb2 hr1 B1 G1 H1 HN1
    go_wp2_with fail
    refine (HN2.out _ H2.out).mono ?_
    rintro e w3 ⟨v2, rfl, hr2, hb3⟩
    have B3 : Hid (Below w.heap.size w w3) := B2.out.trans (hb3.mono B2.out.size)
    have G3 := Lib.hid (G2.out.at hb3)
    have H3 := Lib.hid (sts_below H2.out hb3)
    have R2 := Lib.hid (owns_below R1.out hb3)
    have R3 := Lib.hid hr2
    clear hb3 hr2 B2 G2 H2 R1 HN2
    go_wp2_with fail
    refine (same_any NV v1 v2 _ _ w3 R2.out R3.out (by omega)).mono ?_
    rintro e w4 ⟨rfl, hg4⟩
    have B4 : Hid (Below w.heap.size w w4) := B3.out.trans ((below_still hg4).mono B3.out.size)
    have G4 := Lib.hid (G3.out.at (below_still hg4))
    have H4 := Lib.hid (H3.out.still hg4)
    clear hg4 B3 G3 H3 R2 R3 hnl2
    obtain ⟨n, hn⟩ : ∃ q, l.length = q := ⟨_, rfl⟩
    rw [hn] at H4 ⊢
    have HN := Lib.hid hn
    have hnn : n ≤ 1048576 := by have := HOK.out.len; omega
    clear hn NV
    go_wp2_with fail
    go_loopg [5] (n + 1) (fun k u wr => Hid (BnAt w l (.slice a n c) n k u wr))
    case atStart => exact ⟨0, rfl, Nat.zero_le _, by omega, B4.out, G4.out, H4.out⟩
    case round =>
      obtain ⟨i, rfl, hi, hk, hb, hgd, hst⟩ := hrel.out
      have B1 := Lib.hid hb
      have G1 := Lib.hid hgd
      have H1 := Lib.hid hst
      clear hrel hb hgd hst B4 G4 H4
      by_cases hlt : i < n
      · have hd2 : decide (i < n) = true := by simp; omega
        have hd3 : decide ((i : Int) < (n : Int)) = true := by simp; omega
        have HN1 := Lib.hid ((show BindOk l (.slice a n c) from HN.out ▸ HOK.out).needs (i : Int) H1.out G1.out)
        have HN2 := Lib.hid (fun w (h : StsIs w (.slice a n c) l) => (show BindOk l (.slice a n c) from HN.out ▸ HOK.out).rneeds (i : Int) h)
        have hnl := needsV_len l (i : Int)
        have hol := HOK.out.len
        obtain ⟨NV, hNV⟩ : ∃ q, needsV l (i : Int) = q := ⟨_, rfl⟩
        rw [hNV] at HN1 HN2 hnl
        have hnl2 : NV.length ≤ 1048576 := by omega
        clear hNV hnl hol
        go_wp2_with fail
        refine HN1.out.mono ?_
        rintro e w2 ⟨v1, rfl, hr1, hb2⟩
        have B2 : Hid (Below w.heap.size w w2) := B1.out.trans (hb2.mono B1.out.size)
        have G2 := Lib.hid (G1.out.at hb2)
        have H2 := Lib.hid (sts_below H1.out hb2)
        have R1 := Lib.hid hr1
        clear hb2 hr1 B1 G1 H1 HN1
        go_wp2_with fail
        refine (HN2.out _ H2.out).mono ?_
        rintro e w3 ⟨v2, rfl, hr2, hb3⟩
        have B3 : Hid (Below w.heap.size w w3) := B2.out.trans (hb3.mono B2.out.size)
        have G3 := Lib.hid (G2.out.at hb3)
        have H3 := Lib.hid (sts_below H2.out hb3)
        have R2 := Lib.hid (owns_below R1.out hb3)
        have R3 := Lib.hid hr2
        clear hb3 hr2 B2 G2 H2 R1 HN2
        go_wp2_with fail
        refine (same_any NV v1 v2 _ _ w3 R2.out R3.out (by omega)).mono ?_
        rintro e w4 ⟨rfl, hg4⟩
        have B4 : Hid (Below w.heap.size w w4) := B3.out.trans ((below_still hg4).mono B3.out.size)
        have G4 := Lib.hid (G3.out.at (below_still hg4))
        have H4 := Lib.hid (H3.out.still hg4)
        clear hg4 B3 G3 H3 R2 R3 hnl2
        clear hd2 hd3
        go_wp2
        go_roundg (gk - 1)
        case measure => omega
        case rel => exact ⟨i + 1, by go_num, by omega, by omega, B4.out, G4.out, H4.out⟩
      · have hin : i = n := by omega
        subst hin
        have hd2 : decide (i < i) = false := by simp
        have hd3 : decide ((i : Int) < (i : Int)) = false := by simp
        go_wp2_with fail
        refine (known24_any _ G1.out).mono ?_
        rintro e w5 ⟨rfl, hb5⟩
        have B5 : Hid (Below w.heap.size w w5) := B1.out.trans (hb5.mono B1.out.size)
        clear hb5 B1 G1 H1
        go_wp2
        go_ret
        exact ⟨rfl, B5.out⟩
end

section
open Go Go.ChangeShapes Go.WideShapes Go.ChangeAt Go.WideMaps Go.WideElems Go.RowKit

theorem bindNeeds_spec {H : Type} {enc : TypeId × Value → H} {W : World} {vs : List Value} {ds : List (DataW H)} {p : List MemPlace} {sp : Nat → Bool}
    (hA : DataW.TrodAll enc Tryz.prog W 0 sp true Tryz.f4.params.toList vs ds p) : Rows.bindNeedsSpec.fn H (ds ++ []) = { results := [.lit (.bool true)], args := ds } := by
  rw [Tryz.params4] at hA
  obtain ⟨v, vs', d, ds', p, q, rfl, rfl, rfl, h1, h2⟩ := trodAll_cons hA
  obtain ⟨v, vs', d, ds', p, q, rfl, rfl, rfl, h3, h4⟩ := trodAll_cons h2
  obtain ⟨rfl, rfl, rfl⟩ := trodAll_nil h4
  rfl

set_option maxRecDepth 100000 in
theorem bindNeeds_calls {H : Type} {enc : TypeId × Value → H} (W : World) (base : Nat) (args : Array Value) (ds : List (DataW H)) (p : List MemPlace) (hg : Good W)
    (hval : ∀ (j : Nat) t v, Tryz.f4.params[j]? = some t → args[j]? = some v → Value.okWide Tryz.prog W .any base t v)
    (hA : DataW.TrodAll enc Tryz.prog W 0 (fun _ => true) true Tryz.f4.params.toList args.toList ds p) (hk : Rows.uptoBulkAll ds ≤ 1048576) :
    Calls Tryz.prog 4 args W fun e w' => e = .returned (.bool true) ∧ Below W.heap.size W w' := by
  rw [Tryz.params4] at hA hval
  obtain ⟨v0, v1, d0, d1, p0, p1, rfl, rfl, rfl, h0, h1⟩ := trodAll_two hA
  obtain ⟨n, rfl, _, _, _⟩ := ChangeShapes.open_int Tryz.underlying3 (hval 1 3 v1 rfl rfl) h1
  have hk0 : Rows.uptoBulk d0 ≤ 1048576 := Nat.le_trans (bulk_mem (by simp)) hk
  obtain ⟨l, hl, hok⟩ := open_bind (hval 0 22 v0 rfl rfl) h0 hk0
  exact bindNeeds_any l v0 n W hok hl hg
end
end Go.Proofs.YtdjklnlkocconaaGreatDoor
