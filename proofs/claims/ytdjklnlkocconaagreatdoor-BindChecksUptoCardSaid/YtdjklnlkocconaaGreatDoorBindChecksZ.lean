/-
  BindChecks: the call returns true, whatever the statements.
-/
import Derived.Test.YtdjklnlkocconaaGreatDoorGroundZ
import Derived.Test.YtdjklnlkocconaaGreatDoorBnVZ
namespace Go.Proofs.YtdjklnlkocconaaGreatDoor
section
open Go Go.RowKit

set_option maxHeartbeats 4000000 in
set_option maxRecDepth 100000 in
theorem bindChecks_any (l : List St) (v : Value) (w : World) (hok : BindOk l v) (h : StsIs w v l) (hg : Good w) :
    Calls Tryz.prog 3 #[v] w fun e w' => e = .returned (.bool true) ∧ Below w.heap.size w w' := by
  have HOK := Lib.hid hok
  have H0 := Lib.hid h
  have G0 := Lib.hid hg
  obtain ⟨hn, a, c, rfl, _⟩ := h
  clear hok hg hn
  go_enter Tryz.func3, Tryz.ntmps3
  go_wp2_with fail
  refine (few24_any l _ w H0.out).mono ?_
  rintro e w1 ⟨⟨b, rfl⟩, hg1⟩
  have B1 : Hid (Below w.heap.size w w1) := below_still hg1
  have G1 := Lib.hid (G0.out.at B1.out)
  have H1 := Lib.hid (H0.out.still hg1)
  clear hg1 G0 H0
  cases b with
  | false =>
    go_wp2_with fail
    refine (known24_any _ G1.out).mono ?_
    rintro e w2 ⟨rfl, hb2⟩
    have B2 : Hid (Below w.heap.size w w2) := B1.out.trans (hb2.mono B1.out.size)
    clear hb2 B1 G1
    go_wp2
    go_ret
    exact ⟨rfl, B2.out⟩
  | true =>
    have HC1 := Lib.hid (HOK.out.check H1.out G1.out)
    have HC2 := Lib.hid (fun w (h : StsIs w (.slice a l.length c) l) => HOK.out.rcheck h)
    obtain ⟨E1, hE1⟩ : ∃ q, (checkS l).1 = q := ⟨_, rfl⟩
    obtain ⟨E2, hE2⟩ : ∃ q, (checkS l).2 = q := ⟨_, rfl⟩
    rw [hE1, hE2] at HC1 HC2
    clear hE1 hE2
    go_wp2_with fail
    refine HC1.out.mono ?_
    rintro e w2 ⟨rfl, hb2⟩
    have B2 : Hid (Below w.heap.size w w2) := B1.out.trans (hb2.mono B1.out.size)
    have G2 := Lib.hid (G1.out.at hb2)
    have H2 := Lib.hid (sts_below H1.out hb2)
    clear hb2 B1 G1 H1 HC1
    go_wp2_with fail
    refine (HC2.out _ H2.out).mono ?_
    rintro e w3 ⟨rfl, hb3⟩
    have B3 : Hid (Below w.heap.size w w3) := B2.out.trans (hb3.mono B2.out.size)
    have G3 := Lib.hid (G2.out.at hb3)
    clear hb3 B2 G2 H2 HC2
    have he1 : (E1 == E1) = true := by simp
    have he2 : (E2 == E2) = true := by simp
    go_wp2_with fail
    refine (known24_any _ G3.out).mono ?_
    rintro e w4 ⟨rfl, hb4⟩
    have B4 : Hid (Below w.heap.size w w4) := B3.out.trans (hb4.mono B3.out.size)
    clear hb4 B3 G3
    go_wp2
    go_ret
    exact ⟨rfl, B4.out⟩
end

section
open Go Go.ChangeShapes Go.WideShapes Go.ChangeAt Go.WideMaps Go.WideElems Go.RowKit

theorem bindChecks_spec {H : Type} {enc : TypeId × Value → H} {W : World} {vs : List Value} {ds : List (DataW H)} {p : List MemPlace} {sp : Nat → Bool}
    (hA : DataW.TrodAll enc Tryz.prog W 0 sp true Tryz.f3.params.toList vs ds p) : Rows.bindChecksSpec.fn H (ds ++ []) = { results := [.lit (.bool true)], args := ds } := by
  rw [Tryz.params3] at hA
  obtain ⟨v, vs', d, ds', p, q, rfl, rfl, rfl, h1, h2⟩ := trodAll_cons hA
  obtain ⟨rfl, rfl, rfl⟩ := trodAll_nil h2
  rfl

set_option maxRecDepth 100000 in
theorem bindChecks_calls {H : Type} {enc : TypeId × Value → H} (W : World) (base : Nat) (args : Array Value) (ds : List (DataW H)) (p : List MemPlace) (hg : Good W)
    (hval : ∀ (j : Nat) t v, Tryz.f3.params[j]? = some t → args[j]? = some v → Value.okWide Tryz.prog W .any base t v)
    (hA : DataW.TrodAll enc Tryz.prog W 0 (fun _ => true) true Tryz.f3.params.toList args.toList ds p) (hk : Rows.uptoBulkAll ds ≤ 1048576) :
    Calls Tryz.prog 3 args W fun e w' => e = .returned (.bool true) ∧ Below W.heap.size W w' := by
  rw [Tryz.params3] at hA hval
  obtain ⟨v0, d0, rfl, rfl, h0⟩ := trodAll_one hA
  have hk0 : Rows.uptoBulk d0 ≤ 1048576 := Nat.le_trans (bulk_mem (by simp)) hk
  obtain ⟨l, hl, hok⟩ := open_bind (hval 0 22 v0 rfl rfl) h0 hk0
  exact bindChecks_any l v0 W hok hl hg
end
end Go.Proofs.YtdjklnlkocconaaGreatDoor
