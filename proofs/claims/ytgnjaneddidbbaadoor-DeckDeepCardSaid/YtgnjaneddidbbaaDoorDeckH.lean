/-
  The parser's must, open, shut: the walks.
-/
import Derived.Test.YtgnjaneddidbbaaDoorDeckE
import Derived.LoopN
namespace Go.Proofs.YtgnjaneddidbbaaDoor
open Go Go.RowKit

theorem seesR_one (t : Tok) (r : List Tok) (s : List UInt8) : seesR (t :: r) [s] = isT t s := by
  simp only [seesR, isT, List.contains_cons, List.contains_nil, Bool.or_false]

theorem sees_is (b : Nat) (lv : Value) (ts r : List Tok) (fin deep : Int) (tv : Value) (xs : List (List UInt8)) (β : Bool) (w : World) (hβ : Hid (seesR r xs = β)) (h : PW w b lv ts r fin deep) (hx : TxtRow w tv xs) :
    Calls Tryd.prog 47 #[.pointer (some ⟨b, 0, none⟩), tv] w fun e w' => e = .returned (.bool β) ∧ ∃ q, w' = w.drewN q := by
  rw [← hβ.out]
  exact sees_at b lv ts r fin deep tv xs w h hx

theorem txtRow_new (w : World) (l : List (List UInt8)) (T : TypeId) (cap : Nat) (hl : l.length ≤ 9223372036854775807) : TxtRow (w.alloc (.cells (l.map fun s => Value.string (bs s)).toArray T)) (.slice (some ⟨w.heap.size, 0, none⟩) l.length cap) l := by
  refine ⟨_, cap, rfl, hl, fun j hj => ?_⟩
  unfold World.cell?
  rw [(MapKept.heap_alloc w _).1]
  simp [hj]

theorem tok_le {w : World} {b : Nat} {lv : Value} {ts r : List Tok} {fin deep : Int} (h : PW w b lv ts r fin deep) : ts.length - r.length ≤ ts.length ∧ ts.length ≤ 9223372036854775807 := ⟨by omega, h.row.1⟩

set_option maxHeartbeats 1000000 in
set_option maxRecDepth 100000 in
theorem must_no (b tb cap : Nat) (lv : Value) (ts r : List Tok) (fin deep : Int) (s : ByteArray) (S : List UInt8) (w : World) (h : PW w b lv ts r fin deep) (hS : Hid (s = bs S)) (hc : w.cell? ⟨tb, 0, none⟩ = some (.string s)) (hβ : Hid (seesR r [S] = false)) :
    Calls Tryd.prog 50 #[.pointer (some ⟨b, 0, none⟩), .slice (some ⟨tb, 0, none⟩) 1 cap] w fun e w' => Thrown (posOf r fin) e ∧ w.grownBy w' (some b) := by
  have H := Lib.hid h
  clear h
  have HX : Hid (∀ T, TxtRow (w.alloc (.cells #[.string s] T)) (.slice (some ⟨w.heap.size, 0, none⟩) 1 1) [S]) := by
    show ∀ T, _
    intro T
    rw [hS.out]
    exact txtRow_new w [S] T 1 (by simp)
  go_enter Tryd.func50, Tryd.ntmps50
  go_wp2_with fail
  refine wp_loop_rounds 2 ?_
  rw [rounds_succ]
  go_wp2_with fail
  refine (sees_is b lv ts r fin deep _ [S] _ _ hβ (H.out.grown (grown_alloc _ _ _)) (HX.out _)).mono ?_
  rintro e w1 ⟨rfl, q, rfl⟩
  go_wp2_with fail
  refine (fail_at b lv ts r fin deep _ ((H.out.grown (grown_alloc _ _ _)).drew _)).mono ?_
  rintro e w1 ⟨he, q, rfl⟩
  have HE := Lib.hid he
  clear he
  obtain rfl : e = _ := HE.out
  exact ⟨rfl, rfl, grown_trans (grown_alloc _ _ _) (grown_trans (grown_drew _ _ _) (grown_drew _ q _))⟩

set_option maxHeartbeats 1000000 in
set_option maxRecDepth 100000 in
theorem must_yes (b tb cap k : Nat) (lv : Value) (ts r : List Tok) (fin deep : Int) (s : ByteArray) (S : List UInt8) (w : World) (h : PW w b lv ts r fin deep) (hS : Hid (s = bs S)) (hc : w.cell? ⟨tb, 0, none⟩ = some (.string s)) (hβ : Hid (seesR r [S] = true)) (hkk : Hid (ts.length - r.length = k)) (hk : k < 9223372036854775807) :
    Calls Tryd.prog 50 #[.pointer (some ⟨b, 0, none⟩), .slice (some ⟨tb, 0, none⟩) 1 cap] w fun e w' => e = .returned (.tuple #[]) ∧ w.grownBy w' (some b) ∧ PS w' b lv ((k : Int) + 1) fin deep := by
  have H := Lib.hid h
  clear h
  have HX : Hid (∀ T, TxtRow (w.alloc (.cells #[.string s] T)) (.slice (some ⟨w.heap.size, 0, none⟩) 1 1) [S]) := by
    show ∀ T, _
    intro T
    rw [hS.out]
    exact txtRow_new w [S] T 1 (by simp)
  go_enter Tryd.func50, Tryd.ntmps50
  go_wp2_with fail
  refine wp_loop_rounds 2 ?_
  rw [rounds_succ]
  go_wp2_with fail
  refine (sees_is b lv ts r fin deep _ [S] _ _ hβ (H.out.grown (grown_alloc _ _ _)) (HX.out _)).mono ?_
  rintro e w1 ⟨rfl, q, rfl⟩
  have hps := ((H.out.grown (grown_alloc w (.cells #[.string s] 9) none)).drew q).ps
  rw [hkk.out] at hps
  obtain ⟨c0, c1, c2, c3, f1, _⟩ := hps.cells
  have HPS := Lib.hid hps
  have HG : Hid (w.grownBy ((w.alloc (.cells #[.string s] 9)).drewN q) (some b)) := grown_trans (grown_alloc _ _ _) (grown_drew _ q _)
  clear c0 c2 c3 hps
  generalize ((w.alloc (.cells #[.string s] 9)).drewN q) = w2 at *
  go_wp2_with fail
  rw [rounds_succ]
  go_wp2
  go_end0
  exact ⟨rfl, grown_trans HG.out (grown_setCell w2 ⟨b, 1, none⟩ _), HPS.out.set _⟩

/-- must at one text, in a row of one cell. -/
theorem must_at (b tb cap : Nat) (lv : Value) (ts r : List Tok) (fin deep : Int) (s : ByteArray) (S : List UInt8) (w : World) (h : PW w b lv ts r fin deep) (hS : Hid (s = bs S)) (hc : w.cell? ⟨tb, 0, none⟩ = some (.string s)) :
    Calls Tryd.prog 50 #[.pointer (some ⟨b, 0, none⟩), .slice (some ⟨tb, 0, none⟩) 1 cap] w fun e w' => Out w b lv ts fin deep RUnit (pMust S r) e w' := by
  cases hβ : seesR r [S]
  · refine (must_no b tb cap lv ts r fin deep s S w h hS hc hβ).mono fun e w' ⟨he, hg⟩ => out_error ?_ he hg
    cases r with
    | nil => rfl
    | cons t r => rw [seesR_one] at hβ; rw [pMust, hβ]; rfl
  · cases r with
    | nil => cases hβ
    | cons t r =>
      have h3 := (rest_cons h.rest).2.2.1
      refine (must_yes b tb cap _ lv ts (t :: r) fin deep s S w h hS hc hβ rfl (by have := tok_le h; have := (rest_cons h.rest).2.1; simp only [List.length_cons] at h3 ⊢; omega)).mono ?_
      rintro e w' ⟨rfl, hg, hp⟩
      rw [seesR_one] at hβ
      exact out_ok (by rw [pMust, hβ]; rfl) rfl hg (h.tail hg hp)
end Go.Proofs.YtgnjaneddidbbaaDoor
