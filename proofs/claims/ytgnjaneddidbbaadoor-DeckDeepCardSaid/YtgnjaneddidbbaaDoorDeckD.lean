/-
  The parser's name where it fails: the walks.
-/
import Derived.Test.YtgnjaneddidbbaaDoorDeckC
namespace Go.Proofs.YtgnjaneddidbbaaDoor
open Go Go.RowKit

set_option maxHeartbeats 1000000 in
set_option maxRecDepth 100000 in
theorem name_out (b n cap k : Nat) (a : Option Addr) (fin deep : Int) (w : World) (hs : PS w b (.slice a n cap) k fin deep) (hk : n ≤ k) :
    Calls Tryd.prog 49 #[.pointer (some ⟨b, 0, none⟩)] w fun e w' => Thrown fin e ∧ w.grownBy w' (some b) := by
  obtain ⟨c0, c1, c2, c3, _, _⟩ := hs.cells
  have HS := Lib.hid hs
  have hd1 : decide (n ≤ k) = true := by simp; omega
  have hd2 : decide ((n : Int) ≤ (k : Int)) = true := by simp; omega
  clear hs c2 c3
  go_enter Tryd.func49, Tryd.ntmps49
  go_wp2_with fail
  go_quiet (fail)
  go_wp2_with fail
  refine (fail_out b n cap k a fin deep _ (HS.out.drew _) hk).mono ?_
  rintro e w1 ⟨he, q, rfl⟩
  obtain rfl : e = _ := he
  exact ⟨rfl, rfl, grown_trans (grown_drew _ _ _) (grown_drew _ q _)⟩

end Go.Proofs.YtgnjaneddidbbaaDoor
