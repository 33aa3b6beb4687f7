/-
  deck.Print's line of a let statement; deck.Parse of a text that is told.
-/
import Derived.Test.YtdjklnlkocconaaGreatDoorPrCZ
namespace Go.Proofs.YtdjklnlkocconaaGreatDoor
open Go Go.RowKit

theorem lineC_let (name : List UInt8) (xa xb : Nd) (rule n d k : Int) (snap : Bool) (hr : Rng n ∧ Rng k) : LineC ⟨2, name, xa, xb, rule, n, d, k, snap⟩ := by
  intro A B b acc w hw h6 hg ha hb hl
  have e : lineP ⟨2, name, xa, xb, rule, n, d, k, snap⟩ = [108, 101, 116, 32] ++ name ++ [32, 61, 32] ++ textP xa 0 ++ [59, 10] := by
    simp [lineP, stWord]
  rw [e] at hl ⊢
  exact line_let name xa xb rule n d k snap A B b acc _ _ w hw h6 hg ha hb hr rfl rfl hl _ _ ⟨rfl, rfl⟩

theorem parse_is (L : List UInt8) (R : Except Int (List St)) (s : ByteArray) (w : World) (hs : Hid (s.data.toList = L ∧ s.size ≤ maxLen)) (hR : Hid (parseS L = R)) (hg : Good w) :
    Calls Tryz.prog 19 #[.string s] w fun e w' => ParseEnd w.heap.size R e w' ∧ Below w.heap.size w w' := by
  rw [← hR.out, ← hs.out.1]
  exact parse_any s w hs.out.2 hg

end Go.Proofs.YtdjklnlkocconaaGreatDoor
