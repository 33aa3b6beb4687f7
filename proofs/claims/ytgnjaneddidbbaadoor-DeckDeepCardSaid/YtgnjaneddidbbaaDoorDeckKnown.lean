/-
  The law's known() for decks: true.
-/
import Derived.Test.YtgnjaneddidbbaaDoorPrintE
namespace Go.Proofs.YtgnjaneddidbbaaDoor
open Go Go.RowKit

theorem lineC_let (name : List UInt8) (xa xb : Nd) (rule n d k : Int) (snap : Bool) (hr : Rng n ∧ Rng k) : LineC ⟨2, name, xa, xb, rule, n, d, k, snap⟩ := by
  intro A B b acc w hw h6 hg ha hb hl
  have e : lineP ⟨2, name, xa, xb, rule, n, d, k, snap⟩ = [108, 101, 116, 32] ++ name ++ [32, 61, 32] ++ textP xa 0 ++ [59, 10] := by
    simp [lineP, stWord]
  rw [e] at hl ⊢
  exact line_let name xa xb rule n d k snap A B b acc _ _ w hw h6 hg ha hb hr rfl rfl hl _ _ ⟨rfl, rfl⟩

def d1 : List UInt8 := [108, 101, 116, 32, 97, 32, 61, 32, 98, 32, 97, 110, 100, 32, 40, 99, 32, 111, 114, 32, 100, 41, 32, 97, 110, 100, 32, 98, 111, 120, 101, 115, 32, 101, 59]
def d1p : List UInt8 := [108, 101, 116, 32, 97, 32, 61, 32, 98, 32, 97, 110, 100, 32, 40, 99, 32, 111, 114, 32, 100, 41, 32, 97, 110, 100, 32, 98, 111, 120, 101, 115, 32, 101, 59, 10]
def x1 : St := ⟨2, [97], .mk 4 [] [.mk 4 [] [.mk 1 [98] [], .mk 5 [] [.mk 1 [99] [], .mk 1 [100] []]], .mk 3 [101] []], .zero, 0, 0, 0, 0, false⟩
theorem k1 : parseS [108, 101, 116, 32, 97, 32, 61, 32, 98, 32, 97, 110, 100, 32, 40, 99, 32, 111, 114, 32, 100, 41, 32, 97, 110, 100, 32, 98, 111, 120, 101, 115, 32, 101, 59] = .ok [x1] := by rfl
theorem k1l : linesP [x1] [] = some [108, 101, 116, 32, 97, 32, 61, 32, 98, 32, 97, 110, 100, 32, 40, 99, 32, 111, 114, 32, 100, 41, 32, 97, 110, 100, 32, 98, 111, 120, 101, 115, 32, 101, 59, 10] := by rfl
theorem k1p : parseS [108, 101, 116, 32, 97, 32, 61, 32, 98, 32, 97, 110, 100, 32, 40, 99, 32, 111, 114, 32, 100, 41, 32, 97, 110, 100, 32, 98, 111, 120, 101, 115, 32, 101, 59, 10] = .ok [x1] := by rfl
theorem k2 : parseS [99, 104, 101, 99, 107, 32, 119, 32, 61, 32, 119, 105, 100, 116, 104, 40, 97, 44, 32, 48, 41, 59] = .error 19 := by rfl
theorem k3 : parseS [105, 110, 112, 117, 116, 32, 97, 32, 61, 32, 49, 47, 50] = .error 13 := by rfl
theorem k4 : parseS [108, 101, 116, 32, 97, 110, 100, 32, 61, 32, 98, 59] = .error 4 := by rfl

theorem parse_is (L : List UInt8) (R : Except Int (List St)) (s : ByteArray) (w : World) (hs : Hid (s.data.toList = L ∧ s.size ≤ maxLen)) (hR : Hid (parseS L = R)) (hg : Good w) :
    Calls Tryd.prog 14 #[.string s] w fun e w' => ParseEnd w.heap.size R e w' ∧ Below w.heap.size w w' := by
  rw [← hR.out, ← hs.out.1]
  exact parse_any s w hs.out.2 hg

theorem parse_not (L : List UInt8) (k : Int) (s : ByteArray) (w : World) (hs : Hid (s.data.toList = L ∧ s.size ≤ maxLen)) (hR : Hid (parseS L = .error k)) (hg : Good w) :
    Calls Tryd.prog 14 #[.string s] w fun e w' => e = .returned (.tuple #[.slice none 0 0, .int .i64 k, .int .i64 21]) ∧ Below w.heap.size w w' :=
  (parse_is L _ s w hs hR hg).mono fun _ _ ⟨he, hb⟩ => ⟨he, hb⟩

set_option maxHeartbeats 2000000 in
set_option maxRecDepth 100000 in
theorem known23_any (w : World) (hg : Good w) :
    Calls Tryd.prog 16 #[] w fun e w' => e = .returned (.bool true) ∧ Below w.heap.size w w' := by
  have G0 := Lib.hid hg
  clear hg
  go_enter Tryd.func16, Tryd.ntmps16
  go_wp2_with fail
  refine (parse_is [108, 101, 116, 32, 97, 32, 61, 32, 98, 32, 97, 110, 100, 32, 40, 99, 32, 111, 114, 32, 100, 41, 32, 97, 110, 100, 32, 98, 111, 120, 101, 115, 32, 101, 59] _ _ w ⟨rfl, by decide⟩ k1 G0.out).mono ?_
  rintro e w1 ⟨hE, hb1⟩
  obtain ⟨v, cs, rfl, hown, hr⟩ := hE
  have HS := Lib.hid (stsIs_of_owns hown hr)
  obtain ⟨g, cap, rfl, hB, hgl, _, hc⟩ := owns_slice hown (by decide)
  obtain ⟨A, B, rest, rfl, ha, _, _⟩ := hr
  have hk4 : A.k = 4 := by
    have ha2 : NdIs _ _ (.mk 4 [] _) A.val := ha
    unfold NdIs at ha2
    obtain ⟨a', c', he, _⟩ := ha2
    unfold NV.val at he
    cases A
    cases he
    rfl
  have hcell : w1.cell? ⟨g, 2, none⟩ = some (.int .i64 4) := by
    rw [hc 2 (.int .i64 A.k) rfl, hk4]
  have HC := Lib.hid hcell
  have HGL := Lib.hid hgl
  have G1 : Hid (Good w1) := G0.out.at hb1
  have B1 := Lib.hid hb1
  have hone : ([x1] : List St).length = 1 := rfl
  rw [hone] at HS ⊢
  clear hb1 hcell hgl hown hc ha hk4 hone G0
  go_wp2_with fail
  refine (print_ok [x1] [108, 101, 116, 32, 97, 32, 61, 32, 98, 32, 97, 110, 100, 32, 40, 99, 32, 111, 114, 32, 100, 41, 32, 97, 110, 100, 32, 98, 111, 120, 101, 115, 32, 101, 59, 10] _ w1 (fun x hx => by rw [List.mem_singleton.1 hx]; exact lineC_let _ _ _ _ _ _ _ _ ⟨⟨by decide, by decide⟩, ⟨by decide, by decide⟩⟩) HS.out G1.out k1l (by decide) k1p).mono ?_
  rintro e w2 ⟨rfl, hb2⟩
  have G2 : Hid (Good w2) := G1.out.at hb2
  have B2 : Hid (Below w1.heap.size w1 w2) := hb2
  clear hb2 G1 HS
  go_wp2_with fail
  refine (parse_not [99, 104, 101, 99, 107, 32, 119, 32, 61, 32, 119, 105, 100, 116, 104, 40, 97, 44, 32, 48, 41, 59] 19 _ w2 ⟨rfl, by decide⟩ k2 G2.out).mono ?_
  rintro e w3 ⟨rfl, hb3⟩
  have G3 : Hid (Good w3) := G2.out.at hb3
  have B3 : Hid (Below w1.heap.size w1 w3) := B2.out.trans (hb3.mono B2.out.size)
  clear hb3 G2 B2
  go_wp2_with fail
  refine (parse_not [105, 110, 112, 117, 116, 32, 97, 32, 61, 32, 49, 47, 50] 13 _ w3 ⟨rfl, by decide⟩ k3 G3.out).mono ?_
  rintro e w4 ⟨rfl, hb4⟩
  have G4 : Hid (Good w4) := G3.out.at hb4
  have B4 : Hid (Below w1.heap.size w1 w4) := B3.out.trans (hb4.mono B3.out.size)
  clear hb4 G3 B3
  go_wp2_with fail
  refine (parse_not [108, 101, 116, 32, 97, 110, 100, 32, 61, 32, 98, 59] 4 _ w4 ⟨rfl, by decide⟩ k4 G4.out).mono ?_
  rintro e w5 ⟨rfl, hb5⟩
  have B5 : Hid (Below w1.heap.size w1 w5) := B4.out.trans (hb5.mono B4.out.size)
  clear hb5 G4 B4
  have c2 : w5.cell? ⟨g, 2, none⟩ = some (.int .i64 4) := (B5.out.cell (p := ⟨g, 2, none⟩) HGL.out).trans HC.out
  have hs : ((bs [108, 101, 116, 32, 97, 32, 61, 32, 98, 32, 97, 110, 100, 32, 40, 99, 32, 111, 114, 32, 100, 41, 32, 97, 110, 100, 32, 98, 111, 120, 101, 115, 32, 101, 59, 10]).toList == [108, 101, 116, 32, 97, 32, 61, 32, 98, 32, 97, 110, 100, 32, 40, 99, 32, 111, 114, 32, 100, 41, 32, 97, 110, 100, 32, 98, 111, 120, 101, 115, 32, 101, 59, 10]) = true := by rw [bs_toList]; rfl
  go_wp2
  go_ret
  exact ⟨rfl, B1.out.trans (B5.out.mono B1.out.size)⟩
end Go.Proofs.YtgnjaneddidbbaaDoor
