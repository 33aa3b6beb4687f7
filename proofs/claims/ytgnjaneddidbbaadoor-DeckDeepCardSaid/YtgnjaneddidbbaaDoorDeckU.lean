/-
  The rules' words in memory; their places. Small walks for stmt's check.
-/
import Derived.Test.YtgnjaneddidbbaaDoorDeckT3
import Derived.Deep.RegionHeld3
namespace Go.Proofs.YtgnjaneddidbbaaDoor
open Go Go.RowKit

theorem rules_w (w : World) :
    Calls Tryd.prog 54 #[] w fun e w' => ∃ g, e = .returned (.slice (some ⟨g, 0, none⟩) 6 6) ∧ w.grownBy w' none ∧ Hid (w'.heap[g]? = some (txts rulesL) ∧ w.heap.size ≤ g ∧ g < w'.heap.size) :=
  (rules_any w).mono fun e w' ⟨he, hw⟩ => ⟨w.heap.size, he, by rw [hw]; exact grown_alloc _ _ _, by
    subst hw
    exact ⟨(MapKept.heap_alloc w _).1, Nat.le_refl _, by simp⟩⟩

theorem txts_row {w : World} {g : Nat} {l : List (List UInt8)} {n cap : Nat} (h : w.heap[g]? = some (txts l)) (hn : n = l.length) (hl : l.length ≤ 9223372036854775807) : TxtRow w (.slice (some ⟨g, 0, none⟩) n cap) l := by
  subst hn
  refine ⟨g, cap, rfl, hl, fun j hj => ?_⟩
  simp [World.cell?, h, txts, hj]

theorem index_is (g : Nat) (x : List UInt8) (k : Int) (w : World) (hk : Hid (Lib.idxOfS (rulesL.map bs) (bs x) = k)) (hc : w.heap[g]? = some (txts rulesL)) :
    Calls Tryd.prog 55 #[.slice (some ⟨g, 0, none⟩) 6 6, .string (bs x)] w fun e w' => e = .returned (.int .i64 k) ∧ w = w' := by
  have := Tryd.slices_Index_string g 0 6 6 (rulesL.map bs) (bs x) w (by simp [rulesL]) (by omega) (by
    intro j hj
    simp only [List.length_map] at hj
    have h1 : w.cell? ⟨g, 0 + j, none⟩ = ((rulesL.map fun s => Value.string (bs s)).toArray)[j]? := by
      simp [World.cell?, hc, txts]
    rw [h1]
    simp [hj])
  rw [show (rulesL.map bs).take 6 = rulesL.map bs from rfl, hk.out] at this
  exact this.mono fun _ _ ⟨he, hw⟩ => ⟨he, hw.symm⟩

theorem ruleNo_no {t : Tok} {r : List Tok} (h : seesR (t :: r) rulesL = false) : ruleNo t = 0 := by
  simp only [seesR, rulesL, List.contains_cons, List.contains_nil, Bool.or_false] at h
  unfold ruleNo isT
  cases hk : (t.kind != 2)
  · rfl
  · rw [hk] at h
    simp only [Bool.true_and, Bool.or_eq_false_iff] at h
    rw [h.1, h.2.1, h.2.2.1, h.2.2.2.1, h.2.2.2.2.1, h.2.2.2.2.2]; rfl
theorem ruleNo_yes {t : Tok} {r : List Tok} (h : seesR (t :: r) rulesL = true) : ruleNo t ≠ 0 ∧ 1 ≤ ruleNo t ∧ ruleNo t ≤ 6 ∧ Lib.idxOfS (rulesL.map bs) (bs t.text) = ruleNo t - 1 := by
  simp only [seesR, rulesL, List.contains_cons, List.contains_nil, Bool.or_false, Bool.and_eq_true, Bool.or_eq_true, beq_iff_eq] at h
  unfold ruleNo isT
  rw [h.1]
  rcases h.2 with e | e | e | e | e | e <;> rw [e] <;> decide +kernel

theorem sCheck_nil (s : List UInt8) : sCheck s [] = .error [] := rfl
theorem sCheck_no {s : List UInt8} {r : List Tok} (h : seesR r rulesL = false) : sCheck s r = .error r := by
  cases r with
  | nil => rfl
  | cons t r => rw [sCheck, if_pos (ruleNo_no h)]
theorem sCheck_yes {s : List UInt8} {t : Tok} {r : List Tok} (h : seesR (t :: r) rulesL = true) : sCheck s (t :: r) =
    (pMust [40] r).then fun _ r2 => (pExpr 1 r2).then fun a r3 => (pMust [44] r3).then fun _ r4 => sCheck1 { St.zero with kind := 3, name := s, rule := ruleNo t, a := a.nd } r4 := by
  rw [sCheck, if_neg (ruleNo_yes h).1]
theorem sCheck1_no {x : St} {r : List Tok} (h : x.rule ≤ 3) : sCheck1 x r = sCheck2 x r := by rw [sCheck1, if_neg (by omega)]
theorem sCheck1_yes {x : St} {r : List Tok} (h : 3 < x.rule) : sCheck1 x r = (pExpr 1 r).then fun b r1 => (pMust [44] r1).then fun _ r2 => sCheck2 { x with b := b.nd } r2 := by rw [sCheck1, if_pos h]
end Go.Proofs.YtgnjaneddidbbaaDoor
