/-
  LexBlanks: the call returns true, whatever the strings.
-/
import Derived.Test.YtgnjaneddidbbaaDoorLexBlanksA
import Derived.Test.YtgnjaneddidbbaaDoorLexBlanksB
import Derived.Test.YtgnjaneddidbbaaDoorLexBlanksC
import Derived.Test.YtgnjaneddidbbaaDoorLexBlanksD
namespace Go.Proofs.YtgnjaneddidbbaaDoor
open Go Go.ChangeShapes Go.WideShapes Go.ChangeAt Go.WideMaps Go.WideElems Go.RowKit

theorem lexBlanks_spec {H : Type} {enc : TypeId × Value → H} {W : World} {vs : List Value} {ds : List (DataW H)} {p : List MemPlace} {sp : Nat → Bool}
    (hA : DataW.TrodAll enc Tryd.prog W 0 sp true Tryd.f4.params.toList vs ds p) : Rows.lexBlanksSpec.fn H (ds ++ []) = { results := [.lit (.bool true)], args := ds } := by
  rw [Tryd.params4] at hA
  obtain ⟨v, vs', d, ds', p, q, rfl, rfl, rfl, h1, h2⟩ := trodAll_cons hA
  obtain ⟨v, vs', d, ds', p, q, rfl, rfl, rfl, h3, h4⟩ := trodAll_cons h2
  obtain ⟨rfl, rfl, rfl⟩ := trodAll_nil h4
  rfl

set_option maxRecDepth 100000 in
theorem lexBlanks_calls {H : Type} {enc : TypeId × Value → H} (W : World) (base : Nat) (args : Array Value) (ds : List (DataW H)) (p : List MemPlace) (hg : Good W)
    (hval : ∀ (j : Nat) t v, Tryd.f4.params[j]? = some t → args[j]? = some v → Value.okWide Tryd.prog W .any base t v)
    (hA : DataW.TrodAll enc Tryd.prog W 0 (fun _ => true) true Tryd.f4.params.toList args.toList ds p) :
    Calls Tryd.prog 4 args W fun e w' => e = .returned (.bool true) ∧ Below W.heap.size W w' := by
  rw [Tryd.params4] at hA hval
  obtain ⟨v0, v1, d0, d1, p0, p1, rfl, rfl, rfl, h0, h1⟩ := trodAll_two hA
  obtain ⟨s, rfl, rfl, rfl, hs⟩ := ChangeMaps.open_string Tryd.underlying9 (hval 0 9 v0 rfl rfl) h0
  obtain ⟨a0, len0, cap0, rfl⟩ := okWide_slice Tryd.underlying34 (hval 1 34 v1 rfl rfl)
  obtain ⟨fuel, hf⟩ := h1
  have hcut : 2000 < s.size → ∃ y, s.extract 0 2000 = y ∧ y.size ≤ 2000 := fun hx => ⟨_, rfl, by simp; omega⟩
  unfold maxLen at hs
  have none0 : ∀ (a : Option Addr) (cap : Nat), Calls Tryd.prog 4 #[.string s, .slice a 0 cap] W fun e w' => e = .returned (.bool true) ∧ Below W.heap.size W w' := by
    intro a cap
    by_cases h2 : 2000 < s.size
    · obtain ⟨y, hy, hyz⟩ := hcut h2
      exact blanksB y s a cap W hyz h2 (by omega) hy hg
    · exact blanksA s a cap W (by omega) hg
  rcases open_strings Tryd.underlying34 Tryd.underlying9 (by kernel_rfl) hf with ⟨hcs, _⟩ | ⟨a, len, cap, ss, hcs, _, hl, hm, hz, hx, hcell, hws⟩
  · have e0 : Value.slice a0 len0 cap0 = .slice none 0 0 := by simpa [Value.cells] using hcs
    rw [e0]
    exact none0 none 0
  · have e0 : Value.slice a0 len0 cap0 = .slice (some a) len cap := by simpa [Value.cells] using hcs
    rw [e0]
    by_cases hlen : 0 < len
    · have hsl : ss.length = cap := by simpa using hz
      have hsp : a.spot = none := by
        have h2 := hcell 0 (by omega)
        cases hsp : a.spot with
        | none => rfl
        | some x =>
          exfalso
          have e1 : a.add 0 = a := by simp [Addr.add]
          rw [e1] at h2
          unfold World.cell? at h2
          split at h2
          · simp [hsp] at h2
          · cases h2
      obtain ⟨ab, ao, asp⟩ := a
      simp only at hsp
      subst hsp
      have hcell' : ∀ i, i < ss.length → W.cell? ⟨ab, ao + i, none⟩ = some (.string (ss.getD i ByteArray.empty)) := by
        intro i hi
        have h2 := hcell i hi
        unfold Addr.add at h2
        split at h2
        · rename_i h3; subst h3; simpa using h2
        · simpa using h2
      have hab : ab < W.heap.size := by
        have h2 := hcell' 0 (by omega)
        unfold World.cell? at h2
        rcases Nat.lt_or_ge ab W.heap.size with h3 | h3
        · exact h3
        · simp [Array.getElem?_eq_none h3] at h2
      have hlm : len ≤ 9223372036854775807 := by unfold maxLen at hm; omega
      have hws' : ∀ x ∈ ss, x.size ≤ 9223372036854775807 := fun x hx => by have := hws x hx; unfold maxLen at this; omega
      by_cases h2 : 2000 < s.size
      · obtain ⟨y, hy, hyz⟩ := hcut h2
        exact blanksD y s ab ao len cap ss W hyz h2 (by omega) hy hlen (by omega) hlm hab hcell' hws' hg
      · exact blanksC s ab ao len cap ss W (by omega) hlen (by omega) hlm hab hcell' hws' hg
    · obtain rfl : len = 0 := by omega
      exact none0 (some a) cap
end Go.Proofs.YtgnjaneddidbbaaDoor
