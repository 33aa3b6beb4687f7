/-
  deck.Print of statements whose text is a deck of just these: the walk.
-/
import Derived.Test.YtdjklnlkocconaaGreatDoorPrintDZ
import Derived.Test.YtdjklnlkocconaaGreatDoorSmAZ
import Derived.Test.YtdjklnlkocconaaGreatDoorPaFZ
import Derived.Lib.FrozenHead
namespace Go.Proofs.YtdjklnlkocconaaGreatDoor
open Go Go.RowKit

/-- What line does at a statement. -/
def LineC (x : St) : Prop := ∀ (A B : NV) (b : Nat) (acc : List UInt8) (w : World), WB w b acc → 6 ≤ b → Good w → NdIs (· < b) w x.a A.val → NdIs (· < b) w x.b B.val → acc.length + (lineP x).length ≤ 140737488355328 →
  Calls Tryz.prog 64 #[stVal x A B, .pointer (some ⟨b, 0, none⟩)] w fun e w' => e = .returned (.tuple #[]) ∧ WB w' b (acc ++ lineP x) ∧ Keeps b w w'

/-- A statement out of a slice of them, in a later world. -/
theorem StsIs.later {w w' : World} {v : Value} {l : List St} (h : StsIs w v l) (hs : w.heap.size ≤ w'.heap.size) (hb : ∀ g, g < w.heap.size → w'.heap[g]? = w.heap[g]?) {k : Nat} {x : St} (hk : l[k]? = some x) : ∃ g o cap, v = .slice (some ⟨g, o, none⟩) l.length cap ∧ g < w.heap.size ∧ ∃ A B : NV, (∀ j, j < 13 → w'.cell? ⟨g, o + k * 13 + j, none⟩ = (stCells x A B)[j]?) ∧ NdIs (· < w.heap.size) w' x.a A.val ∧ NdIs (· < w.heap.size) w' x.b B.val := by
  obtain ⟨g, o, cap, e, hl, A, B, h1, h2, h3⟩ := h.get hk
  refine ⟨g, o, cap, e, hl, A, B, fun j hj => ?_, NdIs.kept hs (fun g hl _ => ⟨hb g hl, hl⟩) _ _ h2, NdIs.kept hs (fun g hl _ => ⟨hb g hl, hl⟩) _ _ h3⟩
  rw [← h1 j hj]
  exact World.cell?_of_block (a := ⟨g, o + k * 13 + j, none⟩) (hb g hl)

/-- Print at work: statements from i on are to come. -/
def PrAt (w : World) (l : List St) (t : List UInt8) (n : Nat) (k : Nat) (u : Value) (wr : World) : Prop :=
  ∃ (i : Nat) (acc : List UInt8), u = .int .i64 i ∧ i ≤ n ∧ n < k + i ∧ WB wr w.heap.size acc ∧ Keeps w.heap.size w wr ∧ Good wr ∧ linesP (l.drop i) acc = some t

theorem WB.fresh (w : World) : WB (w.alloc (.cells #[.pointer none, .slice none 0 0] 106)) w.heap.size [] := Lib.fresh_isBuilder _ _ w

theorem stsIs_of_owns {w : World} {B : Nat} {v : Value} {l : List St} {cs : List Value} (h : w.ownsRow B 39 13 v l.length cs) (hr : StRow Any w l cs) : StsIs w v l := by
  refine ⟨?_, ?_⟩
  · obtain ⟨_, ⟨_, h0⟩ | ⟨g, cap, cur, _, _, _, hc, hm, _⟩⟩ := h
    · omega
    · unfold maxLen at hm; omega
  · cases l with
    | nil =>
      obtain ⟨a, cap, rfl⟩ := owns_nil h
      exact ⟨a, cap, rfl, .inl rfl⟩
    | cons x l =>
      obtain ⟨g, cap, rfl, _, hg, _, hc⟩ := owns_slice h (by simp)
      exact ⟨_, cap, rfl, .inr ⟨g, 0, rfl, hg, cs, fun j u hu => by rw [Nat.zero_add]; exact hc j u hu, hr⟩⟩

theorem builderF_still {w w' : World} {b : Nat} {cs : List Value} (h : Lib.IsBuilderF 106 5 b b cs w) (hb : Below w.heap.size w w') : Lib.IsBuilderF 106 5 b b cs w' := by
  have hg := grown_of_below hb none
  have key : ∀ p, Lib.BuilderAtF 106 5 b b p cs w → Lib.BuilderAtF 106 5 b b p cs w' := by
    intro p h
    have hlt := h.lt
    obtain ⟨hB, v, hbk, hown, hne⟩ := h
    refine ⟨hB, v, (hg.block b hlt (by simp)).trans hbk, hown.kept hg ?_, hne⟩
    cases v.ownBlock with
    | none => exact .inl rfl
    | some k => exact .inr (by simp)
  rcases h with h | h
  · exact .inl (key _ h)
  · exact .inr (key _ h)

end Go.Proofs.YtdjklnlkocconaaGreatDoor
