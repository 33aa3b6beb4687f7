/-
  deck.Print and deck.Right, of whatever statements.
-/
import Derived.Test.YtdjklnlkocconaaGreatDoorGnBZ
import Derived.Test.YtdjklnlkocconaaGreatDoorLnBZ
import Derived.Test.YtdjklnlkocconaaGreatDoorOpAZ
namespace Go.Proofs.YtdjklnlkocconaaGreatDoor
open Go Go.RowKit
theorem line_in {l : List St} {x : St} (h : x ∈ l) : (lineP x).length ≤ (l.flatMap lineP).length := by
  induction l with
  | nil => cases h
  | cons y l ih =>
    rw [List.flatMap_cons, List.length_append]
    rcases List.mem_cons.1 h with rfl | h
    · omega
    · have := ih h; omega

/-- What Print asks of statements. -/
def Prints (l : List St) : Prop := (∀ x ∈ l, LineC x) ∧ ∀ x ∈ l, (lineP x).length ≤ 140737488000000
theorem prints_parsed {s : List UInt8} {l : List St} (h : parseS s = .ok l) : Prints l := by
  obtain ⟨h1, _, h3⟩ := parse_fits h
  have h4 := (parse_size h).1
  exact ⟨fun x hx => lineC_fit x (h1 x hx), fun x hx => by have := line_in hx; omega⟩
theorem print_at (l : List St) (v : Value) (w : World) (hp : Prints l) (h : StsIs w v l) (hg : Good w) :
    Calls Tryz.prog 37 #[v] w fun e w' => e = printE (printS l) ∧ Below w.heap.size w w' := print_any l v w hp.1 hp.2 h hg

set_option maxHeartbeats 1000000 in
set_option maxRecDepth 100000 in
theorem right_at (l : List St) (v : Value) (w : World) (hp : Prints l) (h : StsIs w v l) (hg : Good w) :
    Calls Tryz.prog 20 #[v] w fun e w' => e = .returned (.bool (printS l).isSome) ∧ Below w.heap.size w w' := by
  have HP := Lib.hid (print_at l v w hp h hg)
  clear hp h hg
  go_enter Tryz.func20, Tryz.ntmps20
  go_wp2_with fail
  refine HP.out.mono ?_
  rintro e w1 ⟨he, hb⟩
  clear HP
  cases hR : printS l with
  | none =>
    rw [hR] at he
    unfold printE at he
    subst he
    go_wp2
    go_ret
    exact ⟨by rw [hR]; rfl, hb⟩
  | some t =>
    rw [hR] at he
    unfold printE at he
    subst he
    go_wp2
    go_ret
    exact ⟨by rw [hR]; rfl, hb⟩

theorem sts_below {w w' : World} {v : Value} {l : List St} (h : StsIs w v l) (hb : Below w.heap.size w w') : StsIs w' v l := h.still (grown_of_below hb none)
theorem below_still {w w' : World} (hg : w.grownBy w' none) : Below w.heap.size w w' := ⟨hg.os, hg.tape, hg.output, hg.size, fun k hk => hg.block k hk (by simp)⟩

theorem prints_of {l : List St} {n : Nat} (h : ∀ x ∈ l, (Rng x.n ∧ Rng x.d ∧ Rng x.k) ∧ (lineP x).length ≤ 14 * n + 100) (hn : n ≤ 1048576) : Prints l :=
  ⟨fun x hx => lineC_any x (h x hx).1, fun x hx => by have := (h x hx).2; omega⟩
end Go.Proofs.YtdjklnlkocconaaGreatDoor
