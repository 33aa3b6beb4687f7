/-
  Small laws on memory, of no program: what a callee that leaves old memory as it was leaves to its caller.
-/
import Derived.Test.YtgnjaneddidbbaaDoorBase
namespace Go.Proofs.YtgnjaneddidbbaaDoor
open Go Go.RowKit

theorem below_cells {W w1 : World} (hb : Below W.heap.size W w1) : (∀ b o, b < W.heap.size → w1.cell? ⟨b, o, none⟩ = W.cell? ⟨b, o, none⟩) ∧ (∀ b o, b < W.heap.size → w1.frozen? ⟨b, o, none⟩ = W.frozen? ⟨b, o, none⟩) :=
  ⟨fun b o h => hb.cell (p := ⟨b, o, none⟩) h, fun b o h => hb.frozen (p := ⟨b, o, none⟩) h⟩

theorem grown_of_below {w w' : World} (h : Below w.heap.size w w') (row : Option Nat) : w.grownBy w' row :=
  ⟨h.os, h.tape, h.output, h.size, fun k hk _ => h.block k hk⟩

theorem grown_setCell (w : World) (p : Addr) (u : Value) : w.grownBy (w.setCell p u) (some p.block) :=
  ⟨rfl, rfl, rfl, by simp [World.setCell], fun k _ hne => Below.heap_setCell _ _ _ _ (fun e => hne (by rw [e]))⟩

theorem owns_below {w w' : World} {B : Nat} {e : TypeId} {size : Nat} {v : Value} {n : Nat} {xs : List Value} (h : w.ownsRow B e size v n xs) (hb : Below w.heap.size w w') : w'.ownsRow B e size v n xs := by
  refine h.kept (grown_of_below hb none) ?_
  cases v.ownBlock with
  | none => exact .inl rfl
  | some k => exact .inr (by simp)

theorem owns_setCell {w : World} {B : Nat} {e : TypeId} {size : Nat} {v : Value} {n : Nat} {xs : List Value} (h : w.ownsRow B e size v n xs) {p : Addr} (hp : v.ownBlock ≠ some p.block) (u : Value) : (w.setCell p u).ownsRow B e size v n xs :=
  h.kept (grown_setCell w p u) (.inr hp)

theorem owns_ne {w : World} {B : Nat} {e : TypeId} {size : Nat} {v : Value} {n : Nat} {xs : List Value} (h : w.ownsRow B e size v n xs) {b : Nat} (hb : w.heap.size ≤ b) : v.ownBlock ≠ some b := by
  intro he
  have := (h.lt b he).2
  omega

theorem cell_new (w : World) (l : List Value) (t : TypeId) {b : Nat} (hb : b = w.heap.size) : ∀ j u, l[j]? = some u → (w.alloc (.cells l.toArray t)).cell? ((⟨b, 0, none⟩ : Addr).add j) = some u := by
  intro j u hj
  subst hb
  have e : (⟨w.heap.size, 0, none⟩ : Addr).add j = ⟨w.heap.size, j, none⟩ := by
    unfold Addr.add
    split
    · rename_i h; subst h; rfl
    · simp
  rw [e]
  unfold World.cell?
  rw [(MapKept.heap_alloc w _).1]
  simpa using hj

/-- What an owned row of at least one element is. -/
theorem owns_slice {w : World} {B : Nat} {e : TypeId} {size : Nat} {v : Value} {n : Nat} {xs : List Value} (h : w.ownsRow B e size v n xs) (hn : 0 < n) :
    ∃ g cap, v = .slice (some ⟨g, 0, none⟩) n cap ∧ B ≤ g ∧ g < w.heap.size ∧ n ≤ cap ∧ ∀ j u, xs[j]? = some u → w.cell? ⟨g, j, none⟩ = some u := by
  have hlt := h.lt
  have hcs := fun g hg => h.cells (g := g) hg
  obtain ⟨_, ⟨_, h0⟩ | ⟨g, cap, cur, rfl, hB, hh, hc, _⟩⟩ := h
  · omega
  · refine ⟨g, cap, rfl, hB, (hlt g rfl).2, hc, fun j u hj => ?_⟩
    have h1 := hcs g rfl j u hj
    unfold Addr.add at h1
    split at h1
    · rename_i h0; subst h0; exact h1
    · simpa using h1

theorem owns_nil {w : World} {B : Nat} {e : TypeId} {size : Nat} {v : Value} {xs : List Value} (h : w.ownsRow B e size v 0 xs) : ∃ a cap, v = .slice a 0 cap := by
  obtain ⟨_, ⟨h0, _⟩ | ⟨g, cap, cur, rfl, _⟩⟩ := h
  · exact ⟨none, 0, h0⟩
  · exact ⟨_, cap, rfl⟩

/-- Behind an append onto a row of the call's own. -/
theorem below_grown {B : Nat} {w X w1 : World} {v : Value} {e : TypeId} {size n : Nat} {xs : List Value} {w0 : World} (hown : w0.ownsRow B e size v n xs) (hb : Below B w X) (hB : B ≤ X.heap.size)
    (hgrow : X.grownBy w1 v.ownBlock) : Below B w w1 := hb.grown hgrow hB (fun k hk => (hown.lt k hk).1)

theorem ret3 {P : Program} {fn : Func} {R : Ending → World → Prop} {a : Act} {w : World} {t1 t2 t3 : Tmp} (h : fn.results = #[.tmp t1, .tmp t2, .tmp t3]) (hd : a.defers = [])
    (hR : R (.returned (.tuple #[a.tmps.getD t1 undef, a.tmps.getD t2 undef, a.tmps.getD t3 undef])) w) : bodyPost P fn R .ret a w :=
  bodyPost_ret (v := .tuple #[a.tmps.getD t1 undef, a.tmps.getD t2 undef, a.tmps.getD t3 undef]) (by simp [results, h]) hd hR

end Go.Proofs.YtgnjaneddidbbaaDoor
