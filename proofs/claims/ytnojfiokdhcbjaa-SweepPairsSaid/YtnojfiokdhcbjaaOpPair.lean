/-
  Segments by small numbers as an argument: what reads as a row of them is one in memory. No walk.
-/
import Derived.Test.YtnojfiokdhcbjaaGC
import Derived.WideShapes
import Derived.ChangeShapes
import Derived.Deep.Strs
namespace Go.Proofs.Ytnojfiokdhcbjaa
open Go Go.ChangeShapes Go.WideShapes Go.ChangeAt Go.RowKit

theorem choose_list {α : Type} (n : Nat) (p : Nat → α → Prop) (h : ∀ i, i < n → ∃ x, p i x) : ∃ l : List α, l.length = n ∧ ∀ i x, l[i]? = some x → p i x := by
  induction n with
  | zero => exact ⟨[], rfl, fun i x e => by simp at e⟩
  | succ n ih =>
    obtain ⟨l, hl, hp⟩ := ih fun i hi => h i (by omega)
    obtain ⟨x, hx⟩ := h n (by omega)
    refine ⟨l ++ [x], by simp [hl], fun i y e => ?_⟩
    by_cases hi : i < n
    · rw [List.getElem?_append_left (by omega)] at e
      exact hp i y e
    · have hlt : i < (l ++ [x]).length := (List.getElem?_eq_some_iff.1 e).1
      simp at hlt
      obtain rfl : i = n := by omega
      rw [List.getElem?_append_right (by omega), hl, Nat.sub_self] at e
      cases e
      exact hx
theorem add_none (g o j : Nat) : (⟨g, o, none⟩ : Addr).add j = ⟨g, o + j, none⟩ := by
  unfold Addr.add
  split
  · rename_i h; subst h; rfl
  · rfl
theorem add_add (a : Addr) (i j : Nat) : (a.add i).add j = a.add (i + j) := Deep.add_add a i j
/-- An address at which a cell is: its block is there, and it is a plain one. -/
theorem addr_plain {w : World} {a : Addr} {u : Value} (h : w.cell? a = some u) : ∃ g o, a = ⟨g, o, none⟩ ∧ g < w.heap.size := by
  obtain ⟨g, o, s⟩ := a
  have hlt := World.block_lt_of_cell? _ _ h
  unfold World.cell? at h
  split at h
  · cases s with
    | none => exact ⟨g, o, rfl, hlt⟩
    | some s => simp at h
  · cases h

def Rng64 (a : Int) : Prop := -9223372036854775808 ≤ a ∧ a ≤ 9223372036854775807
theorem rng64_wf {n : Int} (h : (Lit.int .i64 n).wf = true) : Rng64 n := by
  unfold Lit.wf at h
  simp [IntKind.min, IntKind.max, IntKind.signed, IntKind.bits] at h
  exact ⟨by omega, by omega⟩
/-- A segment by small numbers. -/
structure PQ where
  ax : Int
  ay : Int
  ad : Int
  cx : Int
  cy : Int
  cd : Int
def PQ.cells (p : PQ) : List Value := [.int .i64 p.ax, .int .i64 p.ay, .int .i64 p.ad, .int .i64 p.cx, .int .i64 p.cy, .int .i64 p.cd]
def PQ.ok (p : PQ) : Prop := Rng64 p.ax ∧ Rng64 p.ay ∧ Rng64 p.ad ∧ Rng64 p.cx ∧ Rng64 p.cy ∧ Rng64 p.cd
/-- A row of them in memory. -/
def PqIs (w : World) (v : Value) (l : List PQ) : Prop :=
  l.length ≤ 9223372036854775807 ∧ (∀ p ∈ l, p.ok) ∧ ∃ a cap, v = .slice a l.length cap ∧ (l = [] ∨ ∃ g o, a = some ⟨g, o, none⟩ ∧ g < w.heap.size ∧ ∀ i p, l[i]? = some p → ∀ j c, p.cells[j]? = some c → w.cell? ⟨g, o + i * 6 + j, none⟩ = some c)
theorem PqIs.still {w w' : World} {v : Value} {l : List PQ} (h : PqIs w v l) (hg : w.grownBy w' none) : PqIs w' v l := by
  obtain ⟨h1, h2, a, cap, rfl, h3⟩ := h
  refine ⟨h1, h2, a, cap, rfl, ?_⟩
  rcases h3 with h3 | ⟨g, o, rfl, hl, hc⟩
  · exact .inl h3
  · refine .inr ⟨g, o, rfl, Nat.lt_of_lt_of_le hl hg.size, fun i p hp j c hj => ?_⟩
    have e := hg.block g hl (by simp)
    exact (World.cell?_of_block (a := ⟨g, _, none⟩) e).trans (hc i p hp j c hj)
theorem cellsInt : Try.prog.cellsOf 3 = 1 := by kernel_rfl
theorem cellsDot : Try.prog.cellsOf 84 = 3 := by kernel_rfl
theorem cellsPair : Try.prog.cellsOf 86 = 6 := by kernel_rfl
section
variable {H : Type} {enc : TypeId × Value → H} {W : World}
set_option maxRecDepth 100000 in
theorem open_dot (fuel : Nat) (c0 c1 c2 : Value) (x : DataW H × List MemPlace) (h : DataW.trod enc Try.prog W 0 (fun _ => true) true fuel 84 [c0, c1, c2] = some x) :
    ∃ a b d : Int, c0 = .int .i64 a ∧ c1 = .int .i64 b ∧ c2 = .int .i64 d ∧ Rng64 a ∧ Rng64 b ∧ Rng64 d := by
  obtain ⟨xs, n1, rfl, rfl, hl, hlen, hf⟩ := DataW.trod_struct Try.underlying84 h
  match xs, hlen with
  | [y0, y1, y2], _ =>
    have f0 : DataW.trod enc Try.prog W 0 (fun _ => true) true n1 3 (([c0, c1, c2].drop 0).take (Try.prog.cellsOf 3)) = some y0 := hf 0 _ rfl
    rw [cellsInt] at f0
    have f1 : DataW.trod enc Try.prog W 0 (fun _ => true) true n1 3 (([c0, c1, c2].drop 1).take (Try.prog.cellsOf 3)) = some y1 := hf 1 _ rfl
    rw [cellsInt] at f1
    have f2 : DataW.trod enc Try.prog W 0 (fun _ => true) true n1 3 (([c0, c1, c2].drop 2).take (Try.prog.cellsOf 3)) = some y2 := hf 2 _ rfl
    rw [cellsInt] at f2
    have g0 : DataW.trod enc Try.prog W 0 (fun _ => true) true n1 3 [c0] = some y0 := f0
    have g1 : DataW.trod enc Try.prog W 0 (fun _ => true) true n1 3 [c1] = some y1 := f1
    have g2 : DataW.trod enc Try.prog W 0 (fun _ => true) true n1 3 [c2] = some y2 := f2
    obtain ⟨a, e0, _, w0⟩ := DataW.trod_int Try.underlying3 g0
    obtain ⟨b, e1, _, w1⟩ := DataW.trod_int Try.underlying3 g1
    obtain ⟨d, e2, _, w2⟩ := DataW.trod_int Try.underlying3 g2
    cases e0; cases e1; cases e2
    exact ⟨a, b, d, rfl, rfl, rfl, rng64_wf w0, rng64_wf w1, rng64_wf w2⟩
theorem list6 {α : Type} {cs : List α} (h : cs.length = 6) : ∃ c0 c1 c2 c3 c4 c5, cs = [c0, c1, c2, c3, c4, c5] := by
  match cs, h with
  | [a, b, c, d, e, f], _ => exact ⟨a, b, c, d, e, f, rfl⟩
set_option maxRecDepth 100000 in
theorem open_pair (fuel : Nat) (cs : List Value) (x : DataW H × List MemPlace) (h : DataW.trod enc Try.prog W 0 (fun _ => true) true fuel 86 cs = some x) : ∃ p : PQ, cs = p.cells ∧ p.ok := by
  obtain ⟨xs, n1, rfl, rfl, hl, hlen, hf⟩ := DataW.trod_struct Try.underlying86 h
  rw [cellsPair] at hl
  match xs, hlen with
  | [y0, y1], _ =>
    have f0 : DataW.trod enc Try.prog W 0 (fun _ => true) true n1 84 ((cs.drop 0).take (Try.prog.cellsOf 84)) = some y0 := hf 0 _ rfl
    rw [cellsDot] at f0
    have f1 : DataW.trod enc Try.prog W 0 (fun _ => true) true n1 84 ((cs.drop 3).take (Try.prog.cellsOf 84)) = some y1 := hf 1 _ rfl
    rw [cellsDot] at f1
    obtain ⟨c0, c1, c2, c3, c4, c5, rfl⟩ := list6 hl
    have g0 : DataW.trod enc Try.prog W 0 (fun _ => true) true n1 84 [c0, c1, c2] = some y0 := f0
    have g1 : DataW.trod enc Try.prog W 0 (fun _ => true) true n1 84 [c3, c4, c5] = some y1 := f1
    obtain ⟨a, b, d, rfl, rfl, rfl, h1, h2, h3⟩ := open_dot n1 _ _ _ _ g0
    obtain ⟨a', b', d', rfl, rfl, rfl, k1, k2, k3⟩ := open_dot n1 _ _ _ _ g1
    exact ⟨⟨a, b, d, a', b', d'⟩, rfl, h1, h2, h3, k1, k2, k3⟩
set_option maxRecDepth 100000 in
/-- What reads as a row of segments is one. -/
theorem open_pairs {v : Value} {d : DataW H} {p : List MemPlace} {r : Reach} {b0 : Nat} (hv : Value.okWide Try.prog W r b0 42 v) (h : DataW.Trod enc Try.prog W 0 (fun _ => true) true 42 v d p) : ∃ l : List PQ, PqIs W v l := by
  obtain ⟨fuel, hf⟩ := h
  obtain ⟨a0, len0, cap0, rfl⟩ := okWide_slice Try.underlying42 hv
  have hone : (Value.slice a0 len0 cap0).cells.toList = [.slice a0 len0 cap0] := rfl
  rw [hone] at hf
  rcases DataW.trod_slice Try.underlying42 hf with ⟨e2, _⟩ | ⟨a, len, cap, elems, rest, n2, rfl, e2, e3, _, hlc, hcm, hel, hat, _, _⟩
  · cases e2
    exact ⟨[], by simp, (fun x hx => by cases hx), none, 0, rfl, .inl rfl⟩
  · cases e2
    cases e3
    rw [cellsPair] at hat
    obtain ⟨l, hll, hq⟩ := choose_list len0 (fun i (t : PQ) => W.cells? 0 (a.add (i * 6)) 6 = some t.cells ∧ t.ok) (by
      intro i hi
      have h1 := hat i hi
      rw [List.getElem?_eq_getElem (by omega)] at h1
      obtain ⟨csi, h2, h3⟩ := Option.bind_eq_some_iff.1 h1
      obtain ⟨t, rfl, h5⟩ := open_pair n2 csi _ h3
      exact ⟨t, h2, h5⟩)
    refine ⟨l, by unfold maxLen at hcm; omega, fun x hx => ?_, some a, cap0, by rw [hll], ?_⟩
    · obtain ⟨i, hi⟩ := List.getElem?_of_mem hx
      exact (hq i x hi).2
    · cases l with
      | nil => exact .inl rfl
      | cons x0 l0 =>
        obtain ⟨h2, _⟩ := hq 0 x0 rfl
        obtain ⟨_, _, h3⟩ := World.cells?_some h2
        have h4 := h3 0 (by decide)
        rw [add_add, Nat.zero_mul, Nat.add_zero] at h4
        have h5 : W.cell? a = some (.int .i64 x0.ax) := h4
        obtain ⟨g, o, rfl, hg⟩ := addr_plain h5
        refine .inr ⟨g, o, rfl, hg, fun i p hp j c hj => ?_⟩
        obtain ⟨k1, _⟩ := hq i p hp
        rw [add_none] at k1
        obtain ⟨_, _, k6⟩ := World.cells?_some k1
        have hj6 : j < 6 := (List.getElem?_eq_some_iff.1 hj).1
        have := k6 j hj6
        rw [add_none] at this
        rw [this, hj]
end
end Go.Proofs.Ytnojfiokdhcbjaa
