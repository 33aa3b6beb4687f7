/-
  law 20: a row of segments far from one another; what meets itself.
-/
import Derived.Test.YtnojfiokdhcbjaaSwC
namespace Go.Proofs.Ytnojfiokdhcbjaa
open Go Go.RowKit

theorem self_meets (s : Sg) {p q : Rat} (hp : 0 ≤ p) (hq : 0 ≤ q) (i j : Nat) (b c : Bool) : meets (boxS s p i b) (boxS s q j c) = true := by
  have h1 := least_le_most s.ax s.cx
  have h2 := least_le_most s.ay s.cy
  unfold meets passes hits boxS
  simp only [Bool.and_eq_true, Bool.not_eq_true', decide_eq_false_iff_not]
  refine ⟨⟨?_, ?_⟩, ?_, ?_⟩ <;> grind
theorem boxesL_get {ss : List Sg} {dl : Rat} {b : Bool} {i : Nat} {s : Sg} (h : ss[i]? = some s) : boxS s dl i b ∈ boxesL ss dl b := by
  refine List.mem_of_getElem? (i := i) ?_
  unfold boxesL
  rw [List.getElem?_mapIdx, h]
  rfl
theorem two_of {l : List (Nat × Nat)} {p q : Nat × Nat} (h1 : p ∈ l) (h2 : q ∈ l) (h : p ≠ q) : 2 ≤ l.length := by
  match l, h1, h2 with
  | [x], h1, h2 => exact absurd ((List.mem_singleton.1 h1).trans (List.mem_singleton.1 h2).symm) h
  | x :: y :: r, _, _ => simp
theorem pairs_two {ss ts : List Sg} {dl : Rat} {s0 s1 : Sg} (hd : 0 ≤ dl) (h0 : ss[0]? = some s0) (h1 : ss[1]? = some s1) (k0 : ts[0]? = some s0) (k1 : ts[1]? = some s1) : 2 ≤ (pairsS (boxesL ss dl false) (boxesL ts 0 true)).length :=
  two_of (p := (0, 0)) (q := (1, 1)) (pairsS_mem.2 ⟨_, _, boxesL_get h0, boxesL_get k0, self_meets s0 hd (by decide) _ _ _ _, rfl⟩)
    (pairsS_mem.2 ⟨_, _, boxesL_get h1, boxesL_get k1, self_meets s1 hd (by decide) _ _ _ _, rfl⟩) (by decide)

/-- The i-th of a row of segments. -/
def lS (i : Nat) : Sg := ⟨((3 * (i : Int) : Int) : Rat), ((0 : Int) : Rat), ((3 * (i : Int) + 1 : Int) : Rat), ((0 : Int) : Rat)⟩
def lL (m : Nat) : List Sg := (List.range m).map lS
theorem lL_len (m : Nat) : (lL m).length = m := by unfold lL; simp
theorem lL_get {m i : Nat} (h : i < m) : (lL m)[i]? = some (lS i) := by
  unfold lL
  rw [List.getElem?_map, List.getElem?_range h]
  rfl
theorem lL_l {m : Nat} (hm : m ≤ 30000) : ∀ s, s ∈ lL m → SgL s := by
  intro s hs
  unfold lL at hs
  obtain ⟨i, hi, rfl⟩ := List.mem_map.1 hs
  have hi := List.mem_range.1 hi
  exact sgl_int ⟨by omega, by omega⟩ ⟨by decide, by decide⟩ ⟨by omega, by omega⟩ ⟨by decide, by decide⟩

/-- Memory while the row is filled. -/
structure LRow (w : World) (g m i : Nat) (wr : World) : Prop where
  b : Below w.heap.size w wr
  gb : w.heap.size ≤ g
  c : ∃ cs, wr.heap[g]? = some (.cells cs 34 (0, 0)) ∧ cs.size = m * 16
  s : ∀ j, j < i → ∃ v : SV, (∀ k c, v.cells[k]? = some c → wr.cell? ⟨g, j * 16 + k, none⟩ = some c) ∧ v.ok wr (lS j)
section
variable {w wr : World} {g m i : Nat}
theorem LRow.gr {w' : World} (h : LRow w g m i wr) (hb : Below wr.heap.size wr w') : LRow w g m i w' := by
  obtain ⟨cs, h1, h2⟩ := h.c
  have hlt := (Array.getElem?_eq_some_iff.1 h1).1
  have e := hb.block g hlt
  refine ⟨h.b.trans (hb.mono h.b.size), h.gb, ⟨cs, e.trans h1, h2⟩, fun j hj => ?_⟩
  obtain ⟨v, k1, k2⟩ := h.s j hj
  exact ⟨v, fun k c hc => (World.cell?_of_block (a := ⟨g, _, none⟩) e).trans (k1 k c hc), k2.keep (keep_below hb)⟩
theorem LRow.some (h : LRow w g m i wr) (hi : i < m) {j : Nat} (hj : j < 16) : (wr.cell? ⟨g, i * 16 + j, none⟩).isSome = true := by
  obtain ⟨cs, h1, h2⟩ := h.c
  have hB : BlkC 34 wr g cs.toList := h1
  rw [hB.cell, List.getElem?_eq_getElem (by rw [Array.length_toList, h2]; omega)]
  rfl
theorem SV.one (v : SV) : ∀ u ∈ v.cells, u.oneCell' = true := by
  intro u hu
  unfold SV.cells at hu
  simp only [List.mem_cons, List.not_mem_nil, or_false] at hu
  rcases hu with rfl | rfl | rfl | rfl | rfl | rfl | rfl | rfl | rfl | rfl | rfl | rfl | rfl | rfl | rfl | rfl <;> rfl
theorem LRow.st (h : LRow w g m i wr) (hi : i < m) (v : SV) : Sem.run Try.prog (storeCells ⟨g, i * 16, none⟩ v.cells 0) wr = .ok () (wr.setCells g (i * 16) v.cells) := by
  obtain ⟨cs, h1, h2⟩ := h.c
  have hB : BlkC 34 wr g cs.toList := h1
  exact run_storeCells_cells (P := Try.prog) g (i * 16) v.cells 0 wr (fun j hj => by rw [Nat.add_zero]; exact h.some hi hj) (fun j hj => hB.free _) v.one
theorem LRow.put (h : LRow w g m i wr) (hi : i < m) {v : SV} (hv : v.ok wr (lS i)) : LRow w g m (i + 1) (wr.setCells g (i * 16) v.cells) := by
  obtain ⟨cs, h1, h2⟩ := h.c
  have hk : Keep wr (wr.setCells g (i * 16) v.cells) := setCells_keep g (by decide) _ _ _ ⟨_, h1⟩
  refine ⟨h.b.grown (setCells_grown g _ _ _) h.b.size (fun q hq => by cases hq; exact h.gb), h.gb, setCells_shape g _ _ _ h.c, fun j hj => ?_⟩
  rcases Nat.lt_or_ge j i with hji | hji
  · obtain ⟨u, k1, k2⟩ := h.s j hji
    refine ⟨u, fun k c hc => ?_, k2.keep hk⟩
    have hk16 : k < 16 := (List.getElem?_eq_some_iff.1 hc).1
    rw [World.cell?_setCells_out g _ _ _ _ (fun _ _ => .inl (show j * 16 + k < i * 16 by omega))]
    exact k1 k c hc
  · have e : j = i := by omega
    subst e
    refine ⟨v, fun k c hc => ?_, hv.keep hk⟩
    obtain ⟨hlt, e⟩ := List.getElem?_eq_some_iff.1 hc
    rw [World.cell?_setCells_in g v.cells (j * 16) wr (fun q hq => h.some hi hq) k hlt, e]
theorem LRow.row (h : LRow w g m m wr) {n : Nat} (hn : n ≤ m) : SegRow wr g (lL n) := by
  obtain ⟨cs, h1, h2⟩ := h.c
  refine ⟨(Array.getElem?_eq_some_iff.1 h1).1, fun i s hs => ?_⟩
  have hi : i < n := by have := (List.getElem?_eq_some_iff.1 hs).1; rwa [lL_len] at this
  rw [lL_get hi] at hs
  cases hs
  obtain ⟨v, k1, k2⟩ := h.s i (by omega)
  exact ⟨v, fun j c hj => k1 j c hj, k2⟩
end
theorem sweep_n (n : Int) : ∃ m : Nat, 19995 ≤ m ∧ m ≤ 20004 ∧ wrap64 (19995 + wrap64 ((IntKind.u64.wrap n).tmod 10)) = (m : Int) := by
  have h0 : 0 ≤ IntKind.u64.wrap n := by rw [IntKind.wrap_u64]; omega
  rw [Int.tmod_eq_emod_of_nonneg h0]
  refine ⟨19995 + (IntKind.u64.wrap n % 10).toNat, ?_, ?_, ?_⟩
  · omega
  · omega
  · unfold wrap64; omega
end Go.Proofs.Ytnojfiokdhcbjaa
