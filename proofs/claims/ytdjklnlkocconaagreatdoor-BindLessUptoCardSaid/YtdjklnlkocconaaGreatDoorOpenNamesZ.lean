/-
  Statements as an argument: their names' lengths are ints. No walk.
-/
import Derived.Test.YtdjklnlkocconaaGreatDoorOpAZ
import Derived.Test.YtdjklnlkocconaaGreatDoorRpCZ
namespace Go.Proofs.YtdjklnlkocconaaGreatDoor
open Go Go.ChangeShapes Go.WideShapes Go.ChangeAt Go.WideMaps Go.WideElems Go.RowKit

section
variable {H : Type} {enc : TypeId × Value → H} {W : World}

theorem At3.eq {w : World} {g o : Nat} {v : Value} {cs : List Value} (h : At3 w g o v) (hc : ∀ j, j < 3 → w.cell? ⟨g, o + j, none⟩ = cs[j]?) (hl : cs.length = 3) : ∃ x y z, v = .agg #[x, y, z] ∧ cs = [x, y, z] := by
  obtain ⟨x, y, z, rfl, h0, h1, h2⟩ := h
  obtain ⟨c0, c1, c2, rfl⟩ := list3 hl
  have e0 := (hc 0 (by decide)).symm.trans h0
  have e1 := (hc 1 (by decide)).symm.trans h1
  have e2 := (hc 2 (by decide)).symm.trans h2
  simp only [List.getElem?_cons_succ, List.getElem?_cons_zero, Option.some.injEq] at e0 e1 e2
  subst e0; subst e1; subst e2
  exact ⟨_, _, _, rfl, rfl⟩

set_option maxRecDepth 100000 in
theorem open_names (fuel : Nat) : ∀ (n : Nd) (c0 c1 c2 : Value) (x : DataW H × List MemPlace), DataW.trod enc Tryz.prog W 0 (fun _ => true) true fuel 37 [c0, c1, c2] = some x → NdIs Any W n (.agg #[c0, c1, c2]) → NdB n := by
  induction fuel using Nat.strongRecOn with
  | ind fuel ih =>
    intro n c0 c1 c2 x h hn
    obtain ⟨k, s, l⟩ := n
    unfold NdIs at hn
    obtain ⟨a, cap, e, hl, hk⟩ := hn
    cases e
    obtain ⟨xs, n1, rfl, rfl, _, hlen, hf⟩ := DataW.trod_struct Tryz.underlying37 h
    match xs, hlen with
    | [y0, y1, y2], _ =>
      have f1 : DataW.trod enc Tryz.prog W 0 (fun _ => true) true n1 9 ((([.int .i64 k, .string (bs s), .slice a l.length cap] : List Value).drop 1).take (Tryz.prog.cellsOf 9)) = some y1 := hf 1 _ rfl
      rw [cellsStr] at f1
      have f2 : DataW.trod enc Tryz.prog W 0 (fun _ => true) true n1 35 ((([.int .i64 k, .string (bs s), .slice a l.length cap] : List Value).drop 2).take (Tryz.prog.cellsOf 35)) = some y2 := hf 2 _ rfl
      rw [cellsKids] at f2
      have g1 : DataW.trod enc Tryz.prog W 0 (fun _ => true) true n1 9 [.string (bs s)] = some y1 := f1
      have g2 : DataW.trod enc Tryz.prog W 0 (fun _ => true) true n1 35 [.slice a l.length cap] = some y2 := f2
      obtain ⟨s', e1, _, hs⟩ := DataW.trod_string Tryz.underlying9 g1
      cases e1
      refine .mk k s l (by rw [← bs_size]; exact hs) fun z hz => ?_
      obtain ⟨i, hi⟩ := List.getElem?_of_mem hz
      have hil : i < l.length := (List.getElem?_eq_some_iff.1 hi).1
      rcases hk with rfl | ⟨g, o, rfl, _, hg, hnds⟩
      · simp at hi
      · rcases DataW.trod_slice Tryz.underlying35 g2 with ⟨e2, _⟩ | ⟨a', len, cap', elems, rest, n2, hn2, e2, _, _, _, _, hel, hat, _, _⟩
        · cases e2
        · cases e2
          rw [cellsNode] at hat
          have h1 := hat i hil
          rw [List.getElem?_eq_getElem (by omega)] at h1
          obtain ⟨csi, h2, h3⟩ := Option.bind_eq_some_iff.1 h1
          rw [add_none] at h2
          obtain ⟨_, h4, h5⟩ := World.cells?_some h2
          obtain ⟨vz, hz1, hz2⟩ := hnds.get i z hi
          obtain ⟨p, q, r, rfl, rfl⟩ := hz1.eq (cs := csi) (fun j hj => by have := h5 j hj; rw [add_none] at this; exact this) h4
          exact ih n2 (by omega) z p q r _ h3 hz2

set_option maxRecDepth 100000 in
theorem open_names_st (fuel : Nat) (t : St) (A B : NV) (x : DataW H × List MemPlace) (h : DataW.trod enc Tryz.prog W 0 (fun _ => true) true fuel 39 (stCells t A B) = some x) (ha : NdIs Any W t.a A.val) (hb : NdIs Any W t.b B.val) :
    t.name.length ≤ maxLen ∧ NdB t.a ∧ NdB t.b := by
  obtain ⟨xs, n1, rfl, rfl, _, hlen, hf⟩ := DataW.trod_struct Tryz.underlying39 h
  match xs, hlen with
  | [y0, y1, y2, y3, y4, y5, y6, y7, y8], _ =>
    have f1 : DataW.trod enc Tryz.prog W 0 (fun _ => true) true n1 9 (((stCells t A B).drop 1).take (Tryz.prog.cellsOf 9)) = some y1 := hf 1 _ rfl
    rw [cellsStr] at f1
    have f2 : DataW.trod enc Tryz.prog W 0 (fun _ => true) true n1 37 (((stCells t A B).drop 2).take (Tryz.prog.cellsOf 37)) = some y2 := hf 2 _ rfl
    rw [cellsNode] at f2
    have f3 : DataW.trod enc Tryz.prog W 0 (fun _ => true) true n1 37 (((stCells t A B).drop 5).take (Tryz.prog.cellsOf 37)) = some y3 := hf 3 _ rfl
    rw [cellsNode] at f3
    have g1 : DataW.trod enc Tryz.prog W 0 (fun _ => true) true n1 9 [.string (bs t.name)] = some y1 := f1
    obtain ⟨s', e1, _, hs⟩ := DataW.trod_string Tryz.underlying9 g1
    cases e1
    exact ⟨by rw [← bs_size]; exact hs, open_names n1 t.a _ _ _ _ f2 ha, open_names n1 t.b _ _ _ _ f3 hb⟩

set_option maxRecDepth 100000 in
/-- All names of statements that came in. -/
theorem open_names_sts {v : Value} {d : DataW H} {p : List MemPlace} {l : List St} (hv : StsIs W v l) (h : DataW.Trod enc Tryz.prog W 0 (fun _ => true) true 22 v d p) : ∀ x ∈ l, x.name.length ≤ maxLen ∧ NdB x.a ∧ NdB x.b := by
  intro x hx
  obtain ⟨i, hi⟩ := List.getElem?_of_mem hx
  have hil : i < l.length := (List.getElem?_eq_some_iff.1 hi).1
  obtain ⟨g, o, cap, rfl, hg, A, B, h1, h2, h3⟩ := hv.get hi
  obtain ⟨fuel, hf⟩ := h
  have hone : (Value.slice (some ⟨g, o, none⟩) l.length cap).cells.toList = [.slice (some ⟨g, o, none⟩) l.length cap] := rfl
  rw [hone] at hf
  rcases DataW.trod_slice Tryz.underlying22 hf with ⟨e2, _⟩ | ⟨a', len, cap', elems, rest, n2, hn2, e2, _, _, _, _, hel, hat, _, _⟩
  · cases e2
  · cases e2
    rw [cellsStmt] at hat
    have k1 := hat i hil
    rw [List.getElem?_eq_getElem (by omega)] at k1
    obtain ⟨csi, k2, k3⟩ := Option.bind_eq_some_iff.1 k1
    rw [add_none] at k2
    obtain ⟨_, k4, k5⟩ := World.cells?_some k2
    have e : csi = stCells x A B := by
      apply List.ext_getElem?
      intro j
      by_cases hj : j < 13
      · have := k5 j hj
        rw [add_none] at this
        rw [← this, h1 j hj]
      · rw [List.getElem?_eq_none (by omega), List.getElem?_eq_none (by rw [stCells_length]; omega)]
    subst e
    exact open_names_st n2 x A B _ k3 h2 h3
end
end Go.Proofs.YtdjklnlkocconaaGreatDoor
