/-
  SweepTurns' closure: is a pair in a row of pairs? And a call of sweep.Pairs at any distance.
-/
import Derived.Test.YtnojfiokdhcbjaaSwC
namespace Go.Proofs.Ytnojfiokdhcbjaa
open Go Go.RowKit Go.Lib Go.Sort Go.Shelf

theorem PairRow.still {w w' : World} {v : Value} {l : List (Nat × Nat)} (h : PairRow w v l) (hb : ∀ g, g < w.heap.size → w'.heap[g]? = w.heap[g]?) : PairRow w' v l := by
  rcases h with ⟨rfl, rfl⟩ | ⟨g, cap, cs, rfl, h1, h2, h3, h4⟩
  · exact .inl ⟨rfl, rfl⟩
  · exact .inr ⟨g, cap, cs, rfl, (hb g (Array.getElem?_eq_some_iff.1 h1).1).trans h1, h2, h3, h4⟩
theorem grow_gr (w : World) (n : Nat) (os : Array Obj) : Gr w (grow (w.drewN n) os) :=
  gr_of_grown ⟨rfl, rfl, rfl, (by show w.heap.size ≤ (w.heap ++ os).size; rw [Array.size_append]; omega), fun g hg _ => (by show (w.heap ++ os)[g]? = _; rw [Array.getElem?_append_left hg])⟩ (Nat.le_add_right _ _)

set_option maxHeartbeats 4000000 in
set_option maxRecDepth 100000 in
theorem has_any (l : List (Nat × Nat)) (a b : Nat) (v : Value) (w : World) (hv : PairRow w v l) (hl : l.length ≤ 400000000) :
    Calls Try.prog 12 #[v, .agg #[.int .i64 (a : Int), .int .i64 (b : Int)]] w fun e w' => e = .returned (.bool (decide ((a, b) ∈ l))) ∧ Own w.heap.size w w' := by
  have hv0 := hv
  obtain ⟨o, cap, rfl, hc⟩ := hv.shape
  obtain ⟨n, hn⟩ : ∃ n, n = l.length := ⟨_, rfl⟩
  rw [← hn] at hl
  rw [← hn]
  have HN := Lib.hid hn
  have HC := Lib.hid hc
  have HV := Lib.hid hv0
  have HP : Hid (BlkC 56 (w.alloc (.cells #[.int .i64 (a : Int), .int .i64 (b : Int)] 56)) w.heap.size [.int .i64 (a : Int), .int .i64 (b : Int)]) := BlkC.new _ w [.int .i64 (a : Int), .int .i64 (b : Int)]
  have HG : Hid (Own w.heap.size w (w.alloc (.cells #[.int .i64 (a : Int), .int .i64 (b : Int)] 56))) := own_alloc _ _
  clear hv hv0 hc hn
  have mixed : Try.prog.follows .mixedOrders = true := by kernel_rfl
  go_enter Try.func12, Try.ntmps12
  go_wp2_with fail
  go_loopg [5] n (fun kx s wr => ∃ i : Nat, s = .int .i64 i ∧ i ≤ n ∧ n ≤ kx + i ∧ Hid (Own w.heap.size w wr ∧ BlkC 56 wr w.heap.size [.int .i64 (a : Int), .int .i64 (b : Int)] ∧ ∀ j, j < i → l[j]? ≠ some (a, b)))
  case atStart => exact ⟨0, rfl, Nat.zero_le _, by omega, HG.out, HP.out, fun j hj => absurd hj (Nat.not_lt_zero _)⟩
  case round =>
    clear HP HG
    obtain ⟨i, rfl, him, hkx, HI⟩ := hrel
    by_cases hlt : i < n
    · have hlz : (i : Int) < (n : Int) := by omega
      obtain ⟨p, hp⟩ : ∃ p, l[i]? = some p := ⟨_, List.getElem?_eq_getElem (by have := HN.out; omega)⟩
      have HQ := Lib.hid hp
      obtain ⟨g, rfl, hlc, x0, x1⟩ := HC.out i p hp
      have hgl : g < w.heap.size := World.block_lt_of_cell? _ _ x0
      have y0 : wr.cell? ⟨g, i * 2, none⟩ = some (.int .i64 (p.1 : Int)) := (World.cell?_of_block (a := ⟨g, _, none⟩) (HI.out.1.b.block g hgl)).trans x0
      have y1 : wr.cell? ⟨g, i * 2 + 1, none⟩ = some (.int .i64 (p.2 : Int)) := (World.cell?_of_block (a := ⟨g, _, none⟩) (HI.out.1.b.block g hgl)).trans x1
      have c0 : wr.cell? ⟨w.heap.size, 0, none⟩ = some (.int .i64 (a : Int)) := by rw [HI.out.2.1.cell 0]; rfl
      have c1 : wr.cell? ⟨w.heap.size, 1, none⟩ = some (.int .i64 (b : Int)) := by rw [HI.out.2.1.cell 1]; rfl
      have eii : ((i : Int)).toNat = i := by omega
      have pii : (0 : Int) ≤ (i : Int) := by omega
      have rii : IntKind.i64.wrap ((i : Int)) = (i : Int) := by rw [IntKind.wrap_i64]; omega
      have glr : g < wr.heap.size := Nat.lt_of_lt_of_le hgl HI.out.1.b.size
      have blr : w.heap.size < wr.heap.size := HI.out.2.1.lt
      clear hp x0 x1
      by_cases hpe : p = (a, b)
      · have hd : ((p.1 : Int) == (a : Int) && (p.2 : Int) == (b : Int)) = true := by rw [hpe]; simp
        have HE : Hid (decide ((a, b) ∈ l) = true) := Lib.hid (decide_eq_true (by rw [← hpe]; exact List.mem_of_getElem? HQ.out))
        clear hpe
        go_wp2_with fail
        go_quiet (fail)
        have HD : Hid (Own w.heap.size w (wr.drewN nq)) := HI.out.1.call HI.out.1.b.size (gr_of_grown ⟨rfl, rfl, rfl, Nat.le_refl _, fun _ _ _ => rfl⟩ (Nat.le_add_right _ _))
        clear HI
        go_wp2_with fail
        rw [HE.out]
        go_ret
        exact ⟨rfl, HD.out⟩
      · have hd : ((p.1 : Int) == (a : Int) && (p.2 : Int) == (b : Int)) = false := by
          rw [Bool.and_eq_false_iff, beq_eq_false_iff_ne, beq_eq_false_iff_ne]
          rcases Classical.em ((p.1 : Int) = (a : Int)) with h | h
          · right
            intro h2
            exact hpe (Prod.ext (by omega) (by omega))
          · exact .inl h
        have HE : Hid (l[i]? ≠ some (a, b)) := Lib.hid (fun e => hpe (by have := HQ.out; rw [this] at e; exact Option.some.inj e))
        clear hpe
        go_wp2_with fail
        go_quiet (fail)
        have HD : Hid (Own w.heap.size w (wr.drewN nq) ∧ BlkC 56 (wr.drewN nq) w.heap.size [.int .i64 (a : Int), .int .i64 (b : Int)] ∧ ∀ j, j < i + 1 → l[j]? ≠ some (a, b)) := ⟨HI.out.1.call HI.out.1.b.size (gr_of_grown ⟨rfl, rfl, rfl, Nat.le_refl _, fun _ _ _ => rfl⟩ (Nat.le_add_right _ _)), HI.out.2.1, fun j hj => by
          rcases Nat.lt_or_ge j i with h | h
          · exact HI.out.2.2 j h
          · rw [show j = i by omega]; exact HE.out⟩
        clear HI HE HQ y0 y1 c0 c1
        generalize wr.drewN nq = w2 at *
        go_wp2_with fail
        go_roundg (n - (i + 1))
        case measure => omega
        case rel => exact ⟨i + 1, by go_num, by omega, by omega, HD⟩
    · have hlz : ¬ (i : Int) < (n : Int) := by omega
      have HE : Hid (decide ((a, b) ∈ l) = false) := Lib.hid (decide_eq_false (fun h => by
        obtain ⟨j, hj⟩ := List.getElem?_of_mem h
        have hjl := (List.getElem?_eq_some_iff.1 hj).1
        exact HI.out.2.2 j (by have := HN.out; omega) hj))
      go_wp2_with fail
      rw [HE.out]
      go_ret
      exact ⟨rfl, HI.out.1⟩
/-- sweep.Pairs at any distance, of few segments. -/
theorem pairsU_any (ss ts : List Sg) (u v : Value) (d : Int) (w : World) (ha : SegSlice w u ss) (hb : SegSlice w v ts) (hs : ss.length ≤ 14) (ht : ts.length ≤ 14) (hd : I64 d) (hsl : ∀ s, s ∈ ss → SgL s) (htl : ∀ s, s ∈ ts → SgL s) :
    Calls Try.prog 8 #[u, v, .int .i64 d] w fun e w' => ∃ (r : Value) (ec : Int), e = .returned (.tuple #[r, .int .i64 ec]) ∧ (0 ≤ d → ec = 0 ∧ PairRow w' r (pairsS (boxesL ss (d : Rat) false) (boxesL ts 0 true))) ∧ (d < 0 → ec = 1 ∧ r = .slice none 0 0) ∧ Below w.heap.size w w' := by
  by_cases hneg : d < 0
  · obtain ⟨oa, ca, rfl, _⟩ := ha
    obtain ⟨ob, cb, rfl, _⟩ := hb
    refine (pairsNeg_any oa ob ss.length ts.length ca cb d w hneg).mono ?_
    rintro e w3 ⟨rfl, hb3⟩
    exact ⟨_, _, rfl, fun h => by omega, fun _ => ⟨rfl, rfl⟩, hb3⟩
  · refine (pairsAll_any ss ts u v d w ha hb (by omega) (by omega) (by omega) hd.2 hsl htl).mono ?_
    rintro e w3 ⟨r3, rfl, hp3, hb3⟩
    exact ⟨_, _, rfl, fun _ => ⟨rfl, hp3⟩, fun h => by omega, hb3⟩
end Go.Proofs.Ytnojfiokdhcbjaa
