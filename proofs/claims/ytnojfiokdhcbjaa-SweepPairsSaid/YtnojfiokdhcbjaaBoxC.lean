/-
  slices.SortFunc at pairs of places (Pairs$3): the walk of the comparison, and what the sort gives.
-/
import Derived.Test.YtnojfiokdhcbjaaBoxB
import Derived.Shelf.SlSortCmp.WholeK
namespace Go.Proofs.Ytnojfiokdhcbjaa
open Go Go.RowKit Go.Lib Go.Sort Go.Shelf

/-- A pair of places. -/
structure P2 where
  a : Nat
  b : Nat
  ha : a < 1073741824
  hb : b < 1073741824
instance : Inhabited P2 := ⟨⟨0, 0, by omega, by omega⟩⟩
def P2.enc (p : P2) : List Value := [.int .i64 (p.a : Int), .int .i64 (p.b : Int)]
theorem P2.one (p : P2) : ∀ u ∈ p.enc, u.oneCell' = true := by
  intro u hu
  unfold P2.enc at hu
  simp only [List.mem_cons, List.not_mem_nil, or_false] at hu
  rcases hu with rfl | rfl <;> rfl
def byPair (p q : P2) : Int := if p.a = q.a then (p.b : Int) - (q.b : Int) else (p.a : Int) - (q.a : Int)
theorem byPair_lt (p q : P2) : ltOf byPair p q = decide (p.a < q.a ∨ (p.a = q.a ∧ p.b < q.b)) := by
  unfold ltOf byPair
  by_cases h : p.a = q.a
  · rw [if_pos h]; exact decide_eq_decide.2 (by omega)
  · rw [if_neg h]; exact decide_eq_decide.2 (by omega)
theorem byPair_swo : SWO (ltOf byPair) where
  irrefl x := by rw [byPair_lt]; simp
  trans x y z h1 h2 := by rw [byPair_lt] at *; simp only [decide_eq_true_eq] at *; omega
  ntrans x y z h1 h2 := by rw [byPair_lt] at *; simp only [decide_eq_false_iff_not] at *; omega

set_option maxHeartbeats 4000000 in
set_option maxRecDepth 100000 in
theorem byPair_any (p q : P2) (w : World) :
    Calls Try.prog 25 #[.agg p.enc.toArray, .agg q.enc.toArray] w fun e w' => e = .returned (.int .i64 (byPair p q)) ∧ Own w.heap.size w w' := by
  obtain ⟨a, b, ha, hb⟩ := p
  obtain ⟨c, d, hc, hd⟩ := q
  have HB1 : Hid (BlkC 56 ((w.alloc (.cells #[.int .i64 (a : Int), .int .i64 (b : Int)] 56)).alloc (.cells #[.int .i64 (c : Int), .int .i64 (d : Int)] 56)) w.heap.size [.int .i64 (a : Int), .int .i64 (b : Int)]) := (BlkC.new _ w [.int .i64 (a : Int), .int .i64 (b : Int)]).still (grown_alloc _ _ none)
  have HB2 : Hid (BlkC 56 ((w.alloc (.cells #[.int .i64 (a : Int), .int .i64 (b : Int)] 56)).alloc (.cells #[.int .i64 (c : Int), .int .i64 (d : Int)] 56)) (w.heap.size + 1) [.int .i64 (c : Int), .int .i64 (d : Int)]) := blk_at (cs := [.int .i64 (c : Int), .int .i64 (d : Int)]) (by simp)
  have HG : Hid (Own w.heap.size w ((w.alloc (.cells #[.int .i64 (a : Int), .int .i64 (b : Int)] 56)).alloc (.cells #[.int .i64 (c : Int), .int .i64 (d : Int)] 56))) := (own_alloc _ _).alloc (by simp) _
  obtain ⟨x0, x1, x2, x3, x4⟩ := blk2 HB1.out
  obtain ⟨y0, y1, y2, y3, y4⟩ := blk2 HB2.out
  unfold P2.enc byPair
  by_cases h : a = c
  · subst h
    rw [if_pos rfl]
    go_enter Try.func25, Try.ntmps25
    go_wp2_with fail
    go_ret
    exact ⟨rfl, HG.out⟩
  · have hz : ¬ (a : Int) = (c : Int) := by omega
    rw [if_neg h]
    go_enter Try.func25, Try.ntmps25
    go_wp2_with fail
    go_ret
    exact ⟨rfl, HG.out⟩

theorem byPair_lays (w : World) (blk off sz : Nat) : CmpLays Try.prog 25 #[] P2.enc 2 byPair blk off sz w := by
  intro m os dk hdk x y
  refine (byPair_any x y _).mono ?_
  rintro e w' ⟨rfl, ho⟩
  exact ⟨rfl, own_grow ho⟩

theorem sortPairs_any (w : World) (blk off cap sz : Nat) (d : Array P2) (hd : d.size = sz) (hH : HoldsK P2.enc 2 w blk off d) (hblk : blk < w.heap.size) (hsz : sz < 4611686018427387904) :
    Calls Try.prog 24 #[.slice (some ⟨blk, off, none⟩) sz cap, .func (.func 25) #[] #[]] w fun e w' => e = .returned (.tuple #[]) ∧ ∃ d' : Array P2, PermIn 0 sz d d' ∧ SortedIn (ltOf byPair) 0 sz d' ∧ SWK P2.enc 2 w blk off d' w' := by
  subst hd
  have h := AnyQ.slices_SortFunc Try.sortL 2 Try.isAgg56 Try.sizeOf56 P2.enc (fun _ => rfl) P2.one byPair byPair_swo 25 #[] blk off cap d w (fun args w => Try.call25 args w) (byPair_lays w blk off d.size) hH hblk hsz
  change Calls Try.prog 24 _ _ _ at h
  refine Calls.mono h ?_
  rintro e w' ⟨rfl, d', n, os, h1, h2, rfl⟩
  exact ⟨rfl, d', h1, h2, n, os, rfl⟩
end Go.Proofs.Ytnojfiokdhcbjaa
