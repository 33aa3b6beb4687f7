/-
  SweepTurns' closure: is a pair in a row of pairs? And a call of sweep.Pairs at any distance.
  SweepTurns, in plain Lean: the pairs of boxes that meet, the other way round and at a greater distance.
  SweepTurns: the walk.
-/
import Derived.Test.YtnojfiokdhcbjaaSwC
import Derived.Test.YtnojfiokdhcbjaaSwP
import Derived.Test.YtnojfiokdhcbjaaSegA
namespace Go.Proofs.Ytnojfiokdhcbjaa
open Go Go.RowKit Go.Lib Go.Sort Go.Shelf

theorem PairRow.still {w w' : World} {v : Value} {l : List (Nat × Nat)} (h : PairRow w v l) (hb : ∀ g, g < w.heap.size → w'.heap[g]? = w.heap[g]?) : PairRow w' v l := by
  rcases h with ⟨rfl, rfl⟩ | ⟨g, cap, cs, rfl, h1, h2, h3, h4⟩
  · exact .inl ⟨rfl, rfl⟩
  · exact .inr ⟨g, cap, cs, rfl, (hb g (Array.getElem?_eq_some_iff.1 h1).1).trans h1, h2, h3, h4⟩
theorem grow_gr (w : World) (n : Nat) (os : Array Obj) : Gr w (grow (w.drewN n) os) :=
  gr_of_grown ⟨rfl, rfl, rfl, (by show w.heap.size ≤ (w.heap ++ os).size; rw [Array.size_append]; omega), fun g hg _ => (by show (w.heap ++ os)[g]? = _; rw [Array.getElem?_append_left hg])⟩ (Nat.le_add_right _ _)

set_option maxHeartbeats 4000000 in
set_option maxRecDepth 100000 in
theorem has_any (l : List (Nat × Nat)) (a b : Nat) (v : Value) (w : World) (hv : PairRow w v l) (hl : l.length ≤ 400000000) :
    Calls Try.prog 12 #[v, .agg #[.int .i64 (a : Int), .int .i64 (b : Int)]] w fun e w' => e = .returned (.bool (decide ((a, b) ∈ l))) ∧ Own w.heap.size w w' := by
  have hv0 := hv
  obtain ⟨o, cap, rfl, hc⟩ := hv.shape
  obtain ⟨n, hn⟩ : ∃ n, n = l.length := ⟨_, rfl⟩
  rw [← hn] at hl
  rw [← hn]
  have HN := Lib.hid hn
  have HC := Lib.hid hc
  have HV := Lib.hid hv0
  have HP : Hid (BlkC 56 (w.alloc (.cells #[.int .i64 (a : Int), .int .i64 (b : Int)] 56)) w.heap.size [.int .i64 (a : Int), .int .i64 (b : Int)]) := BlkC.new _ w [.int .i64 (a : Int), .int .i64 (b : Int)]
  have HG : Hid (Own w.heap.size w (w.alloc (.cells #[.int .i64 (a : Int), .int .i64 (b : Int)] 56))) := own_alloc _ _
  clear hv hv0 hc hn
  have mixed : Try.prog.follows .mixedOrders = true := by kernel_rfl
  go_enter Try.func12, Try.ntmps12
  go_wp2_with fail
  go_loopg [5] n (fun kx s wr => ∃ i : Nat, s = .int .i64 i ∧ i ≤ n ∧ n ≤ kx + i ∧ Hid (Own w.heap.size w wr ∧ BlkC 56 wr w.heap.size [.int .i64 (a : Int), .int .i64 (b : Int)] ∧ ∀ j, j < i → l[j]? ≠ some (a, b)))
  case atStart => exact ⟨0, rfl, Nat.zero_le _, by omega, HG.out, HP.out, fun j hj => absurd hj (Nat.not_lt_zero _)⟩
  case round =>
    clear HP HG
    obtain ⟨i, rfl, him, hkx, HI⟩ := hrel
    by_cases hlt : i < n
    · have hlz : (i : Int) < (n : Int) := by omega
      obtain ⟨p, hp⟩ : ∃ p, l[i]? = some p := ⟨_, List.getElem?_eq_getElem (by have := HN.out; omega)⟩
      have HQ := Lib.hid hp
      obtain ⟨g, rfl, hlc, x0, x1⟩ := HC.out i p hp
      have hgl : g < w.heap.size := World.block_lt_of_cell? _ _ x0
      have y0 : wr.cell? ⟨g, i * 2, none⟩ = some (.int .i64 (p.1 : Int)) := (World.cell?_of_block (a := ⟨g, _, none⟩) (HI.out.1.b.block g hgl)).trans x0
      have y1 : wr.cell? ⟨g, i * 2 + 1, none⟩ = some (.int .i64 (p.2 : Int)) := (World.cell?_of_block (a := ⟨g, _, none⟩) (HI.out.1.b.block g hgl)).trans x1
      have c0 : wr.cell? ⟨w.heap.size, 0, none⟩ = some (.int .i64 (a : Int)) := by rw [HI.out.2.1.cell 0]; rfl
      have c1 : wr.cell? ⟨w.heap.size, 1, none⟩ = some (.int .i64 (b : Int)) := by rw [HI.out.2.1.cell 1]; rfl
      have eii : ((i : Int)).toNat = i := by omega
      have pii : (0 : Int) ≤ (i : Int) := by omega
      have rii : IntKind.i64.wrap ((i : Int)) = (i : Int) := by rw [IntKind.wrap_i64]; omega
      have glr : g < wr.heap.size := Nat.lt_of_lt_of_le hgl HI.out.1.b.size
      have blr : w.heap.size < wr.heap.size := HI.out.2.1.lt
      clear hp x0 x1
      by_cases hpe : p = (a, b)
      · have hd : ((p.1 : Int) == (a : Int) && (p.2 : Int) == (b : Int)) = true := by rw [hpe]; simp
        have HE : Hid (decide ((a, b) ∈ l) = true) := Lib.hid (decide_eq_true (by rw [← hpe]; exact List.mem_of_getElem? HQ.out))
        clear hpe
        go_wp2_with fail
        go_quiet (fail)
        have HD : Hid (Own w.heap.size w (wr.drewN nq)) := HI.out.1.call HI.out.1.b.size (gr_of_grown ⟨rfl, rfl, rfl, Nat.le_refl _, fun _ _ _ => rfl⟩ (Nat.le_add_right _ _))
        clear HI
        go_wp2_with fail
        rw [HE.out]
        go_ret
        exact ⟨rfl, HD.out⟩
      · have hd : ((p.1 : Int) == (a : Int) && (p.2 : Int) == (b : Int)) = false := by
          rw [Bool.and_eq_false_iff, beq_eq_false_iff_ne, beq_eq_false_iff_ne]
          rcases Classical.em ((p.1 : Int) = (a : Int)) with h | h
          · right
            intro h2
            exact hpe (Prod.ext (by omega) (by omega))
          · exact .inl h
        have HE : Hid (l[i]? ≠ some (a, b)) := Lib.hid (fun e => hpe (by have := HQ.out; rw [this] at e; exact Option.some.inj e))
        clear hpe
        go_wp2_with fail
        go_quiet (fail)
        have HD : Hid (Own w.heap.size w (wr.drewN nq) ∧ BlkC 56 (wr.drewN nq) w.heap.size [.int .i64 (a : Int), .int .i64 (b : Int)] ∧ ∀ j, j < i + 1 → l[j]? ≠ some (a, b)) := ⟨HI.out.1.call HI.out.1.b.size (gr_of_grown ⟨rfl, rfl, rfl, Nat.le_refl _, fun _ _ _ => rfl⟩ (Nat.le_add_right _ _)), HI.out.2.1, fun j hj => by
          rcases Nat.lt_or_ge j i with h | h
          · exact HI.out.2.2 j h
          · rw [show j = i by omega]; exact HE.out⟩
        clear HI HE HQ y0 y1 c0 c1
        generalize wr.drewN nq = w2 at *
        go_wp2_with fail
        go_roundg (n - (i + 1))
        case measure => omega
        case rel => exact ⟨i + 1, by go_num, by omega, by omega, HD⟩
    · have hlz : ¬ (i : Int) < (n : Int) := by omega
      have HE : Hid (decide ((a, b) ∈ l) = false) := Lib.hid (decide_eq_false (fun h => by
        obtain ⟨j, hj⟩ := List.getElem?_of_mem h
        have hjl := (List.getElem?_eq_some_iff.1 hj).1
        exact HI.out.2.2 j (by have := HN.out; omega) hj))
      go_wp2_with fail
      rw [HE.out]
      go_ret
      exact ⟨rfl, HI.out.1⟩
/-- sweep.Pairs at any distance, of few segments. -/
theorem pairsU_any (ss ts : List Sg) (u v : Value) (d : Int) (w : World) (ha : SegSlice w u ss) (hb : SegSlice w v ts) (hs : ss.length ≤ 14) (ht : ts.length ≤ 14) (hd : I64 d) (hsl : ∀ s, s ∈ ss → SgL s) (htl : ∀ s, s ∈ ts → SgL s) :
    Calls Try.prog 8 #[u, v, .int .i64 d] w fun e w' => ∃ (r : Value) (ec : Int), e = .returned (.tuple #[r, .int .i64 ec]) ∧ (0 ≤ d → ec = 0 ∧ PairRow w' r (pairsS (boxesL ss (d : Rat) false) (boxesL ts 0 true))) ∧ (d < 0 → ec = 1 ∧ r = .slice none 0 0) ∧ Below w.heap.size w w' := by
  by_cases hneg : d < 0
  · obtain ⟨oa, ca, rfl, _⟩ := ha
    obtain ⟨ob, cb, rfl, _⟩ := hb
    refine (pairsNeg_any oa ob ss.length ts.length ca cb d w hneg).mono ?_
    rintro e w3 ⟨rfl, hb3⟩
    exact ⟨_, _, rfl, fun h => by omega, fun _ => ⟨rfl, rfl⟩, hb3⟩
  · refine (pairsAll_any ss ts u v d w ha hb (by omega) (by omega) (by omega) hd.2 hsl htl).mono ?_
    rintro e w3 ⟨r3, rfl, hp3, hb3⟩
    exact ⟨_, _, rfl, fun _ => ⟨rfl, hp3⟩, fun h => by omega, hb3⟩
end Go.Proofs.Ytnojfiokdhcbjaa

namespace Go.Proofs.Ytnojfiokdhcbjaa
open Go

/-- Two segments' boxes meet, the first one's grown by a distance. -/
def nearB (s t : Sg) (d : Rat) : Bool := meets (boxS s d 0 false) (boxS t 0 0 true)
theorem near_box (s t : Sg) (d : Rat) (i j : Nat) (a b : Bool) : meets (boxS s d i a) (boxS t 0 j b) = nearB s t d := rfl
theorem near_comm (s t : Sg) (d : Rat) : nearB s t d = nearB t s d := by
  rw [Bool.eq_iff_iff]
  unfold nearB meets passes hits boxS
  simp only [Bool.and_eq_true, Bool.not_eq_true', decide_eq_false_iff_not]
  constructor <;> (rintro ⟨⟨h1, h2⟩, h3, h4⟩; refine ⟨⟨?_, ?_⟩, ?_, ?_⟩ <;> grind)
theorem near_mono {s t : Sg} {d e : Rat} (h : d ≤ e) (hn : nearB s t d = true) : nearB s t e = true := by
  revert hn
  unfold nearB meets passes hits boxS
  simp only [Bool.and_eq_true, Bool.not_eq_true', decide_eq_false_iff_not]
  rintro ⟨⟨h1, h2⟩, h3, h4⟩
  refine ⟨⟨?_, ?_⟩, ?_, ?_⟩ <;> grind
theorem boxesL_iff {ss : List Sg} {dl : Rat} {b : Bool} {x : Bx} : x ∈ boxesL ss dl b ↔ ∃ i s, ss[i]? = some s ∧ x = boxS s dl i b := by
  constructor
  · intro h
    obtain ⟨i, s, h1, -, h2⟩ := boxesL_at h
    exact ⟨i, s, h1, h2⟩
  · rintro ⟨i, s, h1, rfl⟩
    exact boxesL_get h1
theorem pairs_iff {ss ts : List Sg} {d : Rat} {p : Nat × Nat} : p ∈ pairsS (boxesL ss d false) (boxesL ts 0 true) ↔ ∃ s t, ss[p.1]? = some s ∧ ts[p.2]? = some t ∧ nearB s t d = true := by
  rw [pairsS_mem]
  constructor
  · rintro ⟨x, y, hx, hy, hm, rfl⟩
    obtain ⟨i, s, h1, rfl⟩ := boxesL_iff.1 hx
    obtain ⟨j, t, h2, rfl⟩ := boxesL_iff.1 hy
    exact ⟨s, t, h1, h2, hm⟩
  · rintro ⟨s, t, h1, h2, h3⟩
    exact ⟨_, _, boxesL_iff.2 ⟨p.1, s, h1, rfl⟩, boxesL_iff.2 ⟨p.2, t, h2, rfl⟩, h3, rfl⟩
theorem pairs_turn {ss ts : List Sg} {d : Rat} {p : Nat × Nat} (h : p ∈ pairsS (boxesL ss d false) (boxesL ts 0 true)) : (p.2, p.1) ∈ pairsS (boxesL ts d false) (boxesL ss 0 true) := by
  obtain ⟨s, t, h1, h2, h3⟩ := pairs_iff.1 h
  exact pairs_iff.2 ⟨t, s, h2, h1, by rw [near_comm]; exact h3⟩
theorem pairs_more {ss ts : List Sg} {d e : Rat} (hd : d ≤ e) {p : Nat × Nat} (h : p ∈ pairsS (boxesL ss d false) (boxesL ts 0 true)) : p ∈ pairsS (boxesL ss e false) (boxesL ts 0 true) := by
  obtain ⟨s, t, h1, h2, h3⟩ := pairs_iff.1 h
  exact pairs_iff.2 ⟨s, t, h1, h2, near_mono hd h3⟩
theorem pairs_nodup (ss ts : List Sg) (d : Rat) : (pairsS (boxesL ss d false) (boxesL ts 0 true)).Nodup := by
  refine (pairsS_sorted (boxesL_order ss d false) (boxesL_order ts 0 true)).imp ?_
  rintro p q h rfl
  exact ltP_irrefl _ h
theorem pairs_len (ss ts : List Sg) (d : Rat) : (pairsS (boxesL ss d false) (boxesL ts 0 true)).length = (pairsS (boxesL ts d false) (boxesL ss 0 true)).length := by
  have hn : ((pairsS (boxesL ss d false) (boxesL ts 0 true)).map fun p => (p.2, p.1)).Nodup := by
    unfold List.Nodup
    rw [List.pairwise_map]
    refine (pairs_nodup ss ts d).imp ?_
    intro p q h e
    exact h (by injection e with e1 e2; exact Prod.ext e2 e1)
  have hp := (List.perm_ext_iff_of_nodup hn (pairs_nodup ts ss d)).2 (fun p => by
    rw [List.mem_map]
    constructor
    · rintro ⟨q, hq, rfl⟩
      exact pairs_turn hq
    · intro h
      exact ⟨(p.2, p.1), pairs_turn h, rfl⟩)
  rw [← hp.length_eq, List.length_map]
/-- Each pair's places are below the lists' lengths. -/
theorem pairs_lt {ss ts : List Sg} {d : Rat} {p : Nat × Nat} (h : p ∈ pairsS (boxesL ss d false) (boxesL ts 0 true)) : p.1 < ss.length ∧ p.2 < ts.length := by
  obtain ⟨s, t, h1, h2, -⟩ := pairs_iff.1 h
  exact ⟨(List.getElem?_eq_some_iff.1 h1).1, (List.getElem?_eq_some_iff.1 h2).1⟩
end Go.Proofs.Ytnojfiokdhcbjaa

namespace Go.Proofs.Ytnojfiokdhcbjaa
open Go Go.RowKit Go.Lib Go.Sort Go.Shelf

theorem sg14_len (l : List PQ) : (sg14 l).length ≤ 14 := by
  unfold sg14
  rw [List.length_map, List.length_take]
  omega
theorem sg14_l {l : List PQ} (h : ∀ p ∈ l, p.ok) : ∀ s, s ∈ sg14 l → SgL s := by
  intro s hs
  unfold sg14 at hs
  obtain ⟨p, hp, rfl⟩ := List.mem_map.1 hs
  exact sgOf_l (h p (List.mem_of_mem_take hp))
theorem pairs_max (ss ts : List Sg) (d : Rat) (hs : ss.length ≤ 14) (ht : ts.length ≤ 14) : (pairsS (boxesL ss d false) (boxesL ts 0 true)).length ≤ 196 := by
  have h : ∀ (l : List Bx) (f : Bx → List (Nat × Nat)), (∀ x, (f x).length ≤ 14) → (l.flatMap f).length ≤ l.length * 14 := by
    intro l f hf
    induction l with
    | nil => simp
    | cons x r ih =>
      rw [List.flatMap_cons, List.length_append, List.length_cons, Nat.succ_mul]
      have := hf x
      omega
  have hb : ∀ (l : List Sg) (dl : Rat) (b : Bool), (boxesL l dl b).length = l.length := fun l dl b => by unfold boxesL; rw [List.length_mapIdx]
  have h1 := h (boxesL ss d false) (fun x => ((boxesL ts 0 true).filter (meets x)).map fun y => (x.i, y.i)) (fun x => by
    rw [List.length_map]
    have h2 := List.length_filter_le (meets x) (boxesL ts 0 true)
    rw [hb] at h2
    omega)
  rw [hb] at h1
  unfold pairsS
  omega

set_option maxHeartbeats 8000000 in
set_option maxRecDepth 100000 in
theorem sweepTurns_any (l m : List PQ) (u v : Value) (d more : Int) (w : World) (hu : PqIs w u l) (hv : PqIs w v m) (hd : I64 d) (hm : I64 more) :
    Calls Try.prog 5 #[u, v, .int .i64 d, .int .i64 more] w fun e w' => e = .returned (.bool true) ∧ Below w.heap.size w w' := by
  have HU := Lib.hid hu
  have HV := Lib.hid hv
  have HD := Lib.hid hd
  have HM := Lib.hid hm
  have HLS : Hid (∀ s, s ∈ sg14 l → SgL s) := Lib.hid (sg14_l hu.2.1)
  have HMS : Hid (∀ s, s ∈ sg14 m → SgL s) := Lib.hid (sg14_l hv.2.1)
  clear hu hv hd hm
  have mixed : Try.prog.follows .mixedOrders = true := by kernel_rfl
  go_enter Try.func5, Try.ntmps5
  go_wp2_with fail
  refine (segs_any l u _ HU.out).mono ?_
  rintro e w1 ⟨a1, b1, rfl, ha1, -, hg1⟩
  have HA1 := Lib.hid ha1
  have HG1 := Lib.hid hg1
  have HV1 := Lib.hid (HV.out.still (grown_of_below hg1 none))
  clear ha1 hg1 HV HU
  go_wp2_with fail
  refine (segs_any m v _ HV1.out).mono ?_
  rintro e w2 ⟨a2, b2, rfl, ha2, -, hg2⟩
  have HA2 := Lib.hid ha2
  have HA12 := Lib.hid (HA1.out.still hg2)
  have HG2 : Hid (Below w.heap.size w w2) := HG1.out.trans (hg2.mono HG1.out.size)
  clear ha2 hg2 HV1 HA1 HG1
  go_wp2_with fail
  refine (pairsU_any (sg14 l) (sg14 m) _ _ d _ HA12.out HA2.out (sg14_len l) (sg14_len m) HD.out HLS.out HMS.out).mono ?_
  rintro e w3 ⟨r3, c3, rfl, hp3, -, hg3⟩
  have HP3 := Lib.hid hp3
  have HA13 := Lib.hid (HA12.out.still hg3)
  have HA23 := Lib.hid (HA2.out.still hg3)
  have HG3 : Hid (Below w.heap.size w w3) := HG2.out.trans (hg3.mono HG2.out.size)
  clear hp3 hg3 HA12 HA2 HG2
  go_wp2_with fail
  refine (pairsU_any (sg14 m) (sg14 l) _ _ d _ HA23.out HA13.out (sg14_len m) (sg14_len l) HD.out HMS.out HLS.out).mono ?_
  rintro e w4 ⟨r4, c4, rfl, hp4, -, hg4⟩
  have HP4 := Lib.hid hp4
  have HP34 : Hid (0 ≤ d → c3 = 0 ∧ PairRow w4 r3 (pairsS (boxesL (sg14 l) (d : Rat) false) (boxesL (sg14 m) 0 true))) := Lib.hid (fun h => ⟨(HP3.out h).1, (HP3.out h).2.still fun g hg => hg4.block g hg⟩)
  have HA14 := Lib.hid (HA13.out.still hg4)
  have HA24 := Lib.hid (HA23.out.still hg4)
  have HG4 : Hid (Below w.heap.size w w4) := HG3.out.trans (hg4.mono HG3.out.size)
  clear hp4 hg4 HA13 HA23 HG3 HP3
  go_wp2_with fail
  refine (pairsU_any (sg14 l) (sg14 m) _ _ more _ HA14.out HA24.out (sg14_len l) (sg14_len m) HM.out HLS.out HMS.out).mono ?_
  rintro e w5 ⟨r5, c5, rfl, hp5, -, hg5⟩
  have HP5 := Lib.hid hp5
  have HP35 : Hid (0 ≤ d → c3 = 0 ∧ PairRow w5 r3 (pairsS (boxesL (sg14 l) (d : Rat) false) (boxesL (sg14 m) 0 true))) := Lib.hid (fun h => ⟨(HP34.out h).1, (HP34.out h).2.still fun g hg => hg5.block g hg⟩)
  have HP45 : Hid (0 ≤ d → c4 = 0 ∧ PairRow w5 r4 (pairsS (boxesL (sg14 m) (d : Rat) false) (boxesL (sg14 l) 0 true))) := Lib.hid (fun h => ⟨(HP4.out h).1, (HP4.out h).2.still fun g hg => hg5.block g hg⟩)
  have HG5 : Hid (Below w.heap.size w w5) := HG4.out.trans (hg5.mono HG4.out.size)
  clear hp5 hg5 HA14 HA24 HG4 HP34 HP4
  go_wp2_with fail
  refine (known20_any _).mono ?_
  rintro e w6 ⟨rfl, hg6⟩
  have HP56 : Hid (0 ≤ more → c5 = 0 ∧ PairRow w6 r5 (pairsS (boxesL (sg14 l) (more : Rat) false) (boxesL (sg14 m) 0 true))) := Lib.hid (fun h => ⟨(HP5.out h).1, (HP5.out h).2.still fun g hg => hg6.block g hg⟩)
  have HP36 : Hid (0 ≤ d → c3 = 0 ∧ PairRow w6 r3 (pairsS (boxesL (sg14 l) (d : Rat) false) (boxesL (sg14 m) 0 true))) := Lib.hid (fun h => ⟨(HP35.out h).1, (HP35.out h).2.still fun g hg => hg6.block g hg⟩)
  have HP46 : Hid (0 ≤ d → c4 = 0 ∧ PairRow w6 r4 (pairsS (boxesL (sg14 m) (d : Rat) false) (boxesL (sg14 l) 0 true))) := Lib.hid (fun h => ⟨(HP45.out h).1, (HP45.out h).2.still fun g hg => hg6.block g hg⟩)
  have HG6 : Hid (Below w.heap.size w w6) := HG5.out.trans (hg6.mono HG5.out.size)
  clear hg6 HG5 HP35 HP45 HP5
  by_cases hneg : d < 0
  · clear HP56 HP36 HP46
    go_wp2_with fail
    refine (known20_any _).mono ?_
    rintro e w7 ⟨rfl, hg7⟩
    have HG7 : Hid (Below w.heap.size w w7) := HG6.out.trans (hg7.mono HG6.out.size)
    clear hg7 HG6
    go_wp2_with fail
    go_ret
    exact ⟨rfl, HG7.out⟩
  · by_cases hless : more < d
    · clear HP56 HP36 HP46
      go_wp2_with fail
      refine (known20_any _).mono ?_
      rintro e w7 ⟨rfl, hg7⟩
      have HG7 : Hid (Below w.heap.size w w7) := HG6.out.trans (hg7.mono HG6.out.size)
      clear hg7 HG6
      go_wp2_with fail
      go_ret
      exact ⟨rfl, HG7.out⟩
    · have hd0 : 0 ≤ d := by omega
      have hm0 : 0 ≤ more := by omega
      have HDM : Hid ((d : Rat) ≤ (more : Rat)) := Lib.hid (Rat.intCast_le_intCast.2 (by omega))
      obtain ⟨e3, hr3⟩ := HP36.out hd0
      obtain ⟨e4, hr4⟩ := HP46.out hd0
      obtain ⟨e5, hr5⟩ := HP56.out hm0
      subst e3 e4 e5
      clear HP36 HP46 HP56
      have HR4 := Lib.hid hr4
      have HR5 := Lib.hid hr5
      have hr3' := hr3
      obtain ⟨o3, k3, rfl, hx⟩ := hr3.shape
      obtain ⟨o4, k4, rfl, -⟩ := hr4.shape
      obtain ⟨o5, k5, rfl, -⟩ := hr5.shape
      have HX := Lib.hid hx
      have HR3 := Lib.hid hr3'
      obtain ⟨X, hX⟩ : ∃ X, X = pairsS (boxesL (sg14 l) (d : Rat) false) (boxesL (sg14 m) 0 true) := ⟨_, rfl⟩
      obtain ⟨Y, hY⟩ : ∃ Y, Y = pairsS (boxesL (sg14 m) (d : Rat) false) (boxesL (sg14 l) 0 true) := ⟨_, rfl⟩
      obtain ⟨Z, hZ⟩ : ∃ Z, Z = pairsS (boxesL (sg14 l) (more : Rat) false) (boxesL (sg14 m) 0 true) := ⟨_, rfl⟩
      have hXY : Y.length = X.length := by rw [hX, hY]; exact (pairs_len _ _ _).symm
      have HT : Hid (∀ p, p ∈ X → (p.2, p.1) ∈ Y ∧ p ∈ Z) := Lib.hid (fun p hp => by rw [hX] at hp; rw [hY, hZ]; exact ⟨pairs_turn hp, pairs_more HDM.out hp⟩)
      have HLX : Hid (X.length ≤ 196) := Lib.hid (by rw [hX]; exact pairs_max _ _ _ (sg14_len _) (sg14_len _))
      have HLZ : Hid (Z.length ≤ 196) := Lib.hid (by rw [hZ]; exact pairs_max _ _ _ (sg14_len _) (sg14_len _))
      rw [← hX] at HX HR3 ⊢
      rw [← hY] at HR4 ⊢
      rw [← hZ] at HR5 ⊢
      rw [hXY]
      obtain ⟨n, hn⟩ : ∃ n, n = X.length := ⟨_, rfl⟩
      rw [← hn] at hXY HX ⊢
      have HN := Lib.hid hn
      have HNY := Lib.hid hXY
      obtain ⟨nz, hnz⟩ : ∃ q, q = Z.length := ⟨_, rfl⟩
      rw [← hnz]
      have HNZ := Lib.hid hnz
      clear hnz hX hY hZ hr3 hr4 hr5 hr3' hx hXY hn HDM
      go_wp2_with fail
      go_loopg [20] n (fun kx s wr => ∃ i : Nat, s = .int .i64 i ∧ i ≤ n ∧ n ≤ kx + i ∧ Hid (Below w.heap.size w wr ∧ Below w6.heap.size w6 wr))
      case atStart => exact ⟨0, rfl, Nat.zero_le _, by omega, HG6.out, Below.refl _ _⟩
      case round =>
        clear HG6
        obtain ⟨i, rfl, him, hkx, HI⟩ := hrel
        by_cases hlt : i < n
        · have hlz : (i : Int) < (n : Int) := by omega
          have hn196 : n ≤ 196 := by have := HN.out; have := HLX.out; omega
          obtain ⟨p, hp⟩ : ∃ p, X[i]? = some p := ⟨_, List.getElem?_eq_getElem (by have := HN.out; omega)⟩
          obtain ⟨g, rfl, hlc, x0, x1⟩ := HX.out i p hp
          have hmem := HT.out p (List.mem_of_getElem? hp)
          have hgl : g < w6.heap.size := World.block_lt_of_cell? _ _ x0
          have glr : g < wr.heap.size := Nat.lt_of_lt_of_le hgl HI.out.2.size
          have z0 : wr.cell? ⟨g, i * 2, none⟩ = some (.int .i64 (p.1 : Int)) := (World.cell?_of_block (a := ⟨g, _, none⟩) (HI.out.2.block g hgl)).trans x0
          have z1 : wr.cell? ⟨g, i * 2 + 1, none⟩ = some (.int .i64 (p.2 : Int)) := (World.cell?_of_block (a := ⟨g, _, none⟩) (HI.out.2.block g hgl)).trans x1
          have eii : ((i : Int)).toNat = i := by omega
          have pii : (0 : Int) ≤ (i : Int) := by omega
          have y0 : ∀ (k : Nat) (os : Array Obj), (grow (wr.drewN k) os).cell? ⟨g, i * 2, none⟩ = some (.int .i64 (p.1 : Int)) := cell_grown glr z0
          have y1 : ∀ (k : Nat) (os : Array Obj), (grow (wr.drewN k) os).cell? ⟨g, i * 2 + 1, none⟩ = some (.int .i64 (p.2 : Int)) := cell_grown glr z1
          clear z0 z1
          have hc1 : ∀ (k : Nat) (os : Array Obj), Calls Try.prog 12 #[.slice o4 (n : Nat) k4, .agg #[.int .i64 (p.2 : Int), .int .i64 (p.1 : Int)]] (grow (wr.drewN k) os) fun e w' => e = .returned (.bool true) ∧ ∃ q os', w' = grow ((grow (wr.drewN k) os).drewN q) os' := fun k os => by
            have hb : Below w6.heap.size w6 (grow (wr.drewN k) os) := HI.out.2.trans ((grow_gr wr k os).b.mono HI.out.2.size)
            have h4 : PairRow (grow (wr.drewN k) os) (.slice o4 (n : Nat) k4) Y := by
              have := HR4.out.still fun g hg => hb.block g hg
              rwa [HNY.out] at this
            refine (has_any Y p.2 p.1 _ _ h4 (by have := HNY.out; have := HN.out; have := HLX.out; omega)).mono ?_
            rintro e w' ⟨rfl, ho⟩
            exact ⟨by rw [decide_eq_true hmem.1], own_grow ho⟩
          have hc2 : ∀ (k : Nat) (os : Array Obj), Calls Try.prog 12 #[.slice o5 nz k5, .agg #[.int .i64 (p.1 : Int), .int .i64 (p.2 : Int)]] (grow (wr.drewN k) os) fun e w' => e = .returned (.bool true) ∧ ∃ q os', w' = grow ((grow (wr.drewN k) os).drewN q) os' := fun k os => by
            have hb : Below w6.heap.size w6 (grow (wr.drewN k) os) := HI.out.2.trans ((grow_gr wr k os).b.mono HI.out.2.size)
            have h4 : PairRow (grow (wr.drewN k) os) (.slice o5 nz k5) Z := by
              have := HR5.out.still fun g hg => hb.block g hg
              rwa [← HNZ.out] at this
            refine (has_any Z p.1 p.2 _ _ h4 (by have := HLZ.out; have := HNZ.out; omega)).mono ?_
            rintro e w' ⟨rfl, ho⟩
            exact ⟨by rw [decide_eq_true hmem.2], own_grow ho⟩
          have hcc : ∀ (k : Nat) (os : Array Obj) (v : Value) (a b : Int), ((v = .slice o4 (n : Nat) k4 ∧ a = (p.2 : Int) ∧ b = (p.1 : Int)) ∨ (v = .slice o5 nz k5 ∧ a = (p.1 : Int) ∧ b = (p.2 : Int))) → Calls Try.prog 12 #[v, .agg #[.int .i64 a, .int .i64 b]] (grow (wr.drewN k) os) fun e w' => e = .returned (.bool true) ∧ ∃ q os', w' = grow ((grow (wr.drewN k) os).drewN q) os' := by
            rintro k os v a b (⟨rfl, rfl, rfl⟩ | ⟨rfl, rfl, rfl⟩)
            · exact hc1 k os
            · exact hc2 k os
          clear hp x0 x1 hmem hc1 hc2
          go_wp2_with fail
          go_quiet_grown ((go_at_call 12; refine Calls.grown_of (hcc _ _ _ _ _ ?_); first | exact .inl ⟨rfl, rfl, rfl⟩ | exact .inr ⟨rfl, rfl, rfl⟩))
          have HJ : Hid (Below w.heap.size w (grow (wr.drewN nq) osq) ∧ Below w6.heap.size w6 (grow (wr.drewN nq) osq)) := ⟨HI.out.1.trans ((grow_gr wr nq osq).b.mono HI.out.1.size), HI.out.2.trans ((grow_gr wr nq osq).b.mono HI.out.2.size)⟩
          clear hcc y0 y1 glr HI
          generalize grow (wr.drewN nq) osq = w7 at HJ ⊢
          clear nq osq
          go_wp2_with fail
          go_roundg (n - (i + 1))
          case measure => omega
          case rel => exact ⟨i + 1, by go_num, by omega, by omega, HJ⟩
        · have hlz : ¬ (i : Int) < (n : Int) := by omega
          go_wp2_with fail
          go_ret
          exact ⟨rfl, HI.out.1⟩
end Go.Proofs.Ytnojfiokdhcbjaa
