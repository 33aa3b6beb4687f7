/-
  Rows of boxes: as an owned row, and as what a slice shows.
  Sorting nothing: the walks.
  All boxes in the order of their left sides: slices.SortStableFunc, whatever the row.
  sweep.Pairs: the walk.
  sweep.Pairs: rows behind one another; what is found, in order.
  sweep.Pairs: memory while the line passes on.
  sweep.Pairs: a box put behind its row (a region that draws its order).
  sweep.Pairs: what is found in the end, plain.
-/
import Derived.Test.YtnojfiokdhcbjaaBoxE
import Derived.Test.YtnojfiokdhcbjaaShelf
namespace Go.Proofs.Ytnojfiokdhcbjaa
open Go Go.RowKit Go.Lib Go.Sort Go.Shelf
section
variable {α : Type} [Inhabited α] {enc : α → List Value} {k : Nat}
omit [Inhabited α] in
theorem flat_len (hk : ∀ x, (enc x).length = k) : ∀ (l : List α), (l.flatMap enc).length = l.length * k
 | [] => by simp
 | x :: r => by rw [List.flatMap_cons, List.length_append, hk, flat_len hk r, List.length_cons, Nat.add_mul, Nat.one_mul, Nat.add_comm]
omit [Inhabited α] in
theorem flat_get (hk : ∀ x, (enc x).length = k) : ∀ (l : List α) (i c : Nat), c < k → (l.flatMap enc)[i * k + c]? = (l[i]?).bind fun x => (enc x)[c]?
 | [], i, c, _ => by simp
 | x :: r, 0, c, hc => by
  rw [List.flatMap_cons, Nat.zero_mul, Nat.zero_add, List.getElem?_append_left (by rw [hk]; exact hc)]
  rfl
 | x :: r, i + 1, c, hc => by
  rw [List.flatMap_cons, List.getElem?_append_right (by rw [hk, Nat.add_mul, Nat.one_mul]; omega), hk]
  have e : (i + 1) * k + c - k = i * k + c := by rw [Nat.add_mul, Nat.one_mul]; omega
  rw [e, flat_get hk r i c hc]
  rfl
theorem flatK_list (hk : ∀ x, (enc x).length = k) (l : List α) : (flatK enc k l.toArray).toList = l.flatMap enc := by
 apply List.ext_getElem?
 intro t
 rcases Nat.lt_or_ge t (l.length * k) with ht | ht
 ·have k0 : 0 < k := by
   rcases Nat.eq_zero_or_pos k with h | h
   ·subst h; simp at ht
   ·exact h
  have hq : t / k < l.length := (Nat.div_lt_iff_lt_mul k0).2 ht
  have hm : t % k < k := Nat.mod_lt _ k0
  have e : t = (t / k) * k + t % k := by rw [Nat.mul_comm]; exact (Nat.div_add_mod t k).symm
  have h1 := get_flatK enc k l.toArray t (by simpa using ht)
  rw [Array.getElem?_toList, Array.getElem?_eq_getElem (by simpa using ht)]
  rw [getElem!_pos _ t (by simpa using ht)] at h1
  rw [h1]
  conv => rhs; rw [e]
  rw [flat_get hk l _ _ hm, List.getElem?_eq_getElem hq, Option.bind_some]
  have e2 : l.toArray[t / k]! = l[t / k] := by rw [getElem!_pos _ _ (by simpa using hq)]; simp
  rw [e2, getElem!_pos _ _ (by rw [hk]; exact hm), List.getElem?_eq_getElem]
 ·rw [List.getElem?_eq_none (by simpa using ht), List.getElem?_eq_none (by rw [flat_len hk]; exact ht)]
theorem holdsK_cells (hk : ∀ x, (enc x).length = k) {w : World} {g n : Nat} {cs : Array Value} {T : TypeId} {l : List α} (hg : w.heap[g]? = some (.cells cs T (0, 0))) (hcs : cs.size = n * k) (hl : l.length ≤ n) : HoldsK enc k w g 0 l.toArray ↔ cs.toList.take (l.length * k) = l.flatMap enc := by
 have hb : l.length * k ≤ cs.size := by rw [hcs]; exact Nat.mul_le_mul_right k hl
 have hB : BlkC T w g cs.toList := hg
 rw [← flatK_list hk l]
 constructor
 ·intro h
  apply List.ext_getElem?
  intro t
  rw [List.getElem?_take]
  by_cases ht : t < l.length * k
  ·rw [if_pos ht]
   have h1 := (h t (by simpa using ht)).1
   rw [Nat.zero_add, hB.cell t] at h1
   rw [h1, Array.getElem?_toList, Array.getElem?_eq_getElem (by simpa using ht), getElem!_pos _ t (by simpa using ht)]
   rfl
  ·rw [if_neg ht, List.getElem?_eq_none (by simpa using ht)]
 ·intro h t ht
  have ht' : t < l.length * k := by simpa using ht
  refine ⟨?_, ?_⟩
  ·rw [Nat.zero_add, hB.cell t]
   have h1 := congrArg (fun q => q[t]?) h
   simp only [List.getElem?_take, if_pos ht'] at h1
   rw [h1, Array.getElem?_toList, Array.getElem?_eq_getElem ht, getElem!_pos _ t ht]
   rfl
  ·rw [Nat.zero_add]; exact hB.free t
end
theorem PB.len (y : PB) : (PB.enc y).length = 18 := rfl
theorem boxRow_of_owns {w : World} {B : Nat} {v : Value} {l : List PB} (h : w.ownsRow B 72 18 v l.length (l.flatMap PB.enc)) : BoxRow w v l := by
 obtain ⟨_, ⟨rfl, h0⟩ | ⟨g, cap, cur, rfl, _, hh, hc, hm, hs, ht⟩⟩ := h
 ·exact .inl ⟨rfl, List.eq_nil_of_length_eq_zero h0⟩
 ·exact .inr ⟨g, cap, cur, rfl, hh, hs, hc, hm, (holdsK_cells PB.len hh hs hc).2 ht⟩
theorem owns_of_boxRow {w : World} {B : Nat} {v : Value} {l : List PB} (h : BoxRow w v l) (hB : ∀ g, v.ownBlock = some g → B ≤ g) : w.ownsRow B 72 18 v l.length (l.flatMap PB.enc) := by
 refine ⟨flat_len PB.len l, ?_⟩
 rcases h with ⟨rfl, rfl⟩ | ⟨g, cap, cs, rfl, hg, hcs, hl, hm, hH⟩
 ·exact .inl ⟨rfl, rfl⟩
 ·exact .inr ⟨g, cap, cs, rfl, hB g rfl, hg, hl, hm, hcs, (holdsK_cells PB.len hg hcs hl).1 hH⟩
end Go.Proofs.Ytnojfiokdhcbjaa
namespace Go.Proofs.Ytnojfiokdhcbjaa
open Go Go.RowKit Go.Lib
set_option maxHeartbeats 4000000 in
set_option maxRecDepth 100000 in
theorem insNil_any (w : World) (fv : Value) :
  Calls Try.prog 70 #[.slice none 0 0, .int .i64 0, .int .i64 0, fv] w fun e w' => e = .returned (.tuple #[]) ∧ Own w.heap.size w w' := by
 go_enter Try.func70, Try.ntmps70
 go_wp2_with fail
 go_loopg [8] 1 (fun g s8 wr => s8 = .int .i64 1 ∧ Hid (Own w.heap.size w wr))
 case atStart => exact ⟨rfl, Own.refl _ _⟩
 case round =>
  obtain ⟨rfl, HO⟩ := hrel
  have hlz : ¬ (1 : Int) < 0 := by omega
  go_wp2_with fail
  go_end0
  exact ⟨rfl, HO.out⟩
set_option maxHeartbeats 4000000 in
set_option maxRecDepth 100000 in
theorem stableNil_any (w : World) (fv : Value) :
  Calls Try.prog 41 #[.slice none 0 0, .int .i64 0, fv] w fun e w' => e = .returned (.tuple #[]) ∧ Own w.heap.size w w' := by
 go_enter Try.func41, Try.ntmps41
 go_wp2_with fail
 go_loopg [7, 8] 1 (fun g s7 s8 wr => s7 = .int .i64 0 ∧ s8 = .int .i64 20 ∧ Hid (Own w.heap.size w wr))
 case atStart => exact ⟨rfl, rfl, Own.refl _ _⟩
 case round =>
  obtain ⟨rfl, rfl, HO⟩ := hrel
  have hlz : ¬ (20 : Int) ≤ 0 := by omega
  go_wp2_with fail
  refine (insNil_any _ fv).mono ?_
  rintro e w1 ⟨rfl, hg1⟩
  have HG := Lib.hid (HO.out.call HO.out.size hg1)
  clear hg1 HO
  go_wp2_with fail
  go_loopg [6, 7, 8, 9] 1 (fun g s6 s7 s8 s9 wr => s6 = .int .i64 20 ∧ Hid (Own w.heap.size w wr))
  case atStart => exact ⟨rfl, HG⟩
  case round =>
   clear HG
   obtain ⟨rfl, HO⟩ := hrel
   have hlz : ¬ (20 : Int) < 0 := by omega
   go_wp2_with fail
   go_end0
   exact ⟨rfl, HO.out⟩
set_option maxHeartbeats 4000000 in
set_option maxRecDepth 100000 in
theorem sortStableNil_any (w : World) (fv : Value) :
  Calls Try.prog 20 #[.slice none 0 0, fv] w fun e w' => e = .returned (.tuple #[]) ∧ Own w.heap.size w w' := by
 go_enter Try.func20, Try.ntmps20
 go_wp2_with fail
 refine (stableNil_any _ fv).mono ?_
 rintro e w1 ⟨rfl, hg1⟩
 have HG := Lib.hid hg1
 clear hg1
 go_wp2_with fail
 go_end0
 exact ⟨rfl, HG.out⟩
set_option maxHeartbeats 4000000 in
set_option maxRecDepth 100000 in
theorem insNil2_any (w : World) (fv : Value) :
  Calls Try.prog 73 #[.slice none 0 0, .int .i64 0, .int .i64 0, fv] w fun e w' => e = .returned (.tuple #[]) ∧ Own w.heap.size w w' := by
 go_enter Try.func73, Try.ntmps73
 go_wp2_with fail
 go_loopg [8] 1 (fun g s8 wr => s8 = .int .i64 1 ∧ Hid (Own w.heap.size w wr))
 case atStart => exact ⟨rfl, Own.refl _ _⟩
 case round =>
  obtain ⟨rfl, HO⟩ := hrel
  have hlz : ¬ (1 : Int) < 0 := by omega
  go_wp2_with fail
  go_end0
  exact ⟨rfl, HO.out⟩
set_option maxHeartbeats 4000000 in
set_option maxRecDepth 100000 in
theorem pdqNil_any (w : World) (fv : Value) (lim : Int) :
  Calls Try.prog 43 #[.slice none 0 0, .int .i64 0, .int .i64 0, .int .i64 lim, fv] w fun e w' => e = .returned (.tuple #[]) ∧ Own w.heap.size w w' := by
 go_enter Try.func43, Try.ntmps43
 go_wp2_with fail
 go_loopg [1, 2] 1 (fun g s1 s2 wr => s1 = .int .i64 0 ∧ s2 = .int .i64 0 ∧ Hid (Own w.heap.size w wr))
 case atStart => exact ⟨rfl, rfl, Own.refl _ _⟩
 case round =>
  obtain ⟨rfl, rfl, HO⟩ := hrel
  go_wp2_with fail
  refine (insNil2_any _ fv).mono ?_
  rintro e w1 ⟨rfl, hg1⟩
  have HG := Lib.hid (HO.out.call HO.out.size hg1)
  clear hg1 HO
  go_wp2_with fail
  (try simp only [Exit.inBlock, Exit.then]); refine bodyPost_ret (results_none rfl _ _ _) rfl ?_
  exact ⟨rfl, HG.out⟩
set_option maxHeartbeats 4000000 in
set_option maxRecDepth 100000 in
theorem sortPairsNil_any (w : World) (fv : Value) :
  Calls Try.prog 24 #[.slice none 0 0, fv] w fun e w' => e = .returned (.tuple #[]) ∧ Own w.heap.size w w' := by
 go_enter Try.func24, Try.ntmps24
 go_wp2_with fail
 refine (Try.bits_Len 0 w (by omega) (by omega)).mono ?_
 rintro e w1 ⟨rfl, rfl⟩
 go_wp2_with fail
 refine (pdqNil_any _ fv _).mono ?_
 rintro e w1 ⟨rfl, hg1⟩
 have HG := Lib.hid hg1
 clear hg1
 go_wp2_with fail
 go_end0
 exact ⟨rfl, HG.out⟩
end Go.Proofs.Ytnojfiokdhcbjaa
namespace Go.Proofs.Ytnojfiokdhcbjaa
open Go Go.RowKit Go.Lib Go.Sort Go.Shelf
def toSB {w : World} (l : List PB) (h : ∀ y, y ∈ l → y.1.ok w y.2) : List (SB w) := l.attach.map fun y => ⟨y.1.1, y.1.2, h y.1 y.2⟩
def ofSB {w : World} (y : SB w) : PB := (y.v, y.x)
theorem ofSB_toSB {w : World} (l : List PB) (h : ∀ y, y ∈ l → y.1.ok w y.2) : (toSB l h).map ofSB = l := by
 unfold toSB
 rw [List.map_map]
 have : (ofSB ∘ fun y : { x // x ∈ l } => (⟨y.1.1, y.1.2, h y.1 y.2⟩ : SB w)) = fun y => y.1 := by
  funext y
  rfl
 rw [this]; exact List.attach_map_subtype_val l
theorem flat_ofSB {w : World} (l : List (SB w)) : (l.map ofSB).flatMap PB.enc = l.flatMap SB.enc := by
 induction l with
 | nil => rfl
 | cons x r ih => rw [List.map_cons, List.flatMap_cons, List.flatMap_cons, ih]; rfl
theorem sortWorld_grown {w : World} {blk off m : Nat} {dk : Array (SB w)} {os : Array Obj} : w.grownBy (sortWorldK SB.enc 18 w blk off m dk os) (some blk) := by
 refine ⟨rfl, rfl, rfl, ?_, fun g hg hn => ?_⟩
 ·show w.heap.size ≤ ((w.heap.modify blk _) ++ os).size
  rw [Array.size_append, Array.size_modify]
  omega
 ·show ((w.heap.modify blk _) ++ os)[g]? = _
  rw [Array.getElem?_append_left (by simpa using hg), Array.getElem?_modify, if_neg (fun e => hn (by rw [e]))]
theorem sortWorld_shape {w : World} {blk off m N : Nat} {dk : Array (SB w)} {os : Array Obj} (h : ∃ cs, w.heap[blk]? = some (.cells cs 72 (0, 0)) ∧ cs.size = N) : ∃ cs, (sortWorldK SB.enc 18 w blk off m dk os).heap[blk]? = some (.cells cs 72 (0, 0)) ∧ cs.size = N := by
 obtain ⟨cs, h1, h2⟩ := h
 have hlt := (Array.getElem?_eq_some_iff.1 h1).1
 refine ⟨putCells id off (flatK SB.enc 18 dk) cs, ?_, by unfold putCells; rw [Array.size_mapIdx]; exact h2⟩
 show ((w.heap.modify blk _) ++ os)[blk]? = _
 rw [Array.getElem?_append_left (by simpa using hlt), Array.getElem?_modify, if_pos rfl, h1]
 rfl
theorem sortAll_any (w : World) (v : Value) (l : List PB) (hr : BoxRow w v l) (hok : ∀ y, y ∈ l → y.1.ok w y.2) (hn : l.length < 1152921504606846976) :
  Calls Try.prog 20 #[v, .func (.func 21) #[] #[]] w fun e w' => e = .returned (.tuple #[]) ∧ ∃ l' : List PB, l'.Perm l ∧ l'.Pairwise (fun x y => x.2.l ≤ y.2.l) ∧ BoxRow w' v l' ∧ w.grownBy w' v.ownBlock ∧ Keep w w' ∧ w.drawn ≤ w'.drawn := by
 rcases hr with ⟨rfl, rfl⟩ | ⟨g, cap, cs, rfl, hg, hcs, hlc, hcm, hH⟩
 ·refine (sortStableNil_any w _).mono ?_
  rintro e w' ⟨rfl, ho⟩
  exact ⟨rfl, [], List.Perm.refl _, List.Pairwise.nil, .inl ⟨rfl, rfl⟩, Gr.grown ho, Gr.keep ho, ho.d⟩
 ·have hlen : (toSB l hok).length = l.length := by unfold toSB; simp
  have hHS : HoldsK SB.enc 18 w g 0 (toSB l hok).toArray := by
   refine (holdsK_cells (fun x => SB.len x) hg hcs (by rw [hlen]; exact hlc)).2 ?_
   rw [hlen, ← flat_ofSB, ofSB_toSB]
   exact (holdsK_cells PB.len hg hcs hlc).1 hH
  refine (sortBoxes_any w g 0 cap l.length (toSB l hok).toArray (by simpa using hlen) hHS ⟨cs, hg⟩ hn).mono ?_
  rintro e w' ⟨rfl, d', hd, hp, hs, hw⟩
  have hgt : g < w.heap.size := (Array.getElem?_eq_some_iff.1 hg).1
  have hHd := hw.holds hgt hHS (by rw [hd]; simpa using hlen.symm)
  obtain ⟨m, os, rfl⟩ := hw
  have hlen2 : d'.toList.length = l.length := by rw [Array.length_toList]; exact hd
  obtain ⟨cs', h1, h2⟩ := sortWorld_shape (off := 0) (m := m) (dk := d') (os := os) ⟨cs, hg, hcs⟩
  refine ⟨rfl, d'.toList.map ofSB, ?_, ?_, .inr ⟨g, cap, cs', by rw [List.length_map, hlen2], h1, h2, by rw [List.length_map, hlen2]; exact hlc, hcm, ?_⟩, sortWorld_grown, keep_sortWorld ⟨cs, hg⟩ _ _ _ _, ?_⟩
  ·have hp2 : d'.toList.Perm (toSB l hok) := by
    have h3 := hp.2.2
    have e1 : d'.extract 0 l.length = d' := by rw [← hd]; exact Array.extract_size
    have e2 : (toSB l hok).toArray.extract 0 l.length = (toSB l hok).toArray := by
     have : l.length = (toSB l hok).toArray.size := by simpa using hlen.symm
     rw [this]; exact Array.extract_size
    rw [e1, e2] at h3
    exact h3
   have := hp2.map ofSB
   rwa [ofSB_toSB] at this
  ·rw [List.pairwise_map, List.pairwise_iff_getElem]
   intro i j hi hj hij
   have h3 := hs i j (Nat.zero_le _) hij (by rw [← hlen2]; exact hj)
   rw [byLeft_lt, decide_eq_false_iff_not] at h3
   rw [getElem!_pos d' i (by simpa using hi), getElem!_pos d' j (by simpa using hj)] at h3
   simpa [ofSB] using Rat.not_lt.1 h3
  ·refine (holdsK_cells PB.len h1 h2 (by rw [List.length_map, hlen2]; exact hlc)).2 ?_
   rw [List.length_map, flat_ofSB]
   exact (holdsK_cells (fun x => SB.len x) (l := d'.toList) h1 h2 (by rw [hlen2]; exact hlc)).1 (by simpa using hHd)
  ·show w.drawn ≤ w.drawn + m
   omega
end Go.Proofs.Ytnojfiokdhcbjaa
namespace Go.Proofs.Ytnojfiokdhcbjaa
open Go Go.RowKit Go.Lib Go.Sort Go.Shelf
def boxesL (ss : List Sg) (dl : Rat) (b : Bool) : List Bx := ss.mapIdx fun i s => boxS s dl i b
def SegSlice (w : World) (v : Value) (l : List Sg) : Prop := ∃ (o : Option Addr) (c : Nat), v = .slice o l.length c ∧ (l = [] ∨ ∃ g, o = some ⟨g, 0, none⟩ ∧ SegRow w g l)
theorem SegSlice.still {w w' : World} {v : Value} {l : List Sg} (h : SegSlice w v l) (hb : Below w.heap.size w w') : SegSlice w' v l := by
 obtain ⟨o, c, e, h | ⟨g, e2, h⟩⟩ := h
 ·exact ⟨o, c, e, .inl h⟩
 ·exact ⟨o, c, e, .inr ⟨g, e2, h.still hb⟩⟩
set_option maxHeartbeats 4000000 in
set_option maxRecDepth 100000 in
theorem boxesNone_any (o : Option Addr) (c : Nat) (u : RV) (second : Bool) (w : World) :
  Calls Try.prog 17 #[.slice o (0 : Nat) c, .agg u.cells.toArray, .bool second] w fun e w' => e = .returned (.slice none 0 0) ∧ Own w.heap.size w w' := by
 have HG : Hid (Own w.heap.size w (w.alloc (.cells u.cells.toArray 30))) := own_alloc _ _
 go_enter Try.func17, Try.ntmps17
 go_wp2_with fail
 go_loopg [7, 12] 1 (fun k s7 s12 wr => s7 = .slice none 0 0 ∧ s12 = .int .i64 0 ∧ Hid (Own w.heap.size w wr))
 case atStart => exact ⟨rfl, rfl, HG⟩
 case round =>
  obtain ⟨rfl, rfl, HO⟩ := hrel
  go_wp2_with fail
  go_ret
  exact ⟨rfl, HO.out⟩
structure BoxesR (w : World) (rv : Value) (ys : List PB) (l : List Bx) (w' : World) : Prop where
 row : BoxRow w' rv ys
 own : ∀ k, rv.ownBlock = some k → w.heap.size ≤ k
 eq : ys.map (·.2) = l
 ok : ∀ y, y ∈ ys → y.1.ok w' y.2
 b : Below w.heap.size w w'
 nil : ys = [] → rv = .slice none 0 0
theorem boxesAll_any (v : Value) (ss : List Sg) (u : RV) (dl : Rat) (second : Bool) (w : World) (hr : SegSlice w v ss) (hn : ss.length ≤ 30000) (hsl : ∀ s, s ∈ ss → SgL s) (hu : u.ok w dl) (hul : rlen dl ≤ 1000) :
  Calls Try.prog 17 #[v, .agg u.cells.toArray, .bool second] w fun e w' => ∃ rv, e = .returned rv ∧ ∃ ys, BoxesR w rv ys (boxesL ss dl second) w' := by
 obtain ⟨o, c, rfl, h | ⟨g, rfl, h⟩⟩ := hr
 ·subst h
  refine (boxesNone_any o c u second w).mono ?_
  rintro e w' ⟨rfl, ho⟩
  exact ⟨_, rfl, [], .inl ⟨rfl, rfl⟩, (fun k hk => by cases hk), rfl, by simp, ho.b, fun _ => rfl⟩
 ·refine (boxes_any ss g c u dl second w h hn hsl hu hul).mono ?_
  rintro e w' ⟨rv, rfl, ys, hx⟩
  have hrow := hx.row
  rw [← hx.len] at hrow
  refine ⟨rv, rfl, ys, boxRow_of_owns hrow, fun k hk => (hrow.lt k hk).1, ?_, fun y hy => ?_, hx.b, fun e => hx.nil (by rw [← hx.len, e]; rfl)⟩
  ·apply List.ext_getElem?
   intro j
   unfold boxesL
   rw [List.getElem?_map, List.getElem?_mapIdx]
   rcases Nat.lt_or_ge j ys.length with hj | hj
   ·obtain ⟨s, k1, k2, _⟩ := hx.at' j ys[j] (List.getElem?_eq_getElem hj)
    rw [List.getElem?_eq_getElem hj, k1]
    simp [k2]
   ·rw [List.getElem?_eq_none hj, List.getElem?_eq_none (by rw [← hx.len]; exact hj)]
    rfl
  ·obtain ⟨j, hj⟩ := List.mem_iff_getElem?.1 hy
   obtain ⟨_, _, _, k⟩ := hx.at' j y hj
   exact k
theorem BoxRow.shape {w : World} {v : Value} {l : List PB} (h : BoxRow w v l) : ∃ (o : Option Addr) (cap : Nat), v = .slice o l.length cap ∧ (l ≠ [] → ∃ g, o = some ⟨g, 0, none⟩) := by
 rcases h with ⟨rfl, rfl⟩ | ⟨g, cap, cs, rfl, _⟩
 ·exact ⟨none, 0, rfl, fun h => absurd rfl h⟩
 ·exact ⟨_, cap, rfl, fun _ => ⟨g, rfl⟩⟩
theorem BoxRow.grown {w w' : World} {v : Value} {l : List PB} {rb : Option Nat} (h : BoxRow w v l) (hg : w.grownBy w' rb) (hn : ∀ k, v.ownBlock = some k → rb ≠ some k) : BoxRow w' v l := by
 rcases h with h | ⟨g, cap, cs, rfl, h1, h2, h3, h4, h5⟩
 ·exact .inl h
 ·have e := hg.block g (Array.getElem?_eq_some_iff.1 h1).1 (fun e => hn g rfl e.symm)
  exact .inr ⟨g, cap, cs, rfl, e.trans h1, h2, h3, h4, holdsK_block h5 e⟩
end Go.Proofs.Ytnojfiokdhcbjaa
namespace Go.Proofs.Ytnojfiokdhcbjaa
open Go Go.RowKit Go.Lib Go.Sort Go.Shelf
theorem boxInfo2 : ∃ ib, Try.prog.info? 72 = some ib ∧ ib.zero = some (.agg #[.slice none 0 0, .bool false, .slice none 0 0, .bool false, .slice none 0 0, .bool false, .slice none 0 0, .bool false, .slice none 0 0, .bool false, .slice none 0 0, .bool false, .slice none 0 0, .bool false, .slice none 0 0, .bool false, .int .i64 0, .bool false]) ∧ ib.size = 18 ∧ ib.bytes = 272 := by
 have h := boxInfo
 have h2 : (Try.prog.info? 72).bind (·.zero) = some (.agg #[.slice none 0 0, .bool false, .slice none 0 0, .bool false, .slice none 0 0, .bool false, .slice none 0 0, .bool false, .slice none 0 0, .bool false, .slice none 0 0, .bool false, .slice none 0 0, .bool false, .slice none 0 0, .bool false, .int .i64 0, .bool false]) := by kernel_rfl
 cases hi : Try.prog.info? 72 with
 | none => rw [hi] at h; cases h
 | some ib =>
  rw [hi] at h h2
  simp only [Option.map_some, Option.some.injEq, Prod.mk.injEq] at h
  exact ⟨ib, rfl, h2, h.1, h.2⟩
theorem run_app_nil (w : World) (ty : TypeId) {B : Nat} {v : Value} {n : Nat} {xs : List Value} (h : w.ownsRow B 72 18 v n xs) : (Builtin.append_ #[66, 66] ty #[v, .slice none 0 0]).run Try.prog w = .ok v w := by
 obtain ⟨_, ⟨rfl, h0⟩ | ⟨g, cap, cur, rfl, _, hh, hc, hm, hs, ht⟩⟩ := h
 ·simp [Builtin.append_, Builtin.lenOf, Builtin.firstCells]
 ·have hn : n ≤ cap := hc
  simp [Builtin.append_, Builtin.lenOf, Builtin.firstCells, hn, storeCells]
theorem wpList_app {ops : Array Oper} {rest : List Oper} {o : Oper} {a : Act} {Q : Exit → Act → World → Prop} {w : World} (hgd : o.guard = none) (s x : Operand) (ho : o.op = .call { callee := .builtin .append, args := #[s, x], argTypes := #[66, 66] })
  {B n : Nat} {v rv : Value} {xs : List Value} {ys : List PB} (hs : a.eval s = v) (hx : a.eval x = rv) (hown : w.ownsRow B 72 18 v n xs) (hr : BoxRow w rv ys) (hnil : ys = [] → rv = .slice none 0 0) (hl : n + ys.length ≤ 100000) (hB : B ≤ w.heap.size)
  (h : ∀ v' w', w'.ownsRow B 72 18 v' (n + ys.length) (xs ++ ys.flatMap PB.enc) → w.grownBy w' v.ownBlock → wpList Try.prog ops Q rest (a.put o.dst v') w') : wpList Try.prog ops Q (o :: rest) a w := by
 by_cases hy : ys = []
 ·subst hy
  have e := hnil rfl
  subst e
  refine wpList_plain hgd fun _ hK => ?_
  unfold Oper.wp execOp
  simp only [ho, resolve, invoke, builtin, Sem.run_bind, Sem.run_pure, Result.andThen_ok, List.map_toArray, List.map_cons, List.map_nil, hs, hx, run_app_nil w _ hown]
  exact hK _ _ (h v w (by simpa using hown) (grown_refl _ _))
 ·rcases hr with ⟨_, e⟩ | ⟨g, cap, cs, rfl, hg, hcs, hlc, hcm, hH⟩
  ·exact absurd e hy
  ·obtain ⟨ib, hib, hib0, hib1, hib2⟩ := boxInfo2
   have hc := (holdsK_cells PB.len hg hcs hlc).1 hH
   have hBk : BlkC 72 w g cs.toList := hg
   refine wpList_append_own w hgd s x 66 ho B 72 ib _ 18 272 Try.underlying66 hib hib0 hib1 hib2 rfl (by decide) v n xs hs hown ⟨g, 0, none⟩ ys.length cap (ys.flatMap PB.enc) hx (flat_len PB.len ys) (fun j u hj => ?_) (fun u hu => ?_) (by unfold maxLen; omega) (by omega) hB (fun v' w' h1 h2 _ => h v' w' h1 h2)
   ·rw [Addr.add_lit, Nat.zero_add, hBk.cell j]
    rw [← hc, List.getElem?_take] at hj
    split at hj
    ·exact hj
    ·cases hj
   ·obtain ⟨y, _, hy⟩ := List.mem_flatMap.1 hu
    exact PB.one y u hy
def pairEnc (p : Nat × Nat) : List Value := [.int .i64 (p.1 : Int), .int .i64 (p.2 : Int)]
instance : Inhabited (Nat × Nat) := ⟨(0, 0)⟩
def PairRow (w : World) (v : Value) (l : List (Nat × Nat)) : Prop :=
 (v = .slice none 0 0 ∧ l = []) ∨ ∃ (g cap : Nat) (cs : Array Value), v = .slice (some ⟨g, 0, none⟩) l.length cap ∧ w.heap[g]? = some (.cells cs 56 (0, 0)) ∧ cs.size = cap * 2 ∧ l.length ≤ cap ∧ cs.toList.take (l.length * 2) = l.flatMap pairEnc
theorem rlen_zero1 : rlen 0 ≤ 1000 := by
 have h1 : (limbs (0 : Rat).num.natAbs).length = 0 := by rw [show (0 : Rat).num.natAbs = 0 from rfl, limbs_zero]; rfl
 have h2 : (limbs (0 : Rat).den).length ≤ 1 := by rw [limbs_len]; decide
 unfold rlen
 omega
structure PrS (w : World) (A T : Nat) (L : List PB) (i : Nat) (v0 v1 vo : Value) (l0 l1 : List PB) (out : List (Nat × Nat)) (wr : World) : Prop where
 b : Below w.heap.size w wr
 ok : ∀ y, y ∈ L → y.1.ok wr y.2
 all : L ≠ [] → HoldsK PB.enc 18 wr A 0 L.toArray ∧ ∃ cs, wr.heap[A]? = some (.cells cs 72 (0, 0))
 t : BlkC 76 wr T [v0, v1]
 r0 : BoxRow wr v0 l0
 r1 : BoxRow wr v1 l1
 m0 : ∀ y, y ∈ l0 → y ∈ L
 m1 : ∀ y, y ∈ l1 → y ∈ L
 b0 : ∀ k, v0.ownBlock = some k → w.heap.size ≤ k ∧ k ≠ A
 b1 : ∀ k, v1.ownBlock = some k → w.heap.size ≤ k ∧ k ≠ A
 ne : ∀ k, v0.ownBlock = some k → v1.ownBlock ≠ some k
 tb : w.heap.size ≤ T
 o : wr.ownsRow w.heap.size 56 2 vo out.length (out.flatMap pairEnc)
 st : ((L.take i).map (·.2)).foldl stepS ⟨[], [], []⟩ = ⟨l0.map (·.2), l1.map (·.2), out⟩
 n0 : l0.length ≤ i
 n1 : l1.length ≤ i
 no : out.length ≤ i * 40000
theorem P2.len (p : P2) : p.enc.length = 2 := rfl
def toP2 (l : List (Nat × Nat)) (h : ∀ p, p ∈ l → p.1 < 1073741824 ∧ p.2 < 1073741824) : List P2 := l.attach.map fun p => ⟨p.1.1, p.1.2, (h p.1 p.2).1, (h p.1 p.2).2⟩
def ofP2 (p : P2) : Nat × Nat := (p.a, p.b)
theorem ofP2_toP2 (l : List (Nat × Nat)) (h : ∀ p, p ∈ l → p.1 < 1073741824 ∧ p.2 < 1073741824) : (toP2 l h).map ofP2 = l := by
 unfold toP2
 rw [List.map_map]
 have : (ofP2 ∘ fun p : { x // x ∈ l } => (⟨p.1.1, p.1.2, (h p.1 p.2).1, (h p.1 p.2).2⟩ : P2)) = fun p => p.1 := by
  funext p
  rfl
 rw [this]; exact List.attach_map_subtype_val l
theorem flat_ofP2 (l : List P2) : (l.map ofP2).flatMap pairEnc = l.flatMap P2.enc := by
 induction l with
 | nil => rfl
 | cons x r ih => rw [List.map_cons, List.flatMap_cons, List.flatMap_cons, ih]; rfl
theorem sortPairs_grown {w : World} {blk off m : Nat} {dk : Array P2} {os : Array Obj} : w.grownBy (sortWorldK P2.enc 2 w blk off m dk os) (some blk) := by
 refine ⟨rfl, rfl, rfl, ?_, fun g hg hn => ?_⟩
 ·show w.heap.size ≤ ((w.heap.modify blk _) ++ os).size
  rw [Array.size_append, Array.size_modify]
  omega
 ·show ((w.heap.modify blk _) ++ os)[g]? = _
  rw [Array.getElem?_append_left (by simpa using hg), Array.getElem?_modify, if_neg (fun e => hn (by rw [e]))]
theorem sortPairs_shape {w : World} {blk off m N : Nat} {dk : Array P2} {os : Array Obj} {T : TypeId} (h : ∃ cs, w.heap[blk]? = some (.cells cs T (0, 0)) ∧ cs.size = N) : ∃ cs, (sortWorldK P2.enc 2 w blk off m dk os).heap[blk]? = some (.cells cs T (0, 0)) ∧ cs.size = N := by
 obtain ⟨cs, h1, h2⟩ := h
 have hlt := (Array.getElem?_eq_some_iff.1 h1).1
 refine ⟨putCells id off (flatK P2.enc 2 dk) cs, ?_, by unfold putCells; rw [Array.size_mapIdx]; exact h2⟩
 show ((w.heap.modify blk _) ++ os)[blk]? = _
 rw [Array.getElem?_append_left (by simpa using hlt), Array.getElem?_modify, if_pos rfl, h1]
 rfl
theorem sortOut_any (w : World) (B : Nat) (v : Value) (l : List (Nat × Nat)) (hr : w.ownsRow B 56 2 v l.length (l.flatMap pairEnc)) (hb : ∀ p, p ∈ l → p.1 < 1073741824 ∧ p.2 < 1073741824) (hn : l.length < 4611686018427387904) :
  Calls Try.prog 24 #[v, .func (.func 25) #[] #[]] w fun e w' => e = .returned (.tuple #[]) ∧ ∃ l' : List (Nat × Nat), l'.Perm l ∧ l'.Pairwise (fun p q => ¬ ltP q p) ∧ PairRow w' v l' ∧ w.grownBy w' v.ownBlock := by
 obtain ⟨_, ⟨rfl, h0⟩ | ⟨g, cap, cur, rfl, _, hg, hc, hm, hs, ht⟩⟩ := hr
 ·have e := List.eq_nil_of_length_eq_zero h0
  subst e
  refine (sortPairsNil_any w _).mono ?_
  rintro e w' ⟨rfl, ho⟩
  exact ⟨rfl, [], List.Perm.refl _, List.Pairwise.nil, .inl ⟨rfl, rfl⟩, Gr.grown ho⟩
 ·have hgt : g < w.heap.size := (Array.getElem?_eq_some_iff.1 hg).1
  have hlen : (toP2 l hb).length = l.length := by unfold toP2; simp
  have hHS : HoldsK P2.enc 2 w g 0 (toP2 l hb).toArray := by
   refine (holdsK_cells P2.len hg hs (by rw [hlen]; exact hc)).2 ?_
   rw [hlen, ← flat_ofP2, ofP2_toP2]
   exact ht
  refine (sortPairs_any w g 0 cap l.length (toP2 l hb).toArray (by simpa using hlen) hHS hgt hn).mono ?_
  rintro e w' ⟨rfl, d', hp, hsd, hw⟩
  have hd : d'.size = l.length := by rw [hp.1]; simpa using hlen
  have hHd := hw.holds hgt hHS (by rw [hd]; simpa using hlen.symm)
  obtain ⟨m, os, rfl⟩ := hw
  have hlen2 : d'.toList.length = l.length := by rw [Array.length_toList]; exact hd
  obtain ⟨cs', h1, h2⟩ := sortPairs_shape (off := 0) (m := m) (dk := d') (os := os) ⟨cur, hg, hs⟩
  refine ⟨rfl, d'.toList.map ofP2, ?_, ?_, .inr ⟨g, cap, cs', by rw [List.length_map, hlen2], h1, h2, by rw [List.length_map, hlen2]; exact hc, ?_⟩, sortPairs_grown⟩
  ·have hp2 : d'.toList.Perm (toP2 l hb) := by
    have h3 := hp.2.2
    have e1 : d'.extract 0 l.length = d' := by rw [← hd]; exact Array.extract_size
    have e2 : (toP2 l hb).toArray.extract 0 l.length = (toP2 l hb).toArray := by
     have : l.length = (toP2 l hb).toArray.size := by simpa using hlen.symm
     rw [this]; exact Array.extract_size
    rw [e1, e2] at h3
    exact h3
   have := hp2.map ofP2
   rwa [ofP2_toP2] at this
  ·rw [List.pairwise_map, List.pairwise_iff_getElem]
   intro i j hi hj hij
   have h3 := hsd i j (Nat.zero_le _) hij (by rw [← hlen2]; exact hj)
   rw [byPair_lt, decide_eq_false_iff_not] at h3
   rw [getElem!_pos d' i (by simpa using hi), getElem!_pos d' j (by simpa using hj)] at h3
   simpa [ofP2, ltP] using h3
  ·rw [List.length_map, flat_ofP2]
   exact (holdsK_cells P2.len (l := d'.toList) h1 h2 (by rw [hlen2]; exact hc)).1 (by simpa using hHd)
end Go.Proofs.Ytnojfiokdhcbjaa
namespace Go.Proofs.Ytnojfiokdhcbjaa
open Go Go.RowKit Go.Lib Go.Sort Go.Shelf
theorem boxRow_ne {w : World} {v : Value} {l : List PB} {g : Nat} {T : TypeId} {cs : Array Value} (h : BoxRow w v l) (hB : w.heap[g]? = some (.cells cs T (0, 0))) (hT : T ≠ 72) : v.ownBlock ≠ some g := by
 intro e
 rcases h with ⟨rfl, _⟩ | ⟨g', cap, cs', rfl, h1, _⟩
 ·cases e
 ·cases e
  rw [hB] at h1
  injection h1 with h1
  injection h1 with _ h1
  exact hT h1
theorem boxRow_lt {w : World} {v : Value} {l : List PB} (h : BoxRow w v l) {k : Nat} (hk : v.ownBlock = some k) : k < w.heap.size := by
 rcases h with ⟨rfl, _⟩ | ⟨g, cap, cs, rfl, h1, _⟩
 ·cases hk
 ·cases hk
  exact (Array.getElem?_eq_some_iff.1 h1).1
theorem owns_grown {w w' : World} {B : Nat} {e : TypeId} {size : Nat} {v : Value} {n : Nat} {xs : List Value} {rb : Option Nat} (h : w.ownsRow B e size v n xs) (hg : w.grownBy w' rb) (hn : ∀ k, v.ownBlock = some k → rb ≠ some k) : w'.ownsRow B e size v n xs := by
 refine h.kept hg ?_
 cases hv : v.ownBlock with
 | none => exact .inl rfl
 | some k => exact .inr (fun e => hn k hv e.symm)
theorem owns_ne_type {w : World} {B : Nat} {e : TypeId} {size : Nat} {v : Value} {n : Nat} {xs : List Value} {g : Nat} {T : TypeId} {cs : Array Value} (h : w.ownsRow B e size v n xs) (hB : w.heap[g]? = some (.cells cs T (0, 0))) (hT : T ≠ e) : v.ownBlock ≠ some g := by
 intro hv
 obtain ⟨_, ⟨rfl, _⟩ | ⟨g', cap, cur, rfl, _, hh, _⟩⟩ := h
 ·cases hv
 ·cases hv
  rw [hB] at hh
  injection hh with hh
  injection hh with _ hh
  exact hT hh
theorem rows_apart {w : World} {B : Nat} {e : TypeId} {size : Nat} {v u : Value} {n : Nat} {xs : List Value} {l : List PB} (h : w.ownsRow B e size v n xs) (hr : BoxRow w u l) (he : e ≠ 72) {k : Nat} (hk : v.ownBlock = some k) : u.ownBlock ≠ some k := by
 intro hu
 rcases hr with ⟨rfl, _⟩ | ⟨g, cap, cs, rfl, h1, _⟩
 ·cases hu
 ·cases hu
  exact owns_ne_type h h1 (Ne.symm he) hk
structure PrB (w : World) (A T : Nat) (L : List PB) (v0 v1 vo : Value) (out : List (Nat × Nat)) (wr : World) : Prop where
 b : Below w.heap.size w wr
 ok : ∀ y, y ∈ L → y.1.ok wr y.2
 all : L ≠ [] → HoldsK PB.enc 18 wr A 0 L.toArray ∧ ∃ cs, wr.heap[A]? = some (.cells cs 72 (0, 0))
 ab : L ≠ [] → w.heap.size ≤ A
 t : BlkC 76 wr T [v0, v1]
 tb : w.heap.size ≤ T
 o : wr.ownsRow w.heap.size 56 2 vo out.length (out.flatMap pairEnc)
structure PrR (w : World) (A : Nat) (L : List PB) (v : Value) (l : List PB) (wr : World) : Prop where
 r : BoxRow wr v l
 b : ∀ k, v.ownBlock = some k → w.heap.size ≤ k ∧ (L ≠ [] → k ≠ A)
def Apart (v u : Value) : Prop := ∀ k, v.ownBlock = some k → u.ownBlock ≠ some k
theorem Apart.symm {v u : Value} (h : Apart v u) : Apart u v := fun k hk e => h k e hk
section
variable {w : World} {A T : Nat} {L : List PB} {v0 v1 vo v : Value} {l : List PB} {out : List (Nat × Nat)} {wr w' : World} {rb : Option Nat}
theorem PrB.move (h : PrB w A T L v0 v1 vo out wr) (hg : wr.grownBy w' rb) (hk : Keep wr w') (hb : ∀ k, rb = some k → w.heap.size ≤ k) (hA : L ≠ [] → rb ≠ some A) (hT : rb ≠ some T) (ho : ∀ k, vo.ownBlock = some k → rb ≠ some k) : PrB w A T L v0 v1 vo out w' := by
 refine ⟨h.b.grown hg h.b.size hb, fun y hy => (h.ok y hy).keep hk, fun hL => ?_, h.ab, h.t.grown hg (Ne.symm hT), h.tb, owns_grown h.o hg ho⟩
 obtain ⟨h2, cs, h3⟩ := h.all hL
 have e := hg.block A (Array.getElem?_eq_some_iff.1 h3).1 (Ne.symm (hA hL))
 exact ⟨holdsK_block h2 e, cs, e.trans h3⟩
theorem PrB.gr (h : PrB w A T L v0 v1 vo out wr) (hg : Gr wr w') : PrB w A T L v0 v1 vo out w' :=
 h.move (rb := none) (Gr.grown hg) (Gr.keep hg) (by simp) (by simp) (by simp) (by simp)
theorem PrR.gr (h : PrR w A L v l wr) (hg : Gr wr w') : PrR w A L v l w' := ⟨h.r.grown (Gr.grown hg) (by simp), h.b⟩
theorem PrR.ne (h : PrR w A L v l wr) (hb : PrB w A T L v0 v1 vo out wr) : v.ownBlock ≠ some T := boxRow_ne h.r hb.t (by decide)
theorem PrB.to (h : PrB w A T L v0 v1 vo out wr) : vo.ownBlock ≠ some T := owns_ne_type h.o h.t (by decide)
theorem PrB.at_ne (h : PrB w A T L v0 v1 vo out wr) (hL : L ≠ []) : A ≠ T := by
 rintro rfl
 obtain ⟨_, cs, e⟩ := h.all hL
 have ht := h.t
 unfold BlkC at ht
 rw [e] at ht
 injection ht with ht
 injection ht with _ ht
 exact absurd ht (by decide)
theorem PrB.oA (h : PrB w A T L v0 v1 vo out wr) (hL : L ≠ []) : vo.ownBlock ≠ some A := by
 obtain ⟨_, cs, e⟩ := h.all hL
 exact owns_ne_type h.o e (by decide)
theorem PrB.row (h : PrB w A T L v0 v1 vo out wr) (hr : PrR w A L v l wr) (hg : wr.grownBy w' v.ownBlock) (hk : Keep wr w') : PrB w A T L v0 v1 vo out w' :=
 h.move hg hk (fun k hk => (hr.b k hk).1) (fun hL e => (hr.b A e).2 hL rfl) (hr.ne h) (fun _ hk => rows_apart h.o hr.r (by decide) hk)
theorem PrB.put (h : PrB w A T L v0 v1 vo out wr) (o : Nat) (rv u0 u1 : Value) (hs : [v0, v1].set o rv = [u0, u1]) : PrB w A T L u0 u1 vo out (wr.setCell ⟨T, o, none⟩ rv) := by
 have hg := grown_setCell wr ⟨T, o, none⟩ rv
 have hk : Keep wr (wr.setCell ⟨T, o, none⟩ rv) := keep_set h.t (by decide) rv
 refine ⟨h.b.setCell h.tb _, fun y hy => (h.ok y hy).keep hk, fun hL => ?_, h.ab, ?_, h.tb, owns_grown h.o hg ?_⟩
 ·obtain ⟨h2, cs, h3⟩ := h.all hL
  have e := hg.block A (Array.getElem?_eq_some_iff.1 h3).1 (by intro e; exact h.at_ne hL (Option.some.inj e))
  exact ⟨holdsK_block h2 e, cs, e.trans h3⟩
 ·rw [← hs]; exact h.t.set o rv
 ·intro k hk e
  exact h.to (by rw [hk]; exact congrArg some (Option.some.inj e).symm)
theorem PrR.put (h : PrR w A L v l wr) (hb : PrB w A T L v0 v1 vo out wr) (o : Nat) (rv : Value) : PrR w A L v l (wr.setCell ⟨T, o, none⟩ rv) :=
 ⟨h.r.grown (grown_setCell wr ⟨T, o, none⟩ rv) (fun k hk e => h.ne hb (by rw [hk]; exact congrArg some (Option.some.inj e).symm)), h.b⟩
theorem PrB.found (h : PrB w A T L v0 v1 vo out wr) {vo' : Value} {p : Nat × Nat} (ho : w'.ownsRow w.heap.size 56 2 vo' (out.length + 1) (out.flatMap pairEnc ++ pairEnc p)) (hg : wr.grownBy w' vo.ownBlock) (hk : Keep wr w') : PrB w A T L v0 v1 vo' (out ++ [p]) w' := by
 refine ⟨h.b.grown hg h.b.size (fun k hk => (h.o.lt k hk).1), fun y hy => (h.ok y hy).keep hk, fun hL => ?_, h.ab, h.t.grown hg (Ne.symm h.to), h.tb, by rw [List.length_append, List.flatMap_append]; simpa using ho⟩
 obtain ⟨h2, cs, h3⟩ := h.all hL
 have e := hg.block A (Array.getElem?_eq_some_iff.1 h3).1 (Ne.symm (h.oA hL))
 exact ⟨holdsK_block h2 e, cs, e.trans h3⟩
theorem PrR.found (h : PrR w A L v l wr) (hb : PrB w A T L v0 v1 vo out wr) (hg : wr.grownBy w' vo.ownBlock) : PrR w A L v l w' :=
 ⟨h.r.grown hg (fun _ hk e => rows_apart hb.o h.r (by decide) e hk), h.b⟩
theorem PrR.app (h : PrR w A L v l wr) {v' : Value} {x : PB} {B : Nat} (hA : L ≠ [] → A < wr.heap.size) (hw : w.heap.size ≤ wr.heap.size) (ho : w'.ownsRow B 72 18 v' (l.length + 1) (l.flatMap PB.enc ++ PB.enc x)) (hn : ∀ k, v'.ownBlock = some k → v.ownBlock = some k ∨ k = wr.heap.size) : PrR w A L v' (l ++ [x]) w' := by
 refine ⟨boxRow_of_owns (B := B) (by rw [List.length_append, List.flatMap_append]; simpa using ho), fun k hk => ?_⟩
 rcases hn k hk with e | e
 ·exact h.b k e
 ·exact ⟨by omega, fun hL => by have := hA hL; omega⟩
theorem Apart.app {u v' : Value} {m : List PB} (h : Apart v u) (hu : BoxRow wr u m) (hn : ∀ k, v'.ownBlock = some k → v.ownBlock = some k ∨ k = wr.heap.size) : Apart v' u := fun k hk e => by
 rcases hn k hk with e1 | e1
 ·exact h k e1 e
 ·have := boxRow_lt hu e
  omega
end
theorem pairInfo : ∃ ip, Try.prog.info? 56 = some ip ∧ ip.zero = some (.agg #[.int .i64 0, .int .i64 0]) ∧ ip.size = 2 ∧ ip.bytes = 16 := by
 have h : (Try.prog.info? 56).map (fun i => (i.zero, i.size, i.bytes)) = some (some (.agg #[.int .i64 0, .int .i64 0]), 2, 16) := by kernel_rfl
 cases hi : Try.prog.info? 56 with
 | none => rw [hi] at h; cases h
 | some ip =>
  rw [hi] at h
  simp only [Option.map_some, Option.some.injEq, Prod.mk.injEq] at h
  exact ⟨ip, rfl, h.1, h.2.1, h.2.2⟩
theorem keep_row {w w' : World} {B : Nat} {e : TypeId} {size : Nat} {v : Value} {n : Nat} {xs : List Value} (h : w.ownsRow B e size v n xs) (he : 126 ≠ e) (hg : w.grownBy w' v.ownBlock) : Keep w w' := fun g _ hh =>
 (hg.block g (Array.getElem?_eq_some_iff.1 hh).1 (fun e' => owns_ne_type h hh he e'.symm)).trans hh
theorem cmpR_le {q o : Rat} (h : ¬ o < q) : ¬ 0 < cmpR q o := by
 unfold cmpR
 by_cases h1 : q < o
 ·rw [if_pos h1]; decide
 ·rw [if_neg h1, if_neg h]; decide
structure PrT (w : World) (A T : Nat) (L : List PB) (i : Nat) (v0 v1 vo : Value) (l0 l1 : List PB) (out : List (Nat × Nat)) (wr : World) : Prop where
 m : PrB w A T L v0 v1 vo out wr
 r0 : PrR w A L v0 l0 wr
 r1 : PrR w A L v1 l1 wr
 ap : Apart v0 v1
 m0 : ∀ y, y ∈ l0 → y ∈ L
 m1 : ∀ y, y ∈ l1 → y ∈ L
 st : ((L.take i).map (·.2)).foldl stepS ⟨[], [], []⟩ = ⟨l0.map (·.2), l1.map (·.2), out⟩
 n0 : l0.length ≤ i
 n1 : l1.length ≤ i
 no : out.length ≤ i * 40000
def foundBy (x : PB) (F : List PB) (j : Nat) : List (Nat × Nat) := ((F.take j).filter fun y => hits x.2 y.2).map fun y => pairB x.2 y.2
theorem foundBy_succ (x : PB) (F : List PB) (j : Nat) (y : PB) (h : F[j]? = some y) : foundBy x F (j + 1) = if hits x.2 y.2 = true then foundBy x F j ++ [pairB x.2 y.2] else foundBy x F j := by
 unfold foundBy
 have e : F.take (j + 1) = F.take j ++ [y] := by rw [List.take_add_one, h]; rfl
 rw [e, List.filter_append, List.map_append]
 by_cases hh : hits x.2 y.2 = true
 ·rw [if_pos hh]; simp [hh]
 ·rw [if_neg hh]; simp [hh]
theorem foundBy_len (x : PB) (F : List PB) (j : Nat) : (foundBy x F j).length ≤ j := by
 unfold foundBy
 rw [List.length_map]
 exact Nat.le_trans (List.length_filter_le _ _) (by rw [List.length_take]; omega)
end Go.Proofs.Ytnojfiokdhcbjaa
namespace Go.Proofs.Ytnojfiokdhcbjaa
open Go Go.RowKit Go.Lib Go.Sort Go.Shelf
inductive PtX where
 | any
 | is (v : Value)
 | sl (cs : List Value)
def PtX.ok (B : Nat) (w : World) : PtX → Value → Prop
 | .any, _ => True
 | .is u, v => v = u
 | .sl cs, v => ∃ g, v = .slice (some ⟨g, 0, none⟩) 1 1 ∧ B ≤ g ∧ BlkC 72 w g cs
def RX (B : Nat) (w w' : World) : Prop := ∀ g, B ≤ g → g < w.heap.size → w'.heap[g]? = w.heap[g]?
theorem PtX.ok.mono {B : Nat} {w w' : World} (r : RX B w w') : ∀ {p : PtX} {v : Value}, p.ok B w v → p.ok B w' v
 | .any, _, _ => trivial
 | .is _, _, h => h
 | .sl _, _, ⟨g, h1, h2, h3⟩ => ⟨g, h1, h2, (r g h2 h3.lt).trans h3⟩
theorem RX.refl (B : Nat) (w : World) : RX B w w := fun _ _ _ => rfl
theorem RX.gr {B : Nat} {w w' : World} (h : Gr w w') : RX B w w' := fun g _ hg => h.b.block g hg
theorem RX.grown {B : Nat} {w w' : World} {rb : Option Nat} (h : w.grownBy w' rb) (hb : ∀ k, rb = some k → k < B) : RX B w w' := fun g hB hg => h.block g hg (fun e => by have := hb g e.symm; omega)
theorem region_x {P : Program} {id : Nat} {ops : List Oper} {m : Nat} {a0 : Act} {w0 : World} {Q : Exit → Act → World → Prop} {B : Nat} (hx : P.follows .mixedOrders = true) (hp : parB m ops = true) (hm : a0.tmps.size = m)
  (s : Nat → PtX) (J : (Nat → Bool) → Act → World → Prop) (hJ : ∀ f g a w, (∀ j, j < ops.length → f j = g j) → J f a w → J g a w) (h0 : J (fun _ => false) a0 w0.drew)
  (hstep : ∀ i o f a w, ops[i]? = some o → J f a w → f i = false →
   (∀ j p d, ops[j]? = some p → (o.after.any fun e => Region.binds .any e && e.on == j) = true → p.dst = some d → (s j).ok B w (a.tmps.getD d undef)) →
   (∀ j, (o.after.any fun e => Region.binds .any e && e.on == j) = true → f j = true) →
   (∀ k p j, ops[k]? = some p → f k = true → (p.after.any fun e => Region.binds .any e && e.on == j) = true → f j = true) →
   (∀ t, (∀ p ∈ ops, p.dst ≠ some t) → a.tmps.getD t undef = a0.tmps.getD t undef) →
   a.tmps.size = a0.tmps.size →
   ParOK P o a w (fun v w' => RX B w w' ∧ J (upd f i) (a.put o.dst v) w' ∧ (s i).ok B w' v))
  (hend : ∀ (vs : Nat → Value) w, J (fun _ => true) (putAll ops vs a0) w → Q .normal (putAll ops vs a0) w) :
  (Code.region id ops.toArray true).wp P Q a0 w0 := by
 refine region_act hx hp hm J (fun i v w => (s i).ok B w v) hJ h0 ?_ (fun vs w h _ => hend vs w h)
 intro i o f a w hi hW hf hdep hS hcl hfr hsz
 have hany : ∀ (p : Oper) j, (∀ e ∈ p.after, Region.binds .any e = true → f e.on = true) → (p.after.any fun e => Region.binds .any e && e.on == j) = true → f j = true := by
  intro p j h hj
  rw [Array.any_eq_true'] at hj
  obtain ⟨e, he, hb⟩ := hj
  simp only [Bool.and_eq_true, beq_iff_eq] at hb
  rw [← hb.2]
  exact h e he hb.1
 intro Q'
 refine Oper.wp_mono ?_ (hstep i o f a w hi hW hf (fun j p d hp hj hd => hS j p d hp (hany o j hdep hj) hd) (fun j hj => hany o j hdep hj) (fun k p j hk hfk hj => hany p j (hcl k p hk hfk) hj) hfr hsz Q')
 rintro a' w' ⟨v, rfl, hr, hj, hv⟩
 exact ⟨v, rfl, fun _ _ h => PtX.ok.mono hr h, hj, hv⟩
structure AJ (w ws : World) (A T : Nat) (L : List PB) (own : Nat) (v0 v1 vo vW vO : Value) (lW lO : List PB) (out : List (Nat × Nat)) (x : PB) (bx : Nat) (f : Nat → Bool) (a : Act) (wn : World) : Prop where
 pre : f 7 = false → Gr ws wn
 mid : f 7 = true → f 10 = false → PrB w A T L v0 v1 vo out wn ∧ PrR w A L (a.tmps.getD 103 undef) (lW ++ [x]) wn ∧ PrR w A L vO lO wn ∧ Apart (a.tmps.getD 103 undef) vO
 fin : f 10 = true → ∃ v' u0 u1, [v0, v1].set own v' = [u0, u1] ∧ PrB w A T L u0 u1 vo out wn ∧ PrR w A L v' (lW ++ [x]) wn ∧ PrR w A L vO lO wn ∧ Apart v' vO
 ord : f 10 = true → f 7 = true
section
variable {w ws : World} {A T : Nat} {L : List PB} {own : Nat} {v0 v1 vo vW vO : Value} {lW lO : List PB} {out : List (Nat × Nat)} {x : PB} {bx : Nat} {f : Nat → Bool} {a : Act} {wn w' : World}
theorem AJ.ext {g : Nat → Bool} (hn : ∀ j, j < 11 → f j = g j) (h : AJ w ws A T L own v0 v1 vo vW vO lW lO out x bx f a wn) : AJ w ws A T L own v0 v1 vo vW vO lW lO out x bx g a wn :=
 ⟨fun e => h.pre ((hn 7 (by omega)).trans e), fun e e2 => h.mid ((hn 7 (by omega)).trans e) ((hn 10 (by omega)).trans e2), fun e => h.fin ((hn 10 (by omega)).trans e), fun e => (hn 7 (by omega)).symm.trans (h.ord ((hn 10 (by omega)).trans e))⟩
theorem AJ.gr (h : AJ w ws A T L own v0 v1 vo vW vO lW lO out x bx f a wn) (hg : Gr wn w') (i : Nat) (o : Option Nat) (z : Value) (ho : o ≠ some 103) (hi : i ≠ 7 ∧ i ≠ 10) : AJ w ws A T L own v0 v1 vo vW vO lW lO out x bx (upd f i) (a.put o z) w' := by
 have e7 : upd f i 7 = f 7 := by unfold upd; rw [if_neg (Ne.symm hi.1)]
 have e10 : upd f i 10 = f 10 := by unfold upd; rw [if_neg (Ne.symm hi.2)]
 refine ⟨?_, ?_, ?_, ?_⟩
 ·rw [e7]; exact fun e => (h.pre e).call (h.pre e).size hg
 ·rw [e7, e10, put_other z ho]
  intro e e2
  obtain ⟨h1, h2, h3, h4⟩ := h.mid e e2
  exact ⟨h1.gr hg, h2.gr hg, h3.gr hg, h4⟩
 ·rw [e10]
  intro e
  obtain ⟨v', u0, u1, hs, h1, h2, h3, h4⟩ := h.fin e
  exact ⟨v', u0, u1, hs, h1.gr hg, h2.gr hg, h3.gr hg, h4⟩
 ·rw [e7, e10]; exact h.ord
theorem AJ.same (h : AJ w ws A T L own v0 v1 vo vW vO lW lO out x bx f a wn) (i : Nat) (o : Option Nat) (z : Value) (ho : o ≠ some 103) (hi : i ≠ 7 ∧ i ≠ 10) : AJ w ws A T L own v0 v1 vo vW vO lW lO out x bx (upd f i) (a.put o z) wn :=
 h.gr (Own.refl _ _) i o z ho hi
theorem AJ.app (h : AJ w ws A T L own v0 v1 vo vW vO lW lO out x bx f a wn) {n : Nat} (hsz : a.tmps.size = n) (hn : 103 < n) (hf : f 7 = false) (hB : PrB w A T L v0 v1 vo out wn) (hW : PrR w A L vW lW wn) (hO : PrR w A L vO lO wn) (hap : Apart vW vO) {v' : Value} (ho : w'.ownsRow w.heap.size 72 18 v' (lW.length + 1) (lW.flatMap PB.enc ++ PB.enc x)) (hg : wn.grownBy w' vW.ownBlock) (hk : Keep wn w') (hn' : ∀ k, v'.ownBlock = some k → vW.ownBlock = some k ∨ k = wn.heap.size) : AJ w ws A T L own v0 v1 vo vW vO lW lO out x bx (upd f 7) (a.put (some 103) v') w' := by
 have hf10 : f 10 = false := by
  cases e : f 10 with
  | false => rfl
  | true => rw [h.ord e] at hf; cases hf
 have e10 : upd f 7 10 = false := by unfold upd; rw [if_neg (by omega)]; exact hf10
 refine ⟨?_, ?_, ?_, ?_⟩
 ·intro e; unfold upd at e; rw [if_pos rfl] at e; cases e
 ·intro _ _
  rw [put_same v' (by rw [hsz]; exact hn)]
  refine ⟨hB.row hW hg hk, hW.app (fun hL => ?_) hB.b.size ho hn', ⟨hO.r.grown hg (fun k hk e => hap k e hk), hO.b⟩, hap.app hO.r hn'⟩
  obtain ⟨_, cs, e⟩ := hB.all hL
  exact (Array.getElem?_eq_some_iff.1 e).1
 ·intro e; rw [e10] at e; cases e
 ·intro e; rw [e10] at e; cases e
theorem AJ.put (h : AJ w ws A T L own v0 v1 vo vW vO lW lO out x bx f a wn) (h7 : f 7 = true) (hf : f 10 = false) (z : Value) {u0 u1 : Value} (hs : [v0, v1].set own (a.tmps.getD 103 undef) = [u0, u1]) : AJ w ws A T L own v0 v1 vo vW vO lW lO out x bx (upd f 10) (a.put none z) (wn.setCell ⟨T, own, none⟩ (a.tmps.getD 103 undef)) := by
 have e7 : upd f 10 7 = true := by unfold upd; rw [if_neg (by omega)]; exact h7
 obtain ⟨h1, h2, h3, h4⟩ := h.mid h7 hf
 refine ⟨?_, ?_, ?_, ?_⟩
 ·intro e; rw [e7] at e; cases e
 ·intro _ e; unfold upd at e; rw [if_pos rfl] at e; cases e
 ·intro _
  exact ⟨_, u0, u1, hs, h1.put own _ u0 u1 hs, h2.put h1 own _, h3.put h1 own _, h4⟩
 ·intro _; exact e7
end
theorem foundBy_all (x : PB) (F : List PB) : foundBy x F F.length = ((F.map (·.2)).filter (hits x.2)).map (pairB x.2) := by
 unfold foundBy
 rw [List.take_of_length_le (Nat.le_refl _), List.filter_map, List.map_map]
 rfl
theorem step_f (x : PB) (l0 l1 : List PB) (out : List (Nat × Nat)) (hs : x.2.s = false) : stepS ⟨l0.map (·.2), l1.map (·.2), out⟩ x.2 = ⟨(l0 ++ [x]).map (·.2), (l1.filter fun y => passes x.2 y.2).map (·.2), out ++ foundBy x (l1.filter fun y => passes x.2 y.2) (l1.filter fun y => passes x.2 y.2).length⟩ := by
 rw [foundBy_all]
 unfold stepS
 rw [hs]
 simp only [Bool.false_eq_true, if_false, List.map_append, List.map_cons, List.map_nil, List.filter_map]
 rfl
theorem step_t (x : PB) (l0 l1 : List PB) (out : List (Nat × Nat)) (hs : x.2.s = true) : stepS ⟨l0.map (·.2), l1.map (·.2), out⟩ x.2 = ⟨(l0.filter fun y => passes x.2 y.2).map (·.2), (l1 ++ [x]).map (·.2), out ++ foundBy x (l0.filter fun y => passes x.2 y.2) (l0.filter fun y => passes x.2 y.2).length⟩ := by
 rw [foundBy_all]
 unfold stepS
 rw [hs]
 simp only [if_true, List.map_append, List.map_cons, List.map_nil, List.filter_map]
 rfl
theorem passed_next {L : List PB} {i : Nat} {x : PB} (hx : L[i]? = some x) : ((L.take (i + 1)).map (·.2)).foldl stepS ⟨[], [], []⟩ = stepS (((L.take i).map (·.2)).foldl stepS ⟨[], [], []⟩) x.2 := by
 have e : L.take (i + 1) = L.take i ++ [x] := by rw [List.take_add_one, hx]; rfl
 rw [e, List.map_append, List.foldl_append]
 rfl
end Go.Proofs.Ytnojfiokdhcbjaa
namespace Go.Proofs.Ytnojfiokdhcbjaa
open Go Go.RowKit Go.Lib Go.Sort Go.Shelf
theorem boxesL_at {ss : List Sg} {dl : Rat} {b : Bool} {x : Bx} (h : x ∈ boxesL ss dl b) : ∃ i s, ss[i]? = some s ∧ i < ss.length ∧ x = boxS s dl i b := by
 unfold boxesL at h
 obtain ⟨i, hi⟩ := List.mem_iff_getElem?.1 h
 rw [List.getElem?_mapIdx] at hi
 cases hs : ss[i]? with
 | none => rw [hs] at hi; cases hi
 | some s =>
  rw [hs] at hi
  exact ⟨i, s, hs, (List.getElem?_eq_some_iff.1 hs).1, (Option.some.inj hi).symm⟩
theorem boxesL_order (ss : List Sg) (dl : Rat) (b : Bool) : (boxesL ss dl b).Pairwise fun x y => x.i < y.i := by
 rw [List.pairwise_iff_getElem]
 intro i j hi hj hij
 have h1 : ∀ k (hk : k < (boxesL ss dl b).length), (boxesL ss dl b)[k].i = k := by
  intro k hk
  have hk' : k < ss.length := by simpa [boxesL] using hk
  have e : (boxesL ss dl b)[k]? = some (boxS (ss[k]'hk') dl k b) := by simp [boxesL, hk']
  rw [List.getElem?_eq_getElem hk] at e
  rw [Option.some.inj e]; rfl
 rw [h1 i hi, h1 j hj]
 exact hij
theorem least_le_most (p q : Rat) : bestR ltL [p, q] ≤ bestR ltM [p, q] := by
 unfold bestR
 simp only [List.foldl_cons, List.foldl_nil, decide_eq_true_eq]
 split <;> split <;> grind
theorem boxesL_ok {ss : List Sg} {dl : Rat} {b : Bool} (hd : 0 ≤ dl) {x : Bx} (h : x ∈ boxesL ss dl b) : x.s = b ∧ x.l ≤ x.r := by
 obtain ⟨i, s, _, _, rfl⟩ := boxesL_at h
 refine ⟨rfl, ?_⟩
 have := least_le_most s.ax s.cx
 show bestR ltL [s.ax, s.cx] - dl ≤ bestR ltM [s.ax, s.cx] + dl
 grind
theorem found_end {ss ts : List Sg} {d : Rat} {L ys1 ys2 : List PB} {st : SwS} (hd : 0 ≤ d) (hp : L.Perm (ys1 ++ ys2)) (h1 : ys1.map (·.2) = boxesL ss d false) (h2 : ys2.map (·.2) = boxesL ts 0 true) (hs : L.Pairwise fun x y => x.2.l ≤ y.2.l) (hst : (L.map (·.2)).foldl stepS ⟨[], [], []⟩ = st) :
  (∀ p, p ∈ st.out → p.1 < ss.length ∧ p.2 < ts.length) ∧ ∀ out', out'.Perm st.out → out'.Pairwise (fun p q => ¬ ltP q p) → out' = pairsS (boxesL ss d false) (boxesL ts 0 true) := by
 have hperm : (L.map (·.2)).Perm (boxesL ss d false ++ boxesL ts 0 true) := by
  have := hp.map (·.2)
  rwa [List.map_append, h1, h2] at this
 have hsm : (L.map (·.2)).Pairwise fun x y => x.l ≤ y.l := by
  rw [List.pairwise_map]
  exact hs
 have key : ∀ out', out'.Perm st.out → out'.Pairwise (fun p q => ¬ ltP q p) → out' = pairsS (boxesL ss d false) (boxesL ts 0 true) := fun out' ho hos =>
  pairs_found hperm (fun x hx => boxesL_ok hd hx) (fun x hx => boxesL_ok (by decide) hx) (boxesL_order _ _ _) (boxesL_order _ _ _) hsm (by rw [hst]; exact ho) hos
 refine ⟨fun p hp' => ?_, key⟩
 have hm : ∀ x, x ∈ L.map (·.2) ↔ x ∈ boxesL ss d false ∨ x ∈ boxesL ts 0 true := fun x => by rw [hperm.mem_iff, List.mem_append]
 have hk : (L.map (·.2)).Pairwise fun x y => x.s = y.s → x.i ≠ y.i := by
  have h0 : (boxesL ss d false ++ boxesL ts 0 true).Pairwise fun x y => x.s = y.s → x.i ≠ y.i := by
   rw [List.pairwise_append]
   refine ⟨List.Pairwise.imp (S := fun x y : Bx => x.s = y.s → x.i ≠ y.i) (fun h _ => Nat.ne_of_lt h) (boxesL_order ss d false), List.Pairwise.imp (S := fun x y : Bx => x.s = y.s → x.i ≠ y.i) (fun h _ => Nat.ne_of_lt h) (boxesL_order ts 0 true), fun x hx y hy e => ?_⟩
   rw [(boxesL_ok hd hx).1, (boxesL_ok (by decide) hy).1] at e
   cases e
  exact (hperm.symm.pairwise_iff (fun h e => (h e.symm).symm)).1 h0
 have hI := swept_all hsm hk (fun x hx => ((hm x).1 hx).elim (fun h => (boxesL_ok hd h).2) (fun h => (boxesL_ok (by decide) h).2))
 rw [hst] at hI
 obtain ⟨x, y, k1, k2, k3, k4, _, rfl⟩ := (hI.mem p).1 hp'
 refine ⟨?_, ?_⟩
 ·rcases (hm x).1 k1 with h | h
  ·obtain ⟨i, s, _, hi, rfl⟩ := boxesL_at h
   exact hi
  ·rw [(boxesL_ok (by decide) h).1] at k3; cases k3
 ·rcases (hm y).1 k2 with h | h
  ·rw [(boxesL_ok hd h).1] at k4; cases k4
  ·obtain ⟨i, s, _, hi, rfl⟩ := boxesL_at h
   exact hi
end Go.Proofs.Ytnojfiokdhcbjaa
