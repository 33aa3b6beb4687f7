/-
  slices.IndexFunc and DeleteFunc at boxes, by what has gone by: the walks. (Printed by gen_boxb.py.)
-/
import Derived.Test.YtnojfiokdhcbjaaBoxA
import Derived.Lib.SlKept
import Derived.Lib.SliceRun
namespace Go.Proofs.Ytnojfiokdhcbjaa
open Go Go.RowKit Go.Lib Go.Sort Go.Shelf

/-- A box's cells, and what it stands for. -/
abbrev PB : Type := BV × Bx
instance : Inhabited PB := ⟨⟨.zero, .zero, .zero, .zero, 0, false⟩, ⟨0, 0, 0, 0, 0, false⟩⟩
def PB.enc (y : PB) : List Value := y.1.cells
theorem PB.one (y : PB) : ∀ u ∈ PB.enc y, u.oneCell' = true := by
  intro u hu
  unfold PB.enc BV.cells at hu
  simp only [List.mem_cons, List.not_mem_nil, or_false] at hu
  rcases hu with rfl | rfl | rfl | rfl | rfl | rfl | rfl | rfl | rfl | rfl | rfl | rfl | rfl | rfl | rfl | rfl | rfl | rfl <;> rfl
theorem mem_get (d : Array PB) {i : Nat} (hi : i < d.size) : d[i]! ∈ d.toList := by
  rw [getElem!_pos d i hi]
  exact Array.getElem_mem_toList hi

section
variable {α : Type} [Inhabited α] {enc : α → List Value} {k : Nat}
theorem setMany_put (hk : ∀ x, (enc x).length = k) (d : Array α) (i : Nat) (hi : i < d.size) (y : α) : setMany (flatK enc k d) (i * k) (enc y) = flatK enc k (d.setIfInBounds i y) := by
  refine ext_get! (by simp) fun t ht => ?_
  have ht' : t < d.size * k := by simpa using ht
  have k0 : 0 < k := by
    rcases Nat.eq_zero_or_pos k with h | h
    · subst h; simp at ht'
    · exact h
  have htd : t / k < d.size := (Nat.div_lt_iff_lt_mul k0).2 ht'
  rw [get_setMany _ _ _ t (by simpa using ht'), get_flatK _ _ _ t ht', get_flatK _ _ _ t (by simpa using ht'), hk]
  by_cases a : t / k = i
  · rw [if_pos ((blk_iff k i t k0).2 a)]
    have e : t - i * k = t % k := by subst a; rw [Nat.mod_eq_sub_div_mul]
    rw [e, a]
    simp [hi]
  · rw [if_neg (fun h => a ((blk_iff k i t k0).1 h))]
    simp [htd, Ne.symm a]
theorem flatK_take (d : Array α) (i t : Nat) (hi : i ≤ d.size) (ht : t < i * k) : (flatK enc k (d.extract 0 i))[t]! = (flatK enc k d)[t]! := by
  have k0 : 0 < k := by
    rcases Nat.eq_zero_or_pos k with h | h
    · subst h; simp at ht
    · exact h
  have h1 : t / k < i := (Nat.div_lt_iff_lt_mul k0).2 ht
  have h2 : t < d.size * k := Nat.lt_of_lt_of_le ht (Nat.mul_le_mul_right k hi)
  rw [get_flatK _ _ _ t (by rw [Array.size_extract, Nat.min_eq_left hi]; simpa using ht), get_flatK _ _ _ t h2]
  congr 2
  rw [getElem!_pos (d.extract 0 i) _ (by rw [Array.size_extract, Nat.min_eq_left hi]; simpa using h1), getElem!_pos d _ (by omega), Array.getElem_extract]
  simp
end

theorem setCells_grown (b : Nat) : ∀ (vs : List Value) (o : Nat) (w : World), w.grownBy (w.setCells b o vs) (some b)
  | [], _, w => grown_refl w _
  | v :: r, o, w => by
    rw [World.setCells]
    exact grown_trans (grown_setCell w ⟨b, o, none⟩ v) (setCells_grown b r (o + 1) _)
theorem setCells_shape (b : Nat) {T : TypeId} {N : Nat} : ∀ (vs : List Value) (o : Nat) (w : World), (∃ cs, w.heap[b]? = some (.cells cs T (0, 0)) ∧ cs.size = N) → ∃ cs, (w.setCells b o vs).heap[b]? = some (.cells cs T (0, 0)) ∧ cs.size = N
  | [], _, _, h => h
  | v :: r, o, w, ⟨cs, h, hs⟩ => by
    rw [World.setCells]
    refine setCells_shape b r (o + 1) _ ⟨cs.setIfInBounds o v, ?_, by simpa using hs⟩
    simp [World.setCell, Array.getElem?_modify, h]
theorem setCells_keep (b : Nat) {T : TypeId} (hT : T ≠ 126) (vs : List Value) (o : Nat) (w : World) (h : ∃ cs, w.heap[b]? = some (.cells cs T (0, 0))) : Keep w (w.setCells b o vs) := by
  intro g cs e
  obtain ⟨c0, h0⟩ := h
  have hne : some g ≠ some b := by
    rintro he
    cases he
    rw [h0] at e
    injection e with e
    injection e with _ e
    exact hT e
  exact ((setCells_grown b vs o w).block g (Array.getElem?_eq_some_iff.1 e).1 hne).trans e
theorem setCells_drawn (b : Nat) : ∀ (vs : List Value) (o : Nat) (w : World), (w.setCells b o vs).drawn = w.drawn
  | [], _, _ => rfl
  | v :: r, o, w => by rw [World.setCells, setCells_drawn b r]; rfl

/-- A world in which the row blk holds dk; else nothing of w0 has turned. -/
structure DK (w0 : World) (k blk off N : Nat) (dk : Array PB) (W : World) : Prop where
  h : HoldsK PB.enc k W blk off dk
  g : w0.grownBy W (some blk)
  k : Keep w0 W
  t : ∃ cs, W.heap[blk]? = some (.cells cs 72 (0, 0)) ∧ cs.size = N
  d : w0.drawn ≤ W.drawn
section
variable {w0 W : World} {k blk off N : Nat} {dk : Array PB}
theorem DK.lt (h : DK w0 k blk off N dk W) : blk < W.heap.size := by
  obtain ⟨cs, e, _⟩ := h.t
  exact (Array.getElem?_eq_some_iff.1 e).1
theorem holdsK_block {w w' : World} {d : Array PB} (h : HoldsK PB.enc k w blk off d) (e : w'.heap[blk]? = w.heap[blk]?) : HoldsK PB.enc k w' blk off d := fun j hj => by
  obtain ⟨h1, h2⟩ := h j hj
  exact ⟨(World.cell?_of_block (a := ⟨blk, off + j, none⟩) e).trans h1, by rw [← h2]; unfold World.frozen?; simp only [e]⟩
theorem DK.gr {W' : World} (h : DK w0 k blk off N dk W) (hg : Gr W W') : DK w0 k blk off N dk W' := by
  obtain ⟨h1, h2, h3, ⟨cs, h4, h5⟩, h6⟩ := h
  have hlt := (Array.getElem?_eq_some_iff.1 h4).1
  have e := hg.b.block blk hlt
  have g2 : W.grownBy W' (some blk) := ⟨hg.b.os, hg.b.tape, hg.b.output, hg.b.size, fun q hq _ => hg.b.block q hq⟩
  exact ⟨holdsK_block h1 e, grown_trans h2 g2, h3.trans (Gr.keep hg), ⟨cs, e.trans h4, h5⟩, Nat.le_trans h6 hg.d⟩
theorem DK.ld (h : DK w0 k blk off N dk W) (hk : k = 18) (P : Program) (i : Nat) (hi : i < dk.size) : Sem.run P (loadCellsFrom ⟨blk, off + i * k, none⟩ 0 k #[]) W = .ok (PB.enc dk[i]!).toArray W :=
  run_loadCellsFrom_list P _ _ _ k (by rw [hk]; rfl) (HoldsK.cells h.h (fun x => by rw [hk]; rfl) hi)
theorem row_bnd {i n k : Nat} (hi : i < n) : i * k + k ≤ n * k := by
  have := Nat.mul_le_mul_right k (show i + 1 ≤ n from hi)
  rwa [Nat.add_mul, Nat.one_mul] at this
theorem DK.st (h : DK w0 k blk off N dk W) (hk : k = 18) (P : Program) (i : Nat) (hi : i < dk.size) (y : PB) : Sem.run P (storeCells ⟨blk, off + i * k, none⟩ (PB.enc y) 0) W = .ok () (W.setCells blk (off + i * k) (PB.enc y)) :=
  stores_of_holds P h.h (i * k) _ (by rw [show (PB.enc y).length = k from by rw [hk]; rfl, size_flatK]; exact row_bnd hi) (PB.one y)
theorem DK.put (h : DK w0 k blk off N dk W) (hk : k = 18) (i : Nat) (hi : i < dk.size) (y : PB) : DK w0 k blk off N (dk.setIfInBounds i y) (W.setCells blk (off + i * k) (PB.enc y)) := by
  have hl : (PB.enc y).length = k := by rw [hk]; rfl
  refine ⟨?_, grown_trans h.g (setCells_grown blk _ _ _), h.k.trans (setCells_keep blk (by decide) _ _ _ ⟨_, h.t.choose_spec.1⟩), setCells_shape blk _ _ _ h.t, by rw [setCells_drawn]; exact h.d⟩
  have := holds_setCells_c h.h (i * k) (PB.enc y) (by rw [hl, size_flatK]; exact row_bnd hi)
  rw [setMany_put (fun x => by rw [hk]; rfl) dk i hi y] at this
  exact this
theorem DK.cut (h : DK w0 k blk off N dk W) (i : Nat) (hi : i ≤ dk.size) (vs : List Value) : DK w0 k blk off N (dk.extract 0 i) (W.setCells blk (off + i * k) vs) := by
  refine ⟨fun j hj => ?_, grown_trans h.g (setCells_grown blk _ _ _), h.k.trans (setCells_keep blk (by decide) _ _ _ ⟨_, h.t.choose_spec.1⟩), setCells_shape blk _ _ _ h.t, by rw [setCells_drawn]; exact h.d⟩
  rw [size_flatK, Array.size_extract, Nat.min_eq_left hi, Nat.sub_zero] at hj
  obtain ⟨h1, h2⟩ := h.h j (by rw [size_flatK]; exact Nat.lt_of_lt_of_le hj (Nat.mul_le_mul_right k hi))
  refine ⟨?_, by rw [World.frozen?_setCells]; exact h2⟩
  rw [World.cell?_setCells_out blk _ _ _ _ (fun _ _ => .inl (show off + j < off + i * k by omega)), flatK_take dk i j hi hj]
  exact h1
end

set_option maxHeartbeats 8000000 in
set_option maxRecDepth 1000000 in
theorem indexGone_any (k : Nat) (zE : ∀ w, (Go.sizeOf 72).run Try.prog w = .ok k w) (hk18 : k = 18) (w : World) (blk off cap sz N : Nat) (d : Array PB) (hd : d.size = sz) (hD : DK w k blk off N d w) (hsz : sz < 4611686018427387904) (bx : Nat) (v : BV) (x : Bx) (hb : BlkC 72 w bx v.cells) (hv : v.ok w x) (hok : ∀ y, y ∈ d.toList → y.1.ok w y.2) :
    Calls Try.prog 72 #[.slice (some ⟨blk, off, none⟩) sz cap, .func (.func 23) #[] #[.pointer (some ⟨bx, 0, none⟩)]] w fun e w' => Own w.heap.size w w' ∧ ((e = .returned (.int .i64 (-1)) ∧ ∀ j, j < sz → passes x d[j]!.2 = true) ∨ ∃ i : Nat, e = .returned (.int .i64 i) ∧ i < sz ∧ passes x d[i]!.2 = false ∧ ∀ j, j < i → passes x d[j]!.2 = true) := by
  have HD := Lib.hid hD
  have HB := Lib.hid hb
  have HV := Lib.hid hv
  have HOK := Lib.hid hok
  have HK := Lib.hid hk18
  have HS := Lib.hid hd
  clear hD hb hv hok hk18 hd
  go_enter Try.func72, Try.ntmps72
  go_wp2_with fail
  go_loopg [8] sz (fun g s8 wr => ∃ (i : Nat), s8 = .int .i64 i ∧ i ≤ sz ∧ sz ≤ g + i ∧ Hid (Own w.heap.size w wr) ∧ Hid (∀ j, j < i → passes x d[j]!.2 = true))
  case atStart => exact ⟨0, rfl, Nat.zero_le _, by omega, Own.refl _ _, fun j hj => absurd hj (Nat.not_lt_zero _)⟩
  case round =>
    obtain ⟨i, rfl, hin, hg, HO, HP⟩ := hrel
    by_cases hlt : i < sz
    · have hlz : (i : Int) < (sz : Int) := by omega
      have ia0 : (0 : Int) ≤ (i : Int) := by omega
      have iat : ((i : Int)).toNat = i := by omega
      have hDw := HD.out.gr HO.out
      have l1 := hDw.ld HK.out Try.prog i (by rw [HS.out]; exact hlt)
      have hBw := HB.out.still (Gr.grown HO.out)
      have HBW := Lib.hid hBw
      clear hDw hBw
      obtain ⟨y, hy⟩ : ∃ y, d[i]! = y := ⟨_, rfl⟩
      rw [hy] at l1
      have HY := Lib.hid hy
      clear hy
      go_wp2_with fail
      refine (gone_any v y.1 x y.2 _ bx HBW.out (HV.out.keep (Gr.keep HO.out)) (BV.ok.keep (HOK.out y (by rw [← HY.out]; exact mem_get d (by rw [HS.out]; exact hlt))) (Gr.keep HO.out))).mono ?_
      rintro e w1 ⟨rfl, hg1⟩
      have HO1 := Lib.hid (HO.out.call HO.out.size hg1)
      clear l1 hg1
      cases hp : passes x y.2 with
      | true =>
        have hgo : decide (y.2.r < x.l) = false := by unfold passes at hp; simpa using hp
        rw [hgo]
        go_wp2_with fail
        go_roundg (sz - (i + 1))
        case measure => omega
        case rel => exact ⟨i + 1, by go_num, by omega, by omega, HO1, fun j hj => by
          rcases Nat.lt_or_ge j i with h | h
          · exact HP.out j h
          · have e : j = i := by omega
            rw [e, HY.out]; exact hp⟩
      | false =>
        have hgo : decide (y.2.r < x.l) = true := by unfold passes at hp; simpa using hp
        rw [hgo]
        go_wp2_with fail
        go_ret
        exact ⟨HO1.out, .inr ⟨i, rfl, hlt, by rw [HY.out]; exact hp, HP.out⟩⟩
    · have hlz : ¬ (i : Int) < (sz : Int) := by omega
      have hie : i = sz := by omega
      subst hie
      go_wp2_with fail
      go_ret
      exact ⟨HO.out, .inl ⟨rfl, HP.out⟩⟩

theorem setCells_alloc (w : World) (T : TypeId) : ∀ (vs : List Value) (o : Nat) (cs : Array Value), (w.alloc (.cells cs T)).setCells w.heap.size o vs = w.alloc (.cells (setMany cs o vs) T)
  | [], _, _ => rfl
  | v :: r, o, cs => by
    rw [World.setCells, setMany, ← setCells_alloc w T r (o + 1)]
    congr 1
    unfold World.setCell World.alloc
    congr 1
    apply Array.ext_getElem?
    intro j
    rw [Array.getElem?_modify]
    by_cases h : w.heap.size = j
    · subst h; simp
    · rw [if_neg h]
      simp only [Array.getElem?_push, if_neg (Ne.symm h)]
theorem setMany_all {cs : Array Value} {vs : List Value} (h : cs.size = vs.length) : setMany cs 0 vs = vs.toArray := by
  refine ext_get! (by simp [h]) fun t ht => ?_
  have ht' : t < cs.size := by simpa using ht
  rw [get_setMany _ _ _ t ht', if_pos ⟨Nat.zero_le _, by omega⟩, Nat.sub_zero]
  rw [getElem!_pos vs t (by omega), getElem!_pos vs.toArray t (by simp; omega)]
  simp
theorem fresh_st (w : World) (cs : Array Value) (h : cs.size = 18) (y : PB) : Sem.run Try.prog (storeCells ⟨w.heap.size, 0, none⟩ (PB.enc y) 0) (w.alloc (.cells cs 72)) = .ok () (w.alloc (.cells (PB.enc y).toArray 72)) := by
  have hB : BlkC 72 (w.alloc (.cells cs 72)) w.heap.size cs.toList := BlkC.new _ w cs.toList
  have hr := run_storeCells_cells (P := Try.prog) w.heap.size 0 (PB.enc y) 0 (w.alloc (.cells cs 72)) (fun c hc => by rw [Nat.add_zero, Nat.zero_add, hB.cell c, List.getElem?_eq_getElem (by rw [Array.length_toList, h]; exact hc)]; rfl) (fun c hc => hB.free _) (PB.one y)
  rw [Nat.add_zero, setCells_alloc, setMany_all (by rw [h]; rfl)] at hr
  exact hr
theorem fresh_ld {w : World} {g k : Nat} {y : PB} (hk : k = 18) (hB : BlkC 72 w g (PB.enc y)) : Sem.run Try.prog (loadCellsFrom ⟨g, 0, none⟩ 0 k #[]) w = .ok (PB.enc y).toArray w :=
  run_loadCellsFrom_list _ _ _ _ k (by rw [hk]; rfl) (fun j v hj => by rw [Addr.add_lit, Nat.zero_add, hB.cell j]; exact hj)

theorem clear_boxes (w0 W : World) (k blk off N cap sz i : Nat) (hk : k = 18) (dk : Array PB) (hD : DK w0 k blk off N dk W) (hs : dk.size = sz) (hi : i < sz) :
    ∃ vs, ∀ ty, (Builtin.clear_ #[66] ty #[.slice (some ⟨blk, off + i * k, none⟩) (sz - i) (cap - i)]).run Try.prog W = .ok (.tuple #[]) (W.setCells blk (off + i * k) vs) := by
  obtain ⟨n, hn⟩ : ∃ n, sz - i = n + 1 := ⟨sz - i - 1, by omega⟩
  obtain ⟨zc, hz, hzs⟩ : ∃ zc : Array Value, (∀ w, (zeroValue 72).run Try.prog w = .ok (.agg zc) w) ∧ zc.size = 18 ∧ ∀ v ∈ zc, v.oneCell' = true := ⟨_, fun w => Try.zeroValue72 w, rfl, by decide⟩
  have hl : (Builtin.zeroCells zc (n + 1)).toList.length = (n + 1) * 18 := by simp [Builtin.zeroCells, hzs.1]
  have hb : ∀ c, c < (n + 1) * 18 → i * k + c < (flatK PB.enc k dk).size := fun c hc => by
    rw [size_flatK, hs, hk, show sz = i + (n + 1) by omega, Nat.add_mul]
    omega
  have hst := run_storeCells_cells (P := Try.prog) blk (off + i * k) (Builtin.zeroCells zc (n + 1)).toList 0 W
    (fun c hc => by
      rw [hl] at hc
      rw [Nat.add_zero, Nat.add_assoc, (hD.h _ (hb c hc)).1]; rfl)
    (fun c hc => by
      rw [hl] at hc
      rw [Nat.add_zero, Nat.add_assoc]; exact (hD.h _ (hb c hc)).2)
    (fun v hv => by
      simp only [Builtin.zeroCells, Array.toList_map, List.mem_map] at hv
      obtain ⟨t, _, rfl⟩ := hv
      have hlt : t % zc.size < zc.size := Nat.mod_lt _ (by rw [hzs.1]; omega)
      rw [getElem!_pos zc _ hlt]
      exact hzs.2 _ (Array.getElem_mem hlt))
  rw [Nat.add_zero] at hst
  refine ⟨(Builtin.zeroCells zc (n + 1)).toList, fun ty => ?_⟩
  rw [hn]
  simp [Builtin.clear_, run_underlying Try.underlying66, hz, Value.cells, hst]

set_option maxHeartbeats 8000000 in
set_option maxRecDepth 1000000 in
theorem deleteGone_any (k : Nat) (zE : ∀ w, (Go.sizeOf 72).run Try.prog w = .ok k w) (hk18 : k = 18) (w : World) (blk off cap sz N : Nat) (d : Array PB) (hd : d.size = sz) (hD : DK w k blk off N d w) (hcap : sz ≤ cap) (hsz : sz < 4611686018427387904) (bx : Nat) (v : BV) (x : Bx) (hb : BlkC 72 w bx v.cells) (hbx : bx ≠ blk) (hv : v.ok w x) (hok : ∀ y, y ∈ d.toList → y.1.ok w y.2) :
    Calls Try.prog 42 #[.slice (some ⟨blk, off, none⟩) sz cap, .func (.func 23) #[] #[.pointer (some ⟨bx, 0, none⟩)]] w fun e w' => ∃ d' : Array PB, e = .returned (.slice (some ⟨blk, off, none⟩) d'.size cap) ∧ d'.toList = d.toList.filter (fun y => passes x y.2) ∧ DK w k blk off N d' w' := by
  have hIF := indexGone_any k zE hk18 w blk off cap sz N d hd hD hsz bx v x hb hv hok
  obtain ⟨kp, hkp⟩ : ∃ kp : Nat → Bool, kp = fun j => passes x d[j]!.2 := ⟨_, rfl⟩
  have HKP := Lib.hid hkp
  have hfil : d.toList.filter (fun y => passes x y.2) = keptUpTo kp d d.size := by rw [hkp]; exact (keptUpTo_filter (fun y => passes x y.2) d).symm
  rw [hfil]
  have HI : Aside _ := hIF
  have HD := Lib.hid hD
  have HB := Lib.hid hb
  have HV := Lib.hid hv
  have HOK := Lib.hid hok
  have HK := Lib.hid hk18
  have HS := Lib.hid hd
  have mixed : Try.prog.follows .mixedOrders = true := by kernel_rfl
  clear hD hb hv hok hk18 hd hIF hfil hkp
  go_enter Try.func42, Try.ntmps42
  go_wp2_with fail
  refine Calls.mono HI.out ?_
  clear HI
  rintro e w1 ⟨hg1, ⟨rfl, hall⟩ | ⟨i0, rfl, hi0, hno, hyes⟩⟩
  · -- none has gone by
    have HD1 := Lib.hid (HD.out.gr hg1)
    have HALL := Lib.hid hall
    clear hall hg1
    go_wp2_with fail
    go_ret
    have hkeep : ∀ j, j < d.size → kp j = true := fun j hj => by rw [HKP.out]; exact HALL.out j (by rw [← HS.out]; exact hj)
    refine ⟨d, by rw [HS.out]; rfl, ?_, HD1.out⟩
    rw [keptUpTo_all kp d _ hkeep]
    exact (range_map_get d).symm
  · have HD1 : Hid (DK w k blk off N d w1) := HD.out.gr hg1
    have HI0 : Hid (KeptInv kp d (i0 + 1) i0 d) := KeptInv.start (fun j hj => by rw [HKP.out]; exact hyes j hj) (by rw [HKP.out]; exact hno)
    have HB1 : Hid (BlkC 72 w1 bx v.cells) := HB.out.still (Gr.grown hg1)
    have hne : ¬ ((i0 : Int) = -1) := by omega
    have hneb : (((i0 : Int)) == -1) = false := beq_false_of_ne hne
    clear hg1 hno hyes
    go_wp2_with fail
    go_loopg [5, 6] sz (fun gg s5 s6 wr => ∃ (i j : Nat) (dk : Array PB), s5 = .int .i64 i ∧ s6 = .int .i64 j ∧ j ≤ sz ∧ sz - j ≤ gg ∧ Hid (BlkC 72 wr bx v.cells) ∧ Hid (DK w k blk off N dk wr) ∧ Hid (KeptInv kp d j i dk))
    case atStart => exact ⟨i0, i0 + 1, d, rfl, by go_num, by omega, by omega, HB1, HD1, HI0⟩
    case round =>
      clear HB1 HD1 HI0 hne hneb
      obtain ⟨i, j, dk, rfl, rfl, hjs, hgg, HBr, HDr, HIr⟩ := hrel
      have hij : i < j := HIr.out.lt
      have hds : dk.size = sz := HIr.out.size.trans HS.out
      by_cases hlt : j < sz
      · have hlz : (j : Int) < (sz : Int) := by omega
        have ja0 : (0 : Int) ≤ (j : Int) := by omega
        have jat : ((j : Int)).toNat = j := by omega
        have ia0 : (0 : Int) ≤ (i : Int) := by omega
        have iat : ((i : Int)).toNat = i := by omega
        have iz : (i : Int) < (sz : Int) := by omega
        have l1 := HDr.out.ld HK.out Try.prog j (by rw [hds]; exact hlt)
        rw [HIr.out.high j (by omega)] at l1
        obtain ⟨y, hy⟩ : ∃ y, d[j]! = y := ⟨_, rfl⟩
        rw [hy] at l1
        have HY := Lib.hid hy
        have s1 := fresh_st wr #[.slice none 0 0, .bool false, .slice none 0 0, .bool false, .slice none 0 0, .bool false, .slice none 0 0, .bool false, .slice none 0 0, .bool false, .slice none 0 0, .bool false, .slice none 0 0, .bool false, .slice none 0 0, .bool false, .int .i64 0, .bool false] rfl y
        have HFB : Hid (BlkC 72 (wr.alloc (.cells (PB.enc y).toArray 72)) wr.heap.size (PB.enc y)) := BlkC.new _ wr (PB.enc y)
        have l2 := fresh_ld HK.out HFB.out
        have HGA : Hid (Gr wr (wr.alloc (.cells (PB.enc y).toArray 72))) := own_alloc _ _
        have n1 : (PB.enc y).length = k := by rw [HK.out]; rfl
        clear hy
        go_wp2_with fail
        refine (gone_any v y.1 x y.2 _ bx (HBr.out.still (Gr.grown HGA.out)) (HV.out.keep (HDr.out.k.trans (Gr.keep HGA.out))) (BV.ok.keep (HOK.out y (by rw [← HY.out]; exact mem_get d (by rw [HS.out]; exact hlt))) (HDr.out.k.trans (Gr.keep HGA.out)))).mono ?_
        rintro e w3 ⟨rfl, hg3⟩
        have HG3 : Hid (Gr wr w3) := HGA.out.call HGA.out.size hg3
        have HD3 := Lib.hid (HDr.out.gr HG3.out)
        have HB3 := Lib.hid (HBr.out.still (Gr.grown HG3.out))
        have HF3 := Lib.hid (HFB.out.still (Gr.grown hg3))
        clear l1 l2 s1 hg3 HGA HG3
        cases hp : passes x y.2 with
        | true =>
          have hgo : decide (y.2.r < x.l) = false := by unfold passes at hp; simpa using hp
          rw [hgo]
          have l3 := fresh_ld HK.out HF3.out
          have s3 := HD3.out.st HK.out Try.prog i (by omega) y
          go_wp2_with fail
          go_roundg (sz - (j + 1))
          case measure => omega
          case rel =>
            refine ⟨i + 1, j + 1, dk.setIfInBounds i y, by go_num, by go_num, by omega, Nat.le_refl _, HB3.out.grown (setCells_grown blk _ _ _) (fun e => hbx (Option.some.inj e)), HD3.out.put HK.out i (by omega) y, ?_⟩
            have := HIr.out.keep (by rw [HS.out]; exact hlt) (by rw [HKP.out]; show passes x d[j]!.2 = true; rw [HY.out]; exact hp)
            rwa [HY.out] at this
        | false =>
          have hgo : decide (y.2.r < x.l) = true := by unfold passes at hp; simpa using hp
          rw [hgo]
          go_wp2_with fail
          go_roundg (sz - (j + 1))
          case measure => omega
          case rel => exact ⟨i, j + 1, dk, rfl, by go_num, by omega, Nat.le_refl _, HB3, HD3, HIr.out.skip (by rw [HKP.out]; show passes x d[j]!.2 = false; rw [HY.out]; exact hp)⟩
      · have hje : j = sz := by omega
        subst hje
        have hlz : ¬ (j : Int) < (j : Int) := by omega
        obtain ⟨vs, hcl⟩ := clear_boxes w wr k blk off N cap j i HK.out dk HDr.out hds (by omega)
        have hcut := Lib.hid (HDr.out.cut (off := off) i (by omega) vs)
        have ia0 : (0 : Int) ≤ (i : Int) := by omega
        have iat : ((i : Int)).toNat = i := by omega
        go_wp2_with fail
        go_ret
        have hse : (dk.extract 0 i).size = i := by rw [Array.size_extract, Nat.min_eq_left (by omega), Nat.sub_zero]
        refine ⟨dk.extract 0 i, by rw [hse]; rfl, ?_, hcut.out⟩
        have hlen := HIr.out.len
        have hlow := HIr.out.low
        rw [HS.out]
        apply List.ext_getElem?
        intro t
        rcases Nat.lt_or_ge t i with ht | ht
        · rw [hlow t ht, Array.getElem?_toList, Array.getElem?_extract_of_lt (by omega), getElem!_pos dk t (by omega)]
          simp only [Nat.zero_add]
        · rw [List.getElem?_eq_none (by rw [Array.length_toList, hse]; exact ht), List.getElem?_eq_none (by rw [hlen]; exact ht)]

set_option maxHeartbeats 8000000 in
set_option maxRecDepth 1000000 in
theorem indexNil_any (w : World) (fv : Value) :
    Calls Try.prog 72 #[.slice none 0 0, fv] w fun e w' => e = .returned (.int .i64 (-1)) ∧ Own w.heap.size w w' := by
  go_enter Try.func72, Try.ntmps72
  go_wp2_with fail
  go_loopg [8] 1 (fun g s8 wr => s8 = .int .i64 0 ∧ Hid (Own w.heap.size w wr))
  case atStart => exact ⟨rfl, Own.refl _ _⟩
  case round =>
    obtain ⟨rfl, HO⟩ := hrel
    have hlz : ¬ (0 : Int) < 0 := by omega
    go_wp2_with fail
    go_ret
    exact ⟨rfl, HO.out⟩
set_option maxHeartbeats 8000000 in
set_option maxRecDepth 1000000 in
theorem deleteNil_any (w : World) (fv : Value) :
    Calls Try.prog 42 #[.slice none 0 0, fv] w fun e w' => e = .returned (.slice none 0 0) ∧ Own w.heap.size w w' := by
  go_enter Try.func42, Try.ntmps42
  go_wp2_with fail
  refine (indexNil_any w fv).mono ?_
  rintro e w1 ⟨rfl, hg1⟩
  have HG := Lib.hid hg1
  clear hg1
  go_wp2_with fail
  go_ret
  exact ⟨rfl, HG.out⟩

/-- The row of boxes that a slice shows: its own block of N cells, or none. -/
def BoxRow (w : World) (v : Value) (l : List PB) : Prop :=
  (v = .slice none 0 0 ∧ l = []) ∨ ∃ (g cap : Nat) (cs : Array Value), v = .slice (some ⟨g, 0, none⟩) l.length cap ∧ w.heap[g]? = some (.cells cs 72 (0, 0)) ∧ cs.size = cap * 18 ∧ l.length ≤ cap ∧ cap ≤ maxLen ∧ HoldsK PB.enc 18 w g 0 l.toArray

set_option maxHeartbeats 8000000 in
set_option maxRecDepth 1000000 in
theorem drop_any (w : World) (T o bx : Nat) (rv : Value) (c2 : List Value) (l : List PB) (v : BV) (x : Bx) (hT : BlkC 76 w T c2) (hTo : c2[o]? = some rv) (hr : BoxRow w rv l) (hn : l.length < 4611686018427387904)
    (hb : BlkC 72 w bx v.cells) (hbx : rv.ownBlock ≠ some bx) (hv : v.ok w x) (hok : ∀ y, y ∈ l → y.1.ok w y.2) (hTr : rv.ownBlock ≠ some T) :
    Calls Try.prog 22 #[.pointer (some ⟨T, o, none⟩), .func (.func 23) #[] #[.pointer (some ⟨bx, 0, none⟩)]] w fun e w' => e = .returned (.tuple #[]) ∧ ∃ (rv' : Value) (w1 : World), w' = w1.setCell ⟨T, o, none⟩ rv' ∧ rv'.ownBlock = rv.ownBlock ∧ BoxRow w1 rv' (l.filter fun y => passes x y.2) ∧ w.grownBy w1 rv.ownBlock ∧ Keep w w1 ∧ w.drawn ≤ w1.drawn := by
  have t0 : w.cell? ⟨T, o, none⟩ = some rv := by rw [hT.cell o]; exact hTo
  have HT := Lib.hid hT
  rcases hr with ⟨rfl, rfl⟩ | ⟨g, cap, cs, rfl, hg, hcs, hlc, hcm, hH⟩
  · clear hT
    go_enter Try.func22, Try.ntmps22
    go_wp2_with fail
    refine (deleteNil_any w _).mono ?_
    rintro e w1 ⟨rfl, hg1⟩
    have HT1 := HT.out.still (Gr.grown hg1)
    have t1 : w1.cell? ⟨T, o, none⟩ = some (.slice none 0 0) := by rw [HT1.cell o]; exact hTo
    have f1 := HT1.free o
    have HG := Lib.hid hg1
    clear hg1 HT1 t0
    go_wp2_with fail
    go_end0
    exact ⟨rfl, _, w1, rfl, rfl, .inl ⟨rfl, rfl⟩, Gr.grown HG.out, Gr.keep HG.out, HG.out.d⟩
  · obtain ⟨k, hk⟩ : ∃ k, k = 18 := ⟨_, rfl⟩
    have HD : Hid (DK w k g 0 (cap * 18) l.toArray w) := ⟨by rw [hk]; exact hH, grown_refl _ _, Keep.refl _, ⟨cs, hg, hcs⟩, Nat.le_refl _⟩
    have hne : bx ≠ g := fun e => hbx (by rw [e]; rfl)
    have HC : Aside _ := deleteGone_any k (fun w => by rw [hk]; exact boxSize w) hk w g 0 cap l.length (cap * 18) l.toArray (by simp) HD.out hlc hn bx v x hb hne hv (by simpa using hok)
    have hgT : some T ≠ some g := fun e => hTr (by rw [e]; rfl)
    have HN := Lib.hid hgT
    have HLC := Lib.hid hlc
    have HCM := Lib.hid hcm
    have HKK := Lib.hid hk
    clear hT hg hcs hH hb hv hok hne hgT hlc hcm hk
    go_enter Try.func22, Try.ntmps22
    go_wp2_with fail
    refine Calls.mono HC.out ?_
    rintro e w1 ⟨d', rfl, hd, hD1⟩
    have HT1 := HT.out.grown hD1.g HN.out
    have t1 : w1.cell? ⟨T, o, none⟩ = some (.slice (some ⟨g, 0, none⟩) l.length cap) := by rw [HT1.cell o]; exact hTo
    have f1 := HT1.free o
    have HD1 := Lib.hid hD1
    have HDL := Lib.hid hd
    clear hd hD1 HT1 t0 HC
    go_wp2_with fail
    go_end0
    have hl : l.filter (fun y => passes x y.2) = d'.toList := by rw [HDL.out]
    refine ⟨rfl, _, w1, rfl, rfl, .inr ?_, HD1.out.g, HD1.out.k, HD1.out.d⟩
    obtain ⟨cs1, h1, h2⟩ := HD1.out.t
    rw [hl]
    have hll : d'.toList.length ≤ cap := by
      have := List.length_filter_le (fun y => passes x y.2) l
      rw [hl] at this
      have := HLC.out
      omega
    refine ⟨g, cap, cs1, by simp, h1, h2, hll, HCM.out, ?_⟩
    have hh := HD1.out.h
    rw [HKK.out] at hh
    exact hh
end Go.Proofs.Ytnojfiokdhcbjaa
