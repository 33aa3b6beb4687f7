/-
  sweep.boxes: the walk. (Printed by gen_boxes.py.)
-/
import Derived.Test.YtnojfiokdhcbjaaBoxC
namespace Go.Proofs.Ytnojfiokdhcbjaa
open Go Go.RowKit Go.Lib

/-- A segment's cells; a segment. -/
structure SV where
  ax : RV
  ay : RV
  cx : RV
  cy : RV
def SV.cells (v : SV) : List Value := [.slice v.ax.a v.ax.n v.ax.n, .bool v.ax.b, .slice v.ax.c v.ax.m v.ax.m, .bool v.ax.d, .slice v.ay.a v.ay.n v.ay.n, .bool v.ay.b, .slice v.ay.c v.ay.m v.ay.m, .bool v.ay.d, .slice v.cx.a v.cx.n v.cx.n, .bool v.cx.b, .slice v.cx.c v.cx.m v.cx.m, .bool v.cx.d, .slice v.cy.a v.cy.n v.cy.n, .bool v.cy.b, .slice v.cy.c v.cy.m v.cy.m, .bool v.cy.d]
structure Sg where
  ax : Rat
  ay : Rat
  cx : Rat
  cy : Rat
structure SV.ok (w : World) (v : SV) (s : Sg) : Prop where
  ax : v.ax.ok w s.ax
  ay : v.ay.ok w s.ay
  cx : v.cx.ok w s.cx
  cy : v.cy.ok w s.cy
theorem SV.ok.keep {w w' : World} {v : SV} {s : Sg} (h : v.ok w s) (k : Keep w w') : v.ok w' s := ⟨h.ax.keep k, h.ay.keep k, h.cx.keep k, h.cy.keep k⟩
abbrev ltL : Rat → Rat → Bool := fun y o => decide (y < o)
abbrev ltM : Rat → Rat → Bool := fun y o => decide (o < y)
/-- A segment's box, made greater by dl. -/
def boxS (s : Sg) (dl : Rat) (i : Nat) (second : Bool) : Bx := ⟨bestR ltL [s.ax, s.cx] - dl, bestR ltM [s.ax, s.cx] + dl, bestR ltL [s.ay, s.cy] - dl, bestR ltM [s.ay, s.cy] + dl, i, second⟩
structure SgL (s : Sg) : Prop where
  ax : rlen s.ax ≤ 1000
  ay : rlen s.ay ≤ 1000
  cx : rlen s.cx ≤ 1000
  cy : rlen s.cy ≤ 1000
theorem best_two (lt : Rat → Rat → Bool) (p q : Rat) : bestR lt [p, q] = p ∨ bestR lt [p, q] = q := by
  unfold bestR
  simp only [List.foldl_cons, List.foldl_nil]
  split <;> simp
theorem SgL.l {s : Sg} (h : SgL s) : rlen (bestR ltL [s.ax, s.cx]) ≤ 1000 := by
  rcases best_two ltL s.ax s.cx with e | e <;> rw [e]
  · exact h.ax
  · exact h.cx
theorem SgL.r {s : Sg} (h : SgL s) : rlen (bestR ltM [s.ax, s.cx]) ≤ 1000 := by
  rcases best_two ltM s.ax s.cx with e | e <;> rw [e]
  · exact h.ax
  · exact h.cx
theorem SgL.b {s : Sg} (h : SgL s) : rlen (bestR ltL [s.ay, s.cy]) ≤ 1000 := by
  rcases best_two ltL s.ay s.cy with e | e <;> rw [e]
  · exact h.ay
  · exact h.cy
theorem SgL.t {s : Sg} (h : SgL s) : rlen (bestR ltM [s.ay, s.cy]) ≤ 1000 := by
  rcases best_two ltM s.ay s.cy with e | e <;> rw [e]
  · exact h.ay
  · exact h.cy
theorem rlen_divInt {x y : Int} {k : Nat} (hy : y ≠ 0) (h1 : (limbs x.natAbs).length ≤ k) (h2 : (limbs y.natAbs).length ≤ k) : rlen (Rat.divInt x y) ≤ k + k := by
  obtain ⟨e1, e2⟩ := low_num x y _ rfl hy
  have b1 : (Rat.divInt x y).num.natAbs ≤ x.natAbs := by
    rw [e1]
    have := Int.natAbs_ediv_le_natAbs x (Nat.gcd x.natAbs y.natAbs)
    split
    · rw [Int.natAbs_neg]; exact this
    · exact this
  have b2 : (Rat.divInt x y).den ≤ y.natAbs := by
    have h := congrArg Int.natAbs e2
    rw [Int.natAbs_natCast] at h
    rw [h]
    have := Int.natAbs_ediv_le_natAbs y (Nat.gcd x.natAbs y.natAbs)
    split
    · rw [Int.natAbs_neg]; exact this
    · exact this
  have := limbs_mono b1
  have := limbs_mono b2
  unfold rlen
  omega
theorem rlen_add (q p : Rat) : rlen (q + p) ≤ 2 * (rlen q + rlen p) + 2 := by
  rw [← add_frac]
  have h1 := limbs_mulZ q.num p.den
  have h2 := limbs_mulZ p.num q.den
  have h3 := limbs_mulZ q.den p.den
  simp only [Int.natAbs_natCast] at h1 h2 h3
  have h4 := limbs_addZ (x := q.num * p.den) (y := p.num * q.den) (k := rlen q + rlen p) (by unfold rlen; omega) (by unfold rlen; omega)
  have := rlen_divInt (Int.mul_ne_zero (den_ne q) (den_ne p)) h4 (by unfold rlen; omega)
  omega
theorem rlen_neg (p : Rat) : rlen (-p) = rlen p := by unfold rlen; rw [Rat.neg_num, Int.natAbs_neg, Rat.neg_den]
theorem rlen_sub (q p : Rat) : rlen (q - p) ≤ 2 * (rlen q + rlen p) + 2 := by
  rw [Rat.sub_eq_add_neg]
  have := rlen_add q (-p)
  rwa [rlen_neg] at this
structure RL4 (x : Bx) : Prop where
  f1 : rlen x.l ≤ 300000
  f2 : rlen x.r ≤ 300000
  f3 : rlen x.b ≤ 300000
  f4 : rlen x.t ≤ 300000
theorem boxS_len {s : Sg} {dl : Rat} (h : SgL s) (hd : rlen dl ≤ 1000) (i : Nat) (b : Bool) : RL4 (boxS s dl i b) := by
  have a1 := h.l
  have a2 := h.r
  have a3 := h.b
  have a4 := h.t
  refine ⟨?_, ?_, ?_, ?_⟩
  · have := rlen_sub (bestR ltL [s.ax, s.cx]) dl; show rlen (_ - _) ≤ _; omega
  · have := rlen_add (bestR ltM [s.ax, s.cx]) dl; show rlen (_ + _) ≤ _; omega
  · have := rlen_sub (bestR ltL [s.ay, s.cy]) dl; show rlen (_ - _) ≤ _; omega
  · have := rlen_add (bestR ltM [s.ay, s.cy]) dl; show rlen (_ + _) ≤ _; omega

theorem rrow_two {w : World} {a0 : Option Addr} {n0 : Nat} {b0 : Bool} {c0 : Option Addr} {m0 : Nat} {d0 : Bool} {a1 : Option Addr} {n1 : Nat} {b1 : Bool} {c1 : Option Addr} {m1 : Nat} {d1 : Bool} {p q : Rat}
    (h0 : RIs w (.agg #[.slice a0 n0 n0, .bool b0, .slice c0 m0 m0, .bool d0]) p) (h1 : RIs w (.agg #[.slice a1 n1 n1, .bool b1, .slice c1 m1 m1, .bool d1]) q) :
    RRow (w.alloc (.cells #[.slice a0 n0 n0, .bool b0, .slice c0 m0 m0, .bool d0, .slice a1 n1 n1, .bool b1, .slice c1 m1 m1, .bool d1] 30)) w.heap.size [p, q] := by
  have hB : BlkC 30 (w.alloc (.cells #[.slice a0 n0 n0, .bool b0, .slice c0 m0 m0, .bool d0, .slice a1 n1 n1, .bool b1, .slice c1 m1 m1, .bool d1] 30)) w.heap.size [.slice a0 n0 n0, .bool b0, .slice c0 m0 m0, .bool d0, .slice a1 n1 n1, .bool b1, .slice c1 m1 m1, .bool d1] := BlkC.new _ w _
  refine ⟨hB.lt, fun i r hr => ?_⟩
  match i, hr with
  | 0, hr =>
    cases hr
    exact ⟨a0, n0, b0, c0, m0, d0, by rw [hB.cell]; rfl, by rw [hB.cell]; rfl, by rw [hB.cell]; rfl, by rw [hB.cell]; rfl, h0.keep (keep_alloc _ _)⟩
  | 1, hr =>
    cases hr
    exact ⟨a1, n1, b1, c1, m1, d1, by rw [hB.cell]; rfl, by rw [hB.cell]; rfl, by rw [hB.cell]; rfl, by rw [hB.cell]; rfl, h1.keep (keep_alloc _ _)⟩
  | i + 2, hr => simp at hr

theorem keep_grown_row {w w' : World} {B : Nat} {v : Value} {n : Nat} {xs : List Value} (h : w.ownsRow B 72 18 v n xs) (hg : w.grownBy w' v.ownBlock) : Keep w w' := by
  intro g cs e
  refine (hg.block g (Array.getElem?_eq_some_iff.1 e).1 ?_).trans e
  intro hv
  obtain ⟨_, ⟨rfl, _⟩ | ⟨g', cap, cur, rfl, _, hh, _⟩⟩ := h
  · cases hv
  · cases hv
    rw [hh] at e
    injection e with e
    injection e with _ e
    exact absurd e (by decide)

/-- What a slot's value stands for, while a row grows. -/
inductive PtB where
  | any
  | is (v : Value)
  | q (k : Rat)
  | sl (l : List Rat)
  | bx (x : Bx)
  | slb (x : Bx)
def PtB.ok (B : Nat) (w : World) : PtB → Value → Prop
  | .any, _ => True
  | .is u, v => v = u
  | .q k, v => RIs w v k
  | .sl l, v => ∃ g, v = .slice (some ⟨g, 0, none⟩) l.length l.length ∧ B ≤ g ∧ RRow w g l
  | .bx x, v => ∃ bv : BV, v = .agg bv.cells.toArray ∧ bv.ok w x
  | .slb x, v => ∃ g, ∃ bv : BV, v = .slice (some ⟨g, 0, none⟩) 1 1 ∧ B ≤ g ∧ BlkC 72 w g bv.cells ∧ bv.ok w x
theorem RRow.grown {w w' : World} {g : Nat} {l : List Rat} {rb : Option Nat} (h : RRow w g l) (hg : w.grownBy w' rb) (hn : some g ≠ rb) (k : Keep w w') : RRow w' g l := by
  obtain ⟨h1, h2⟩ := h
  refine ⟨Nat.lt_of_lt_of_le h1 hg.size, fun i q hq => ?_⟩
  obtain ⟨a, n, b, c, m, d, k0, k1, k2, k3, k4⟩ := h2 i q hq
  have e := fun j => World.cell?_of_block (a := ⟨g, j, none⟩) (hg.block g h1 hn)
  exact ⟨a, n, b, c, m, d, (e _).trans k0, (e _).trans k1, (e _).trans k2, (e _).trans k3, k4.keep k⟩
theorem PtB.ok.mono {B : Nat} {rb : Option Nat} (hrb : ∀ k, rb = some k → k < B) {w w' : World} (k : Keep w w') (g : w.grownBy w' rb) : ∀ {p : PtB} {v : Value}, p.ok B w v → p.ok B w' v
  | .any, _, _ => trivial
  | .is _, _, h => h
  | .q _, _, h => RIs.keep h k
  | .sl _, _, ⟨g1, h1, h2, h3⟩ => ⟨g1, h1, h2, h3.grown g (fun e => by have := hrb g1 e.symm; omega) k⟩
  | .bx _, _, ⟨bv, h1, h2⟩ => ⟨bv, h1, h2.keep k⟩
  | .slb _, _, ⟨g1, bv, h1, h2, h3, h4⟩ => ⟨g1, bv, h1, h2, h3.grown g (fun e => by have := hrb g1 e.symm; omega), h4.keep k⟩

theorem region_row {P : Program} {id : Nat} {ops : List Oper} {m : Nat} {a0 : Act} {w0 : World} {Q : Exit → Act → World → Prop} {B : Nat} {rb : Option Nat} (hrb : ∀ k, rb = some k → k < B) (hx : P.follows .mixedOrders = true) (hp : parB m ops = true) (hm : a0.tmps.size = m)
    (s : Nat → PtB) (J : (Nat → Bool) → Act → World → Prop) (hJ : ∀ f g a w, (∀ j, j < ops.length → f j = g j) → J f a w → J g a w) (h0 : J (fun _ => false) a0 w0.drew)
    (hstep : ∀ i o f a w, ops[i]? = some o → J f a w → f i = false →
      (∀ j p d, ops[j]? = some p → (o.after.any fun e => Region.binds .any e && e.on == j) = true → p.dst = some d → (s j).ok B w (a.tmps.getD d undef)) →
      (∀ j, (o.after.any fun e => Region.binds .any e && e.on == j) = true → f j = true) →
      (∀ k p j, ops[k]? = some p → f k = true → (p.after.any fun e => Region.binds .any e && e.on == j) = true → f j = true) →
      (∀ t, (∀ p ∈ ops, p.dst ≠ some t) → a.tmps.getD t undef = a0.tmps.getD t undef) →
      a.tmps.size = a0.tmps.size →
      ParOK P o a w (fun v w' => Keep w w' ∧ w.grownBy w' rb ∧ J (upd f i) (a.put o.dst v) w' ∧ (s i).ok B w' v))
    (hend : ∀ (vs : Nat → Value) w, J (fun _ => true) (putAll ops vs a0) w → Q .normal (putAll ops vs a0) w) :
    (Code.region id ops.toArray true).wp P Q a0 w0 := by
  refine region_act hx hp hm J (fun i v w => (s i).ok B w v) hJ h0 ?_ (fun vs w h _ => hend vs w h)
  intro i o f a w hi hW hf hdep hS hcl hfr hsz
  have hany : ∀ (p : Oper) j, (∀ e ∈ p.after, Region.binds .any e = true → f e.on = true) → (p.after.any fun e => Region.binds .any e && e.on == j) = true → f j = true := by
    intro p j h hj
    rw [Array.any_eq_true'] at hj
    obtain ⟨e, he, hb⟩ := hj
    simp only [Bool.and_eq_true, beq_iff_eq] at hb
    rw [← hb.2]
    exact h e he hb.1
  intro Q'
  refine Oper.wp_mono ?_ (hstep i o f a w hi hW hf (fun j p d hp hj hd => hS j p d hp (hany o j hdep hj) hd) (fun j hj => hany o j hdep hj) (fun k p j hk hfk hj => hany p j (hcl k p hk hfk) hj) hfr hsz Q')
  rintro a' w' ⟨v, rfl, hk, hg, hj, hv⟩
  exact ⟨v, rfl, fun _ _ h => PtB.ok.mono hrb hk hg h, hj, hv⟩

/-- Memory while the region of a round runs. -/
structure BJ (w8 wk w0 : World) (rowv : Value) (g9 g4 m : Nat) (xs : List Value) (v : SV) (u : RV) (x : Bx) (f : Nat → Bool) (a : Act) (w : World) : Prop where
  k : Keep wk w
  b : Below w0.heap.size w0 w
  sz : w8.heap.size ≤ w.heap.size
  seg : BlkC 34 w g9 v.cells
  byb : BlkC 30 w g4 u.cells
  sn : some g9 ≠ rowv.ownBlock
  bn : some g4 ≠ rowv.ownBlock
  row : f 45 = false → w.ownsRow w0.heap.size 72 18 rowv m xs
  out : f 45 = true → ∃ bv : BV, w.ownsRow w0.heap.size 72 18 (a.tmps.getD 62 undef) (m + 1) (xs ++ bv.cells) ∧ bv.ok w x
  old : f 46 = false → a.tmps.getD 7 undef = rowv
  new : f 46 = true → a.tmps.getD 7 undef = a.tmps.getD 62 undef
  ord : f 46 = true → f 45 = true
section
variable {w8 wk w0 : World} {rowv : Value} {g9 g4 m : Nat} {xs : List Value} {v : SV} {u : RV} {x : Bx} {f : Nat → Bool} {a : Act} {w : World}
theorem BJ.ext {g : Nat → Bool} (hn : ∀ j, j < 47 → f j = g j) (h : BJ w8 wk w0 rowv g9 g4 m xs v u x f a w) : BJ w8 wk w0 rowv g9 g4 m xs v u x g a w :=
  ⟨h.k, h.b, h.sz, h.seg, h.byb, h.sn, h.bn, fun e => h.row ((hn 45 (by omega)).trans e), fun e => h.out ((hn 45 (by omega)).trans e), fun e => h.old ((hn 46 (by omega)).trans e), fun e => h.new ((hn 46 (by omega)).trans e), fun e => (hn 45 (by omega)).symm.trans (h.ord ((hn 46 (by omega)).trans e))⟩
theorem BJ.gr (h : BJ w8 wk w0 rowv g9 g4 m xs v u x f a w) {w' : World} (hb : Below w.heap.size w w') (i : Nat) (o : Option Nat) (z : Value) (ho : o ≠ some 62 ∧ o ≠ some 7) (hi : i ≠ 45 ∧ i ≠ 46) : BJ w8 wk w0 rowv g9 g4 m xs v u x (upd f i) (a.put o z) w' := by
  have e5 : upd f i 45 = f 45 := by unfold upd; rw [if_neg (Ne.symm hi.1)]
  have e6 : upd f i 46 = f 46 := by unfold upd; rw [if_neg (Ne.symm hi.2)]
  have hg := grown_of_below hb none
  have hk := keep_below hb
  refine ⟨h.k.trans hk, h.b.trans (hb.mono h.b.size), Nat.le_trans h.sz hb.size, h.seg.still hg, h.byb.still hg, h.sn, h.bn, ?_, ?_, ?_, ?_, ?_⟩
  · rw [e5]; exact fun e => owns_below (h.row e) hb
  · rw [e5, put_other z ho.1]
    intro e
    obtain ⟨bv, h1, h2⟩ := h.out e
    exact ⟨bv, owns_below h1 hb, h2.keep hk⟩
  · rw [e6, put_other z ho.2]; exact h.old
  · rw [e6, put_other z ho.2, put_other z ho.1]; exact h.new
  · rw [e5, e6]; exact h.ord
theorem BJ.same (h : BJ w8 wk w0 rowv g9 g4 m xs v u x f a w) (i : Nat) (o : Option Nat) (z : Value) (ho : o ≠ some 62 ∧ o ≠ some 7) (hi : i ≠ 45 ∧ i ≠ 46) : BJ w8 wk w0 rowv g9 g4 m xs v u x (upd f i) (a.put o z) w :=
  h.gr (Below.refl _ _) i o z ho hi
theorem BJ.app (h : BJ w8 wk w0 rowv g9 g4 m xs v u x f a w) {n : Nat} (hsz : a.tmps.size = n) (hn : 62 < n) (hf : f 45 = false) {v' : Value} {w' : World} {bv : BV} (h1 : w'.ownsRow w0.heap.size 72 18 v' (m + 1) (xs ++ bv.cells)) (h2 : w.grownBy w' rowv.ownBlock) (hk : Keep w w') (ok : bv.ok w x) : BJ w8 wk w0 rowv g9 g4 m xs v u x (upd f 45) (a.put (some 62) v') w' := by
  have hf6 : f 46 = false := by
    cases e : f 46 with
    | false => rfl
    | true => rw [h.ord e] at hf; cases hf
  have e6 : upd f 45 46 = false := by unfold upd; rw [if_neg (by omega)]; exact hf6
  have hrow := h.row hf
  refine ⟨h.k.trans hk, below_grown hrow h.b h.b.size h2, Nat.le_trans h.sz h2.size, h.seg.grown h2 h.sn, h.byb.grown h2 h.bn, h.sn, h.bn, ?_, ?_, ?_, ?_, ?_⟩
  · intro e; unfold upd at e; rw [if_pos rfl] at e; cases e
  · intro _; rw [put_same v' (by rw [hsz]; exact hn)]; exact ⟨bv, h1, ok.keep hk⟩
  · intro _; rw [put_other v' (by simp)]; exact h.old hf6
  · intro e; rw [e6] at e; cases e
  · intro e; rw [e6] at e; cases e
theorem BJ.asgn (h : BJ w8 wk w0 rowv g9 g4 m xs v u x f a w) {n : Nat} (hsz : a.tmps.size = n) (hn : 7 < n) (h45 : f 45 = true) : BJ w8 wk w0 rowv g9 g4 m xs v u x (upd f 46) (a.put (some 7) (a.tmps.getD 62 undef)) w := by
  have e5 : upd f 46 45 = f 45 := by unfold upd; rw [if_neg (by omega)]
  refine ⟨h.k, h.b, h.sz, h.seg, h.byb, h.sn, h.bn, ?_, ?_, ?_, ?_, ?_⟩
  · rw [e5, h45]; intro e; cases e
  · rw [e5, put_other _ (by simp)]; exact h.out
  · intro e; unfold upd at e; rw [if_pos rfl] at e; cases e
  · intro _; rw [put_same _ (by rw [hsz]; exact hn), put_other _ (by simp)]
  · intro _; rw [e5]; exact h45
end

theorem boxInfo : (Try.prog.info? 72).map (fun i => (i.size, i.bytes)) = some (18, 272) := by kernel_rfl
end Go.Proofs.Ytnojfiokdhcbjaa
