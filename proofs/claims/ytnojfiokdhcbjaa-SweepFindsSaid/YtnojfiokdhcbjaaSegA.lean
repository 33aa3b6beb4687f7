/-
  Law 20's segs: rows of segments, as the program and as the reference has them. (Printed by gen_segs.py.)
-/
import Derived.Test.YtnojfiokdhcbjaaRfN
import Derived.Test.YtnojfiokdhcbjaaPrs5
namespace Go.Proofs.Ytnojfiokdhcbjaa
open Go Go.RowKit Go.Lib
def sgOf (p : PQ) : Sg := ⟨Rat.divInt p.ax ((und p.ad : Nat) : Int), Rat.divInt p.ay ((und p.ad : Nat) : Int), Rat.divInt p.cx ((und p.cd : Nat) : Int), Rat.divInt p.cy ((und p.cd : Nat) : Int)⟩
theorem und_r (x d : Int) (h : Rng64 x) : rlen (Rat.divInt x ((und d : Nat) : Int)) ≤ 1000 := by
 have hp := und_pos d
 have h1 : (limbs x.natAbs).length ≤ 2 := (limbs_len _ 2).2 (by have := h.1; have := h.2; omega)
 have h2 : (limbs (((und d : Nat) : Int)).natAbs).length ≤ 2 := (limbs_len _ 2).2 (by omega)
 have := rlen_divInt (x := x) (y := ((und d : Nat) : Int)) (by omega) h1 h2
 omega
theorem sgOf_l {p : PQ} (h : p.ok) : SgL (sgOf p) := ⟨und_r _ _ h.1, und_r _ _ h.2.1, und_r _ _ h.2.2.2.1, und_r _ _ h.2.2.2.2.1⟩
theorem pis_rv {w : World} {v : Value} {x y : Rat} (h : PIs w v x y) (hx : rlen x ≤ 300000) (hy : rlen y ≤ 300000) : ∃ p1 p2 : RV, v = .agg #[.slice p1.a p1.n p1.n, .bool p1.b, .slice p1.c p1.m p1.m, .bool p1.d, .slice p2.a p2.n p2.n, .bool p2.b, .slice p2.c p2.m p2.m, .bool p2.d] ∧ p1.ok w x ∧ p2.ok w y := by
 obtain ⟨a, n, b, c, m, d, a', n', b', c', m', d', rfl, h1, h2⟩ := h
 exact ⟨⟨a, n, b, c, m, d⟩, ⟨a', n', b', c', m', d'⟩, rfl, ⟨h1, hx⟩, ⟨h2, hy⟩⟩
theorem r3 {q : Rat} (h : rlen q ≤ 1000) : rlen q ≤ 300000 := Nat.le_trans h (by omega)
def sg14 (l : List PQ) : List Sg := (l.take 14).map sgOf
def SgC (w : World) (c : List Value) (p : PQ) : Prop := ∃ v : SV, c = v.cells ∧ v.ok w (sgOf p)
def GC (w : World) (c : List Value) (p : PQ) : Prop := ∃ c1 c2 : List Value, c = c1 ++ c2 ∧ QIs w (.agg c1.toArray) p.ax p.ay ((und p.ad : Nat) : Int) ∧ QIs w (.agg c2.toArray) p.cx p.cy ((und p.cd : Nat) : Int)
theorem sgc_keep {w w' : World} (k : KK w w') (c : List Value) (p : PQ) (h : SgC w c p) : SgC w' c p := by
 obtain ⟨v, rfl, h⟩ := h
 exact ⟨v, rfl, h.keep k.1⟩
theorem gc_keep {w w' : World} (k : KK w w') (c : List Value) (p : PQ) (h : GC w c p) : GC w' c p := by
 obtain ⟨c1, c2, rfl, h1, h2⟩ := h
 exact ⟨c1, c2, rfl, kkq _ _ _ k h1, kkq _ _ _ k h2⟩
def RowC (B : Nat) (e : TypeId) (size : Nat) (S : World → List Value → PQ → Prop) (w : World) (v : Value) (l : List PQ) : Prop :=
 ∃ cs : List (List Value), cs.length = l.length ∧ w.ownsRow B e size v l.length cs.flatten ∧ ∀ (j : Nat) c p, cs[j]? = some c → l[j]? = some p → c.length = size ∧ S w c p
theorem rowC_nil (B : Nat) (e : TypeId) (size : Nat) (S : World → List Value → PQ → Prop) (w : World) : RowC B e size S w (.slice none 0 0) [] :=
 ⟨[], rfl, World.ownsRow_nil _ _ _ _, fun j c p h => by simp at h⟩
theorem RowC.kept {B : Nat} {e : TypeId} {size : Nat} {S : World → List Value → PQ → Prop} {w w' : World} {v : Value} {l : List PQ} {rb : Option Nat} (h : RowC B e size S w v l) (hg : w.grownBy w' rb) (hn : ∀ k, v.ownBlock = some k → rb ≠ some k) (hS : ∀ c p, S w c p → S w' c p) : RowC B e size S w' v l := by
 obtain ⟨cs, h1, h2, h3⟩ := h
 exact ⟨cs, h1, owns_grown h2 hg hn, fun j c p k1 k2 => ⟨(h3 j c p k1 k2).1, hS _ _ (h3 j c p k1 k2).2⟩⟩
theorem RowC.snoc {B : Nat} {e : TypeId} {size : Nat} {S : World → List Value → PQ → Prop} {w w' : World} {v' : Value} {l : List PQ} {c : List Value} {p : PQ} {cs : List (List Value)} (h1 : cs.length = l.length) (h3 : ∀ (j : Nat) c p, cs[j]? = some c → l[j]? = some p → c.length = size ∧ S w c p)
  (ho : w'.ownsRow B e size v' (l.length + 1) (cs.flatten ++ c)) (hS : ∀ c p, S w c p → S w' c p) (hc : c.length = size) (hp : S w' c p) : RowC B e size S w' v' (l ++ [p]) := by
 refine ⟨cs ++ [c], by simp [h1], ?_, fun j c' p' k1 k2 => ?_⟩
 ·rw [List.length_append, List.flatten_append]
  simpa using ho
 ·rcases Nat.lt_or_ge j l.length with hj | hj
  ·rw [List.getElem?_append_left (by omega)] at k1 k2
   exact ⟨(h3 j c' p' k1 k2).1, hS _ _ (h3 j c' p' k1 k2).2⟩
  ·rw [List.getElem?_append_right (by omega)] at k1 k2
   rw [h1] at k1
   have hj0 : j - l.length = 0 := by
    have := (List.getElem?_eq_some_iff.1 k2).1
    simp at this
    omega
   rw [hj0] at k1 k2
   cases k1
   cases k2
   exact ⟨hc, hp⟩
theorem flat_at {size : Nat} : ∀ {cs : List (List Value)} (_ : ∀ c, c ∈ cs → c.length = size) {i : Nat} {c : List Value}, cs[i]? = some c → ∀ j x, c[j]? = some x → cs.flatten[i * size + j]? = some x
 | [], _, i, c, h => by simp at h
 | c0 :: r, hl, i, c, h => by
  intro j x hx
  have h0 := hl c0 List.mem_cons_self
  rw [List.flatten_cons]
  match i, h with
  | 0, h =>
   cases h
   have hj := (List.getElem?_eq_some_iff.1 hx).1
   rw [List.getElem?_append_left (by omega), Nat.zero_mul, Nat.zero_add]
   exact hx
  | i + 1, h =>
   rw [List.getElem?_append_right (by rw [h0, Nat.succ_mul]; omega), h0, Nat.succ_mul, show i * size + size + j - size = i * size + j by omega]
   exact flat_at (fun c hc => hl c (List.mem_cons_of_mem _ hc)) h j x hx
theorem RowC.at' {B : Nat} {e : TypeId} {size : Nat} {S : World → List Value → PQ → Prop} {w : World} {v : Value} {l : List PQ} (h : RowC B e size S w v l) : ∃ (o : Option Addr) (c : Nat), v = .slice o l.length c ∧ (l = [] ∨ ∃ g, o = some ⟨g, 0, none⟩ ∧ g < w.heap.size ∧ ∀ (i : Nat) p, l[i]? = some p → ∃ cs, (∀ j x, cs[j]? = some x → w.cell? ⟨g, i * size + j, none⟩ = some x) ∧ S w cs p) := by
 obtain ⟨cs, h1, ⟨_, ⟨rfl, h0⟩ | ⟨g, cap, cur, rfl, hB, hh, hc, hm, hs, ht⟩⟩, h3⟩ := h
 ·exact ⟨none, 0, by rw [h0], .inl (List.eq_nil_of_length_eq_zero h0)⟩
 ·refine ⟨_, cap, rfl, .inr ⟨g, rfl, (Array.getElem?_eq_some_iff.1 hh).1, fun i p hp => ?_⟩⟩
  have hi : i < cs.length := by rw [h1]; exact (List.getElem?_eq_some_iff.1 hp).1
  refine ⟨cs[i], fun j x hx => ?_, (h3 i _ p (List.getElem?_eq_getElem hi) hp).2⟩
  have hall : ∀ c, c ∈ cs → c.length = size := fun c hc => by
   obtain ⟨q, hq⟩ := List.getElem?_of_mem hc
   have hql : q < l.length := by rw [← h1]; exact (List.getElem?_eq_some_iff.1 hq).1
   exact (h3 q c _ hq (List.getElem?_eq_getElem hql)).1
  have hf := flat_at hall (List.getElem?_eq_getElem hi) j x hx
  rw [← ht, List.getElem?_take] at hf
  split at hf
  ·have hBk : BlkC e w g cur.toList := hh
   rw [hBk.cell]
   exact hf
  ·cases hf
theorem RowC.seg {B : Nat} {w : World} {v : Value} {l : List PQ} (h : RowC B 34 16 SgC w v l) : SegSlice w v (l.map sgOf) := by
 obtain ⟨o, c, rfl, h1⟩ := h.at'
 refine ⟨o, c, by rw [List.length_map], ?_⟩
 rcases h1 with rfl | ⟨g, rfl, hg, hr⟩
 ·exact .inl rfl
 ·refine .inr ⟨g, rfl, hg, fun i s hs => ?_⟩
  rw [List.getElem?_map] at hs
  cases hp : l[i]? with
  | none => rw [hp] at hs; cases hs
  | some p =>
   rw [hp] at hs
   cases hs
   obtain ⟨cs, k1, v, rfl, k2⟩ := hr i p hp
   exact ⟨v, k1, k2⟩
def RSegs (w : World) (v : Value) (l : List PQ) : Prop := ∃ (o : Option Addr) (c : Nat), v = .slice o l.length c ∧ (l = [] ∨ ∃ g, o = some ⟨g, 0, none⟩ ∧ g < w.heap.size ∧ ∀ (i : Nat) p, l[i]? = some p → ∃ cs, (∀ j x, cs[j]? = some x → w.cell? ⟨g, i * 12 + j, none⟩ = some x) ∧ GC w cs p)
theorem ki_row {w w' : World} {B : Nat} {e : TypeId} {size : Nat} {v : Value} {n : Nat} {xs : List Value} (h : w.ownsRow B e size v n xs) (he : 3 ≠ e) (hg : w.grownBy w' v.ownBlock) : KI w w' := fun g _ hh =>
 (hg.block g (Array.getElem?_eq_some_iff.1 hh).1 (fun e' => owns_ne_type h hh he e'.symm)).trans hh
theorem apart_app {wn : World} {B : Nat} {e : TypeId} {size n : Nat} {xs : List Value} {u v v' : Value} (h : Apart v u) (hu : wn.ownsRow B e size u n xs) (hn : ∀ k, v'.ownBlock = some k → v.ownBlock = some k ∨ k = wn.heap.size) : Apart v' u := fun k hk e => by
 rcases hn k hk with h1 | h1
 ·exact h k h1 e
 ·have := (hu.lt k e).2
  omega
structure SgR (w : World) (l : List PQ) (i k : Nat) (va vb : Value) (wr : World) : Prop where
 b : Below w.heap.size w wr
 ra : RowC w.heap.size 34 16 SgC wr va (l.take i)
 rb : RowC w.heap.size 55 12 GC wr vb (l.take k)
 ap : Apart va vb
theorem SgR.gr {w wr w' : World} {l : List PQ} {i k : Nat} {va vb : Value} (h : SgR w l i k va vb wr) (hb : Below wr.heap.size wr w') : SgR w l i k va vb w' := by
 have hg := grown_of_below hb none
 exact ⟨h.b.trans (hb.mono h.b.size), h.ra.kept hg (fun _ _ => by simp) (sgc_keep (kk_grown hg)), h.rb.kept hg (fun _ _ => by simp) (gc_keep (kk_grown hg)), h.ap⟩
def KX (B : Nat) (w w' : World) : Prop := KK w w' ∧ RX B w w'
theorem KX.refl (B : Nat) (w : World) : KX B w w := ⟨KK.refl w, RX.refl B w⟩
theorem kx_below {B : Nat} {w w' : World} (h : Below w.heap.size w w') : KX B w w' := ⟨kk_below h, fun g _ hg => h.block g hg⟩
structure SJ (w ws : World) (sa so : Nat) (va : Value) (F : Value → World → Prop) (f : Nat → Bool) (a : Act) (wn : World) : Prop where
 b : Below w.heap.size w wn
 pre : f 15 = false → Below ws.heap.size ws wn
 s4 : f 16 = false → a.tmps.getD sa undef = va
 mid : f 15 = true → F (a.tmps.getD so undef) wn
 fin : f 16 = true → a.tmps.getD sa undef = a.tmps.getD so undef
 ord : f 16 = true → f 15 = true
section
variable {w ws : World} {sa so : Nat} {va : Value} {F : Value → World → Prop} {f : Nat → Bool} {a : Act} {wn w' : World}
theorem SJ.ext {g : Nat → Bool} (hn : ∀ j, j < 17 → f j = g j) (h : SJ w ws sa so va F f a wn) : SJ w ws sa so va F g a wn :=
 ⟨h.b, fun e => h.pre ((hn 15 (by omega)).trans e), fun e => h.s4 ((hn 16 (by omega)).trans e), fun e => h.mid ((hn 15 (by omega)).trans e), fun e => h.fin ((hn 16 (by omega)).trans e), fun e => (hn 15 (by omega)).symm.trans (h.ord ((hn 16 (by omega)).trans e))⟩
theorem SJ.gr (h : SJ w ws sa so va F f a wn) (hF : ∀ v wn w', Below wn.heap.size wn w' → F v wn → F v w') (hb : Below wn.heap.size wn w') (i : Nat) (o : Option Nat) (z : Value) (hc : o ≠ some sa ∧ o ≠ some so ∧ i ≠ 15 ∧ i ≠ 16) : SJ w ws sa so va F (upd f i) (a.put o z) w' := by
 have e15 : upd f i 15 = f 15 := by unfold upd; rw [if_neg (Ne.symm hc.2.2.1)]
 have e16 : upd f i 16 = f 16 := by unfold upd; rw [if_neg (Ne.symm hc.2.2.2)]
 refine ⟨h.b.trans (hb.mono h.b.size), ?_, ?_, ?_, ?_, ?_⟩
 ·rw [e15]; exact fun e => (h.pre e).trans (hb.mono (h.pre e).size)
 ·rw [e16, put_other z hc.1]; exact h.s4
 ·rw [e15, put_other z hc.2.1]; exact fun e => hF _ _ _ hb (h.mid e)
 ·rw [e16, put_other z hc.1, put_other z hc.2.1]; exact h.fin
 ·rw [e15, e16]; exact h.ord
theorem SJ.app (h : SJ w ws sa so va F f a wn) (hsz : so < a.tmps.size) (hne : so ≠ sa) (hf : f 15 = false) {v' : Value} (hb : Below w.heap.size w w') (hF : F v' w') : SJ w ws sa so va F (upd f 15) (a.put (some so) v') w' := by
 have hf16 : f 16 = false := by
  cases e : f 16 with
  | false => rfl
  | true => rw [h.ord e] at hf; cases hf
 have e16 : upd f 15 16 = false := by unfold upd; rw [if_neg (by omega)]; exact hf16
 have e15 : upd f 15 15 = true := by unfold upd; rw [if_pos rfl]
 refine ⟨hb, ?_, ?_, ?_, ?_, ?_⟩
 ·rw [e15]; intro e; cases e
 ·intro _; rw [put_other _ (by simpa using hne)]; exact h.s4 hf16
 ·intro _; rw [put_same _ hsz]; exact hF
 ·rw [e16]; intro e; cases e
 ·rw [e16]; intro e; cases e
theorem SJ.put (h : SJ w ws sa so va F f a wn) (hsz : sa < a.tmps.size) (hne : sa ≠ so) (h15 : f 15 = true) : SJ w ws sa so va F (upd f 16) (a.put (some sa) (a.tmps.getD so undef)) wn := by
 have e15 : upd f 16 15 = true := by unfold upd; rw [if_neg (by omega)]; exact h15
 have e16 : upd f 16 16 = true := by unfold upd; rw [if_pos rfl]
 refine ⟨h.b, ?_, ?_, ?_, ?_, ?_⟩
 ·rw [e15]; intro e; cases e
 ·rw [e16]; intro e; cases e
 ·intro _; rw [put_other _ (by simpa using hne)]; exact h.mid h15
 ·intro _; rw [put_same _ hsz, put_other _ (by simpa using hne)]
 ·intro _; exact e15
end
theorem segInfoS : (Try.prog.info? 34).map (fun i => (i.zero, i.size, i.bytes)) = some (some (.agg #[.slice none 0 0, .bool false, .slice none 0 0, .bool false, .slice none 0 0, .bool false, .slice none 0 0, .bool false, .slice none 0 0, .bool false, .slice none 0 0, .bool false, .slice none 0 0, .bool false, .slice none 0 0, .bool false]), 16, 256) := by kernel_rfl
theorem rsegInfo : (Try.prog.info? 55).map (fun i => (i.zero, i.size, i.bytes)) = some (some (.agg #[.int .i64 0, .slice none 0 0, .int .i64 0, .slice none 0 0, .int .i64 0, .slice none 0 0, .int .i64 0, .slice none 0 0, .int .i64 0, .slice none 0 0, .int .i64 0, .slice none 0 0]), 12, 192) := by kernel_rfl
theorem SgC.one {w : World} {c : List Value} {p : PQ} (h : SgC w c p) : ∀ u ∈ c, u.oneCell' = true := by
 obtain ⟨v, rfl, _⟩ := h
 intro u hu
 unfold SV.cells at hu
 simp only [List.mem_cons, List.not_mem_nil, or_false] at hu
 rcases hu with rfl | rfl | rfl | rfl | rfl | rfl | rfl | rfl | rfl | rfl | rfl | rfl | rfl | rfl | rfl | rfl <;> rfl
theorem QIs.cells6 {w : World} {c : List Value} {x y u : Int} (h : QIs w (.agg c.toArray) x y u) : c.length = 6 ∧ ∀ u ∈ c, u.oneCell' = true := by
 obtain ⟨a1, c1, a2, c2, a3, c3, rfl⟩ := q_cs h
 refine ⟨rfl, fun u hu => ?_⟩
 simp only [List.mem_cons, List.not_mem_nil, or_false] at hu
 rcases hu with rfl | rfl | rfl | rfl | rfl | rfl <;> rfl
theorem GC.one {w : World} {c : List Value} {p : PQ} (h : GC w c p) : c.length = 12 ∧ ∀ u ∈ c, u.oneCell' = true := by
 obtain ⟨c1, c2, rfl, h1, h2⟩ := h
 obtain ⟨k1, k2⟩ := h1.cells6
 obtain ⟨k3, k4⟩ := h2.cells6
 refine ⟨by rw [List.length_append, k1, k3], fun u hu => ?_⟩
 rcases List.mem_append.1 hu with h | h
 ·exact k2 u h
 ·exact k4 u h
theorem kxp {B : Nat} {x y : Rat} (w w' : World) (v : Value) (k : KX B w w') (h : PIs w v x y) : PIs w' v x y := kkp _ _ _ k.1 h
theorem kxq {B : Nat} {x y u : Int} (w w' : World) (v : Value) (k : KX B w w') (h : QIs w v x y u) : QIs w' v x y u := kkq _ _ _ k.1 h
theorem kxs {B : Nat} {p : PQ} (w w' : World) (v : Value) (k : KX B w w') (h : ∃ c : List Value, v = .agg c.toArray ∧ SgC w c p) : ∃ c : List Value, v = .agg c.toArray ∧ SgC w' c p := by
 obtain ⟨c, rfl, h⟩ := h
 exact ⟨c, rfl, sgc_keep k.1 _ _ h⟩
theorem kxg {B : Nat} {p : PQ} (w w' : World) (v : Value) (k : KX B w w') (h : ∃ c : List Value, v = .agg c.toArray ∧ GC w c p) : ∃ c : List Value, v = .agg c.toArray ∧ GC w' c p := by
 obtain ⟨c, rfl, h⟩ := h
 exact ⟨c, rfl, gc_keep k.1 _ _ h⟩
theorem kxr {B : Nat} {T : TypeId} {S : World → List Value → PQ → Prop} {p : PQ} (hS : ∀ (w w' : World), KK w w' → ∀ c p, S w c p → S w' c p) (w w' : World) (v : Value) (k : KX B w w') (h : ∃ (g : Nat) (c : List Value), v = .slice (some ⟨g, 0, none⟩) 1 1 ∧ B ≤ g ∧ BlkC T w g c ∧ S w c p) : ∃ (g : Nat) (c : List Value), v = .slice (some ⟨g, 0, none⟩) 1 1 ∧ B ≤ g ∧ BlkC T w' g c ∧ S w' c p := by
 obtain ⟨g, c, rfl, h1, h2, h3⟩ := h
 exact ⟨g, c, rfl, h1, (k.2 g h1 h2.lt).trans h2, hS _ _ k.1 _ _ h3⟩
theorem pq_cells {w wn : World} {l : List PQ} {gp op i : Nat} {p : PQ} (h : ∀ i p, l[i]? = some p → ∀ j c, p.cells[j]? = some c → w.cell? ⟨gp, op + i * 6 + j, none⟩ = some c) (e : wn.heap[gp]? = w.heap[gp]?) (hp : l[i]? = some p) :
  wn.cell? ⟨gp, op + i * 6, none⟩ = some (.int .i64 p.ax) ∧ wn.cell? ⟨gp, op + i * 6 + 1, none⟩ = some (.int .i64 p.ay) ∧ wn.cell? ⟨gp, op + i * 6 + 2, none⟩ = some (.int .i64 p.ad) ∧ wn.cell? ⟨gp, op + i * 6 + 3, none⟩ = some (.int .i64 p.cx) ∧ wn.cell? ⟨gp, op + i * 6 + 3 + 1, none⟩ = some (.int .i64 p.cy) ∧ wn.cell? ⟨gp, op + i * 6 + 3 + 2, none⟩ = some (.int .i64 p.cd) := by
 have k : ∀ j c, p.cells[j]? = some c → wn.cell? ⟨gp, op + i * 6 + j, none⟩ = some c := fun j c hc => (World.cell?_of_block (a := ⟨gp, _, none⟩) e).trans (h i p hp j c hc)
 exact ⟨k 0 _ rfl, k 1 _ rfl, k 2 _ rfl, k 3 _ rfl, k 4 _ rfl, k 5 _ rfl⟩
set_option maxHeartbeats 8000000 in
set_option maxRecDepth 100000 in
theorem segs_anyF (l : List PQ) (v : Value) (w : World) (hv : PqIs w v l) :
  Calls Try.prog 10 #[v] w fun e w' => ∃ va vb, e = .returned (.tuple #[va, vb]) ∧ SegSlice w' va (sg14 l) ∧ RSegs w' vb (l.take 14) ∧ Below w.heap.size w w' ∧ ∀ o n c, va = .slice o n c → n ≤ c := by
 obtain ⟨hn0, hok, o, cap, rfl, hc⟩ := hv
 obtain ⟨n, hn⟩ : ∃ n, n = l.length := ⟨_, rfl⟩
 rw [← hn] at hn0 ⊢
 have HN := Lib.hid hn
 have HOK := Lib.hid hok
 have HC := Lib.hid hc
 obtain ⟨m, hm⟩ : ∃ m, m = min n 14 := ⟨_, rfl⟩
 have HM : Hid (l.take 14 = l.take m) := by
  refine Lib.hid ?_
  rw [hm, hn]
  rcases Nat.lt_or_ge l.length 14 with h | h
  ·rw [Nat.min_eq_left (by omega), List.take_of_length_le (by omega), List.take_of_length_le (by omega)]
  ·rw [Nat.min_eq_right h]
 have hm1 : m ≤ n := by omega
 have hm2 : m ≤ 14 := by omega
 have hm3 : m = n ∨ m = 14 := by omega
 have HR0 : Hid (SgR w l 0 0 (.slice none 0 0) (.slice none 0 0) w) := ⟨Below.refl _ _, rowC_nil _ _ _ _ _, rowC_nil _ _ _ _ _, fun k hk => by cases hk⟩
 clear hn hok hc hm
 have mixed : Try.prog.follows .mixedOrders = true := by kernel_rfl
 go_enter Try.func10, Try.ntmps10
 go_wp2_with fail
 go_loopg [4, 5, 6] m (fun kx s4 s5 s6 wr => ∃ (i : Nat) (va vb : Value), s6 = .int .i64 i ∧ va = s4 ∧ vb = s5 ∧ i ≤ m ∧ m ≤ kx + i ∧ Hid (SgR w l i i va vb wr))
 case atStart => exact ⟨0, _, _, rfl, rfl, rfl, Nat.zero_le _, by omega, HR0⟩
 case round =>
  clear HR0
  obtain ⟨i, va, vb, rfl, rfl, rfl, him, hkx, HR⟩ := hrel
  by_cases hlt : i < m
  ·have hlz : (i : Int) < (n : Int) := by omega
   have hlz2 : (i : Int) < 14 := by omega
   obtain ⟨p, hp⟩ : ∃ p, l[i]? = some p := ⟨_, List.getElem?_eq_getElem (by have := HN.out; omega)⟩
   have HI := Lib.hid hp
   have HP := Lib.hid (HOK.out p (List.mem_of_getElem? hp))
   have HI14 : Hid (i < 14) := Lib.hid (by omega)
   rcases HC.out with h0 | ⟨gp, op, rfl, hgp, hpq⟩
   ·exact absurd HN.out (by rw [h0]; simp; omega)
   have HPQ := Lib.hid hpq
   have HGP := Lib.hid hgp
   clear hp hpq
   have eii : ((i : Int)).toNat = i := by omega
   have pii : (0 : Int) ≤ (i : Int) := by omega
   have bii : (i : Int) < (n : Int) := hlz
   have HLA : Hid ((l.take i).length = i) := Lib.hid (by rw [List.length_take]; have := HN.out; omega)
   have HTK : Hid (l.take (i + 1) = l.take i ++ [p]) := Lib.hid (by rw [List.take_add_one, HI.out]; rfl)
   have HOB : Hid (∀ k, va.ownBlock = some k → k < wr.heap.size) := Lib.hid (fun k hk => by obtain ⟨_, _, ho, _⟩ := HR.out.ra; exact (ho.lt k hk).2)
   have hF6 : ∀ v wn w', Below wn.heap.size wn w' → SgR w l (i + 1) i v vb wn → SgR w l (i + 1) i v vb w' := fun _ _ _ hb h => h.gr hb
   go_wp2_with fail
   refine region_kk (by kernel_rfl) (by kernel_rfl) rfl (KX wr.heap.size) (fun | 0 => .is (va) | 1 => .is (.slice (some ⟨gp, op, none⟩) n cap) | 2 => .is (.int .i64 (i : Int)) | 3 => .is (.pointer (some ⟨gp, op + i * 6, none⟩)) | 4 => .is (.pointer (some ⟨gp, op + i * 6, none⟩)) | 5 => .is (.agg #[.int .i64 p.ax, .int .i64 p.ay, .int .i64 p.ad]) | 6 => .p ((fun W v => PIs W v (Rat.divInt p.ax ((und p.ad : Nat) : Int)) (Rat.divInt p.ay ((und p.ad : Nat) : Int)))) kxp | 7 => .is (.slice (some ⟨gp, op, none⟩) n cap) | 8 => .is (.int .i64 (i : Int)) | 9 => .is (.pointer (some ⟨gp, op + i * 6, none⟩)) | 10 => .is (.pointer (some ⟨gp, op + i * 6 + 3, none⟩)) | 11 => .is (.agg #[.int .i64 p.cx, .int .i64 p.cy, .int .i64 p.cd]) | 12 => .p ((fun W v => PIs W v (Rat.divInt p.cx ((und p.cd : Nat) : Int)) (Rat.divInt p.cy ((und p.cd : Nat) : Int)))) kxp | 13 => .p ((fun W v => ∃ c : List Value, v = .agg c.toArray ∧ SgC W c p)) kxs | 14 => .p ((fun W v => ∃ (g : Nat) (c : List Value), v = .slice (some ⟨g, 0, none⟩) 1 1 ∧ wr.heap.size ≤ g ∧ BlkC 34 W g c ∧ SgC W c p)) (kxr (fun _ _ => sgc_keep)) | 15 => .any | 16 => .any | _ => .any) (SJ w wr 4 32 va (fun v W => SgR w l (i + 1) i v vb W)) (fun f g a w hn h => SJ.ext hn h) ?_ ?_ ?_
   ·exact ⟨HR.out.b.drew, fun _ => (Below.refl _ _).drew, fun _ => rfl, (fun e => by cases e), (fun e => by cases e), (fun e => by cases e)⟩
   ·intro i o f A W hi hJ hf hdep hdn hcl hfr hsz
    rcases i with _ | _ | _ | _ | _ | _ | _ | _ | _ | _ | _ | _ | _ | _ | _ | _ | _ | i
    all_goals (simp at hi)
    all_goals (try subst hi)
    ·have h16 : f 16 = false := by
      cases h : f 16 with
      | false => rfl
      | true => rw [hcl 15 _ 0 rfl (hJ.ord h) (by kernel_rfl)] at hf; cases hf
     have t4 := hJ.s4 h16
     refine par_value (v := va) (w' := W) ?_ ⟨KX.refl _ _, hJ.gr hF6 (Below.refl _ _) _ _ _ (by simp), rfl⟩
     simp [go_sem, Act.eval, t4]
    ·have t0 := hfr 0 (by simp)
     refine par_value (v := .slice (some ⟨gp, op, none⟩) n cap) (w' := W) ?_ ⟨KX.refl _ _, hJ.gr hF6 (Below.refl _ _) _ _ _ (by simp), rfl⟩
     simp [go_sem, Act.eval, t0]
    ·have t6 := hfr 6 (by simp)
     refine par_value (v := .int .i64 (i : Int)) (w' := W) ?_ ⟨KX.refl _ _, hJ.gr hF6 (Below.refl _ _) _ _ _ (by simp), rfl⟩
     simp [go_sem, Act.eval, t6]
    ·have t18 : A.tmps.getD 18 undef = .slice (some ⟨gp, op, none⟩) n cap := hdep 1 _ 18 rfl (by kernel_rfl) rfl
     have t19 : A.tmps.getD 19 undef = .int .i64 (i : Int) := hdep 2 _ 19 rfl (by kernel_rfl) rfl
     refine par_value (v := .pointer (some ⟨gp, op + i * 6, none⟩)) (w' := W) ?_ ⟨KX.refl _ _, hJ.gr hF6 (Below.refl _ _) _ _ _ (by simp), rfl⟩
     simp [go_sem, Act.eval, t18, t19, eii, pii, bii]
    ·have t20 : A.tmps.getD 20 undef = .pointer (some ⟨gp, op + i * 6, none⟩) := hdep 3 _ 20 rfl (by kernel_rfl) rfl
     refine par_value (v := .pointer (some ⟨gp, op + i * 6, none⟩)) (w' := W) ?_ ⟨KX.refl _ _, hJ.gr hF6 (Below.refl _ _) _ _ _ (by simp), rfl⟩
     simp [go_sem, Act.eval, t20]
    ·have t21 : A.tmps.getD 21 undef = .pointer (some ⟨gp, op + i * 6, none⟩) := hdep 4 _ 21 rfl (by kernel_rfl) rfl
     obtain ⟨y0, y1, y2, z0, z1, z2⟩ := pq_cells HPQ.out (hJ.b.block gp HGP.out) HI.out
     refine par_value (v := .agg #[.int .i64 p.ax, .int .i64 p.ay, .int .i64 p.ad]) (w' := W) ?_ ⟨KX.refl _ _, hJ.gr hF6 (Below.refl _ _) _ _ _ (by simp), rfl⟩
     simp [go_sem, Act.eval, t21, y0, y1, y2]
    ·have t22 : A.tmps.getD 22 undef = .agg #[.int .i64 p.ax, .int .i64 p.ay, .int .i64 p.ad] := hdep 5 _ 22 rfl (by kernel_rfl) rfl
     refine par_call (w' := W) (f := 26) (xs := #[Value.agg #[.int .i64 p.ax, .int .i64 p.ay, .int .i64 p.ad]]) (by simp [go_sem, Act.eval, t22]) ?_
     refine (pAt_any p.ax p.ay p.ad _ HP.out.1 HP.out.2.1).mono ?_
     rintro e w1 ⟨r, rfl, hr, hg1⟩
     exact ⟨r, rfl, kx_below hg1, hJ.gr hF6 hg1 _ _ _ (by simp), hr⟩
    ·have t0 := hfr 0 (by simp)
     refine par_value (v := .slice (some ⟨gp, op, none⟩) n cap) (w' := W) ?_ ⟨KX.refl _ _, hJ.gr hF6 (Below.refl _ _) _ _ _ (by simp), rfl⟩
     simp [go_sem, Act.eval, t0]
    ·have t6 := hfr 6 (by simp)
     refine par_value (v := .int .i64 (i : Int)) (w' := W) ?_ ⟨KX.refl _ _, hJ.gr hF6 (Below.refl _ _) _ _ _ (by simp), rfl⟩
     simp [go_sem, Act.eval, t6]
    ·have t24 : A.tmps.getD 24 undef = .slice (some ⟨gp, op, none⟩) n cap := hdep 7 _ 24 rfl (by kernel_rfl) rfl
     have t25 : A.tmps.getD 25 undef = .int .i64 (i : Int) := hdep 8 _ 25 rfl (by kernel_rfl) rfl
     refine par_value (v := .pointer (some ⟨gp, op + i * 6, none⟩)) (w' := W) ?_ ⟨KX.refl _ _, hJ.gr hF6 (Below.refl _ _) _ _ _ (by simp), rfl⟩
     simp [go_sem, Act.eval, t24, t25, eii, pii, bii]
    ·have t26 : A.tmps.getD 26 undef = .pointer (some ⟨gp, op + i * 6, none⟩) := hdep 9 _ 26 rfl (by kernel_rfl) rfl
     refine par_value (v := .pointer (some ⟨gp, op + i * 6 + 3, none⟩)) (w' := W) ?_ ⟨KX.refl _ _, hJ.gr hF6 (Below.refl _ _) _ _ _ (by simp), rfl⟩
     simp [go_sem, Act.eval, t26]
    ·have t27 : A.tmps.getD 27 undef = .pointer (some ⟨gp, op + i * 6 + 3, none⟩) := hdep 10 _ 27 rfl (by kernel_rfl) rfl
     obtain ⟨y0, y1, y2, z0, z1, z2⟩ := pq_cells HPQ.out (hJ.b.block gp HGP.out) HI.out
     have y0 := z0
     have y1 := z1
     have y2 := z2
     refine par_value (v := .agg #[.int .i64 p.cx, .int .i64 p.cy, .int .i64 p.cd]) (w' := W) ?_ ⟨KX.refl _ _, hJ.gr hF6 (Below.refl _ _) _ _ _ (by simp), rfl⟩
     simp [go_sem, Act.eval, t27, y0, y1, y2]
    ·have t28 : A.tmps.getD 28 undef = .agg #[.int .i64 p.cx, .int .i64 p.cy, .int .i64 p.cd] := hdep 11 _ 28 rfl (by kernel_rfl) rfl
     refine par_call (w' := W) (f := 26) (xs := #[Value.agg #[.int .i64 p.cx, .int .i64 p.cy, .int .i64 p.cd]]) (by simp [go_sem, Act.eval, t28]) ?_
     refine (pAt_any p.cx p.cy p.cd _ HP.out.2.2.2.1 HP.out.2.2.2.2.1).mono ?_
     rintro e w1 ⟨r, rfl, hr, hg1⟩
     exact ⟨r, rfl, kx_below hg1, hJ.gr hF6 hg1 _ _ _ (by simp), hr⟩
    ·have t23 : (fun W v => PIs W v (Rat.divInt p.ax ((und p.ad : Nat) : Int)) (Rat.divInt p.ay ((und p.ad : Nat) : Int))) W (A.tmps.getD 23 undef) := hdep 6 _ 23 rfl (by kernel_rfl) rfl
     have t29 : (fun W v => PIs W v (Rat.divInt p.cx ((und p.cd : Nat) : Int)) (Rat.divInt p.cy ((und p.cd : Nat) : Int))) W (A.tmps.getD 29 undef) := hdep 12 _ 29 rfl (by kernel_rfl) rfl
     obtain ⟨p1, p2, e1, k1, k2⟩ := pis_rv t23 (r3 (und_r _ _ HP.out.1)) (r3 (und_r _ _ HP.out.2.1))
     obtain ⟨p3, p4, e2, k3, k4⟩ := pis_rv t29 (r3 (und_r _ _ HP.out.2.2.2.1)) (r3 (und_r _ _ HP.out.2.2.2.2.1))
     refine par_value (v := .agg #[.slice p1.a p1.n p1.n, .bool p1.b, .slice p1.c p1.m p1.m, .bool p1.d, .slice p2.a p2.n p2.n, .bool p2.b, .slice p2.c p2.m p2.m, .bool p2.d, .slice p3.a p3.n p3.n, .bool p3.b, .slice p3.c p3.m p3.m, .bool p3.d, .slice p4.a p4.n p4.n, .bool p4.b, .slice p4.c p4.m p4.m, .bool p4.d]) (w' := W) ?_ ⟨KX.refl _ _, hJ.gr hF6 (Below.refl _ _) _ _ _ (by simp), ⟨_, rfl, ⟨p1, p2, p3, p4⟩, rfl, ⟨k1, k2, k3, k4⟩⟩⟩
     have e1' : A.tmps[23]?.getD undef = _ := (Array.getD_eq_getD_getElem? ..).symm.trans e1
     have e2' : A.tmps[29]?.getD undef = _ := (Array.getD_eq_getD_getElem? ..).symm.trans e2
     simp [go_sem, Act.eval, e1', e2']
    ·have t30 : (fun W v => ∃ c : List Value, v = .agg c.toArray ∧ SgC W c p) W (A.tmps.getD 30 undef) := hdep 13 _ 30 rfl (by kernel_rfl) rfl
     have h15 : f 15 = false := by
      cases h : f 15 with
      | false => rfl
      | true => rw [hcl 15 _ 14 rfl h (by kernel_rfl)] at hf; cases hf
     obtain ⟨c, ec, v, rfl, hv⟩ := t30
     have hS0 : SgC W v.cells p := ⟨v, rfl, hv⟩
     have g0 := (Array.getD_eq_getD_getElem? ..).symm.trans ec
     have hb9 : Below W.heap.size W (W.alloc (.cells (v.cells : List Value).toArray 34)) := (own_alloc _ _).b
     refine par_value (v := .slice (some ⟨W.heap.size, 0, none⟩) 1 1) (w' := W.alloc (.cells (v.cells : List Value).toArray 34)) ?_ ⟨kx_below hb9, hJ.gr hF6 hb9 _ _ _ (by simp), ⟨W.heap.size, _, rfl, (hJ.pre h15).size, BlkC.new _ W _, sgc_keep (kk_below hb9) _ _ hS0⟩⟩
     simp [go_sem, Act.eval, g0, SV.cells]
    ·have t17 : A.tmps.getD 17 undef = va := hdep 0 _ 17 rfl (by kernel_rfl) rfl
     have t31 : (fun W v => ∃ (g : Nat) (c : List Value), v = .slice (some ⟨g, 0, none⟩) 1 1 ∧ wr.heap.size ≤ g ∧ BlkC 34 W g c ∧ SgC W c p) W (A.tmps.getD 31 undef) := hdep 14 _ 31 rfl (by kernel_rfl) rfl
     obtain ⟨g61, c61, e61, l61, b61, hS1⟩ := t31
     have hgr := hJ.pre hf
     have pB := HR.out.gr hgr
     obtain ⟨ib, hib, hib0, hib1, hib2⟩ := info_parts segInfoS
     obtain ⟨cs, hc1, hown, hc3⟩ := pB.ra
     obtain ⟨_, _, hbo, _⟩ := pB.rb
     rw [HLA.out] at hown
     intro Q'
     refine wp_append_lies W (.tmp 17) (.tmp 31) 23 rfl w.heap.size 34 ib _ 16 256 Try.underlying23 hib hib0 hib1 hib2 rfl (by decide) va i _ t17 hown ⟨g61, 0, none⟩ 1 1 c61 e61 (by obtain ⟨v, rfl, _⟩ := hS1; rfl) (fun q u hq => by rw [Addr.add_lit, Nat.zero_add, b61.cell q]; exact hq) hS1.one (by omega) (by have := HI14.out; unfold maxLen; omega) (by have := HI14.out; omega) pB.b.size W.heap.size rfl ?_
     intro g9 cap9 w9 h1 h2 h3 h4
     have hkk : KK W w9 := ⟨keep_row hown (by decide) h2, ki_row hown (by decide) h2⟩
     have hb9 : Below w.heap.size w w9 := hJ.b.grown h2 hJ.b.size (fun k hk => (hown.lt k hk).1)
     have hn' : ∀ k, (Value.slice (some ⟨g9, 0, none⟩) (i + 1) cap9).ownBlock = some k → (va).ownBlock = some k ∨ k = W.heap.size := fun k hk => by
      have e : g9 = k := by injection hk
      rcases h3 with h | h
      ·exact .inl (h.trans (congrArg some e))
      ·exact .inr (e.symm.trans h)
     have hF9 : SgR w l (i + 1) i _ vb w9 := ⟨hb9, (by rw [HTK.out]; exact RowC.snoc hc1 hc3 (by rw [HLA.out]; exact h1) (sgc_keep hkk) (by obtain ⟨v, rfl, _⟩ := hS1; rfl) (sgc_keep hkk _ _ hS1)), pB.rb.kept h2 (fun k hk e => pB.ap k e hk) (gc_keep hkk), apart_app pB.ap hbo hn'⟩
     exact ⟨_, rfl, ⟨hkk, RX.grown h2 (fun k hk => HOB.out k hk)⟩, hJ.app (by rw [hsz]; simp) (by simp) hf hb9 hF9, trivial⟩
    ·have h15 := hdn 15 (by kernel_rfl)
     refine par_value (v := A.tmps.getD 32 undef) (w' := W) ?_ ⟨KX.refl _ _, hJ.put (by rw [hsz]; simp) (by simp) h15, trivial⟩
     simp [go_sem, Act.eval]
   ·intro vs W hJ hs
    have h1 := hJ.mid rfl
    have h2 := hJ.fin rfl
    have h2' : vs 4 = vs 32 := by simpa [putAll, Act.put] using h2
    have h1' : SgR w l (i + 1) i (vs 32) vb W := by simpa [putAll, Act.put] using h1
    clear hJ hs h1 h2
    simp only [putAll, List.foldl_cons, List.foldl_nil, Act.put, List.setIfInBounds_toArray, List.set_cons_succ, List.set_cons_zero]
    rw [h2']
    have HR2 := Lib.hid h1'
    generalize vs 32 = va2 at *
    clear h2' h1' HR HLA HTK HOB
    have HGP2 := HGP
    clear HGP
    obtain ⟨va, hva⟩ : ∃ q, q = va2 := ⟨_, rfl⟩
    subst hva
    obtain ⟨wr, hwr⟩ : ∃ q : World, q = W := ⟨_, rfl⟩
    subst hwr
    have HR := HR2
    have HGP := HGP2
    clear HR2 HGP2
    have HLA : Hid ((l.take i).length = i) := Lib.hid (by rw [List.length_take]; have := HN.out; omega)
    have HTK : Hid (l.take (i + 1) = l.take i ++ [p]) := Lib.hid (by rw [List.take_add_one, HI.out]; rfl)
    have HOB : Hid (∀ k, vb.ownBlock = some k → k < wr.heap.size) := Lib.hid (fun k hk => by obtain ⟨_, _, ho, _⟩ := HR.out.rb; exact (ho.lt k hk).2)
    have hF7 : ∀ v wn w', Below wn.heap.size wn w' → SgR w l (i + 1) (i + 1) va v wn → SgR w l (i + 1) (i + 1) va v w' := fun _ _ _ hb h => h.gr hb
    go_wp2_with fail
    refine region_kk (by kernel_rfl) (by kernel_rfl) rfl (KX wr.heap.size) (fun | 0 => .is (vb) | 1 => .is (.slice (some ⟨gp, op, none⟩) n cap) | 2 => .is (.int .i64 (i : Int)) | 3 => .is (.pointer (some ⟨gp, op + i * 6, none⟩)) | 4 => .is (.pointer (some ⟨gp, op + i * 6, none⟩)) | 5 => .is (.agg #[.int .i64 p.ax, .int .i64 p.ay, .int .i64 p.ad]) | 6 => .p ((fun W v => QIs W v p.ax p.ay ((und p.ad : Nat) : Int))) kxq | 7 => .is (.slice (some ⟨gp, op, none⟩) n cap) | 8 => .is (.int .i64 (i : Int)) | 9 => .is (.pointer (some ⟨gp, op + i * 6, none⟩)) | 10 => .is (.pointer (some ⟨gp, op + i * 6 + 3, none⟩)) | 11 => .is (.agg #[.int .i64 p.cx, .int .i64 p.cy, .int .i64 p.cd]) | 12 => .p ((fun W v => QIs W v p.cx p.cy ((und p.cd : Nat) : Int))) kxq | 13 => .p ((fun W v => ∃ c : List Value, v = .agg c.toArray ∧ GC W c p)) kxg | 14 => .p ((fun W v => ∃ (g : Nat) (c : List Value), v = .slice (some ⟨g, 0, none⟩) 1 1 ∧ wr.heap.size ≤ g ∧ BlkC 55 W g c ∧ GC W c p)) (kxr (fun _ _ => gc_keep)) | 15 => .any | 16 => .any | _ => .any) (SJ w wr 5 48 vb (fun v W => SgR w l (i + 1) (i + 1) va v W)) (fun f g a w hn h => SJ.ext hn h) ?_ ?_ ?_
    ·exact ⟨HR.out.b.drew, fun _ => (Below.refl _ _).drew, fun _ => rfl, (fun e => by cases e), (fun e => by cases e), (fun e => by cases e)⟩
    ·intro i o f A W hi hJ hf hdep hdn hcl hfr hsz
     rcases i with _ | _ | _ | _ | _ | _ | _ | _ | _ | _ | _ | _ | _ | _ | _ | _ | _ | i
     all_goals (simp at hi)
     all_goals (try subst hi)
     ·have h16 : f 16 = false := by
       cases h : f 16 with
       | false => rfl
       | true => rw [hcl 15 _ 0 rfl (hJ.ord h) (by kernel_rfl)] at hf; cases hf
      have t5 := hJ.s4 h16
      refine par_value (v := vb) (w' := W) ?_ ⟨KX.refl _ _, hJ.gr hF7 (Below.refl _ _) _ _ _ (by simp), rfl⟩
      simp [go_sem, Act.eval, t5]
     ·have t0 := hfr 0 (by simp)
      refine par_value (v := .slice (some ⟨gp, op, none⟩) n cap) (w' := W) ?_ ⟨KX.refl _ _, hJ.gr hF7 (Below.refl _ _) _ _ _ (by simp), rfl⟩
      simp [go_sem, Act.eval, t0]
     ·have t6 := hfr 6 (by simp)
      refine par_value (v := .int .i64 (i : Int)) (w' := W) ?_ ⟨KX.refl _ _, hJ.gr hF7 (Below.refl _ _) _ _ _ (by simp), rfl⟩
      simp [go_sem, Act.eval, t6]
     ·have t34 : A.tmps.getD 34 undef = .slice (some ⟨gp, op, none⟩) n cap := hdep 1 _ 34 rfl (by kernel_rfl) rfl
      have t35 : A.tmps.getD 35 undef = .int .i64 (i : Int) := hdep 2 _ 35 rfl (by kernel_rfl) rfl
      refine par_value (v := .pointer (some ⟨gp, op + i * 6, none⟩)) (w' := W) ?_ ⟨KX.refl _ _, hJ.gr hF7 (Below.refl _ _) _ _ _ (by simp), rfl⟩
      simp [go_sem, Act.eval, t34, t35, eii, pii, bii]
     ·have t36 : A.tmps.getD 36 undef = .pointer (some ⟨gp, op + i * 6, none⟩) := hdep 3 _ 36 rfl (by kernel_rfl) rfl
      refine par_value (v := .pointer (some ⟨gp, op + i * 6, none⟩)) (w' := W) ?_ ⟨KX.refl _ _, hJ.gr hF7 (Below.refl _ _) _ _ _ (by simp), rfl⟩
      simp [go_sem, Act.eval, t36]
     ·have t37 : A.tmps.getD 37 undef = .pointer (some ⟨gp, op + i * 6, none⟩) := hdep 4 _ 37 rfl (by kernel_rfl) rfl
      obtain ⟨y0, y1, y2, z0, z1, z2⟩ := pq_cells HPQ.out (hJ.b.block gp HGP.out) HI.out
      refine par_value (v := .agg #[.int .i64 p.ax, .int .i64 p.ay, .int .i64 p.ad]) (w' := W) ?_ ⟨KX.refl _ _, hJ.gr hF7 (Below.refl _ _) _ _ _ (by simp), rfl⟩
      simp [go_sem, Act.eval, t37, y0, y1, y2]
     ·have t38 : A.tmps.getD 38 undef = .agg #[.int .i64 p.ax, .int .i64 p.ay, .int .i64 p.ad] := hdep 5 _ 38 rfl (by kernel_rfl) rfl
      refine par_call (w' := W) (f := 27) (xs := #[Value.agg #[.int .i64 p.ax, .int .i64 p.ay, .int .i64 p.ad]]) (by simp [go_sem, Act.eval, t38]) ?_
      refine (rAt_any p.ax p.ay p.ad _ HP.out.1 HP.out.2.1).mono ?_
      rintro e w1 ⟨r, rfl, hr, hg1⟩
      exact ⟨r, rfl, kx_below hg1, hJ.gr hF7 hg1 _ _ _ (by simp), hr⟩
     ·have t0 := hfr 0 (by simp)
      refine par_value (v := .slice (some ⟨gp, op, none⟩) n cap) (w' := W) ?_ ⟨KX.refl _ _, hJ.gr hF7 (Below.refl _ _) _ _ _ (by simp), rfl⟩
      simp [go_sem, Act.eval, t0]
     ·have t6 := hfr 6 (by simp)
      refine par_value (v := .int .i64 (i : Int)) (w' := W) ?_ ⟨KX.refl _ _, hJ.gr hF7 (Below.refl _ _) _ _ _ (by simp), rfl⟩
      simp [go_sem, Act.eval, t6]
     ·have t40 : A.tmps.getD 40 undef = .slice (some ⟨gp, op, none⟩) n cap := hdep 7 _ 40 rfl (by kernel_rfl) rfl
      have t41 : A.tmps.getD 41 undef = .int .i64 (i : Int) := hdep 8 _ 41 rfl (by kernel_rfl) rfl
      refine par_value (v := .pointer (some ⟨gp, op + i * 6, none⟩)) (w' := W) ?_ ⟨KX.refl _ _, hJ.gr hF7 (Below.refl _ _) _ _ _ (by simp), rfl⟩
      simp [go_sem, Act.eval, t40, t41, eii, pii, bii]
     ·have t42 : A.tmps.getD 42 undef = .pointer (some ⟨gp, op + i * 6, none⟩) := hdep 9 _ 42 rfl (by kernel_rfl) rfl
      refine par_value (v := .pointer (some ⟨gp, op + i * 6 + 3, none⟩)) (w' := W) ?_ ⟨KX.refl _ _, hJ.gr hF7 (Below.refl _ _) _ _ _ (by simp), rfl⟩
      simp [go_sem, Act.eval, t42]
     ·have t43 : A.tmps.getD 43 undef = .pointer (some ⟨gp, op + i * 6 + 3, none⟩) := hdep 10 _ 43 rfl (by kernel_rfl) rfl
      obtain ⟨y0, y1, y2, z0, z1, z2⟩ := pq_cells HPQ.out (hJ.b.block gp HGP.out) HI.out
      have y0 := z0
      have y1 := z1
      have y2 := z2
      refine par_value (v := .agg #[.int .i64 p.cx, .int .i64 p.cy, .int .i64 p.cd]) (w' := W) ?_ ⟨KX.refl _ _, hJ.gr hF7 (Below.refl _ _) _ _ _ (by simp), rfl⟩
      simp [go_sem, Act.eval, t43, y0, y1, y2]
     ·have t44 : A.tmps.getD 44 undef = .agg #[.int .i64 p.cx, .int .i64 p.cy, .int .i64 p.cd] := hdep 11 _ 44 rfl (by kernel_rfl) rfl
      refine par_call (w' := W) (f := 27) (xs := #[Value.agg #[.int .i64 p.cx, .int .i64 p.cy, .int .i64 p.cd]]) (by simp [go_sem, Act.eval, t44]) ?_
      refine (rAt_any p.cx p.cy p.cd _ HP.out.2.2.2.1 HP.out.2.2.2.2.1).mono ?_
      rintro e w1 ⟨r, rfl, hr, hg1⟩
      exact ⟨r, rfl, kx_below hg1, hJ.gr hF7 hg1 _ _ _ (by simp), hr⟩
     ·have t39 : (fun W v => QIs W v p.ax p.ay ((und p.ad : Nat) : Int)) W (A.tmps.getD 39 undef) := hdep 6 _ 39 rfl (by kernel_rfl) rfl
      have t45 : (fun W v => QIs W v p.cx p.cy ((und p.cd : Nat) : Int)) W (A.tmps.getD 45 undef) := hdep 12 _ 45 rfl (by kernel_rfl) rfl
      have k1 := t39
      have k2 := t45
      obtain ⟨a1, c1, a2, c2, a3, c3, e1, _⟩ := t39
      obtain ⟨a4, c4, a5, c5, a6, c6, e2, _⟩ := t45
      rw [e1] at k1
      rw [e2] at k2
      refine par_value (v := .agg #[.int .i64 (p.ax).sign, .slice a1 (Dec.limbs (p.ax).natAbs).length c1, .int .i64 (p.ay).sign, .slice a2 (Dec.limbs (p.ay).natAbs).length c2, .int .i64 (((und p.ad : Nat) : Int)).sign, .slice a3 (Dec.limbs (((und p.ad : Nat) : Int)).natAbs).length c3, .int .i64 (p.cx).sign, .slice a4 (Dec.limbs (p.cx).natAbs).length c4, .int .i64 (p.cy).sign, .slice a5 (Dec.limbs (p.cy).natAbs).length c5, .int .i64 (((und p.cd : Nat) : Int)).sign, .slice a6 (Dec.limbs (((und p.cd : Nat) : Int)).natAbs).length c6]) (w' := W) ?_ ⟨KX.refl _ _, hJ.gr hF7 (Below.refl _ _) _ _ _ (by simp), ⟨_, rfl, _, _, rfl, k1, k2⟩⟩
      have e1' : A.tmps[39]?.getD undef = _ := (Array.getD_eq_getD_getElem? ..).symm.trans e1
      have e2' : A.tmps[45]?.getD undef = _ := (Array.getD_eq_getD_getElem? ..).symm.trans e2
      simp [go_sem, Act.eval, e1', e2']
     ·have t46 : (fun W v => ∃ c : List Value, v = .agg c.toArray ∧ GC W c p) W (A.tmps.getD 46 undef) := hdep 13 _ 46 rfl (by kernel_rfl) rfl
      have h15 : f 15 = false := by
       cases h : f 15 with
       | false => rfl
       | true => rw [hcl 15 _ 14 rfl h (by kernel_rfl)] at hf; cases hf
      obtain ⟨c, ec, hS0⟩ := t46
      obtain ⟨d1, d2, ed, hq1, hq2⟩ := hS0
      obtain ⟨a1, c1, a2, c2, a3, c3, rfl⟩ := q_cs hq1
      obtain ⟨a4, c4, a5, c5, a6, c6, rfl⟩ := q_cs hq2
      subst ed
      have hS0 : GC W _ p := ⟨_, _, rfl, hq1, hq2⟩
      have g0 := (Array.getD_eq_getD_getElem? ..).symm.trans ec
      have hb9 : Below W.heap.size W (W.alloc (.cells ([.int .i64 (p.ax).sign, .slice a1 (Dec.limbs (p.ax).natAbs).length c1, .int .i64 (p.ay).sign, .slice a2 (Dec.limbs (p.ay).natAbs).length c2, .int .i64 (((und p.ad : Nat) : Int)).sign, .slice a3 (Dec.limbs (((und p.ad : Nat) : Int)).natAbs).length c3, .int .i64 (p.cx).sign, .slice a4 (Dec.limbs (p.cx).natAbs).length c4, .int .i64 (p.cy).sign, .slice a5 (Dec.limbs (p.cy).natAbs).length c5, .int .i64 (((und p.cd : Nat) : Int)).sign, .slice a6 (Dec.limbs (((und p.cd : Nat) : Int)).natAbs).length c6] : List Value).toArray 55)) := (own_alloc _ _).b
      refine par_value (v := .slice (some ⟨W.heap.size, 0, none⟩) 1 1) (w' := W.alloc (.cells ([.int .i64 (p.ax).sign, .slice a1 (Dec.limbs (p.ax).natAbs).length c1, .int .i64 (p.ay).sign, .slice a2 (Dec.limbs (p.ay).natAbs).length c2, .int .i64 (((und p.ad : Nat) : Int)).sign, .slice a3 (Dec.limbs (((und p.ad : Nat) : Int)).natAbs).length c3, .int .i64 (p.cx).sign, .slice a4 (Dec.limbs (p.cx).natAbs).length c4, .int .i64 (p.cy).sign, .slice a5 (Dec.limbs (p.cy).natAbs).length c5, .int .i64 (((und p.cd : Nat) : Int)).sign, .slice a6 (Dec.limbs (((und p.cd : Nat) : Int)).natAbs).length c6] : List Value).toArray 55)) ?_ ⟨kx_below hb9, hJ.gr hF7 hb9 _ _ _ (by simp), ⟨W.heap.size, _, rfl, (hJ.pre h15).size, BlkC.new _ W _, gc_keep (kk_below hb9) _ _ hS0⟩⟩
      simp [go_sem, Act.eval, g0]
     ·have t33 : A.tmps.getD 33 undef = vb := hdep 0 _ 33 rfl (by kernel_rfl) rfl
      have t47 : (fun W v => ∃ (g : Nat) (c : List Value), v = .slice (some ⟨g, 0, none⟩) 1 1 ∧ wr.heap.size ≤ g ∧ BlkC 55 W g c ∧ GC W c p) W (A.tmps.getD 47 undef) := hdep 14 _ 47 rfl (by kernel_rfl) rfl
      obtain ⟨g61, c61, e61, l61, b61, hS1⟩ := t47
      have hgr := hJ.pre hf
      have pB := HR.out.gr hgr
      obtain ⟨ib, hib, hib0, hib1, hib2⟩ := info_parts rsegInfo
      obtain ⟨cs, hc1, hown, hc3⟩ := pB.rb
      obtain ⟨_, _, hao, _⟩ := pB.ra
      rw [HLA.out] at hown
      intro Q'
      refine wp_append_lies W (.tmp 33) (.tmp 47) 43 rfl w.heap.size 55 ib _ 12 192 Try.underlying43 hib hib0 hib1 hib2 rfl (by decide) vb i _ t33 hown ⟨g61, 0, none⟩ 1 1 c61 e61 hS1.one.1 (fun q u hq => by rw [Addr.add_lit, Nat.zero_add, b61.cell q]; exact hq) hS1.one.2 (by omega) (by have := HI14.out; unfold maxLen; omega) (by have := HI14.out; omega) pB.b.size W.heap.size rfl ?_
      intro g9 cap9 w9 h1 h2 h3 h4
      have hkk : KK W w9 := ⟨keep_row hown (by decide) h2, ki_row hown (by decide) h2⟩
      have hb9 : Below w.heap.size w w9 := hJ.b.grown h2 hJ.b.size (fun k hk => (hown.lt k hk).1)
      have hn' : ∀ k, (Value.slice (some ⟨g9, 0, none⟩) (i + 1) cap9).ownBlock = some k → (vb).ownBlock = some k ∨ k = W.heap.size := fun k hk => by
       have e : g9 = k := by injection hk
       rcases h3 with h | h
       ·exact .inl (h.trans (congrArg some e))
       ·exact .inr (e.symm.trans h)
      have hF9 : SgR w l (i + 1) (i + 1) va _ w9 := ⟨hb9, pB.ra.kept h2 (fun k hk e => pB.ap k hk e) (sgc_keep hkk), (by rw [HTK.out]; exact RowC.snoc hc1 hc3 (by rw [HLA.out]; exact h1) (gc_keep hkk) hS1.one.1 (gc_keep hkk _ _ hS1)), (apart_app pB.ap.symm hao hn').symm⟩
      exact ⟨_, rfl, ⟨hkk, RX.grown h2 (fun k hk => HOB.out k hk)⟩, hJ.app (by rw [hsz]; simp) (by simp) hf hb9 hF9, trivial⟩
     ·have h15 := hdn 15 (by kernel_rfl)
      refine par_value (v := A.tmps.getD 48 undef) (w' := W) ?_ ⟨KX.refl _ _, hJ.put (by rw [hsz]; simp) (by simp) h15, trivial⟩
      simp [go_sem, Act.eval]
    ·intro vs W hJ hs
     have h1 := hJ.mid rfl
     have h2 := hJ.fin rfl
     have h2' : vs 5 = vs 48 := by simpa [putAll, Act.put] using h2
     have h1' : SgR w l (i + 1) (i + 1) va (vs 48) W := by simpa [putAll, Act.put] using h1
     clear hJ hs h1 h2
     simp only [putAll, List.foldl_cons, List.foldl_nil, Act.put, List.setIfInBounds_toArray, List.set_cons_succ, List.set_cons_zero]
     rw [h2']
     have HR3 := Lib.hid h1'
     generalize vs 48 = vb2 at *
     generalize hW0 : W = W2 at *
     clear hW0 h2' h1' HR HLA HTK HOB HGP
     go_wp2_with fail
     go_roundg (m - (i + 1))
     case measure => omega
     case rel => exact ⟨i + 1, va, vb2, by go_num, rfl, rfl, by omega, by omega, HR3⟩
  ·have hie : i = m := by omega
   subst hie
   have HA : Hid (SegSlice wr va (sg14 l)) := by refine Lib.hid ?_; unfold sg14; rw [HM.out]; exact HR.out.ra.seg
   have HB : Hid (RSegs wr vb (l.take 14)) := by refine Lib.hid ?_; rw [HM.out]; exact HR.out.rb.at'
   have HBL : Hid (Below w.heap.size w wr) := HR.out.b
   have HOW : Hid (∀ o n c, va = .slice o n c → n ≤ c) := Lib.hid (fun o n c e => by
    obtain ⟨_, _, ho, _⟩ := HR.out.ra
    obtain ⟨_, ⟨e1, hn⟩ | ⟨g, cap, cur, e1, _, _, hc, _⟩⟩ := ho
    ·rw [e1] at e; cases e; exact Nat.le_refl _
    ·rw [e1] at e; cases e; exact hc)
   rcases hm3 with h | h
   ·have hlz : ¬ (i : Int) < (n : Int) := by omega
    go_wp2_with fail
    refine bodyPost_ret (results_tmp2 rfl _ _ _) rfl ?_
    exact ⟨va, vb, rfl, HA.out, HB.out, HBL.out, HOW.out⟩
   ·by_cases hln : (i : Int) < (n : Int)
    ·have hlz2 : ¬ (i : Int) < 14 := by omega
     go_wp2_with fail
     refine bodyPost_ret (results_tmp2 rfl _ _ _) rfl ?_
     exact ⟨va, vb, rfl, HA.out, HB.out, HBL.out, HOW.out⟩
    ·go_wp2_with fail
     refine bodyPost_ret (results_tmp2 rfl _ _ _) rfl ?_
     exact ⟨va, vb, rfl, HA.out, HB.out, HBL.out, HOW.out⟩
end Go.Proofs.Ytnojfiokdhcbjaa
