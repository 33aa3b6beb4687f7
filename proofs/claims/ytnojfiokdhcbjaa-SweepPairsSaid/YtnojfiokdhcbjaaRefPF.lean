/-
  The reference: beyond, Candidates. (Printed by gen_beyond.py.)
  SweepPairs, in plain Lean: the document's candidates are the pairs of boxes that meet, in their order.
  The reference: Candidates. (Printed by gen_cand.py.)
-/
import Derived.Test.YtnojfiokdhcbjaaRefPD
import Derived.Test.YtnojfiokdhcbjaaSegA
import Derived.Test.YtnojfiokdhcbjaaSwF
namespace Go.Proofs.Ytnojfiokdhcbjaa
open Go Go.RowKit

def PQ.x (p : PQ) (i : Nat) : Int := if i = 0 then p.ax else p.cx
def PQ.y (p : PQ) (i : Nat) : Int := if i = 0 then p.ay else p.cy
def PQ.u (p : PQ) (i : Nat) : Int := if i = 0 then ((und p.ad : Nat) : Int) else ((und p.cd : Nat) : Int)
def PQ.c (p : PQ) (y : Bool) (i : Nat) : Int := if y then p.y i else p.x i
/-- An end of one lies farther on an axis than an end of the other one. -/
def farP (p q : PQ) (d : Int) (y : Bool) (i k : Nat) : Prop := d * (p.u i * q.u k) < p.c y i * q.u k - q.c y k * p.u i
instance (p q : PQ) (d : Int) (y : Bool) (i k : Nat) : Decidable (farP p q d y i k) := by unfold farP; exact inferInstance
theorem PQ.b20 {p : PQ} (h : p.ok) (y : Bool) (i : Nat) : B20 (p.c y i) := by
  obtain ⟨h1, h2, h3, h4, h5, h6⟩ := h
  unfold PQ.c PQ.x PQ.y
  split <;> split <;> (apply b20_rng; assumption)
theorem PQ.b20u (p : PQ) (i : Nat) : B20 (p.u i) := by
  have h1 := und_pos p.ad
  have h2 := und_pos p.cd
  unfold PQ.u B20
  split <;> omega
theorem GC.shape {w : World} {c : List Value} {p : PQ} (h : GC w c p) : ∃ (s1 : Int) (a1 : Option Addr) (n1 c1 : Nat) (s2 : Int) (a2 : Option Addr) (n2 c2 : Nat) (s3 : Int) (a3 : Option Addr) (n3 c3 : Nat) (s4 : Int) (a4 : Option Addr) (n4 c4 : Nat) (s5 : Int) (a5 : Option Addr) (n5 c5 : Nat) (s6 : Int) (a6 : Option Addr) (n6 c6 : Nat), c = [.int .i64 s1, .slice a1 n1 c1, .int .i64 s2, .slice a2 n2 c2, .int .i64 s3, .slice a3 n3 c3, .int .i64 s4, .slice a4 n4 c4, .int .i64 s5, .slice a5 n5 c5, .int .i64 s6, .slice a6 n6 c6] := by
  obtain ⟨c1, c2, rfl, h1, h2⟩ := h
  obtain ⟨a1, k1, a2, k2, a3, k3, rfl⟩ := q_cs h1
  obtain ⟨a4, k4, a5, k5, a6, k6, rfl⟩ := q_cs h2
  exact ⟨_, _, _, _, _, _, _, _, _, _, _, _, _, _, _, _, _, _, _, _, _, _, _, _, rfl⟩
/-- The cells of an end. -/
theorem gc_point {w : World} {c : List Value} {p : PQ} (h : GC w c p) {i : Nat} (hi : i < 2) : ∃ (Sx Sy Su : Int) (ax ay au : Option Addr) (nx cx ny cy nu cu : Nat),
    c[i * 6]? = some (.int .i64 Sx) ∧ c[i * 6 + 1]? = some (.slice ax nx cx) ∧ c[i * 6 + 2]? = some (.int .i64 Sy) ∧ c[i * 6 + 2 + 1]? = some (.slice ay ny cy) ∧ c[i * 6 + 4]? = some (.int .i64 Su) ∧ c[i * 6 + 4 + 1]? = some (.slice au nu cu) ∧
    JIs w (.agg #[.int .i64 Sx, .slice ax nx cx]) (p.x i) ∧ JIs w (.agg #[.int .i64 Sy, .slice ay ny cy]) (p.y i) ∧ JIs w (.agg #[.int .i64 Su, .slice au nu cu]) (p.u i) := by
  obtain ⟨c1, c2, rfl, h1, h2⟩ := h
  obtain ⟨a1, k1, a2, k2, a3, k3, rfl⟩ := q_cs h1
  obtain ⟨a4, k4, a5, k5, a6, k6, rfl⟩ := q_cs h2
  obtain ⟨_, _, _, _, _, _, e1, j1, j2, j3⟩ := h1
  obtain ⟨_, _, _, _, _, _, e2, j4, j5, j6⟩ := h2
  cases e1
  cases e2
  match i, hi with
  | 0, _ => exact ⟨_, _, _, _, _, _, _, _, _, _, _, _, rfl, rfl, rfl, rfl, rfl, rfl, j1, j2, j3⟩
  | 1, _ => exact ⟨_, _, _, _, _, _, _, _, _, _, _, _, rfl, rfl, rfl, rfl, rfl, rfl, j4, j5, j6⟩
theorem len12 {cs : List Value} (h : cs.length = 12) : ∃ a b c d e f g i j k l m, cs = [a, b, c, d, e, f, g, i, j, k, l, m] := by
  match cs, h with
  | [a, b, c, d, e, f, g, i, j, k, l, m], _ => exact ⟨a, b, c, d, e, f, g, i, j, k, l, m, rfl⟩
theorem agg_list {a b : List Value} (h : Value.agg a.toArray = Value.agg b.toArray) : a = b := by
  simp only [Value.agg.injEq] at h
  exact congrArg Array.toList h
/-- What beyond answers. -/
def BeyE (p q : PQ) (d : Int) (y : Bool) (w : World) (e : Ending) (w' : World) : Prop := ∃ r : Bool, e = .returned (.bool r) ∧ (r = true ↔ ∀ i k, i < 2 → k < 2 → farP p q d y i k) ∧ Below w.heap.size w w'
theorem beyE_of {p q : PQ} {d : Int} {y : Bool} {w w' : World} {e : Ending} (r : Bool) (he : e = .returned (.bool r)) (hi : r = true ↔ ∀ i k, i < 2 → k < 2 → farP p q d y i k) (hb : Below w.heap.size w w') : BeyE p q d y w e w' := ⟨r, he, hi, hb⟩
/-- beyond at work. -/
structure BY (w : World) (p q : PQ) (d : Int) (y : Bool) (cs ct : List Value) (gF gT i k : Nat) (wr : World) : Prop where
  b : Below w.heap.size w wr
  f : BlkC 108 wr gF cs
  t : BlkC 108 wr gT ct
  all : ∀ i' k', i' < 2 → k' < 2 → (i' < i ∨ (i' = i ∧ k' < k)) → farP p q d y i' k'
theorem BY.gr {w wr w' : World} {p q : PQ} {d : Int} {y : Bool} {cs ct : List Value} {gF gT i k : Nat} (h : BY w p q d y cs ct gF gT i k wr) (hb : Below wr.heap.size wr w') : BY w p q d y cs ct gF gT i k w' :=
  ⟨h.b.trans (hb.mono h.b.size), h.f.still (grown_of_below hb none), h.t.still (grown_of_below hb none), h.all⟩
theorem BY.next {w wr : World} {p q : PQ} {d : Int} {y : Bool} {cs ct : List Value} {gF gT i k : Nat} (h : BY w p q d y cs ct gF gT i k wr) (hf : farP p q d y i k) : BY w p q d y cs ct gF gT i (k + 1) wr :=
  ⟨h.b, h.f, h.t, fun i' k' h1 h2 h3 => by
    rcases h3 with h3 | ⟨rfl, h3⟩
    · exact h.all i' k' h1 h2 (.inl h3)
    · rcases Nat.lt_or_ge k' k with h4 | h4
      · exact h.all i' k' h1 h2 (.inr ⟨rfl, h4⟩)
      · rw [show k' = k by omega]; exact hf⟩
theorem BY.row {w wr : World} {p q : PQ} {d : Int} {y : Bool} {cs ct : List Value} {gF gT i : Nat} (h : BY w p q d y cs ct gF gT i 2 wr) : BY w p q d y cs ct gF gT (i + 1) 0 wr :=
  ⟨h.b, h.f, h.t, fun i' k' h1 h2 h3 => h.all i' k' h1 h2 (by omega)⟩

set_option maxHeartbeats 6000000 in
set_option maxRecDepth 100000 in
theorem beyond_any (p q : PQ) (d : Int) (y : Bool) (cs ct : List Value) (w : World) (hs : GC w cs p) (ht : GC w ct q) (hp : p.ok) (hq : q.ok) (hd : Rng64 d) :
    Calls Try.prog 28 #[.agg cs.toArray, .agg ct.toArray, .int .i64 d, .bool y] w (BeyE p q d y w) := by
  have HGS := Lib.hid hs
  have HGT := Lib.hid ht
  have HP := Lib.hid hp
  have HQ := Lib.hid hq
  have HD := Lib.hid hd
  obtain ⟨s1, a1, n1, c1, s2, a2, n2, c2, s3, a3, n3, c3, s4, a4, n4, c4, s5, a5, n5, c5, s6, a6, n6, c6, hcs⟩ := hs.shape
  obtain ⟨t1, b1, m1, e1, t2, b2, m2, e2, t3, b3, m3, e3, t4, b4, m4, e4, t5, b5, m5, e5, t6, b6, m6, e6, hct⟩ := ht.shape
  have HCS := Lib.hid hcs
  have HCT := Lib.hid hct
  have hcs' : cs.toArray = #[.int .i64 s1, .slice a1 n1 c1, .int .i64 s2, .slice a2 n2 c2, .int .i64 s3, .slice a3 n3 c3, .int .i64 s4, .slice a4 n4 c4, .int .i64 s5, .slice a5 n5 c5, .int .i64 s6, .slice a6 n6 c6] := by rw [hcs]
  have hct' : ct.toArray = #[.int .i64 t1, .slice b1 m1 e1, .int .i64 t2, .slice b2 m2 e2, .int .i64 t3, .slice b3 m3 e3, .int .i64 t4, .slice b4 m4 e4, .int .i64 t5, .slice b5 m5 e5, .int .i64 t6, .slice b6 m6 e6] := by rw [hct]
  rw [hcs', hct']
  clear hs ht hp hq hd hcs hct hcs' hct'
  have HB1 : Hid (BlkC 55 ((w.alloc (.cells #[.int .i64 s1, .slice a1 n1 c1, .int .i64 s2, .slice a2 n2 c2, .int .i64 s3, .slice a3 n3 c3, .int .i64 s4, .slice a4 n4 c4, .int .i64 s5, .slice a5 n5 c5, .int .i64 s6, .slice a6 n6 c6] 55)).alloc (.cells #[.int .i64 t1, .slice b1 m1 e1, .int .i64 t2, .slice b2 m2 e2, .int .i64 t3, .slice b3 m3 e3, .int .i64 t4, .slice b4 m4 e4, .int .i64 t5, .slice b5 m5 e5, .int .i64 t6, .slice b6 m6 e6] 55)) w.heap.size [.int .i64 s1, .slice a1 n1 c1, .int .i64 s2, .slice a2 n2 c2, .int .i64 s3, .slice a3 n3 c3, .int .i64 s4, .slice a4 n4 c4, .int .i64 s5, .slice a5 n5 c5, .int .i64 s6, .slice a6 n6 c6]) := (BlkC.new _ w [.int .i64 s1, .slice a1 n1 c1, .int .i64 s2, .slice a2 n2 c2, .int .i64 s3, .slice a3 n3 c3, .int .i64 s4, .slice a4 n4 c4, .int .i64 s5, .slice a5 n5 c5, .int .i64 s6, .slice a6 n6 c6]).still (grown_alloc _ _ none)
  have HB2 : Hid (BlkC 55 ((w.alloc (.cells #[.int .i64 s1, .slice a1 n1 c1, .int .i64 s2, .slice a2 n2 c2, .int .i64 s3, .slice a3 n3 c3, .int .i64 s4, .slice a4 n4 c4, .int .i64 s5, .slice a5 n5 c5, .int .i64 s6, .slice a6 n6 c6] 55)).alloc (.cells #[.int .i64 t1, .slice b1 m1 e1, .int .i64 t2, .slice b2 m2 e2, .int .i64 t3, .slice b3 m3 e3, .int .i64 t4, .slice b4 m4 e4, .int .i64 t5, .slice b5 m5 e5, .int .i64 t6, .slice b6 m6 e6] 55)) (w.heap.size + 1) [.int .i64 t1, .slice b1 m1 e1, .int .i64 t2, .slice b2 m2 e2, .int .i64 t3, .slice b3 m3 e3, .int .i64 t4, .slice b4 m4 e4, .int .i64 t5, .slice b5 m5 e5, .int .i64 t6, .slice b6 m6 e6]) := blk_at (cs := [.int .i64 t1, .slice b1 m1 e1, .int .i64 t2, .slice b2 m2 e2, .int .i64 t3, .slice b3 m3 e3, .int .i64 t4, .slice b4 m4 e4, .int .i64 t5, .slice b5 m5 e5, .int .i64 t6, .slice b6 m6 e6]) (by simp)
  have HG : Hid (Own w.heap.size w ((w.alloc (.cells #[.int .i64 s1, .slice a1 n1 c1, .int .i64 s2, .slice a2 n2 c2, .int .i64 s3, .slice a3 n3 c3, .int .i64 s4, .slice a4 n4 c4, .int .i64 s5, .slice a5 n5 c5, .int .i64 s6, .slice a6 n6 c6] 55)).alloc (.cells #[.int .i64 t1, .slice b1 m1 e1, .int .i64 t2, .slice b2 m2 e2, .int .i64 t3, .slice b3 m3 e3, .int .i64 t4, .slice b4 m4 e4, .int .i64 t5, .slice b5 m5 e5, .int .i64 t6, .slice b6 m6 e6] 55))) := (own_alloc _ _).alloc (by simp) _
  have mixed : Try.prog.follows .mixedOrders = true := by kernel_rfl
  go_enter Try.func28, Try.ntmps28
  go_wp2_with fail
  refine region_kk (by kernel_rfl) (by kernel_rfl) rfl (KK) (fun | 0 => .is (.pointer (some ⟨w.heap.size, 0, none⟩)) | 1 => .is (.agg #[.int .i64 s1, .slice a1 n1 c1, .int .i64 s2, .slice a2 n2 c2, .int .i64 s3, .slice a3 n3 c3]) | 2 => .is (.pointer (some ⟨w.heap.size, 6, none⟩)) | 3 => .is (.agg #[.int .i64 s4, .slice a4 n4 c4, .int .i64 s5, .slice a5 n5 c5, .int .i64 s6, .slice a6 n6 c6]) | 4 => .is (.agg #[.int .i64 s1, .slice a1 n1 c1, .int .i64 s2, .slice a2 n2 c2, .int .i64 s3, .slice a3 n3 c3, .int .i64 s4, .slice a4 n4 c4, .int .i64 s5, .slice a5 n5 c5, .int .i64 s6, .slice a6 n6 c6]) | 5 => .is (.pointer (some ⟨(w.heap.size + 1), 0, none⟩)) | 6 => .is (.agg #[.int .i64 t1, .slice b1 m1 e1, .int .i64 t2, .slice b2 m2 e2, .int .i64 t3, .slice b3 m3 e3]) | 7 => .is (.pointer (some ⟨(w.heap.size + 1), 6, none⟩)) | 8 => .is (.agg #[.int .i64 t4, .slice b4 m4 e4, .int .i64 t5, .slice b5 m5 e5, .int .i64 t6, .slice b6 m6 e6]) | 9 => .is (.agg #[.int .i64 t1, .slice b1 m1 e1, .int .i64 t2, .slice b2 m2 e2, .int .i64 t3, .slice b3 m3 e3, .int .i64 t4, .slice b4 m4 e4, .int .i64 t5, .slice b5 m5 e5, .int .i64 t6, .slice b6 m6 e6]) | 10 => .any | 11 => .any | 12 => .any | 13 => .any | _ => .any) (MK w.heap.size w w [(55, w.heap.size, [.int .i64 s1, .slice a1 n1 c1, .int .i64 s2, .slice a2 n2 c2, .int .i64 s3, .slice a3 n3 c3, .int .i64 s4, .slice a4 n4 c4, .int .i64 s5, .slice a5 n5 c5, .int .i64 s6, .slice a6 n6 c6]), (55, (w.heap.size + 1), [.int .i64 t1, .slice b1 m1 e1, .int .i64 t2, .slice b2 m2 e2, .int .i64 t3, .slice b3 m3 e3, .int .i64 t4, .slice b4 m4 e4, .int .i64 t5, .slice b5 m5 e5, .int .i64 t6, .slice b6 m6 e6])] [tgK 9 (some 10) 12 108 12 (fun _ v => v = .agg #[.int .i64 s1, .slice a1 n1 c1, .int .i64 s2, .slice a2 n2 c2, .int .i64 s3, .slice a3 n3 c3, .int .i64 s4, .slice a4 n4 c4, .int .i64 s5, .slice a5 n5 c5, .int .i64 s6, .slice a6 n6 c6]) (fun _ _ _ _ h => h), tgK 10 (some 11) 13 108 12 (fun _ v => v = .agg #[.int .i64 t1, .slice b1 m1 e1, .int .i64 t2, .slice b2 m2 e2, .int .i64 t3, .slice b3 m3 e3, .int .i64 t4, .slice b4 m4 e4, .int .i64 t5, .slice b5 m5 e5, .int .i64 t6, .slice b6 m6 e6]) (fun _ _ _ _ h => h)]) (fun f g a w hn h => MK.ext (n := 14) (by simp) hn h) ?_ ?_ ?_
  · refine ⟨HG.out.b.drew, kk_below HG.out.b.drew, HG.out.size, (by intro q hq; simp only [List.mem_cons, List.not_mem_nil, or_false] at hq; rcases hq with rfl | rfl; exact HB1.out; exact HB2.out), ?_, ?_⟩
    · intro t ht h
      simp only [List.mem_cons, List.not_mem_nil, or_false] at ht
      rcases ht with rfl | rfl
      · exact absurd (h 10 rfl) (by simp)
      · exact absurd (h 11 rfl) (by simp)
    · intro t u ht hu hd h h'
      simp only [List.mem_cons, List.not_mem_nil, or_false] at ht
      rcases ht with rfl | rfl
      · exact absurd (h 10 rfl) (by simp)
      · exact absurd (h 11 rfl) (by simp)
  · intro i o f A W hi hJ hf hdep hdn hcl hfr hsz
    rcases i with _ | _ | _ | _ | _ | _ | _ | _ | _ | _ | _ | _ | _ | _ | i
    all_goals (simp at hi)
    all_goals (try subst hi)
    · have t4 := hfr 4 (by simp)
      refine par_value (v := .pointer (some ⟨w.heap.size, 0, none⟩)) (w' := W) ?_ ⟨KK.refl _, hJ.same _ _ _ (by simp), rfl⟩
      simp [go_sem, Act.eval, t4]
    · have t15 : A.tmps.getD 15 undef = .pointer (some ⟨w.heap.size, 0, none⟩) := hdep 0 _ 15 rfl (by kernel_rfl) rfl
      have hb0 : BlkC 55 W w.heap.size [.int .i64 s1, .slice a1 n1 c1, .int .i64 s2, .slice a2 n2 c2, .int .i64 s3, .slice a3 n3 c3, .int .i64 s4, .slice a4 n4 c4, .int .i64 s5, .slice a5 n5 c5, .int .i64 s6, .slice a6 n6 c6] := hJ.kept (55, w.heap.size, [.int .i64 s1, .slice a1 n1 c1, .int .i64 s2, .slice a2 n2 c2, .int .i64 s3, .slice a3 n3 c3, .int .i64 s4, .slice a4 n4 c4, .int .i64 s5, .slice a5 n5 c5, .int .i64 s6, .slice a6 n6 c6]) (by simp)
      have x00 : W.cell? ⟨w.heap.size, 0, none⟩ = some (.int .i64 s1) := by rw [hb0.cell 0]; rfl
      have x01 : W.cell? ⟨w.heap.size, 1, none⟩ = some (.slice a1 n1 c1) := by rw [hb0.cell 1]; rfl
      have x02 : W.cell? ⟨w.heap.size, 2, none⟩ = some (.int .i64 s2) := by rw [hb0.cell 2]; rfl
      have x03 : W.cell? ⟨w.heap.size, 3, none⟩ = some (.slice a2 n2 c2) := by rw [hb0.cell 3]; rfl
      have x04 : W.cell? ⟨w.heap.size, 4, none⟩ = some (.int .i64 s3) := by rw [hb0.cell 4]; rfl
      have x05 : W.cell? ⟨w.heap.size, 5, none⟩ = some (.slice a3 n3 c3) := by rw [hb0.cell 5]; rfl
      have x06 : W.cell? ⟨w.heap.size, 6, none⟩ = some (.int .i64 s4) := by rw [hb0.cell 6]; rfl
      have x07 : W.cell? ⟨w.heap.size, 7, none⟩ = some (.slice a4 n4 c4) := by rw [hb0.cell 7]; rfl
      have x08 : W.cell? ⟨w.heap.size, 8, none⟩ = some (.int .i64 s5) := by rw [hb0.cell 8]; rfl
      have x09 : W.cell? ⟨w.heap.size, 9, none⟩ = some (.slice a5 n5 c5) := by rw [hb0.cell 9]; rfl
      have x010 : W.cell? ⟨w.heap.size, 10, none⟩ = some (.int .i64 s6) := by rw [hb0.cell 10]; rfl
      have x011 : W.cell? ⟨w.heap.size, 11, none⟩ = some (.slice a6 n6 c6) := by rw [hb0.cell 11]; rfl
      refine par_value (v := .agg #[.int .i64 s1, .slice a1 n1 c1, .int .i64 s2, .slice a2 n2 c2, .int .i64 s3, .slice a3 n3 c3]) (w' := W) ?_ ⟨KK.refl _, hJ.same _ _ _ (by simp), rfl⟩
      simp [go_sem, Act.eval, t15, x00, x01, x02, x03, x04, x05]
    · have t4 := hfr 4 (by simp)
      refine par_value (v := .pointer (some ⟨w.heap.size, 6, none⟩)) (w' := W) ?_ ⟨KK.refl _, hJ.same _ _ _ (by simp), rfl⟩
      simp [go_sem, Act.eval, t4]
    · have t17 : A.tmps.getD 17 undef = .pointer (some ⟨w.heap.size, 6, none⟩) := hdep 2 _ 17 rfl (by kernel_rfl) rfl
      have hb0 : BlkC 55 W w.heap.size [.int .i64 s1, .slice a1 n1 c1, .int .i64 s2, .slice a2 n2 c2, .int .i64 s3, .slice a3 n3 c3, .int .i64 s4, .slice a4 n4 c4, .int .i64 s5, .slice a5 n5 c5, .int .i64 s6, .slice a6 n6 c6] := hJ.kept (55, w.heap.size, [.int .i64 s1, .slice a1 n1 c1, .int .i64 s2, .slice a2 n2 c2, .int .i64 s3, .slice a3 n3 c3, .int .i64 s4, .slice a4 n4 c4, .int .i64 s5, .slice a5 n5 c5, .int .i64 s6, .slice a6 n6 c6]) (by simp)
      have x00 : W.cell? ⟨w.heap.size, 0, none⟩ = some (.int .i64 s1) := by rw [hb0.cell 0]; rfl
      have x01 : W.cell? ⟨w.heap.size, 1, none⟩ = some (.slice a1 n1 c1) := by rw [hb0.cell 1]; rfl
      have x02 : W.cell? ⟨w.heap.size, 2, none⟩ = some (.int .i64 s2) := by rw [hb0.cell 2]; rfl
      have x03 : W.cell? ⟨w.heap.size, 3, none⟩ = some (.slice a2 n2 c2) := by rw [hb0.cell 3]; rfl
      have x04 : W.cell? ⟨w.heap.size, 4, none⟩ = some (.int .i64 s3) := by rw [hb0.cell 4]; rfl
      have x05 : W.cell? ⟨w.heap.size, 5, none⟩ = some (.slice a3 n3 c3) := by rw [hb0.cell 5]; rfl
      have x06 : W.cell? ⟨w.heap.size, 6, none⟩ = some (.int .i64 s4) := by rw [hb0.cell 6]; rfl
      have x07 : W.cell? ⟨w.heap.size, 7, none⟩ = some (.slice a4 n4 c4) := by rw [hb0.cell 7]; rfl
      have x08 : W.cell? ⟨w.heap.size, 8, none⟩ = some (.int .i64 s5) := by rw [hb0.cell 8]; rfl
      have x09 : W.cell? ⟨w.heap.size, 9, none⟩ = some (.slice a5 n5 c5) := by rw [hb0.cell 9]; rfl
      have x010 : W.cell? ⟨w.heap.size, 10, none⟩ = some (.int .i64 s6) := by rw [hb0.cell 10]; rfl
      have x011 : W.cell? ⟨w.heap.size, 11, none⟩ = some (.slice a6 n6 c6) := by rw [hb0.cell 11]; rfl
      refine par_value (v := .agg #[.int .i64 s4, .slice a4 n4 c4, .int .i64 s5, .slice a5 n5 c5, .int .i64 s6, .slice a6 n6 c6]) (w' := W) ?_ ⟨KK.refl _, hJ.same _ _ _ (by simp), rfl⟩
      simp [go_sem, Act.eval, t17, x06, x07, x08, x09, x010, x011]
    · have t16 : A.tmps.getD 16 undef = .agg #[.int .i64 s1, .slice a1 n1 c1, .int .i64 s2, .slice a2 n2 c2, .int .i64 s3, .slice a3 n3 c3] := hdep 1 _ 16 rfl (by kernel_rfl) rfl
      have t18 : A.tmps.getD 18 undef = .agg #[.int .i64 s4, .slice a4 n4 c4, .int .i64 s5, .slice a5 n5 c5, .int .i64 s6, .slice a6 n6 c6] := hdep 3 _ 18 rfl (by kernel_rfl) rfl
      have q16 := (Array.getD_eq_getD_getElem? ..).symm.trans t16
      have q18 := (Array.getD_eq_getD_getElem? ..).symm.trans t18
      refine par_value (v := .agg #[.int .i64 s1, .slice a1 n1 c1, .int .i64 s2, .slice a2 n2 c2, .int .i64 s3, .slice a3 n3 c3, .int .i64 s4, .slice a4 n4 c4, .int .i64 s5, .slice a5 n5 c5, .int .i64 s6, .slice a6 n6 c6]) (w' := W) ?_ ⟨KK.refl _, hJ.same _ _ _ (by simp), rfl⟩
      simp [go_sem, Act.eval, q16, q18]
    · have t5 := hfr 5 (by simp)
      refine par_value (v := .pointer (some ⟨(w.heap.size + 1), 0, none⟩)) (w' := W) ?_ ⟨KK.refl _, hJ.same _ _ _ (by simp), rfl⟩
      simp [go_sem, Act.eval, t5]
    · have t20 : A.tmps.getD 20 undef = .pointer (some ⟨(w.heap.size + 1), 0, none⟩) := hdep 5 _ 20 rfl (by kernel_rfl) rfl
      have hb1 : BlkC 55 W (w.heap.size + 1) [.int .i64 t1, .slice b1 m1 e1, .int .i64 t2, .slice b2 m2 e2, .int .i64 t3, .slice b3 m3 e3, .int .i64 t4, .slice b4 m4 e4, .int .i64 t5, .slice b5 m5 e5, .int .i64 t6, .slice b6 m6 e6] := hJ.kept (55, (w.heap.size + 1), [.int .i64 t1, .slice b1 m1 e1, .int .i64 t2, .slice b2 m2 e2, .int .i64 t3, .slice b3 m3 e3, .int .i64 t4, .slice b4 m4 e4, .int .i64 t5, .slice b5 m5 e5, .int .i64 t6, .slice b6 m6 e6]) (by simp)
      have x10 : W.cell? ⟨(w.heap.size + 1), 0, none⟩ = some (.int .i64 t1) := by rw [hb1.cell 0]; rfl
      have x11 : W.cell? ⟨(w.heap.size + 1), 1, none⟩ = some (.slice b1 m1 e1) := by rw [hb1.cell 1]; rfl
      have x12 : W.cell? ⟨(w.heap.size + 1), 2, none⟩ = some (.int .i64 t2) := by rw [hb1.cell 2]; rfl
      have x13 : W.cell? ⟨(w.heap.size + 1), 3, none⟩ = some (.slice b2 m2 e2) := by rw [hb1.cell 3]; rfl
      have x14 : W.cell? ⟨(w.heap.size + 1), 4, none⟩ = some (.int .i64 t3) := by rw [hb1.cell 4]; rfl
      have x15 : W.cell? ⟨(w.heap.size + 1), 5, none⟩ = some (.slice b3 m3 e3) := by rw [hb1.cell 5]; rfl
      have x16 : W.cell? ⟨(w.heap.size + 1), 6, none⟩ = some (.int .i64 t4) := by rw [hb1.cell 6]; rfl
      have x17 : W.cell? ⟨(w.heap.size + 1), 7, none⟩ = some (.slice b4 m4 e4) := by rw [hb1.cell 7]; rfl
      have x18 : W.cell? ⟨(w.heap.size + 1), 8, none⟩ = some (.int .i64 t5) := by rw [hb1.cell 8]; rfl
      have x19 : W.cell? ⟨(w.heap.size + 1), 9, none⟩ = some (.slice b5 m5 e5) := by rw [hb1.cell 9]; rfl
      have x110 : W.cell? ⟨(w.heap.size + 1), 10, none⟩ = some (.int .i64 t6) := by rw [hb1.cell 10]; rfl
      have x111 : W.cell? ⟨(w.heap.size + 1), 11, none⟩ = some (.slice b6 m6 e6) := by rw [hb1.cell 11]; rfl
      refine par_value (v := .agg #[.int .i64 t1, .slice b1 m1 e1, .int .i64 t2, .slice b2 m2 e2, .int .i64 t3, .slice b3 m3 e3]) (w' := W) ?_ ⟨KK.refl _, hJ.same _ _ _ (by simp), rfl⟩
      simp [go_sem, Act.eval, t20, x10, x11, x12, x13, x14, x15]
    · have t5 := hfr 5 (by simp)
      refine par_value (v := .pointer (some ⟨(w.heap.size + 1), 6, none⟩)) (w' := W) ?_ ⟨KK.refl _, hJ.same _ _ _ (by simp), rfl⟩
      simp [go_sem, Act.eval, t5]
    · have t22 : A.tmps.getD 22 undef = .pointer (some ⟨(w.heap.size + 1), 6, none⟩) := hdep 7 _ 22 rfl (by kernel_rfl) rfl
      have hb1 : BlkC 55 W (w.heap.size + 1) [.int .i64 t1, .slice b1 m1 e1, .int .i64 t2, .slice b2 m2 e2, .int .i64 t3, .slice b3 m3 e3, .int .i64 t4, .slice b4 m4 e4, .int .i64 t5, .slice b5 m5 e5, .int .i64 t6, .slice b6 m6 e6] := hJ.kept (55, (w.heap.size + 1), [.int .i64 t1, .slice b1 m1 e1, .int .i64 t2, .slice b2 m2 e2, .int .i64 t3, .slice b3 m3 e3, .int .i64 t4, .slice b4 m4 e4, .int .i64 t5, .slice b5 m5 e5, .int .i64 t6, .slice b6 m6 e6]) (by simp)
      have x10 : W.cell? ⟨(w.heap.size + 1), 0, none⟩ = some (.int .i64 t1) := by rw [hb1.cell 0]; rfl
      have x11 : W.cell? ⟨(w.heap.size + 1), 1, none⟩ = some (.slice b1 m1 e1) := by rw [hb1.cell 1]; rfl
      have x12 : W.cell? ⟨(w.heap.size + 1), 2, none⟩ = some (.int .i64 t2) := by rw [hb1.cell 2]; rfl
      have x13 : W.cell? ⟨(w.heap.size + 1), 3, none⟩ = some (.slice b2 m2 e2) := by rw [hb1.cell 3]; rfl
      have x14 : W.cell? ⟨(w.heap.size + 1), 4, none⟩ = some (.int .i64 t3) := by rw [hb1.cell 4]; rfl
      have x15 : W.cell? ⟨(w.heap.size + 1), 5, none⟩ = some (.slice b3 m3 e3) := by rw [hb1.cell 5]; rfl
      have x16 : W.cell? ⟨(w.heap.size + 1), 6, none⟩ = some (.int .i64 t4) := by rw [hb1.cell 6]; rfl
      have x17 : W.cell? ⟨(w.heap.size + 1), 7, none⟩ = some (.slice b4 m4 e4) := by rw [hb1.cell 7]; rfl
      have x18 : W.cell? ⟨(w.heap.size + 1), 8, none⟩ = some (.int .i64 t5) := by rw [hb1.cell 8]; rfl
      have x19 : W.cell? ⟨(w.heap.size + 1), 9, none⟩ = some (.slice b5 m5 e5) := by rw [hb1.cell 9]; rfl
      have x110 : W.cell? ⟨(w.heap.size + 1), 10, none⟩ = some (.int .i64 t6) := by rw [hb1.cell 10]; rfl
      have x111 : W.cell? ⟨(w.heap.size + 1), 11, none⟩ = some (.slice b6 m6 e6) := by rw [hb1.cell 11]; rfl
      refine par_value (v := .agg #[.int .i64 t4, .slice b4 m4 e4, .int .i64 t5, .slice b5 m5 e5, .int .i64 t6, .slice b6 m6 e6]) (w' := W) ?_ ⟨KK.refl _, hJ.same _ _ _ (by simp), rfl⟩
      simp [go_sem, Act.eval, t22, x16, x17, x18, x19, x110, x111]
    · have t21 : A.tmps.getD 21 undef = .agg #[.int .i64 t1, .slice b1 m1 e1, .int .i64 t2, .slice b2 m2 e2, .int .i64 t3, .slice b3 m3 e3] := hdep 6 _ 21 rfl (by kernel_rfl) rfl
      have t23 : A.tmps.getD 23 undef = .agg #[.int .i64 t4, .slice b4 m4 e4, .int .i64 t5, .slice b5 m5 e5, .int .i64 t6, .slice b6 m6 e6] := hdep 8 _ 23 rfl (by kernel_rfl) rfl
      have q21 := (Array.getD_eq_getD_getElem? ..).symm.trans t21
      have q23 := (Array.getD_eq_getD_getElem? ..).symm.trans t23
      refine par_value (v := .agg #[.int .i64 t1, .slice b1 m1 e1, .int .i64 t2, .slice b2 m2 e2, .int .i64 t3, .slice b3 m3 e3, .int .i64 t4, .slice b4 m4 e4, .int .i64 t5, .slice b5 m5 e5, .int .i64 t6, .slice b6 m6 e6]) (w' := W) ?_ ⟨KK.refl _, hJ.same _ _ _ (by simp), rfl⟩
      simp [go_sem, Act.eval, q21, q23]
    · have hst : f 12 = false := by
        cases h : f 12 with
        | false => rfl
        | true => rw [hcl 12 _ 10 rfl h (by kernel_rfl)] at hf; cases hf
      refine par_value (v := .pointer (some ⟨W.heap.size, 0, none⟩)) (w' := W.alloc (.cells #[.int .i64 0, .slice none 0 0, .int .i64 0, .slice none 0 0, .int .i64 0, .slice none 0 0, .int .i64 0, .slice none 0 0, .int .i64 0, .slice none 0 0, .int .i64 0, .slice none 0 0] 108)) ?_ ⟨kk_alloc _ _, hJ.new (t0 := tgK 9 (some 10) 12 108 12 (fun _ v => v = .agg #[.int .i64 s1, .slice a1 n1 c1, .int .i64 s2, .slice a2 n2 c2, .int .i64 s3, .slice a3 n3 c3, .int .i64 s4, .slice a4 n4 c4, .int .i64 s5, .slice a5 n5 c5, .int .i64 s6, .slice a6 n6 c6]) (fun _ _ _ _ h => h)) (cs := [.int .i64 0, .slice none 0 0, .int .i64 0, .slice none 0 0, .int .i64 0, .slice none 0 0, .int .i64 0, .slice none 0 0, .int .i64 0, .slice none 0 0, .int .i64 0, .slice none 0 0]) 10 (by simp) rfl (by rw [hsz]; simp) hst (by simp) (by simp) rfl, trivial⟩
      simp [go_sem]
    · have hst : f 13 = false := by
        cases h : f 13 with
        | false => rfl
        | true => rw [hcl 13 _ 11 rfl h (by kernel_rfl)] at hf; cases hf
      refine par_value (v := .pointer (some ⟨W.heap.size, 0, none⟩)) (w' := W.alloc (.cells #[.int .i64 0, .slice none 0 0, .int .i64 0, .slice none 0 0, .int .i64 0, .slice none 0 0, .int .i64 0, .slice none 0 0, .int .i64 0, .slice none 0 0, .int .i64 0, .slice none 0 0] 108)) ?_ ⟨kk_alloc _ _, hJ.new (t0 := tgK 10 (some 11) 13 108 12 (fun _ v => v = .agg #[.int .i64 t1, .slice b1 m1 e1, .int .i64 t2, .slice b2 m2 e2, .int .i64 t3, .slice b3 m3 e3, .int .i64 t4, .slice b4 m4 e4, .int .i64 t5, .slice b5 m5 e5, .int .i64 t6, .slice b6 m6 e6]) (fun _ _ _ _ h => h)) (cs := [.int .i64 0, .slice none 0 0, .int .i64 0, .slice none 0 0, .int .i64 0, .slice none 0 0, .int .i64 0, .slice none 0 0, .int .i64 0, .slice none 0 0, .int .i64 0, .slice none 0 0]) 11 (by simp) rfl (by rw [hsz]; simp) hst (by simp) (by simp) rfl, trivial⟩
      simp [go_sem]
    · have t19 : A.tmps.getD 19 undef = .agg #[.int .i64 s1, .slice a1 n1 c1, .int .i64 s2, .slice a2 n2 c2, .int .i64 s3, .slice a3 n3 c3, .int .i64 s4, .slice a4 n4 c4, .int .i64 s5, .slice a5 n5 c5, .int .i64 s6, .slice a6 n6 c6] := hdep 4 _ 19 rfl (by kernel_rfl) rfl
      obtain ⟨g9, cs9, hp9, hb9, hk9⟩ := hJ.ahead (t0 := tgK 9 (some 10) 12 108 12 (fun _ v => v = .agg #[.int .i64 s1, .slice a1 n1 c1, .int .i64 s2, .slice a2 n2 c2, .int .i64 s3, .slice a3 n3 c3, .int .i64 s4, .slice a4 n4 c4, .int .i64 s5, .slice a5 n5 c5, .int .i64 s6, .slice a6 n6 c6]) (fun _ _ _ _ h => h)) (by simp) (fun j hj => by cases hj; exact hdn 10 (by kernel_rfl)) hf
      obtain ⟨y0, y1, y2, y3, y4, y5, y6, y7, y8, y9, y10, y11, rfl⟩ := len12 hk9
      have hv8 : Value.agg #[.int .i64 s1, .slice a1 n1 c1, .int .i64 s2, .slice a2 n2 c2, .int .i64 s3, .slice a3 n3 c3, .int .i64 s4, .slice a4 n4 c4, .int .i64 s5, .slice a5 n5 c5, .int .i64 s6, .slice a6 n6 c6] = Value.agg #[.int .i64 s1, .slice a1 n1 c1, .int .i64 s2, .slice a2 n2 c2, .int .i64 s3, .slice a3 n3 c3, .int .i64 s4, .slice a4 n4 c4, .int .i64 s5, .slice a5 n5 c5, .int .i64 s6, .slice a6 n6 c6] := rfl
      have e8 := t19
      have hst : StK 108 W g9 _ [.int .i64 s1, .slice a1 n1 c1, .int .i64 s2, .slice a2 n2 c2, .int .i64 s3, .slice a3 n3 c3, .int .i64 s4, .slice a4 n4 c4, .int .i64 s5, .slice a5 n5 c5, .int .i64 s6, .slice a6 n6 c6] := (((((((((((StK.one (T := 108) hb9 ⟨by decide, by decide⟩ 0 (.int .i64 s1)).more ⟨by decide, by decide⟩ 1 (.slice a1 n1 c1)).more ⟨by decide, by decide⟩ 2 (.int .i64 s2)).more ⟨by decide, by decide⟩ 3 (.slice a2 n2 c2)).more ⟨by decide, by decide⟩ 4 (.int .i64 s3)).more ⟨by decide, by decide⟩ 5 (.slice a3 n3 c3)).more ⟨by decide, by decide⟩ 6 (.int .i64 s4)).more ⟨by decide, by decide⟩ 7 (.slice a4 n4 c4)).more ⟨by decide, by decide⟩ 8 (.int .i64 s5)).more ⟨by decide, by decide⟩ 9 (.slice a5 n5 c5)).more ⟨by decide, by decide⟩ 10 (.int .i64 s6)).more ⟨by decide, by decide⟩ 11 (.slice a6 n6 c6)
      have hcell := hb9.cell
      have hfree := hb9.free
      refine par_skip ?_ ⟨hst.kk, hJ.put 12 undef (by simp) (fun j hj => by cases hj; exact hdn 10 (by kernel_rfl)) rfl hp9 hst.gr hst.kk hst.bb (hv8) (by simp) (by simp), trivial⟩
      simp [go_sem, Act.eval, hp9, e8, hcell, hfree]
    · have t24 : A.tmps.getD 24 undef = .agg #[.int .i64 t1, .slice b1 m1 e1, .int .i64 t2, .slice b2 m2 e2, .int .i64 t3, .slice b3 m3 e3, .int .i64 t4, .slice b4 m4 e4, .int .i64 t5, .slice b5 m5 e5, .int .i64 t6, .slice b6 m6 e6] := hdep 9 _ 24 rfl (by kernel_rfl) rfl
      obtain ⟨g9, cs9, hp9, hb9, hk9⟩ := hJ.ahead (t0 := tgK 10 (some 11) 13 108 12 (fun _ v => v = .agg #[.int .i64 t1, .slice b1 m1 e1, .int .i64 t2, .slice b2 m2 e2, .int .i64 t3, .slice b3 m3 e3, .int .i64 t4, .slice b4 m4 e4, .int .i64 t5, .slice b5 m5 e5, .int .i64 t6, .slice b6 m6 e6]) (fun _ _ _ _ h => h)) (by simp) (fun j hj => by cases hj; exact hdn 11 (by kernel_rfl)) hf
      obtain ⟨y0, y1, y2, y3, y4, y5, y6, y7, y8, y9, y10, y11, rfl⟩ := len12 hk9
      have hv8 : Value.agg #[.int .i64 t1, .slice b1 m1 e1, .int .i64 t2, .slice b2 m2 e2, .int .i64 t3, .slice b3 m3 e3, .int .i64 t4, .slice b4 m4 e4, .int .i64 t5, .slice b5 m5 e5, .int .i64 t6, .slice b6 m6 e6] = Value.agg #[.int .i64 t1, .slice b1 m1 e1, .int .i64 t2, .slice b2 m2 e2, .int .i64 t3, .slice b3 m3 e3, .int .i64 t4, .slice b4 m4 e4, .int .i64 t5, .slice b5 m5 e5, .int .i64 t6, .slice b6 m6 e6] := rfl
      have e8 := t24
      have hst : StK 108 W g9 _ [.int .i64 t1, .slice b1 m1 e1, .int .i64 t2, .slice b2 m2 e2, .int .i64 t3, .slice b3 m3 e3, .int .i64 t4, .slice b4 m4 e4, .int .i64 t5, .slice b5 m5 e5, .int .i64 t6, .slice b6 m6 e6] := (((((((((((StK.one (T := 108) hb9 ⟨by decide, by decide⟩ 0 (.int .i64 t1)).more ⟨by decide, by decide⟩ 1 (.slice b1 m1 e1)).more ⟨by decide, by decide⟩ 2 (.int .i64 t2)).more ⟨by decide, by decide⟩ 3 (.slice b2 m2 e2)).more ⟨by decide, by decide⟩ 4 (.int .i64 t3)).more ⟨by decide, by decide⟩ 5 (.slice b3 m3 e3)).more ⟨by decide, by decide⟩ 6 (.int .i64 t4)).more ⟨by decide, by decide⟩ 7 (.slice b4 m4 e4)).more ⟨by decide, by decide⟩ 8 (.int .i64 t5)).more ⟨by decide, by decide⟩ 9 (.slice b5 m5 e5)).more ⟨by decide, by decide⟩ 10 (.int .i64 t6)).more ⟨by decide, by decide⟩ 11 (.slice b6 m6 e6)
      have hcell := hb9.cell
      have hfree := hb9.free
      refine par_skip ?_ ⟨hst.kk, hJ.put 13 undef (by simp) (fun j hj => by cases hj; exact hdn 11 (by kernel_rfl)) rfl hp9 hst.gr hst.kk hst.bb (hv8) (by simp) (by simp), trivial⟩
      simp [go_sem, Act.eval, hp9, e8, hcell, hfree]
  · intro vs W hJ hs
    obtain ⟨gF, cF, pF, _, bF, kF, _⟩ := hJ.at' (tgK 9 (some 10) 12 108 12 (fun _ v => v = .agg #[.int .i64 s1, .slice a1 n1 c1, .int .i64 s2, .slice a2 n2 c2, .int .i64 s3, .slice a3 n3 c3, .int .i64 s4, .slice a4 n4 c4, .int .i64 s5, .slice a5 n5 c5, .int .i64 s6, .slice a6 n6 c6]) (fun _ _ _ _ h => h)) (by simp) (fun j hj => by cases hj; rfl)
    obtain rfl : cF = [.int .i64 s1, .slice a1 n1 c1, .int .i64 s2, .slice a2 n2 c2, .int .i64 s3, .slice a3 n3 c3, .int .i64 s4, .slice a4 n4 c4, .int .i64 s5, .slice a5 n5 c5, .int .i64 s6, .slice a6 n6 c6] := agg_list kF
    obtain ⟨gT, cT, pT, _, bT, kT, _⟩ := hJ.at' (tgK 10 (some 11) 13 108 12 (fun _ v => v = .agg #[.int .i64 t1, .slice b1 m1 e1, .int .i64 t2, .slice b2 m2 e2, .int .i64 t3, .slice b3 m3 e3, .int .i64 t4, .slice b4 m4 e4, .int .i64 t5, .slice b5 m5 e5, .int .i64 t6, .slice b6 m6 e6]) (fun _ _ _ _ h => h)) (by simp) (fun j hj => by cases hj; rfl)
    obtain rfl : cT = [.int .i64 t1, .slice b1 m1 e1, .int .i64 t2, .slice b2 m2 e2, .int .i64 t3, .slice b3 m3 e3, .int .i64 t4, .slice b4 m4 e4, .int .i64 t5, .slice b5 m5 e5, .int .i64 t6, .slice b6 m6 e6] := agg_list kT
    have hp9 : vs 9 = .pointer (some ⟨gF, 0, none⟩) := by simpa [putAll, Act.put] using pF
    have hp10 : vs 10 = .pointer (some ⟨gT, 0, none⟩) := by simpa [putAll, Act.put] using pT
    have HI0 : Hid (BY w p q d y cs ct gF gT 0 0 W) := ⟨hJ.b, by rw [HCS.out]; exact bF, by rw [HCT.out]; exact bT, fun i' k' h1 h2 h3 => by omega⟩
    clear pF bF kF pT bT kT hJ hs
    simp only [putAll, List.foldl_cons, List.foldl_nil, Act.put, List.setIfInBounds_toArray, List.set_cons_succ, List.set_cons_zero]
    rw [hp9, hp10]
    generalize hW1 : W = W1 at *
    clear hW1 hp9 hp10 HB1 HB2 HG HCS HCT
    go_wp2_with fail
    go_loopg [11] 2 (fun kx s wr => ∃ i : Nat, s = .int .i64 i ∧ i ≤ 2 ∧ 2 ≤ kx + i ∧ Hid (BY w p q d y cs ct gF gT i 0 wr))
    case atStart => exact ⟨0, rfl, Nat.zero_le _, by omega, HI0⟩
    case round =>
      clear HI0
      obtain ⟨i, rfl, him, hkx, HI0⟩ := hrel
      obtain ⟨gO, hgO⟩ : ∃ q, q = gk := ⟨_, rfl⟩
      subst hgO
      obtain ⟨wo, hwo⟩ : ∃ q : World, q = wr := ⟨_, rfl⟩
      subst hwo
      by_cases hlt : i < 2
      · have hlz : (i : Int) < 2 := by omega
        have eii : ((i : Int)).toNat = i := by omega
        have pii : (0 : Int) ≤ (i : Int) := by omega
        have bii : (i : Int) < 2 := hlz
        obtain ⟨Sx, Sy, Su, ax, ay, au, nx, cx, ny, cy, nu, cu, hx0, hx1, hy0, hy1, hu0, hu1, hjx, hjy, hju⟩ := gc_point HGS.out hlt
        have HX0 := Lib.hid hx0
        have HX1 := Lib.hid hx1
        have HY0 := Lib.hid hy0
        have HY1 := Lib.hid hy1
        have HU0 := Lib.hid hu0
        have HU1 := Lib.hid hu1
        have HJx := Lib.hid hjx
        have HJy := Lib.hid hjy
        have HJu := Lib.hid hju
        clear hx0 hx1 hy0 hy1 hu0 hu1 hjx hjy hju
        go_wp2_with fail
        go_loopg [12] 2 (fun kx s wr => ∃ k : Nat, s = .int .i64 k ∧ k ≤ 2 ∧ 2 ≤ kx + k ∧ Hid (BY w p q d y cs ct gF gT i k wr))
        case atStart => exact ⟨0, rfl, Nat.zero_le _, by omega, HI0⟩
        case round =>
          clear HI0
          obtain ⟨k, rfl, hkm, hkk, HI⟩ := hrel
          by_cases hkt : k < 2
          · have hkz : (k : Int) < 2 := by omega
            have ekk : ((k : Int)).toNat = k := by omega
            have pkk : (0 : Int) ≤ (k : Int) := by omega
            have bkk : (k : Int) < 2 := hkz
            obtain ⟨Tx, Ty, Tu, bx, by', bu, mx, ex, my, ey, mu, eu, hx0, hx1, hy0, hy1, hu0, hu1, hjx, hjy, hju⟩ := gc_point HGT.out hkt
            have KX0 := Lib.hid hx0
            have KX1 := Lib.hid hx1
            have KY0 := Lib.hid hy0
            have KY1 := Lib.hid hy1
            have KU0 := Lib.hid hu0
            have KU1 := Lib.hid hu1
            have KJx := Lib.hid hjx
            have KJy := Lib.hid hjy
            have KJu := Lib.hid hju
            clear hx0 hx1 hy0 hy1 hu0 hu1 hjx hjy hju
            go_wp2_with fail
            refine region_kk (by kernel_rfl) (by kernel_rfl) rfl (KK) (fun | 0 => .is (.int .i64 (i : Int)) | 1 => .is (.pointer (some ⟨gF, i * 6, none⟩)) | 2 => .is (.pointer (some ⟨gF, i * 6, none⟩)) | 3 => .is (.agg #[.int .i64 Sx, .slice ax nx cx]) | 4 => .is (.int .i64 (k : Int)) | 5 => .is (.pointer (some ⟨gT, k * 6, none⟩)) | 6 => .is (.pointer (some ⟨gT, k * 6, none⟩)) | 7 => .is (.agg #[.int .i64 Tx, .slice bx mx ex]) | 8 => .any | 9 => .any | 10 => .any | 11 => .any | _ => .any) (MK wr.heap.size wr wr [(108, gF, cs), (108, gT, ct)] [tgK 13 (some 8) 10 51 2 (fun _ v => v = .agg #[.int .i64 Sx, .slice ax nx cx]) (fun _ _ _ _ h => h), tgK 14 (some 9) 11 51 2 (fun _ v => v = .agg #[.int .i64 Tx, .slice bx mx ex]) (fun _ _ _ _ h => h)]) (fun f g a w hn h => MK.ext (n := 12) (by simp) hn h) ?_ ?_ ?_
            · refine ⟨(Below.refl _ _).drew, KK.refl _, Nat.le_refl _, (by intro q hq; simp only [List.mem_cons, List.not_mem_nil, or_false] at hq; rcases hq with rfl | rfl; exact HI.out.f; exact HI.out.t), ?_, ?_⟩
              · intro t ht h
                simp only [List.mem_cons, List.not_mem_nil, or_false] at ht
                rcases ht with rfl | rfl
                · exact absurd (h 8 rfl) (by simp)
                · exact absurd (h 9 rfl) (by simp)
              · intro t u ht hu hd h h'
                simp only [List.mem_cons, List.not_mem_nil, or_false] at ht
                rcases ht with rfl | rfl
                · exact absurd (h 8 rfl) (by simp)
                · exact absurd (h 9 rfl) (by simp)
            · intro i o f A W hi hJ hf hdep hdn hcl hfr hsz
              rcases i with _ | _ | _ | _ | _ | _ | _ | _ | _ | _ | _ | _ | i
              all_goals (simp at hi)
              all_goals (try subst hi)
              · have t11 := hfr 11 (by simp)
                refine par_value (v := .int .i64 (i : Int)) (w' := W) ?_ ⟨KK.refl _, hJ.same _ _ _ (by simp), rfl⟩
                simp [go_sem, Act.eval, t11]
              · have t33 : A.tmps.getD 33 undef = .int .i64 (i : Int) := hdep 0 _ 33 rfl (by kernel_rfl) rfl
                have t9 := hfr 9 (by simp)
                refine par_value (v := .pointer (some ⟨gF, i * 6, none⟩)) (w' := W) ?_ ⟨KK.refl _, hJ.same _ _ _ (by simp), rfl⟩
                simp [go_sem, Act.eval, t33, t9, eii, pii, bii]
              · have t34 : A.tmps.getD 34 undef = .pointer (some ⟨gF, i * 6, none⟩) := hdep 1 _ 34 rfl (by kernel_rfl) rfl
                refine par_value (v := .pointer (some ⟨gF, i * 6, none⟩)) (w' := W) ?_ ⟨KK.refl _, hJ.same _ _ _ (by simp), rfl⟩
                simp [go_sem, Act.eval, t34]
              · have t35 : A.tmps.getD 35 undef = .pointer (some ⟨gF, i * 6, none⟩) := hdep 2 _ 35 rfl (by kernel_rfl) rfl
                have hb : BlkC 108 W gF cs := hJ.kept (108, gF, cs) (by simp)
                have y0 := (hb.cell (i * 6)).trans HX0.out
                have y1 := (hb.cell (i * 6 + 1)).trans HX1.out
                refine par_value (v := .agg #[.int .i64 Sx, .slice ax nx cx]) (w' := W) ?_ ⟨KK.refl _, hJ.same _ _ _ (by simp), rfl⟩
                simp [go_sem, Act.eval, t35, y0, y1]
              · have t12 := hfr 12 (by simp)
                refine par_value (v := .int .i64 (k : Int)) (w' := W) ?_ ⟨KK.refl _, hJ.same _ _ _ (by simp), rfl⟩
                simp [go_sem, Act.eval, t12]
              · have t37 : A.tmps.getD 37 undef = .int .i64 (k : Int) := hdep 4 _ 37 rfl (by kernel_rfl) rfl
                have t10 := hfr 10 (by simp)
                refine par_value (v := .pointer (some ⟨gT, k * 6, none⟩)) (w' := W) ?_ ⟨KK.refl _, hJ.same _ _ _ (by simp), rfl⟩
                simp [go_sem, Act.eval, t37, t10, ekk, pkk, bkk]
              · have t38 : A.tmps.getD 38 undef = .pointer (some ⟨gT, k * 6, none⟩) := hdep 5 _ 38 rfl (by kernel_rfl) rfl
                refine par_value (v := .pointer (some ⟨gT, k * 6, none⟩)) (w' := W) ?_ ⟨KK.refl _, hJ.same _ _ _ (by simp), rfl⟩
                simp [go_sem, Act.eval, t38]
              · have t39 : A.tmps.getD 39 undef = .pointer (some ⟨gT, k * 6, none⟩) := hdep 6 _ 39 rfl (by kernel_rfl) rfl
                have hb : BlkC 108 W gT ct := hJ.kept (108, gT, ct) (by simp)
                have y0 := (hb.cell (k * 6)).trans KX0.out
                have y1 := (hb.cell (k * 6 + 1)).trans KX1.out
                refine par_value (v := .agg #[.int .i64 Tx, .slice bx mx ex]) (w' := W) ?_ ⟨KK.refl _, hJ.same _ _ _ (by simp), rfl⟩
                simp [go_sem, Act.eval, t39, y0, y1]
              · have hst : f 10 = false := by
                  cases h : f 10 with
                  | false => rfl
                  | true => rw [hcl 10 _ 8 rfl h (by kernel_rfl)] at hf; cases hf
                refine par_value (v := .pointer (some ⟨W.heap.size, 0, none⟩)) (w' := W.alloc (.cells #[.int .i64 0, .slice none 0 0] 51)) ?_ ⟨kk_alloc _ _, hJ.new (t0 := tgK 13 (some 8) 10 51 2 (fun _ v => v = .agg #[.int .i64 Sx, .slice ax nx cx]) (fun _ _ _ _ h => h)) (cs := [.int .i64 0, .slice none 0 0]) 8 (by simp) rfl (by rw [hsz]; simp) hst (by simp) (by simp) rfl, trivial⟩
                simp [go_sem]
              · have hst : f 11 = false := by
                  cases h : f 11 with
                  | false => rfl
                  | true => rw [hcl 11 _ 9 rfl h (by kernel_rfl)] at hf; cases hf
                refine par_value (v := .pointer (some ⟨W.heap.size, 0, none⟩)) (w' := W.alloc (.cells #[.int .i64 0, .slice none 0 0] 51)) ?_ ⟨kk_alloc _ _, hJ.new (t0 := tgK 14 (some 9) 11 51 2 (fun _ v => v = .agg #[.int .i64 Tx, .slice bx mx ex]) (fun _ _ _ _ h => h)) (cs := [.int .i64 0, .slice none 0 0]) 9 (by simp) rfl (by rw [hsz]; simp) hst (by simp) (by simp) rfl, trivial⟩
                simp [go_sem]
              · have t36 : A.tmps.getD 36 undef = .agg #[.int .i64 Sx, .slice ax nx cx] := hdep 3 _ 36 rfl (by kernel_rfl) rfl
                obtain ⟨g9, cs9, hp9, hb9, hk9⟩ := hJ.ahead (t0 := tgK 13 (some 8) 10 51 2 (fun _ v => v = .agg #[.int .i64 Sx, .slice ax nx cx]) (fun _ _ _ _ h => h)) (by simp) (fun j hj => by cases hj; exact hdn 8 (by kernel_rfl)) hf
                obtain ⟨y0, y1, rfl⟩ := len2 hk9
                have hv8 : Value.agg #[.int .i64 Sx, .slice ax nx cx] = Value.agg #[.int .i64 Sx, .slice ax nx cx] := rfl
                have e8 := t36
                have hst : StK 51 W g9 _ [.int .i64 Sx, .slice ax nx cx] := (StK.one (T := 51) hb9 ⟨by decide, by decide⟩ 0 (.int .i64 Sx)).more ⟨by decide, by decide⟩ 1 (.slice ax nx cx)
                have hcell := hb9.cell
                have hfree := hb9.free
                refine par_skip ?_ ⟨hst.kk, hJ.put 10 undef (by simp) (fun j hj => by cases hj; exact hdn 8 (by kernel_rfl)) rfl hp9 hst.gr hst.kk hst.bb (hv8) (by simp) (by simp), trivial⟩
                simp [go_sem, Act.eval, hp9, e8, hcell, hfree]
              · have t40 : A.tmps.getD 40 undef = .agg #[.int .i64 Tx, .slice bx mx ex] := hdep 7 _ 40 rfl (by kernel_rfl) rfl
                obtain ⟨g9, cs9, hp9, hb9, hk9⟩ := hJ.ahead (t0 := tgK 14 (some 9) 11 51 2 (fun _ v => v = .agg #[.int .i64 Tx, .slice bx mx ex]) (fun _ _ _ _ h => h)) (by simp) (fun j hj => by cases hj; exact hdn 9 (by kernel_rfl)) hf
                obtain ⟨y0, y1, rfl⟩ := len2 hk9
                have hv8 : Value.agg #[.int .i64 Tx, .slice bx mx ex] = Value.agg #[.int .i64 Tx, .slice bx mx ex] := rfl
                have e8 := t40
                have hst : StK 51 W g9 _ [.int .i64 Tx, .slice bx mx ex] := (StK.one (T := 51) hb9 ⟨by decide, by decide⟩ 0 (.int .i64 Tx)).more ⟨by decide, by decide⟩ 1 (.slice bx mx ex)
                have hcell := hb9.cell
                have hfree := hb9.free
                refine par_skip ?_ ⟨hst.kk, hJ.put 11 undef (by simp) (fun j hj => by cases hj; exact hdn 9 (by kernel_rfl)) rfl hp9 hst.gr hst.kk hst.bb (hv8) (by simp) (by simp), trivial⟩
                simp [go_sem, Act.eval, hp9, e8, hcell, hfree]
            · intro vs W hJ hs
              have HG8 : Hid (Below wr.heap.size wr W) := hJ.b
              obtain ⟨ga, cga, pga, hga, bga, kga, _⟩ := hJ.at' (tgK 13 (some 8) 10 51 2 (fun _ v => v = .agg #[.int .i64 Sx, .slice ax nx cx]) (fun _ _ _ _ h => h)) (by simp) (fun j hj => by cases hj; rfl)
              obtain rfl : cga = [.int .i64 Sx, .slice ax nx cx] := agg_list kga
              obtain ⟨gb, cgb, pgb, hgb, bgb, kgb, _⟩ := hJ.at' (tgK 14 (some 9) 11 51 2 (fun _ v => v = .agg #[.int .i64 Tx, .slice bx mx ex]) (fun _ _ _ _ h => h)) (by simp) (fun j hj => by cases hj; rfl)
              obtain rfl : cgb = [.int .i64 Tx, .slice bx mx ex] := agg_list kgb
              have hab : ga ≠ gb := fun e => hJ.ne (tgK 13 (some 8) 10 51 2 (fun _ v => v = .agg #[.int .i64 Sx, .slice ax nx cx]) (fun _ _ _ _ h => h)) (tgK 14 (some 9) 11 51 2 (fun _ v => v = .agg #[.int .i64 Tx, .slice bx mx ex]) (fun _ _ _ _ h => h)) (by simp) (by simp) (by show (13 : Nat) ≠ 14; decide) (fun j hj => by cases hj; rfl) (fun j hj => by cases hj; rfl) (by rw [pga, pgb, e])
              have HA8 : Hid (BlkC 51 W.drew ga [.int .i64 Sx, .slice ax nx cx]) := bga
              have HC8 : Hid (BlkC 51 W.drew gb [.int .i64 Tx, .slice bx mx ex]) := bgb
              have HF8 : Hid (BlkC 108 W.drew gF cs) := hJ.kept (108, gF, cs) (by simp)
              have HT8 : Hid (BlkC 108 W.drew gT ct) := hJ.kept (108, gT, ct) (by simp)
              have hp13 : vs 13 = .pointer (some ⟨ga, 0, none⟩) := by simpa [putAll, Act.put] using pga
              have hp14 : vs 14 = .pointer (some ⟨gb, 0, none⟩) := by simpa [putAll, Act.put] using pgb
              clear pga bga kga pgb bgb kgb hJ hs
              simp only [putAll, List.foldl_cons, List.foldl_nil, Act.put, List.setIfInBounds_toArray, List.set_cons_succ, List.set_cons_zero]
              rw [hp13, hp14]
              generalize hW8 : W = w8 at *
              clear hW8 hp13 hp14
              cases y with
              | true =>
                go_wp2_with fail
                refine region_kk (by kernel_rfl) (by kernel_rfl) rfl (KK) (fun | 0 => .is (.int .i64 (i : Int)) | 1 => .is (.pointer (some ⟨gF, i * 6, none⟩)) | 2 => .is (.pointer (some ⟨gF, i * 6 + 2, none⟩)) | 3 => .is (.agg #[.int .i64 Sy, .slice ay ny cy]) | 4 => .is (.int .i64 (k : Int)) | 5 => .is (.pointer (some ⟨gT, k * 6, none⟩)) | 6 => .is (.pointer (some ⟨gT, k * 6 + 2, none⟩)) | 7 => .is (.agg #[.int .i64 Ty, .slice by' my ey]) | 8 => .any | 9 => .any | _ => .any) (MK wr.heap.size wr wr [(108, gF, cs), (108, gT, ct)] [tgK 13 none 8 51 2 (fun _ v => v = .agg #[.int .i64 Sy, .slice ay ny cy]) (fun _ _ _ _ h => h), tgK 14 none 9 51 2 (fun _ v => v = .agg #[.int .i64 Ty, .slice by' my ey]) (fun _ _ _ _ h => h)]) (fun f g a w hn h => MK.ext (n := 10) (by simp) hn h) ?_ ?_ ?_
                · refine ⟨HG8.out.drew, kk_below HG8.out.drew, HG8.out.size, (by intro q hq; simp only [List.mem_cons, List.not_mem_nil, or_false] at hq; rcases hq with rfl | rfl; exact HF8.out; exact HT8.out), ?_, ?_⟩
                  · intro t ht h
                    simp only [List.mem_cons, List.not_mem_nil, or_false] at ht
                    rcases ht with rfl | rfl
                    · exact ⟨ga, _, rfl, hga, HA8.out, rfl, by intro q hq; simp only [List.mem_cons, List.not_mem_nil, or_false] at hq; rcases hq with rfl | rfl; exact (fun e => by have := HI.out.f.lt; exact absurd (show gF = ga from e) (by omega)); exact (fun e => by have := HI.out.t.lt; exact absurd (show gT = ga from e) (by omega))⟩
                    · exact ⟨gb, _, rfl, hgb, HC8.out, rfl, by intro q hq; simp only [List.mem_cons, List.not_mem_nil, or_false] at hq; rcases hq with rfl | rfl; exact (fun e => by have := HI.out.f.lt; exact absurd (show gF = gb from e) (by omega)); exact (fun e => by have := HI.out.t.lt; exact absurd (show gT = gb from e) (by omega))⟩
                  · intro t u ht hu hd h h'
                    simp only [List.mem_cons, List.not_mem_nil, or_false] at ht hu
                    rcases ht with rfl | rfl <;> rcases hu with rfl | rfl
                    · exact absurd rfl hd
                    · intro e
                      have e' : Value.pointer (some ⟨ga, 0, none⟩) = Value.pointer (some ⟨gb, 0, none⟩) := e
                      cases e'
                      exact hab rfl
                    · intro e
                      have e' : Value.pointer (some ⟨gb, 0, none⟩) = Value.pointer (some ⟨ga, 0, none⟩) := e
                      cases e'
                      exact hab rfl
                    · exact absurd rfl hd
                · intro i o f A W hi hJ hf hdep hdn hcl hfr hsz
                  rcases i with _ | _ | _ | _ | _ | _ | _ | _ | _ | _ | i
                  all_goals (simp at hi)
                  all_goals (try subst hi)
                  · have t11 := hfr 11 (by simp)
                    refine par_value (v := .int .i64 (i : Int)) (w' := W) ?_ ⟨KK.refl _, hJ.same _ _ _ (by simp), rfl⟩
                    simp [go_sem, Act.eval, t11]
                  · have t42 : A.tmps.getD 42 undef = .int .i64 (i : Int) := hdep 0 _ 42 rfl (by kernel_rfl) rfl
                    have t9 := hfr 9 (by simp)
                    refine par_value (v := .pointer (some ⟨gF, i * 6, none⟩)) (w' := W) ?_ ⟨KK.refl _, hJ.same _ _ _ (by simp), rfl⟩
                    simp [go_sem, Act.eval, t42, t9, eii, pii, bii]
                  · have t43 : A.tmps.getD 43 undef = .pointer (some ⟨gF, i * 6, none⟩) := hdep 1 _ 43 rfl (by kernel_rfl) rfl
                    refine par_value (v := .pointer (some ⟨gF, i * 6 + 2, none⟩)) (w' := W) ?_ ⟨KK.refl _, hJ.same _ _ _ (by simp), rfl⟩
                    simp [go_sem, Act.eval, t43]
                  · have t44 : A.tmps.getD 44 undef = .pointer (some ⟨gF, i * 6 + 2, none⟩) := hdep 2 _ 44 rfl (by kernel_rfl) rfl
                    have hb : BlkC 108 W gF cs := hJ.kept (108, gF, cs) (by simp)
                    have y0 := (hb.cell (i * 6 + 2)).trans HY0.out
                    have y1 := (hb.cell (i * 6 + 2 + 1)).trans HY1.out
                    refine par_value (v := .agg #[.int .i64 Sy, .slice ay ny cy]) (w' := W) ?_ ⟨KK.refl _, hJ.same _ _ _ (by simp), rfl⟩
                    simp [go_sem, Act.eval, t44, y0, y1]
                  · have t12 := hfr 12 (by simp)
                    refine par_value (v := .int .i64 (k : Int)) (w' := W) ?_ ⟨KK.refl _, hJ.same _ _ _ (by simp), rfl⟩
                    simp [go_sem, Act.eval, t12]
                  · have t46 : A.tmps.getD 46 undef = .int .i64 (k : Int) := hdep 4 _ 46 rfl (by kernel_rfl) rfl
                    have t10 := hfr 10 (by simp)
                    refine par_value (v := .pointer (some ⟨gT, k * 6, none⟩)) (w' := W) ?_ ⟨KK.refl _, hJ.same _ _ _ (by simp), rfl⟩
                    simp [go_sem, Act.eval, t46, t10, ekk, pkk, bkk]
                  · have t47 : A.tmps.getD 47 undef = .pointer (some ⟨gT, k * 6, none⟩) := hdep 5 _ 47 rfl (by kernel_rfl) rfl
                    refine par_value (v := .pointer (some ⟨gT, k * 6 + 2, none⟩)) (w' := W) ?_ ⟨KK.refl _, hJ.same _ _ _ (by simp), rfl⟩
                    simp [go_sem, Act.eval, t47]
                  · have t48 : A.tmps.getD 48 undef = .pointer (some ⟨gT, k * 6 + 2, none⟩) := hdep 6 _ 48 rfl (by kernel_rfl) rfl
                    have hb : BlkC 108 W gT ct := hJ.kept (108, gT, ct) (by simp)
                    have y0 := (hb.cell (k * 6 + 2)).trans KY0.out
                    have y1 := (hb.cell (k * 6 + 2 + 1)).trans KY1.out
                    refine par_value (v := .agg #[.int .i64 Ty, .slice by' my ey]) (w' := W) ?_ ⟨KK.refl _, hJ.same _ _ _ (by simp), rfl⟩
                    simp [go_sem, Act.eval, t48, y0, y1]
                  · have t45 : A.tmps.getD 45 undef = .agg #[.int .i64 Sy, .slice ay ny cy] := hdep 3 _ 45 rfl (by kernel_rfl) rfl
                    obtain ⟨g9, cs9, hp9, hb9, hk9⟩ := hJ.ahead (t0 := tgK 13 none 8 51 2 (fun _ v => v = .agg #[.int .i64 Sy, .slice ay ny cy]) (fun _ _ _ _ h => h)) (by simp) (fun j hj => by cases hj) hf
                    obtain ⟨y0, y1, rfl⟩ := len2 hk9
                    have hv8 : Value.agg #[.int .i64 Sy, .slice ay ny cy] = Value.agg #[.int .i64 Sy, .slice ay ny cy] := rfl
                    have e8 := t45
                    have hst : StK 51 W g9 _ [.int .i64 Sy, .slice ay ny cy] := (StK.one (T := 51) hb9 ⟨by decide, by decide⟩ 0 (.int .i64 Sy)).more ⟨by decide, by decide⟩ 1 (.slice ay ny cy)
                    have hcell := hb9.cell
                    have hfree := hb9.free
                    refine par_skip ?_ ⟨hst.kk, hJ.put 8 undef (by simp) (fun j hj => by cases hj) rfl hp9 hst.gr hst.kk hst.bb (hv8) (by simp) (by simp), trivial⟩
                    simp [go_sem, Act.eval, hp9, e8, hcell, hfree]
                  · have t49 : A.tmps.getD 49 undef = .agg #[.int .i64 Ty, .slice by' my ey] := hdep 7 _ 49 rfl (by kernel_rfl) rfl
                    obtain ⟨g9, cs9, hp9, hb9, hk9⟩ := hJ.ahead (t0 := tgK 14 none 9 51 2 (fun _ v => v = .agg #[.int .i64 Ty, .slice by' my ey]) (fun _ _ _ _ h => h)) (by simp) (fun j hj => by cases hj) hf
                    obtain ⟨y0, y1, rfl⟩ := len2 hk9
                    have hv8 : Value.agg #[.int .i64 Ty, .slice by' my ey] = Value.agg #[.int .i64 Ty, .slice by' my ey] := rfl
                    have e8 := t49
                    have hst : StK 51 W g9 _ [.int .i64 Ty, .slice by' my ey] := (StK.one (T := 51) hb9 ⟨by decide, by decide⟩ 0 (.int .i64 Ty)).more ⟨by decide, by decide⟩ 1 (.slice by' my ey)
                    have hcell := hb9.cell
                    have hfree := hb9.free
                    refine par_skip ?_ ⟨hst.kk, hJ.put 9 undef (by simp) (fun j hj => by cases hj) rfl hp9 hst.gr hst.kk hst.bb (hv8) (by simp) (by simp), trivial⟩
                    simp [go_sem, Act.eval, hp9, e8, hcell, hfree]
                · intro vs W hJ hs
                  have HG9 : Hid (Below wr.heap.size wr W.drew) := hJ.b.drew
                  obtain ⟨ga', ca', pa', la', ba', ka', _⟩ := hJ.at' (tgK 13 none 8 51 2 (fun _ v => v = .agg #[.int .i64 Sy, .slice ay ny cy]) (fun _ _ _ _ h => h)) (by simp) (fun j hj => by cases hj)
                  obtain rfl : ca' = [.int .i64 Sy, .slice ay ny cy] := agg_list ka'
                  have ea : ga' = ga := ptr_eq (by simpa [putAll, Act.put] using pa')
                  subst ea
                  obtain ⟨gb', cb', pb', lb', bb', kb', _⟩ := hJ.at' (tgK 14 none 9 51 2 (fun _ v => v = .agg #[.int .i64 Ty, .slice by' my ey]) (fun _ _ _ _ h => h)) (by simp) (fun j hj => by cases hj)
                  obtain rfl : cb' = [.int .i64 Ty, .slice by' my ey] := agg_list kb'
                  have eb : gb' = gb := ptr_eq (by simpa [putAll, Act.put] using pb')
                  subst eb
                  have HA9 : Hid (BlkC 51 W.drew ga' [.int .i64 Sy, .slice ay ny cy]) := ba'
                  have HC9 : Hid (BlkC 51 W.drew gb' [.int .i64 Ty, .slice by' my ey]) := bb'
                  have HF9 : Hid (BlkC 108 W.drew gF cs) := hJ.kept (108, gF, cs) (by simp)
                  have HT9 : Hid (BlkC 108 W.drew gT ct) := hJ.kept (108, gT, ct) (by simp)
                  have HG9 : Hid (Below wr.heap.size wr W) := hJ.b
                  clear pa' ba' ka' la' pb' bb' kb' lb' hJ hs HG8 HA8 HC8 HF8 HT8 hab
                  simp only [putAll, List.foldl_cons, List.foldl_nil, Act.put, List.setIfInBounds_toArray, List.set_cons_succ, List.set_cons_zero]
                  generalize hW9 : W = w10 at *
                  clear hW9
                  obtain ⟨bb, hbb⟩ : ∃ bb, decide (farP p q d true i k) = bb := ⟨_, rfl⟩
                  have HBB := Lib.hid hbb
                  clear hbb
                  go_wp2_with fail
                  refine region_kk (by kernel_rfl) (by kernel_rfl) rfl (KK) (fun | 0 => .is (.agg #[.int .i64 Sy, .slice ay ny cy]) | 1 => .is (.int .i64 (i : Int)) | 2 => .is (.pointer (some ⟨gF, i * 6, none⟩)) | 3 => .is (.pointer (some ⟨gF, i * 6 + 4, none⟩)) | 4 => .is (.agg #[.int .i64 Su, .slice au nu cu]) | 5 => .is (.agg #[.int .i64 Ty, .slice by' my ey]) | 6 => .is (.int .i64 (k : Int)) | 7 => .is (.pointer (some ⟨gT, k * 6, none⟩)) | 8 => .is (.pointer (some ⟨gT, k * 6 + 4, none⟩)) | 9 => .is (.agg #[.int .i64 Tu, .slice bu mu eu]) | 10 => .is (.int .i64 d) | 11 => .is (.bool bb) | 12 => .is (.bool (!bb)) | _ => .any) (MK wr.heap.size wr wr [(51, ga', [.int .i64 Sy, .slice ay ny cy]), (51, gb', [.int .i64 Ty, .slice by' my ey]), (108, gF, cs), (108, gT, ct)] []) (fun f g a w hn h => MK.ext (n := 13) (by simp) hn h) ?_ ?_ ?_
                  · exact ⟨HG9.out.drew, kk_below HG9.out.drew, HG9.out.size, (by intro q hq; simp only [List.mem_cons, List.not_mem_nil, or_false] at hq; rcases hq with rfl | rfl | rfl | rfl; exact HA9.out; exact HC9.out; exact HF9.out; exact HT9.out), (fun t ht => by cases ht), (fun t u ht => by cases ht)⟩
                  · intro i o f A W hi hJ hf hdep hdn hcl hfr hsz
                    rcases i with _ | _ | _ | _ | _ | _ | _ | _ | _ | _ | _ | _ | _ | i
                    all_goals (simp at hi)
                    all_goals (try subst hi)
                    · have t13 := hfr 13 (by simp)
                      have hb0 : BlkC 51 W ga' [.int .i64 Sy, .slice ay ny cy] := hJ.kept (51, ga', [.int .i64 Sy, .slice ay ny cy]) (by simp)
                      have x00 : W.cell? ⟨ga', 0, none⟩ = some (.int .i64 Sy) := by rw [hb0.cell 0]; rfl
                      have x01 : W.cell? ⟨ga', 1, none⟩ = some (.slice ay ny cy) := by rw [hb0.cell 1]; rfl
                      refine par_value (v := .agg #[.int .i64 Sy, .slice ay ny cy]) (w' := W) ?_ ⟨KK.refl _, hJ.same _ _ _ (by simp), rfl⟩
                      simp [go_sem, Act.eval, t13, x00, x01]
                    · have t11 := hfr 11 (by simp)
                      refine par_value (v := .int .i64 (i : Int)) (w' := W) ?_ ⟨KK.refl _, hJ.same _ _ _ (by simp), rfl⟩
                      simp [go_sem, Act.eval, t11]
                    · have t51 : A.tmps.getD 51 undef = .int .i64 (i : Int) := hdep 1 _ 51 rfl (by kernel_rfl) rfl
                      have t9 := hfr 9 (by simp)
                      refine par_value (v := .pointer (some ⟨gF, i * 6, none⟩)) (w' := W) ?_ ⟨KK.refl _, hJ.same _ _ _ (by simp), rfl⟩
                      simp [go_sem, Act.eval, t51, t9, eii, pii, bii]
                    · have t52 : A.tmps.getD 52 undef = .pointer (some ⟨gF, i * 6, none⟩) := hdep 2 _ 52 rfl (by kernel_rfl) rfl
                      refine par_value (v := .pointer (some ⟨gF, i * 6 + 4, none⟩)) (w' := W) ?_ ⟨KK.refl _, hJ.same _ _ _ (by simp), rfl⟩
                      simp [go_sem, Act.eval, t52]
                    · have t53 : A.tmps.getD 53 undef = .pointer (some ⟨gF, i * 6 + 4, none⟩) := hdep 3 _ 53 rfl (by kernel_rfl) rfl
                      have hb : BlkC 108 W gF cs := hJ.kept (108, gF, cs) (by simp)
                      have y0 := (hb.cell (i * 6 + 4)).trans HU0.out
                      have y1 := (hb.cell (i * 6 + 4 + 1)).trans HU1.out
                      refine par_value (v := .agg #[.int .i64 Su, .slice au nu cu]) (w' := W) ?_ ⟨KK.refl _, hJ.same _ _ _ (by simp), rfl⟩
                      simp [go_sem, Act.eval, t53, y0, y1]
                    · have t14 := hfr 14 (by simp)
                      have hb1 : BlkC 51 W gb' [.int .i64 Ty, .slice by' my ey] := hJ.kept (51, gb', [.int .i64 Ty, .slice by' my ey]) (by simp)
                      have x10 : W.cell? ⟨gb', 0, none⟩ = some (.int .i64 Ty) := by rw [hb1.cell 0]; rfl
                      have x11 : W.cell? ⟨gb', 1, none⟩ = some (.slice by' my ey) := by rw [hb1.cell 1]; rfl
                      refine par_value (v := .agg #[.int .i64 Ty, .slice by' my ey]) (w' := W) ?_ ⟨KK.refl _, hJ.same _ _ _ (by simp), rfl⟩
                      simp [go_sem, Act.eval, t14, x10, x11]
                    · have t12 := hfr 12 (by simp)
                      refine par_value (v := .int .i64 (k : Int)) (w' := W) ?_ ⟨KK.refl _, hJ.same _ _ _ (by simp), rfl⟩
                      simp [go_sem, Act.eval, t12]
                    · have t56 : A.tmps.getD 56 undef = .int .i64 (k : Int) := hdep 6 _ 56 rfl (by kernel_rfl) rfl
                      have t10 := hfr 10 (by simp)
                      refine par_value (v := .pointer (some ⟨gT, k * 6, none⟩)) (w' := W) ?_ ⟨KK.refl _, hJ.same _ _ _ (by simp), rfl⟩
                      simp [go_sem, Act.eval, t56, t10, ekk, pkk, bkk]
                    · have t57 : A.tmps.getD 57 undef = .pointer (some ⟨gT, k * 6, none⟩) := hdep 7 _ 57 rfl (by kernel_rfl) rfl
                      refine par_value (v := .pointer (some ⟨gT, k * 6 + 4, none⟩)) (w' := W) ?_ ⟨KK.refl _, hJ.same _ _ _ (by simp), rfl⟩
                      simp [go_sem, Act.eval, t57]
                    · have t58 : A.tmps.getD 58 undef = .pointer (some ⟨gT, k * 6 + 4, none⟩) := hdep 8 _ 58 rfl (by kernel_rfl) rfl
                      have hb : BlkC 108 W gT ct := hJ.kept (108, gT, ct) (by simp)
                      have y0 := (hb.cell (k * 6 + 4)).trans KU0.out
                      have y1 := (hb.cell (k * 6 + 4 + 1)).trans KU1.out
                      refine par_value (v := .agg #[.int .i64 Tu, .slice bu mu eu]) (w' := W) ?_ ⟨KK.refl _, hJ.same _ _ _ (by simp), rfl⟩
                      simp [go_sem, Act.eval, t58, y0, y1]
                    · have t2 := hfr 2 (by simp)
                      refine par_value (v := .int .i64 d) (w' := W) ?_ ⟨KK.refl _, hJ.same _ _ _ (by simp), rfl⟩
                      simp [go_sem, Act.eval, t2]
                    · have t50 : A.tmps.getD 50 undef = .agg #[.int .i64 Sy, .slice ay ny cy] := hdep 0 _ 50 rfl (by kernel_rfl) rfl
                      have t54 : A.tmps.getD 54 undef = .agg #[.int .i64 Su, .slice au nu cu] := hdep 4 _ 54 rfl (by kernel_rfl) rfl
                      have t55 : A.tmps.getD 55 undef = .agg #[.int .i64 Ty, .slice by' my ey] := hdep 5 _ 55 rfl (by kernel_rfl) rfl
                      have t59 : A.tmps.getD 59 undef = .agg #[.int .i64 Tu, .slice bu mu eu] := hdep 9 _ 59 rfl (by kernel_rfl) rfl
                      have t60 : A.tmps.getD 60 undef = .int .i64 d := hdep 10 _ 60 rfl (by kernel_rfl) rfl
                      refine par_call (w' := W) (f := 48) (xs := #[Value.agg #[.int .i64 Sy, .slice ay ny cy], Value.agg #[.int .i64 Su, .slice au nu cu], Value.agg #[.int .i64 Ty, .slice by' my ey], Value.agg #[.int .i64 Tu, .slice bu mu eu], Value.int IntKind.i64 d]) (by simp [go_sem, Act.eval, t50, t54, t55, t59, t60]) ?_
                      refine (apart_any (p.y i) (p.u i) (q.y k) (q.u k) d _ _ _ _ _ ((HJy.out.keep (ki_below HI.out.b)).keep (ki_below hJ.b)) ((HJu.out.keep (ki_below HI.out.b)).keep (ki_below hJ.b)) ((KJy.out.keep (ki_below HI.out.b)).keep (ki_below hJ.b)) ((KJu.out.keep (ki_below HI.out.b)).keep (ki_below hJ.b)) (PQ.b20 HP.out true i) (PQ.b20u p i) (PQ.b20 HQ.out true k) (PQ.b20u q k) HD.out).mono ?_
                      rintro e w1 ⟨rfl, hg1⟩
                      exact ⟨_, rfl, kk_below hg1, hJ.gr hg1 _ _ _ (by simp), (congrArg Value.bool HBB.out)⟩
                    · have t61 : A.tmps.getD 61 undef = .bool bb := hdep 11 _ 61 rfl (by kernel_rfl) rfl
                      refine par_value (v := .bool (!bb)) (w' := W) ?_ ⟨KK.refl _, hJ.same _ _ _ (by simp), rfl⟩
                      simp [go_sem, Act.eval, t61]
                  · intro vs W hJ hs
                    have HI9 := Lib.hid (HI.out.gr hJ.b)
                    have e62 : vs 62 = .bool (!bb) := hs 12 _ _ rfl rfl
                    clear hJ hs
                    simp only [putAll, List.foldl_cons, List.foldl_nil, Act.put, List.setIfInBounds_toArray, List.set_cons_succ, List.set_cons_zero]
                    rw [e62]
                    generalize hW9 : W = w9 at *
                    clear hW9 HG9 HA9 HC9 HF9 HT9 HI
                    cases bb with
                    | true =>
                      have HN := Lib.hid (HI9.out.next (of_decide_eq_true HBB.out))
                      clear HBB HI9
                      go_wp2_with fail
                      go_roundg (2 - (k + 1))
                      case measure => omega
                      case rel => exact ⟨k + 1, by go_num, by omega, by omega, HN⟩
                    | false =>
                      have hno : ¬ farP p q d true i k := of_decide_eq_false HBB.out
                      have HNO := Lib.hid hno
                      clear hno HBB
                      go_wp2_with fail
                      go_ret
                      exact beyE_of false rfl ⟨(fun h => by cases h), fun h => absurd (h i k (by omega) (by omega)) HNO.out⟩ HI9.out.b
              | false =>
                have HA9 := HA8
                have HC9 := HC8
                have HF9 := HF8
                have HT9 := HT8
                have HG9 := HG8
                clear HA8 HC8 HF8 HT8 HG8 hab
                obtain ⟨bb, hbb⟩ : ∃ bb, decide (farP p q d false i k) = bb := ⟨_, rfl⟩
                have HBB := Lib.hid hbb
                clear hbb
                go_wp2_with fail
                refine region_kk (by kernel_rfl) (by kernel_rfl) rfl (KK) (fun | 0 => .is (.agg #[.int .i64 Sx, .slice ax nx cx]) | 1 => .is (.int .i64 (i : Int)) | 2 => .is (.pointer (some ⟨gF, i * 6, none⟩)) | 3 => .is (.pointer (some ⟨gF, i * 6 + 4, none⟩)) | 4 => .is (.agg #[.int .i64 Su, .slice au nu cu]) | 5 => .is (.agg #[.int .i64 Tx, .slice bx mx ex]) | 6 => .is (.int .i64 (k : Int)) | 7 => .is (.pointer (some ⟨gT, k * 6, none⟩)) | 8 => .is (.pointer (some ⟨gT, k * 6 + 4, none⟩)) | 9 => .is (.agg #[.int .i64 Tu, .slice bu mu eu]) | 10 => .is (.int .i64 d) | 11 => .is (.bool bb) | 12 => .is (.bool (!bb)) | _ => .any) (MK wr.heap.size wr wr [(51, ga, [.int .i64 Sx, .slice ax nx cx]), (51, gb, [.int .i64 Tx, .slice bx mx ex]), (108, gF, cs), (108, gT, ct)] []) (fun f g a w hn h => MK.ext (n := 13) (by simp) hn h) ?_ ?_ ?_
                · exact ⟨HG9.out.drew, kk_below HG9.out.drew, HG9.out.size, (by intro q hq; simp only [List.mem_cons, List.not_mem_nil, or_false] at hq; rcases hq with rfl | rfl | rfl | rfl; exact HA9.out; exact HC9.out; exact HF9.out; exact HT9.out), (fun t ht => by cases ht), (fun t u ht => by cases ht)⟩
                · intro i o f A W hi hJ hf hdep hdn hcl hfr hsz
                  rcases i with _ | _ | _ | _ | _ | _ | _ | _ | _ | _ | _ | _ | _ | i
                  all_goals (simp at hi)
                  all_goals (try subst hi)
                  · have t13 := hfr 13 (by simp)
                    have hb0 : BlkC 51 W ga [.int .i64 Sx, .slice ax nx cx] := hJ.kept (51, ga, [.int .i64 Sx, .slice ax nx cx]) (by simp)
                    have x00 : W.cell? ⟨ga, 0, none⟩ = some (.int .i64 Sx) := by rw [hb0.cell 0]; rfl
                    have x01 : W.cell? ⟨ga, 1, none⟩ = some (.slice ax nx cx) := by rw [hb0.cell 1]; rfl
                    refine par_value (v := .agg #[.int .i64 Sx, .slice ax nx cx]) (w' := W) ?_ ⟨KK.refl _, hJ.same _ _ _ (by simp), rfl⟩
                    simp [go_sem, Act.eval, t13, x00, x01]
                  · have t11 := hfr 11 (by simp)
                    refine par_value (v := .int .i64 (i : Int)) (w' := W) ?_ ⟨KK.refl _, hJ.same _ _ _ (by simp), rfl⟩
                    simp [go_sem, Act.eval, t11]
                  · have t51 : A.tmps.getD 51 undef = .int .i64 (i : Int) := hdep 1 _ 51 rfl (by kernel_rfl) rfl
                    have t9 := hfr 9 (by simp)
                    refine par_value (v := .pointer (some ⟨gF, i * 6, none⟩)) (w' := W) ?_ ⟨KK.refl _, hJ.same _ _ _ (by simp), rfl⟩
                    simp [go_sem, Act.eval, t51, t9, eii, pii, bii]
                  · have t52 : A.tmps.getD 52 undef = .pointer (some ⟨gF, i * 6, none⟩) := hdep 2 _ 52 rfl (by kernel_rfl) rfl
                    refine par_value (v := .pointer (some ⟨gF, i * 6 + 4, none⟩)) (w' := W) ?_ ⟨KK.refl _, hJ.same _ _ _ (by simp), rfl⟩
                    simp [go_sem, Act.eval, t52]
                  · have t53 : A.tmps.getD 53 undef = .pointer (some ⟨gF, i * 6 + 4, none⟩) := hdep 3 _ 53 rfl (by kernel_rfl) rfl
                    have hb : BlkC 108 W gF cs := hJ.kept (108, gF, cs) (by simp)
                    have y0 := (hb.cell (i * 6 + 4)).trans HU0.out
                    have y1 := (hb.cell (i * 6 + 4 + 1)).trans HU1.out
                    refine par_value (v := .agg #[.int .i64 Su, .slice au nu cu]) (w' := W) ?_ ⟨KK.refl _, hJ.same _ _ _ (by simp), rfl⟩
                    simp [go_sem, Act.eval, t53, y0, y1]
                  · have t14 := hfr 14 (by simp)
                    have hb1 : BlkC 51 W gb [.int .i64 Tx, .slice bx mx ex] := hJ.kept (51, gb, [.int .i64 Tx, .slice bx mx ex]) (by simp)
                    have x10 : W.cell? ⟨gb, 0, none⟩ = some (.int .i64 Tx) := by rw [hb1.cell 0]; rfl
                    have x11 : W.cell? ⟨gb, 1, none⟩ = some (.slice bx mx ex) := by rw [hb1.cell 1]; rfl
                    refine par_value (v := .agg #[.int .i64 Tx, .slice bx mx ex]) (w' := W) ?_ ⟨KK.refl _, hJ.same _ _ _ (by simp), rfl⟩
                    simp [go_sem, Act.eval, t14, x10, x11]
                  · have t12 := hfr 12 (by simp)
                    refine par_value (v := .int .i64 (k : Int)) (w' := W) ?_ ⟨KK.refl _, hJ.same _ _ _ (by simp), rfl⟩
                    simp [go_sem, Act.eval, t12]
                  · have t56 : A.tmps.getD 56 undef = .int .i64 (k : Int) := hdep 6 _ 56 rfl (by kernel_rfl) rfl
                    have t10 := hfr 10 (by simp)
                    refine par_value (v := .pointer (some ⟨gT, k * 6, none⟩)) (w' := W) ?_ ⟨KK.refl _, hJ.same _ _ _ (by simp), rfl⟩
                    simp [go_sem, Act.eval, t56, t10, ekk, pkk, bkk]
                  · have t57 : A.tmps.getD 57 undef = .pointer (some ⟨gT, k * 6, none⟩) := hdep 7 _ 57 rfl (by kernel_rfl) rfl
                    refine par_value (v := .pointer (some ⟨gT, k * 6 + 4, none⟩)) (w' := W) ?_ ⟨KK.refl _, hJ.same _ _ _ (by simp), rfl⟩
                    simp [go_sem, Act.eval, t57]
                  · have t58 : A.tmps.getD 58 undef = .pointer (some ⟨gT, k * 6 + 4, none⟩) := hdep 8 _ 58 rfl (by kernel_rfl) rfl
                    have hb : BlkC 108 W gT ct := hJ.kept (108, gT, ct) (by simp)
                    have y0 := (hb.cell (k * 6 + 4)).trans KU0.out
                    have y1 := (hb.cell (k * 6 + 4 + 1)).trans KU1.out
                    refine par_value (v := .agg #[.int .i64 Tu, .slice bu mu eu]) (w' := W) ?_ ⟨KK.refl _, hJ.same _ _ _ (by simp), rfl⟩
                    simp [go_sem, Act.eval, t58, y0, y1]
                  · have t2 := hfr 2 (by simp)
                    refine par_value (v := .int .i64 d) (w' := W) ?_ ⟨KK.refl _, hJ.same _ _ _ (by simp), rfl⟩
                    simp [go_sem, Act.eval, t2]
                  · have t50 : A.tmps.getD 50 undef = .agg #[.int .i64 Sx, .slice ax nx cx] := hdep 0 _ 50 rfl (by kernel_rfl) rfl
                    have t54 : A.tmps.getD 54 undef = .agg #[.int .i64 Su, .slice au nu cu] := hdep 4 _ 54 rfl (by kernel_rfl) rfl
                    have t55 : A.tmps.getD 55 undef = .agg #[.int .i64 Tx, .slice bx mx ex] := hdep 5 _ 55 rfl (by kernel_rfl) rfl
                    have t59 : A.tmps.getD 59 undef = .agg #[.int .i64 Tu, .slice bu mu eu] := hdep 9 _ 59 rfl (by kernel_rfl) rfl
                    have t60 : A.tmps.getD 60 undef = .int .i64 d := hdep 10 _ 60 rfl (by kernel_rfl) rfl
                    refine par_call (w' := W) (f := 48) (xs := #[Value.agg #[.int .i64 Sx, .slice ax nx cx], Value.agg #[.int .i64 Su, .slice au nu cu], Value.agg #[.int .i64 Tx, .slice bx mx ex], Value.agg #[.int .i64 Tu, .slice bu mu eu], Value.int IntKind.i64 d]) (by simp [go_sem, Act.eval, t50, t54, t55, t59, t60]) ?_
                    refine (apart_any (p.x i) (p.u i) (q.x k) (q.u k) d _ _ _ _ _ ((HJx.out.keep (ki_below HI.out.b)).keep (ki_below hJ.b)) ((HJu.out.keep (ki_below HI.out.b)).keep (ki_below hJ.b)) ((KJx.out.keep (ki_below HI.out.b)).keep (ki_below hJ.b)) ((KJu.out.keep (ki_below HI.out.b)).keep (ki_below hJ.b)) (PQ.b20 HP.out false i) (PQ.b20u p i) (PQ.b20 HQ.out false k) (PQ.b20u q k) HD.out).mono ?_
                    rintro e w1 ⟨rfl, hg1⟩
                    exact ⟨_, rfl, kk_below hg1, hJ.gr hg1 _ _ _ (by simp), (congrArg Value.bool HBB.out)⟩
                  · have t61 : A.tmps.getD 61 undef = .bool bb := hdep 11 _ 61 rfl (by kernel_rfl) rfl
                    refine par_value (v := .bool (!bb)) (w' := W) ?_ ⟨KK.refl _, hJ.same _ _ _ (by simp), rfl⟩
                    simp [go_sem, Act.eval, t61]
                · intro vs W hJ hs
                  have HI9 := Lib.hid (HI.out.gr hJ.b)
                  have e62 : vs 62 = .bool (!bb) := hs 12 _ _ rfl rfl
                  clear hJ hs
                  simp only [putAll, List.foldl_cons, List.foldl_nil, Act.put, List.setIfInBounds_toArray, List.set_cons_succ, List.set_cons_zero]
                  rw [e62]
                  generalize hW9 : W = w9 at *
                  clear hW9 HG9 HA9 HC9 HF9 HT9 HI
                  cases bb with
                  | true =>
                    have HN := Lib.hid (HI9.out.next (of_decide_eq_true HBB.out))
                    clear HBB HI9
                    go_wp2_with fail
                    go_roundg (2 - (k + 1))
                    case measure => omega
                    case rel => exact ⟨k + 1, by go_num, by omega, by omega, HN⟩
                  | false =>
                    have hno : ¬ farP p q d false i k := of_decide_eq_false HBB.out
                    have HNO := Lib.hid hno
                    clear hno HBB
                    go_wp2_with fail
                    go_ret
                    exact beyE_of false rfl ⟨(fun h => by cases h), fun h => absurd (h i k (by omega) (by omega)) HNO.out⟩ HI9.out.b
          · have hkz : ¬ (k : Int) < 2 := by omega
            have hk2 : k = 2 := by omega
            subst hk2
            have HN := Lib.hid HI.out.row
            clear HI
            go_wp2_with fail
            go_roundg (gO - 1)
            case measure => omega
            case rel => exact ⟨i + 1, by go_num, by omega, by omega, HN⟩
      · have hlz : ¬ (i : Int) < 2 := by omega
        have hi2 : i = 2 := by omega
        subst hi2
        go_wp2_with fail
        go_ret
        exact beyE_of true rfl ⟨(fun _ i' k' h1 h2 => HI0.out.all i' k' h1 h2 (.inl h1)), fun _ => rfl⟩ HI0.out.b
end Go.Proofs.Ytnojfiokdhcbjaa

namespace Go.Proofs.Ytnojfiokdhcbjaa
open Go

theorem far_rat (a u b v d : Int) (hu : 0 < u) (hv : 0 < v) : d * (u * v) < a * v - b * u ↔ Rat.divInt b v + (d : Rat) < Rat.divInt a u := by
  have hu' : (0 : Rat) < (u : Rat) := Rat.intCast_pos.2 hu
  have hv' : (0 : Rat) < (v : Rat) := Rat.intCast_pos.2 hv
  obtain ⟨A, hA⟩ : ∃ A, A = Rat.divInt a u := ⟨_, rfl⟩
  obtain ⟨B, hB⟩ : ∃ B, B = Rat.divInt b v := ⟨_, rfl⟩
  have eA : A * (u : Rat) = (a : Rat) := by rw [hA, Rat.divInt_eq_div]; grind
  have eB : B * (v : Rat) = (b : Rat) := by rw [hB, Rat.divInt_eq_div]; grind
  rw [← hA, ← hB]
  have hk : (0 : Rat) < (u : Rat) * (v : Rat) := Rat.mul_pos hu' hv'
  have e : (A - B - (d : Rat)) * ((u : Rat) * (v : Rat)) = ((a * v - b * u - d * (u * v) : Int) : Rat) := by
    push_cast
    rw [← eA, ← eB]
    grind
  constructor
  · intro h
    have h1 : (0 : Rat) < ((a * v - b * u - d * (u * v) : Int) : Rat) := Rat.intCast_pos.2 (by omega)
    rw [← e] at h1
    rcases Classical.em (B + (d : Rat) < A) with h2 | h2
    · exact h2
    · exfalso
      have h3 : 0 ≤ -(A - B - (d : Rat)) := by grind
      have h4 := Rat.mul_nonneg h3 (Rat.le_of_lt hk)
      grind
  · intro h
    have h1 : (0 : Rat) < A - B - (d : Rat) := by grind
    have h2 := Rat.mul_pos h1 hk
    rw [e] at h2
    have := Rat.intCast_pos.1 h2
    omega
theorem best_min (p q : Rat) : bestR ltL [p, q] = if q < p then q else p := by
  unfold bestR
  simp only [List.foldl_cons, List.foldl_nil, decide_eq_true_eq]
theorem best_max (p q : Rat) : bestR ltM [p, q] = if p < q then q else p := by
  unfold bestR
  simp only [List.foldl_cons, List.foldl_nil, decide_eq_true_eq]
theorem far_four (p q : PQ) (d : Int) (y : Bool) : (∀ i k, i < 2 → k < 2 → farP p q d y i k) ↔ farP p q d y 0 0 ∧ farP p q d y 0 1 ∧ farP p q d y 1 0 ∧ farP p q d y 1 1 := by
  constructor
  · intro h
    exact ⟨h 0 0 (by omega) (by omega), h 0 1 (by omega) (by omega), h 1 0 (by omega) (by omega), h 1 1 (by omega) (by omega)⟩
  · rintro ⟨h0, h1, h2, h3⟩ i k hi hk
    match i, k, hi, hk with
    | 0, 0, _, _ => exact h0
    | 0, 1, _, _ => exact h1
    | 1, 0, _, _ => exact h2
    | 1, 1, _, _ => exact h3
theorem und_z (d : Int) : (0 : Int) < ((und d : Nat) : Int) := by have := und_pos d; omega
theorem far_x (p q : PQ) (d : Int) : (∀ i k, i < 2 → k < 2 → farP p q d false i k) ↔ bestR ltM [(sgOf q).ax, (sgOf q).cx] + (d : Rat) < bestR ltL [(sgOf p).ax, (sgOf p).cx] := by
  rw [far_four, best_min, best_max]
  have h00 := far_rat p.ax ((und p.ad : Nat) : Int) q.ax ((und q.ad : Nat) : Int) d (und_z _) (und_z _)
  have h01 := far_rat p.ax ((und p.ad : Nat) : Int) q.cx ((und q.cd : Nat) : Int) d (und_z _) (und_z _)
  have h10 := far_rat p.cx ((und p.cd : Nat) : Int) q.ax ((und q.ad : Nat) : Int) d (und_z _) (und_z _)
  have h11 := far_rat p.cx ((und p.cd : Nat) : Int) q.cx ((und q.cd : Nat) : Int) d (und_z _) (und_z _)
  show (d * (_ * _) < _ - _) ∧ (d * (_ * _) < _ - _) ∧ (d * (_ * _) < _ - _) ∧ (d * (_ * _) < _ - _) ↔ _
  unfold PQ.c PQ.x PQ.u sgOf
  simp only [Bool.false_eq_true, if_false, if_true, Nat.one_ne_zero]
  rw [h00, h01, h10, h11]
  grind
theorem far_y (p q : PQ) (d : Int) : (∀ i k, i < 2 → k < 2 → farP p q d true i k) ↔ bestR ltM [(sgOf q).ay, (sgOf q).cy] + (d : Rat) < bestR ltL [(sgOf p).ay, (sgOf p).cy] := by
  rw [far_four, best_min, best_max]
  have h00 := far_rat p.ay ((und p.ad : Nat) : Int) q.ay ((und q.ad : Nat) : Int) d (und_z _) (und_z _)
  have h01 := far_rat p.ay ((und p.ad : Nat) : Int) q.cy ((und q.cd : Nat) : Int) d (und_z _) (und_z _)
  have h10 := far_rat p.cy ((und p.cd : Nat) : Int) q.ay ((und q.ad : Nat) : Int) d (und_z _) (und_z _)
  have h11 := far_rat p.cy ((und p.cd : Nat) : Int) q.cy ((und q.cd : Nat) : Int) d (und_z _) (und_z _)
  show (d * (_ * _) < _ - _) ∧ (d * (_ * _) < _ - _) ∧ (d * (_ * _) < _ - _) ∧ (d * (_ * _) < _ - _) ↔ _
  unfold PQ.c PQ.y PQ.u sgOf
  simp only [if_false, if_true, Nat.one_ne_zero]
  rw [h00, h01, h10, h11]
  grind
/-- Neither lies farther than the other one, on both axes: the boxes meet. -/
theorem near_far (p q : PQ) (d : Int) : nearB (sgOf p) (sgOf q) (d : Rat) = true ↔ ¬ (∀ i k, i < 2 → k < 2 → farP p q d false i k) ∧ ¬ (∀ i k, i < 2 → k < 2 → farP q p d false i k) ∧ ¬ (∀ i k, i < 2 → k < 2 → farP p q d true i k) ∧ ¬ (∀ i k, i < 2 → k < 2 → farP q p d true i k) := by
  rw [far_x, far_x, far_y, far_y]
  unfold nearB meets passes hits boxS
  simp only [Bool.and_eq_true, Bool.not_eq_true', decide_eq_false_iff_not]
  grind

/-- The pairs ahead of place (i, k). -/
def doneP (A B : List Bx) (i k : Nat) : List (Nat × Nat) :=
  ((A.take i).flatMap fun x => (B.filter (meets x)).map fun y => (x.i, y.i)) ++ (match A[i]? with | some x => ((B.take k).filter (meets x)).map fun y => (x.i, y.i) | none => [])
theorem done_start (A B : List Bx) : doneP A B 0 0 = [] := by
  unfold doneP
  cases A[0]? <;> simp
theorem done_end (A B : List Bx) : doneP A B A.length 0 = pairsS A B := by
  unfold doneP pairsS
  rw [List.take_of_length_le (Nat.le_refl _), List.getElem?_eq_none (Nat.le_refl _), List.append_nil]
theorem done_row {A B : List Bx} {i : Nat} : doneP A B i B.length = doneP A B (i + 1) 0 := by
  unfold doneP
  rw [List.take_of_length_le (Nat.le_refl B.length), List.take_add_one, List.flatMap_append]
  cases h : A[i]? with
  | none =>
    have h1 : A[i + 1]? = none := List.getElem?_eq_none (by have := List.getElem?_eq_none_iff.1 h; omega)
    rw [h1]
    simp
  | some x =>
    cases A[i + 1]? <;> simp
theorem done_step {A B : List Bx} {i k : Nat} {x y : Bx} (hx : A[i]? = some x) (hy : B[k]? = some y) : doneP A B i (k + 1) = doneP A B i k ++ (if meets x y = true then [(x.i, y.i)] else []) := by
  unfold doneP
  rw [hx]
  simp only
  rw [List.take_add_one, hy, List.filter_append, List.map_append, List.append_assoc]
  congr 2
  by_cases h : meets x y = true
  · rw [if_pos h]; simp [h]
  · rw [if_neg h]; simp [h]
theorem done_prefix (A B : List Bx) (i k : Nat) (hi : i < A.length) : ∃ r, pairsS A B = doneP A B i k ++ r := by
  refine ⟨((B.drop k).filter (meets A[i])).map (fun y => (A[i].i, y.i)) ++ ((A.drop (i + 1)).flatMap fun x => (B.filter (meets x)).map fun y => (x.i, y.i)), ?_⟩
  unfold doneP pairsS
  rw [List.getElem?_eq_getElem hi]
  simp only
  have e1 : A = A.take i ++ A[i] :: A.drop (i + 1) := by rw [← List.drop_eq_getElem_cons hi, List.take_append_drop]
  have e2 : B = B.take k ++ B.drop k := (List.take_append_drop k B).symm
  have e3 : (A[i]).i = (A[i]).i := rfl
  obtain ⟨x, hx⟩ : ∃ x, x = A[i] := ⟨_, rfl⟩
  rw [← hx] at e1 ⊢
  have e4 : (B.filter (meets x)).map (fun y => (x.i, y.i)) = ((B.take k).filter (meets x)).map (fun y => (x.i, y.i)) ++ ((B.drop k).filter (meets x)).map (fun y => (x.i, y.i)) := by
    rw [← List.map_append, ← List.filter_append, ← e2]
  calc (A.flatMap fun x => (B.filter (meets x)).map fun y => (x.i, y.i)) = ((A.take i ++ x :: A.drop (i + 1)).flatMap fun x => (B.filter (meets x)).map fun y => (x.i, y.i)) := by rw [← e1]
    _ = _ := by rw [List.flatMap_append, List.flatMap_cons, e4]; simp only [List.append_assoc]
/-- A pair that meets is the next one. -/
theorem done_at {A B : List Bx} {i k : Nat} {x y : Bx} (hx : A[i]? = some x) (hy : B[k]? = some y) (hm : meets x y = true) : (pairsS A B)[(doneP A B i k).length]? = some (x.i, y.i) := by
  obtain ⟨r, hr⟩ := done_prefix A B i (k + 1) (List.getElem?_eq_some_iff.1 hx).1
  rw [hr, done_step hx hy, if_pos hm, List.append_assoc, List.getElem?_append_right (Nat.le_refl _), Nat.sub_self]
  rfl
theorem boxesL_len (ss : List Sg) (dl : Rat) (b : Bool) : (boxesL ss dl b).length = ss.length := by
  unfold boxesL
  rw [List.length_mapIdx]
theorem boxesL_idx {ss : List Sg} {dl : Rat} {b : Bool} {i : Nat} {s : Sg} (h : ss[i]? = some s) : (boxesL ss dl b)[i]? = some (boxS s dl i b) := by
  unfold boxesL
  rw [List.getElem?_mapIdx, h]
  rfl
end Go.Proofs.Ytnojfiokdhcbjaa

namespace Go.Proofs.Ytnojfiokdhcbjaa
open Go Go.RowKit

theorem beyond_lit (p q : PQ) (d : Int) (y : Bool) (S T : Array Value) (w : World) (hs : GC w S.toList p) (ht : GC w T.toList q) (hp : p.ok) (hq : q.ok) (hd : Rng64 d) :
    Calls Try.prog 28 #[.agg S, .agg T, .int .i64 d, .bool y] w (BeyE p q d y w) := by
  have h := beyond_any p q d y S.toList T.toList w hs ht hp hq hd
  simpa using h

set_option maxHeartbeats 6000000 in
set_option maxRecDepth 100000 in
theorem cand_any (p q : PQ) (d : Int) (S T : Array Value) (w : World) (hs : GC w S.toList p) (ht : GC w T.toList q) (hp : p.ok) (hq : q.ok) (hd : Rng64 d) :
    Calls Try.prog 11 #[.agg S, .agg T, .int .i64 d] w fun e w' => e = .returned (.bool (nearB (sgOf p) (sgOf q) (d : Rat))) ∧ Below w.heap.size w w' := by
  have HP := Lib.hid hp
  have HQ := Lib.hid hq
  have HD := Lib.hid hd
  obtain ⟨s1, a1, n1, c1, s2, a2, n2, c2, s3, a3, n3, c3, s4, a4, n4, c4, s5, a5, n5, c5, s6, a6, n6, c6, hcs⟩ := hs.shape
  obtain ⟨t1, b1, m1, e1, t2, b2, m2, e2, t3, b3, m3, e3, t4, b4, m4, e4, t5, b5, m5, e5, t6, b6, m6, e6, hct⟩ := ht.shape
  obtain rfl : S = #[.int .i64 s1, .slice a1 n1 c1, .int .i64 s2, .slice a2 n2 c2, .int .i64 s3, .slice a3 n3 c3, .int .i64 s4, .slice a4 n4 c4, .int .i64 s5, .slice a5 n5 c5, .int .i64 s6, .slice a6 n6 c6] := by rw [← Array.toArray_toList (xs := S), hcs]
  obtain rfl : T = #[.int .i64 t1, .slice b1 m1 e1, .int .i64 t2, .slice b2 m2 e2, .int .i64 t3, .slice b3 m3 e3, .int .i64 t4, .slice b4 m4 e4, .int .i64 t5, .slice b5 m5 e5, .int .i64 t6, .slice b6 m6 e6] := by rw [← Array.toArray_toList (xs := T), hct]
  have HS := Lib.hid hs
  have HT := Lib.hid ht
  clear hs ht hp hq hd hcs hct
  have HX0 : Hid (BlkC 55 ((w.alloc (.cells #[.int .i64 s1, .slice a1 n1 c1, .int .i64 s2, .slice a2 n2 c2, .int .i64 s3, .slice a3 n3 c3, .int .i64 s4, .slice a4 n4 c4, .int .i64 s5, .slice a5 n5 c5, .int .i64 s6, .slice a6 n6 c6] 55)).alloc (.cells #[.int .i64 t1, .slice b1 m1 e1, .int .i64 t2, .slice b2 m2 e2, .int .i64 t3, .slice b3 m3 e3, .int .i64 t4, .slice b4 m4 e4, .int .i64 t5, .slice b5 m5 e5, .int .i64 t6, .slice b6 m6 e6] 55)) w.heap.size [.int .i64 s1, .slice a1 n1 c1, .int .i64 s2, .slice a2 n2 c2, .int .i64 s3, .slice a3 n3 c3, .int .i64 s4, .slice a4 n4 c4, .int .i64 s5, .slice a5 n5 c5, .int .i64 s6, .slice a6 n6 c6]) := (BlkC.new _ w [.int .i64 s1, .slice a1 n1 c1, .int .i64 s2, .slice a2 n2 c2, .int .i64 s3, .slice a3 n3 c3, .int .i64 s4, .slice a4 n4 c4, .int .i64 s5, .slice a5 n5 c5, .int .i64 s6, .slice a6 n6 c6]).still (grown_alloc _ _ none)
  have HY0 : Hid (BlkC 55 ((w.alloc (.cells #[.int .i64 s1, .slice a1 n1 c1, .int .i64 s2, .slice a2 n2 c2, .int .i64 s3, .slice a3 n3 c3, .int .i64 s4, .slice a4 n4 c4, .int .i64 s5, .slice a5 n5 c5, .int .i64 s6, .slice a6 n6 c6] 55)).alloc (.cells #[.int .i64 t1, .slice b1 m1 e1, .int .i64 t2, .slice b2 m2 e2, .int .i64 t3, .slice b3 m3 e3, .int .i64 t4, .slice b4 m4 e4, .int .i64 t5, .slice b5 m5 e5, .int .i64 t6, .slice b6 m6 e6] 55)) (w.heap.size + 1) [.int .i64 t1, .slice b1 m1 e1, .int .i64 t2, .slice b2 m2 e2, .int .i64 t3, .slice b3 m3 e3, .int .i64 t4, .slice b4 m4 e4, .int .i64 t5, .slice b5 m5 e5, .int .i64 t6, .slice b6 m6 e6]) := blk_at (cs := [.int .i64 t1, .slice b1 m1 e1, .int .i64 t2, .slice b2 m2 e2, .int .i64 t3, .slice b3 m3 e3, .int .i64 t4, .slice b4 m4 e4, .int .i64 t5, .slice b5 m5 e5, .int .i64 t6, .slice b6 m6 e6]) (by simp)
  have HG0 : Hid (Below w.heap.size w ((w.alloc (.cells #[.int .i64 s1, .slice a1 n1 c1, .int .i64 s2, .slice a2 n2 c2, .int .i64 s3, .slice a3 n3 c3, .int .i64 s4, .slice a4 n4 c4, .int .i64 s5, .slice a5 n5 c5, .int .i64 s6, .slice a6 n6 c6] 55)).alloc (.cells #[.int .i64 t1, .slice b1 m1 e1, .int .i64 t2, .slice b2 m2 e2, .int .i64 t3, .slice b3 m3 e3, .int .i64 t4, .slice b4 m4 e4, .int .i64 t5, .slice b5 m5 e5, .int .i64 t6, .slice b6 m6 e6] 55))) := ((own_alloc _ _).alloc (by simp) _).b
  have x0 : ((w.alloc (.cells #[.int .i64 s1, .slice a1 n1 c1, .int .i64 s2, .slice a2 n2 c2, .int .i64 s3, .slice a3 n3 c3, .int .i64 s4, .slice a4 n4 c4, .int .i64 s5, .slice a5 n5 c5, .int .i64 s6, .slice a6 n6 c6] 55)).alloc (.cells #[.int .i64 t1, .slice b1 m1 e1, .int .i64 t2, .slice b2 m2 e2, .int .i64 t3, .slice b3 m3 e3, .int .i64 t4, .slice b4 m4 e4, .int .i64 t5, .slice b5 m5 e5, .int .i64 t6, .slice b6 m6 e6] 55)).cell? ⟨w.heap.size, 0, none⟩ = some (.int .i64 s1) := by rw [HX0.out.cell 0]; rfl
  have x1 : ((w.alloc (.cells #[.int .i64 s1, .slice a1 n1 c1, .int .i64 s2, .slice a2 n2 c2, .int .i64 s3, .slice a3 n3 c3, .int .i64 s4, .slice a4 n4 c4, .int .i64 s5, .slice a5 n5 c5, .int .i64 s6, .slice a6 n6 c6] 55)).alloc (.cells #[.int .i64 t1, .slice b1 m1 e1, .int .i64 t2, .slice b2 m2 e2, .int .i64 t3, .slice b3 m3 e3, .int .i64 t4, .slice b4 m4 e4, .int .i64 t5, .slice b5 m5 e5, .int .i64 t6, .slice b6 m6 e6] 55)).cell? ⟨w.heap.size, 1, none⟩ = some (.slice a1 n1 c1) := by rw [HX0.out.cell 1]; rfl
  have x2 : ((w.alloc (.cells #[.int .i64 s1, .slice a1 n1 c1, .int .i64 s2, .slice a2 n2 c2, .int .i64 s3, .slice a3 n3 c3, .int .i64 s4, .slice a4 n4 c4, .int .i64 s5, .slice a5 n5 c5, .int .i64 s6, .slice a6 n6 c6] 55)).alloc (.cells #[.int .i64 t1, .slice b1 m1 e1, .int .i64 t2, .slice b2 m2 e2, .int .i64 t3, .slice b3 m3 e3, .int .i64 t4, .slice b4 m4 e4, .int .i64 t5, .slice b5 m5 e5, .int .i64 t6, .slice b6 m6 e6] 55)).cell? ⟨w.heap.size, 2, none⟩ = some (.int .i64 s2) := by rw [HX0.out.cell 2]; rfl
  have x3 : ((w.alloc (.cells #[.int .i64 s1, .slice a1 n1 c1, .int .i64 s2, .slice a2 n2 c2, .int .i64 s3, .slice a3 n3 c3, .int .i64 s4, .slice a4 n4 c4, .int .i64 s5, .slice a5 n5 c5, .int .i64 s6, .slice a6 n6 c6] 55)).alloc (.cells #[.int .i64 t1, .slice b1 m1 e1, .int .i64 t2, .slice b2 m2 e2, .int .i64 t3, .slice b3 m3 e3, .int .i64 t4, .slice b4 m4 e4, .int .i64 t5, .slice b5 m5 e5, .int .i64 t6, .slice b6 m6 e6] 55)).cell? ⟨w.heap.size, 3, none⟩ = some (.slice a2 n2 c2) := by rw [HX0.out.cell 3]; rfl
  have x4 : ((w.alloc (.cells #[.int .i64 s1, .slice a1 n1 c1, .int .i64 s2, .slice a2 n2 c2, .int .i64 s3, .slice a3 n3 c3, .int .i64 s4, .slice a4 n4 c4, .int .i64 s5, .slice a5 n5 c5, .int .i64 s6, .slice a6 n6 c6] 55)).alloc (.cells #[.int .i64 t1, .slice b1 m1 e1, .int .i64 t2, .slice b2 m2 e2, .int .i64 t3, .slice b3 m3 e3, .int .i64 t4, .slice b4 m4 e4, .int .i64 t5, .slice b5 m5 e5, .int .i64 t6, .slice b6 m6 e6] 55)).cell? ⟨w.heap.size, 4, none⟩ = some (.int .i64 s3) := by rw [HX0.out.cell 4]; rfl
  have x5 : ((w.alloc (.cells #[.int .i64 s1, .slice a1 n1 c1, .int .i64 s2, .slice a2 n2 c2, .int .i64 s3, .slice a3 n3 c3, .int .i64 s4, .slice a4 n4 c4, .int .i64 s5, .slice a5 n5 c5, .int .i64 s6, .slice a6 n6 c6] 55)).alloc (.cells #[.int .i64 t1, .slice b1 m1 e1, .int .i64 t2, .slice b2 m2 e2, .int .i64 t3, .slice b3 m3 e3, .int .i64 t4, .slice b4 m4 e4, .int .i64 t5, .slice b5 m5 e5, .int .i64 t6, .slice b6 m6 e6] 55)).cell? ⟨w.heap.size, 5, none⟩ = some (.slice a3 n3 c3) := by rw [HX0.out.cell 5]; rfl
  have x6 : ((w.alloc (.cells #[.int .i64 s1, .slice a1 n1 c1, .int .i64 s2, .slice a2 n2 c2, .int .i64 s3, .slice a3 n3 c3, .int .i64 s4, .slice a4 n4 c4, .int .i64 s5, .slice a5 n5 c5, .int .i64 s6, .slice a6 n6 c6] 55)).alloc (.cells #[.int .i64 t1, .slice b1 m1 e1, .int .i64 t2, .slice b2 m2 e2, .int .i64 t3, .slice b3 m3 e3, .int .i64 t4, .slice b4 m4 e4, .int .i64 t5, .slice b5 m5 e5, .int .i64 t6, .slice b6 m6 e6] 55)).cell? ⟨w.heap.size, 6, none⟩ = some (.int .i64 s4) := by rw [HX0.out.cell 6]; rfl
  have x7 : ((w.alloc (.cells #[.int .i64 s1, .slice a1 n1 c1, .int .i64 s2, .slice a2 n2 c2, .int .i64 s3, .slice a3 n3 c3, .int .i64 s4, .slice a4 n4 c4, .int .i64 s5, .slice a5 n5 c5, .int .i64 s6, .slice a6 n6 c6] 55)).alloc (.cells #[.int .i64 t1, .slice b1 m1 e1, .int .i64 t2, .slice b2 m2 e2, .int .i64 t3, .slice b3 m3 e3, .int .i64 t4, .slice b4 m4 e4, .int .i64 t5, .slice b5 m5 e5, .int .i64 t6, .slice b6 m6 e6] 55)).cell? ⟨w.heap.size, 7, none⟩ = some (.slice a4 n4 c4) := by rw [HX0.out.cell 7]; rfl
  have x8 : ((w.alloc (.cells #[.int .i64 s1, .slice a1 n1 c1, .int .i64 s2, .slice a2 n2 c2, .int .i64 s3, .slice a3 n3 c3, .int .i64 s4, .slice a4 n4 c4, .int .i64 s5, .slice a5 n5 c5, .int .i64 s6, .slice a6 n6 c6] 55)).alloc (.cells #[.int .i64 t1, .slice b1 m1 e1, .int .i64 t2, .slice b2 m2 e2, .int .i64 t3, .slice b3 m3 e3, .int .i64 t4, .slice b4 m4 e4, .int .i64 t5, .slice b5 m5 e5, .int .i64 t6, .slice b6 m6 e6] 55)).cell? ⟨w.heap.size, 8, none⟩ = some (.int .i64 s5) := by rw [HX0.out.cell 8]; rfl
  have x9 : ((w.alloc (.cells #[.int .i64 s1, .slice a1 n1 c1, .int .i64 s2, .slice a2 n2 c2, .int .i64 s3, .slice a3 n3 c3, .int .i64 s4, .slice a4 n4 c4, .int .i64 s5, .slice a5 n5 c5, .int .i64 s6, .slice a6 n6 c6] 55)).alloc (.cells #[.int .i64 t1, .slice b1 m1 e1, .int .i64 t2, .slice b2 m2 e2, .int .i64 t3, .slice b3 m3 e3, .int .i64 t4, .slice b4 m4 e4, .int .i64 t5, .slice b5 m5 e5, .int .i64 t6, .slice b6 m6 e6] 55)).cell? ⟨w.heap.size, 9, none⟩ = some (.slice a5 n5 c5) := by rw [HX0.out.cell 9]; rfl
  have x10 : ((w.alloc (.cells #[.int .i64 s1, .slice a1 n1 c1, .int .i64 s2, .slice a2 n2 c2, .int .i64 s3, .slice a3 n3 c3, .int .i64 s4, .slice a4 n4 c4, .int .i64 s5, .slice a5 n5 c5, .int .i64 s6, .slice a6 n6 c6] 55)).alloc (.cells #[.int .i64 t1, .slice b1 m1 e1, .int .i64 t2, .slice b2 m2 e2, .int .i64 t3, .slice b3 m3 e3, .int .i64 t4, .slice b4 m4 e4, .int .i64 t5, .slice b5 m5 e5, .int .i64 t6, .slice b6 m6 e6] 55)).cell? ⟨w.heap.size, 10, none⟩ = some (.int .i64 s6) := by rw [HX0.out.cell 10]; rfl
  have x11 : ((w.alloc (.cells #[.int .i64 s1, .slice a1 n1 c1, .int .i64 s2, .slice a2 n2 c2, .int .i64 s3, .slice a3 n3 c3, .int .i64 s4, .slice a4 n4 c4, .int .i64 s5, .slice a5 n5 c5, .int .i64 s6, .slice a6 n6 c6] 55)).alloc (.cells #[.int .i64 t1, .slice b1 m1 e1, .int .i64 t2, .slice b2 m2 e2, .int .i64 t3, .slice b3 m3 e3, .int .i64 t4, .slice b4 m4 e4, .int .i64 t5, .slice b5 m5 e5, .int .i64 t6, .slice b6 m6 e6] 55)).cell? ⟨w.heap.size, 11, none⟩ = some (.slice a6 n6 c6) := by rw [HX0.out.cell 11]; rfl
  have y0 : ((w.alloc (.cells #[.int .i64 s1, .slice a1 n1 c1, .int .i64 s2, .slice a2 n2 c2, .int .i64 s3, .slice a3 n3 c3, .int .i64 s4, .slice a4 n4 c4, .int .i64 s5, .slice a5 n5 c5, .int .i64 s6, .slice a6 n6 c6] 55)).alloc (.cells #[.int .i64 t1, .slice b1 m1 e1, .int .i64 t2, .slice b2 m2 e2, .int .i64 t3, .slice b3 m3 e3, .int .i64 t4, .slice b4 m4 e4, .int .i64 t5, .slice b5 m5 e5, .int .i64 t6, .slice b6 m6 e6] 55)).cell? ⟨w.heap.size + 1, 0, none⟩ = some (.int .i64 t1) := by rw [HY0.out.cell 0]; rfl
  have y1 : ((w.alloc (.cells #[.int .i64 s1, .slice a1 n1 c1, .int .i64 s2, .slice a2 n2 c2, .int .i64 s3, .slice a3 n3 c3, .int .i64 s4, .slice a4 n4 c4, .int .i64 s5, .slice a5 n5 c5, .int .i64 s6, .slice a6 n6 c6] 55)).alloc (.cells #[.int .i64 t1, .slice b1 m1 e1, .int .i64 t2, .slice b2 m2 e2, .int .i64 t3, .slice b3 m3 e3, .int .i64 t4, .slice b4 m4 e4, .int .i64 t5, .slice b5 m5 e5, .int .i64 t6, .slice b6 m6 e6] 55)).cell? ⟨w.heap.size + 1, 1, none⟩ = some (.slice b1 m1 e1) := by rw [HY0.out.cell 1]; rfl
  have y2 : ((w.alloc (.cells #[.int .i64 s1, .slice a1 n1 c1, .int .i64 s2, .slice a2 n2 c2, .int .i64 s3, .slice a3 n3 c3, .int .i64 s4, .slice a4 n4 c4, .int .i64 s5, .slice a5 n5 c5, .int .i64 s6, .slice a6 n6 c6] 55)).alloc (.cells #[.int .i64 t1, .slice b1 m1 e1, .int .i64 t2, .slice b2 m2 e2, .int .i64 t3, .slice b3 m3 e3, .int .i64 t4, .slice b4 m4 e4, .int .i64 t5, .slice b5 m5 e5, .int .i64 t6, .slice b6 m6 e6] 55)).cell? ⟨w.heap.size + 1, 2, none⟩ = some (.int .i64 t2) := by rw [HY0.out.cell 2]; rfl
  have y3 : ((w.alloc (.cells #[.int .i64 s1, .slice a1 n1 c1, .int .i64 s2, .slice a2 n2 c2, .int .i64 s3, .slice a3 n3 c3, .int .i64 s4, .slice a4 n4 c4, .int .i64 s5, .slice a5 n5 c5, .int .i64 s6, .slice a6 n6 c6] 55)).alloc (.cells #[.int .i64 t1, .slice b1 m1 e1, .int .i64 t2, .slice b2 m2 e2, .int .i64 t3, .slice b3 m3 e3, .int .i64 t4, .slice b4 m4 e4, .int .i64 t5, .slice b5 m5 e5, .int .i64 t6, .slice b6 m6 e6] 55)).cell? ⟨w.heap.size + 1, 3, none⟩ = some (.slice b2 m2 e2) := by rw [HY0.out.cell 3]; rfl
  have y4 : ((w.alloc (.cells #[.int .i64 s1, .slice a1 n1 c1, .int .i64 s2, .slice a2 n2 c2, .int .i64 s3, .slice a3 n3 c3, .int .i64 s4, .slice a4 n4 c4, .int .i64 s5, .slice a5 n5 c5, .int .i64 s6, .slice a6 n6 c6] 55)).alloc (.cells #[.int .i64 t1, .slice b1 m1 e1, .int .i64 t2, .slice b2 m2 e2, .int .i64 t3, .slice b3 m3 e3, .int .i64 t4, .slice b4 m4 e4, .int .i64 t5, .slice b5 m5 e5, .int .i64 t6, .slice b6 m6 e6] 55)).cell? ⟨w.heap.size + 1, 4, none⟩ = some (.int .i64 t3) := by rw [HY0.out.cell 4]; rfl
  have y5 : ((w.alloc (.cells #[.int .i64 s1, .slice a1 n1 c1, .int .i64 s2, .slice a2 n2 c2, .int .i64 s3, .slice a3 n3 c3, .int .i64 s4, .slice a4 n4 c4, .int .i64 s5, .slice a5 n5 c5, .int .i64 s6, .slice a6 n6 c6] 55)).alloc (.cells #[.int .i64 t1, .slice b1 m1 e1, .int .i64 t2, .slice b2 m2 e2, .int .i64 t3, .slice b3 m3 e3, .int .i64 t4, .slice b4 m4 e4, .int .i64 t5, .slice b5 m5 e5, .int .i64 t6, .slice b6 m6 e6] 55)).cell? ⟨w.heap.size + 1, 5, none⟩ = some (.slice b3 m3 e3) := by rw [HY0.out.cell 5]; rfl
  have y6 : ((w.alloc (.cells #[.int .i64 s1, .slice a1 n1 c1, .int .i64 s2, .slice a2 n2 c2, .int .i64 s3, .slice a3 n3 c3, .int .i64 s4, .slice a4 n4 c4, .int .i64 s5, .slice a5 n5 c5, .int .i64 s6, .slice a6 n6 c6] 55)).alloc (.cells #[.int .i64 t1, .slice b1 m1 e1, .int .i64 t2, .slice b2 m2 e2, .int .i64 t3, .slice b3 m3 e3, .int .i64 t4, .slice b4 m4 e4, .int .i64 t5, .slice b5 m5 e5, .int .i64 t6, .slice b6 m6 e6] 55)).cell? ⟨w.heap.size + 1, 6, none⟩ = some (.int .i64 t4) := by rw [HY0.out.cell 6]; rfl
  have y7 : ((w.alloc (.cells #[.int .i64 s1, .slice a1 n1 c1, .int .i64 s2, .slice a2 n2 c2, .int .i64 s3, .slice a3 n3 c3, .int .i64 s4, .slice a4 n4 c4, .int .i64 s5, .slice a5 n5 c5, .int .i64 s6, .slice a6 n6 c6] 55)).alloc (.cells #[.int .i64 t1, .slice b1 m1 e1, .int .i64 t2, .slice b2 m2 e2, .int .i64 t3, .slice b3 m3 e3, .int .i64 t4, .slice b4 m4 e4, .int .i64 t5, .slice b5 m5 e5, .int .i64 t6, .slice b6 m6 e6] 55)).cell? ⟨w.heap.size + 1, 7, none⟩ = some (.slice b4 m4 e4) := by rw [HY0.out.cell 7]; rfl
  have y8 : ((w.alloc (.cells #[.int .i64 s1, .slice a1 n1 c1, .int .i64 s2, .slice a2 n2 c2, .int .i64 s3, .slice a3 n3 c3, .int .i64 s4, .slice a4 n4 c4, .int .i64 s5, .slice a5 n5 c5, .int .i64 s6, .slice a6 n6 c6] 55)).alloc (.cells #[.int .i64 t1, .slice b1 m1 e1, .int .i64 t2, .slice b2 m2 e2, .int .i64 t3, .slice b3 m3 e3, .int .i64 t4, .slice b4 m4 e4, .int .i64 t5, .slice b5 m5 e5, .int .i64 t6, .slice b6 m6 e6] 55)).cell? ⟨w.heap.size + 1, 8, none⟩ = some (.int .i64 t5) := by rw [HY0.out.cell 8]; rfl
  have y9 : ((w.alloc (.cells #[.int .i64 s1, .slice a1 n1 c1, .int .i64 s2, .slice a2 n2 c2, .int .i64 s3, .slice a3 n3 c3, .int .i64 s4, .slice a4 n4 c4, .int .i64 s5, .slice a5 n5 c5, .int .i64 s6, .slice a6 n6 c6] 55)).alloc (.cells #[.int .i64 t1, .slice b1 m1 e1, .int .i64 t2, .slice b2 m2 e2, .int .i64 t3, .slice b3 m3 e3, .int .i64 t4, .slice b4 m4 e4, .int .i64 t5, .slice b5 m5 e5, .int .i64 t6, .slice b6 m6 e6] 55)).cell? ⟨w.heap.size + 1, 9, none⟩ = some (.slice b5 m5 e5) := by rw [HY0.out.cell 9]; rfl
  have y10 : ((w.alloc (.cells #[.int .i64 s1, .slice a1 n1 c1, .int .i64 s2, .slice a2 n2 c2, .int .i64 s3, .slice a3 n3 c3, .int .i64 s4, .slice a4 n4 c4, .int .i64 s5, .slice a5 n5 c5, .int .i64 s6, .slice a6 n6 c6] 55)).alloc (.cells #[.int .i64 t1, .slice b1 m1 e1, .int .i64 t2, .slice b2 m2 e2, .int .i64 t3, .slice b3 m3 e3, .int .i64 t4, .slice b4 m4 e4, .int .i64 t5, .slice b5 m5 e5, .int .i64 t6, .slice b6 m6 e6] 55)).cell? ⟨w.heap.size + 1, 10, none⟩ = some (.int .i64 t6) := by rw [HY0.out.cell 10]; rfl
  have y11 : ((w.alloc (.cells #[.int .i64 s1, .slice a1 n1 c1, .int .i64 s2, .slice a2 n2 c2, .int .i64 s3, .slice a3 n3 c3, .int .i64 s4, .slice a4 n4 c4, .int .i64 s5, .slice a5 n5 c5, .int .i64 s6, .slice a6 n6 c6] 55)).alloc (.cells #[.int .i64 t1, .slice b1 m1 e1, .int .i64 t2, .slice b2 m2 e2, .int .i64 t3, .slice b3 m3 e3, .int .i64 t4, .slice b4 m4 e4, .int .i64 t5, .slice b5 m5 e5, .int .i64 t6, .slice b6 m6 e6] 55)).cell? ⟨w.heap.size + 1, 11, none⟩ = some (.slice b6 m6 e6) := by rw [HY0.out.cell 11]; rfl
  go_enter Try.func11, Try.ntmps11
  go_wp2_with fail
  refine (beyond_lit p q d false #[.int .i64 s1, .slice a1 n1 c1, .int .i64 s2, .slice a2 n2 c2, .int .i64 s3, .slice a3 n3 c3, .int .i64 s4, .slice a4 n4 c4, .int .i64 s5, .slice a5 n5 c5, .int .i64 s6, .slice a6 n6 c6] #[.int .i64 t1, .slice b1 m1 e1, .int .i64 t2, .slice b2 m2 e2, .int .i64 t3, .slice b3 m3 e3, .int .i64 t4, .slice b4 m4 e4, .int .i64 t5, .slice b5 m5 e5, .int .i64 t6, .slice b6 m6 e6] _ (gc_keep (kk_below HG0.out) _ _ HS.out) (gc_keep (kk_below HG0.out) _ _ HT.out) HP.out HQ.out HD.out).mono ?_
  rintro e w1 ⟨r0, rfl, hr0, hg0⟩
  have HR0 := Lib.hid hr0
  have HG1 : Hid (Below w.heap.size w w1) := Lib.hid (HG0.out.trans (hg0.mono HG0.out.size))
  have HX1 := Lib.hid (HX0.out.still (grown_of_below hg0 none))
  have HY1 := Lib.hid (HY0.out.still (grown_of_below hg0 none))
  clear hr0 hg0 HG0 HX0 HY0 x0 y0 x1 y1 x2 y2 x3 y3 x4 y4 x5 y5 x6 y6 x7 y7 x8 y8 x9 y9 x10 y10 x11 y11
  have x0 : w1.cell? ⟨w.heap.size, 0, none⟩ = some (.int .i64 s1) := by rw [HX1.out.cell 0]; rfl
  have x1 : w1.cell? ⟨w.heap.size, 1, none⟩ = some (.slice a1 n1 c1) := by rw [HX1.out.cell 1]; rfl
  have x2 : w1.cell? ⟨w.heap.size, 2, none⟩ = some (.int .i64 s2) := by rw [HX1.out.cell 2]; rfl
  have x3 : w1.cell? ⟨w.heap.size, 3, none⟩ = some (.slice a2 n2 c2) := by rw [HX1.out.cell 3]; rfl
  have x4 : w1.cell? ⟨w.heap.size, 4, none⟩ = some (.int .i64 s3) := by rw [HX1.out.cell 4]; rfl
  have x5 : w1.cell? ⟨w.heap.size, 5, none⟩ = some (.slice a3 n3 c3) := by rw [HX1.out.cell 5]; rfl
  have x6 : w1.cell? ⟨w.heap.size, 6, none⟩ = some (.int .i64 s4) := by rw [HX1.out.cell 6]; rfl
  have x7 : w1.cell? ⟨w.heap.size, 7, none⟩ = some (.slice a4 n4 c4) := by rw [HX1.out.cell 7]; rfl
  have x8 : w1.cell? ⟨w.heap.size, 8, none⟩ = some (.int .i64 s5) := by rw [HX1.out.cell 8]; rfl
  have x9 : w1.cell? ⟨w.heap.size, 9, none⟩ = some (.slice a5 n5 c5) := by rw [HX1.out.cell 9]; rfl
  have x10 : w1.cell? ⟨w.heap.size, 10, none⟩ = some (.int .i64 s6) := by rw [HX1.out.cell 10]; rfl
  have x11 : w1.cell? ⟨w.heap.size, 11, none⟩ = some (.slice a6 n6 c6) := by rw [HX1.out.cell 11]; rfl
  have y0 : w1.cell? ⟨w.heap.size + 1, 0, none⟩ = some (.int .i64 t1) := by rw [HY1.out.cell 0]; rfl
  have y1 : w1.cell? ⟨w.heap.size + 1, 1, none⟩ = some (.slice b1 m1 e1) := by rw [HY1.out.cell 1]; rfl
  have y2 : w1.cell? ⟨w.heap.size + 1, 2, none⟩ = some (.int .i64 t2) := by rw [HY1.out.cell 2]; rfl
  have y3 : w1.cell? ⟨w.heap.size + 1, 3, none⟩ = some (.slice b2 m2 e2) := by rw [HY1.out.cell 3]; rfl
  have y4 : w1.cell? ⟨w.heap.size + 1, 4, none⟩ = some (.int .i64 t3) := by rw [HY1.out.cell 4]; rfl
  have y5 : w1.cell? ⟨w.heap.size + 1, 5, none⟩ = some (.slice b3 m3 e3) := by rw [HY1.out.cell 5]; rfl
  have y6 : w1.cell? ⟨w.heap.size + 1, 6, none⟩ = some (.int .i64 t4) := by rw [HY1.out.cell 6]; rfl
  have y7 : w1.cell? ⟨w.heap.size + 1, 7, none⟩ = some (.slice b4 m4 e4) := by rw [HY1.out.cell 7]; rfl
  have y8 : w1.cell? ⟨w.heap.size + 1, 8, none⟩ = some (.int .i64 t5) := by rw [HY1.out.cell 8]; rfl
  have y9 : w1.cell? ⟨w.heap.size + 1, 9, none⟩ = some (.slice b5 m5 e5) := by rw [HY1.out.cell 9]; rfl
  have y10 : w1.cell? ⟨w.heap.size + 1, 10, none⟩ = some (.int .i64 t6) := by rw [HY1.out.cell 10]; rfl
  have y11 : w1.cell? ⟨w.heap.size + 1, 11, none⟩ = some (.slice b6 m6 e6) := by rw [HY1.out.cell 11]; rfl
  cases r0 with
  | true =>
    have HE : Hid (false = nearB (sgOf p) (sgOf q) (d : Rat)) := by
      refine Lib.hid ?_
      have h := near_far p q d
      have k0 := HR0.out
      revert h
      cases nearB (sgOf p) (sgOf q) (d : Rat) <;> simp_all
    go_wp2_with fail
    rw [← HE.out]
    go_ret
    exact ⟨rfl, HG1.out⟩
  | false =>
    go_wp2_with fail
    refine (beyond_lit q p d false #[.int .i64 t1, .slice b1 m1 e1, .int .i64 t2, .slice b2 m2 e2, .int .i64 t3, .slice b3 m3 e3, .int .i64 t4, .slice b4 m4 e4, .int .i64 t5, .slice b5 m5 e5, .int .i64 t6, .slice b6 m6 e6] #[.int .i64 s1, .slice a1 n1 c1, .int .i64 s2, .slice a2 n2 c2, .int .i64 s3, .slice a3 n3 c3, .int .i64 s4, .slice a4 n4 c4, .int .i64 s5, .slice a5 n5 c5, .int .i64 s6, .slice a6 n6 c6] _ (gc_keep (kk_below HG1.out) _ _ HT.out) (gc_keep (kk_below HG1.out) _ _ HS.out) HQ.out HP.out HD.out).mono ?_
    rintro e w2 ⟨r1, rfl, hr1, hg1⟩
    have HR1 := Lib.hid hr1
    have HG2 : Hid (Below w.heap.size w w2) := Lib.hid (HG1.out.trans (hg1.mono HG1.out.size))
    have HX2 := Lib.hid (HX1.out.still (grown_of_below hg1 none))
    have HY2 := Lib.hid (HY1.out.still (grown_of_below hg1 none))
    clear hr1 hg1 HG1 HX1 HY1 x0 y0 x1 y1 x2 y2 x3 y3 x4 y4 x5 y5 x6 y6 x7 y7 x8 y8 x9 y9 x10 y10 x11 y11
    have x0 : w2.cell? ⟨w.heap.size, 0, none⟩ = some (.int .i64 s1) := by rw [HX2.out.cell 0]; rfl
    have x1 : w2.cell? ⟨w.heap.size, 1, none⟩ = some (.slice a1 n1 c1) := by rw [HX2.out.cell 1]; rfl
    have x2 : w2.cell? ⟨w.heap.size, 2, none⟩ = some (.int .i64 s2) := by rw [HX2.out.cell 2]; rfl
    have x3 : w2.cell? ⟨w.heap.size, 3, none⟩ = some (.slice a2 n2 c2) := by rw [HX2.out.cell 3]; rfl
    have x4 : w2.cell? ⟨w.heap.size, 4, none⟩ = some (.int .i64 s3) := by rw [HX2.out.cell 4]; rfl
    have x5 : w2.cell? ⟨w.heap.size, 5, none⟩ = some (.slice a3 n3 c3) := by rw [HX2.out.cell 5]; rfl
    have x6 : w2.cell? ⟨w.heap.size, 6, none⟩ = some (.int .i64 s4) := by rw [HX2.out.cell 6]; rfl
    have x7 : w2.cell? ⟨w.heap.size, 7, none⟩ = some (.slice a4 n4 c4) := by rw [HX2.out.cell 7]; rfl
    have x8 : w2.cell? ⟨w.heap.size, 8, none⟩ = some (.int .i64 s5) := by rw [HX2.out.cell 8]; rfl
    have x9 : w2.cell? ⟨w.heap.size, 9, none⟩ = some (.slice a5 n5 c5) := by rw [HX2.out.cell 9]; rfl
    have x10 : w2.cell? ⟨w.heap.size, 10, none⟩ = some (.int .i64 s6) := by rw [HX2.out.cell 10]; rfl
    have x11 : w2.cell? ⟨w.heap.size, 11, none⟩ = some (.slice a6 n6 c6) := by rw [HX2.out.cell 11]; rfl
    have y0 : w2.cell? ⟨w.heap.size + 1, 0, none⟩ = some (.int .i64 t1) := by rw [HY2.out.cell 0]; rfl
    have y1 : w2.cell? ⟨w.heap.size + 1, 1, none⟩ = some (.slice b1 m1 e1) := by rw [HY2.out.cell 1]; rfl
    have y2 : w2.cell? ⟨w.heap.size + 1, 2, none⟩ = some (.int .i64 t2) := by rw [HY2.out.cell 2]; rfl
    have y3 : w2.cell? ⟨w.heap.size + 1, 3, none⟩ = some (.slice b2 m2 e2) := by rw [HY2.out.cell 3]; rfl
    have y4 : w2.cell? ⟨w.heap.size + 1, 4, none⟩ = some (.int .i64 t3) := by rw [HY2.out.cell 4]; rfl
    have y5 : w2.cell? ⟨w.heap.size + 1, 5, none⟩ = some (.slice b3 m3 e3) := by rw [HY2.out.cell 5]; rfl
    have y6 : w2.cell? ⟨w.heap.size + 1, 6, none⟩ = some (.int .i64 t4) := by rw [HY2.out.cell 6]; rfl
    have y7 : w2.cell? ⟨w.heap.size + 1, 7, none⟩ = some (.slice b4 m4 e4) := by rw [HY2.out.cell 7]; rfl
    have y8 : w2.cell? ⟨w.heap.size + 1, 8, none⟩ = some (.int .i64 t5) := by rw [HY2.out.cell 8]; rfl
    have y9 : w2.cell? ⟨w.heap.size + 1, 9, none⟩ = some (.slice b5 m5 e5) := by rw [HY2.out.cell 9]; rfl
    have y10 : w2.cell? ⟨w.heap.size + 1, 10, none⟩ = some (.int .i64 t6) := by rw [HY2.out.cell 10]; rfl
    have y11 : w2.cell? ⟨w.heap.size + 1, 11, none⟩ = some (.slice b6 m6 e6) := by rw [HY2.out.cell 11]; rfl
    cases r1 with
    | true =>
      have HE : Hid (false = nearB (sgOf p) (sgOf q) (d : Rat)) := by
        refine Lib.hid ?_
        have h := near_far p q d
        have k0 := HR0.out
        have k1 := HR1.out
        revert h
        cases nearB (sgOf p) (sgOf q) (d : Rat) <;> simp_all
      go_wp2_with fail
      rw [← HE.out]
      go_ret
      exact ⟨rfl, HG2.out⟩
    | false =>
      go_wp2_with fail
      refine (beyond_lit p q d true #[.int .i64 s1, .slice a1 n1 c1, .int .i64 s2, .slice a2 n2 c2, .int .i64 s3, .slice a3 n3 c3, .int .i64 s4, .slice a4 n4 c4, .int .i64 s5, .slice a5 n5 c5, .int .i64 s6, .slice a6 n6 c6] #[.int .i64 t1, .slice b1 m1 e1, .int .i64 t2, .slice b2 m2 e2, .int .i64 t3, .slice b3 m3 e3, .int .i64 t4, .slice b4 m4 e4, .int .i64 t5, .slice b5 m5 e5, .int .i64 t6, .slice b6 m6 e6] _ (gc_keep (kk_below HG2.out) _ _ HS.out) (gc_keep (kk_below HG2.out) _ _ HT.out) HP.out HQ.out HD.out).mono ?_
      rintro e w3 ⟨r2, rfl, hr2, hg2⟩
      have HR2 := Lib.hid hr2
      have HG3 : Hid (Below w.heap.size w w3) := Lib.hid (HG2.out.trans (hg2.mono HG2.out.size))
      have HX3 := Lib.hid (HX2.out.still (grown_of_below hg2 none))
      have HY3 := Lib.hid (HY2.out.still (grown_of_below hg2 none))
      clear hr2 hg2 HG2 HX2 HY2 x0 y0 x1 y1 x2 y2 x3 y3 x4 y4 x5 y5 x6 y6 x7 y7 x8 y8 x9 y9 x10 y10 x11 y11
      have x0 : w3.cell? ⟨w.heap.size, 0, none⟩ = some (.int .i64 s1) := by rw [HX3.out.cell 0]; rfl
      have x1 : w3.cell? ⟨w.heap.size, 1, none⟩ = some (.slice a1 n1 c1) := by rw [HX3.out.cell 1]; rfl
      have x2 : w3.cell? ⟨w.heap.size, 2, none⟩ = some (.int .i64 s2) := by rw [HX3.out.cell 2]; rfl
      have x3 : w3.cell? ⟨w.heap.size, 3, none⟩ = some (.slice a2 n2 c2) := by rw [HX3.out.cell 3]; rfl
      have x4 : w3.cell? ⟨w.heap.size, 4, none⟩ = some (.int .i64 s3) := by rw [HX3.out.cell 4]; rfl
      have x5 : w3.cell? ⟨w.heap.size, 5, none⟩ = some (.slice a3 n3 c3) := by rw [HX3.out.cell 5]; rfl
      have x6 : w3.cell? ⟨w.heap.size, 6, none⟩ = some (.int .i64 s4) := by rw [HX3.out.cell 6]; rfl
      have x7 : w3.cell? ⟨w.heap.size, 7, none⟩ = some (.slice a4 n4 c4) := by rw [HX3.out.cell 7]; rfl
      have x8 : w3.cell? ⟨w.heap.size, 8, none⟩ = some (.int .i64 s5) := by rw [HX3.out.cell 8]; rfl
      have x9 : w3.cell? ⟨w.heap.size, 9, none⟩ = some (.slice a5 n5 c5) := by rw [HX3.out.cell 9]; rfl
      have x10 : w3.cell? ⟨w.heap.size, 10, none⟩ = some (.int .i64 s6) := by rw [HX3.out.cell 10]; rfl
      have x11 : w3.cell? ⟨w.heap.size, 11, none⟩ = some (.slice a6 n6 c6) := by rw [HX3.out.cell 11]; rfl
      have y0 : w3.cell? ⟨w.heap.size + 1, 0, none⟩ = some (.int .i64 t1) := by rw [HY3.out.cell 0]; rfl
      have y1 : w3.cell? ⟨w.heap.size + 1, 1, none⟩ = some (.slice b1 m1 e1) := by rw [HY3.out.cell 1]; rfl
      have y2 : w3.cell? ⟨w.heap.size + 1, 2, none⟩ = some (.int .i64 t2) := by rw [HY3.out.cell 2]; rfl
      have y3 : w3.cell? ⟨w.heap.size + 1, 3, none⟩ = some (.slice b2 m2 e2) := by rw [HY3.out.cell 3]; rfl
      have y4 : w3.cell? ⟨w.heap.size + 1, 4, none⟩ = some (.int .i64 t3) := by rw [HY3.out.cell 4]; rfl
      have y5 : w3.cell? ⟨w.heap.size + 1, 5, none⟩ = some (.slice b3 m3 e3) := by rw [HY3.out.cell 5]; rfl
      have y6 : w3.cell? ⟨w.heap.size + 1, 6, none⟩ = some (.int .i64 t4) := by rw [HY3.out.cell 6]; rfl
      have y7 : w3.cell? ⟨w.heap.size + 1, 7, none⟩ = some (.slice b4 m4 e4) := by rw [HY3.out.cell 7]; rfl
      have y8 : w3.cell? ⟨w.heap.size + 1, 8, none⟩ = some (.int .i64 t5) := by rw [HY3.out.cell 8]; rfl
      have y9 : w3.cell? ⟨w.heap.size + 1, 9, none⟩ = some (.slice b5 m5 e5) := by rw [HY3.out.cell 9]; rfl
      have y10 : w3.cell? ⟨w.heap.size + 1, 10, none⟩ = some (.int .i64 t6) := by rw [HY3.out.cell 10]; rfl
      have y11 : w3.cell? ⟨w.heap.size + 1, 11, none⟩ = some (.slice b6 m6 e6) := by rw [HY3.out.cell 11]; rfl
      cases r2 with
      | true =>
        have HE : Hid (false = nearB (sgOf p) (sgOf q) (d : Rat)) := by
          refine Lib.hid ?_
          have h := near_far p q d
          have k0 := HR0.out
          have k1 := HR1.out
          have k2 := HR2.out
          revert h
          cases nearB (sgOf p) (sgOf q) (d : Rat) <;> simp_all
        go_wp2_with fail
        rw [← HE.out]
        go_ret
        exact ⟨rfl, HG3.out⟩
      | false =>
        go_wp2_with fail
        refine (beyond_lit q p d true #[.int .i64 t1, .slice b1 m1 e1, .int .i64 t2, .slice b2 m2 e2, .int .i64 t3, .slice b3 m3 e3, .int .i64 t4, .slice b4 m4 e4, .int .i64 t5, .slice b5 m5 e5, .int .i64 t6, .slice b6 m6 e6] #[.int .i64 s1, .slice a1 n1 c1, .int .i64 s2, .slice a2 n2 c2, .int .i64 s3, .slice a3 n3 c3, .int .i64 s4, .slice a4 n4 c4, .int .i64 s5, .slice a5 n5 c5, .int .i64 s6, .slice a6 n6 c6] _ (gc_keep (kk_below HG3.out) _ _ HT.out) (gc_keep (kk_below HG3.out) _ _ HS.out) HQ.out HP.out HD.out).mono ?_
        rintro e w4 ⟨r3, rfl, hr3, hg3⟩
        have HR3 := Lib.hid hr3
        have HG4 : Hid (Below w.heap.size w w4) := Lib.hid (HG3.out.trans (hg3.mono HG3.out.size))
        have HX4 := Lib.hid (HX3.out.still (grown_of_below hg3 none))
        have HY4 := Lib.hid (HY3.out.still (grown_of_below hg3 none))
        clear hr3 hg3 HG3 HX3 HY3 x0 y0 x1 y1 x2 y2 x3 y3 x4 y4 x5 y5 x6 y6 x7 y7 x8 y8 x9 y9 x10 y10 x11 y11
        have x0 : w4.cell? ⟨w.heap.size, 0, none⟩ = some (.int .i64 s1) := by rw [HX4.out.cell 0]; rfl
        have x1 : w4.cell? ⟨w.heap.size, 1, none⟩ = some (.slice a1 n1 c1) := by rw [HX4.out.cell 1]; rfl
        have x2 : w4.cell? ⟨w.heap.size, 2, none⟩ = some (.int .i64 s2) := by rw [HX4.out.cell 2]; rfl
        have x3 : w4.cell? ⟨w.heap.size, 3, none⟩ = some (.slice a2 n2 c2) := by rw [HX4.out.cell 3]; rfl
        have x4 : w4.cell? ⟨w.heap.size, 4, none⟩ = some (.int .i64 s3) := by rw [HX4.out.cell 4]; rfl
        have x5 : w4.cell? ⟨w.heap.size, 5, none⟩ = some (.slice a3 n3 c3) := by rw [HX4.out.cell 5]; rfl
        have x6 : w4.cell? ⟨w.heap.size, 6, none⟩ = some (.int .i64 s4) := by rw [HX4.out.cell 6]; rfl
        have x7 : w4.cell? ⟨w.heap.size, 7, none⟩ = some (.slice a4 n4 c4) := by rw [HX4.out.cell 7]; rfl
        have x8 : w4.cell? ⟨w.heap.size, 8, none⟩ = some (.int .i64 s5) := by rw [HX4.out.cell 8]; rfl
        have x9 : w4.cell? ⟨w.heap.size, 9, none⟩ = some (.slice a5 n5 c5) := by rw [HX4.out.cell 9]; rfl
        have x10 : w4.cell? ⟨w.heap.size, 10, none⟩ = some (.int .i64 s6) := by rw [HX4.out.cell 10]; rfl
        have x11 : w4.cell? ⟨w.heap.size, 11, none⟩ = some (.slice a6 n6 c6) := by rw [HX4.out.cell 11]; rfl
        have y0 : w4.cell? ⟨w.heap.size + 1, 0, none⟩ = some (.int .i64 t1) := by rw [HY4.out.cell 0]; rfl
        have y1 : w4.cell? ⟨w.heap.size + 1, 1, none⟩ = some (.slice b1 m1 e1) := by rw [HY4.out.cell 1]; rfl
        have y2 : w4.cell? ⟨w.heap.size + 1, 2, none⟩ = some (.int .i64 t2) := by rw [HY4.out.cell 2]; rfl
        have y3 : w4.cell? ⟨w.heap.size + 1, 3, none⟩ = some (.slice b2 m2 e2) := by rw [HY4.out.cell 3]; rfl
        have y4 : w4.cell? ⟨w.heap.size + 1, 4, none⟩ = some (.int .i64 t3) := by rw [HY4.out.cell 4]; rfl
        have y5 : w4.cell? ⟨w.heap.size + 1, 5, none⟩ = some (.slice b3 m3 e3) := by rw [HY4.out.cell 5]; rfl
        have y6 : w4.cell? ⟨w.heap.size + 1, 6, none⟩ = some (.int .i64 t4) := by rw [HY4.out.cell 6]; rfl
        have y7 : w4.cell? ⟨w.heap.size + 1, 7, none⟩ = some (.slice b4 m4 e4) := by rw [HY4.out.cell 7]; rfl
        have y8 : w4.cell? ⟨w.heap.size + 1, 8, none⟩ = some (.int .i64 t5) := by rw [HY4.out.cell 8]; rfl
        have y9 : w4.cell? ⟨w.heap.size + 1, 9, none⟩ = some (.slice b5 m5 e5) := by rw [HY4.out.cell 9]; rfl
        have y10 : w4.cell? ⟨w.heap.size + 1, 10, none⟩ = some (.int .i64 t6) := by rw [HY4.out.cell 10]; rfl
        have y11 : w4.cell? ⟨w.heap.size + 1, 11, none⟩ = some (.slice b6 m6 e6) := by rw [HY4.out.cell 11]; rfl
        cases r3 with
        | true =>
          have HE : Hid (false = nearB (sgOf p) (sgOf q) (d : Rat)) := by
            refine Lib.hid ?_
            have h := near_far p q d
            have k0 := HR0.out
            have k1 := HR1.out
            have k2 := HR2.out
            have k3 := HR3.out
            revert h
            cases nearB (sgOf p) (sgOf q) (d : Rat) <;> simp_all
          go_wp2_with fail
          rw [← HE.out]
          go_ret
          exact ⟨rfl, HG4.out⟩
        | false =>
          have HE : Hid (true = nearB (sgOf p) (sgOf q) (d : Rat)) := by
            refine Lib.hid ?_
            have h := near_far p q d
            have k0 := HR0.out
            have k1 := HR1.out
            have k2 := HR2.out
            have k3 := HR3.out
            revert h
            cases nearB (sgOf p) (sgOf q) (d : Rat) <;> simp_all
          go_wp2_with fail
          rw [← HE.out]
          go_ret
          exact ⟨rfl, HG4.out⟩
end Go.Proofs.Ytnojfiokdhcbjaa
