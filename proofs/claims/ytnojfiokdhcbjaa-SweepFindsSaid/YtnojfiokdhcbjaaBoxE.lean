/-
  sweep.boxes: the walk. (Printed by gen_boxes.py.)
-/
import Derived.Test.YtnojfiokdhcbjaaBxD
namespace Go.Proofs.Ytnojfiokdhcbjaa
open Go Go.RowKit Go.Lib
def SegRow (w : World) (g : Nat) (l : List Sg) : Prop := g < w.heap.size ∧ ∀ i s, l[i]? = some s → ∃ v : SV, (∀ j c, v.cells[j]? = some c → w.cell? ⟨g, i * 16 + j, none⟩ = some c) ∧ v.ok w s
theorem SegRow.still {w w' : World} {g : Nat} {l : List Sg} (h : SegRow w g l) (hb : Below w.heap.size w w') : SegRow w' g l := by
 obtain ⟨h1, h2⟩ := h
 refine ⟨Nat.lt_of_lt_of_le h1 hb.size, fun i s hs => ?_⟩
 obtain ⟨v, k1, k2⟩ := h2 i s hs
 exact ⟨v, fun j c hj => (World.cell?_of_block (a := ⟨g, _, none⟩) (hb.block g h1)).trans (k1 j c hj), k2.keep (keep_below hb)⟩
structure BxRel (w : World) (ss : List Sg) (dl : Rat) (u : RV) (second : Bool) (i : Nat) (rowv : Value) (ys : List PB) (wr : World) : Prop where
 len : ys.length = i
 at' : ∀ j y, ys[j]? = some y → ∃ s, ss[j]? = some s ∧ y.2 = boxS s dl j second ∧ y.1.ok wr y.2
 row : wr.ownsRow w.heap.size 72 18 rowv i (ys.flatMap PB.enc)
 b : Below w.heap.size w wr
 byb : BlkC 30 wr w.heap.size u.cells
 nil : i = 0 → rowv = .slice none 0 0
theorem row_ne_type {w : World} {B : Nat} {v : Value} {n g : Nat} {xs : List Value} {T : TypeId} {cs : List Value} (h : w.ownsRow B 72 18 v n xs) (hB : BlkC T w g cs) (hT : T ≠ 72) : some g ≠ v.ownBlock := by
 intro e
 obtain ⟨_, ⟨rfl, _⟩ | ⟨g', cap, cur, rfl, _, hh, _⟩⟩ := h
 ·cases e
 ·cases e
  unfold BlkC at hB
  rw [hh] at hB
  injection hB with hB
  injection hB with _ hB
  exact hT hB.symm
theorem BxRel.next {w : World} {ss : List Sg} {dl : Rat} {u : RV} {second : Bool} {i : Nat} {rowv v' : Value} {ys : List PB} {wr W : World} {s : Sg} {bv : BV} (h : BxRel w ss dl u second i rowv ys wr) (hs : ss[i]? = some s) (ho : W.ownsRow w.heap.size 72 18 v' (i + 1) (ys.flatMap PB.enc ++ bv.cells)) (hok : bv.ok W (boxS s dl i second)) (hk : Keep wr W) (hb : Below w.heap.size w W) (h4 : BlkC 30 W w.heap.size u.cells) :
  ∃ ys', BxRel w ss dl u second (i + 1) v' ys' W := by
 refine ⟨ys ++ [(bv, boxS s dl i second)], by rw [List.length_append, h.len]; rfl, fun j y hy => ?_, by rw [List.flatMap_append]; simpa [PB.enc] using ho, hb, h4, fun e => absurd e (Nat.succ_ne_zero i)⟩
 rcases Nat.lt_or_ge j ys.length with hj | hj
 ·rw [List.getElem?_append_left hj] at hy
  obtain ⟨t, k1, k2, k3⟩ := h.at' j y hy
  exact ⟨t, k1, k2, k3.keep hk⟩
 ·rw [List.getElem?_append_right hj] at hy
  have e : j = i := by
   have := (List.getElem?_eq_some_iff.1 hy).1
   have := h.len
   simp at *
   omega
  subst e
  rw [h.len, Nat.sub_self] at hy
  cases hy
  exact ⟨s, hs, rfl, hok⟩
set_option maxHeartbeats 16000000 in
set_option maxRecDepth 100000 in
theorem boxes_any (ss : List Sg) (g c : Nat) (u : RV) (dl : Rat) (second : Bool) (w : World) (hr : SegRow w g ss) (hn : ss.length ≤ 30000) (hsl : ∀ s, s ∈ ss → SgL s) (hu : u.ok w dl) (hul : rlen dl ≤ 1000) :
  Calls Try.prog 17 #[.slice (some ⟨g, 0, none⟩) ss.length c, .agg u.cells.toArray, .bool second] w fun e w' => ∃ v, e = .returned v ∧ ∃ ys, BxRel w ss dl u second ss.length v ys w' := by
 obtain ⟨n, hnn⟩ : ∃ n, ss.length = n := ⟨_, rfl⟩
 have HN := Lib.hid hnn
 rw [hnn] at hn ⊢
 have HB4 : Hid (BlkC 30 (w.alloc (.cells u.cells.toArray 30)) w.heap.size u.cells) := BlkC.new _ w u.cells
 have HG : Hid (Below w.heap.size w (w.alloc (.cells u.cells.toArray 30))) := (own_alloc _ _).b
 have HR0 : Hid (BxRel w ss dl u second 0 (.slice none 0 0) [] (w.alloc (.cells u.cells.toArray 30))) := ⟨rfl, by simp, World.ownsRow_nil _ _ _ _, HG.out, HB4.out, fun _ => rfl⟩
 have HSR := Lib.hid hr
 have HSL := Lib.hid hsl
 have HUU := Lib.hid hu
 have HUL := Lib.hid hul
 obtain ⟨ib, hib, hib1, hib2⟩ : ∃ ib, Try.prog.info? 72 = some ib ∧ ib.size = 18 ∧ ib.bytes = 272 := by
  have h := boxInfo
  cases hi : Try.prog.info? 72 with
  | none => rw [hi] at h; cases h
  | some ib => rw [hi] at h; simp only [Option.map_some, Option.some.injEq, Prod.mk.injEq] at h; exact ⟨ib, rfl, h.1, h.2⟩
 have hib0 : ib.zero = some (.agg #[.slice none 0 0, .bool false, .slice none 0 0, .bool false, .slice none 0 0, .bool false, .slice none 0 0, .bool false, .slice none 0 0, .bool false, .slice none 0 0, .bool false, .slice none 0 0, .bool false, .slice none 0 0, .bool false, .int .i64 0, .bool false]) := by
  have h : (Try.prog.info? 72).bind (·.zero) = some (.agg #[.slice none 0 0, .bool false, .slice none 0 0, .bool false, .slice none 0 0, .bool false, .slice none 0 0, .bool false, .slice none 0 0, .bool false, .slice none 0 0, .bool false, .slice none 0 0, .bool false, .slice none 0 0, .bool false, .int .i64 0, .bool false]) := by kernel_rfl
  rw [hib] at h
  exact h
 clear hnn hr hsl hu hul HB4 HG
 go_enter Try.func17, Try.ntmps17
 go_wp2_with fail
 go_loopg [7, 12] n (fun k s7 s12 wr => ∃ (i : Nat), s12 = .int .i64 i ∧ i ≤ n ∧ n ≤ k + i ∧ ∃ rv ys, rv = s7 ∧ BxRel w ss dl u second i rv ys wr)
 case atStart => exact ⟨0, rfl, Nat.zero_le _, by omega, _, [], rfl, HR0.out⟩
 case round =>
  clear HR0
  obtain ⟨i, rfl, hin, hk, rowv, ys, rfl, hrel⟩ := hrel
  have HREL := Lib.hid hrel
  clear hrel
  by_cases hlt : i < n
  ·have hlz : (i : Int) < (n : Int) := by omega
   have ia0 : (0 : Int) ≤ (i : Int) := by omega
   have iat : ((i : Int)).toNat = i := by omega
   obtain ⟨s, hs⟩ : ∃ s, ss[i]? = some s := ⟨_, List.getElem?_eq_getElem (by rw [HN.out]; exact hlt)⟩
   obtain ⟨v, hvc, hvo⟩ := (HSR.out.still HREL.out.b).2 i s hs
   have x0 : wr.cell? ⟨g, i * 16, none⟩ = some (.slice v.ax.a v.ax.n v.ax.n) := hvc 0 _ rfl
   have x1 : wr.cell? ⟨g, i * 16 + 1, none⟩ = some (.bool v.ax.b) := hvc 1 _ rfl
   have x2 : wr.cell? ⟨g, i * 16 + 2, none⟩ = some (.slice v.ax.c v.ax.m v.ax.m) := hvc 2 _ rfl
   have x3 : wr.cell? ⟨g, i * 16 + 3, none⟩ = some (.bool v.ax.d) := hvc 3 _ rfl
   have x4 : wr.cell? ⟨g, i * 16 + 4, none⟩ = some (.slice v.ay.a v.ay.n v.ay.n) := hvc 4 _ rfl
   have x5 : wr.cell? ⟨g, i * 16 + 5, none⟩ = some (.bool v.ay.b) := hvc 5 _ rfl
   have x6 : wr.cell? ⟨g, i * 16 + 6, none⟩ = some (.slice v.ay.c v.ay.m v.ay.m) := hvc 6 _ rfl
   have x7 : wr.cell? ⟨g, i * 16 + 7, none⟩ = some (.bool v.ay.d) := hvc 7 _ rfl
   have x8 : wr.cell? ⟨g, i * 16 + 8, none⟩ = some (.slice v.cx.a v.cx.n v.cx.n) := hvc 8 _ rfl
   have x9 : wr.cell? ⟨g, i * 16 + 9, none⟩ = some (.bool v.cx.b) := hvc 9 _ rfl
   have x10 : wr.cell? ⟨g, i * 16 + 10, none⟩ = some (.slice v.cx.c v.cx.m v.cx.m) := hvc 10 _ rfl
   have x11 : wr.cell? ⟨g, i * 16 + 11, none⟩ = some (.bool v.cx.d) := hvc 11 _ rfl
   have x12 : wr.cell? ⟨g, i * 16 + 12, none⟩ = some (.slice v.cy.a v.cy.n v.cy.n) := hvc 12 _ rfl
   have x13 : wr.cell? ⟨g, i * 16 + 13, none⟩ = some (.bool v.cy.b) := hvc 13 _ rfl
   have x14 : wr.cell? ⟨g, i * 16 + 14, none⟩ = some (.slice v.cy.c v.cy.m v.cy.m) := hvc 14 _ rfl
   have x15 : wr.cell? ⟨g, i * 16 + 15, none⟩ = some (.bool v.cy.d) := hvc 15 _ rfl
   have HS := Lib.hid hs
   obtain ⟨w8, hw8⟩ : ∃ w8, w8 = wr.alloc (.cells #[.slice v.ax.a v.ax.n v.ax.n, .bool v.ax.b, .slice v.ax.c v.ax.m v.ax.m, .bool v.ax.d, .slice v.ay.a v.ay.n v.ay.n, .bool v.ay.b, .slice v.ay.c v.ay.m v.ay.m, .bool v.ay.d, .slice v.cx.a v.cx.n v.cx.n, .bool v.cx.b, .slice v.cx.c v.cx.m v.cx.m, .bool v.cx.d, .slice v.cy.a v.cy.n v.cy.n, .bool v.cy.b, .slice v.cy.c v.cy.m v.cy.m, .bool v.cy.d] 34) := ⟨_, rfl⟩
   have hb8 : Below wr.heap.size wr w8 := by rw [hw8]; exact (own_alloc _ _).b
   have hseg : BlkC 34 w8 wr.heap.size v.cells := by rw [hw8]; exact BlkC.new _ wr v.cells
   have hsz8 : w8.heap.size = wr.heap.size + 1 := by rw [hw8]; show (wr.heap.push _).size = _; rw [Array.size_push]
   have HK08 : Hid (Keep wr w8) := keep_below hb8
   have HSV : Hid (v.ok w8 s) := hvo.keep HK08.out
   have HU : Hid (u.ok w8 dl) := HUU.out.keep ((keep_below HREL.out.b).trans HK08.out)
   have HLN : Hid (SgL s) := HSL.out s (List.mem_of_getElem? hs)
   have HRL : Hid (RL4 (boxS s dl i second)) := boxS_len HLN.out HUL.out i second
   have hrow8 : w8.ownsRow w.heap.size 72 18 rowv i (ys.flatMap PB.enc) := owns_below HREL.out.row hb8
   have HRB : Hid (∀ k, rowv.ownBlock = some k → k < w8.heap.size) := fun k hk => (hrow8.lt k hk).2
   have HSEG := Lib.hid hseg
   have HBY8 : Hid (BlkC 30 w8 w.heap.size u.cells) := HREL.out.byb.still (grown_of_below hb8 none)
   have HROW8 := Lib.hid hrow8
   have HB8 : Hid (Below w.heap.size w w8) := HREL.out.b.trans (hb8.mono HREL.out.b.size)
   have HSN : Hid (some wr.heap.size ≠ rowv.ownBlock) := row_ne_type hrow8 hseg (by decide)
   have HBN : Hid (some w.heap.size ≠ rowv.ownBlock) := row_ne_type hrow8 HBY8.out (by decide)
   have HW8 := Lib.hid hw8
   clear hs hvc hvo hw8 hb8 hseg hrow8
   go_wp2_with fail
   rw [← HW8.out]
   refine region_row (B := w8.heap.size) (rb := rowv.ownBlock) HRB.out (s := fun | 0 => .is (rowv) | 1 => .is (.pointer (some ⟨wr.heap.size, 0, none⟩)) | 2 => .is (.pointer (some ⟨wr.heap.size, 0, none⟩)) | 3 => .q (s.ax) | 4 => .is (.pointer (some ⟨wr.heap.size, 8, none⟩)) | 5 => .is (.pointer (some ⟨wr.heap.size, 8, none⟩)) | 6 => .q (s.cx) | 7 => .sl ([s.ax, s.cx]) | 8 => .q (bestR (fun y o => decide (y < o)) [s.ax, s.cx]) | 9 => .q (dl) | 10 => .q (bestR (fun y o => decide (y < o)) [s.ax, s.cx] - dl) | 11 => .is (.pointer (some ⟨wr.heap.size, 0, none⟩)) | 12 => .is (.pointer (some ⟨wr.heap.size, 0, none⟩)) | 13 => .q (s.ax) | 14 => .is (.pointer (some ⟨wr.heap.size, 8, none⟩)) | 15 => .is (.pointer (some ⟨wr.heap.size, 8, none⟩)) | 16 => .q (s.cx) | 17 => .sl ([s.ax, s.cx]) | 18 => .q (bestR (fun y o => decide (o < y)) [s.ax, s.cx]) | 19 => .q (dl) | 20 => .q (bestR (fun y o => decide (o < y)) [s.ax, s.cx] + dl) | 21 => .is (.pointer (some ⟨wr.heap.size, 0, none⟩)) | 22 => .is (.pointer (some ⟨wr.heap.size, 4, none⟩)) | 23 => .q (s.ay) | 24 => .is (.pointer (some ⟨wr.heap.size, 8, none⟩)) | 25 => .is (.pointer (some ⟨wr.heap.size, 12, none⟩)) | 26 => .q (s.cy) | 27 => .sl ([s.ay, s.cy]) | 28 => .q (bestR (fun y o => decide (y < o)) [s.ay, s.cy]) | 29 => .q (dl) | 30 => .q (bestR (fun y o => decide (y < o)) [s.ay, s.cy] - dl) | 31 => .is (.pointer (some ⟨wr.heap.size, 0, none⟩)) | 32 => .is (.pointer (some ⟨wr.heap.size, 4, none⟩)) | 33 => .q (s.ay) | 34 => .is (.pointer (some ⟨wr.heap.size, 8, none⟩)) | 35 => .is (.pointer (some ⟨wr.heap.size, 12, none⟩)) | 36 => .q (s.cy) | 37 => .sl ([s.ay, s.cy]) | 38 => .q (bestR (fun y o => decide (o < y)) [s.ay, s.cy]) | 39 => .q (dl) | 40 => .q (bestR (fun y o => decide (o < y)) [s.ay, s.cy] + dl) | 41 => .is (.int .i64 (i : Int)) | 42 => .is (.bool second) | 43 => .bx (boxS s dl i second) | 44 => .slb (boxS s dl i second) | 45 => .any | 46 => .any | _ => .any) (J := BJ w8 w8 w rowv wr.heap.size w.heap.size i (ys.flatMap PB.enc) v u (boxS s dl i second)) (by kernel_rfl) (by kernel_rfl) rfl (fun f g a w hn h => BJ.ext hn h) ?_ ?_ ?_
   ·exact ⟨fun _ _ h => h, below_same HB8.out rfl rfl rfl rfl, Nat.le_refl _, HSEG.out, HBY8.out, HSN.out, HBN.out, fun _ => owns_below HROW8.out (below_same (Below.refl _ _) rfl rfl rfl rfl), (fun e => by cases e), (fun _ => rfl), (fun e => by cases e), (fun e => by cases e)⟩
   ·intro j o f A W hi hJ hf hdep hdn hcl hfr hsz
    rcases j with _ | _ | _ | _ | _ | _ | _ | _ | _ | _ | _ | _ | _ | _ | _ | _ | _ | _ | _ | _ | _ | _ | _ | _ | _ | _ | _ | _ | _ | _ | _ | _ | _ | _ | _ | _ | _ | _ | _ | _ | _ | _ | _ | _ | _ | _ | _ | j
    all_goals (simp at hi)
    all_goals (try subst hi)
    ·have h46 : f 46 = false := by
      cases h : f 46 with
      | false => rfl
      | true =>
       have h1 := hcl 46 _ 45 rfl h (by kernel_rfl)
       rw [hcl 45 _ 0 rfl h1 (by kernel_rfl)] at hf
       cases hf
     have t7 := hJ.old h46
     refine par_value (v := rowv) (w' := W) ?_ ⟨Keep.refl _, grown_refl _ _, hJ.same _ _ _ (by simp) (by simp), rfl⟩
     simp [go_sem, Act.eval, t7]
    ·have t9 := hfr 9 (by simp)
     refine par_value (v := .pointer (some ⟨wr.heap.size, 0, none⟩)) (w' := W) ?_ ⟨Keep.refl _, grown_refl _ _, hJ.same _ _ _ (by simp) (by simp), rfl⟩
     simp [go_sem, Act.eval, t9]
    ·have t18 : A.tmps.getD 18 undef = .pointer (some ⟨wr.heap.size, 0, none⟩) := hdep 1 _ 18 rfl (by kernel_rfl) rfl
     refine par_value (v := .pointer (some ⟨wr.heap.size, 0, none⟩)) (w' := W) ?_ ⟨Keep.refl _, grown_refl _ _, hJ.same _ _ _ (by simp) (by simp), rfl⟩
     simp [go_sem, Act.eval, t18]
    ·have t19 : A.tmps.getD 19 undef = .pointer (some ⟨wr.heap.size, 0, none⟩) := hdep 2 _ 19 rfl (by kernel_rfl) rfl
     have x0 : W.cell? ⟨wr.heap.size, 0, none⟩ = some (.slice v.ax.a v.ax.n v.ax.n) := by rw [hJ.seg.cell 0]; rfl
     have x1 : W.cell? ⟨wr.heap.size, 1, none⟩ = some (.bool v.ax.b) := by rw [hJ.seg.cell 1]; rfl
     have x2 : W.cell? ⟨wr.heap.size, 2, none⟩ = some (.slice v.ax.c v.ax.m v.ax.m) := by rw [hJ.seg.cell 2]; rfl
     have x3 : W.cell? ⟨wr.heap.size, 3, none⟩ = some (.bool v.ax.d) := by rw [hJ.seg.cell 3]; rfl
     refine par_value (v := .agg #[.slice v.ax.a v.ax.n v.ax.n, .bool v.ax.b, .slice v.ax.c v.ax.m v.ax.m, .bool v.ax.d]) (w' := W) ?_ ⟨Keep.refl _, grown_refl _ _, hJ.same _ _ _ (by simp) (by simp), (HSV.out.ax).1.keep hJ.k⟩
     simp [go_sem, Act.eval, t19, x0, x1, x2, x3]
    ·have t9 := hfr 9 (by simp)
     refine par_value (v := .pointer (some ⟨wr.heap.size, 8, none⟩)) (w' := W) ?_ ⟨Keep.refl _, grown_refl _ _, hJ.same _ _ _ (by simp) (by simp), rfl⟩
     simp [go_sem, Act.eval, t9]
    ·have t21 : A.tmps.getD 21 undef = .pointer (some ⟨wr.heap.size, 8, none⟩) := hdep 4 _ 21 rfl (by kernel_rfl) rfl
     refine par_value (v := .pointer (some ⟨wr.heap.size, 8, none⟩)) (w' := W) ?_ ⟨Keep.refl _, grown_refl _ _, hJ.same _ _ _ (by simp) (by simp), rfl⟩
     simp [go_sem, Act.eval, t21]
    ·have t22 : A.tmps.getD 22 undef = .pointer (some ⟨wr.heap.size, 8, none⟩) := hdep 5 _ 22 rfl (by kernel_rfl) rfl
     have x0 : W.cell? ⟨wr.heap.size, 8, none⟩ = some (.slice v.cx.a v.cx.n v.cx.n) := by rw [hJ.seg.cell 8]; rfl
     have x1 : W.cell? ⟨wr.heap.size, 9, none⟩ = some (.bool v.cx.b) := by rw [hJ.seg.cell 9]; rfl
     have x2 : W.cell? ⟨wr.heap.size, 10, none⟩ = some (.slice v.cx.c v.cx.m v.cx.m) := by rw [hJ.seg.cell 10]; rfl
     have x3 : W.cell? ⟨wr.heap.size, 11, none⟩ = some (.bool v.cx.d) := by rw [hJ.seg.cell 11]; rfl
     refine par_value (v := .agg #[.slice v.cx.a v.cx.n v.cx.n, .bool v.cx.b, .slice v.cx.c v.cx.m v.cx.m, .bool v.cx.d]) (w' := W) ?_ ⟨Keep.refl _, grown_refl _ _, hJ.same _ _ _ (by simp) (by simp), (HSV.out.cx).1.keep hJ.k⟩
     simp [go_sem, Act.eval, t22, x0, x1, x2, x3]
    ·have t20 : RIs W (A.tmps.getD 20 undef) (s.ax) := hdep 3 _ 20 rfl (by kernel_rfl) rfl
     have t23 : RIs W (A.tmps.getD 23 undef) (s.cx) := hdep 6 _ 23 rfl (by kernel_rfl) rfl
     obtain ⟨a0, n0, b0, c0, m0, d0, e0⟩ := t20.parts
     obtain ⟨a1, n1, b1, c1, m1, d1, e1⟩ := t23.parts
     have r0 := t20
     have r1 := t23
     rw [e0] at r0
     rw [e1] at r1
     refine par_value (v := .slice (some ⟨W.heap.size, 0, none⟩) 2 2) (w' := W.alloc (.cells #[.slice a0 n0 n0, .bool b0, .slice c0 m0 m0, .bool d0, .slice a1 n1 n1, .bool b1, .slice c1 m1 m1, .bool d1] 30)) ?_ ⟨keep_alloc _ _, grown_alloc _ _ _, hJ.gr (own_alloc _ _).b _ _ _ (by simp) (by simp), ⟨W.heap.size, rfl, hJ.sz, rrow_two r0 r1⟩⟩
     have g0 := (Array.getD_eq_getD_getElem? ..).symm.trans e0
     have g1' := (Array.getD_eq_getD_getElem? ..).symm.trans e1
     simp [go_sem, Act.eval, g0, g1']
    ·have t24 : ∃ g, A.tmps.getD 24 undef = .slice (some ⟨g, 0, none⟩) (List.length [s.ax, s.cx]) (List.length [s.ax, s.cx]) ∧ w8.heap.size ≤ g ∧ RRow W g [s.ax, s.cx] := hdep 7 _ 24 rfl (by kernel_rfl) rfl
     obtain ⟨g1, e1, l1, r1⟩ := t24
     refine par_call (w' := W) (f := 30) (xs := #[.slice (some ⟨g1, 0, none⟩) (List.length [s.ax, s.cx]) (List.length [s.ax, s.cx])]) (by simp [go_sem, Act.eval, e1]) ?_
     refine (least_any [s.ax, s.cx] g1 W r1 (by simp) (by intro q hq; simp only [List.mem_cons, List.not_mem_nil, or_false] at hq; rcases hq with rfl | rfl <;> exact Nat.le_trans (by first | exact HLN.out.ax | exact HLN.out.cx) (by omega))).mono ?_
     rintro e w1 ⟨r, rfl, hr, hg1⟩
     exact ⟨r, rfl, Gr.keep hg1, grown_of_below hg1.b _, hJ.gr hg1.b _ _ _ (by simp) (by simp), hr⟩
    ·have t4 := hfr 4 (by simp)
     have x0 : W.cell? ⟨w.heap.size, 0, none⟩ = some (.slice u.a u.n u.n) := by rw [hJ.byb.cell 0]; rfl
     have x1 : W.cell? ⟨w.heap.size, 1, none⟩ = some (.bool u.b) := by rw [hJ.byb.cell 1]; rfl
     have x2 : W.cell? ⟨w.heap.size, 2, none⟩ = some (.slice u.c u.m u.m) := by rw [hJ.byb.cell 2]; rfl
     have x3 : W.cell? ⟨w.heap.size, 3, none⟩ = some (.bool u.d) := by rw [hJ.byb.cell 3]; rfl
     refine par_value (v := .agg #[.slice u.a u.n u.n, .bool u.b, .slice u.c u.m u.m, .bool u.d]) (w' := W) ?_ ⟨Keep.refl _, grown_refl _ _, hJ.same _ _ _ (by simp) (by simp), HU.out.1.keep hJ.k⟩
     simp [go_sem, Act.eval, t4, x0, x1, x2, x3]
    ·have t25 : RIs W (A.tmps.getD 25 undef) (bestR (fun y o => decide (y < o)) [s.ax, s.cx]) := hdep 8 _ 25 rfl (by kernel_rfl) rfl
     have t26 : RIs W (A.tmps.getD 26 undef) (dl) := hdep 9 _ 26 rfl (by kernel_rfl) rfl
     refine par_call (w' := W) (f := 36) (xs := #[A.tmps.getD 25 undef, A.tmps.getD 26 undef]) (by simp [go_sem, Act.eval]) ?_
     refine (rsub_any (bestR (fun y o => decide (y < o)) [s.ax, s.cx]) dl _ _ _ t25 t26 (Nat.le_trans HLN.out.l (by omega)) (Nat.le_trans HUL.out (by omega))).mono ?_
     rintro e w1 ⟨r, rfl, hr, hg1⟩
     exact ⟨r, rfl, keep_below hg1, grown_of_below hg1 _, hJ.gr hg1 _ _ _ (by simp) (by simp), hr⟩
    ·have t9 := hfr 9 (by simp)
     refine par_value (v := .pointer (some ⟨wr.heap.size, 0, none⟩)) (w' := W) ?_ ⟨Keep.refl _, grown_refl _ _, hJ.same _ _ _ (by simp) (by simp), rfl⟩
     simp [go_sem, Act.eval, t9]
    ·have t28 : A.tmps.getD 28 undef = .pointer (some ⟨wr.heap.size, 0, none⟩) := hdep 11 _ 28 rfl (by kernel_rfl) rfl
     refine par_value (v := .pointer (some ⟨wr.heap.size, 0, none⟩)) (w' := W) ?_ ⟨Keep.refl _, grown_refl _ _, hJ.same _ _ _ (by simp) (by simp), rfl⟩
     simp [go_sem, Act.eval, t28]
    ·have t29 : A.tmps.getD 29 undef = .pointer (some ⟨wr.heap.size, 0, none⟩) := hdep 12 _ 29 rfl (by kernel_rfl) rfl
     have x0 : W.cell? ⟨wr.heap.size, 0, none⟩ = some (.slice v.ax.a v.ax.n v.ax.n) := by rw [hJ.seg.cell 0]; rfl
     have x1 : W.cell? ⟨wr.heap.size, 1, none⟩ = some (.bool v.ax.b) := by rw [hJ.seg.cell 1]; rfl
     have x2 : W.cell? ⟨wr.heap.size, 2, none⟩ = some (.slice v.ax.c v.ax.m v.ax.m) := by rw [hJ.seg.cell 2]; rfl
     have x3 : W.cell? ⟨wr.heap.size, 3, none⟩ = some (.bool v.ax.d) := by rw [hJ.seg.cell 3]; rfl
     refine par_value (v := .agg #[.slice v.ax.a v.ax.n v.ax.n, .bool v.ax.b, .slice v.ax.c v.ax.m v.ax.m, .bool v.ax.d]) (w' := W) ?_ ⟨Keep.refl _, grown_refl _ _, hJ.same _ _ _ (by simp) (by simp), (HSV.out.ax).1.keep hJ.k⟩
     simp [go_sem, Act.eval, t29, x0, x1, x2, x3]
    ·have t9 := hfr 9 (by simp)
     refine par_value (v := .pointer (some ⟨wr.heap.size, 8, none⟩)) (w' := W) ?_ ⟨Keep.refl _, grown_refl _ _, hJ.same _ _ _ (by simp) (by simp), rfl⟩
     simp [go_sem, Act.eval, t9]
    ·have t31 : A.tmps.getD 31 undef = .pointer (some ⟨wr.heap.size, 8, none⟩) := hdep 14 _ 31 rfl (by kernel_rfl) rfl
     refine par_value (v := .pointer (some ⟨wr.heap.size, 8, none⟩)) (w' := W) ?_ ⟨Keep.refl _, grown_refl _ _, hJ.same _ _ _ (by simp) (by simp), rfl⟩
     simp [go_sem, Act.eval, t31]
    ·have t32 : A.tmps.getD 32 undef = .pointer (some ⟨wr.heap.size, 8, none⟩) := hdep 15 _ 32 rfl (by kernel_rfl) rfl
     have x0 : W.cell? ⟨wr.heap.size, 8, none⟩ = some (.slice v.cx.a v.cx.n v.cx.n) := by rw [hJ.seg.cell 8]; rfl
     have x1 : W.cell? ⟨wr.heap.size, 9, none⟩ = some (.bool v.cx.b) := by rw [hJ.seg.cell 9]; rfl
     have x2 : W.cell? ⟨wr.heap.size, 10, none⟩ = some (.slice v.cx.c v.cx.m v.cx.m) := by rw [hJ.seg.cell 10]; rfl
     have x3 : W.cell? ⟨wr.heap.size, 11, none⟩ = some (.bool v.cx.d) := by rw [hJ.seg.cell 11]; rfl
     refine par_value (v := .agg #[.slice v.cx.a v.cx.n v.cx.n, .bool v.cx.b, .slice v.cx.c v.cx.m v.cx.m, .bool v.cx.d]) (w' := W) ?_ ⟨Keep.refl _, grown_refl _ _, hJ.same _ _ _ (by simp) (by simp), (HSV.out.cx).1.keep hJ.k⟩
     simp [go_sem, Act.eval, t32, x0, x1, x2, x3]
    ·have t30 : RIs W (A.tmps.getD 30 undef) (s.ax) := hdep 13 _ 30 rfl (by kernel_rfl) rfl
     have t33 : RIs W (A.tmps.getD 33 undef) (s.cx) := hdep 16 _ 33 rfl (by kernel_rfl) rfl
     obtain ⟨a0, n0, b0, c0, m0, d0, e0⟩ := t30.parts
     obtain ⟨a1, n1, b1, c1, m1, d1, e1⟩ := t33.parts
     have r0 := t30
     have r1 := t33
     rw [e0] at r0
     rw [e1] at r1
     refine par_value (v := .slice (some ⟨W.heap.size, 0, none⟩) 2 2) (w' := W.alloc (.cells #[.slice a0 n0 n0, .bool b0, .slice c0 m0 m0, .bool d0, .slice a1 n1 n1, .bool b1, .slice c1 m1 m1, .bool d1] 30)) ?_ ⟨keep_alloc _ _, grown_alloc _ _ _, hJ.gr (own_alloc _ _).b _ _ _ (by simp) (by simp), ⟨W.heap.size, rfl, hJ.sz, rrow_two r0 r1⟩⟩
     have g0 := (Array.getD_eq_getD_getElem? ..).symm.trans e0
     have g1' := (Array.getD_eq_getD_getElem? ..).symm.trans e1
     simp [go_sem, Act.eval, g0, g1']
    ·have t34 : ∃ g, A.tmps.getD 34 undef = .slice (some ⟨g, 0, none⟩) (List.length [s.ax, s.cx]) (List.length [s.ax, s.cx]) ∧ w8.heap.size ≤ g ∧ RRow W g [s.ax, s.cx] := hdep 17 _ 34 rfl (by kernel_rfl) rfl
     obtain ⟨g1, e1, l1, r1⟩ := t34
     refine par_call (w' := W) (f := 37) (xs := #[.slice (some ⟨g1, 0, none⟩) (List.length [s.ax, s.cx]) (List.length [s.ax, s.cx])]) (by simp [go_sem, Act.eval, e1]) ?_
     refine (most_any [s.ax, s.cx] g1 W r1 (by simp) (by intro q hq; simp only [List.mem_cons, List.not_mem_nil, or_false] at hq; rcases hq with rfl | rfl <;> exact Nat.le_trans (by first | exact HLN.out.ax | exact HLN.out.cx) (by omega))).mono ?_
     rintro e w1 ⟨r, rfl, hr, hg1⟩
     exact ⟨r, rfl, Gr.keep hg1, grown_of_below hg1.b _, hJ.gr hg1.b _ _ _ (by simp) (by simp), hr⟩
    ·have t4 := hfr 4 (by simp)
     have x0 : W.cell? ⟨w.heap.size, 0, none⟩ = some (.slice u.a u.n u.n) := by rw [hJ.byb.cell 0]; rfl
     have x1 : W.cell? ⟨w.heap.size, 1, none⟩ = some (.bool u.b) := by rw [hJ.byb.cell 1]; rfl
     have x2 : W.cell? ⟨w.heap.size, 2, none⟩ = some (.slice u.c u.m u.m) := by rw [hJ.byb.cell 2]; rfl
     have x3 : W.cell? ⟨w.heap.size, 3, none⟩ = some (.bool u.d) := by rw [hJ.byb.cell 3]; rfl
     refine par_value (v := .agg #[.slice u.a u.n u.n, .bool u.b, .slice u.c u.m u.m, .bool u.d]) (w' := W) ?_ ⟨Keep.refl _, grown_refl _ _, hJ.same _ _ _ (by simp) (by simp), HU.out.1.keep hJ.k⟩
     simp [go_sem, Act.eval, t4, x0, x1, x2, x3]
    ·have t35 : RIs W (A.tmps.getD 35 undef) (bestR (fun y o => decide (o < y)) [s.ax, s.cx]) := hdep 18 _ 35 rfl (by kernel_rfl) rfl
     have t36 : RIs W (A.tmps.getD 36 undef) (dl) := hdep 19 _ 36 rfl (by kernel_rfl) rfl
     refine par_call (w' := W) (f := 38) (xs := #[A.tmps.getD 35 undef, A.tmps.getD 36 undef]) (by simp [go_sem, Act.eval]) ?_
     refine (add_any (bestR (fun y o => decide (o < y)) [s.ax, s.cx]) dl _ _ _ t35 t36 (Nat.le_trans HLN.out.r (by omega)) (Nat.le_trans HUL.out (by omega))).mono ?_
     rintro e w1 ⟨r, rfl, hr, hg1⟩
     exact ⟨r, rfl, keep_below hg1, grown_of_below hg1 _, hJ.gr hg1 _ _ _ (by simp) (by simp), hr⟩
    ·have t9 := hfr 9 (by simp)
     refine par_value (v := .pointer (some ⟨wr.heap.size, 0, none⟩)) (w' := W) ?_ ⟨Keep.refl _, grown_refl _ _, hJ.same _ _ _ (by simp) (by simp), rfl⟩
     simp [go_sem, Act.eval, t9]
    ·have t38 : A.tmps.getD 38 undef = .pointer (some ⟨wr.heap.size, 0, none⟩) := hdep 21 _ 38 rfl (by kernel_rfl) rfl
     refine par_value (v := .pointer (some ⟨wr.heap.size, 4, none⟩)) (w' := W) ?_ ⟨Keep.refl _, grown_refl _ _, hJ.same _ _ _ (by simp) (by simp), rfl⟩
     simp [go_sem, Act.eval, t38]
    ·have t39 : A.tmps.getD 39 undef = .pointer (some ⟨wr.heap.size, 4, none⟩) := hdep 22 _ 39 rfl (by kernel_rfl) rfl
     have x0 : W.cell? ⟨wr.heap.size, 4, none⟩ = some (.slice v.ay.a v.ay.n v.ay.n) := by rw [hJ.seg.cell 4]; rfl
     have x1 : W.cell? ⟨wr.heap.size, 5, none⟩ = some (.bool v.ay.b) := by rw [hJ.seg.cell 5]; rfl
     have x2 : W.cell? ⟨wr.heap.size, 6, none⟩ = some (.slice v.ay.c v.ay.m v.ay.m) := by rw [hJ.seg.cell 6]; rfl
     have x3 : W.cell? ⟨wr.heap.size, 7, none⟩ = some (.bool v.ay.d) := by rw [hJ.seg.cell 7]; rfl
     refine par_value (v := .agg #[.slice v.ay.a v.ay.n v.ay.n, .bool v.ay.b, .slice v.ay.c v.ay.m v.ay.m, .bool v.ay.d]) (w' := W) ?_ ⟨Keep.refl _, grown_refl _ _, hJ.same _ _ _ (by simp) (by simp), (HSV.out.ay).1.keep hJ.k⟩
     simp [go_sem, Act.eval, t39, x0, x1, x2, x3]
    ·have t9 := hfr 9 (by simp)
     refine par_value (v := .pointer (some ⟨wr.heap.size, 8, none⟩)) (w' := W) ?_ ⟨Keep.refl _, grown_refl _ _, hJ.same _ _ _ (by simp) (by simp), rfl⟩
     simp [go_sem, Act.eval, t9]
    ·have t41 : A.tmps.getD 41 undef = .pointer (some ⟨wr.heap.size, 8, none⟩) := hdep 24 _ 41 rfl (by kernel_rfl) rfl
     refine par_value (v := .pointer (some ⟨wr.heap.size, 12, none⟩)) (w' := W) ?_ ⟨Keep.refl _, grown_refl _ _, hJ.same _ _ _ (by simp) (by simp), rfl⟩
     simp [go_sem, Act.eval, t41]
    ·have t42 : A.tmps.getD 42 undef = .pointer (some ⟨wr.heap.size, 12, none⟩) := hdep 25 _ 42 rfl (by kernel_rfl) rfl
     have x0 : W.cell? ⟨wr.heap.size, 12, none⟩ = some (.slice v.cy.a v.cy.n v.cy.n) := by rw [hJ.seg.cell 12]; rfl
     have x1 : W.cell? ⟨wr.heap.size, 13, none⟩ = some (.bool v.cy.b) := by rw [hJ.seg.cell 13]; rfl
     have x2 : W.cell? ⟨wr.heap.size, 14, none⟩ = some (.slice v.cy.c v.cy.m v.cy.m) := by rw [hJ.seg.cell 14]; rfl
     have x3 : W.cell? ⟨wr.heap.size, 15, none⟩ = some (.bool v.cy.d) := by rw [hJ.seg.cell 15]; rfl
     refine par_value (v := .agg #[.slice v.cy.a v.cy.n v.cy.n, .bool v.cy.b, .slice v.cy.c v.cy.m v.cy.m, .bool v.cy.d]) (w' := W) ?_ ⟨Keep.refl _, grown_refl _ _, hJ.same _ _ _ (by simp) (by simp), (HSV.out.cy).1.keep hJ.k⟩
     simp [go_sem, Act.eval, t42, x0, x1, x2, x3]
    ·have t40 : RIs W (A.tmps.getD 40 undef) (s.ay) := hdep 23 _ 40 rfl (by kernel_rfl) rfl
     have t43 : RIs W (A.tmps.getD 43 undef) (s.cy) := hdep 26 _ 43 rfl (by kernel_rfl) rfl
     obtain ⟨a0, n0, b0, c0, m0, d0, e0⟩ := t40.parts
     obtain ⟨a1, n1, b1, c1, m1, d1, e1⟩ := t43.parts
     have r0 := t40
     have r1 := t43
     rw [e0] at r0
     rw [e1] at r1
     refine par_value (v := .slice (some ⟨W.heap.size, 0, none⟩) 2 2) (w' := W.alloc (.cells #[.slice a0 n0 n0, .bool b0, .slice c0 m0 m0, .bool d0, .slice a1 n1 n1, .bool b1, .slice c1 m1 m1, .bool d1] 30)) ?_ ⟨keep_alloc _ _, grown_alloc _ _ _, hJ.gr (own_alloc _ _).b _ _ _ (by simp) (by simp), ⟨W.heap.size, rfl, hJ.sz, rrow_two r0 r1⟩⟩
     have g0 := (Array.getD_eq_getD_getElem? ..).symm.trans e0
     have g1' := (Array.getD_eq_getD_getElem? ..).symm.trans e1
     simp [go_sem, Act.eval, g0, g1']
    ·have t44 : ∃ g, A.tmps.getD 44 undef = .slice (some ⟨g, 0, none⟩) (List.length [s.ay, s.cy]) (List.length [s.ay, s.cy]) ∧ w8.heap.size ≤ g ∧ RRow W g [s.ay, s.cy] := hdep 27 _ 44 rfl (by kernel_rfl) rfl
     obtain ⟨g1, e1, l1, r1⟩ := t44
     refine par_call (w' := W) (f := 30) (xs := #[.slice (some ⟨g1, 0, none⟩) (List.length [s.ay, s.cy]) (List.length [s.ay, s.cy])]) (by simp [go_sem, Act.eval, e1]) ?_
     refine (least_any [s.ay, s.cy] g1 W r1 (by simp) (by intro q hq; simp only [List.mem_cons, List.not_mem_nil, or_false] at hq; rcases hq with rfl | rfl <;> exact Nat.le_trans (by first | exact HLN.out.ay | exact HLN.out.cy) (by omega))).mono ?_
     rintro e w1 ⟨r, rfl, hr, hg1⟩
     exact ⟨r, rfl, Gr.keep hg1, grown_of_below hg1.b _, hJ.gr hg1.b _ _ _ (by simp) (by simp), hr⟩
    ·have t4 := hfr 4 (by simp)
     have x0 : W.cell? ⟨w.heap.size, 0, none⟩ = some (.slice u.a u.n u.n) := by rw [hJ.byb.cell 0]; rfl
     have x1 : W.cell? ⟨w.heap.size, 1, none⟩ = some (.bool u.b) := by rw [hJ.byb.cell 1]; rfl
     have x2 : W.cell? ⟨w.heap.size, 2, none⟩ = some (.slice u.c u.m u.m) := by rw [hJ.byb.cell 2]; rfl
     have x3 : W.cell? ⟨w.heap.size, 3, none⟩ = some (.bool u.d) := by rw [hJ.byb.cell 3]; rfl
     refine par_value (v := .agg #[.slice u.a u.n u.n, .bool u.b, .slice u.c u.m u.m, .bool u.d]) (w' := W) ?_ ⟨Keep.refl _, grown_refl _ _, hJ.same _ _ _ (by simp) (by simp), HU.out.1.keep hJ.k⟩
     simp [go_sem, Act.eval, t4, x0, x1, x2, x3]
    ·have t45 : RIs W (A.tmps.getD 45 undef) (bestR (fun y o => decide (y < o)) [s.ay, s.cy]) := hdep 28 _ 45 rfl (by kernel_rfl) rfl
     have t46 : RIs W (A.tmps.getD 46 undef) (dl) := hdep 29 _ 46 rfl (by kernel_rfl) rfl
     refine par_call (w' := W) (f := 36) (xs := #[A.tmps.getD 45 undef, A.tmps.getD 46 undef]) (by simp [go_sem, Act.eval]) ?_
     refine (rsub_any (bestR (fun y o => decide (y < o)) [s.ay, s.cy]) dl _ _ _ t45 t46 (Nat.le_trans HLN.out.b (by omega)) (Nat.le_trans HUL.out (by omega))).mono ?_
     rintro e w1 ⟨r, rfl, hr, hg1⟩
     exact ⟨r, rfl, keep_below hg1, grown_of_below hg1 _, hJ.gr hg1 _ _ _ (by simp) (by simp), hr⟩
    ·have t9 := hfr 9 (by simp)
     refine par_value (v := .pointer (some ⟨wr.heap.size, 0, none⟩)) (w' := W) ?_ ⟨Keep.refl _, grown_refl _ _, hJ.same _ _ _ (by simp) (by simp), rfl⟩
     simp [go_sem, Act.eval, t9]
    ·have t48 : A.tmps.getD 48 undef = .pointer (some ⟨wr.heap.size, 0, none⟩) := hdep 31 _ 48 rfl (by kernel_rfl) rfl
     refine par_value (v := .pointer (some ⟨wr.heap.size, 4, none⟩)) (w' := W) ?_ ⟨Keep.refl _, grown_refl _ _, hJ.same _ _ _ (by simp) (by simp), rfl⟩
     simp [go_sem, Act.eval, t48]
    ·have t49 : A.tmps.getD 49 undef = .pointer (some ⟨wr.heap.size, 4, none⟩) := hdep 32 _ 49 rfl (by kernel_rfl) rfl
     have x0 : W.cell? ⟨wr.heap.size, 4, none⟩ = some (.slice v.ay.a v.ay.n v.ay.n) := by rw [hJ.seg.cell 4]; rfl
     have x1 : W.cell? ⟨wr.heap.size, 5, none⟩ = some (.bool v.ay.b) := by rw [hJ.seg.cell 5]; rfl
     have x2 : W.cell? ⟨wr.heap.size, 6, none⟩ = some (.slice v.ay.c v.ay.m v.ay.m) := by rw [hJ.seg.cell 6]; rfl
     have x3 : W.cell? ⟨wr.heap.size, 7, none⟩ = some (.bool v.ay.d) := by rw [hJ.seg.cell 7]; rfl
     refine par_value (v := .agg #[.slice v.ay.a v.ay.n v.ay.n, .bool v.ay.b, .slice v.ay.c v.ay.m v.ay.m, .bool v.ay.d]) (w' := W) ?_ ⟨Keep.refl _, grown_refl _ _, hJ.same _ _ _ (by simp) (by simp), (HSV.out.ay).1.keep hJ.k⟩
     simp [go_sem, Act.eval, t49, x0, x1, x2, x3]
    ·have t9 := hfr 9 (by simp)
     refine par_value (v := .pointer (some ⟨wr.heap.size, 8, none⟩)) (w' := W) ?_ ⟨Keep.refl _, grown_refl _ _, hJ.same _ _ _ (by simp) (by simp), rfl⟩
     simp [go_sem, Act.eval, t9]
    ·have t51 : A.tmps.getD 51 undef = .pointer (some ⟨wr.heap.size, 8, none⟩) := hdep 34 _ 51 rfl (by kernel_rfl) rfl
     refine par_value (v := .pointer (some ⟨wr.heap.size, 12, none⟩)) (w' := W) ?_ ⟨Keep.refl _, grown_refl _ _, hJ.same _ _ _ (by simp) (by simp), rfl⟩
     simp [go_sem, Act.eval, t51]
    ·have t52 : A.tmps.getD 52 undef = .pointer (some ⟨wr.heap.size, 12, none⟩) := hdep 35 _ 52 rfl (by kernel_rfl) rfl
     have x0 : W.cell? ⟨wr.heap.size, 12, none⟩ = some (.slice v.cy.a v.cy.n v.cy.n) := by rw [hJ.seg.cell 12]; rfl
     have x1 : W.cell? ⟨wr.heap.size, 13, none⟩ = some (.bool v.cy.b) := by rw [hJ.seg.cell 13]; rfl
     have x2 : W.cell? ⟨wr.heap.size, 14, none⟩ = some (.slice v.cy.c v.cy.m v.cy.m) := by rw [hJ.seg.cell 14]; rfl
     have x3 : W.cell? ⟨wr.heap.size, 15, none⟩ = some (.bool v.cy.d) := by rw [hJ.seg.cell 15]; rfl
     refine par_value (v := .agg #[.slice v.cy.a v.cy.n v.cy.n, .bool v.cy.b, .slice v.cy.c v.cy.m v.cy.m, .bool v.cy.d]) (w' := W) ?_ ⟨Keep.refl _, grown_refl _ _, hJ.same _ _ _ (by simp) (by simp), (HSV.out.cy).1.keep hJ.k⟩
     simp [go_sem, Act.eval, t52, x0, x1, x2, x3]
    ·have t50 : RIs W (A.tmps.getD 50 undef) (s.ay) := hdep 33 _ 50 rfl (by kernel_rfl) rfl
     have t53 : RIs W (A.tmps.getD 53 undef) (s.cy) := hdep 36 _ 53 rfl (by kernel_rfl) rfl
     obtain ⟨a0, n0, b0, c0, m0, d0, e0⟩ := t50.parts
     obtain ⟨a1, n1, b1, c1, m1, d1, e1⟩ := t53.parts
     have r0 := t50
     have r1 := t53
     rw [e0] at r0
     rw [e1] at r1
     refine par_value (v := .slice (some ⟨W.heap.size, 0, none⟩) 2 2) (w' := W.alloc (.cells #[.slice a0 n0 n0, .bool b0, .slice c0 m0 m0, .bool d0, .slice a1 n1 n1, .bool b1, .slice c1 m1 m1, .bool d1] 30)) ?_ ⟨keep_alloc _ _, grown_alloc _ _ _, hJ.gr (own_alloc _ _).b _ _ _ (by simp) (by simp), ⟨W.heap.size, rfl, hJ.sz, rrow_two r0 r1⟩⟩
     have g0 := (Array.getD_eq_getD_getElem? ..).symm.trans e0
     have g1' := (Array.getD_eq_getD_getElem? ..).symm.trans e1
     simp [go_sem, Act.eval, g0, g1']
    ·have t54 : ∃ g, A.tmps.getD 54 undef = .slice (some ⟨g, 0, none⟩) (List.length [s.ay, s.cy]) (List.length [s.ay, s.cy]) ∧ w8.heap.size ≤ g ∧ RRow W g [s.ay, s.cy] := hdep 37 _ 54 rfl (by kernel_rfl) rfl
     obtain ⟨g1, e1, l1, r1⟩ := t54
     refine par_call (w' := W) (f := 37) (xs := #[.slice (some ⟨g1, 0, none⟩) (List.length [s.ay, s.cy]) (List.length [s.ay, s.cy])]) (by simp [go_sem, Act.eval, e1]) ?_
     refine (most_any [s.ay, s.cy] g1 W r1 (by simp) (by intro q hq; simp only [List.mem_cons, List.not_mem_nil, or_false] at hq; rcases hq with rfl | rfl <;> exact Nat.le_trans (by first | exact HLN.out.ay | exact HLN.out.cy) (by omega))).mono ?_
     rintro e w1 ⟨r, rfl, hr, hg1⟩
     exact ⟨r, rfl, Gr.keep hg1, grown_of_below hg1.b _, hJ.gr hg1.b _ _ _ (by simp) (by simp), hr⟩
    ·have t4 := hfr 4 (by simp)
     have x0 : W.cell? ⟨w.heap.size, 0, none⟩ = some (.slice u.a u.n u.n) := by rw [hJ.byb.cell 0]; rfl
     have x1 : W.cell? ⟨w.heap.size, 1, none⟩ = some (.bool u.b) := by rw [hJ.byb.cell 1]; rfl
     have x2 : W.cell? ⟨w.heap.size, 2, none⟩ = some (.slice u.c u.m u.m) := by rw [hJ.byb.cell 2]; rfl
     have x3 : W.cell? ⟨w.heap.size, 3, none⟩ = some (.bool u.d) := by rw [hJ.byb.cell 3]; rfl
     refine par_value (v := .agg #[.slice u.a u.n u.n, .bool u.b, .slice u.c u.m u.m, .bool u.d]) (w' := W) ?_ ⟨Keep.refl _, grown_refl _ _, hJ.same _ _ _ (by simp) (by simp), HU.out.1.keep hJ.k⟩
     simp [go_sem, Act.eval, t4, x0, x1, x2, x3]
    ·have t55 : RIs W (A.tmps.getD 55 undef) (bestR (fun y o => decide (o < y)) [s.ay, s.cy]) := hdep 38 _ 55 rfl (by kernel_rfl) rfl
     have t56 : RIs W (A.tmps.getD 56 undef) (dl) := hdep 39 _ 56 rfl (by kernel_rfl) rfl
     refine par_call (w' := W) (f := 38) (xs := #[A.tmps.getD 55 undef, A.tmps.getD 56 undef]) (by simp [go_sem, Act.eval]) ?_
     refine (add_any (bestR (fun y o => decide (o < y)) [s.ay, s.cy]) dl _ _ _ t55 t56 (Nat.le_trans HLN.out.t (by omega)) (Nat.le_trans HUL.out (by omega))).mono ?_
     rintro e w1 ⟨r, rfl, hr, hg1⟩
     exact ⟨r, rfl, keep_below hg1, grown_of_below hg1 _, hJ.gr hg1 _ _ _ (by simp) (by simp), hr⟩
    ·have t8 := hfr 8 (by simp)
     refine par_value (v := .int .i64 (i : Int)) (w' := W) ?_ ⟨Keep.refl _, grown_refl _ _, hJ.same _ _ _ (by simp) (by simp), rfl⟩
     simp [go_sem, Act.eval, t8]
    ·have t2 := hfr 2 (by simp)
     refine par_value (v := .bool second) (w' := W) ?_ ⟨Keep.refl _, grown_refl _ _, hJ.same _ _ _ (by simp) (by simp), rfl⟩
     simp [go_sem, Act.eval, t2]
    ·have t27 : RIs W (A.tmps.getD 27 undef) (bestR (fun y o => decide (y < o)) [s.ax, s.cx] - dl) := hdep 10 _ 27 rfl (by kernel_rfl) rfl
     have t37 : RIs W (A.tmps.getD 37 undef) (bestR (fun y o => decide (o < y)) [s.ax, s.cx] + dl) := hdep 20 _ 37 rfl (by kernel_rfl) rfl
     have t47 : RIs W (A.tmps.getD 47 undef) (bestR (fun y o => decide (y < o)) [s.ay, s.cy] - dl) := hdep 30 _ 47 rfl (by kernel_rfl) rfl
     have t57 : RIs W (A.tmps.getD 57 undef) (bestR (fun y o => decide (o < y)) [s.ay, s.cy] + dl) := hdep 40 _ 57 rfl (by kernel_rfl) rfl
     have t58 : A.tmps.getD 58 undef = .int .i64 (i : Int) := hdep 41 _ 58 rfl (by kernel_rfl) rfl
     have t59 : A.tmps.getD 59 undef = .bool second := hdep 42 _ 59 rfl (by kernel_rfl) rfl
     obtain ⟨v0, e0, o0⟩ := RV.ok.of t27 HRL.out.f1
     obtain ⟨v1, e1, o1⟩ := RV.ok.of t37 HRL.out.f2
     obtain ⟨v2, e2, o2⟩ := RV.ok.of t47 HRL.out.f3
     obtain ⟨v3, e3, o3⟩ := RV.ok.of t57 HRL.out.f4
     refine par_value (v := .agg (BV.cells ⟨v0, v1, v2, v3, i, second⟩).toArray) (w' := W) ?_ ⟨Keep.refl _, grown_refl _ _, hJ.same _ _ _ (by simp) (by simp), ⟨_, rfl, o0, o1, o2, o3, rfl, rfl⟩⟩
     have g0 := (Array.getD_eq_getD_getElem? ..).symm.trans e0
     have g1 := (Array.getD_eq_getD_getElem? ..).symm.trans e1
     have g2 := (Array.getD_eq_getD_getElem? ..).symm.trans e2
     have g3 := (Array.getD_eq_getD_getElem? ..).symm.trans e3
     have g4 := (Array.getD_eq_getD_getElem? ..).symm.trans t58
     have g5 := (Array.getD_eq_getD_getElem? ..).symm.trans t59
     simp [go_sem, Act.eval, g0, g1, g2, g3, g4, g5, BV.cells]
    ·have t60 : ∃ bv : BV, A.tmps.getD 60 undef = .agg bv.cells.toArray ∧ bv.ok W (boxS s dl i second) := hdep 43 _ 60 rfl (by kernel_rfl) rfl
     obtain ⟨bv, e0, ok0⟩ := t60
     refine par_value (v := .slice (some ⟨W.heap.size, 0, none⟩) 1 1) (w' := W.alloc (.cells bv.cells.toArray 72)) ?_ ⟨keep_alloc _ _, grown_alloc _ _ _, hJ.gr (own_alloc _ _).b _ _ _ (by simp) (by simp), ⟨W.heap.size, bv, rfl, hJ.sz, BlkC.new _ W bv.cells, ok0.keep (keep_alloc _ _)⟩⟩
     have g0 := (Array.getD_eq_getD_getElem? ..).symm.trans e0
     simp [go_sem, Act.eval, g0, BV.cells]
    ·have t17 : A.tmps.getD 17 undef = rowv := hdep 0 _ 17 rfl (by kernel_rfl) rfl
     have t61 : ∃ g, ∃ bv : BV, A.tmps.getD 61 undef = .slice (some ⟨g, 0, none⟩) 1 1 ∧ w8.heap.size ≤ g ∧ BlkC 72 W g bv.cells ∧ bv.ok W (boxS s dl i second) := hdep 44 _ 61 rfl (by kernel_rfl) rfl
     obtain ⟨g61, bv, e61, l61, b61, ok61⟩ := t61
     have hrow := hJ.row hf
     intro Q'
     refine wp_append_own W (.tmp 17) (.tmp 61) 66 rfl w.heap.size 72 ib _ 18 272 Try.underlying66 hib hib0 hib1 hib2 rfl (by decide) rowv i (ys.flatMap PB.enc) t17 hrow ⟨g61, 0, none⟩ 1 1 bv.cells e61 rfl (fun j u hj => by rw [Addr.add_lit, Nat.zero_add, b61.cell j]; exact hj) (fun u hu => PB.one (bv, boxS s dl i second) u hu) (by unfold maxLen; omega) (by omega) (by have := hJ.b.size; omega) ?_
     intro v' w' h1 h2 _
     have hk' : Keep W w' := keep_grown_row hrow h2
     exact ⟨v', rfl, hk', h2, hJ.app hsz (by simp) hf h1 h2 hk' ok61, trivial⟩
    ·refine par_value (v := A.tmps.getD 62 undef) (w' := W) ?_ ⟨Keep.refl _, grown_refl _ _, hJ.asgn hsz (by simp) (hdn 45 (by kernel_rfl)), trivial⟩
     simp [go_sem, Act.eval]
   ·intro vs W hJ
    obtain ⟨bv, hown, hok⟩ := hJ.out rfl
    have enew := hJ.new rfl
    have e7 : vs 7 = vs 62 := by simpa [putAll, Act.put] using enew
    have HOWN : Hid (W.ownsRow w.heap.size 72 18 (vs 62) (i + 1) (ys.flatMap PB.enc ++ bv.cells)) := by
     show W.ownsRow _ _ _ _ _ _
     simpa [putAll, Act.put] using hown
    have HOK9 := Lib.hid hok
    have HBE : Hid (Below w.heap.size w W) := hJ.b
    have HB4E : Hid (BlkC 30 W w.heap.size u.cells) := hJ.byb
    have HK8 : Hid (Keep wr W) := HK08.out.trans hJ.k
    clear hJ enew hown hok
    simp only [putAll, List.foldl_cons, List.foldl_nil, Act.put, List.setIfInBounds_toArray, List.set_cons_succ, List.set_cons_zero, e7]
    clear e7
    go_wp2_with fail
    go_roundg (n - (i + 1))
    case measure => omega
    case rel =>
     obtain ⟨ys', h⟩ := HREL.out.next HS.out HOWN.out HOK9.out HK8.out HBE.out HB4E.out
     exact ⟨i + 1, by go_num, by omega, by omega, _, ys', rfl, h⟩
  ·have hlz : ¬ (i : Int) < (n : Int) := by omega
   have hie : i = n := by omega
   subst hie
   go_wp2_with fail
   go_ret
   exact ⟨rowv, rfl, ys, HREL.out⟩
end Go.Proofs.Ytnojfiokdhcbjaa
