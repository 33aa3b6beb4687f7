/-
  deck.line: a statement's text: the state; the walk at let.
-/
import Derived.Test.YtdjklnlkocconaaGreatDoorPrBZ
import Derived.Test.YtdjklnlkocconaaGreatDoorPaFZ
import Derived.Lib.AppendIntMem
import Derived.StillTailTactics
import Derived.Deep.RegionHeld3
namespace Go.Proofs.YtdjklnlkocconaaGreatDoor
open Go Go.RowKit

theorem itoa_w (n : Int) (h0 : -9223372036854775808 ≤ n) (h1 : n ≤ 9223372036854775807) (w : World) (hg : Good w) :
    Calls Tryz.prog 84 #[.int .i64 n] w fun e w' => e = .returned (.string (bs (Lib.itoa n))) ∧ w.grownBy w' none :=
  (Tryz.strconv_Itoa n h0 h1 w hg.pow).mono fun e w' ⟨he, k, os, hw⟩ => ⟨he, by rw [hw]; exact grown_of_below (Lib.below_grow _ w (Nat.le_refl _) k os) none⟩

theorem BlkS.keeps {w w' : World} {b g : Nat} {cs : List Value} (h : BlkS w g cs) (hk : Keeps b w w') (hn : g ≠ b) : BlkS w' g cs := by
  refine (hk.block g h.lt hn (.inr ?_)).trans h
  intro cs' fr e
  have h2 : w.heap[g]? = some (.cells cs.toArray 39 (0, 0)) := h
  rw [h2] at e
  cases e

theorem Good.keeps {w w' : World} {b : Nat} (h : Good w) (hk : Keeps b w w') (hb : b < w.heap.size) (h6 : 6 ≤ b) : Good w' := by
  rcases hk.below with hb' | hb'
  · exact h.below hb' h6
  · omega
theorem Good.still {w w' : World} (h : Good w) (hg : w.grownBy w' none) : Good w' :=
  h.at ⟨hg.os, hg.tape, hg.output, hg.size, fun k hk => hg.block k hk (by simp)⟩

/-- line at work. -/
structure LS (w w' : World) (b : Nat) (l : List UInt8) (x : St) (A B : NV) : Prop where
  wb : WB w' b l
  kp : Keeps b w w'
  hb : b < w.heap.size
  h6 : 6 ≤ b
  gd : Good w'
  bx : BlkS w' w.heap.size (stCells x A B)
  na : NdIs (· < b) w' x.a A.val
  nb : NdIs (· < b) w' x.b B.val
section
variable {w w' w'' : World} {b : Nat} {l l' : List UInt8} {x : St} {A B : NV}
theorem Keeps.none (h : w.grownBy w' none) : Keeps b w w' := Keeps.of_grown h (fun c e => by cases e)
theorem LS.next (h : LS w w' b l x A B) (hb : WB w'' b l') (hk : Keeps b w' w'') : LS w w'' b l' x A B :=
  ⟨hb, h.kp.trans hk, h.hb, h.h6, h.gd.keeps hk h.wb.lt h.h6, h.bx.keeps hk (by have := h.hb; omega), h.na.keeps hk, h.nb.keeps hk⟩
theorem LS.still (h : LS w w' b l x A B) (hg : w'.grownBy w'' none) : LS w w'' b l x A B := h.next (h.wb.still hg) (Keeps.none hg)
theorem LS.start (hw : WB w b l) (h6 : 6 ≤ b) (hg : Good w) (ha : NdIs (· < b) w x.a A.val) (hb : NdIs (· < b) w x.b B.val) : LS w (w.alloc (.cells (stCells x A B).toArray 39)) b l x A B := by
  have h1 := grown_alloc w (.cells (stCells x A B).toArray 39) none
  exact ⟨hw.still h1, Keeps.none h1, hw.lt, h6, hg.still h1, (MapKept.heap_alloc w _).1, ha.keeps (Keeps.none h1), hb.keeps (Keeps.none h1)⟩
theorem LS.cell (h : LS w w' b l x A B) (j : Nat) : w'.cell? ⟨w.heap.size, j, none⟩ = (stCells x A B)[j]? := h.bx.cell j
end

def Rng (n : Int) : Prop := -9223372036854775808 ≤ n ∧ n ≤ 9223372036854775807

/-- A word out of a new row of them. -/
theorem cell_at (w : World) (l : List Value) (T : TypeId) (g : Nat) (hg : g = w.heap.size) (j : Nat) (u : Value) (hj : l[j]? = some u) : (w.alloc (.cells l.toArray T)).cell? ⟨g, j, none⟩ = some u := by
  subst hg
  unfold World.cell?
  rw [(MapKept.heap_alloc w _).1]
  simpa using hj

set_option maxHeartbeats 2000000 in
set_option maxRecDepth 100000 in
theorem line_let (name : List UInt8) (xa xb : Nd) (rule n d k : Int) (snap : Bool) (A B : NV) (b : Nat) (l L1 L2 : List UInt8) (w : World) (hw : WB w b l) (h6 : 6 ≤ b) (hg : Good w) (ha : NdIs (· < b) w xa A.val) (hb : NdIs (· < b) w xb B.val) (hrn : Hid (Rng n ∧ Rng k))
    (hL1 : Hid (L1 = [108, 101, 116, 32] ++ name ++ [32, 61, 32])) (hL2 : Hid (L2 = L1 ++ textP xa 0 ++ [59, 10])) (hlen : l.length + L2.length ≤ 140737488355328) (T N : Nat) (hT : Hid ((textP xa 0).length = T ∧ name.length = N)) :
    Calls Tryz.prog 64 #[.agg #[.int .i64 2, .string (bs name), .int .i64 A.k, .string A.s, .slice A.a A.n A.c, .int .i64 B.k, .string B.s, .slice B.a B.n B.c, .int .i64 rule, .int .i64 n, .int .i64 d, .int .i64 k, .bool snap], .pointer (some ⟨b, 0, none⟩)] w
      fun e w' => e = .returned (.tuple #[]) ∧ WB w' b (l ++ L2) ∧ Keeps b w w' := by
  have S0 := Lib.hid (LS.start (x := ⟨2, name, xa, xb, rule, n, d, k, snap⟩) hw h6 hg ha hb)
  have HLEN : Hid (L2.length = 4 + N + 3 + T + 2 ∧ L1.length = 4 + N + 3) := by
    refine ⟨?_, ?_⟩
    · rw [hL2.out, hL1.out]; simp only [List.length_append, hT.out.1, hT.out.2]; rfl
    · rw [hL1.out]; simp only [List.length_append, hT.out.2]; rfl
  have HNAME : Hid ((bs name).size = N) := (bs_size _).trans hT.out.2
  have hsz : (bs name).size ≤ 140737488355328 := by rw [HNAME.out]; have := HLEN.out.1; omega
  clear hw h6 hg ha hb
  have x0 := S0.out.cell 0
  simp only [stCells, List.getElem?_cons_zero] at x0
  have S1 := Lib.hid (fun o => S0.out.still (grown_alloc _ o none))
  have y0 := fun o => (S1.out o).cell 0
  simp only [stCells, List.getElem?_cons_zero] at y0
  go_enter Tryz.func64, Tryz.ntmps64
  go_wp2_with fail
  have S2 : Hid (LS w ((w.alloc (.cells #[.int .i64 2, .string (bs name), .int .i64 A.k, .string A.s, .slice A.a A.n A.c, .int .i64 B.k, .string B.s, .slice B.a B.n B.c, .int .i64 rule, .int .i64 n, .int .i64 d, .int .i64 k, .bool snap] 39)).alloc (.cells #[.string ⟨#[]⟩, .string ⟨#[105, 110, 112, 117, 116, 32]⟩, .string ⟨#[108, 101, 116, 32]⟩, .string ⟨#[99, 104, 101, 99, 107, 32]⟩, .string ⟨#[115, 109, 97, 108, 108, 32]⟩, .string ⟨#[119, 114, 105, 116, 101, 32]⟩] 9)) b l ⟨2, name, xa, xb, rule, n, d, k, snap⟩ A B) := S1.out _
  have HW : Hid (World.cell? ((w.alloc (.cells #[.int .i64 2, .string (bs name), .int .i64 A.k, .string A.s, .slice A.a A.n A.c, .int .i64 B.k, .string B.s, .slice B.a B.n B.c, .int .i64 rule, .int .i64 n, .int .i64 d, .int .i64 k, .bool snap] 39)).alloc (.cells #[.string ⟨#[]⟩, .string ⟨#[105, 110, 112, 117, 116, 32]⟩, .string ⟨#[108, 101, 116, 32]⟩, .string ⟨#[99, 104, 101, 99, 107, 32]⟩, .string ⟨#[115, 109, 97, 108, 108, 32]⟩, .string ⟨#[119, 114, 105, 116, 101, 32]⟩] 9)) ⟨w.heap.size + 1, 2, none⟩ = some (.string ⟨#[108, 101, 116, 32]⟩)) := cell_at (w.alloc (.cells #[.int .i64 2, .string (bs name), .int .i64 A.k, .string A.s, .slice A.a A.n A.c, .int .i64 B.k, .string B.s, .slice B.a B.n B.c, .int .i64 rule, .int .i64 n, .int .i64 d, .int .i64 k, .bool snap] 39)) [.string ⟨#[]⟩, .string ⟨#[105, 110, 112, 117, 116, 32]⟩, .string ⟨#[108, 101, 116, 32]⟩, .string ⟨#[99, 104, 101, 99, 107, 32]⟩, .string ⟨#[115, 109, 97, 108, 108, 32]⟩, .string ⟨#[119, 114, 105, 116, 101, 32]⟩] 9 (w.heap.size + 1) (by simp) 2 _ rfl
  clear x0 y0 S0 S1
  generalize ((w.alloc (.cells #[.int .i64 2, .string (bs name), .int .i64 A.k, .string A.s, .slice A.a A.n A.c, .int .i64 B.k, .string B.s, .slice B.a B.n B.c, .int .i64 rule, .int .i64 n, .int .i64 d, .int .i64 k, .bool snap] 39)).alloc (.cells #[.string ⟨#[]⟩, .string ⟨#[105, 110, 112, 117, 116, 32]⟩, .string ⟨#[108, 101, 116, 32]⟩, .string ⟨#[99, 104, 101, 99, 107, 32]⟩, .string ⟨#[115, 109, 97, 108, 108, 32]⟩, .string ⟨#[119, 114, 105, 116, 101, 32]⟩] 9)) = w2 at *
  have x0 := S2.out.cell 0
  have x1 := S2.out.cell 1
  simp only [stCells, List.getElem?_cons_succ, List.getElem?_cons_zero] at x0 x1
  have z2 := HW.out
  have hz1 : ¬ 9223372036854775807 < 4 + (bs name).size := by omega
  have hz2 : ¬ 9223372036854775807 < 4 + (bs name).size + 3 := by omega
  go_still_tail 10, (by kernel_rfl)
  change wpList _ _ _ _ _ w2.drew
  have S3 : Hid (LS w w2.drew b l ⟨2, name, xa, xb, rule, n, d, k, snap⟩ A B) := S2.out.still (grown_drew w2 1 none)
  clear x0 x1 z2 hz1 hz2
  generalize w2.drew = w3 at *
  go_wp2_with fail
  refine (writeString_any b l _ _ S3.out.wb ?_).mono ?_
  · rw [ByteArray.size_append, ByteArray.size_append, HNAME.out]
    have h1 := HLEN.out.1
    have h2 : ∀ p q : Nat, p = 4 → q = 3 → l.length + (p + N + q) ≤ 140737488355328 := by intro p q hp hq; omega
    exact h2 _ _ rfl rfl
  rintro e w4 ⟨⟨v, rfl⟩, hb, hk⟩
  rw [Joins.data_append, Joins.data_append] at hb
  have hb2 : WB w4 b (l ++ L1) := by rw [hL1.out]; exact hb
  have S4 := Lib.hid (S3.out.next hb2 hk)
  clear hb2
  clear hb hk S3 S2 HW
  have x9 := S4.out.cell 9
  have x11 := S4.out.cell 11
  simp only [stCells, List.getElem?_cons_succ, List.getElem?_cons_zero] at x9 x11
  have HD : Hid (w4.grownBy w4.drew none) := grown_drew w4 1 none
  go_wp2_with fail
  go_region_held3 (fun w' => w'.cell? ⟨w.heap.size, 9, none⟩ = some (.int .i64 n) ∧ w'.cell? ⟨w.heap.size, 11, none⟩ = some (.int .i64 k)) (first | exact ⟨x9, x11⟩ | exact ⟨y9, y11⟩ | exact ⟨z9, z11⟩)
    (first
      | (go_at_call 84; refine (itoa_w _ ?_ ?_ _ ?_).mono ?_; (first | exact hrn.out.1.1 | exact hrn.out.2.1); (first | exact hrn.out.1.2 | exact hrn.out.2.2); (first | exact SA.out.gd | exact S4.out.gd.still HD.out); rintro e wi ⟨rfl, hg⟩; (first | (have SF := Lib.hid (SA.out.still hg); have z9 := SF.out.cell 9; have z11 := SF.out.cell 11; simp only [stCells, List.getElem?_cons_succ, List.getElem?_cons_zero] at z9 z11) | (have SA := Lib.hid ((S4.out.still HD.out).still hg); have y9 := SA.out.cell 9; have y11 := SA.out.cell 11; simp only [stCells, List.getElem?_cons_succ, List.getElem?_cons_zero] at y9 y11)); clear hg))
  all_goals
    clear x9 x11 HD
    try clear y9 y11 SA
    try clear z9 z11
    have x0 := SF.out.cell 0
    have x2 := SF.out.cell 2
    have x3 := SF.out.cell 3
    have x4 := SF.out.cell 4
    simp only [stCells, List.getElem?_cons_succ, List.getElem?_cons_zero] at x0 x2 x3 x4
    go_wp2_with fail
    refine (text_any xa 0 b (l ++ L1) _ _ SF.out.wb SF.out.na (by decide) (by decide) ?_).mono ?_
    · rw [List.length_append, hT.out.1, HLEN.out.2]
      have h1 := HLEN.out.1
      omega
    rintro e w6 ⟨rfl, hb6, hk6⟩
    have S6 := Lib.hid (SF.out.next hb6 hk6)
    clear hb6 hk6 SF x0 x2 x3 x4
    go_wp2_with fail
    refine (writeString_any b _ (bs [59, 10]) _ S6.out.wb ?_).mono ?_
    · rw [List.length_append, List.length_append, hT.out.1, HLEN.out.2, bs_size]
      have h1 := HLEN.out.1
      show l.length + (4 + N + 3) + T + 2 ≤ _
      omega
    rintro e w7 ⟨⟨v, rfl⟩, hb7, hk7⟩
    have S7 := Lib.hid (S6.out.next hb7 hk7)
    clear hb7 hk7 S6
    go_wp2
    first | go_end0 | refine bodyPost_ret (results_none rfl _ _ _) rfl ?_
    refine ⟨rfl, ?_, S7.out.kp⟩
    have e : l ++ L2 = l ++ L1 ++ textP xa 0 ++ [59, 10] := by
      rw [hL2.out]; simp only [List.append_assoc]
    rw [e]
    exact S7.out.wb
end Go.Proofs.YtdjklnlkocconaaGreatDoor
