/-
  deck.line: small laws for its walks.
  deck.line at input: the walk.
  deck.line at small: the walks.
  deck.line at write: the walks.
  deck.line at a kind, a rule that is none: the walks.
-/
import Derived.Test.YtdjklnlkocconaaGreatDoorPrintDZ
import Derived.Lib.ItoaLen
namespace Go.Proofs.YtdjklnlkocconaaGreatDoor
open Go Go.RowKit

theorem fit_of {l L : List UInt8} {m : Nat} (h : l.length + L.length ≤ m) : ∀ q p r, L = q ++ p ++ r → (l ++ q).length + p.length ≤ m := by
  intro q p r e
  rw [e] at h
  simp only [List.length_append] at h ⊢
  omega
theorem fit_first {l L p r : List UInt8} {m : Nat} (h : ∀ q p r, L = q ++ p ++ r → (l ++ q).length + p.length ≤ m) (e : L = p ++ r) : l.length + p.length ≤ m := by
  have := h [] p r (by rw [e]; rfl)
  rwa [List.append_nil] at this
theorem txts_cell {w : World} {g j : Nat} {l : List (List UInt8)} {x : List UInt8} (h : w.heap[g]? = some (txts l)) (hx : l[j]? = some x) : w.cell? ⟨g, j, none⟩ = some (.string (bs x)) := by
  unfold World.cell?
  rw [h]
  simp [txts, hx]
theorem ws_p (b : Nat) (l p : List UInt8) (s : ByteArray) (w : World) (h : WB w b l) (hs : s.data.toList = p) (hlen : l.length + p.length ≤ 140737488355328) :
    Calls Tryz.prog 83 #[.pointer (some ⟨b, 0, none⟩), .string s] w fun e w' => (∃ v, e = .returned v) ∧ WB w' b (l ++ p) ∧ Keeps b w w' := by
  have := writeString_any b l s w h (by rw [Lib.size_eq, hs]; exact hlen)
  rwa [hs] at this

end Go.Proofs.YtdjklnlkocconaaGreatDoor

namespace Go.Proofs.YtdjklnlkocconaaGreatDoor
open Go Go.RowKit

set_option maxHeartbeats 4000000 in
set_option maxRecDepth 100000 in
theorem line_input (name : List UInt8) (xa xb : Nd) (rule n d k : Int) (snap : Bool) (A B : NV) (b : Nat) (l L : List UInt8) (w : World) (hw : WB w b l) (h6 : 6 ≤ b) (hg : Good w) (ha : NdIs (· < b) w xa A.val) (hb : NdIs (· < b) w xb B.val) (hrn : Hid (Rng n ∧ Rng d ∧ Rng k))
    (hL : Hid (L = ([105, 110, 112, 117, 116, 32] ++ name ++ [32, 61, 32]) ++ (Lib.itoa n ++ [47] ++ Lib.itoa k) ++ [59, 10])) (hlen : l.length + L.length ≤ 140737488355328) :
    Calls Tryz.prog 64 #[.agg #[.int .i64 1, .string (bs name), .int .i64 A.k, .string A.s, .slice A.a A.n A.c, .int .i64 B.k, .string B.s, .slice B.a B.n B.c, .int .i64 rule, .int .i64 n, .int .i64 d, .int .i64 k, .bool snap], .pointer (some ⟨b, 0, none⟩)] w
      fun e w' => e = .returned (.tuple #[]) ∧ WB w' b (l ++ L) ∧ Keeps b w w' := by
  have S0 := Lib.hid (LS.start (x := ⟨1, name, xa, xb, rule, n, d, k, snap⟩) hw h6 hg ha hb)
  have HT : Hid (∀ q p r, L = q ++ p ++ r → (l ++ q).length + p.length ≤ 140737488355328) := fit_of hlen
  have HNAME : Hid ((bs name).size = name.length) := bs_size _
  have hsz : (bs name).size ≤ 140737488355328 := by rw [HNAME.out]; have := HT.out ([105, 110, 112, 117, 116, 32]) name _ (by first | (rw [hL.out]; done) | (rw [hL.out]; simp <;> rfl)); rw [List.length_append] at this; omega
  have HI : Hid (∀ z : Int, Rng z → (bs (Lib.itoa z)).size ≤ 21) := fun z h => by rw [bs_size]; exact Lib.itoa_length_le z h.1 h.2
  clear hw h6 hg ha hb hlen
  have x0 := S0.out.cell 0
  simp only [stCells, List.getElem?_cons_zero] at x0
  have S1 := Lib.hid (fun o => S0.out.still (grown_alloc _ o none))
  have y0 := fun o => (S1.out o).cell 0
  simp only [stCells, List.getElem?_cons_zero] at y0
  go_enter Tryz.func64, Tryz.ntmps64
  go_wp2_with fail
  have S2 : Hid (LS w ((w.alloc (.cells #[.int .i64 1, .string (bs name), .int .i64 A.k, .string A.s, .slice A.a A.n A.c, .int .i64 B.k, .string B.s, .slice B.a B.n B.c, .int .i64 rule, .int .i64 n, .int .i64 d, .int .i64 k, .bool snap] 39)).alloc (.cells #[.string ⟨#[]⟩, .string ⟨#[105, 110, 112, 117, 116, 32]⟩, .string ⟨#[108, 101, 116, 32]⟩, .string ⟨#[99, 104, 101, 99, 107, 32]⟩, .string ⟨#[115, 109, 97, 108, 108, 32]⟩, .string ⟨#[119, 114, 105, 116, 101, 32]⟩] 9)) b l ⟨1, name, xa, xb, rule, n, d, k, snap⟩ A B) := S1.out _
  have HW : Hid (World.cell? ((w.alloc (.cells #[.int .i64 1, .string (bs name), .int .i64 A.k, .string A.s, .slice A.a A.n A.c, .int .i64 B.k, .string B.s, .slice B.a B.n B.c, .int .i64 rule, .int .i64 n, .int .i64 d, .int .i64 k, .bool snap] 39)).alloc (.cells #[.string ⟨#[]⟩, .string ⟨#[105, 110, 112, 117, 116, 32]⟩, .string ⟨#[108, 101, 116, 32]⟩, .string ⟨#[99, 104, 101, 99, 107, 32]⟩, .string ⟨#[115, 109, 97, 108, 108, 32]⟩, .string ⟨#[119, 114, 105, 116, 101, 32]⟩] 9)) ⟨w.heap.size + 1, 1, none⟩ = some (.string ⟨#[105, 110, 112, 117, 116, 32]⟩)) := cell_at (w.alloc (.cells #[.int .i64 1, .string (bs name), .int .i64 A.k, .string A.s, .slice A.a A.n A.c, .int .i64 B.k, .string B.s, .slice B.a B.n B.c, .int .i64 rule, .int .i64 n, .int .i64 d, .int .i64 k, .bool snap] 39)) [.string ⟨#[]⟩, .string ⟨#[105, 110, 112, 117, 116, 32]⟩, .string ⟨#[108, 101, 116, 32]⟩, .string ⟨#[99, 104, 101, 99, 107, 32]⟩, .string ⟨#[115, 109, 97, 108, 108, 32]⟩, .string ⟨#[119, 114, 105, 116, 101, 32]⟩] 9 (w.heap.size + 1) (by simp) 1 _ rfl
  clear x0 y0 S0 S1
  generalize ((w.alloc (.cells #[.int .i64 1, .string (bs name), .int .i64 A.k, .string A.s, .slice A.a A.n A.c, .int .i64 B.k, .string B.s, .slice B.a B.n B.c, .int .i64 rule, .int .i64 n, .int .i64 d, .int .i64 k, .bool snap] 39)).alloc (.cells #[.string ⟨#[]⟩, .string ⟨#[105, 110, 112, 117, 116, 32]⟩, .string ⟨#[108, 101, 116, 32]⟩, .string ⟨#[99, 104, 101, 99, 107, 32]⟩, .string ⟨#[115, 109, 97, 108, 108, 32]⟩, .string ⟨#[119, 114, 105, 116, 101, 32]⟩] 9)) = w2 at *
  have x0 := S2.out.cell 0
  have x1 := S2.out.cell 1
  simp only [stCells, List.getElem?_cons_succ, List.getElem?_cons_zero] at x0 x1
  have z2 := HW.out
  have hz1 : ¬ 9223372036854775807 < 6 + (bs name).size := by omega
  have hz2 : ¬ 9223372036854775807 < 6 + (bs name).size + 3 := by omega
  go_still_tail 10, (by kernel_rfl)
  change wpList _ _ _ _ _ w2.drew
  have S3 : Hid (LS w w2.drew b l ⟨1, name, xa, xb, rule, n, d, k, snap⟩ A B) := S2.out.still (grown_drew w2 1 none)
  clear x0 x1
  clear z2 hz1 hz2
  generalize w2.drew = w3 at *
  go_wp2_with fail
  refine (ws_p b l ([105, 110, 112, 117, 116, 32] ++ name ++ [32, 61, 32]) _ _ S3.out.wb (by rw [Joins.data_append, Joins.data_append]; rfl) (fit_first HT.out (by first | (rw [hL.out]; done) | (rw [hL.out]; simp <;> rfl)))).mono ?_
  rintro e w4 ⟨⟨v, rfl⟩, hb, hk⟩
  have S4 := Lib.hid (S3.out.next hb hk)
  clear hb hk S3 S2 HW
  have x9 := S4.out.cell 9
  have x11 := S4.out.cell 11
  simp only [stCells, List.getElem?_cons_succ, List.getElem?_cons_zero] at x9 x11
  have HD : Hid (w4.grownBy w4.drew none) := grown_drew w4 1 none
  go_wp2_with fail
  go_region_held3 (fun w' => w'.cell? ⟨w.heap.size, 9, none⟩ = some (.int .i64 n) ∧ w'.cell? ⟨w.heap.size, 11, none⟩ = some (.int .i64 k)) (first | exact ⟨x9, x11⟩ | exact ⟨y9, y11⟩ | exact ⟨z9, z11⟩)
    (first
      | (go_at_call 84; refine (itoa_w _ ?_ ?_ _ ?_).mono ?_; (first | exact hrn.out.1.1 | exact hrn.out.2.2.1); (first | exact hrn.out.1.2 | exact hrn.out.2.2.2); (first | exact SA.out.gd | exact S4.out.gd.still HD.out); rintro e wi ⟨rfl, hg⟩; (first | (have SF := Lib.hid (SA.out.still hg); have z9 := SF.out.cell 9; have z11 := SF.out.cell 11; simp only [stCells, List.getElem?_cons_succ, List.getElem?_cons_zero] at z9 z11) | (have SA := Lib.hid ((S4.out.still HD.out).still hg); have y9 := SA.out.cell 9; have y11 := SA.out.cell 11; simp only [stCells, List.getElem?_cons_succ, List.getElem?_cons_zero] at y9 y11)); clear hg))
  all_goals
    clear x9 x11 HD
    try clear y9 y11 SA
    try clear z9 z11
    have hsn := HI.out n hrn.out.1
    have hsk := HI.out k hrn.out.2.2
    have x0 := SF.out.cell 0
    simp only [stCells, List.getElem?_cons_zero] at x0
    go_wp2_with fail
    refine (ws_p b _ (Lib.itoa n ++ [47] ++ Lib.itoa k) _ _ SF.out.wb (by rw [Joins.data_append, Joins.data_append] <;> rfl) (HT.out (([105, 110, 112, 117, 116, 32] ++ name ++ [32, 61, 32])) _ _ (by first | (rw [hL.out]; done) | (rw [hL.out]; simp <;> rfl)))).mono ?_
    rintro e v11 ⟨⟨v, rfl⟩, hb, hk⟩
    have hb' := hb; rw [List.append_assoc] at hb'
    have S11 : Hid (LS w v11 b (l ++ (([105, 110, 112, 117, 116, 32] ++ name ++ [32, 61, 32]) ++ (Lib.itoa n ++ [47] ++ Lib.itoa k))) ⟨1, name, xa, xb, rule, n, d, k, snap⟩ A B) := SF.out.next hb' hk
    clear hb hb' hk SF
    clear x0
    go_wp2_with fail
    refine (ws_p b _ [59, 10] _ _ S11.out.wb (by rfl) (HT.out (([105, 110, 112, 117, 116, 32] ++ name ++ [32, 61, 32]) ++ (Lib.itoa n ++ [47] ++ Lib.itoa k)) _ _ (by first | (rw [hL.out]; done) | (rw [hL.out]; simp <;> rfl)))).mono ?_
    rintro e v12 ⟨⟨v, rfl⟩, hb, hk⟩
    have hb' := hb; rw [List.append_assoc] at hb'
    have S12 : Hid (LS w v12 b (l ++ (([105, 110, 112, 117, 116, 32] ++ name ++ [32, 61, 32]) ++ (Lib.itoa n ++ [47] ++ Lib.itoa k) ++ [59, 10])) ⟨1, name, xa, xb, rule, n, d, k, snap⟩ A B) := S11.out.next hb' hk
    clear hb hb' hk S11
    go_wp2
    first | go_end0 | refine bodyPost_ret (results_none rfl _ _ _) rfl ?_
    refine ⟨rfl, ?_, S12.out.kp⟩
    have h := S12.out.wb
    rw [hL.out]
    simpa using h
end Go.Proofs.YtdjklnlkocconaaGreatDoor

namespace Go.Proofs.YtdjklnlkocconaaGreatDoor
open Go Go.RowKit

set_option maxHeartbeats 4000000 in
set_option maxRecDepth 100000 in
theorem line_small1 (name : List UInt8) (xa xb : Nd) (rule n d k : Int) (snap : Bool) (A B : NV) (b : Nat) (l L : List UInt8) (w : World) (hw : WB w b l) (h6 : 6 ≤ b) (hg : Good w) (ha : NdIs (· < b) w xa A.val) (hb : NdIs (· < b) w xb B.val) (hrn : Hid (Rng n ∧ Rng d ∧ Rng k)) (h3 : (d != 1) = false)
    (hL : Hid (L = ([115, 109, 97, 108, 108, 32] ++ name ++ [32, 61, 32]) ++ textP xa 0 ++ ([44, 32] ++ Lib.itoa n) ++ [59, 10])) (hlen : l.length + L.length ≤ 140737488355328) :
    Calls Tryz.prog 64 #[.agg #[.int .i64 4, .string (bs name), .int .i64 A.k, .string A.s, .slice A.a A.n A.c, .int .i64 B.k, .string B.s, .slice B.a B.n B.c, .int .i64 rule, .int .i64 n, .int .i64 d, .int .i64 k, .bool snap], .pointer (some ⟨b, 0, none⟩)] w
      fun e w' => e = .returned (.tuple #[]) ∧ WB w' b (l ++ L) ∧ Keeps b w w' := by
  have S0 := Lib.hid (LS.start (x := ⟨4, name, xa, xb, rule, n, d, k, snap⟩) hw h6 hg ha hb)
  have HT : Hid (∀ q p r, L = q ++ p ++ r → (l ++ q).length + p.length ≤ 140737488355328) := fit_of hlen
  have HNAME : Hid ((bs name).size = name.length) := bs_size _
  have hsz : (bs name).size ≤ 140737488355328 := by rw [HNAME.out]; have := HT.out ([115, 109, 97, 108, 108, 32]) name _ (by first | (rw [hL.out]; done) | (rw [hL.out]; simp <;> rfl)); rw [List.length_append] at this; omega
  have HI : Hid (∀ z : Int, Rng z → (bs (Lib.itoa z)).size ≤ 21) := fun z h => by rw [bs_size]; exact Lib.itoa_length_le z h.1 h.2
  clear hw h6 hg ha hb hlen
  have x0 := S0.out.cell 0
  simp only [stCells, List.getElem?_cons_zero] at x0
  have S1 := Lib.hid (fun o => S0.out.still (grown_alloc _ o none))
  have y0 := fun o => (S1.out o).cell 0
  simp only [stCells, List.getElem?_cons_zero] at y0
  go_enter Tryz.func64, Tryz.ntmps64
  go_wp2_with fail
  have S2 : Hid (LS w ((w.alloc (.cells #[.int .i64 4, .string (bs name), .int .i64 A.k, .string A.s, .slice A.a A.n A.c, .int .i64 B.k, .string B.s, .slice B.a B.n B.c, .int .i64 rule, .int .i64 n, .int .i64 d, .int .i64 k, .bool snap] 39)).alloc (.cells #[.string ⟨#[]⟩, .string ⟨#[105, 110, 112, 117, 116, 32]⟩, .string ⟨#[108, 101, 116, 32]⟩, .string ⟨#[99, 104, 101, 99, 107, 32]⟩, .string ⟨#[115, 109, 97, 108, 108, 32]⟩, .string ⟨#[119, 114, 105, 116, 101, 32]⟩] 9)) b l ⟨4, name, xa, xb, rule, n, d, k, snap⟩ A B) := S1.out _
  have HW : Hid (World.cell? ((w.alloc (.cells #[.int .i64 4, .string (bs name), .int .i64 A.k, .string A.s, .slice A.a A.n A.c, .int .i64 B.k, .string B.s, .slice B.a B.n B.c, .int .i64 rule, .int .i64 n, .int .i64 d, .int .i64 k, .bool snap] 39)).alloc (.cells #[.string ⟨#[]⟩, .string ⟨#[105, 110, 112, 117, 116, 32]⟩, .string ⟨#[108, 101, 116, 32]⟩, .string ⟨#[99, 104, 101, 99, 107, 32]⟩, .string ⟨#[115, 109, 97, 108, 108, 32]⟩, .string ⟨#[119, 114, 105, 116, 101, 32]⟩] 9)) ⟨w.heap.size + 1, 4, none⟩ = some (.string ⟨#[115, 109, 97, 108, 108, 32]⟩)) := cell_at (w.alloc (.cells #[.int .i64 4, .string (bs name), .int .i64 A.k, .string A.s, .slice A.a A.n A.c, .int .i64 B.k, .string B.s, .slice B.a B.n B.c, .int .i64 rule, .int .i64 n, .int .i64 d, .int .i64 k, .bool snap] 39)) [.string ⟨#[]⟩, .string ⟨#[105, 110, 112, 117, 116, 32]⟩, .string ⟨#[108, 101, 116, 32]⟩, .string ⟨#[99, 104, 101, 99, 107, 32]⟩, .string ⟨#[115, 109, 97, 108, 108, 32]⟩, .string ⟨#[119, 114, 105, 116, 101, 32]⟩] 9 (w.heap.size + 1) (by simp) 4 _ rfl
  clear x0 y0 S0 S1
  generalize ((w.alloc (.cells #[.int .i64 4, .string (bs name), .int .i64 A.k, .string A.s, .slice A.a A.n A.c, .int .i64 B.k, .string B.s, .slice B.a B.n B.c, .int .i64 rule, .int .i64 n, .int .i64 d, .int .i64 k, .bool snap] 39)).alloc (.cells #[.string ⟨#[]⟩, .string ⟨#[105, 110, 112, 117, 116, 32]⟩, .string ⟨#[108, 101, 116, 32]⟩, .string ⟨#[99, 104, 101, 99, 107, 32]⟩, .string ⟨#[115, 109, 97, 108, 108, 32]⟩, .string ⟨#[119, 114, 105, 116, 101, 32]⟩] 9)) = w2 at *
  have x0 := S2.out.cell 0
  have x1 := S2.out.cell 1
  simp only [stCells, List.getElem?_cons_succ, List.getElem?_cons_zero] at x0 x1
  have z2 := HW.out
  have hz1 : ¬ 9223372036854775807 < 6 + (bs name).size := by omega
  have hz2 : ¬ 9223372036854775807 < 6 + (bs name).size + 3 := by omega
  go_still_tail 10, (by kernel_rfl)
  change wpList _ _ _ _ _ w2.drew
  have S3 : Hid (LS w w2.drew b l ⟨4, name, xa, xb, rule, n, d, k, snap⟩ A B) := S2.out.still (grown_drew w2 1 none)
  clear x0 x1
  clear z2 hz1 hz2
  generalize w2.drew = w3 at *
  go_wp2_with fail
  refine (ws_p b l ([115, 109, 97, 108, 108, 32] ++ name ++ [32, 61, 32]) _ _ S3.out.wb (by rw [Joins.data_append, Joins.data_append]; rfl) (fit_first HT.out (by first | (rw [hL.out]; done) | (rw [hL.out]; simp <;> rfl)))).mono ?_
  rintro e w4 ⟨⟨v, rfl⟩, hb, hk⟩
  have S4 := Lib.hid (S3.out.next hb hk)
  clear hb hk S3 S2 HW
  have x9 := S4.out.cell 9
  have x11 := S4.out.cell 11
  simp only [stCells, List.getElem?_cons_succ, List.getElem?_cons_zero] at x9 x11
  have HD : Hid (w4.grownBy w4.drew none) := grown_drew w4 1 none
  go_wp2_with fail
  go_region_held3 (fun w' => w'.cell? ⟨w.heap.size, 9, none⟩ = some (.int .i64 n) ∧ w'.cell? ⟨w.heap.size, 11, none⟩ = some (.int .i64 k)) (first | exact ⟨x9, x11⟩ | exact ⟨y9, y11⟩ | exact ⟨z9, z11⟩)
    (first
      | (go_at_call 84; refine (itoa_w _ ?_ ?_ _ ?_).mono ?_; (first | exact hrn.out.1.1 | exact hrn.out.2.2.1); (first | exact hrn.out.1.2 | exact hrn.out.2.2.2); (first | exact SA.out.gd | exact S4.out.gd.still HD.out); rintro e wi ⟨rfl, hg⟩; (first | (have SF := Lib.hid (SA.out.still hg); have z9 := SF.out.cell 9; have z11 := SF.out.cell 11; simp only [stCells, List.getElem?_cons_succ, List.getElem?_cons_zero] at z9 z11) | (have SA := Lib.hid ((S4.out.still HD.out).still hg); have y9 := SA.out.cell 9; have y11 := SA.out.cell 11; simp only [stCells, List.getElem?_cons_succ, List.getElem?_cons_zero] at y9 y11)); clear hg))
  all_goals
    clear x9 x11 HD
    try clear y9 y11 SA
    try clear z9 z11
    have hsn := HI.out n hrn.out.1
    have hsk := HI.out k hrn.out.2.2
    have x0 := SF.out.cell 0
    have x2 := SF.out.cell 2
    have x3 := SF.out.cell 3
    have x4 := SF.out.cell 4
    simp only [stCells, List.getElem?_cons_succ, List.getElem?_cons_zero] at x0 x2 x3 x4
    go_wp2_with fail
    refine (text_any xa 0 b _ _ _ SF.out.wb SF.out.na (by decide) (by decide) (HT.out (([115, 109, 97, 108, 108, 32] ++ name ++ [32, 61, 32])) _ _ (by first | (rw [hL.out]; done) | (rw [hL.out]; simp <;> rfl)))).mono ?_
    rintro e v11 ⟨rfl, hb, hk⟩
    have hb' := hb; rw [List.append_assoc] at hb'
    have S11 : Hid (LS w v11 b (l ++ (([115, 109, 97, 108, 108, 32] ++ name ++ [32, 61, 32]) ++ textP xa 0)) ⟨4, name, xa, xb, rule, n, d, k, snap⟩ A B) := SF.out.next hb' hk
    clear hb hb' hk SF
    clear x0 x2 x3 x4
    go_wp2_with fail
    refine (ws_p b _ ([44, 32] ++ Lib.itoa n) _ _ S11.out.wb (by rw [Joins.data_append] <;> rfl) (HT.out (([115, 109, 97, 108, 108, 32] ++ name ++ [32, 61, 32]) ++ textP xa 0) _ _ (by first | (rw [hL.out]; done) | (rw [hL.out]; simp <;> rfl)))).mono ?_
    rintro e v12 ⟨⟨v, rfl⟩, hb, hk⟩
    have hb' := hb; rw [List.append_assoc] at hb'
    have S12 : Hid (LS w v12 b (l ++ (([115, 109, 97, 108, 108, 32] ++ name ++ [32, 61, 32]) ++ textP xa 0 ++ ([44, 32] ++ Lib.itoa n))) ⟨4, name, xa, xb, rule, n, d, k, snap⟩ A B) := S11.out.next hb' hk
    clear hb hb' hk S11
    have x10 := S12.out.cell 10
    simp only [stCells, List.getElem?_cons_succ, List.getElem?_cons_zero] at x10
    go_wp2_with fail
    refine (ws_p b _ [59, 10] _ _ S12.out.wb (by rfl) (HT.out (([115, 109, 97, 108, 108, 32] ++ name ++ [32, 61, 32]) ++ textP xa 0 ++ ([44, 32] ++ Lib.itoa n)) _ _ (by first | (rw [hL.out]; done) | (rw [hL.out]; simp <;> rfl)))).mono ?_
    rintro e v13 ⟨⟨v, rfl⟩, hb, hk⟩
    have hb' := hb; rw [List.append_assoc] at hb'
    have S13 : Hid (LS w v13 b (l ++ (([115, 109, 97, 108, 108, 32] ++ name ++ [32, 61, 32]) ++ textP xa 0 ++ ([44, 32] ++ Lib.itoa n) ++ [59, 10])) ⟨4, name, xa, xb, rule, n, d, k, snap⟩ A B) := S12.out.next hb' hk
    clear hb hb' hk S12
    clear x10
    go_wp2
    first | go_end0 | refine bodyPost_ret (results_none rfl _ _ _) rfl ?_
    refine ⟨rfl, ?_, S13.out.kp⟩
    have h := S13.out.wb
    rw [hL.out]
    simpa using h

set_option maxHeartbeats 4000000 in
set_option maxRecDepth 100000 in
theorem line_small2 (name : List UInt8) (xa xb : Nd) (rule n d k : Int) (snap : Bool) (A B : NV) (b : Nat) (l L : List UInt8) (w : World) (hw : WB w b l) (h6 : 6 ≤ b) (hg : Good w) (ha : NdIs (· < b) w xa A.val) (hb : NdIs (· < b) w xb B.val) (hrn : Hid (Rng n ∧ Rng d ∧ Rng k)) (h3 : (d != 1) = true)
    (hL : Hid (L = ([115, 109, 97, 108, 108, 32] ++ name ++ [32, 61, 32]) ++ textP xa 0 ++ ([44, 32] ++ Lib.itoa n) ++ ([47] ++ Lib.itoa d) ++ [59, 10])) (hlen : l.length + L.length ≤ 140737488355328) :
    Calls Tryz.prog 64 #[.agg #[.int .i64 4, .string (bs name), .int .i64 A.k, .string A.s, .slice A.a A.n A.c, .int .i64 B.k, .string B.s, .slice B.a B.n B.c, .int .i64 rule, .int .i64 n, .int .i64 d, .int .i64 k, .bool snap], .pointer (some ⟨b, 0, none⟩)] w
      fun e w' => e = .returned (.tuple #[]) ∧ WB w' b (l ++ L) ∧ Keeps b w w' := by
  have S0 := Lib.hid (LS.start (x := ⟨4, name, xa, xb, rule, n, d, k, snap⟩) hw h6 hg ha hb)
  have HT : Hid (∀ q p r, L = q ++ p ++ r → (l ++ q).length + p.length ≤ 140737488355328) := fit_of hlen
  have HNAME : Hid ((bs name).size = name.length) := bs_size _
  have hsz : (bs name).size ≤ 140737488355328 := by rw [HNAME.out]; have := HT.out ([115, 109, 97, 108, 108, 32]) name _ (by first | (rw [hL.out]; done) | (rw [hL.out]; simp <;> rfl)); rw [List.length_append] at this; omega
  have HI : Hid (∀ z : Int, Rng z → (bs (Lib.itoa z)).size ≤ 21) := fun z h => by rw [bs_size]; exact Lib.itoa_length_le z h.1 h.2
  clear hw h6 hg ha hb hlen
  have x0 := S0.out.cell 0
  simp only [stCells, List.getElem?_cons_zero] at x0
  have S1 := Lib.hid (fun o => S0.out.still (grown_alloc _ o none))
  have y0 := fun o => (S1.out o).cell 0
  simp only [stCells, List.getElem?_cons_zero] at y0
  go_enter Tryz.func64, Tryz.ntmps64
  go_wp2_with fail
  have S2 : Hid (LS w ((w.alloc (.cells #[.int .i64 4, .string (bs name), .int .i64 A.k, .string A.s, .slice A.a A.n A.c, .int .i64 B.k, .string B.s, .slice B.a B.n B.c, .int .i64 rule, .int .i64 n, .int .i64 d, .int .i64 k, .bool snap] 39)).alloc (.cells #[.string ⟨#[]⟩, .string ⟨#[105, 110, 112, 117, 116, 32]⟩, .string ⟨#[108, 101, 116, 32]⟩, .string ⟨#[99, 104, 101, 99, 107, 32]⟩, .string ⟨#[115, 109, 97, 108, 108, 32]⟩, .string ⟨#[119, 114, 105, 116, 101, 32]⟩] 9)) b l ⟨4, name, xa, xb, rule, n, d, k, snap⟩ A B) := S1.out _
  have HW : Hid (World.cell? ((w.alloc (.cells #[.int .i64 4, .string (bs name), .int .i64 A.k, .string A.s, .slice A.a A.n A.c, .int .i64 B.k, .string B.s, .slice B.a B.n B.c, .int .i64 rule, .int .i64 n, .int .i64 d, .int .i64 k, .bool snap] 39)).alloc (.cells #[.string ⟨#[]⟩, .string ⟨#[105, 110, 112, 117, 116, 32]⟩, .string ⟨#[108, 101, 116, 32]⟩, .string ⟨#[99, 104, 101, 99, 107, 32]⟩, .string ⟨#[115, 109, 97, 108, 108, 32]⟩, .string ⟨#[119, 114, 105, 116, 101, 32]⟩] 9)) ⟨w.heap.size + 1, 4, none⟩ = some (.string ⟨#[115, 109, 97, 108, 108, 32]⟩)) := cell_at (w.alloc (.cells #[.int .i64 4, .string (bs name), .int .i64 A.k, .string A.s, .slice A.a A.n A.c, .int .i64 B.k, .string B.s, .slice B.a B.n B.c, .int .i64 rule, .int .i64 n, .int .i64 d, .int .i64 k, .bool snap] 39)) [.string ⟨#[]⟩, .string ⟨#[105, 110, 112, 117, 116, 32]⟩, .string ⟨#[108, 101, 116, 32]⟩, .string ⟨#[99, 104, 101, 99, 107, 32]⟩, .string ⟨#[115, 109, 97, 108, 108, 32]⟩, .string ⟨#[119, 114, 105, 116, 101, 32]⟩] 9 (w.heap.size + 1) (by simp) 4 _ rfl
  clear x0 y0 S0 S1
  generalize ((w.alloc (.cells #[.int .i64 4, .string (bs name), .int .i64 A.k, .string A.s, .slice A.a A.n A.c, .int .i64 B.k, .string B.s, .slice B.a B.n B.c, .int .i64 rule, .int .i64 n, .int .i64 d, .int .i64 k, .bool snap] 39)).alloc (.cells #[.string ⟨#[]⟩, .string ⟨#[105, 110, 112, 117, 116, 32]⟩, .string ⟨#[108, 101, 116, 32]⟩, .string ⟨#[99, 104, 101, 99, 107, 32]⟩, .string ⟨#[115, 109, 97, 108, 108, 32]⟩, .string ⟨#[119, 114, 105, 116, 101, 32]⟩] 9)) = w2 at *
  have x0 := S2.out.cell 0
  have x1 := S2.out.cell 1
  simp only [stCells, List.getElem?_cons_succ, List.getElem?_cons_zero] at x0 x1
  have z2 := HW.out
  have hz1 : ¬ 9223372036854775807 < 6 + (bs name).size := by omega
  have hz2 : ¬ 9223372036854775807 < 6 + (bs name).size + 3 := by omega
  go_still_tail 10, (by kernel_rfl)
  change wpList _ _ _ _ _ w2.drew
  have S3 : Hid (LS w w2.drew b l ⟨4, name, xa, xb, rule, n, d, k, snap⟩ A B) := S2.out.still (grown_drew w2 1 none)
  clear x0 x1
  clear z2 hz1 hz2
  generalize w2.drew = w3 at *
  go_wp2_with fail
  refine (ws_p b l ([115, 109, 97, 108, 108, 32] ++ name ++ [32, 61, 32]) _ _ S3.out.wb (by rw [Joins.data_append, Joins.data_append]; rfl) (fit_first HT.out (by first | (rw [hL.out]; done) | (rw [hL.out]; simp <;> rfl)))).mono ?_
  rintro e w4 ⟨⟨v, rfl⟩, hb, hk⟩
  have S4 := Lib.hid (S3.out.next hb hk)
  clear hb hk S3 S2 HW
  have x9 := S4.out.cell 9
  have x11 := S4.out.cell 11
  simp only [stCells, List.getElem?_cons_succ, List.getElem?_cons_zero] at x9 x11
  have HD : Hid (w4.grownBy w4.drew none) := grown_drew w4 1 none
  go_wp2_with fail
  go_region_held3 (fun w' => w'.cell? ⟨w.heap.size, 9, none⟩ = some (.int .i64 n) ∧ w'.cell? ⟨w.heap.size, 11, none⟩ = some (.int .i64 k)) (first | exact ⟨x9, x11⟩ | exact ⟨y9, y11⟩ | exact ⟨z9, z11⟩)
    (first
      | (go_at_call 84; refine (itoa_w _ ?_ ?_ _ ?_).mono ?_; (first | exact hrn.out.1.1 | exact hrn.out.2.2.1); (first | exact hrn.out.1.2 | exact hrn.out.2.2.2); (first | exact SA.out.gd | exact S4.out.gd.still HD.out); rintro e wi ⟨rfl, hg⟩; (first | (have SF := Lib.hid (SA.out.still hg); have z9 := SF.out.cell 9; have z11 := SF.out.cell 11; simp only [stCells, List.getElem?_cons_succ, List.getElem?_cons_zero] at z9 z11) | (have SA := Lib.hid ((S4.out.still HD.out).still hg); have y9 := SA.out.cell 9; have y11 := SA.out.cell 11; simp only [stCells, List.getElem?_cons_succ, List.getElem?_cons_zero] at y9 y11)); clear hg))
  all_goals
    clear x9 x11 HD
    try clear y9 y11 SA
    try clear z9 z11
    have hsn := HI.out n hrn.out.1
    have hsk := HI.out k hrn.out.2.2
    have x0 := SF.out.cell 0
    have x2 := SF.out.cell 2
    have x3 := SF.out.cell 3
    have x4 := SF.out.cell 4
    simp only [stCells, List.getElem?_cons_succ, List.getElem?_cons_zero] at x0 x2 x3 x4
    go_wp2_with fail
    refine (text_any xa 0 b _ _ _ SF.out.wb SF.out.na (by decide) (by decide) (HT.out (([115, 109, 97, 108, 108, 32] ++ name ++ [32, 61, 32])) _ _ (by first | (rw [hL.out]; done) | (rw [hL.out]; simp <;> rfl)))).mono ?_
    rintro e v11 ⟨rfl, hb, hk⟩
    have hb' := hb; rw [List.append_assoc] at hb'
    have S11 : Hid (LS w v11 b (l ++ (([115, 109, 97, 108, 108, 32] ++ name ++ [32, 61, 32]) ++ textP xa 0)) ⟨4, name, xa, xb, rule, n, d, k, snap⟩ A B) := SF.out.next hb' hk
    clear hb hb' hk SF
    clear x0 x2 x3 x4
    go_wp2_with fail
    refine (ws_p b _ ([44, 32] ++ Lib.itoa n) _ _ S11.out.wb (by rw [Joins.data_append] <;> rfl) (HT.out (([115, 109, 97, 108, 108, 32] ++ name ++ [32, 61, 32]) ++ textP xa 0) _ _ (by first | (rw [hL.out]; done) | (rw [hL.out]; simp <;> rfl)))).mono ?_
    rintro e v12 ⟨⟨v, rfl⟩, hb, hk⟩
    have hb' := hb; rw [List.append_assoc] at hb'
    have S12 : Hid (LS w v12 b (l ++ (([115, 109, 97, 108, 108, 32] ++ name ++ [32, 61, 32]) ++ textP xa 0 ++ ([44, 32] ++ Lib.itoa n))) ⟨4, name, xa, xb, rule, n, d, k, snap⟩ A B) := S11.out.next hb' hk
    clear hb hb' hk S11
    have x10 := S12.out.cell 10
    simp only [stCells, List.getElem?_cons_succ, List.getElem?_cons_zero] at x10
    have hsd := HI.out d hrn.out.2.1
    go_wp2_with fail
    refine (itoa_w _ hrn.out.2.1.1 hrn.out.2.1.2 _ S12.out.gd).mono ?_
    rintro e vi ⟨rfl, hg⟩
    have SI := Lib.hid (S12.out.still hg)
    clear hg S12
    clear x10
    go_wp2_with fail
    refine (ws_p b _ ([47] ++ Lib.itoa d) _ _ SI.out.wb (by rw [Joins.data_append] <;> rfl) (HT.out (([115, 109, 97, 108, 108, 32] ++ name ++ [32, 61, 32]) ++ textP xa 0 ++ ([44, 32] ++ Lib.itoa n)) _ _ (by first | (rw [hL.out]; done) | (rw [hL.out]; simp <;> rfl)))).mono ?_
    rintro e v13 ⟨⟨v, rfl⟩, hb, hk⟩
    have hb' := hb; rw [List.append_assoc] at hb'
    have S13 : Hid (LS w v13 b (l ++ (([115, 109, 97, 108, 108, 32] ++ name ++ [32, 61, 32]) ++ textP xa 0 ++ ([44, 32] ++ Lib.itoa n) ++ ([47] ++ Lib.itoa d))) ⟨4, name, xa, xb, rule, n, d, k, snap⟩ A B) := SI.out.next hb' hk
    clear hb hb' hk SI
    go_wp2_with fail
    refine (ws_p b _ [59, 10] _ _ S13.out.wb (by rfl) (HT.out (([115, 109, 97, 108, 108, 32] ++ name ++ [32, 61, 32]) ++ textP xa 0 ++ ([44, 32] ++ Lib.itoa n) ++ ([47] ++ Lib.itoa d)) _ _ (by first | (rw [hL.out]; done) | (rw [hL.out]; simp <;> rfl)))).mono ?_
    rintro e v14 ⟨⟨v, rfl⟩, hb, hk⟩
    have hb' := hb; rw [List.append_assoc] at hb'
    have S14 : Hid (LS w v14 b (l ++ (([115, 109, 97, 108, 108, 32] ++ name ++ [32, 61, 32]) ++ textP xa 0 ++ ([44, 32] ++ Lib.itoa n) ++ ([47] ++ Lib.itoa d) ++ [59, 10])) ⟨4, name, xa, xb, rule, n, d, k, snap⟩ A B) := S13.out.next hb' hk
    clear hb hb' hk S13
    go_wp2
    first | go_end0 | refine bodyPost_ret (results_none rfl _ _ _) rfl ?_
    refine ⟨rfl, ?_, S14.out.kp⟩
    have h := S14.out.wb
    rw [hL.out]
    simpa using h
end Go.Proofs.YtdjklnlkocconaaGreatDoor

namespace Go.Proofs.YtdjklnlkocconaaGreatDoor
open Go Go.RowKit

set_option maxHeartbeats 4000000 in
set_option maxRecDepth 100000 in
theorem line_write1 (name : List UInt8) (xa xb : Nd) (rule n d k : Int) (snap : Bool) (A B : NV) (b : Nat) (l L : List UInt8) (w : World) (hw : WB w b l) (h6 : 6 ≤ b) (hg : Good w) (ha : NdIs (· < b) w xa A.val) (hb : NdIs (· < b) w xb B.val) (hrn : Hid (Rng n ∧ Rng d ∧ Rng k)) (hsp : Hid (snap = false))
    (hL : Hid (L = ([119, 114, 105, 116, 101, 32] ++ name ++ [32, 61, 32]) ++ textP xa 0 ++ ([44, 32] ++ Lib.itoa n ++ [47] ++ Lib.itoa k) ++ [59, 10])) (hlen : l.length + L.length ≤ 140737488355328) :
    Calls Tryz.prog 64 #[.agg #[.int .i64 5, .string (bs name), .int .i64 A.k, .string A.s, .slice A.a A.n A.c, .int .i64 B.k, .string B.s, .slice B.a B.n B.c, .int .i64 rule, .int .i64 n, .int .i64 d, .int .i64 k, .bool snap], .pointer (some ⟨b, 0, none⟩)] w
      fun e w' => e = .returned (.tuple #[]) ∧ WB w' b (l ++ L) ∧ Keeps b w w' := by
  have S0 := Lib.hid (LS.start (x := ⟨5, name, xa, xb, rule, n, d, k, snap⟩) hw h6 hg ha hb)
  have HT : Hid (∀ q p r, L = q ++ p ++ r → (l ++ q).length + p.length ≤ 140737488355328) := fit_of hlen
  have HNAME : Hid ((bs name).size = name.length) := bs_size _
  have hsz : (bs name).size ≤ 140737488355328 := by rw [HNAME.out]; have := HT.out ([119, 114, 105, 116, 101, 32]) name _ (by first | (rw [hL.out]; done) | (rw [hL.out]; simp <;> rfl)); rw [List.length_append] at this; omega
  have HI : Hid (∀ z : Int, Rng z → (bs (Lib.itoa z)).size ≤ 21) := fun z h => by rw [bs_size]; exact Lib.itoa_length_le z h.1 h.2
  clear hw h6 hg ha hb hlen
  have x0 := S0.out.cell 0
  simp only [stCells, List.getElem?_cons_zero] at x0
  have S1 := Lib.hid (fun o => S0.out.still (grown_alloc _ o none))
  have y0 := fun o => (S1.out o).cell 0
  simp only [stCells, List.getElem?_cons_zero] at y0
  go_enter Tryz.func64, Tryz.ntmps64
  go_wp2_with fail
  have S2 : Hid (LS w ((w.alloc (.cells #[.int .i64 5, .string (bs name), .int .i64 A.k, .string A.s, .slice A.a A.n A.c, .int .i64 B.k, .string B.s, .slice B.a B.n B.c, .int .i64 rule, .int .i64 n, .int .i64 d, .int .i64 k, .bool snap] 39)).alloc (.cells #[.string ⟨#[]⟩, .string ⟨#[105, 110, 112, 117, 116, 32]⟩, .string ⟨#[108, 101, 116, 32]⟩, .string ⟨#[99, 104, 101, 99, 107, 32]⟩, .string ⟨#[115, 109, 97, 108, 108, 32]⟩, .string ⟨#[119, 114, 105, 116, 101, 32]⟩] 9)) b l ⟨5, name, xa, xb, rule, n, d, k, snap⟩ A B) := S1.out _
  have HW : Hid (World.cell? ((w.alloc (.cells #[.int .i64 5, .string (bs name), .int .i64 A.k, .string A.s, .slice A.a A.n A.c, .int .i64 B.k, .string B.s, .slice B.a B.n B.c, .int .i64 rule, .int .i64 n, .int .i64 d, .int .i64 k, .bool snap] 39)).alloc (.cells #[.string ⟨#[]⟩, .string ⟨#[105, 110, 112, 117, 116, 32]⟩, .string ⟨#[108, 101, 116, 32]⟩, .string ⟨#[99, 104, 101, 99, 107, 32]⟩, .string ⟨#[115, 109, 97, 108, 108, 32]⟩, .string ⟨#[119, 114, 105, 116, 101, 32]⟩] 9)) ⟨w.heap.size + 1, 5, none⟩ = some (.string ⟨#[119, 114, 105, 116, 101, 32]⟩)) := cell_at (w.alloc (.cells #[.int .i64 5, .string (bs name), .int .i64 A.k, .string A.s, .slice A.a A.n A.c, .int .i64 B.k, .string B.s, .slice B.a B.n B.c, .int .i64 rule, .int .i64 n, .int .i64 d, .int .i64 k, .bool snap] 39)) [.string ⟨#[]⟩, .string ⟨#[105, 110, 112, 117, 116, 32]⟩, .string ⟨#[108, 101, 116, 32]⟩, .string ⟨#[99, 104, 101, 99, 107, 32]⟩, .string ⟨#[115, 109, 97, 108, 108, 32]⟩, .string ⟨#[119, 114, 105, 116, 101, 32]⟩] 9 (w.heap.size + 1) (by simp) 5 _ rfl
  clear x0 y0 S0 S1
  generalize ((w.alloc (.cells #[.int .i64 5, .string (bs name), .int .i64 A.k, .string A.s, .slice A.a A.n A.c, .int .i64 B.k, .string B.s, .slice B.a B.n B.c, .int .i64 rule, .int .i64 n, .int .i64 d, .int .i64 k, .bool snap] 39)).alloc (.cells #[.string ⟨#[]⟩, .string ⟨#[105, 110, 112, 117, 116, 32]⟩, .string ⟨#[108, 101, 116, 32]⟩, .string ⟨#[99, 104, 101, 99, 107, 32]⟩, .string ⟨#[115, 109, 97, 108, 108, 32]⟩, .string ⟨#[119, 114, 105, 116, 101, 32]⟩] 9)) = w2 at *
  have x0 := S2.out.cell 0
  have x1 := S2.out.cell 1
  simp only [stCells, List.getElem?_cons_succ, List.getElem?_cons_zero] at x0 x1
  have z2 := HW.out
  have hz1 : ¬ 9223372036854775807 < 6 + (bs name).size := by omega
  have hz2 : ¬ 9223372036854775807 < 6 + (bs name).size + 3 := by omega
  go_still_tail 10, (by kernel_rfl)
  change wpList _ _ _ _ _ w2.drew
  have S3 : Hid (LS w w2.drew b l ⟨5, name, xa, xb, rule, n, d, k, snap⟩ A B) := S2.out.still (grown_drew w2 1 none)
  clear x0 x1
  clear z2 hz1 hz2
  generalize w2.drew = w3 at *
  go_wp2_with fail
  refine (ws_p b l ([119, 114, 105, 116, 101, 32] ++ name ++ [32, 61, 32]) _ _ S3.out.wb (by rw [Joins.data_append, Joins.data_append]; rfl) (fit_first HT.out (by first | (rw [hL.out]; done) | (rw [hL.out]; simp <;> rfl)))).mono ?_
  rintro e w4 ⟨⟨v, rfl⟩, hb, hk⟩
  have S4 := Lib.hid (S3.out.next hb hk)
  clear hb hk S3 S2 HW
  have x9 := S4.out.cell 9
  have x11 := S4.out.cell 11
  simp only [stCells, List.getElem?_cons_succ, List.getElem?_cons_zero] at x9 x11
  have HD : Hid (w4.grownBy w4.drew none) := grown_drew w4 1 none
  go_wp2_with fail
  go_region_held3 (fun w' => w'.cell? ⟨w.heap.size, 9, none⟩ = some (.int .i64 n) ∧ w'.cell? ⟨w.heap.size, 11, none⟩ = some (.int .i64 k)) (first | exact ⟨x9, x11⟩ | exact ⟨y9, y11⟩ | exact ⟨z9, z11⟩)
    (first
      | (go_at_call 84; refine (itoa_w _ ?_ ?_ _ ?_).mono ?_; (first | exact hrn.out.1.1 | exact hrn.out.2.2.1); (first | exact hrn.out.1.2 | exact hrn.out.2.2.2); (first | exact SA.out.gd | exact S4.out.gd.still HD.out); rintro e wi ⟨rfl, hg⟩; (first | (have SF := Lib.hid (SA.out.still hg); have z9 := SF.out.cell 9; have z11 := SF.out.cell 11; simp only [stCells, List.getElem?_cons_succ, List.getElem?_cons_zero] at z9 z11) | (have SA := Lib.hid ((S4.out.still HD.out).still hg); have y9 := SA.out.cell 9; have y11 := SA.out.cell 11; simp only [stCells, List.getElem?_cons_succ, List.getElem?_cons_zero] at y9 y11)); clear hg))
  all_goals
    clear x9 x11 HD
    try clear y9 y11 SA
    try clear z9 z11
    have hsn := HI.out n hrn.out.1
    have hsk := HI.out k hrn.out.2.2
    have x0 := SF.out.cell 0
    have x2 := SF.out.cell 2
    have x3 := SF.out.cell 3
    have x4 := SF.out.cell 4
    simp only [stCells, List.getElem?_cons_succ, List.getElem?_cons_zero] at x0 x2 x3 x4
    go_wp2_with fail
    refine (text_any xa 0 b _ _ _ SF.out.wb SF.out.na (by decide) (by decide) (HT.out (([119, 114, 105, 116, 101, 32] ++ name ++ [32, 61, 32])) _ _ (by first | (rw [hL.out]; done) | (rw [hL.out]; simp <;> rfl)))).mono ?_
    rintro e v11 ⟨rfl, hb, hk⟩
    have hb' := hb; rw [List.append_assoc] at hb'
    have S11 : Hid (LS w v11 b (l ++ (([119, 114, 105, 116, 101, 32] ++ name ++ [32, 61, 32]) ++ textP xa 0)) ⟨5, name, xa, xb, rule, n, d, k, snap⟩ A B) := SF.out.next hb' hk
    clear hb hb' hk SF
    clear x0 x2 x3 x4
    go_wp2_with fail
    refine (ws_p b _ ([44, 32] ++ Lib.itoa n ++ [47] ++ Lib.itoa k) _ _ S11.out.wb (by rw [Joins.data_append, Joins.data_append, Joins.data_append] <;> rfl) (HT.out (([119, 114, 105, 116, 101, 32] ++ name ++ [32, 61, 32]) ++ textP xa 0) _ _ (by first | (rw [hL.out]; done) | (rw [hL.out]; simp <;> rfl)))).mono ?_
    rintro e v12 ⟨⟨v, rfl⟩, hb, hk⟩
    have hb' := hb; rw [List.append_assoc] at hb'
    have S12 : Hid (LS w v12 b (l ++ (([119, 114, 105, 116, 101, 32] ++ name ++ [32, 61, 32]) ++ textP xa 0 ++ ([44, 32] ++ Lib.itoa n ++ [47] ++ Lib.itoa k))) ⟨5, name, xa, xb, rule, n, d, k, snap⟩ A B) := S11.out.next hb' hk
    clear hb hb' hk S11
    have x12 := S12.out.cell 12
    simp only [stCells, List.getElem?_cons_succ, List.getElem?_cons_zero] at x12
    rw [hsp.out] at x12
    go_wp2_with fail
    refine (ws_p b _ [59, 10] _ _ S12.out.wb (by rfl) (HT.out (([119, 114, 105, 116, 101, 32] ++ name ++ [32, 61, 32]) ++ textP xa 0 ++ ([44, 32] ++ Lib.itoa n ++ [47] ++ Lib.itoa k)) _ _ (by first | (rw [hL.out]; done) | (rw [hL.out]; simp <;> rfl)))).mono ?_
    rintro e v13 ⟨⟨v, rfl⟩, hb, hk⟩
    have hb' := hb; rw [List.append_assoc] at hb'
    have S13 : Hid (LS w v13 b (l ++ (([119, 114, 105, 116, 101, 32] ++ name ++ [32, 61, 32]) ++ textP xa 0 ++ ([44, 32] ++ Lib.itoa n ++ [47] ++ Lib.itoa k) ++ [59, 10])) ⟨5, name, xa, xb, rule, n, d, k, snap⟩ A B) := S12.out.next hb' hk
    clear hb hb' hk S12
    clear x12
    go_wp2
    first | go_end0 | refine bodyPost_ret (results_none rfl _ _ _) rfl ?_
    refine ⟨rfl, ?_, S13.out.kp⟩
    have h := S13.out.wb
    rw [hL.out]
    simpa using h

set_option maxHeartbeats 4000000 in
set_option maxRecDepth 100000 in
theorem line_write2 (name : List UInt8) (xa xb : Nd) (rule n d k : Int) (snap : Bool) (A B : NV) (b : Nat) (l L : List UInt8) (w : World) (hw : WB w b l) (h6 : 6 ≤ b) (hg : Good w) (ha : NdIs (· < b) w xa A.val) (hb : NdIs (· < b) w xb B.val) (hrn : Hid (Rng n ∧ Rng d ∧ Rng k)) (hsp : Hid (snap = true))
    (hL : Hid (L = ([119, 114, 105, 116, 101, 32] ++ name ++ [32, 61, 32]) ++ textP xa 0 ++ ([44, 32] ++ Lib.itoa n ++ [47] ++ Lib.itoa k) ++ [32, 115, 110, 97, 112] ++ [59, 10])) (hlen : l.length + L.length ≤ 140737488355328) :
    Calls Tryz.prog 64 #[.agg #[.int .i64 5, .string (bs name), .int .i64 A.k, .string A.s, .slice A.a A.n A.c, .int .i64 B.k, .string B.s, .slice B.a B.n B.c, .int .i64 rule, .int .i64 n, .int .i64 d, .int .i64 k, .bool snap], .pointer (some ⟨b, 0, none⟩)] w
      fun e w' => e = .returned (.tuple #[]) ∧ WB w' b (l ++ L) ∧ Keeps b w w' := by
  have S0 := Lib.hid (LS.start (x := ⟨5, name, xa, xb, rule, n, d, k, snap⟩) hw h6 hg ha hb)
  have HT : Hid (∀ q p r, L = q ++ p ++ r → (l ++ q).length + p.length ≤ 140737488355328) := fit_of hlen
  have HNAME : Hid ((bs name).size = name.length) := bs_size _
  have hsz : (bs name).size ≤ 140737488355328 := by rw [HNAME.out]; have := HT.out ([119, 114, 105, 116, 101, 32]) name _ (by first | (rw [hL.out]; done) | (rw [hL.out]; simp <;> rfl)); rw [List.length_append] at this; omega
  have HI : Hid (∀ z : Int, Rng z → (bs (Lib.itoa z)).size ≤ 21) := fun z h => by rw [bs_size]; exact Lib.itoa_length_le z h.1 h.2
  clear hw h6 hg ha hb hlen
  have x0 := S0.out.cell 0
  simp only [stCells, List.getElem?_cons_zero] at x0
  have S1 := Lib.hid (fun o => S0.out.still (grown_alloc _ o none))
  have y0 := fun o => (S1.out o).cell 0
  simp only [stCells, List.getElem?_cons_zero] at y0
  go_enter Tryz.func64, Tryz.ntmps64
  go_wp2_with fail
  have S2 : Hid (LS w ((w.alloc (.cells #[.int .i64 5, .string (bs name), .int .i64 A.k, .string A.s, .slice A.a A.n A.c, .int .i64 B.k, .string B.s, .slice B.a B.n B.c, .int .i64 rule, .int .i64 n, .int .i64 d, .int .i64 k, .bool snap] 39)).alloc (.cells #[.string ⟨#[]⟩, .string ⟨#[105, 110, 112, 117, 116, 32]⟩, .string ⟨#[108, 101, 116, 32]⟩, .string ⟨#[99, 104, 101, 99, 107, 32]⟩, .string ⟨#[115, 109, 97, 108, 108, 32]⟩, .string ⟨#[119, 114, 105, 116, 101, 32]⟩] 9)) b l ⟨5, name, xa, xb, rule, n, d, k, snap⟩ A B) := S1.out _
  have HW : Hid (World.cell? ((w.alloc (.cells #[.int .i64 5, .string (bs name), .int .i64 A.k, .string A.s, .slice A.a A.n A.c, .int .i64 B.k, .string B.s, .slice B.a B.n B.c, .int .i64 rule, .int .i64 n, .int .i64 d, .int .i64 k, .bool snap] 39)).alloc (.cells #[.string ⟨#[]⟩, .string ⟨#[105, 110, 112, 117, 116, 32]⟩, .string ⟨#[108, 101, 116, 32]⟩, .string ⟨#[99, 104, 101, 99, 107, 32]⟩, .string ⟨#[115, 109, 97, 108, 108, 32]⟩, .string ⟨#[119, 114, 105, 116, 101, 32]⟩] 9)) ⟨w.heap.size + 1, 5, none⟩ = some (.string ⟨#[119, 114, 105, 116, 101, 32]⟩)) := cell_at (w.alloc (.cells #[.int .i64 5, .string (bs name), .int .i64 A.k, .string A.s, .slice A.a A.n A.c, .int .i64 B.k, .string B.s, .slice B.a B.n B.c, .int .i64 rule, .int .i64 n, .int .i64 d, .int .i64 k, .bool snap] 39)) [.string ⟨#[]⟩, .string ⟨#[105, 110, 112, 117, 116, 32]⟩, .string ⟨#[108, 101, 116, 32]⟩, .string ⟨#[99, 104, 101, 99, 107, 32]⟩, .string ⟨#[115, 109, 97, 108, 108, 32]⟩, .string ⟨#[119, 114, 105, 116, 101, 32]⟩] 9 (w.heap.size + 1) (by simp) 5 _ rfl
  clear x0 y0 S0 S1
  generalize ((w.alloc (.cells #[.int .i64 5, .string (bs name), .int .i64 A.k, .string A.s, .slice A.a A.n A.c, .int .i64 B.k, .string B.s, .slice B.a B.n B.c, .int .i64 rule, .int .i64 n, .int .i64 d, .int .i64 k, .bool snap] 39)).alloc (.cells #[.string ⟨#[]⟩, .string ⟨#[105, 110, 112, 117, 116, 32]⟩, .string ⟨#[108, 101, 116, 32]⟩, .string ⟨#[99, 104, 101, 99, 107, 32]⟩, .string ⟨#[115, 109, 97, 108, 108, 32]⟩, .string ⟨#[119, 114, 105, 116, 101, 32]⟩] 9)) = w2 at *
  have x0 := S2.out.cell 0
  have x1 := S2.out.cell 1
  simp only [stCells, List.getElem?_cons_succ, List.getElem?_cons_zero] at x0 x1
  have z2 := HW.out
  have hz1 : ¬ 9223372036854775807 < 6 + (bs name).size := by omega
  have hz2 : ¬ 9223372036854775807 < 6 + (bs name).size + 3 := by omega
  go_still_tail 10, (by kernel_rfl)
  change wpList _ _ _ _ _ w2.drew
  have S3 : Hid (LS w w2.drew b l ⟨5, name, xa, xb, rule, n, d, k, snap⟩ A B) := S2.out.still (grown_drew w2 1 none)
  clear x0 x1
  clear z2 hz1 hz2
  generalize w2.drew = w3 at *
  go_wp2_with fail
  refine (ws_p b l ([119, 114, 105, 116, 101, 32] ++ name ++ [32, 61, 32]) _ _ S3.out.wb (by rw [Joins.data_append, Joins.data_append]; rfl) (fit_first HT.out (by first | (rw [hL.out]; done) | (rw [hL.out]; simp <;> rfl)))).mono ?_
  rintro e w4 ⟨⟨v, rfl⟩, hb, hk⟩
  have S4 := Lib.hid (S3.out.next hb hk)
  clear hb hk S3 S2 HW
  have x9 := S4.out.cell 9
  have x11 := S4.out.cell 11
  simp only [stCells, List.getElem?_cons_succ, List.getElem?_cons_zero] at x9 x11
  have HD : Hid (w4.grownBy w4.drew none) := grown_drew w4 1 none
  go_wp2_with fail
  go_region_held3 (fun w' => w'.cell? ⟨w.heap.size, 9, none⟩ = some (.int .i64 n) ∧ w'.cell? ⟨w.heap.size, 11, none⟩ = some (.int .i64 k)) (first | exact ⟨x9, x11⟩ | exact ⟨y9, y11⟩ | exact ⟨z9, z11⟩)
    (first
      | (go_at_call 84; refine (itoa_w _ ?_ ?_ _ ?_).mono ?_; (first | exact hrn.out.1.1 | exact hrn.out.2.2.1); (first | exact hrn.out.1.2 | exact hrn.out.2.2.2); (first | exact SA.out.gd | exact S4.out.gd.still HD.out); rintro e wi ⟨rfl, hg⟩; (first | (have SF := Lib.hid (SA.out.still hg); have z9 := SF.out.cell 9; have z11 := SF.out.cell 11; simp only [stCells, List.getElem?_cons_succ, List.getElem?_cons_zero] at z9 z11) | (have SA := Lib.hid ((S4.out.still HD.out).still hg); have y9 := SA.out.cell 9; have y11 := SA.out.cell 11; simp only [stCells, List.getElem?_cons_succ, List.getElem?_cons_zero] at y9 y11)); clear hg))
  all_goals
    clear x9 x11 HD
    try clear y9 y11 SA
    try clear z9 z11
    have hsn := HI.out n hrn.out.1
    have hsk := HI.out k hrn.out.2.2
    have x0 := SF.out.cell 0
    have x2 := SF.out.cell 2
    have x3 := SF.out.cell 3
    have x4 := SF.out.cell 4
    simp only [stCells, List.getElem?_cons_succ, List.getElem?_cons_zero] at x0 x2 x3 x4
    go_wp2_with fail
    refine (text_any xa 0 b _ _ _ SF.out.wb SF.out.na (by decide) (by decide) (HT.out (([119, 114, 105, 116, 101, 32] ++ name ++ [32, 61, 32])) _ _ (by first | (rw [hL.out]; done) | (rw [hL.out]; simp <;> rfl)))).mono ?_
    rintro e v11 ⟨rfl, hb, hk⟩
    have hb' := hb; rw [List.append_assoc] at hb'
    have S11 : Hid (LS w v11 b (l ++ (([119, 114, 105, 116, 101, 32] ++ name ++ [32, 61, 32]) ++ textP xa 0)) ⟨5, name, xa, xb, rule, n, d, k, snap⟩ A B) := SF.out.next hb' hk
    clear hb hb' hk SF
    clear x0 x2 x3 x4
    go_wp2_with fail
    refine (ws_p b _ ([44, 32] ++ Lib.itoa n ++ [47] ++ Lib.itoa k) _ _ S11.out.wb (by rw [Joins.data_append, Joins.data_append, Joins.data_append] <;> rfl) (HT.out (([119, 114, 105, 116, 101, 32] ++ name ++ [32, 61, 32]) ++ textP xa 0) _ _ (by first | (rw [hL.out]; done) | (rw [hL.out]; simp <;> rfl)))).mono ?_
    rintro e v12 ⟨⟨v, rfl⟩, hb, hk⟩
    have hb' := hb; rw [List.append_assoc] at hb'
    have S12 : Hid (LS w v12 b (l ++ (([119, 114, 105, 116, 101, 32] ++ name ++ [32, 61, 32]) ++ textP xa 0 ++ ([44, 32] ++ Lib.itoa n ++ [47] ++ Lib.itoa k))) ⟨5, name, xa, xb, rule, n, d, k, snap⟩ A B) := S11.out.next hb' hk
    clear hb hb' hk S11
    have x12 := S12.out.cell 12
    simp only [stCells, List.getElem?_cons_succ, List.getElem?_cons_zero] at x12
    rw [hsp.out] at x12
    go_wp2_with fail
    refine (ws_p b _ [32, 115, 110, 97, 112] _ _ S12.out.wb (by rfl) (HT.out (([119, 114, 105, 116, 101, 32] ++ name ++ [32, 61, 32]) ++ textP xa 0 ++ ([44, 32] ++ Lib.itoa n ++ [47] ++ Lib.itoa k)) _ _ (by first | (rw [hL.out]; done) | (rw [hL.out]; simp <;> rfl)))).mono ?_
    rintro e v13 ⟨⟨v, rfl⟩, hb, hk⟩
    have hb' := hb; rw [List.append_assoc] at hb'
    have S13 : Hid (LS w v13 b (l ++ (([119, 114, 105, 116, 101, 32] ++ name ++ [32, 61, 32]) ++ textP xa 0 ++ ([44, 32] ++ Lib.itoa n ++ [47] ++ Lib.itoa k) ++ [32, 115, 110, 97, 112])) ⟨5, name, xa, xb, rule, n, d, k, snap⟩ A B) := S12.out.next hb' hk
    clear hb hb' hk S12
    clear x12
    go_wp2_with fail
    refine (ws_p b _ [59, 10] _ _ S13.out.wb (by rfl) (HT.out (([119, 114, 105, 116, 101, 32] ++ name ++ [32, 61, 32]) ++ textP xa 0 ++ ([44, 32] ++ Lib.itoa n ++ [47] ++ Lib.itoa k) ++ [32, 115, 110, 97, 112]) _ _ (by first | (rw [hL.out]; done) | (rw [hL.out]; simp <;> rfl)))).mono ?_
    rintro e v14 ⟨⟨v, rfl⟩, hb, hk⟩
    have hb' := hb; rw [List.append_assoc] at hb'
    have S14 : Hid (LS w v14 b (l ++ (([119, 114, 105, 116, 101, 32] ++ name ++ [32, 61, 32]) ++ textP xa 0 ++ ([44, 32] ++ Lib.itoa n ++ [47] ++ Lib.itoa k) ++ [32, 115, 110, 97, 112] ++ [59, 10])) ⟨5, name, xa, xb, rule, n, d, k, snap⟩ A B) := S13.out.next hb' hk
    clear hb hb' hk S13
    go_wp2
    first | go_end0 | refine bodyPost_ret (results_none rfl _ _ _) rfl ?_
    refine ⟨rfl, ?_, S14.out.kp⟩
    have h := S14.out.wb
    rw [hL.out]
    simpa using h
end Go.Proofs.YtdjklnlkocconaaGreatDoor

namespace Go.Proofs.YtdjklnlkocconaaGreatDoor
open Go Go.RowKit

set_option maxHeartbeats 4000000 in
set_option maxRecDepth 100000 in
theorem line_check0 (name : List UInt8) (xa xb : Nd) (rule n d k : Int) (snap : Bool) (A B : NV) (b : Nat) (l L : List UInt8) (w : World) (hw : WB w b l) (h6 : 6 ≤ b) (hg : Good w) (ha : NdIs (· < b) w xa A.val) (hb : NdIs (· < b) w xb B.val) (hrn : Hid (Rng n ∧ Rng d ∧ Rng k)) (hr : rule < 1 ∨ 6 < rule)
    (hL : Hid (L = ([99, 104, 101, 99, 107, 32] ++ name ++ [32, 61, 32]) ++ [])) (hlen : l.length + L.length ≤ 140737488355328) :
    Calls Tryz.prog 64 #[.agg #[.int .i64 3, .string (bs name), .int .i64 A.k, .string A.s, .slice A.a A.n A.c, .int .i64 B.k, .string B.s, .slice B.a B.n B.c, .int .i64 rule, .int .i64 n, .int .i64 d, .int .i64 k, .bool snap], .pointer (some ⟨b, 0, none⟩)] w
      fun e w' => e = .returned (.tuple #[]) ∧ WB w' b (l ++ L) ∧ Keeps b w w' := by
  have S0 := Lib.hid (LS.start (x := ⟨3, name, xa, xb, rule, n, d, k, snap⟩) hw h6 hg ha hb)
  have HT : Hid (∀ q p r, L = q ++ p ++ r → (l ++ q).length + p.length ≤ 140737488355328) := fit_of hlen
  have HNAME : Hid ((bs name).size = name.length) := bs_size _
  have hsz : (bs name).size ≤ 140737488355328 := by rw [HNAME.out]; have := HT.out ([99, 104, 101, 99, 107, 32]) name _ (by first | (rw [hL.out]; done) | (rw [hL.out]; simp <;> rfl)); rw [List.length_append] at this; omega
  have HI : Hid (∀ z : Int, Rng z → (bs (Lib.itoa z)).size ≤ 21) := fun z h => by rw [bs_size]; exact Lib.itoa_length_le z h.1 h.2
  clear hw h6 hg ha hb hlen
  have x0 := S0.out.cell 0
  simp only [stCells, List.getElem?_cons_zero] at x0
  have S1 := Lib.hid (fun o => S0.out.still (grown_alloc _ o none))
  have y0 := fun o => (S1.out o).cell 0
  simp only [stCells, List.getElem?_cons_zero] at y0
  go_enter Tryz.func64, Tryz.ntmps64
  go_wp2_with fail
  have S2 : Hid (LS w ((w.alloc (.cells #[.int .i64 3, .string (bs name), .int .i64 A.k, .string A.s, .slice A.a A.n A.c, .int .i64 B.k, .string B.s, .slice B.a B.n B.c, .int .i64 rule, .int .i64 n, .int .i64 d, .int .i64 k, .bool snap] 39)).alloc (.cells #[.string ⟨#[]⟩, .string ⟨#[105, 110, 112, 117, 116, 32]⟩, .string ⟨#[108, 101, 116, 32]⟩, .string ⟨#[99, 104, 101, 99, 107, 32]⟩, .string ⟨#[115, 109, 97, 108, 108, 32]⟩, .string ⟨#[119, 114, 105, 116, 101, 32]⟩] 9)) b l ⟨3, name, xa, xb, rule, n, d, k, snap⟩ A B) := S1.out _
  have HW : Hid (World.cell? ((w.alloc (.cells #[.int .i64 3, .string (bs name), .int .i64 A.k, .string A.s, .slice A.a A.n A.c, .int .i64 B.k, .string B.s, .slice B.a B.n B.c, .int .i64 rule, .int .i64 n, .int .i64 d, .int .i64 k, .bool snap] 39)).alloc (.cells #[.string ⟨#[]⟩, .string ⟨#[105, 110, 112, 117, 116, 32]⟩, .string ⟨#[108, 101, 116, 32]⟩, .string ⟨#[99, 104, 101, 99, 107, 32]⟩, .string ⟨#[115, 109, 97, 108, 108, 32]⟩, .string ⟨#[119, 114, 105, 116, 101, 32]⟩] 9)) ⟨w.heap.size + 1, 3, none⟩ = some (.string ⟨#[99, 104, 101, 99, 107, 32]⟩)) := cell_at (w.alloc (.cells #[.int .i64 3, .string (bs name), .int .i64 A.k, .string A.s, .slice A.a A.n A.c, .int .i64 B.k, .string B.s, .slice B.a B.n B.c, .int .i64 rule, .int .i64 n, .int .i64 d, .int .i64 k, .bool snap] 39)) [.string ⟨#[]⟩, .string ⟨#[105, 110, 112, 117, 116, 32]⟩, .string ⟨#[108, 101, 116, 32]⟩, .string ⟨#[99, 104, 101, 99, 107, 32]⟩, .string ⟨#[115, 109, 97, 108, 108, 32]⟩, .string ⟨#[119, 114, 105, 116, 101, 32]⟩] 9 (w.heap.size + 1) (by simp) 3 _ rfl
  clear x0 y0 S0 S1
  generalize ((w.alloc (.cells #[.int .i64 3, .string (bs name), .int .i64 A.k, .string A.s, .slice A.a A.n A.c, .int .i64 B.k, .string B.s, .slice B.a B.n B.c, .int .i64 rule, .int .i64 n, .int .i64 d, .int .i64 k, .bool snap] 39)).alloc (.cells #[.string ⟨#[]⟩, .string ⟨#[105, 110, 112, 117, 116, 32]⟩, .string ⟨#[108, 101, 116, 32]⟩, .string ⟨#[99, 104, 101, 99, 107, 32]⟩, .string ⟨#[115, 109, 97, 108, 108, 32]⟩, .string ⟨#[119, 114, 105, 116, 101, 32]⟩] 9)) = w2 at *
  have x0 := S2.out.cell 0
  have x1 := S2.out.cell 1
  simp only [stCells, List.getElem?_cons_succ, List.getElem?_cons_zero] at x0 x1
  have z2 := HW.out
  have hz1 : ¬ 9223372036854775807 < 6 + (bs name).size := by omega
  have hz2 : ¬ 9223372036854775807 < 6 + (bs name).size + 3 := by omega
  go_still_tail 10, (by kernel_rfl)
  change wpList _ _ _ _ _ w2.drew
  have S3 : Hid (LS w w2.drew b l ⟨3, name, xa, xb, rule, n, d, k, snap⟩ A B) := S2.out.still (grown_drew w2 1 none)
  clear x0 x1
  clear z2 hz1 hz2
  generalize w2.drew = w3 at *
  go_wp2_with fail
  refine (ws_p b l ([99, 104, 101, 99, 107, 32] ++ name ++ [32, 61, 32]) _ _ S3.out.wb (by rw [Joins.data_append, Joins.data_append]; rfl) (fit_first HT.out (by first | (rw [hL.out]; done) | (rw [hL.out]; simp <;> rfl)))).mono ?_
  rintro e w4 ⟨⟨v, rfl⟩, hb, hk⟩
  have S4 := Lib.hid (S3.out.next hb hk)
  clear hb hk S3 S2 HW
  have x9 := S4.out.cell 9
  have x11 := S4.out.cell 11
  simp only [stCells, List.getElem?_cons_succ, List.getElem?_cons_zero] at x9 x11
  have HD : Hid (w4.grownBy w4.drew none) := grown_drew w4 1 none
  go_wp2_with fail
  go_region_held3 (fun w' => w'.cell? ⟨w.heap.size, 9, none⟩ = some (.int .i64 n) ∧ w'.cell? ⟨w.heap.size, 11, none⟩ = some (.int .i64 k)) (first | exact ⟨x9, x11⟩ | exact ⟨y9, y11⟩ | exact ⟨z9, z11⟩)
    (first
      | (go_at_call 84; refine (itoa_w _ ?_ ?_ _ ?_).mono ?_; (first | exact hrn.out.1.1 | exact hrn.out.2.2.1); (first | exact hrn.out.1.2 | exact hrn.out.2.2.2); (first | exact SA.out.gd | exact S4.out.gd.still HD.out); rintro e wi ⟨rfl, hg⟩; (first | (have SF := Lib.hid (SA.out.still hg); have z9 := SF.out.cell 9; have z11 := SF.out.cell 11; simp only [stCells, List.getElem?_cons_succ, List.getElem?_cons_zero] at z9 z11) | (have SA := Lib.hid ((S4.out.still HD.out).still hg); have y9 := SA.out.cell 9; have y11 := SA.out.cell 11; simp only [stCells, List.getElem?_cons_succ, List.getElem?_cons_zero] at y9 y11)); clear hg))
  all_goals
    clear x9 x11 HD
    try clear y9 y11 SA
    try clear z9 z11
    have hsn := HI.out n hrn.out.1
    have hsk := HI.out k hrn.out.2.2
    have x0 := SF.out.cell 0
    have x8 := SF.out.cell 8
    simp only [stCells, List.getElem?_cons_succ, List.getElem?_cons_zero] at x0 x8
    by_cases h1 : rule < 1
    case pos =>
      go_wp2
      first | go_end0 | refine bodyPost_ret (results_none rfl _ _ _) rfl ?_
      refine ⟨rfl, ?_, SF.out.kp⟩
      have h := SF.out.wb
      rw [hL.out]
      simpa using h
    have h2 : 6 < rule := by omega
    go_wp2
    first | go_end0 | refine bodyPost_ret (results_none rfl _ _ _) rfl ?_
    refine ⟨rfl, ?_, SF.out.kp⟩
    have h := SF.out.wb
    rw [hL.out]
    simpa using h

set_option maxHeartbeats 4000000 in
set_option maxRecDepth 100000 in
theorem line_kind0 (kind : Int) (name : List UInt8) (xa xb : Nd) (rule n d k : Int) (snap : Bool) (A B : NV) (b : Nat) (l : List UInt8) (w : World) (hw : WB w b l) (h6 : 6 ≤ b) (hg : Good w) (ha : NdIs (· < b) w xa A.val) (hb : NdIs (· < b) w xb B.val) (hk : kind < 1 ∨ 5 < kind) :
    Calls Tryz.prog 64 #[.agg #[.int .i64 kind, .string (bs name), .int .i64 A.k, .string A.s, .slice A.a A.n A.c, .int .i64 B.k, .string B.s, .slice B.a B.n B.c, .int .i64 rule, .int .i64 n, .int .i64 d, .int .i64 k, .bool snap], .pointer (some ⟨b, 0, none⟩)] w
      fun e w' => e = .returned (.tuple #[]) ∧ WB w' b l ∧ Keeps b w w' := by
  have S0 := Lib.hid (LS.start (x := ⟨kind, name, xa, xb, rule, n, d, k, snap⟩) hw h6 hg ha hb)
  clear hw h6 hg ha hb
  have x0 := S0.out.cell 0
  simp only [stCells, List.getElem?_cons_zero] at x0
  have S1 := Lib.hid (fun o => S0.out.still (grown_alloc _ o none))
  have y0 := fun o => (S1.out o).cell 0
  simp only [stCells, List.getElem?_cons_zero] at y0
  go_enter Tryz.func64, Tryz.ntmps64
  by_cases h1 : kind < 1
  · go_wp2
    first | go_end0 | refine bodyPost_ret (results_none rfl _ _ _) rfl ?_
    exact ⟨rfl, (S1.out _).wb, (S1.out _).kp⟩
  · have h2 : 5 < kind := by omega
    go_wp2
    first | go_end0 | refine bodyPost_ret (results_none rfl _ _ _) rfl ?_
    exact ⟨rfl, (S1.out _).wb, (S1.out _).kp⟩

end Go.Proofs.YtdjklnlkocconaaGreatDoor
