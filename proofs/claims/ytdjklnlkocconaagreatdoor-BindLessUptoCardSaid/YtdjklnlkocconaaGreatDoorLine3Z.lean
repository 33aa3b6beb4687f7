/-
  deck.line at check: the walks.
-/
import Derived.Test.YtdjklnlkocconaaGreatDoorLnAZ
import Derived.Deep.RegionWith
namespace Go.Proofs.YtdjklnlkocconaaGreatDoor
open Go Go.RowKit

set_option maxHeartbeats 4000000 in
set_option maxRecDepth 100000 in
theorem line_check1 (name : List UInt8) (xa xb : Nd) (n d k : Int) (snap : Bool) (A B : NV) (b : Nat) (l L : List UInt8) (w : World) (hw : WB w b l) (h6 : 6 ≤ b) (hg : Good w) (ha : NdIs (· < b) w xa A.val) (hb : NdIs (· < b) w xb B.val) (hrn : Hid (Rng n ∧ Rng d ∧ Rng k))
    (hL : Hid (L = ([99, 104, 101, 99, 107, 32] ++ name ++ [32, 61, 32]) ++ (ruleW 1 ++ [40]) ++ textP xa 0 ++ ([44, 32] ++ Lib.itoa n ++ [41]) ++ [59, 10])) (hlen : l.length + L.length ≤ 140737488355328) :
    Calls Tryz.prog 64 #[.agg #[.int .i64 3, .string (bs name), .int .i64 A.k, .string A.s, .slice A.a A.n A.c, .int .i64 B.k, .string B.s, .slice B.a B.n B.c, .int .i64 1, .int .i64 n, .int .i64 d, .int .i64 k, .bool snap], .pointer (some ⟨b, 0, none⟩)] w
      fun e w' => e = .returned (.tuple #[]) ∧ WB w' b (l ++ L) ∧ Keeps b w w' := by
  have S0 := Lib.hid (LS.start (x := ⟨3, name, xa, xb, 1, n, d, k, snap⟩) hw h6 hg ha hb)
  have HT : Hid (∀ q p r, L = q ++ p ++ r → (l ++ q).length + p.length ≤ 140737488355328) := fit_of hlen
  have HNAME : Hid ((bs name).size = name.length) := bs_size _
  have hsz : (bs name).size ≤ 140737488355328 := by rw [HNAME.out]; have := HT.out ([99, 104, 101, 99, 107, 32]) name _ (by first | (rw [hL.out]; done) | (rw [hL.out]; simp <;> rfl)); rw [List.length_append] at this; omega
  have HI : Hid (∀ z : Int, Rng z → (bs (Lib.itoa z)).size ≤ 21) := fun z h => by rw [bs_size]; exact Lib.itoa_length_le z h.1 h.2
  clear hw h6 hg ha hb hlen
  have x0 := S0.out.cell 0
  simp only [stCells, List.getElem?_cons_zero] at x0
  have S1 := Lib.hid (fun o => S0.out.still (grown_alloc _ o none))
  have y0 := fun o => (S1.out o).cell 0
  simp only [stCells, List.getElem?_cons_zero] at y0
  go_enter Tryz.func64, Tryz.ntmps64
  go_wp2_with fail
  have S2 : Hid (LS w ((w.alloc (.cells #[.int .i64 3, .string (bs name), .int .i64 A.k, .string A.s, .slice A.a A.n A.c, .int .i64 B.k, .string B.s, .slice B.a B.n B.c, .int .i64 1, .int .i64 n, .int .i64 d, .int .i64 k, .bool snap] 39)).alloc (.cells #[.string ⟨#[]⟩, .string ⟨#[105, 110, 112, 117, 116, 32]⟩, .string ⟨#[108, 101, 116, 32]⟩, .string ⟨#[99, 104, 101, 99, 107, 32]⟩, .string ⟨#[115, 109, 97, 108, 108, 32]⟩, .string ⟨#[119, 114, 105, 116, 101, 32]⟩] 9)) b l ⟨3, name, xa, xb, 1, n, d, k, snap⟩ A B) := S1.out _
  have HW : Hid (World.cell? ((w.alloc (.cells #[.int .i64 3, .string (bs name), .int .i64 A.k, .string A.s, .slice A.a A.n A.c, .int .i64 B.k, .string B.s, .slice B.a B.n B.c, .int .i64 1, .int .i64 n, .int .i64 d, .int .i64 k, .bool snap] 39)).alloc (.cells #[.string ⟨#[]⟩, .string ⟨#[105, 110, 112, 117, 116, 32]⟩, .string ⟨#[108, 101, 116, 32]⟩, .string ⟨#[99, 104, 101, 99, 107, 32]⟩, .string ⟨#[115, 109, 97, 108, 108, 32]⟩, .string ⟨#[119, 114, 105, 116, 101, 32]⟩] 9)) ⟨w.heap.size + 1, 3, none⟩ = some (.string ⟨#[99, 104, 101, 99, 107, 32]⟩)) := cell_at (w.alloc (.cells #[.int .i64 3, .string (bs name), .int .i64 A.k, .string A.s, .slice A.a A.n A.c, .int .i64 B.k, .string B.s, .slice B.a B.n B.c, .int .i64 1, .int .i64 n, .int .i64 d, .int .i64 k, .bool snap] 39)) [.string ⟨#[]⟩, .string ⟨#[105, 110, 112, 117, 116, 32]⟩, .string ⟨#[108, 101, 116, 32]⟩, .string ⟨#[99, 104, 101, 99, 107, 32]⟩, .string ⟨#[115, 109, 97, 108, 108, 32]⟩, .string ⟨#[119, 114, 105, 116, 101, 32]⟩] 9 (w.heap.size + 1) (by simp) 3 _ rfl
  clear x0 y0 S0 S1
  generalize ((w.alloc (.cells #[.int .i64 3, .string (bs name), .int .i64 A.k, .string A.s, .slice A.a A.n A.c, .int .i64 B.k, .string B.s, .slice B.a B.n B.c, .int .i64 1, .int .i64 n, .int .i64 d, .int .i64 k, .bool snap] 39)).alloc (.cells #[.string ⟨#[]⟩, .string ⟨#[105, 110, 112, 117, 116, 32]⟩, .string ⟨#[108, 101, 116, 32]⟩, .string ⟨#[99, 104, 101, 99, 107, 32]⟩, .string ⟨#[115, 109, 97, 108, 108, 32]⟩, .string ⟨#[119, 114, 105, 116, 101, 32]⟩] 9)) = w2 at *
  have x0 := S2.out.cell 0
  have x1 := S2.out.cell 1
  simp only [stCells, List.getElem?_cons_succ, List.getElem?_cons_zero] at x0 x1
  have z2 := HW.out
  have hz1 : ¬ 9223372036854775807 < 6 + (bs name).size := by omega
  have hz2 : ¬ 9223372036854775807 < 6 + (bs name).size + 3 := by omega
  go_still_tail 10, (by kernel_rfl)
  change wpList _ _ _ _ _ w2.drew
  have S3 : Hid (LS w w2.drew b l ⟨3, name, xa, xb, 1, n, d, k, snap⟩ A B) := S2.out.still (grown_drew w2 1 none)
  clear x0 x1
  clear z2 hz1 hz2
  generalize w2.drew = w3 at *
  go_wp2_with fail
  refine (ws_p b l ([99, 104, 101, 99, 107, 32] ++ name ++ [32, 61, 32]) _ _ S3.out.wb (by rw [Joins.data_append, Joins.data_append]; rfl) (fit_first HT.out (by first | (rw [hL.out]; done) | (rw [hL.out]; simp <;> rfl)))).mono ?_
  rintro e w4 ⟨⟨v, rfl⟩, hb, hk⟩
  have S4 := Lib.hid (S3.out.next hb hk)
  clear hb hk S3 S2 HW
  have x9 := S4.out.cell 9
  have x11 := S4.out.cell 11
  simp only [stCells, List.getElem?_cons_succ, List.getElem?_cons_zero] at x9 x11
  have HD : Hid (w4.grownBy w4.drew none) := grown_drew w4 1 none
  go_wp2_with fail
  go_region_held3 (fun w' => w'.cell? ⟨w.heap.size, 9, none⟩ = some (.int .i64 n) ∧ w'.cell? ⟨w.heap.size, 11, none⟩ = some (.int .i64 k)) (first | exact ⟨x9, x11⟩ | exact ⟨y9, y11⟩ | exact ⟨z9, z11⟩)
    (first
      | (go_at_call 84; refine (itoa_w _ ?_ ?_ _ ?_).mono ?_; (first | exact hrn.out.1.1 | exact hrn.out.2.2.1); (first | exact hrn.out.1.2 | exact hrn.out.2.2.2); (first | exact SA.out.gd | exact S4.out.gd.still HD.out); rintro e wi ⟨rfl, hg⟩; (first | (have SF := Lib.hid (SA.out.still hg); have z9 := SF.out.cell 9; have z11 := SF.out.cell 11; simp only [stCells, List.getElem?_cons_succ, List.getElem?_cons_zero] at z9 z11) | (have SA := Lib.hid ((S4.out.still HD.out).still hg); have y9 := SA.out.cell 9; have y11 := SA.out.cell 11; simp only [stCells, List.getElem?_cons_succ, List.getElem?_cons_zero] at y9 y11)); clear hg))
  all_goals
    clear x9 x11 HD
    try clear y9 y11 SA
    try clear z9 z11
    have hsn := HI.out n hrn.out.1
    have hsk := HI.out k hrn.out.2.2
    have hz3 : ¬ 9223372036854775807 < (bs (ruleW 1)).size + 1 := by decide
    have x0 := SF.out.cell 0
    have x8 := SF.out.cell 8
    simp only [stCells, List.getElem?_cons_succ, List.getElem?_cons_zero] at x0 x8
    go_wp2_with fail
    have HDF : Hid (wi.grownBy wi.drew none) := grown_drew wi 1 none
    go_region_with
      (first
        | (go_at_call 61; refine (rules_w _).mono ?_; rintro e wr ⟨gr, rfl, hg, HTR⟩; have SR := Lib.hid ((SF.out.still HDF.out).still hg); have xr8 := SR.out.cell 8; simp only [stCells, List.getElem?_cons_succ, List.getElem?_cons_zero] at xr8; have hru3 : wr.cell? ⟨gr, 0, none⟩ = some (.string (bs (ruleW 1))) := txts_cell HTR.out.1 rfl; clear hg)
        | (go_at_call 83; refine (ws_p b _ (ruleW 1 ++ [40]) _ _ SR.out.wb (by rw [Joins.data_append] <;> rfl) (HT.out (([99, 104, 101, 99, 107, 32] ++ name ++ [32, 61, 32])) _ _ (by first | (rw [hL.out]; done) | (rw [hL.out]; simp <;> rfl)))).mono ?_; rintro e v11 ⟨⟨v, rfl⟩, hb, hk⟩; have hb' := hb; rw [List.append_assoc] at hb'; have S11 : Hid (LS w v11 b (l ++ (([99, 104, 101, 99, 107, 32] ++ name ++ [32, 61, 32]) ++ (ruleW 1 ++ [40]))) ⟨3, name, xa, xb, 1, n, d, k, snap⟩ A B) := SR.out.next hb' hk; clear hb hb' hk))
    all_goals
      have x2 := S11.out.cell 2
      have x3 := S11.out.cell 3
      have x4 := S11.out.cell 4
      simp only [stCells, List.getElem?_cons_succ, List.getElem?_cons_zero] at x2 x3 x4
      go_wp2_with fail
      refine (text_any xa 0 b _ _ _ S11.out.wb S11.out.na (by decide) (by decide) (HT.out (([99, 104, 101, 99, 107, 32] ++ name ++ [32, 61, 32]) ++ (ruleW 1 ++ [40])) _ _ (by first | (rw [hL.out]; done) | (rw [hL.out]; simp <;> rfl)))).mono ?_
      rintro e v12 ⟨rfl, hb, hk⟩
      have hb' := hb; rw [List.append_assoc] at hb'
      have S12 : Hid (LS w v12 b (l ++ (([99, 104, 101, 99, 107, 32] ++ name ++ [32, 61, 32]) ++ (ruleW 1 ++ [40]) ++ textP xa 0)) ⟨3, name, xa, xb, 1, n, d, k, snap⟩ A B) := S11.out.next hb' hk
      clear hb hb' hk S11
      clear x2 x3 x4
      have x8 := S12.out.cell 8
      simp only [stCells, List.getElem?_cons_succ, List.getElem?_cons_zero] at x8
      have x0 := S12.out.cell 0
      simp only [stCells, List.getElem?_cons_zero] at x0
      go_wp2_with fail
      refine (ws_p b _ ([44, 32] ++ Lib.itoa n ++ [41]) _ _ S12.out.wb (by rw [Joins.data_append, Joins.data_append] <;> rfl) (HT.out (([99, 104, 101, 99, 107, 32] ++ name ++ [32, 61, 32]) ++ (ruleW 1 ++ [40]) ++ textP xa 0) _ _ (by first | (rw [hL.out]; done) | (rw [hL.out]; simp <;> rfl)))).mono ?_
      rintro e v13 ⟨⟨v, rfl⟩, hb, hk⟩
      have hb' := hb; rw [List.append_assoc] at hb'
      have S13 : Hid (LS w v13 b (l ++ (([99, 104, 101, 99, 107, 32] ++ name ++ [32, 61, 32]) ++ (ruleW 1 ++ [40]) ++ textP xa 0 ++ ([44, 32] ++ Lib.itoa n ++ [41]))) ⟨3, name, xa, xb, 1, n, d, k, snap⟩ A B) := S12.out.next hb' hk
      clear hb hb' hk S12
      clear x0
      go_wp2_with fail
      refine (ws_p b _ [59, 10] _ _ S13.out.wb (by rfl) (HT.out (([99, 104, 101, 99, 107, 32] ++ name ++ [32, 61, 32]) ++ (ruleW 1 ++ [40]) ++ textP xa 0 ++ ([44, 32] ++ Lib.itoa n ++ [41])) _ _ (by first | (rw [hL.out]; done) | (rw [hL.out]; simp <;> rfl)))).mono ?_
      rintro e v14 ⟨⟨v, rfl⟩, hb, hk⟩
      have hb' := hb; rw [List.append_assoc] at hb'
      have S14 : Hid (LS w v14 b (l ++ (([99, 104, 101, 99, 107, 32] ++ name ++ [32, 61, 32]) ++ (ruleW 1 ++ [40]) ++ textP xa 0 ++ ([44, 32] ++ Lib.itoa n ++ [41]) ++ [59, 10])) ⟨3, name, xa, xb, 1, n, d, k, snap⟩ A B) := S13.out.next hb' hk
      clear hb hb' hk S13
      go_wp2
      first | go_end0 | refine bodyPost_ret (results_none rfl _ _ _) rfl ?_
      refine ⟨rfl, ?_, S14.out.kp⟩
      have h := S14.out.wb
      rw [hL.out]
      simpa using h

set_option maxHeartbeats 4000000 in
set_option maxRecDepth 100000 in
theorem line_check2 (name : List UInt8) (xa xb : Nd) (n d k : Int) (snap : Bool) (A B : NV) (b : Nat) (l L : List UInt8) (w : World) (hw : WB w b l) (h6 : 6 ≤ b) (hg : Good w) (ha : NdIs (· < b) w xa A.val) (hb : NdIs (· < b) w xb B.val) (hrn : Hid (Rng n ∧ Rng d ∧ Rng k))
    (hL : Hid (L = ([99, 104, 101, 99, 107, 32] ++ name ++ [32, 61, 32]) ++ (ruleW 2 ++ [40]) ++ textP xa 0 ++ ([44, 32] ++ Lib.itoa n ++ [41]) ++ [59, 10])) (hlen : l.length + L.length ≤ 140737488355328) :
    Calls Tryz.prog 64 #[.agg #[.int .i64 3, .string (bs name), .int .i64 A.k, .string A.s, .slice A.a A.n A.c, .int .i64 B.k, .string B.s, .slice B.a B.n B.c, .int .i64 2, .int .i64 n, .int .i64 d, .int .i64 k, .bool snap], .pointer (some ⟨b, 0, none⟩)] w
      fun e w' => e = .returned (.tuple #[]) ∧ WB w' b (l ++ L) ∧ Keeps b w w' := by
  have S0 := Lib.hid (LS.start (x := ⟨3, name, xa, xb, 2, n, d, k, snap⟩) hw h6 hg ha hb)
  have HT : Hid (∀ q p r, L = q ++ p ++ r → (l ++ q).length + p.length ≤ 140737488355328) := fit_of hlen
  have HNAME : Hid ((bs name).size = name.length) := bs_size _
  have hsz : (bs name).size ≤ 140737488355328 := by rw [HNAME.out]; have := HT.out ([99, 104, 101, 99, 107, 32]) name _ (by first | (rw [hL.out]; done) | (rw [hL.out]; simp <;> rfl)); rw [List.length_append] at this; omega
  have HI : Hid (∀ z : Int, Rng z → (bs (Lib.itoa z)).size ≤ 21) := fun z h => by rw [bs_size]; exact Lib.itoa_length_le z h.1 h.2
  clear hw h6 hg ha hb hlen
  have x0 := S0.out.cell 0
  simp only [stCells, List.getElem?_cons_zero] at x0
  have S1 := Lib.hid (fun o => S0.out.still (grown_alloc _ o none))
  have y0 := fun o => (S1.out o).cell 0
  simp only [stCells, List.getElem?_cons_zero] at y0
  go_enter Tryz.func64, Tryz.ntmps64
  go_wp2_with fail
  have S2 : Hid (LS w ((w.alloc (.cells #[.int .i64 3, .string (bs name), .int .i64 A.k, .string A.s, .slice A.a A.n A.c, .int .i64 B.k, .string B.s, .slice B.a B.n B.c, .int .i64 2, .int .i64 n, .int .i64 d, .int .i64 k, .bool snap] 39)).alloc (.cells #[.string ⟨#[]⟩, .string ⟨#[105, 110, 112, 117, 116, 32]⟩, .string ⟨#[108, 101, 116, 32]⟩, .string ⟨#[99, 104, 101, 99, 107, 32]⟩, .string ⟨#[115, 109, 97, 108, 108, 32]⟩, .string ⟨#[119, 114, 105, 116, 101, 32]⟩] 9)) b l ⟨3, name, xa, xb, 2, n, d, k, snap⟩ A B) := S1.out _
  have HW : Hid (World.cell? ((w.alloc (.cells #[.int .i64 3, .string (bs name), .int .i64 A.k, .string A.s, .slice A.a A.n A.c, .int .i64 B.k, .string B.s, .slice B.a B.n B.c, .int .i64 2, .int .i64 n, .int .i64 d, .int .i64 k, .bool snap] 39)).alloc (.cells #[.string ⟨#[]⟩, .string ⟨#[105, 110, 112, 117, 116, 32]⟩, .string ⟨#[108, 101, 116, 32]⟩, .string ⟨#[99, 104, 101, 99, 107, 32]⟩, .string ⟨#[115, 109, 97, 108, 108, 32]⟩, .string ⟨#[119, 114, 105, 116, 101, 32]⟩] 9)) ⟨w.heap.size + 1, 3, none⟩ = some (.string ⟨#[99, 104, 101, 99, 107, 32]⟩)) := cell_at (w.alloc (.cells #[.int .i64 3, .string (bs name), .int .i64 A.k, .string A.s, .slice A.a A.n A.c, .int .i64 B.k, .string B.s, .slice B.a B.n B.c, .int .i64 2, .int .i64 n, .int .i64 d, .int .i64 k, .bool snap] 39)) [.string ⟨#[]⟩, .string ⟨#[105, 110, 112, 117, 116, 32]⟩, .string ⟨#[108, 101, 116, 32]⟩, .string ⟨#[99, 104, 101, 99, 107, 32]⟩, .string ⟨#[115, 109, 97, 108, 108, 32]⟩, .string ⟨#[119, 114, 105, 116, 101, 32]⟩] 9 (w.heap.size + 1) (by simp) 3 _ rfl
  clear x0 y0 S0 S1
  generalize ((w.alloc (.cells #[.int .i64 3, .string (bs name), .int .i64 A.k, .string A.s, .slice A.a A.n A.c, .int .i64 B.k, .string B.s, .slice B.a B.n B.c, .int .i64 2, .int .i64 n, .int .i64 d, .int .i64 k, .bool snap] 39)).alloc (.cells #[.string ⟨#[]⟩, .string ⟨#[105, 110, 112, 117, 116, 32]⟩, .string ⟨#[108, 101, 116, 32]⟩, .string ⟨#[99, 104, 101, 99, 107, 32]⟩, .string ⟨#[115, 109, 97, 108, 108, 32]⟩, .string ⟨#[119, 114, 105, 116, 101, 32]⟩] 9)) = w2 at *
  have x0 := S2.out.cell 0
  have x1 := S2.out.cell 1
  simp only [stCells, List.getElem?_cons_succ, List.getElem?_cons_zero] at x0 x1
  have z2 := HW.out
  have hz1 : ¬ 9223372036854775807 < 6 + (bs name).size := by omega
  have hz2 : ¬ 9223372036854775807 < 6 + (bs name).size + 3 := by omega
  go_still_tail 10, (by kernel_rfl)
  change wpList _ _ _ _ _ w2.drew
  have S3 : Hid (LS w w2.drew b l ⟨3, name, xa, xb, 2, n, d, k, snap⟩ A B) := S2.out.still (grown_drew w2 1 none)
  clear x0 x1
  clear z2 hz1 hz2
  generalize w2.drew = w3 at *
  go_wp2_with fail
  refine (ws_p b l ([99, 104, 101, 99, 107, 32] ++ name ++ [32, 61, 32]) _ _ S3.out.wb (by rw [Joins.data_append, Joins.data_append]; rfl) (fit_first HT.out (by first | (rw [hL.out]; done) | (rw [hL.out]; simp <;> rfl)))).mono ?_
  rintro e w4 ⟨⟨v, rfl⟩, hb, hk⟩
  have S4 := Lib.hid (S3.out.next hb hk)
  clear hb hk S3 S2 HW
  have x9 := S4.out.cell 9
  have x11 := S4.out.cell 11
  simp only [stCells, List.getElem?_cons_succ, List.getElem?_cons_zero] at x9 x11
  have HD : Hid (w4.grownBy w4.drew none) := grown_drew w4 1 none
  go_wp2_with fail
  go_region_held3 (fun w' => w'.cell? ⟨w.heap.size, 9, none⟩ = some (.int .i64 n) ∧ w'.cell? ⟨w.heap.size, 11, none⟩ = some (.int .i64 k)) (first | exact ⟨x9, x11⟩ | exact ⟨y9, y11⟩ | exact ⟨z9, z11⟩)
    (first
      | (go_at_call 84; refine (itoa_w _ ?_ ?_ _ ?_).mono ?_; (first | exact hrn.out.1.1 | exact hrn.out.2.2.1); (first | exact hrn.out.1.2 | exact hrn.out.2.2.2); (first | exact SA.out.gd | exact S4.out.gd.still HD.out); rintro e wi ⟨rfl, hg⟩; (first | (have SF := Lib.hid (SA.out.still hg); have z9 := SF.out.cell 9; have z11 := SF.out.cell 11; simp only [stCells, List.getElem?_cons_succ, List.getElem?_cons_zero] at z9 z11) | (have SA := Lib.hid ((S4.out.still HD.out).still hg); have y9 := SA.out.cell 9; have y11 := SA.out.cell 11; simp only [stCells, List.getElem?_cons_succ, List.getElem?_cons_zero] at y9 y11)); clear hg))
  all_goals
    clear x9 x11 HD
    try clear y9 y11 SA
    try clear z9 z11
    have hsn := HI.out n hrn.out.1
    have hsk := HI.out k hrn.out.2.2
    have hz3 : ¬ 9223372036854775807 < (bs (ruleW 2)).size + 1 := by decide
    have x0 := SF.out.cell 0
    have x8 := SF.out.cell 8
    simp only [stCells, List.getElem?_cons_succ, List.getElem?_cons_zero] at x0 x8
    go_wp2_with fail
    have HDF : Hid (wi.grownBy wi.drew none) := grown_drew wi 1 none
    go_region_with
      (first
        | (go_at_call 61; refine (rules_w _).mono ?_; rintro e wr ⟨gr, rfl, hg, HTR⟩; have SR := Lib.hid ((SF.out.still HDF.out).still hg); have xr8 := SR.out.cell 8; simp only [stCells, List.getElem?_cons_succ, List.getElem?_cons_zero] at xr8; have hru3 : wr.cell? ⟨gr, 1, none⟩ = some (.string (bs (ruleW 2))) := txts_cell HTR.out.1 rfl; clear hg)
        | (go_at_call 83; refine (ws_p b _ (ruleW 2 ++ [40]) _ _ SR.out.wb (by rw [Joins.data_append] <;> rfl) (HT.out (([99, 104, 101, 99, 107, 32] ++ name ++ [32, 61, 32])) _ _ (by first | (rw [hL.out]; done) | (rw [hL.out]; simp <;> rfl)))).mono ?_; rintro e v11 ⟨⟨v, rfl⟩, hb, hk⟩; have hb' := hb; rw [List.append_assoc] at hb'; have S11 : Hid (LS w v11 b (l ++ (([99, 104, 101, 99, 107, 32] ++ name ++ [32, 61, 32]) ++ (ruleW 2 ++ [40]))) ⟨3, name, xa, xb, 2, n, d, k, snap⟩ A B) := SR.out.next hb' hk; clear hb hb' hk))
    all_goals
      have x2 := S11.out.cell 2
      have x3 := S11.out.cell 3
      have x4 := S11.out.cell 4
      simp only [stCells, List.getElem?_cons_succ, List.getElem?_cons_zero] at x2 x3 x4
      go_wp2_with fail
      refine (text_any xa 0 b _ _ _ S11.out.wb S11.out.na (by decide) (by decide) (HT.out (([99, 104, 101, 99, 107, 32] ++ name ++ [32, 61, 32]) ++ (ruleW 2 ++ [40])) _ _ (by first | (rw [hL.out]; done) | (rw [hL.out]; simp <;> rfl)))).mono ?_
      rintro e v12 ⟨rfl, hb, hk⟩
      have hb' := hb; rw [List.append_assoc] at hb'
      have S12 : Hid (LS w v12 b (l ++ (([99, 104, 101, 99, 107, 32] ++ name ++ [32, 61, 32]) ++ (ruleW 2 ++ [40]) ++ textP xa 0)) ⟨3, name, xa, xb, 2, n, d, k, snap⟩ A B) := S11.out.next hb' hk
      clear hb hb' hk S11
      clear x2 x3 x4
      have x8 := S12.out.cell 8
      simp only [stCells, List.getElem?_cons_succ, List.getElem?_cons_zero] at x8
      have x0 := S12.out.cell 0
      simp only [stCells, List.getElem?_cons_zero] at x0
      go_wp2_with fail
      refine (ws_p b _ ([44, 32] ++ Lib.itoa n ++ [41]) _ _ S12.out.wb (by rw [Joins.data_append, Joins.data_append] <;> rfl) (HT.out (([99, 104, 101, 99, 107, 32] ++ name ++ [32, 61, 32]) ++ (ruleW 2 ++ [40]) ++ textP xa 0) _ _ (by first | (rw [hL.out]; done) | (rw [hL.out]; simp <;> rfl)))).mono ?_
      rintro e v13 ⟨⟨v, rfl⟩, hb, hk⟩
      have hb' := hb; rw [List.append_assoc] at hb'
      have S13 : Hid (LS w v13 b (l ++ (([99, 104, 101, 99, 107, 32] ++ name ++ [32, 61, 32]) ++ (ruleW 2 ++ [40]) ++ textP xa 0 ++ ([44, 32] ++ Lib.itoa n ++ [41]))) ⟨3, name, xa, xb, 2, n, d, k, snap⟩ A B) := S12.out.next hb' hk
      clear hb hb' hk S12
      clear x0
      go_wp2_with fail
      refine (ws_p b _ [59, 10] _ _ S13.out.wb (by rfl) (HT.out (([99, 104, 101, 99, 107, 32] ++ name ++ [32, 61, 32]) ++ (ruleW 2 ++ [40]) ++ textP xa 0 ++ ([44, 32] ++ Lib.itoa n ++ [41])) _ _ (by first | (rw [hL.out]; done) | (rw [hL.out]; simp <;> rfl)))).mono ?_
      rintro e v14 ⟨⟨v, rfl⟩, hb, hk⟩
      have hb' := hb; rw [List.append_assoc] at hb'
      have S14 : Hid (LS w v14 b (l ++ (([99, 104, 101, 99, 107, 32] ++ name ++ [32, 61, 32]) ++ (ruleW 2 ++ [40]) ++ textP xa 0 ++ ([44, 32] ++ Lib.itoa n ++ [41]) ++ [59, 10])) ⟨3, name, xa, xb, 2, n, d, k, snap⟩ A B) := S13.out.next hb' hk
      clear hb hb' hk S13
      go_wp2
      first | go_end0 | refine bodyPost_ret (results_none rfl _ _ _) rfl ?_
      refine ⟨rfl, ?_, S14.out.kp⟩
      have h := S14.out.wb
      rw [hL.out]
      simpa using h

set_option maxHeartbeats 4000000 in
set_option maxRecDepth 100000 in
theorem line_check3 (name : List UInt8) (xa xb : Nd) (n d k : Int) (snap : Bool) (A B : NV) (b : Nat) (l L : List UInt8) (w : World) (hw : WB w b l) (h6 : 6 ≤ b) (hg : Good w) (ha : NdIs (· < b) w xa A.val) (hb : NdIs (· < b) w xb B.val) (hrn : Hid (Rng n ∧ Rng d ∧ Rng k))
    (hL : Hid (L = ([99, 104, 101, 99, 107, 32] ++ name ++ [32, 61, 32]) ++ (ruleW 3 ++ [40]) ++ textP xa 0 ++ ([44, 32] ++ Lib.itoa n ++ [41]) ++ [59, 10])) (hlen : l.length + L.length ≤ 140737488355328) :
    Calls Tryz.prog 64 #[.agg #[.int .i64 3, .string (bs name), .int .i64 A.k, .string A.s, .slice A.a A.n A.c, .int .i64 B.k, .string B.s, .slice B.a B.n B.c, .int .i64 3, .int .i64 n, .int .i64 d, .int .i64 k, .bool snap], .pointer (some ⟨b, 0, none⟩)] w
      fun e w' => e = .returned (.tuple #[]) ∧ WB w' b (l ++ L) ∧ Keeps b w w' := by
  have S0 := Lib.hid (LS.start (x := ⟨3, name, xa, xb, 3, n, d, k, snap⟩) hw h6 hg ha hb)
  have HT : Hid (∀ q p r, L = q ++ p ++ r → (l ++ q).length + p.length ≤ 140737488355328) := fit_of hlen
  have HNAME : Hid ((bs name).size = name.length) := bs_size _
  have hsz : (bs name).size ≤ 140737488355328 := by rw [HNAME.out]; have := HT.out ([99, 104, 101, 99, 107, 32]) name _ (by first | (rw [hL.out]; done) | (rw [hL.out]; simp <;> rfl)); rw [List.length_append] at this; omega
  have HI : Hid (∀ z : Int, Rng z → (bs (Lib.itoa z)).size ≤ 21) := fun z h => by rw [bs_size]; exact Lib.itoa_length_le z h.1 h.2
  clear hw h6 hg ha hb hlen
  have x0 := S0.out.cell 0
  simp only [stCells, List.getElem?_cons_zero] at x0
  have S1 := Lib.hid (fun o => S0.out.still (grown_alloc _ o none))
  have y0 := fun o => (S1.out o).cell 0
  simp only [stCells, List.getElem?_cons_zero] at y0
  go_enter Tryz.func64, Tryz.ntmps64
  go_wp2_with fail
  have S2 : Hid (LS w ((w.alloc (.cells #[.int .i64 3, .string (bs name), .int .i64 A.k, .string A.s, .slice A.a A.n A.c, .int .i64 B.k, .string B.s, .slice B.a B.n B.c, .int .i64 3, .int .i64 n, .int .i64 d, .int .i64 k, .bool snap] 39)).alloc (.cells #[.string ⟨#[]⟩, .string ⟨#[105, 110, 112, 117, 116, 32]⟩, .string ⟨#[108, 101, 116, 32]⟩, .string ⟨#[99, 104, 101, 99, 107, 32]⟩, .string ⟨#[115, 109, 97, 108, 108, 32]⟩, .string ⟨#[119, 114, 105, 116, 101, 32]⟩] 9)) b l ⟨3, name, xa, xb, 3, n, d, k, snap⟩ A B) := S1.out _
  have HW : Hid (World.cell? ((w.alloc (.cells #[.int .i64 3, .string (bs name), .int .i64 A.k, .string A.s, .slice A.a A.n A.c, .int .i64 B.k, .string B.s, .slice B.a B.n B.c, .int .i64 3, .int .i64 n, .int .i64 d, .int .i64 k, .bool snap] 39)).alloc (.cells #[.string ⟨#[]⟩, .string ⟨#[105, 110, 112, 117, 116, 32]⟩, .string ⟨#[108, 101, 116, 32]⟩, .string ⟨#[99, 104, 101, 99, 107, 32]⟩, .string ⟨#[115, 109, 97, 108, 108, 32]⟩, .string ⟨#[119, 114, 105, 116, 101, 32]⟩] 9)) ⟨w.heap.size + 1, 3, none⟩ = some (.string ⟨#[99, 104, 101, 99, 107, 32]⟩)) := cell_at (w.alloc (.cells #[.int .i64 3, .string (bs name), .int .i64 A.k, .string A.s, .slice A.a A.n A.c, .int .i64 B.k, .string B.s, .slice B.a B.n B.c, .int .i64 3, .int .i64 n, .int .i64 d, .int .i64 k, .bool snap] 39)) [.string ⟨#[]⟩, .string ⟨#[105, 110, 112, 117, 116, 32]⟩, .string ⟨#[108, 101, 116, 32]⟩, .string ⟨#[99, 104, 101, 99, 107, 32]⟩, .string ⟨#[115, 109, 97, 108, 108, 32]⟩, .string ⟨#[119, 114, 105, 116, 101, 32]⟩] 9 (w.heap.size + 1) (by simp) 3 _ rfl
  clear x0 y0 S0 S1
  generalize ((w.alloc (.cells #[.int .i64 3, .string (bs name), .int .i64 A.k, .string A.s, .slice A.a A.n A.c, .int .i64 B.k, .string B.s, .slice B.a B.n B.c, .int .i64 3, .int .i64 n, .int .i64 d, .int .i64 k, .bool snap] 39)).alloc (.cells #[.string ⟨#[]⟩, .string ⟨#[105, 110, 112, 117, 116, 32]⟩, .string ⟨#[108, 101, 116, 32]⟩, .string ⟨#[99, 104, 101, 99, 107, 32]⟩, .string ⟨#[115, 109, 97, 108, 108, 32]⟩, .string ⟨#[119, 114, 105, 116, 101, 32]⟩] 9)) = w2 at *
  have x0 := S2.out.cell 0
  have x1 := S2.out.cell 1
  simp only [stCells, List.getElem?_cons_succ, List.getElem?_cons_zero] at x0 x1
  have z2 := HW.out
  have hz1 : ¬ 9223372036854775807 < 6 + (bs name).size := by omega
  have hz2 : ¬ 9223372036854775807 < 6 + (bs name).size + 3 := by omega
  go_still_tail 10, (by kernel_rfl)
  change wpList _ _ _ _ _ w2.drew
  have S3 : Hid (LS w w2.drew b l ⟨3, name, xa, xb, 3, n, d, k, snap⟩ A B) := S2.out.still (grown_drew w2 1 none)
  clear x0 x1
  clear z2 hz1 hz2
  generalize w2.drew = w3 at *
  go_wp2_with fail
  refine (ws_p b l ([99, 104, 101, 99, 107, 32] ++ name ++ [32, 61, 32]) _ _ S3.out.wb (by rw [Joins.data_append, Joins.data_append]; rfl) (fit_first HT.out (by first | (rw [hL.out]; done) | (rw [hL.out]; simp <;> rfl)))).mono ?_
  rintro e w4 ⟨⟨v, rfl⟩, hb, hk⟩
  have S4 := Lib.hid (S3.out.next hb hk)
  clear hb hk S3 S2 HW
  have x9 := S4.out.cell 9
  have x11 := S4.out.cell 11
  simp only [stCells, List.getElem?_cons_succ, List.getElem?_cons_zero] at x9 x11
  have HD : Hid (w4.grownBy w4.drew none) := grown_drew w4 1 none
  go_wp2_with fail
  go_region_held3 (fun w' => w'.cell? ⟨w.heap.size, 9, none⟩ = some (.int .i64 n) ∧ w'.cell? ⟨w.heap.size, 11, none⟩ = some (.int .i64 k)) (first | exact ⟨x9, x11⟩ | exact ⟨y9, y11⟩ | exact ⟨z9, z11⟩)
    (first
      | (go_at_call 84; refine (itoa_w _ ?_ ?_ _ ?_).mono ?_; (first | exact hrn.out.1.1 | exact hrn.out.2.2.1); (first | exact hrn.out.1.2 | exact hrn.out.2.2.2); (first | exact SA.out.gd | exact S4.out.gd.still HD.out); rintro e wi ⟨rfl, hg⟩; (first | (have SF := Lib.hid (SA.out.still hg); have z9 := SF.out.cell 9; have z11 := SF.out.cell 11; simp only [stCells, List.getElem?_cons_succ, List.getElem?_cons_zero] at z9 z11) | (have SA := Lib.hid ((S4.out.still HD.out).still hg); have y9 := SA.out.cell 9; have y11 := SA.out.cell 11; simp only [stCells, List.getElem?_cons_succ, List.getElem?_cons_zero] at y9 y11)); clear hg))
  all_goals
    clear x9 x11 HD
    try clear y9 y11 SA
    try clear z9 z11
    have hsn := HI.out n hrn.out.1
    have hsk := HI.out k hrn.out.2.2
    have hz3 : ¬ 9223372036854775807 < (bs (ruleW 3)).size + 1 := by decide
    have x0 := SF.out.cell 0
    have x8 := SF.out.cell 8
    simp only [stCells, List.getElem?_cons_succ, List.getElem?_cons_zero] at x0 x8
    go_wp2_with fail
    have HDF : Hid (wi.grownBy wi.drew none) := grown_drew wi 1 none
    go_region_with
      (first
        | (go_at_call 61; refine (rules_w _).mono ?_; rintro e wr ⟨gr, rfl, hg, HTR⟩; have SR := Lib.hid ((SF.out.still HDF.out).still hg); have xr8 := SR.out.cell 8; simp only [stCells, List.getElem?_cons_succ, List.getElem?_cons_zero] at xr8; have hru3 : wr.cell? ⟨gr, 2, none⟩ = some (.string (bs (ruleW 3))) := txts_cell HTR.out.1 rfl; clear hg)
        | (go_at_call 83; refine (ws_p b _ (ruleW 3 ++ [40]) _ _ SR.out.wb (by rw [Joins.data_append] <;> rfl) (HT.out (([99, 104, 101, 99, 107, 32] ++ name ++ [32, 61, 32])) _ _ (by first | (rw [hL.out]; done) | (rw [hL.out]; simp <;> rfl)))).mono ?_; rintro e v11 ⟨⟨v, rfl⟩, hb, hk⟩; have hb' := hb; rw [List.append_assoc] at hb'; have S11 : Hid (LS w v11 b (l ++ (([99, 104, 101, 99, 107, 32] ++ name ++ [32, 61, 32]) ++ (ruleW 3 ++ [40]))) ⟨3, name, xa, xb, 3, n, d, k, snap⟩ A B) := SR.out.next hb' hk; clear hb hb' hk))
    all_goals
      have x2 := S11.out.cell 2
      have x3 := S11.out.cell 3
      have x4 := S11.out.cell 4
      simp only [stCells, List.getElem?_cons_succ, List.getElem?_cons_zero] at x2 x3 x4
      go_wp2_with fail
      refine (text_any xa 0 b _ _ _ S11.out.wb S11.out.na (by decide) (by decide) (HT.out (([99, 104, 101, 99, 107, 32] ++ name ++ [32, 61, 32]) ++ (ruleW 3 ++ [40])) _ _ (by first | (rw [hL.out]; done) | (rw [hL.out]; simp <;> rfl)))).mono ?_
      rintro e v12 ⟨rfl, hb, hk⟩
      have hb' := hb; rw [List.append_assoc] at hb'
      have S12 : Hid (LS w v12 b (l ++ (([99, 104, 101, 99, 107, 32] ++ name ++ [32, 61, 32]) ++ (ruleW 3 ++ [40]) ++ textP xa 0)) ⟨3, name, xa, xb, 3, n, d, k, snap⟩ A B) := S11.out.next hb' hk
      clear hb hb' hk S11
      clear x2 x3 x4
      have x8 := S12.out.cell 8
      simp only [stCells, List.getElem?_cons_succ, List.getElem?_cons_zero] at x8
      have x0 := S12.out.cell 0
      simp only [stCells, List.getElem?_cons_zero] at x0
      go_wp2_with fail
      refine (ws_p b _ ([44, 32] ++ Lib.itoa n ++ [41]) _ _ S12.out.wb (by rw [Joins.data_append, Joins.data_append] <;> rfl) (HT.out (([99, 104, 101, 99, 107, 32] ++ name ++ [32, 61, 32]) ++ (ruleW 3 ++ [40]) ++ textP xa 0) _ _ (by first | (rw [hL.out]; done) | (rw [hL.out]; simp <;> rfl)))).mono ?_
      rintro e v13 ⟨⟨v, rfl⟩, hb, hk⟩
      have hb' := hb; rw [List.append_assoc] at hb'
      have S13 : Hid (LS w v13 b (l ++ (([99, 104, 101, 99, 107, 32] ++ name ++ [32, 61, 32]) ++ (ruleW 3 ++ [40]) ++ textP xa 0 ++ ([44, 32] ++ Lib.itoa n ++ [41]))) ⟨3, name, xa, xb, 3, n, d, k, snap⟩ A B) := S12.out.next hb' hk
      clear hb hb' hk S12
      clear x0
      go_wp2_with fail
      refine (ws_p b _ [59, 10] _ _ S13.out.wb (by rfl) (HT.out (([99, 104, 101, 99, 107, 32] ++ name ++ [32, 61, 32]) ++ (ruleW 3 ++ [40]) ++ textP xa 0 ++ ([44, 32] ++ Lib.itoa n ++ [41])) _ _ (by first | (rw [hL.out]; done) | (rw [hL.out]; simp <;> rfl)))).mono ?_
      rintro e v14 ⟨⟨v, rfl⟩, hb, hk⟩
      have hb' := hb; rw [List.append_assoc] at hb'
      have S14 : Hid (LS w v14 b (l ++ (([99, 104, 101, 99, 107, 32] ++ name ++ [32, 61, 32]) ++ (ruleW 3 ++ [40]) ++ textP xa 0 ++ ([44, 32] ++ Lib.itoa n ++ [41]) ++ [59, 10])) ⟨3, name, xa, xb, 3, n, d, k, snap⟩ A B) := S13.out.next hb' hk
      clear hb hb' hk S13
      go_wp2
      first | go_end0 | refine bodyPost_ret (results_none rfl _ _ _) rfl ?_
      refine ⟨rfl, ?_, S14.out.kp⟩
      have h := S14.out.wb
      rw [hL.out]
      simpa using h

set_option maxHeartbeats 4000000 in
set_option maxRecDepth 100000 in
theorem line_check4 (name : List UInt8) (xa xb : Nd) (n d k : Int) (snap : Bool) (A B : NV) (b : Nat) (l L : List UInt8) (w : World) (hw : WB w b l) (h6 : 6 ≤ b) (hg : Good w) (ha : NdIs (· < b) w xa A.val) (hb : NdIs (· < b) w xb B.val) (hrn : Hid (Rng n ∧ Rng d ∧ Rng k))
    (hL : Hid (L = ([99, 104, 101, 99, 107, 32] ++ name ++ [32, 61, 32]) ++ (ruleW 4 ++ [40]) ++ textP xa 0 ++ [44, 32] ++ textP xb 0 ++ ([44, 32] ++ Lib.itoa n ++ [41]) ++ [59, 10])) (hlen : l.length + L.length ≤ 140737488355328) :
    Calls Tryz.prog 64 #[.agg #[.int .i64 3, .string (bs name), .int .i64 A.k, .string A.s, .slice A.a A.n A.c, .int .i64 B.k, .string B.s, .slice B.a B.n B.c, .int .i64 4, .int .i64 n, .int .i64 d, .int .i64 k, .bool snap], .pointer (some ⟨b, 0, none⟩)] w
      fun e w' => e = .returned (.tuple #[]) ∧ WB w' b (l ++ L) ∧ Keeps b w w' := by
  have S0 := Lib.hid (LS.start (x := ⟨3, name, xa, xb, 4, n, d, k, snap⟩) hw h6 hg ha hb)
  have HT : Hid (∀ q p r, L = q ++ p ++ r → (l ++ q).length + p.length ≤ 140737488355328) := fit_of hlen
  have HNAME : Hid ((bs name).size = name.length) := bs_size _
  have hsz : (bs name).size ≤ 140737488355328 := by rw [HNAME.out]; have := HT.out ([99, 104, 101, 99, 107, 32]) name _ (by first | (rw [hL.out]; done) | (rw [hL.out]; simp <;> rfl)); rw [List.length_append] at this; omega
  have HI : Hid (∀ z : Int, Rng z → (bs (Lib.itoa z)).size ≤ 21) := fun z h => by rw [bs_size]; exact Lib.itoa_length_le z h.1 h.2
  clear hw h6 hg ha hb hlen
  have x0 := S0.out.cell 0
  simp only [stCells, List.getElem?_cons_zero] at x0
  have S1 := Lib.hid (fun o => S0.out.still (grown_alloc _ o none))
  have y0 := fun o => (S1.out o).cell 0
  simp only [stCells, List.getElem?_cons_zero] at y0
  go_enter Tryz.func64, Tryz.ntmps64
  go_wp2_with fail
  have S2 : Hid (LS w ((w.alloc (.cells #[.int .i64 3, .string (bs name), .int .i64 A.k, .string A.s, .slice A.a A.n A.c, .int .i64 B.k, .string B.s, .slice B.a B.n B.c, .int .i64 4, .int .i64 n, .int .i64 d, .int .i64 k, .bool snap] 39)).alloc (.cells #[.string ⟨#[]⟩, .string ⟨#[105, 110, 112, 117, 116, 32]⟩, .string ⟨#[108, 101, 116, 32]⟩, .string ⟨#[99, 104, 101, 99, 107, 32]⟩, .string ⟨#[115, 109, 97, 108, 108, 32]⟩, .string ⟨#[119, 114, 105, 116, 101, 32]⟩] 9)) b l ⟨3, name, xa, xb, 4, n, d, k, snap⟩ A B) := S1.out _
  have HW : Hid (World.cell? ((w.alloc (.cells #[.int .i64 3, .string (bs name), .int .i64 A.k, .string A.s, .slice A.a A.n A.c, .int .i64 B.k, .string B.s, .slice B.a B.n B.c, .int .i64 4, .int .i64 n, .int .i64 d, .int .i64 k, .bool snap] 39)).alloc (.cells #[.string ⟨#[]⟩, .string ⟨#[105, 110, 112, 117, 116, 32]⟩, .string ⟨#[108, 101, 116, 32]⟩, .string ⟨#[99, 104, 101, 99, 107, 32]⟩, .string ⟨#[115, 109, 97, 108, 108, 32]⟩, .string ⟨#[119, 114, 105, 116, 101, 32]⟩] 9)) ⟨w.heap.size + 1, 3, none⟩ = some (.string ⟨#[99, 104, 101, 99, 107, 32]⟩)) := cell_at (w.alloc (.cells #[.int .i64 3, .string (bs name), .int .i64 A.k, .string A.s, .slice A.a A.n A.c, .int .i64 B.k, .string B.s, .slice B.a B.n B.c, .int .i64 4, .int .i64 n, .int .i64 d, .int .i64 k, .bool snap] 39)) [.string ⟨#[]⟩, .string ⟨#[105, 110, 112, 117, 116, 32]⟩, .string ⟨#[108, 101, 116, 32]⟩, .string ⟨#[99, 104, 101, 99, 107, 32]⟩, .string ⟨#[115, 109, 97, 108, 108, 32]⟩, .string ⟨#[119, 114, 105, 116, 101, 32]⟩] 9 (w.heap.size + 1) (by simp) 3 _ rfl
  clear x0 y0 S0 S1
  generalize ((w.alloc (.cells #[.int .i64 3, .string (bs name), .int .i64 A.k, .string A.s, .slice A.a A.n A.c, .int .i64 B.k, .string B.s, .slice B.a B.n B.c, .int .i64 4, .int .i64 n, .int .i64 d, .int .i64 k, .bool snap] 39)).alloc (.cells #[.string ⟨#[]⟩, .string ⟨#[105, 110, 112, 117, 116, 32]⟩, .string ⟨#[108, 101, 116, 32]⟩, .string ⟨#[99, 104, 101, 99, 107, 32]⟩, .string ⟨#[115, 109, 97, 108, 108, 32]⟩, .string ⟨#[119, 114, 105, 116, 101, 32]⟩] 9)) = w2 at *
  have x0 := S2.out.cell 0
  have x1 := S2.out.cell 1
  simp only [stCells, List.getElem?_cons_succ, List.getElem?_cons_zero] at x0 x1
  have z2 := HW.out
  have hz1 : ¬ 9223372036854775807 < 6 + (bs name).size := by omega
  have hz2 : ¬ 9223372036854775807 < 6 + (bs name).size + 3 := by omega
  go_still_tail 10, (by kernel_rfl)
  change wpList _ _ _ _ _ w2.drew
  have S3 : Hid (LS w w2.drew b l ⟨3, name, xa, xb, 4, n, d, k, snap⟩ A B) := S2.out.still (grown_drew w2 1 none)
  clear x0 x1
  clear z2 hz1 hz2
  generalize w2.drew = w3 at *
  go_wp2_with fail
  refine (ws_p b l ([99, 104, 101, 99, 107, 32] ++ name ++ [32, 61, 32]) _ _ S3.out.wb (by rw [Joins.data_append, Joins.data_append]; rfl) (fit_first HT.out (by first | (rw [hL.out]; done) | (rw [hL.out]; simp <;> rfl)))).mono ?_
  rintro e w4 ⟨⟨v, rfl⟩, hb, hk⟩
  have S4 := Lib.hid (S3.out.next hb hk)
  clear hb hk S3 S2 HW
  have x9 := S4.out.cell 9
  have x11 := S4.out.cell 11
  simp only [stCells, List.getElem?_cons_succ, List.getElem?_cons_zero] at x9 x11
  have HD : Hid (w4.grownBy w4.drew none) := grown_drew w4 1 none
  go_wp2_with fail
  go_region_held3 (fun w' => w'.cell? ⟨w.heap.size, 9, none⟩ = some (.int .i64 n) ∧ w'.cell? ⟨w.heap.size, 11, none⟩ = some (.int .i64 k)) (first | exact ⟨x9, x11⟩ | exact ⟨y9, y11⟩ | exact ⟨z9, z11⟩)
    (first
      | (go_at_call 84; refine (itoa_w _ ?_ ?_ _ ?_).mono ?_; (first | exact hrn.out.1.1 | exact hrn.out.2.2.1); (first | exact hrn.out.1.2 | exact hrn.out.2.2.2); (first | exact SA.out.gd | exact S4.out.gd.still HD.out); rintro e wi ⟨rfl, hg⟩; (first | (have SF := Lib.hid (SA.out.still hg); have z9 := SF.out.cell 9; have z11 := SF.out.cell 11; simp only [stCells, List.getElem?_cons_succ, List.getElem?_cons_zero] at z9 z11) | (have SA := Lib.hid ((S4.out.still HD.out).still hg); have y9 := SA.out.cell 9; have y11 := SA.out.cell 11; simp only [stCells, List.getElem?_cons_succ, List.getElem?_cons_zero] at y9 y11)); clear hg))
  all_goals
    clear x9 x11 HD
    try clear y9 y11 SA
    try clear z9 z11
    have hsn := HI.out n hrn.out.1
    have hsk := HI.out k hrn.out.2.2
    have hz3 : ¬ 9223372036854775807 < (bs (ruleW 4)).size + 1 := by decide
    have x0 := SF.out.cell 0
    have x8 := SF.out.cell 8
    simp only [stCells, List.getElem?_cons_succ, List.getElem?_cons_zero] at x0 x8
    go_wp2_with fail
    have HDF : Hid (wi.grownBy wi.drew none) := grown_drew wi 1 none
    go_region_with
      (first
        | (go_at_call 61; refine (rules_w _).mono ?_; rintro e wr ⟨gr, rfl, hg, HTR⟩; have SR := Lib.hid ((SF.out.still HDF.out).still hg); have xr8 := SR.out.cell 8; simp only [stCells, List.getElem?_cons_succ, List.getElem?_cons_zero] at xr8; have hru3 : wr.cell? ⟨gr, 3, none⟩ = some (.string (bs (ruleW 4))) := txts_cell HTR.out.1 rfl; clear hg)
        | (go_at_call 83; refine (ws_p b _ (ruleW 4 ++ [40]) _ _ SR.out.wb (by rw [Joins.data_append] <;> rfl) (HT.out (([99, 104, 101, 99, 107, 32] ++ name ++ [32, 61, 32])) _ _ (by first | (rw [hL.out]; done) | (rw [hL.out]; simp <;> rfl)))).mono ?_; rintro e v11 ⟨⟨v, rfl⟩, hb, hk⟩; have hb' := hb; rw [List.append_assoc] at hb'; have S11 : Hid (LS w v11 b (l ++ (([99, 104, 101, 99, 107, 32] ++ name ++ [32, 61, 32]) ++ (ruleW 4 ++ [40]))) ⟨3, name, xa, xb, 4, n, d, k, snap⟩ A B) := SR.out.next hb' hk; clear hb hb' hk))
    all_goals
      have x2 := S11.out.cell 2
      have x3 := S11.out.cell 3
      have x4 := S11.out.cell 4
      simp only [stCells, List.getElem?_cons_succ, List.getElem?_cons_zero] at x2 x3 x4
      go_wp2_with fail
      refine (text_any xa 0 b _ _ _ S11.out.wb S11.out.na (by decide) (by decide) (HT.out (([99, 104, 101, 99, 107, 32] ++ name ++ [32, 61, 32]) ++ (ruleW 4 ++ [40])) _ _ (by first | (rw [hL.out]; done) | (rw [hL.out]; simp <;> rfl)))).mono ?_
      rintro e v12 ⟨rfl, hb, hk⟩
      have hb' := hb; rw [List.append_assoc] at hb'
      have S12 : Hid (LS w v12 b (l ++ (([99, 104, 101, 99, 107, 32] ++ name ++ [32, 61, 32]) ++ (ruleW 4 ++ [40]) ++ textP xa 0)) ⟨3, name, xa, xb, 4, n, d, k, snap⟩ A B) := S11.out.next hb' hk
      clear hb hb' hk S11
      clear x2 x3 x4
      have x8 := S12.out.cell 8
      simp only [stCells, List.getElem?_cons_succ, List.getElem?_cons_zero] at x8
      go_wp2_with fail
      refine (ws_p b _ [44, 32] _ _ S12.out.wb (by rfl) (HT.out (([99, 104, 101, 99, 107, 32] ++ name ++ [32, 61, 32]) ++ (ruleW 4 ++ [40]) ++ textP xa 0) _ _ (by first | (rw [hL.out]; done) | (rw [hL.out]; simp <;> rfl)))).mono ?_
      rintro e v13 ⟨⟨v, rfl⟩, hb, hk⟩
      have hb' := hb; rw [List.append_assoc] at hb'
      have S13 : Hid (LS w v13 b (l ++ (([99, 104, 101, 99, 107, 32] ++ name ++ [32, 61, 32]) ++ (ruleW 4 ++ [40]) ++ textP xa 0 ++ [44, 32])) ⟨3, name, xa, xb, 4, n, d, k, snap⟩ A B) := S12.out.next hb' hk
      clear hb hb' hk S12
      clear x8
      have x5 := S13.out.cell 5
      have x6 := S13.out.cell 6
      have x7 := S13.out.cell 7
      simp only [stCells, List.getElem?_cons_succ, List.getElem?_cons_zero] at x5 x6 x7
      go_wp2_with fail
      refine (text_any xb 0 b _ _ _ S13.out.wb S13.out.nb (by decide) (by decide) (HT.out (([99, 104, 101, 99, 107, 32] ++ name ++ [32, 61, 32]) ++ (ruleW 4 ++ [40]) ++ textP xa 0 ++ [44, 32]) _ _ (by first | (rw [hL.out]; done) | (rw [hL.out]; simp <;> rfl)))).mono ?_
      rintro e v14 ⟨rfl, hb, hk⟩
      have hb' := hb; rw [List.append_assoc] at hb'
      have S14 : Hid (LS w v14 b (l ++ (([99, 104, 101, 99, 107, 32] ++ name ++ [32, 61, 32]) ++ (ruleW 4 ++ [40]) ++ textP xa 0 ++ [44, 32] ++ textP xb 0)) ⟨3, name, xa, xb, 4, n, d, k, snap⟩ A B) := S13.out.next hb' hk
      clear hb hb' hk S13
      clear x5 x6 x7
      have x0 := S14.out.cell 0
      simp only [stCells, List.getElem?_cons_zero] at x0
      go_wp2_with fail
      refine (ws_p b _ ([44, 32] ++ Lib.itoa n ++ [41]) _ _ S14.out.wb (by rw [Joins.data_append, Joins.data_append] <;> rfl) (HT.out (([99, 104, 101, 99, 107, 32] ++ name ++ [32, 61, 32]) ++ (ruleW 4 ++ [40]) ++ textP xa 0 ++ [44, 32] ++ textP xb 0) _ _ (by first | (rw [hL.out]; done) | (rw [hL.out]; simp <;> rfl)))).mono ?_
      rintro e v15 ⟨⟨v, rfl⟩, hb, hk⟩
      have hb' := hb; rw [List.append_assoc] at hb'
      have S15 : Hid (LS w v15 b (l ++ (([99, 104, 101, 99, 107, 32] ++ name ++ [32, 61, 32]) ++ (ruleW 4 ++ [40]) ++ textP xa 0 ++ [44, 32] ++ textP xb 0 ++ ([44, 32] ++ Lib.itoa n ++ [41]))) ⟨3, name, xa, xb, 4, n, d, k, snap⟩ A B) := S14.out.next hb' hk
      clear hb hb' hk S14
      clear x0
      go_wp2_with fail
      refine (ws_p b _ [59, 10] _ _ S15.out.wb (by rfl) (HT.out (([99, 104, 101, 99, 107, 32] ++ name ++ [32, 61, 32]) ++ (ruleW 4 ++ [40]) ++ textP xa 0 ++ [44, 32] ++ textP xb 0 ++ ([44, 32] ++ Lib.itoa n ++ [41])) _ _ (by first | (rw [hL.out]; done) | (rw [hL.out]; simp <;> rfl)))).mono ?_
      rintro e v16 ⟨⟨v, rfl⟩, hb, hk⟩
      have hb' := hb; rw [List.append_assoc] at hb'
      have S16 : Hid (LS w v16 b (l ++ (([99, 104, 101, 99, 107, 32] ++ name ++ [32, 61, 32]) ++ (ruleW 4 ++ [40]) ++ textP xa 0 ++ [44, 32] ++ textP xb 0 ++ ([44, 32] ++ Lib.itoa n ++ [41]) ++ [59, 10])) ⟨3, name, xa, xb, 4, n, d, k, snap⟩ A B) := S15.out.next hb' hk
      clear hb hb' hk S15
      go_wp2
      first | go_end0 | refine bodyPost_ret (results_none rfl _ _ _) rfl ?_
      refine ⟨rfl, ?_, S16.out.kp⟩
      have h := S16.out.wb
      rw [hL.out]
      simpa using h

set_option maxHeartbeats 4000000 in
set_option maxRecDepth 100000 in
theorem line_check5 (name : List UInt8) (xa xb : Nd) (n d k : Int) (snap : Bool) (A B : NV) (b : Nat) (l L : List UInt8) (w : World) (hw : WB w b l) (h6 : 6 ≤ b) (hg : Good w) (ha : NdIs (· < b) w xa A.val) (hb : NdIs (· < b) w xb B.val) (hrn : Hid (Rng n ∧ Rng d ∧ Rng k))
    (hL : Hid (L = ([99, 104, 101, 99, 107, 32] ++ name ++ [32, 61, 32]) ++ (ruleW 5 ++ [40]) ++ textP xa 0 ++ [44, 32] ++ textP xb 0 ++ ([44, 32] ++ Lib.itoa n ++ [41]) ++ [59, 10])) (hlen : l.length + L.length ≤ 140737488355328) :
    Calls Tryz.prog 64 #[.agg #[.int .i64 3, .string (bs name), .int .i64 A.k, .string A.s, .slice A.a A.n A.c, .int .i64 B.k, .string B.s, .slice B.a B.n B.c, .int .i64 5, .int .i64 n, .int .i64 d, .int .i64 k, .bool snap], .pointer (some ⟨b, 0, none⟩)] w
      fun e w' => e = .returned (.tuple #[]) ∧ WB w' b (l ++ L) ∧ Keeps b w w' := by
  have S0 := Lib.hid (LS.start (x := ⟨3, name, xa, xb, 5, n, d, k, snap⟩) hw h6 hg ha hb)
  have HT : Hid (∀ q p r, L = q ++ p ++ r → (l ++ q).length + p.length ≤ 140737488355328) := fit_of hlen
  have HNAME : Hid ((bs name).size = name.length) := bs_size _
  have hsz : (bs name).size ≤ 140737488355328 := by rw [HNAME.out]; have := HT.out ([99, 104, 101, 99, 107, 32]) name _ (by first | (rw [hL.out]; done) | (rw [hL.out]; simp <;> rfl)); rw [List.length_append] at this; omega
  have HI : Hid (∀ z : Int, Rng z → (bs (Lib.itoa z)).size ≤ 21) := fun z h => by rw [bs_size]; exact Lib.itoa_length_le z h.1 h.2
  clear hw h6 hg ha hb hlen
  have x0 := S0.out.cell 0
  simp only [stCells, List.getElem?_cons_zero] at x0
  have S1 := Lib.hid (fun o => S0.out.still (grown_alloc _ o none))
  have y0 := fun o => (S1.out o).cell 0
  simp only [stCells, List.getElem?_cons_zero] at y0
  go_enter Tryz.func64, Tryz.ntmps64
  go_wp2_with fail
  have S2 : Hid (LS w ((w.alloc (.cells #[.int .i64 3, .string (bs name), .int .i64 A.k, .string A.s, .slice A.a A.n A.c, .int .i64 B.k, .string B.s, .slice B.a B.n B.c, .int .i64 5, .int .i64 n, .int .i64 d, .int .i64 k, .bool snap] 39)).alloc (.cells #[.string ⟨#[]⟩, .string ⟨#[105, 110, 112, 117, 116, 32]⟩, .string ⟨#[108, 101, 116, 32]⟩, .string ⟨#[99, 104, 101, 99, 107, 32]⟩, .string ⟨#[115, 109, 97, 108, 108, 32]⟩, .string ⟨#[119, 114, 105, 116, 101, 32]⟩] 9)) b l ⟨3, name, xa, xb, 5, n, d, k, snap⟩ A B) := S1.out _
  have HW : Hid (World.cell? ((w.alloc (.cells #[.int .i64 3, .string (bs name), .int .i64 A.k, .string A.s, .slice A.a A.n A.c, .int .i64 B.k, .string B.s, .slice B.a B.n B.c, .int .i64 5, .int .i64 n, .int .i64 d, .int .i64 k, .bool snap] 39)).alloc (.cells #[.string ⟨#[]⟩, .string ⟨#[105, 110, 112, 117, 116, 32]⟩, .string ⟨#[108, 101, 116, 32]⟩, .string ⟨#[99, 104, 101, 99, 107, 32]⟩, .string ⟨#[115, 109, 97, 108, 108, 32]⟩, .string ⟨#[119, 114, 105, 116, 101, 32]⟩] 9)) ⟨w.heap.size + 1, 3, none⟩ = some (.string ⟨#[99, 104, 101, 99, 107, 32]⟩)) := cell_at (w.alloc (.cells #[.int .i64 3, .string (bs name), .int .i64 A.k, .string A.s, .slice A.a A.n A.c, .int .i64 B.k, .string B.s, .slice B.a B.n B.c, .int .i64 5, .int .i64 n, .int .i64 d, .int .i64 k, .bool snap] 39)) [.string ⟨#[]⟩, .string ⟨#[105, 110, 112, 117, 116, 32]⟩, .string ⟨#[108, 101, 116, 32]⟩, .string ⟨#[99, 104, 101, 99, 107, 32]⟩, .string ⟨#[115, 109, 97, 108, 108, 32]⟩, .string ⟨#[119, 114, 105, 116, 101, 32]⟩] 9 (w.heap.size + 1) (by simp) 3 _ rfl
  clear x0 y0 S0 S1
  generalize ((w.alloc (.cells #[.int .i64 3, .string (bs name), .int .i64 A.k, .string A.s, .slice A.a A.n A.c, .int .i64 B.k, .string B.s, .slice B.a B.n B.c, .int .i64 5, .int .i64 n, .int .i64 d, .int .i64 k, .bool snap] 39)).alloc (.cells #[.string ⟨#[]⟩, .string ⟨#[105, 110, 112, 117, 116, 32]⟩, .string ⟨#[108, 101, 116, 32]⟩, .string ⟨#[99, 104, 101, 99, 107, 32]⟩, .string ⟨#[115, 109, 97, 108, 108, 32]⟩, .string ⟨#[119, 114, 105, 116, 101, 32]⟩] 9)) = w2 at *
  have x0 := S2.out.cell 0
  have x1 := S2.out.cell 1
  simp only [stCells, List.getElem?_cons_succ, List.getElem?_cons_zero] at x0 x1
  have z2 := HW.out
  have hz1 : ¬ 9223372036854775807 < 6 + (bs name).size := by omega
  have hz2 : ¬ 9223372036854775807 < 6 + (bs name).size + 3 := by omega
  go_still_tail 10, (by kernel_rfl)
  change wpList _ _ _ _ _ w2.drew
  have S3 : Hid (LS w w2.drew b l ⟨3, name, xa, xb, 5, n, d, k, snap⟩ A B) := S2.out.still (grown_drew w2 1 none)
  clear x0 x1
  clear z2 hz1 hz2
  generalize w2.drew = w3 at *
  go_wp2_with fail
  refine (ws_p b l ([99, 104, 101, 99, 107, 32] ++ name ++ [32, 61, 32]) _ _ S3.out.wb (by rw [Joins.data_append, Joins.data_append]; rfl) (fit_first HT.out (by first | (rw [hL.out]; done) | (rw [hL.out]; simp <;> rfl)))).mono ?_
  rintro e w4 ⟨⟨v, rfl⟩, hb, hk⟩
  have S4 := Lib.hid (S3.out.next hb hk)
  clear hb hk S3 S2 HW
  have x9 := S4.out.cell 9
  have x11 := S4.out.cell 11
  simp only [stCells, List.getElem?_cons_succ, List.getElem?_cons_zero] at x9 x11
  have HD : Hid (w4.grownBy w4.drew none) := grown_drew w4 1 none
  go_wp2_with fail
  go_region_held3 (fun w' => w'.cell? ⟨w.heap.size, 9, none⟩ = some (.int .i64 n) ∧ w'.cell? ⟨w.heap.size, 11, none⟩ = some (.int .i64 k)) (first | exact ⟨x9, x11⟩ | exact ⟨y9, y11⟩ | exact ⟨z9, z11⟩)
    (first
      | (go_at_call 84; refine (itoa_w _ ?_ ?_ _ ?_).mono ?_; (first | exact hrn.out.1.1 | exact hrn.out.2.2.1); (first | exact hrn.out.1.2 | exact hrn.out.2.2.2); (first | exact SA.out.gd | exact S4.out.gd.still HD.out); rintro e wi ⟨rfl, hg⟩; (first | (have SF := Lib.hid (SA.out.still hg); have z9 := SF.out.cell 9; have z11 := SF.out.cell 11; simp only [stCells, List.getElem?_cons_succ, List.getElem?_cons_zero] at z9 z11) | (have SA := Lib.hid ((S4.out.still HD.out).still hg); have y9 := SA.out.cell 9; have y11 := SA.out.cell 11; simp only [stCells, List.getElem?_cons_succ, List.getElem?_cons_zero] at y9 y11)); clear hg))
  all_goals
    clear x9 x11 HD
    try clear y9 y11 SA
    try clear z9 z11
    have hsn := HI.out n hrn.out.1
    have hsk := HI.out k hrn.out.2.2
    have hz3 : ¬ 9223372036854775807 < (bs (ruleW 5)).size + 1 := by decide
    have x0 := SF.out.cell 0
    have x8 := SF.out.cell 8
    simp only [stCells, List.getElem?_cons_succ, List.getElem?_cons_zero] at x0 x8
    go_wp2_with fail
    have HDF : Hid (wi.grownBy wi.drew none) := grown_drew wi 1 none
    go_region_with
      (first
        | (go_at_call 61; refine (rules_w _).mono ?_; rintro e wr ⟨gr, rfl, hg, HTR⟩; have SR := Lib.hid ((SF.out.still HDF.out).still hg); have xr8 := SR.out.cell 8; simp only [stCells, List.getElem?_cons_succ, List.getElem?_cons_zero] at xr8; have hru3 : wr.cell? ⟨gr, 4, none⟩ = some (.string (bs (ruleW 5))) := txts_cell HTR.out.1 rfl; clear hg)
        | (go_at_call 83; refine (ws_p b _ (ruleW 5 ++ [40]) _ _ SR.out.wb (by rw [Joins.data_append] <;> rfl) (HT.out (([99, 104, 101, 99, 107, 32] ++ name ++ [32, 61, 32])) _ _ (by first | (rw [hL.out]; done) | (rw [hL.out]; simp <;> rfl)))).mono ?_; rintro e v11 ⟨⟨v, rfl⟩, hb, hk⟩; have hb' := hb; rw [List.append_assoc] at hb'; have S11 : Hid (LS w v11 b (l ++ (([99, 104, 101, 99, 107, 32] ++ name ++ [32, 61, 32]) ++ (ruleW 5 ++ [40]))) ⟨3, name, xa, xb, 5, n, d, k, snap⟩ A B) := SR.out.next hb' hk; clear hb hb' hk))
    all_goals
      have x2 := S11.out.cell 2
      have x3 := S11.out.cell 3
      have x4 := S11.out.cell 4
      simp only [stCells, List.getElem?_cons_succ, List.getElem?_cons_zero] at x2 x3 x4
      go_wp2_with fail
      refine (text_any xa 0 b _ _ _ S11.out.wb S11.out.na (by decide) (by decide) (HT.out (([99, 104, 101, 99, 107, 32] ++ name ++ [32, 61, 32]) ++ (ruleW 5 ++ [40])) _ _ (by first | (rw [hL.out]; done) | (rw [hL.out]; simp <;> rfl)))).mono ?_
      rintro e v12 ⟨rfl, hb, hk⟩
      have hb' := hb; rw [List.append_assoc] at hb'
      have S12 : Hid (LS w v12 b (l ++ (([99, 104, 101, 99, 107, 32] ++ name ++ [32, 61, 32]) ++ (ruleW 5 ++ [40]) ++ textP xa 0)) ⟨3, name, xa, xb, 5, n, d, k, snap⟩ A B) := S11.out.next hb' hk
      clear hb hb' hk S11
      clear x2 x3 x4
      have x8 := S12.out.cell 8
      simp only [stCells, List.getElem?_cons_succ, List.getElem?_cons_zero] at x8
      go_wp2_with fail
      refine (ws_p b _ [44, 32] _ _ S12.out.wb (by rfl) (HT.out (([99, 104, 101, 99, 107, 32] ++ name ++ [32, 61, 32]) ++ (ruleW 5 ++ [40]) ++ textP xa 0) _ _ (by first | (rw [hL.out]; done) | (rw [hL.out]; simp <;> rfl)))).mono ?_
      rintro e v13 ⟨⟨v, rfl⟩, hb, hk⟩
      have hb' := hb; rw [List.append_assoc] at hb'
      have S13 : Hid (LS w v13 b (l ++ (([99, 104, 101, 99, 107, 32] ++ name ++ [32, 61, 32]) ++ (ruleW 5 ++ [40]) ++ textP xa 0 ++ [44, 32])) ⟨3, name, xa, xb, 5, n, d, k, snap⟩ A B) := S12.out.next hb' hk
      clear hb hb' hk S12
      clear x8
      have x5 := S13.out.cell 5
      have x6 := S13.out.cell 6
      have x7 := S13.out.cell 7
      simp only [stCells, List.getElem?_cons_succ, List.getElem?_cons_zero] at x5 x6 x7
      go_wp2_with fail
      refine (text_any xb 0 b _ _ _ S13.out.wb S13.out.nb (by decide) (by decide) (HT.out (([99, 104, 101, 99, 107, 32] ++ name ++ [32, 61, 32]) ++ (ruleW 5 ++ [40]) ++ textP xa 0 ++ [44, 32]) _ _ (by first | (rw [hL.out]; done) | (rw [hL.out]; simp <;> rfl)))).mono ?_
      rintro e v14 ⟨rfl, hb, hk⟩
      have hb' := hb; rw [List.append_assoc] at hb'
      have S14 : Hid (LS w v14 b (l ++ (([99, 104, 101, 99, 107, 32] ++ name ++ [32, 61, 32]) ++ (ruleW 5 ++ [40]) ++ textP xa 0 ++ [44, 32] ++ textP xb 0)) ⟨3, name, xa, xb, 5, n, d, k, snap⟩ A B) := S13.out.next hb' hk
      clear hb hb' hk S13
      clear x5 x6 x7
      have x0 := S14.out.cell 0
      simp only [stCells, List.getElem?_cons_zero] at x0
      go_wp2_with fail
      refine (ws_p b _ ([44, 32] ++ Lib.itoa n ++ [41]) _ _ S14.out.wb (by rw [Joins.data_append, Joins.data_append] <;> rfl) (HT.out (([99, 104, 101, 99, 107, 32] ++ name ++ [32, 61, 32]) ++ (ruleW 5 ++ [40]) ++ textP xa 0 ++ [44, 32] ++ textP xb 0) _ _ (by first | (rw [hL.out]; done) | (rw [hL.out]; simp <;> rfl)))).mono ?_
      rintro e v15 ⟨⟨v, rfl⟩, hb, hk⟩
      have hb' := hb; rw [List.append_assoc] at hb'
      have S15 : Hid (LS w v15 b (l ++ (([99, 104, 101, 99, 107, 32] ++ name ++ [32, 61, 32]) ++ (ruleW 5 ++ [40]) ++ textP xa 0 ++ [44, 32] ++ textP xb 0 ++ ([44, 32] ++ Lib.itoa n ++ [41]))) ⟨3, name, xa, xb, 5, n, d, k, snap⟩ A B) := S14.out.next hb' hk
      clear hb hb' hk S14
      clear x0
      go_wp2_with fail
      refine (ws_p b _ [59, 10] _ _ S15.out.wb (by rfl) (HT.out (([99, 104, 101, 99, 107, 32] ++ name ++ [32, 61, 32]) ++ (ruleW 5 ++ [40]) ++ textP xa 0 ++ [44, 32] ++ textP xb 0 ++ ([44, 32] ++ Lib.itoa n ++ [41])) _ _ (by first | (rw [hL.out]; done) | (rw [hL.out]; simp <;> rfl)))).mono ?_
      rintro e v16 ⟨⟨v, rfl⟩, hb, hk⟩
      have hb' := hb; rw [List.append_assoc] at hb'
      have S16 : Hid (LS w v16 b (l ++ (([99, 104, 101, 99, 107, 32] ++ name ++ [32, 61, 32]) ++ (ruleW 5 ++ [40]) ++ textP xa 0 ++ [44, 32] ++ textP xb 0 ++ ([44, 32] ++ Lib.itoa n ++ [41]) ++ [59, 10])) ⟨3, name, xa, xb, 5, n, d, k, snap⟩ A B) := S15.out.next hb' hk
      clear hb hb' hk S15
      go_wp2
      first | go_end0 | refine bodyPost_ret (results_none rfl _ _ _) rfl ?_
      refine ⟨rfl, ?_, S16.out.kp⟩
      have h := S16.out.wb
      rw [hL.out]
      simpa using h

set_option maxHeartbeats 4000000 in
set_option maxRecDepth 100000 in
theorem line_check6 (name : List UInt8) (xa xb : Nd) (n d k : Int) (snap : Bool) (A B : NV) (b : Nat) (l L : List UInt8) (w : World) (hw : WB w b l) (h6 : 6 ≤ b) (hg : Good w) (ha : NdIs (· < b) w xa A.val) (hb : NdIs (· < b) w xb B.val) (hrn : Hid (Rng n ∧ Rng d ∧ Rng k))
    (hL : Hid (L = ([99, 104, 101, 99, 107, 32] ++ name ++ [32, 61, 32]) ++ (ruleW 6 ++ [40]) ++ textP xa 0 ++ [44, 32] ++ textP xb 0 ++ ([44, 32] ++ Lib.itoa n ++ [41]) ++ [59, 10])) (hlen : l.length + L.length ≤ 140737488355328) :
    Calls Tryz.prog 64 #[.agg #[.int .i64 3, .string (bs name), .int .i64 A.k, .string A.s, .slice A.a A.n A.c, .int .i64 B.k, .string B.s, .slice B.a B.n B.c, .int .i64 6, .int .i64 n, .int .i64 d, .int .i64 k, .bool snap], .pointer (some ⟨b, 0, none⟩)] w
      fun e w' => e = .returned (.tuple #[]) ∧ WB w' b (l ++ L) ∧ Keeps b w w' := by
  have S0 := Lib.hid (LS.start (x := ⟨3, name, xa, xb, 6, n, d, k, snap⟩) hw h6 hg ha hb)
  have HT : Hid (∀ q p r, L = q ++ p ++ r → (l ++ q).length + p.length ≤ 140737488355328) := fit_of hlen
  have HNAME : Hid ((bs name).size = name.length) := bs_size _
  have hsz : (bs name).size ≤ 140737488355328 := by rw [HNAME.out]; have := HT.out ([99, 104, 101, 99, 107, 32]) name _ (by first | (rw [hL.out]; done) | (rw [hL.out]; simp <;> rfl)); rw [List.length_append] at this; omega
  have HI : Hid (∀ z : Int, Rng z → (bs (Lib.itoa z)).size ≤ 21) := fun z h => by rw [bs_size]; exact Lib.itoa_length_le z h.1 h.2
  clear hw h6 hg ha hb hlen
  have x0 := S0.out.cell 0
  simp only [stCells, List.getElem?_cons_zero] at x0
  have S1 := Lib.hid (fun o => S0.out.still (grown_alloc _ o none))
  have y0 := fun o => (S1.out o).cell 0
  simp only [stCells, List.getElem?_cons_zero] at y0
  go_enter Tryz.func64, Tryz.ntmps64
  go_wp2_with fail
  have S2 : Hid (LS w ((w.alloc (.cells #[.int .i64 3, .string (bs name), .int .i64 A.k, .string A.s, .slice A.a A.n A.c, .int .i64 B.k, .string B.s, .slice B.a B.n B.c, .int .i64 6, .int .i64 n, .int .i64 d, .int .i64 k, .bool snap] 39)).alloc (.cells #[.string ⟨#[]⟩, .string ⟨#[105, 110, 112, 117, 116, 32]⟩, .string ⟨#[108, 101, 116, 32]⟩, .string ⟨#[99, 104, 101, 99, 107, 32]⟩, .string ⟨#[115, 109, 97, 108, 108, 32]⟩, .string ⟨#[119, 114, 105, 116, 101, 32]⟩] 9)) b l ⟨3, name, xa, xb, 6, n, d, k, snap⟩ A B) := S1.out _
  have HW : Hid (World.cell? ((w.alloc (.cells #[.int .i64 3, .string (bs name), .int .i64 A.k, .string A.s, .slice A.a A.n A.c, .int .i64 B.k, .string B.s, .slice B.a B.n B.c, .int .i64 6, .int .i64 n, .int .i64 d, .int .i64 k, .bool snap] 39)).alloc (.cells #[.string ⟨#[]⟩, .string ⟨#[105, 110, 112, 117, 116, 32]⟩, .string ⟨#[108, 101, 116, 32]⟩, .string ⟨#[99, 104, 101, 99, 107, 32]⟩, .string ⟨#[115, 109, 97, 108, 108, 32]⟩, .string ⟨#[119, 114, 105, 116, 101, 32]⟩] 9)) ⟨w.heap.size + 1, 3, none⟩ = some (.string ⟨#[99, 104, 101, 99, 107, 32]⟩)) := cell_at (w.alloc (.cells #[.int .i64 3, .string (bs name), .int .i64 A.k, .string A.s, .slice A.a A.n A.c, .int .i64 B.k, .string B.s, .slice B.a B.n B.c, .int .i64 6, .int .i64 n, .int .i64 d, .int .i64 k, .bool snap] 39)) [.string ⟨#[]⟩, .string ⟨#[105, 110, 112, 117, 116, 32]⟩, .string ⟨#[108, 101, 116, 32]⟩, .string ⟨#[99, 104, 101, 99, 107, 32]⟩, .string ⟨#[115, 109, 97, 108, 108, 32]⟩, .string ⟨#[119, 114, 105, 116, 101, 32]⟩] 9 (w.heap.size + 1) (by simp) 3 _ rfl
  clear x0 y0 S0 S1
  generalize ((w.alloc (.cells #[.int .i64 3, .string (bs name), .int .i64 A.k, .string A.s, .slice A.a A.n A.c, .int .i64 B.k, .string B.s, .slice B.a B.n B.c, .int .i64 6, .int .i64 n, .int .i64 d, .int .i64 k, .bool snap] 39)).alloc (.cells #[.string ⟨#[]⟩, .string ⟨#[105, 110, 112, 117, 116, 32]⟩, .string ⟨#[108, 101, 116, 32]⟩, .string ⟨#[99, 104, 101, 99, 107, 32]⟩, .string ⟨#[115, 109, 97, 108, 108, 32]⟩, .string ⟨#[119, 114, 105, 116, 101, 32]⟩] 9)) = w2 at *
  have x0 := S2.out.cell 0
  have x1 := S2.out.cell 1
  simp only [stCells, List.getElem?_cons_succ, List.getElem?_cons_zero] at x0 x1
  have z2 := HW.out
  have hz1 : ¬ 9223372036854775807 < 6 + (bs name).size := by omega
  have hz2 : ¬ 9223372036854775807 < 6 + (bs name).size + 3 := by omega
  go_still_tail 10, (by kernel_rfl)
  change wpList _ _ _ _ _ w2.drew
  have S3 : Hid (LS w w2.drew b l ⟨3, name, xa, xb, 6, n, d, k, snap⟩ A B) := S2.out.still (grown_drew w2 1 none)
  clear x0 x1
  clear z2 hz1 hz2
  generalize w2.drew = w3 at *
  go_wp2_with fail
  refine (ws_p b l ([99, 104, 101, 99, 107, 32] ++ name ++ [32, 61, 32]) _ _ S3.out.wb (by rw [Joins.data_append, Joins.data_append]; rfl) (fit_first HT.out (by first | (rw [hL.out]; done) | (rw [hL.out]; simp <;> rfl)))).mono ?_
  rintro e w4 ⟨⟨v, rfl⟩, hb, hk⟩
  have S4 := Lib.hid (S3.out.next hb hk)
  clear hb hk S3 S2 HW
  have x9 := S4.out.cell 9
  have x11 := S4.out.cell 11
  simp only [stCells, List.getElem?_cons_succ, List.getElem?_cons_zero] at x9 x11
  have HD : Hid (w4.grownBy w4.drew none) := grown_drew w4 1 none
  go_wp2_with fail
  go_region_held3 (fun w' => w'.cell? ⟨w.heap.size, 9, none⟩ = some (.int .i64 n) ∧ w'.cell? ⟨w.heap.size, 11, none⟩ = some (.int .i64 k)) (first | exact ⟨x9, x11⟩ | exact ⟨y9, y11⟩ | exact ⟨z9, z11⟩)
    (first
      | (go_at_call 84; refine (itoa_w _ ?_ ?_ _ ?_).mono ?_; (first | exact hrn.out.1.1 | exact hrn.out.2.2.1); (first | exact hrn.out.1.2 | exact hrn.out.2.2.2); (first | exact SA.out.gd | exact S4.out.gd.still HD.out); rintro e wi ⟨rfl, hg⟩; (first | (have SF := Lib.hid (SA.out.still hg); have z9 := SF.out.cell 9; have z11 := SF.out.cell 11; simp only [stCells, List.getElem?_cons_succ, List.getElem?_cons_zero] at z9 z11) | (have SA := Lib.hid ((S4.out.still HD.out).still hg); have y9 := SA.out.cell 9; have y11 := SA.out.cell 11; simp only [stCells, List.getElem?_cons_succ, List.getElem?_cons_zero] at y9 y11)); clear hg))
  all_goals
    clear x9 x11 HD
    try clear y9 y11 SA
    try clear z9 z11
    have hsn := HI.out n hrn.out.1
    have hsk := HI.out k hrn.out.2.2
    have hz3 : ¬ 9223372036854775807 < (bs (ruleW 6)).size + 1 := by decide
    have x0 := SF.out.cell 0
    have x8 := SF.out.cell 8
    simp only [stCells, List.getElem?_cons_succ, List.getElem?_cons_zero] at x0 x8
    go_wp2_with fail
    have HDF : Hid (wi.grownBy wi.drew none) := grown_drew wi 1 none
    go_region_with
      (first
        | (go_at_call 61; refine (rules_w _).mono ?_; rintro e wr ⟨gr, rfl, hg, HTR⟩; have SR := Lib.hid ((SF.out.still HDF.out).still hg); have xr8 := SR.out.cell 8; simp only [stCells, List.getElem?_cons_succ, List.getElem?_cons_zero] at xr8; have hru3 : wr.cell? ⟨gr, 5, none⟩ = some (.string (bs (ruleW 6))) := txts_cell HTR.out.1 rfl; clear hg)
        | (go_at_call 83; refine (ws_p b _ (ruleW 6 ++ [40]) _ _ SR.out.wb (by rw [Joins.data_append] <;> rfl) (HT.out (([99, 104, 101, 99, 107, 32] ++ name ++ [32, 61, 32])) _ _ (by first | (rw [hL.out]; done) | (rw [hL.out]; simp <;> rfl)))).mono ?_; rintro e v11 ⟨⟨v, rfl⟩, hb, hk⟩; have hb' := hb; rw [List.append_assoc] at hb'; have S11 : Hid (LS w v11 b (l ++ (([99, 104, 101, 99, 107, 32] ++ name ++ [32, 61, 32]) ++ (ruleW 6 ++ [40]))) ⟨3, name, xa, xb, 6, n, d, k, snap⟩ A B) := SR.out.next hb' hk; clear hb hb' hk))
    all_goals
      have x2 := S11.out.cell 2
      have x3 := S11.out.cell 3
      have x4 := S11.out.cell 4
      simp only [stCells, List.getElem?_cons_succ, List.getElem?_cons_zero] at x2 x3 x4
      go_wp2_with fail
      refine (text_any xa 0 b _ _ _ S11.out.wb S11.out.na (by decide) (by decide) (HT.out (([99, 104, 101, 99, 107, 32] ++ name ++ [32, 61, 32]) ++ (ruleW 6 ++ [40])) _ _ (by first | (rw [hL.out]; done) | (rw [hL.out]; simp <;> rfl)))).mono ?_
      rintro e v12 ⟨rfl, hb, hk⟩
      have hb' := hb; rw [List.append_assoc] at hb'
      have S12 : Hid (LS w v12 b (l ++ (([99, 104, 101, 99, 107, 32] ++ name ++ [32, 61, 32]) ++ (ruleW 6 ++ [40]) ++ textP xa 0)) ⟨3, name, xa, xb, 6, n, d, k, snap⟩ A B) := S11.out.next hb' hk
      clear hb hb' hk S11
      clear x2 x3 x4
      have x8 := S12.out.cell 8
      simp only [stCells, List.getElem?_cons_succ, List.getElem?_cons_zero] at x8
      go_wp2_with fail
      refine (ws_p b _ [44, 32] _ _ S12.out.wb (by rfl) (HT.out (([99, 104, 101, 99, 107, 32] ++ name ++ [32, 61, 32]) ++ (ruleW 6 ++ [40]) ++ textP xa 0) _ _ (by first | (rw [hL.out]; done) | (rw [hL.out]; simp <;> rfl)))).mono ?_
      rintro e v13 ⟨⟨v, rfl⟩, hb, hk⟩
      have hb' := hb; rw [List.append_assoc] at hb'
      have S13 : Hid (LS w v13 b (l ++ (([99, 104, 101, 99, 107, 32] ++ name ++ [32, 61, 32]) ++ (ruleW 6 ++ [40]) ++ textP xa 0 ++ [44, 32])) ⟨3, name, xa, xb, 6, n, d, k, snap⟩ A B) := S12.out.next hb' hk
      clear hb hb' hk S12
      clear x8
      have x5 := S13.out.cell 5
      have x6 := S13.out.cell 6
      have x7 := S13.out.cell 7
      simp only [stCells, List.getElem?_cons_succ, List.getElem?_cons_zero] at x5 x6 x7
      go_wp2_with fail
      refine (text_any xb 0 b _ _ _ S13.out.wb S13.out.nb (by decide) (by decide) (HT.out (([99, 104, 101, 99, 107, 32] ++ name ++ [32, 61, 32]) ++ (ruleW 6 ++ [40]) ++ textP xa 0 ++ [44, 32]) _ _ (by first | (rw [hL.out]; done) | (rw [hL.out]; simp <;> rfl)))).mono ?_
      rintro e v14 ⟨rfl, hb, hk⟩
      have hb' := hb; rw [List.append_assoc] at hb'
      have S14 : Hid (LS w v14 b (l ++ (([99, 104, 101, 99, 107, 32] ++ name ++ [32, 61, 32]) ++ (ruleW 6 ++ [40]) ++ textP xa 0 ++ [44, 32] ++ textP xb 0)) ⟨3, name, xa, xb, 6, n, d, k, snap⟩ A B) := S13.out.next hb' hk
      clear hb hb' hk S13
      clear x5 x6 x7
      have x0 := S14.out.cell 0
      simp only [stCells, List.getElem?_cons_zero] at x0
      go_wp2_with fail
      refine (ws_p b _ ([44, 32] ++ Lib.itoa n ++ [41]) _ _ S14.out.wb (by rw [Joins.data_append, Joins.data_append] <;> rfl) (HT.out (([99, 104, 101, 99, 107, 32] ++ name ++ [32, 61, 32]) ++ (ruleW 6 ++ [40]) ++ textP xa 0 ++ [44, 32] ++ textP xb 0) _ _ (by first | (rw [hL.out]; done) | (rw [hL.out]; simp <;> rfl)))).mono ?_
      rintro e v15 ⟨⟨v, rfl⟩, hb, hk⟩
      have hb' := hb; rw [List.append_assoc] at hb'
      have S15 : Hid (LS w v15 b (l ++ (([99, 104, 101, 99, 107, 32] ++ name ++ [32, 61, 32]) ++ (ruleW 6 ++ [40]) ++ textP xa 0 ++ [44, 32] ++ textP xb 0 ++ ([44, 32] ++ Lib.itoa n ++ [41]))) ⟨3, name, xa, xb, 6, n, d, k, snap⟩ A B) := S14.out.next hb' hk
      clear hb hb' hk S14
      clear x0
      go_wp2_with fail
      refine (ws_p b _ [59, 10] _ _ S15.out.wb (by rfl) (HT.out (([99, 104, 101, 99, 107, 32] ++ name ++ [32, 61, 32]) ++ (ruleW 6 ++ [40]) ++ textP xa 0 ++ [44, 32] ++ textP xb 0 ++ ([44, 32] ++ Lib.itoa n ++ [41])) _ _ (by first | (rw [hL.out]; done) | (rw [hL.out]; simp <;> rfl)))).mono ?_
      rintro e v16 ⟨⟨v, rfl⟩, hb, hk⟩
      have hb' := hb; rw [List.append_assoc] at hb'
      have S16 : Hid (LS w v16 b (l ++ (([99, 104, 101, 99, 107, 32] ++ name ++ [32, 61, 32]) ++ (ruleW 6 ++ [40]) ++ textP xa 0 ++ [44, 32] ++ textP xb 0 ++ ([44, 32] ++ Lib.itoa n ++ [41]) ++ [59, 10])) ⟨3, name, xa, xb, 6, n, d, k, snap⟩ A B) := S15.out.next hb' hk
      clear hb hb' hk S15
      go_wp2
      first | go_end0 | refine bodyPost_ret (results_none rfl _ _ _) rfl ?_
      refine ⟨rfl, ?_, S16.out.kp⟩
      have h := S16.out.wb
      rw [hL.out]
      simpa using h
end Go.Proofs.YtdjklnlkocconaaGreatDoor
