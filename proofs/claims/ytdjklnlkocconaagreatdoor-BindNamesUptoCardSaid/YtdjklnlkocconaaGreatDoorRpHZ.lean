/-
  The reference's Print: the walk.
-/
import Derived.Test.YtdjklnlkocconaaGreatDoorRpFZ
import Derived.Test.YtdjklnlkocconaaGreatDoorRpDZ
import Derived.Test.YtdjklnlkocconaaGreatDoorRpGZ
import Derived.Test.YtdjklnlkocconaaGreatDoorGnBZ
namespace Go.Proofs.YtdjklnlkocconaaGreatDoor
open Go Go.RowKit

/-- What the reference's Print gives back. -/
def rprintE : Option (List UInt8) → Ending
  | some t => .returned (.tuple #[.string (bs t), .int .i64 0])
  | none => .returned (.tuple #[.string ⟨#[]⟩, .int .i64 3])

/-- Print at work. -/
def RPrAt (w : World) (l : List St) (R : Option (List UInt8)) (n : Nat) (k : Nat) (u z : Value) (wr : World) : Prop :=
  ∃ (i : Nat) (acc : List UInt8), u = .string (bs acc) ∧ z = .int .i64 i ∧ i ≤ n ∧ n < k + i ∧ acc.length ≤ 65536 ∧ refP (l.drop i) acc = R ∧ Below w.heap.size w wr

theorem fit_name {x : St} (h : fitB x = true) : nameB x.name = true := by
  unfold fitB at h
  rw [Bool.and_eq_true] at h
  exact h.1

/-- What a statement has, and how long its parts' texts are. -/
theorem fit_facts {kind : Int} {name : List UInt8} {xa xb : Nd} {rule n d k : Int} {snap : Bool} (h : fitB ⟨kind, name, xa, xb, rule, n, d, k, snap⟩ = true) :
    (1 ≤ kind ∧ kind ≤ 5) ∧ (kind ≠ 2 → 0 ≤ n ∧ n ≤ 2147483647) ∧ (kind = 1 ∨ kind = 5 → 0 ≤ k ∧ k ≤ 2147483647) ∧
    (kind ≠ 1 → (lineP ⟨kind, name, xa, xb, rule, n, d, k, snap⟩).length ≤ 100000000 → (∃ p q, rightB xa p q = true) ∧ (textP xa 0).length ≤ 100000000) ∧
    (kind = 3 → (1 ≤ rule ∧ rule ≤ 6) ∧ (3 < rule → (lineP ⟨kind, name, xa, xb, rule, n, d, k, snap⟩).length ≤ 100000000 → (∃ p q, rightB xb p q = true) ∧ (textP xb 0).length ≤ 100000000)) ∧
    (kind = 4 → 1 ≤ d ∧ d ≤ 2147483647) := by
  unfold fitB at h
  rw [Bool.and_eq_true] at h
  obtain ⟨_, h⟩ := h
  simp only at h
  split at h
  · rename_i h1
    obtain rfl : kind = 1 := h1
    simp only [Bool.and_eq_true, layersB, decide_eq_true_eq] at h
    exact ⟨by omega, fun _ => by omega, fun _ => by omega, fun e => absurd rfl e, fun e => by omega, fun e => by omega⟩
  · split at h
    · rename_i h1
      obtain rfl : kind = 2 := h1
      simp only [Bool.and_eq_true] at h
      refine ⟨by omega, fun e => absurd rfl e, fun e => by omega, fun _ hl => ⟨⟨_, _, h.1.1.1.1.1.1⟩, ?_⟩, fun e => by omega, fun e => by omega⟩
      simp [lineP] at hl
      omega
    · split at h
      · rename_i h1
        obtain rfl : kind = 3 := h1
        simp only [Bool.and_eq_true, decide_eq_true_eq, twoB, Bool.or_eq_true] at h
        obtain ⟨⟨⟨⟨⟨⟨hr, ht⟩, ha⟩, hn⟩, _⟩, _⟩, _⟩ := h
        have hno : ¬ (rule < 1 ∨ 6 < rule) := by omega
        refine ⟨by omega, fun _ => by omega, fun e => by omega, fun _ hl => ⟨⟨_, _, ha⟩, ?_⟩, fun _ => ⟨hr, fun h3 hl => ?_⟩, fun e => by omega⟩
        · simp [lineP, hno] at hl
          omega
        · rcases ht with ⟨_, hb⟩ | ⟨h4, _⟩
          · refine ⟨⟨_, _, hb⟩, ?_⟩
            simp [lineP, hno, h3] at hl
            omega
          · omega
      · split at h
        · rename_i h1
          obtain rfl : kind = 4 := h1
          simp only [Bool.and_eq_true, decide_eq_true_eq] at h
          obtain ⟨⟨⟨⟨⟨⟨ha, _⟩, _⟩, hn⟩, hd⟩, _⟩, _⟩ := h
          refine ⟨by omega, fun _ => by omega, fun e => by omega, fun _ hl => ⟨⟨_, _, ha⟩, ?_⟩, fun e => by omega, fun _ => hd⟩
          simp [lineP] at hl
          omega
        · split at h
          · rename_i h1
            obtain rfl : kind = 5 := h1
            simp only [Bool.and_eq_true, layersB, decide_eq_true_eq] at h
            obtain ⟨⟨⟨hL, ha⟩, _⟩, _⟩ := h
            refine ⟨by omega, fun _ => by omega, fun _ => by omega, fun _ hl => ⟨⟨_, _, ha⟩, ?_⟩, fun e => by omega, fun e => by omega⟩
            simp [lineP] at hl
            omega
          · cases h

theorem digits_int (z : Int) (w : World) (h : 0 ≤ z ∧ z ≤ 2147483647) : Calls Tryz.prog 40 #[.int .i64 z] w fun e w' => e = .returned (.string (bs (numT z))) ∧ w.grownBy w' none := by
  obtain ⟨m, rfl⟩ : ∃ m : Nat, z = m := ⟨z.toNat, by omega⟩
  rw [numT_nat]
  exact digits_any m w (by omega)
theorem text_int (n : Nd) (h : ∃ p q, rightB n p q = true) (hl : (textP n 0).length ≤ 100000000) (v : Value) (w : World) (hn : NdIs Any w n v) :
    Calls Tryz.prog 41 #[v, .int .i64 1] w fun e w' => e = .returned (.string (bs (textP n 0))) ∧ w.grownBy w' none :=
  rtext_any n 1 v w (by decide) (by decide) h hl hn

set_option maxHeartbeats 8000000 in
set_option maxRecDepth 100000 in
theorem rprint_any (l : List St) (v : Value) (w : World) (hnb : ∀ x ∈ l, x.name.length ≤ maxLen ∧ NdB x.a ∧ NdB x.b) (hsz : ∀ x ∈ l, (lineP x).length ≤ 100000000) (h : StsIs w v l) :
    Calls Tryz.prog 23 #[v] w fun e w' => e = rprintE (printS l) ∧ Below w.heap.size w w' := by
  have H := Lib.hid h
  obtain ⟨hn, a, c, rfl, _⟩ := h
  have HNB := Lib.hid hnb
  have HSZ := Lib.hid hsz
  rw [printS_refP]
  by_cases hbig : 1000 < l.length
  case pos =>
    rw [if_pos hbig]
    clear H hnb hsz HNB HSZ
    go_enter Tryz.func23, Tryz.ntmps23
    go_wp2
    go_ret2
    exact ⟨rfl, Below.refl _ _⟩
  rw [if_neg hbig]
  obtain ⟨n, hln⟩ : ∃ n, l.length = n := ⟨_, rfl⟩
  rw [hln] at hn H hbig ⊢
  have HLN := Lib.hid hln
  obtain ⟨R, hR⟩ : ∃ R, refP l [] = R := ⟨_, rfl⟩
  rw [hR]
  have HA0 : Hid (RPrAt w l R n (n + 1) (.string ⟨#[]⟩) (.int .i64 0) w) := ⟨0, [], rfl, rfl, Nat.zero_le _, by omega, by decide, hR, Below.refl _ _⟩
  clear hln hnb hsz hR
  go_enter Tryz.func23, Tryz.ntmps23
  go_wp2_with fail
  go_loopg [4, 5] (n + 1) (fun k u z wr => Hid (RPrAt w l R n k u z wr))
  case atStart => exact HA0
  case round =>
    obtain ⟨i, acc, rfl, rfl, hi, hk, hacc, hrp, hbw⟩ := hrel.out
    have HBW := Lib.hid hbw
    have HRP := Lib.hid hrp
    clear hrel hbw hrp
    by_cases hlt : i < n
    · obtain ⟨x, hx⟩ : ∃ x, l[i]? = some x := ⟨l[i]'(by rw [HLN.out]; exact hlt), List.getElem?_eq_getElem _⟩
      have hd1 : decide (i < n) = true := by simp; omega
      have hd2 : decide ((i : Int) < (n : Int)) = true := by simp; omega
      have hr2 := HRP.out
      rw [getElem_drop hx, refP] at hr2
      have HR2 := Lib.hid hr2
      obtain ⟨g1, o1, cap1, e1, hl1, A, B, q1, na, nb⟩ := (H.out.still (grown_of_below HBW.out none)).get hx
      injection e1 with e1a e1b e1c
      subst e1a e1c
      have HX1 := Lib.hid (HNB.out x (List.mem_of_getElem? hx))
      have HX2 := Lib.hid (HSZ.out x (List.mem_of_getElem? hx))
      obtain ⟨kind, name, xa, xb, rule, N, d, K, snap⟩ := x
      have x0 := q1 0 (by decide)
      have x1 := q1 1 (by decide)
      have x2 := q1 2 (by decide)
      have x3 := q1 3 (by decide)
      have x4 := q1 4 (by decide)
      have x5 := q1 5 (by decide)
      have x6 := q1 6 (by decide)
      have x7 := q1 7 (by decide)
      have x8 := q1 8 (by decide)
      have x9 := q1 9 (by decide)
      have x10 := q1 10 (by decide)
      have x11 := q1 11 (by decide)
      have x12 := q1 12 (by decide)
      simp only [stCells, List.getElem?_cons_succ, List.getElem?_cons_zero, Nat.add_zero] at x0 x1 x2 x3 x4 x5 x6 x7 x8 x9 x10 x11 x12
      have NA := Lib.hid na
      have NB := Lib.hid nb
      clear na nb q1 hx hr2 e1b HRP
      go_wp2_with fail
      have HG0 := Lib.hid (grown_alloc wr (.cells #[.int .i64 kind, .string (bs name), .int .i64 A.k, .string A.s, .slice A.a A.n A.c, .int .i64 B.k, .string B.s, .slice B.a B.n B.c, .int .i64 rule, .int .i64 N, .int .i64 d, .int .i64 K, .bool snap] 39) none)
      refine (fits_any ⟨kind, name, xa, xb, rule, N, d, K, snap⟩ A B _ HX1.out.1 (NA.out.still HG0.out) (NB.out.still HG0.out) HX1.out.2.1 HX1.out.2.2).mono ?_
      rintro e w3 ⟨he, hb3⟩
      have T0 : Hid (FS wr w3 ⟨kind, name, xa, xb, rule, N, d, K, snap⟩ A B) := FS.next ⟨(MapKept.heap_alloc wr _).1, NA.out.still HG0.out, NB.out.still HG0.out, below_still0 HG0.out⟩ hb3
      have HBW3 : Hid (Below w.heap.size w w3) := HBW.out.trans (T0.out.bw.mono HBW.out.size)
      clear hb3 HG0 NA NB HX1 x0 x1 x2 x3 x4 x5 x6 x7 x8 x9 x10 x11 x12
      obtain ⟨b, hb⟩ : ∃ b, fitB ⟨kind, name, xa, xb, rule, N, d, K, snap⟩ = b := ⟨_, rfl⟩
      rw [hb] at he
      subst he
      cases b with
      | false =>
        obtain rfl : R = none := by have h := HR2.out; rw [hb, if_neg (by decide)] at h; exact h.symm
        clear hb HR2 T0
        go_wp2
        go_ret2
        exact ⟨rfl, HBW3.out⟩
      | true =>
        have hr3 := HR2.out
        rw [if_pos hb] at hr3
        have HR3 := Lib.hid hr3
        have HFIT := Lib.hid hb
        have hns : (bs name).size ≤ 32 := by rw [bs_size]; exact (nameB_word (fit_name hb)).1
        clear hr3 HR2 hb
        obtain ⟨f1, f2, f3, f4, f5, f6⟩ := fit_facts HFIT.out
        have CD : Hid (∀ (z : Int) (w : World), 0 ≤ z ∧ z ≤ 2147483647 → Calls Tryz.prog 40 #[.int .i64 z] w fun e w' => e = .returned (.string (bs (numT z))) ∧ w.grownBy w' none) := digits_int
        have hsN : ∀ z : Int, 0 ≤ z ∧ z ≤ 2147483647 → (bs (numT z)).size ≤ 10 := fun z h => by rw [bs_size]; exact numT_len h
        have hsA : (bs acc).size ≤ 65536 := by rw [bs_size]; exact hacc
        by_cases hk1 : kind = 1
        case pos =>
          subst hk1
          have hNr : 0 ≤ N ∧ N ≤ 2147483647 := f2 (by decide)
          have hsDN := hsN N hNr
          have hKr : 0 ≤ K ∧ K ≤ 2147483647 := f3 (by decide)
          have hsDK := hsN K hKr
          clear f1 f2 f3 f4 f5 f6 hsN
          obtain ⟨PP, hPP⟩ : ∃ PP, [105, 110, 112, 117, 116, 32] ++ name ++ [32, 61, 32] = PP := ⟨_, rfl⟩
          have hP : ⟨#[105, 110, 112, 117, 116]⟩ ++ ⟨#[32]⟩ ++ bs name ++ ⟨#[32, 61, 32]⟩ = bs PP := by
            rw [← hPP]
            show bs [105, 110, 112, 117, 116] ++ bs [32] ++ bs name ++ bs [32, 61, 32] = _
            simp only [bs_app, List.cons_append, List.nil_append]
          have hsP : (bs PP).size ≤ 60 := by rw [← hPP, bs_size]; rw [bs_size] at hns; simp only [List.length_append, List.length_cons, List.length_nil]; omega
          have HLINE : Hid (lineP ⟨1, name, xa, xb, rule, N, d, K, snap⟩ = (PP ++ numT N ++ [47] ++ numT K) ++ [59, 10]) := by
            show _ = _
            rw [← hPP]; simp [lineP, stWord]
          clear hPP HFIT
          have x0 := T0.out.cell 0
          have x1 := T0.out.cell 1
          simp only [stCells, List.getElem?_cons_succ, List.getElem?_cons_zero] at x0 x1
          have hlt3 : wr.heap.size < w3.heap.size := T0.out.bx.lt
          have y0 := (grown_cell (j := 0) (grown_alloc w3 (.cells #[.string ⟨#[105, 110, 112, 117, 116]⟩, .string ⟨#[108, 101, 116]⟩, .string ⟨#[99, 104, 101, 99, 107]⟩, .string ⟨#[115, 109, 97, 108, 108]⟩, .string ⟨#[119, 114, 105, 116, 101]⟩] 9) none) hlt3).trans x0
          have y1 := (grown_cell (j := 1) (grown_alloc w3 (.cells #[.string ⟨#[105, 110, 112, 117, 116]⟩, .string ⟨#[108, 101, 116]⟩, .string ⟨#[99, 104, 101, 99, 107]⟩, .string ⟨#[115, 109, 97, 108, 108]⟩, .string ⟨#[119, 114, 105, 116, 101]⟩] 9) none) hlt3).trans x1
          have yw := cell_at w3 [.string ⟨#[105, 110, 112, 117, 116]⟩, .string ⟨#[108, 101, 116]⟩, .string ⟨#[99, 104, 101, 99, 107]⟩, .string ⟨#[115, 109, 97, 108, 108]⟩, .string ⟨#[119, 114, 105, 116, 101]⟩] 9 w3.heap.size rfl 0 _ rfl
          have T1 : Hid (FS wr (w3.alloc (.cells #[.string ⟨#[105, 110, 112, 117, 116]⟩, .string ⟨#[108, 101, 116]⟩, .string ⟨#[99, 104, 101, 99, 107]⟩, .string ⟨#[115, 109, 97, 108, 108]⟩, .string ⟨#[119, 114, 105, 116, 101]⟩] 9)).drew ⟨1, name, xa, xb, rule, N, d, K, snap⟩ A B) := T0.out.next (below_still0 (grown_trans (grown_alloc _ _ _) (grown_drew _ 1 none)))
          have z1 : ¬ 9223372036854775807 < 6 + (bs name).size := by omega
          have z2 : ¬ 9223372036854775807 < 6 + (bs name).size + 3 := by omega
          go_wp2_with fail
          go_region
          try rw [hP]
          clear y0 y1 yw x0 x1 z1 z2 hlt3 T0 hP
          generalize (w3.alloc (.cells #[.string ⟨#[105, 110, 112, 117, 116]⟩, .string ⟨#[108, 101, 116]⟩, .string ⟨#[99, 104, 101, 99, 107]⟩, .string ⟨#[115, 109, 97, 108, 108]⟩, .string ⟨#[119, 114, 105, 116, 101]⟩] 9)).drew = w4 at *
          change Exit.then _ _ _ _ w4
          have zz1 : ¬ 9223372036854775807 < (bs PP).size + (bs (numT N)).size := by omega
          have zz2 : ¬ 9223372036854775807 < (bs PP).size + (bs (numT N)).size + 1 := by omega
          have zz3 : ¬ 9223372036854775807 < (bs PP).size + (bs (numT N)).size + 1 + (bs (numT K)).size := by omega
          have x0 := T1.out.cell 0
          have x9 := T1.out.cell 9
          have x11 := T1.out.cell 11
          simp only [stCells, List.getElem?_cons_succ, List.getElem?_cons_zero] at x0 x9 x11
          have hltS : wr.heap.size < w4.heap.size := T1.out.bx.lt
          have HD : Hid (w4.grownBy w4.drew none) := grown_drew w4 1 none
          go_wp2_with fail
          go_region_held3 (fun w' => w'.cell? ⟨wr.heap.size, 0, none⟩ = some (.int .i64 1) ∧ w'.cell? ⟨wr.heap.size, 9, none⟩ = some (.int .i64 N) ∧ w'.cell? ⟨wr.heap.size, 11, none⟩ = some (.int .i64 K)) (first | exact ⟨x0, x9, x11⟩ | exact ⟨y0, y9, y11⟩ | exact ⟨z0, z9, z11⟩)
            (first
              | (go_at_call 40; have SA2 := SA; refine (CD.out _ _ (by omega)).mono ?_; rintro e wi ⟨rfl, hg⟩; have SF : Hid (w4.grownBy wi none) := grown_trans SA2.out hg; have z0 := (grown_cell SF.out hltS).trans x0; have z9 := (grown_cell SF.out hltS).trans x9; have z11 := (grown_cell SF.out hltS).trans x11; clear hg)
              | (go_at_call 40; refine (CD.out _ _ (by omega)).mono ?_; rintro e wi ⟨rfl, hg⟩; have SA : Hid (w4.grownBy wi none) := grown_trans HD.out hg; have y0 := (grown_cell SA.out hltS).trans x0; have y9 := (grown_cell SA.out hltS).trans x9; have y11 := (grown_cell SA.out hltS).trans x11; clear hg))
          all_goals
            have S9 : Hid (FS wr wi ⟨1, name, xa, xb, rule, N, d, K, snap⟩ A B) := T1.out.next (below_still0 SF.out)
            try clear x0 x9 x11
            try clear y0 y9 y11
            try clear z0 z9 z11
            try clear SA2
            try clear SB2
            try clear SB
            try clear SA
            clear SF HD hltS T1
            have hLine : lineP ⟨1, name, xa, xb, rule, N, d, K, snap⟩ = (PP ++ numT N ++ [47] ++ numT K) ++ [59, 10] := HLINE.out
            have t1 : ¬ 9223372036854775807 < (bs acc).size + ((bs PP).size + (bs (numT N)).size + 1 + (bs (numT K)).size) := by omega
            have t2 : ¬ 9223372036854775807 < (bs acc).size + ((bs PP).size + (bs (numT N)).size + 1 + (bs (numT K)).size) + 2 := by omega
            have hO : bs acc ++ (bs PP ++ bs (numT N) ++ ⟨#[47]⟩ ++ bs (numT K)) ++ ⟨#[59, 10]⟩ = bs (acc ++ lineP ⟨1, name, xa, xb, rule, N, d, K, snap⟩) := by
              rw [hLine]
              show bs acc ++ (bs PP ++ bs (numT N) ++ bs [47] ++ bs (numT K)) ++ bs [59, 10] = _
              simp only [bs_app, List.append_assoc]
            have hM : (acc ++ lineP ⟨1, name, xa, xb, rule, N, d, K, snap⟩).length = (bs acc).size + ((bs PP).size + (bs (numT N)).size + 1 + (bs (numT K)).size) + 2 := by
              rw [hLine]; simp only [bs_size, List.length_append, List.length_cons, List.length_nil]; omega
            have BW : Hid (Below w.heap.size w wi) := HBW.out.trans (S9.out.bw.mono HBW.out.size)
            clear hLine HLINE
            obtain ⟨M, hMs⟩ : ∃ M : Nat, (bs acc).size + ((bs PP).size + (bs (numT N)).size + 1 + (bs (numT K)).size) + 2 = M := ⟨_, rfl⟩
            have hMi : ((bs acc).size : Int) + (((bs PP).size : Int) + ((bs (numT N)).size : Int) + 1 + ((bs (numT K)).size : Int)) + 2 = (M : Int) := by omega
            have t3 : ¬ 9223372036854775807 < M := by omega
            rw [hMs] at hM
            have HO := Lib.hid hO
            have HMM := Lib.hid hM
            clear hO hM S9 hacc hsA hsP
            try clear hsa
            try clear hns
            try clear hsDN
            try clear hsDK
            by_cases hbg : 65536 < M
            · obtain rfl : R = none := (by have h := HR3.out; rw [HMM.out, if_pos hbg] at h; exact h.symm)
              go_wp2
              go_ret2
              exact ⟨rfl, BW.out⟩
            · have hrest : refP (l.drop (i + 1)) (acc ++ lineP ⟨1, name, xa, xb, rule, N, d, K, snap⟩) = R := (by have h := HR3.out; rw [HMM.out, if_neg hbg] at h; exact h)
              have HREST := Lib.hid hrest
              have hM2 : (acc ++ lineP ⟨1, name, xa, xb, rule, N, d, K, snap⟩).length ≤ 65536 := (by rw [HMM.out]; omega)
              have HM2 := Lib.hid hM2
              clear hrest hM2
              go_wp2
              go_roundg (gk - 1)
              case measure => omega
              case rel => exact ⟨i + 1, _, congrArg Value.string HO.out, by go_num, by omega, by omega, HM2.out, HREST.out, BW.out⟩
        by_cases hk2 : kind = 2
        case pos =>
          subst hk2
          obtain ⟨hTA, hsTA⟩ := f4 (by decide) HX2.out
          have CTA : Hid (∀ (v : Value) (w : World), NdIs Any w xa v → Calls Tryz.prog 41 #[v, .int .i64 1] w fun e w' => e = .returned (.string (bs (textP xa 0))) ∧ w.grownBy w' none) := text_int xa hTA hsTA
          have hsa : (bs (textP xa 0)).size ≤ 100000000 := by rw [bs_size]; exact hsTA
          clear hTA hsTA
          clear f1 f2 f3 f4 f5 f6 hsN
          obtain ⟨PP, hPP⟩ : ∃ PP, [108, 101, 116, 32] ++ name ++ [32, 61, 32] = PP := ⟨_, rfl⟩
          have hP : ⟨#[108, 101, 116]⟩ ++ ⟨#[32]⟩ ++ bs name ++ ⟨#[32, 61, 32]⟩ = bs PP := by
            rw [← hPP]
            show bs [108, 101, 116] ++ bs [32] ++ bs name ++ bs [32, 61, 32] = _
            simp only [bs_app, List.cons_append, List.nil_append]
          have hsP : (bs PP).size ≤ 60 := by rw [← hPP, bs_size]; rw [bs_size] at hns; simp only [List.length_append, List.length_cons, List.length_nil]; omega
          have HLINE : Hid (lineP ⟨2, name, xa, xb, rule, N, d, K, snap⟩ = (PP ++ textP xa 0) ++ [59, 10]) := by
            show _ = _
            rw [← hPP]; simp [lineP, stWord]
          clear hPP HFIT
          have x0 := T0.out.cell 0
          have x1 := T0.out.cell 1
          simp only [stCells, List.getElem?_cons_succ, List.getElem?_cons_zero] at x0 x1
          have hlt3 : wr.heap.size < w3.heap.size := T0.out.bx.lt
          have y0 := (grown_cell (j := 0) (grown_alloc w3 (.cells #[.string ⟨#[105, 110, 112, 117, 116]⟩, .string ⟨#[108, 101, 116]⟩, .string ⟨#[99, 104, 101, 99, 107]⟩, .string ⟨#[115, 109, 97, 108, 108]⟩, .string ⟨#[119, 114, 105, 116, 101]⟩] 9) none) hlt3).trans x0
          have y1 := (grown_cell (j := 1) (grown_alloc w3 (.cells #[.string ⟨#[105, 110, 112, 117, 116]⟩, .string ⟨#[108, 101, 116]⟩, .string ⟨#[99, 104, 101, 99, 107]⟩, .string ⟨#[115, 109, 97, 108, 108]⟩, .string ⟨#[119, 114, 105, 116, 101]⟩] 9) none) hlt3).trans x1
          have yw := cell_at w3 [.string ⟨#[105, 110, 112, 117, 116]⟩, .string ⟨#[108, 101, 116]⟩, .string ⟨#[99, 104, 101, 99, 107]⟩, .string ⟨#[115, 109, 97, 108, 108]⟩, .string ⟨#[119, 114, 105, 116, 101]⟩] 9 w3.heap.size rfl 1 _ rfl
          have T1 : Hid (FS wr (w3.alloc (.cells #[.string ⟨#[105, 110, 112, 117, 116]⟩, .string ⟨#[108, 101, 116]⟩, .string ⟨#[99, 104, 101, 99, 107]⟩, .string ⟨#[115, 109, 97, 108, 108]⟩, .string ⟨#[119, 114, 105, 116, 101]⟩] 9)).drew ⟨2, name, xa, xb, rule, N, d, K, snap⟩ A B) := T0.out.next (below_still0 (grown_trans (grown_alloc _ _ _) (grown_drew _ 1 none)))
          have z1 : ¬ 9223372036854775807 < 4 + (bs name).size := by omega
          have z2 : ¬ 9223372036854775807 < 4 + (bs name).size + 3 := by omega
          go_wp2_with fail
          go_region
          try rw [hP]
          clear y0 y1 yw x0 x1 z1 z2 hlt3 T0 hP
          generalize (w3.alloc (.cells #[.string ⟨#[105, 110, 112, 117, 116]⟩, .string ⟨#[108, 101, 116]⟩, .string ⟨#[99, 104, 101, 99, 107]⟩, .string ⟨#[115, 109, 97, 108, 108]⟩, .string ⟨#[119, 114, 105, 116, 101]⟩] 9)).drew = w4 at *
          change Exit.then _ _ _ _ w4
          have zz4 : ¬ 9223372036854775807 < (bs PP).size + (bs (textP xa 0)).size := by omega
          have x0 := T1.out.cell 0
          have x2 := T1.out.cell 2
          have x3 := T1.out.cell 3
          have x4 := T1.out.cell 4
          simp only [stCells, List.getElem?_cons_succ, List.getElem?_cons_zero] at x0 x2 x3 x4
          go_wp2_with fail
          refine (CTA.out _ _ T1.out.na).mono ?_
          rintro e w5 ⟨rfl, hg⟩
          have T2 : Hid (FS wr w5 ⟨2, name, xa, xb, rule, N, d, K, snap⟩ A B) := T1.out.next (below_still0 hg)
          clear hg T1
          clear x0 x2 x3 x4
          have hLine : lineP ⟨2, name, xa, xb, rule, N, d, K, snap⟩ = (PP ++ textP xa 0) ++ [59, 10] := HLINE.out
          have t1 : ¬ 9223372036854775807 < (bs acc).size + ((bs PP).size + (bs (textP xa 0)).size) := by omega
          have t2 : ¬ 9223372036854775807 < (bs acc).size + ((bs PP).size + (bs (textP xa 0)).size) + 2 := by omega
          have hO : bs acc ++ (bs PP ++ bs (textP xa 0)) ++ ⟨#[59, 10]⟩ = bs (acc ++ lineP ⟨2, name, xa, xb, rule, N, d, K, snap⟩) := by
            rw [hLine]
            show bs acc ++ (bs PP ++ bs (textP xa 0)) ++ bs [59, 10] = _
            simp only [bs_app, List.append_assoc]
          have hM : (acc ++ lineP ⟨2, name, xa, xb, rule, N, d, K, snap⟩).length = (bs acc).size + ((bs PP).size + (bs (textP xa 0)).size) + 2 := by
            rw [hLine]; simp only [bs_size, List.length_append, List.length_cons, List.length_nil]; omega
          have BW : Hid (Below w.heap.size w w5) := HBW.out.trans (T2.out.bw.mono HBW.out.size)
          clear hLine HLINE
          obtain ⟨M, hMs⟩ : ∃ M : Nat, (bs acc).size + ((bs PP).size + (bs (textP xa 0)).size) + 2 = M := ⟨_, rfl⟩
          have hMi : ((bs acc).size : Int) + (((bs PP).size : Int) + ((bs (textP xa 0)).size : Int)) + 2 = (M : Int) := by omega
          have t3 : ¬ 9223372036854775807 < M := by omega
          rw [hMs] at hM
          have HO := Lib.hid hO
          have HMM := Lib.hid hM
          clear hO hM T2 hacc hsA hsP
          try clear hsa
          try clear hns
          try clear hsDN
          try clear hsDK
          by_cases hbg : 65536 < M
          · obtain rfl : R = none := (by have h := HR3.out; rw [HMM.out, if_pos hbg] at h; exact h.symm)
            go_wp2
            go_ret2
            exact ⟨rfl, BW.out⟩
          · have hrest : refP (l.drop (i + 1)) (acc ++ lineP ⟨2, name, xa, xb, rule, N, d, K, snap⟩) = R := (by have h := HR3.out; rw [HMM.out, if_neg hbg] at h; exact h)
            have HREST := Lib.hid hrest
            have hM2 : (acc ++ lineP ⟨2, name, xa, xb, rule, N, d, K, snap⟩).length ≤ 65536 := (by rw [HMM.out]; omega)
            have HM2 := Lib.hid hM2
            clear hrest hM2
            go_wp2
            go_roundg (gk - 1)
            case measure => omega
            case rel => exact ⟨i + 1, _, congrArg Value.string HO.out, by go_num, by omega, by omega, HM2.out, HREST.out, BW.out⟩
        by_cases hk3 : kind = 3
        case pos =>
          subst hk3
          have hNr : 0 ≤ N ∧ N ≤ 2147483647 := f2 (by decide)
          have hsDN := hsN N hNr
          obtain ⟨hTA, hsTA⟩ := f4 (by decide) HX2.out
          have CTA : Hid (∀ (v : Value) (w : World), NdIs Any w xa v → Calls Tryz.prog 41 #[v, .int .i64 1] w fun e w' => e = .returned (.string (bs (textP xa 0))) ∧ w.grownBy w' none) := text_int xa hTA hsTA
          have hsa : (bs (textP xa 0)).size ≤ 100000000 := by rw [bs_size]; exact hsTA
          clear hTA hsTA
          obtain ⟨hrr, hTB⟩ := f5 rfl
          have hrno : ¬ (rule < 1 ∨ 6 < rule) := by omega
          have CR : Hid (∀ w : World, Calls Tryz.prog 42 #[.int .i64 rule] w fun e w' => e = .returned (.string (bs (ruleW rule))) ∧ w.grownBy w' none) := fun w => ruleWord_any rule w hrr
          have hsr : (bs (ruleW rule)).size ≤ 6 := by rw [bs_size]; exact ruleW_len rule
          clear f1 f2 f3 f4 f5 f6 hsN
          by_cases hr3 : 3 < rule
          case pos =>
            obtain ⟨hTB1, hsTB⟩ := hTB hr3 HX2.out
            have CTB : Hid (∀ (v : Value) (w : World), NdIs Any w xb v → Calls Tryz.prog 41 #[v, .int .i64 1] w fun e w' => e = .returned (.string (bs (textP xb 0))) ∧ w.grownBy w' none) := text_int xb hTB1 hsTB
            have hsb : (bs (textP xb 0)).size ≤ 100000000 := by rw [bs_size]; exact hsTB
            clear hTB hTB1 hsTB
            obtain ⟨PP, hPP⟩ : ∃ PP, [99, 104, 101, 99, 107, 32] ++ name ++ [32, 61, 32] = PP := ⟨_, rfl⟩
            have hP : ⟨#[99, 104, 101, 99, 107]⟩ ++ ⟨#[32]⟩ ++ bs name ++ ⟨#[32, 61, 32]⟩ = bs PP := by
              rw [← hPP]
              show bs [99, 104, 101, 99, 107] ++ bs [32] ++ bs name ++ bs [32, 61, 32] = _
              simp only [bs_app, List.cons_append, List.nil_append]
            have hsP : (bs PP).size ≤ 60 := by rw [← hPP, bs_size]; rw [bs_size] at hns; simp only [List.length_append, List.length_cons, List.length_nil]; omega
            have HLINE : Hid (lineP ⟨3, name, xa, xb, rule, N, d, K, snap⟩ = (PP ++ ruleW rule ++ [40] ++ textP xa 0 ++ [44, 32] ++ textP xb 0 ++ [44, 32] ++ numT N ++ [41]) ++ [59, 10]) := by
              show _ = _
              rw [← hPP]; simp [lineP, stWord, hr3, hrno]
            clear hPP HFIT
            have x0 := T0.out.cell 0
            have x1 := T0.out.cell 1
            simp only [stCells, List.getElem?_cons_succ, List.getElem?_cons_zero] at x0 x1
            have hlt3 : wr.heap.size < w3.heap.size := T0.out.bx.lt
            have y0 := (grown_cell (j := 0) (grown_alloc w3 (.cells #[.string ⟨#[105, 110, 112, 117, 116]⟩, .string ⟨#[108, 101, 116]⟩, .string ⟨#[99, 104, 101, 99, 107]⟩, .string ⟨#[115, 109, 97, 108, 108]⟩, .string ⟨#[119, 114, 105, 116, 101]⟩] 9) none) hlt3).trans x0
            have y1 := (grown_cell (j := 1) (grown_alloc w3 (.cells #[.string ⟨#[105, 110, 112, 117, 116]⟩, .string ⟨#[108, 101, 116]⟩, .string ⟨#[99, 104, 101, 99, 107]⟩, .string ⟨#[115, 109, 97, 108, 108]⟩, .string ⟨#[119, 114, 105, 116, 101]⟩] 9) none) hlt3).trans x1
            have yw := cell_at w3 [.string ⟨#[105, 110, 112, 117, 116]⟩, .string ⟨#[108, 101, 116]⟩, .string ⟨#[99, 104, 101, 99, 107]⟩, .string ⟨#[115, 109, 97, 108, 108]⟩, .string ⟨#[119, 114, 105, 116, 101]⟩] 9 w3.heap.size rfl 2 _ rfl
            have T1 : Hid (FS wr (w3.alloc (.cells #[.string ⟨#[105, 110, 112, 117, 116]⟩, .string ⟨#[108, 101, 116]⟩, .string ⟨#[99, 104, 101, 99, 107]⟩, .string ⟨#[115, 109, 97, 108, 108]⟩, .string ⟨#[119, 114, 105, 116, 101]⟩] 9)).drew ⟨3, name, xa, xb, rule, N, d, K, snap⟩ A B) := T0.out.next (below_still0 (grown_trans (grown_alloc _ _ _) (grown_drew _ 1 none)))
            have z1 : ¬ 9223372036854775807 < 6 + (bs name).size := by omega
            have z2 : ¬ 9223372036854775807 < 6 + (bs name).size + 3 := by omega
            go_wp2_with fail
            go_region
            try rw [hP]
            clear y0 y1 yw x0 x1 z1 z2 hlt3 T0 hP
            generalize (w3.alloc (.cells #[.string ⟨#[105, 110, 112, 117, 116]⟩, .string ⟨#[108, 101, 116]⟩, .string ⟨#[99, 104, 101, 99, 107]⟩, .string ⟨#[115, 109, 97, 108, 108]⟩, .string ⟨#[119, 114, 105, 116, 101]⟩] 9)).drew = w4 at *
            change Exit.then _ _ _ _ w4
            have zz5 : ¬ 9223372036854775807 < (bs PP).size + (bs (ruleW rule)).size := by omega
            have zz6 : ¬ 9223372036854775807 < (bs PP).size + (bs (ruleW rule)).size + 1 := by omega
            have zz7 : ¬ 9223372036854775807 < (bs PP).size + (bs (ruleW rule)).size + 1 + (bs (textP xa 0)).size := by omega
            have zz8 : ¬ 9223372036854775807 < (bs PP).size + (bs (ruleW rule)).size + 1 + (bs (textP xa 0)).size + 2 := by omega
            have zz9 : ¬ 9223372036854775807 < (bs PP).size + (bs (ruleW rule)).size + 1 + (bs (textP xa 0)).size + 2 + (bs (textP xb 0)).size := by omega
            have zz10 : ¬ 9223372036854775807 < (bs PP).size + (bs (ruleW rule)).size + 1 + (bs (textP xa 0)).size + 2 + (bs (textP xb 0)).size + 2 := by omega
            have zz11 : ¬ 9223372036854775807 < (bs PP).size + (bs (ruleW rule)).size + 1 + (bs (textP xa 0)).size + 2 + (bs (textP xb 0)).size + 2 + (bs (numT N)).size := by omega
            have zz12 : ¬ 9223372036854775807 < (bs PP).size + (bs (ruleW rule)).size + 1 + (bs (textP xa 0)).size + 2 + (bs (textP xb 0)).size + 2 + (bs (numT N)).size + 1 := by omega
            have x0 := T1.out.cell 0
            have x2 := T1.out.cell 2
            have x3 := T1.out.cell 3
            have x4 := T1.out.cell 4
            have x8 := T1.out.cell 8
            simp only [stCells, List.getElem?_cons_succ, List.getElem?_cons_zero] at x0 x2 x3 x4 x8
            have hltS : wr.heap.size < w4.heap.size := T1.out.bx.lt
            have HD : Hid (w4.grownBy w4.drew none) := grown_drew w4 1 none
            go_wp2_with fail
            go_region_held3 (fun w' => w'.cell? ⟨wr.heap.size, 0, none⟩ = some (.int .i64 3) ∧ w'.cell? ⟨wr.heap.size, 2, none⟩ = some (.int .i64 A.k) ∧ w'.cell? ⟨wr.heap.size, 3, none⟩ = some (.string A.s) ∧ w'.cell? ⟨wr.heap.size, 4, none⟩ = some (.slice A.a A.n A.c) ∧ w'.cell? ⟨wr.heap.size, 8, none⟩ = some (.int .i64 rule)) (first | exact ⟨x0, x2, x3, x4, x8⟩ | exact ⟨y0, y2, y3, y4, y8⟩ | exact ⟨z0, z2, z3, z4, z8⟩)
              (first
                | (go_at_call 42; have SA2 := SA; refine (CR.out _).mono ?_; rintro e wi ⟨rfl, hg⟩; have SF : Hid (w4.grownBy wi none) := grown_trans SA2.out hg; have z0 := (grown_cell SF.out hltS).trans x0; have z2 := (grown_cell SF.out hltS).trans x2; have z3 := (grown_cell SF.out hltS).trans x3; have z4 := (grown_cell SF.out hltS).trans x4; have z8 := (grown_cell SF.out hltS).trans x8; clear hg)
                | (go_at_call 41; have SA2 := SA; refine (CTA.out _ _ (by exact T1.out.na.still SA2.out)).mono ?_; rintro e wi ⟨rfl, hg⟩; have SF : Hid (w4.grownBy wi none) := grown_trans SA2.out hg; have z0 := (grown_cell SF.out hltS).trans x0; have z2 := (grown_cell SF.out hltS).trans x2; have z3 := (grown_cell SF.out hltS).trans x3; have z4 := (grown_cell SF.out hltS).trans x4; have z8 := (grown_cell SF.out hltS).trans x8; clear hg)
                | (go_at_call 42; refine (CR.out _).mono ?_; rintro e wi ⟨rfl, hg⟩; have SA : Hid (w4.grownBy wi none) := grown_trans HD.out hg; have y0 := (grown_cell SA.out hltS).trans x0; have y2 := (grown_cell SA.out hltS).trans x2; have y3 := (grown_cell SA.out hltS).trans x3; have y4 := (grown_cell SA.out hltS).trans x4; have y8 := (grown_cell SA.out hltS).trans x8; clear hg)
                | (go_at_call 41; refine (CTA.out _ _ (by exact T1.out.na.still HD.out)).mono ?_; rintro e wi ⟨rfl, hg⟩; have SA : Hid (w4.grownBy wi none) := grown_trans HD.out hg; have y0 := (grown_cell SA.out hltS).trans x0; have y2 := (grown_cell SA.out hltS).trans x2; have y3 := (grown_cell SA.out hltS).trans x3; have y4 := (grown_cell SA.out hltS).trans x4; have y8 := (grown_cell SA.out hltS).trans x8; clear hg))
            all_goals
              have S9 : Hid (FS wr wi ⟨3, name, xa, xb, rule, N, d, K, snap⟩ A B) := T1.out.next (below_still0 SF.out)
              try clear x0 x2 x3 x4 x8
              try clear y0 y2 y3 y4 y8
              try clear z0 z2 z3 z4 z8
              try clear SA2
              try clear SB2
              try clear SB
              try clear SA
              clear SF HD hltS T1
              have x5 := S9.out.cell 5
              have x6 := S9.out.cell 6
              have x7 := S9.out.cell 7
              have x8 := S9.out.cell 8
              have x9 := S9.out.cell 9
              simp only [stCells, List.getElem?_cons_succ, List.getElem?_cons_zero] at x5 x6 x7 x8 x9
              go_wp2_with fail
              refine (CTB.out _ _ S9.out.nb).mono ?_
              rintro e w6 ⟨rfl, hg⟩
              have T5 : Hid (FS wr w6 ⟨3, name, xa, xb, rule, N, d, K, snap⟩ A B) := S9.out.next (below_still0 hg)
              clear hg S9
              clear x5 x6 x7 x8 x9
              have x9 := T5.out.cell 9
              simp only [stCells, List.getElem?_cons_succ, List.getElem?_cons_zero] at x9
              go_wp2_with fail
              refine (CD.out _ _ (by omega)).mono ?_
              rintro e w7 ⟨rfl, hg⟩
              have T6 : Hid (FS wr w7 ⟨3, name, xa, xb, rule, N, d, K, snap⟩ A B) := T5.out.next (below_still0 hg)
              clear hg T5
              clear x9
              have hLine : lineP ⟨3, name, xa, xb, rule, N, d, K, snap⟩ = (PP ++ ruleW rule ++ [40] ++ textP xa 0 ++ [44, 32] ++ textP xb 0 ++ [44, 32] ++ numT N ++ [41]) ++ [59, 10] := HLINE.out
              have t1 : ¬ 9223372036854775807 < (bs acc).size + ((bs PP).size + (bs (ruleW rule)).size + 1 + (bs (textP xa 0)).size + 2 + (bs (textP xb 0)).size + 2 + (bs (numT N)).size + 1) := by omega
              have t2 : ¬ 9223372036854775807 < (bs acc).size + ((bs PP).size + (bs (ruleW rule)).size + 1 + (bs (textP xa 0)).size + 2 + (bs (textP xb 0)).size + 2 + (bs (numT N)).size + 1) + 2 := by omega
              have hO : bs acc ++ (bs PP ++ bs (ruleW rule) ++ ⟨#[40]⟩ ++ bs (textP xa 0) ++ ⟨#[44, 32]⟩ ++ bs (textP xb 0) ++ ⟨#[44, 32]⟩ ++ bs (numT N) ++ ⟨#[41]⟩) ++ ⟨#[59, 10]⟩ = bs (acc ++ lineP ⟨3, name, xa, xb, rule, N, d, K, snap⟩) := by
                rw [hLine]
                show bs acc ++ (bs PP ++ bs (ruleW rule) ++ bs [40] ++ bs (textP xa 0) ++ bs [44, 32] ++ bs (textP xb 0) ++ bs [44, 32] ++ bs (numT N) ++ bs [41]) ++ bs [59, 10] = _
                simp only [bs_app, List.append_assoc]
              have hM : (acc ++ lineP ⟨3, name, xa, xb, rule, N, d, K, snap⟩).length = (bs acc).size + ((bs PP).size + (bs (ruleW rule)).size + 1 + (bs (textP xa 0)).size + 2 + (bs (textP xb 0)).size + 2 + (bs (numT N)).size + 1) + 2 := by
                rw [hLine]; simp only [bs_size, List.length_append, List.length_cons, List.length_nil]; omega
              have BW : Hid (Below w.heap.size w w7) := HBW.out.trans (T6.out.bw.mono HBW.out.size)
              clear hLine HLINE
              obtain ⟨M, hMs⟩ : ∃ M : Nat, (bs acc).size + ((bs PP).size + (bs (ruleW rule)).size + 1 + (bs (textP xa 0)).size + 2 + (bs (textP xb 0)).size + 2 + (bs (numT N)).size + 1) + 2 = M := ⟨_, rfl⟩
              have hMi : ((bs acc).size : Int) + (((bs PP).size : Int) + ((bs (ruleW rule)).size : Int) + 1 + ((bs (textP xa 0)).size : Int) + 2 + ((bs (textP xb 0)).size : Int) + 2 + ((bs (numT N)).size : Int) + 1) + 2 = (M : Int) := by omega
              have t3 : ¬ 9223372036854775807 < M := by omega
              rw [hMs] at hM
              have HO := Lib.hid hO
              have HMM := Lib.hid hM
              clear hO hM T6 hacc hsA hsP
              try clear hsa
              try clear hns
              try clear hsDN
              try clear hsDK
              by_cases hbg : 65536 < M
              · obtain rfl : R = none := (by have h := HR3.out; rw [HMM.out, if_pos hbg] at h; exact h.symm)
                go_wp2
                go_ret2
                exact ⟨rfl, BW.out⟩
              · have hrest : refP (l.drop (i + 1)) (acc ++ lineP ⟨3, name, xa, xb, rule, N, d, K, snap⟩) = R := (by have h := HR3.out; rw [HMM.out, if_neg hbg] at h; exact h)
                have HREST := Lib.hid hrest
                have hM2 : (acc ++ lineP ⟨3, name, xa, xb, rule, N, d, K, snap⟩).length ≤ 65536 := (by rw [HMM.out]; omega)
                have HM2 := Lib.hid hM2
                clear hrest hM2
                go_wp2
                go_roundg (gk - 1)
                case measure => omega
                case rel => exact ⟨i + 1, _, congrArg Value.string HO.out, by go_num, by omega, by omega, HM2.out, HREST.out, BW.out⟩
          clear hTB
          obtain ⟨PP, hPP⟩ : ∃ PP, [99, 104, 101, 99, 107, 32] ++ name ++ [32, 61, 32] = PP := ⟨_, rfl⟩
          have hP : ⟨#[99, 104, 101, 99, 107]⟩ ++ ⟨#[32]⟩ ++ bs name ++ ⟨#[32, 61, 32]⟩ = bs PP := by
            rw [← hPP]
            show bs [99, 104, 101, 99, 107] ++ bs [32] ++ bs name ++ bs [32, 61, 32] = _
            simp only [bs_app, List.cons_append, List.nil_append]
          have hsP : (bs PP).size ≤ 60 := by rw [← hPP, bs_size]; rw [bs_size] at hns; simp only [List.length_append, List.length_cons, List.length_nil]; omega
          have HLINE : Hid (lineP ⟨3, name, xa, xb, rule, N, d, K, snap⟩ = (PP ++ ruleW rule ++ [40] ++ textP xa 0 ++ [44, 32] ++ numT N ++ [41]) ++ [59, 10]) := by
            show _ = _
            rw [← hPP]; simp [lineP, stWord, hr3, hrno]
          clear hPP HFIT
          have x0 := T0.out.cell 0
          have x1 := T0.out.cell 1
          simp only [stCells, List.getElem?_cons_succ, List.getElem?_cons_zero] at x0 x1
          have hlt3 : wr.heap.size < w3.heap.size := T0.out.bx.lt
          have y0 := (grown_cell (j := 0) (grown_alloc w3 (.cells #[.string ⟨#[105, 110, 112, 117, 116]⟩, .string ⟨#[108, 101, 116]⟩, .string ⟨#[99, 104, 101, 99, 107]⟩, .string ⟨#[115, 109, 97, 108, 108]⟩, .string ⟨#[119, 114, 105, 116, 101]⟩] 9) none) hlt3).trans x0
          have y1 := (grown_cell (j := 1) (grown_alloc w3 (.cells #[.string ⟨#[105, 110, 112, 117, 116]⟩, .string ⟨#[108, 101, 116]⟩, .string ⟨#[99, 104, 101, 99, 107]⟩, .string ⟨#[115, 109, 97, 108, 108]⟩, .string ⟨#[119, 114, 105, 116, 101]⟩] 9) none) hlt3).trans x1
          have yw := cell_at w3 [.string ⟨#[105, 110, 112, 117, 116]⟩, .string ⟨#[108, 101, 116]⟩, .string ⟨#[99, 104, 101, 99, 107]⟩, .string ⟨#[115, 109, 97, 108, 108]⟩, .string ⟨#[119, 114, 105, 116, 101]⟩] 9 w3.heap.size rfl 2 _ rfl
          have T1 : Hid (FS wr (w3.alloc (.cells #[.string ⟨#[105, 110, 112, 117, 116]⟩, .string ⟨#[108, 101, 116]⟩, .string ⟨#[99, 104, 101, 99, 107]⟩, .string ⟨#[115, 109, 97, 108, 108]⟩, .string ⟨#[119, 114, 105, 116, 101]⟩] 9)).drew ⟨3, name, xa, xb, rule, N, d, K, snap⟩ A B) := T0.out.next (below_still0 (grown_trans (grown_alloc _ _ _) (grown_drew _ 1 none)))
          have z1 : ¬ 9223372036854775807 < 6 + (bs name).size := by omega
          have z2 : ¬ 9223372036854775807 < 6 + (bs name).size + 3 := by omega
          go_wp2_with fail
          go_region
          try rw [hP]
          clear y0 y1 yw x0 x1 z1 z2 hlt3 T0 hP
          generalize (w3.alloc (.cells #[.string ⟨#[105, 110, 112, 117, 116]⟩, .string ⟨#[108, 101, 116]⟩, .string ⟨#[99, 104, 101, 99, 107]⟩, .string ⟨#[115, 109, 97, 108, 108]⟩, .string ⟨#[119, 114, 105, 116, 101]⟩] 9)).drew = w4 at *
          change Exit.then _ _ _ _ w4
          have zz13 : ¬ 9223372036854775807 < (bs PP).size + (bs (ruleW rule)).size := by omega
          have zz14 : ¬ 9223372036854775807 < (bs PP).size + (bs (ruleW rule)).size + 1 := by omega
          have zz15 : ¬ 9223372036854775807 < (bs PP).size + (bs (ruleW rule)).size + 1 + (bs (textP xa 0)).size := by omega
          have zz16 : ¬ 9223372036854775807 < (bs PP).size + (bs (ruleW rule)).size + 1 + (bs (textP xa 0)).size + 2 := by omega
          have zz17 : ¬ 9223372036854775807 < (bs PP).size + (bs (ruleW rule)).size + 1 + (bs (textP xa 0)).size + 2 + (bs (numT N)).size := by omega
          have zz18 : ¬ 9223372036854775807 < (bs PP).size + (bs (ruleW rule)).size + 1 + (bs (textP xa 0)).size + 2 + (bs (numT N)).size + 1 := by omega
          have x0 := T1.out.cell 0
          have x2 := T1.out.cell 2
          have x3 := T1.out.cell 3
          have x4 := T1.out.cell 4
          have x8 := T1.out.cell 8
          simp only [stCells, List.getElem?_cons_succ, List.getElem?_cons_zero] at x0 x2 x3 x4 x8
          have hltS : wr.heap.size < w4.heap.size := T1.out.bx.lt
          have HD : Hid (w4.grownBy w4.drew none) := grown_drew w4 1 none
          go_wp2_with fail
          go_region_held3 (fun w' => w'.cell? ⟨wr.heap.size, 0, none⟩ = some (.int .i64 3) ∧ w'.cell? ⟨wr.heap.size, 2, none⟩ = some (.int .i64 A.k) ∧ w'.cell? ⟨wr.heap.size, 3, none⟩ = some (.string A.s) ∧ w'.cell? ⟨wr.heap.size, 4, none⟩ = some (.slice A.a A.n A.c) ∧ w'.cell? ⟨wr.heap.size, 8, none⟩ = some (.int .i64 rule)) (first | exact ⟨x0, x2, x3, x4, x8⟩ | exact ⟨y0, y2, y3, y4, y8⟩ | exact ⟨z0, z2, z3, z4, z8⟩)
            (first
              | (go_at_call 42; have SA2 := SA; refine (CR.out _).mono ?_; rintro e wi ⟨rfl, hg⟩; have SF : Hid (w4.grownBy wi none) := grown_trans SA2.out hg; have z0 := (grown_cell SF.out hltS).trans x0; have z2 := (grown_cell SF.out hltS).trans x2; have z3 := (grown_cell SF.out hltS).trans x3; have z4 := (grown_cell SF.out hltS).trans x4; have z8 := (grown_cell SF.out hltS).trans x8; clear hg)
              | (go_at_call 41; have SA2 := SA; refine (CTA.out _ _ (by exact T1.out.na.still SA2.out)).mono ?_; rintro e wi ⟨rfl, hg⟩; have SF : Hid (w4.grownBy wi none) := grown_trans SA2.out hg; have z0 := (grown_cell SF.out hltS).trans x0; have z2 := (grown_cell SF.out hltS).trans x2; have z3 := (grown_cell SF.out hltS).trans x3; have z4 := (grown_cell SF.out hltS).trans x4; have z8 := (grown_cell SF.out hltS).trans x8; clear hg)
              | (go_at_call 42; refine (CR.out _).mono ?_; rintro e wi ⟨rfl, hg⟩; have SA : Hid (w4.grownBy wi none) := grown_trans HD.out hg; have y0 := (grown_cell SA.out hltS).trans x0; have y2 := (grown_cell SA.out hltS).trans x2; have y3 := (grown_cell SA.out hltS).trans x3; have y4 := (grown_cell SA.out hltS).trans x4; have y8 := (grown_cell SA.out hltS).trans x8; clear hg)
              | (go_at_call 41; refine (CTA.out _ _ (by exact T1.out.na.still HD.out)).mono ?_; rintro e wi ⟨rfl, hg⟩; have SA : Hid (w4.grownBy wi none) := grown_trans HD.out hg; have y0 := (grown_cell SA.out hltS).trans x0; have y2 := (grown_cell SA.out hltS).trans x2; have y3 := (grown_cell SA.out hltS).trans x3; have y4 := (grown_cell SA.out hltS).trans x4; have y8 := (grown_cell SA.out hltS).trans x8; clear hg))
          all_goals
            have S9 : Hid (FS wr wi ⟨3, name, xa, xb, rule, N, d, K, snap⟩ A B) := T1.out.next (below_still0 SF.out)
            try clear x0 x2 x3 x4 x8
            try clear y0 y2 y3 y4 y8
            try clear z0 z2 z3 z4 z8
            try clear SA2
            try clear SB2
            try clear SB
            try clear SA
            clear SF HD hltS T1
            have x5 := S9.out.cell 5
            have x6 := S9.out.cell 6
            have x7 := S9.out.cell 7
            have x8 := S9.out.cell 8
            have x9 := S9.out.cell 9
            simp only [stCells, List.getElem?_cons_succ, List.getElem?_cons_zero] at x5 x6 x7 x8 x9
            go_wp2_with fail
            refine (CD.out _ _ (by omega)).mono ?_
            rintro e w7 ⟨rfl, hg⟩
            have T6 : Hid (FS wr w7 ⟨3, name, xa, xb, rule, N, d, K, snap⟩ A B) := S9.out.next (below_still0 hg)
            clear hg S9
            clear x5 x6 x7 x8 x9
            have hLine : lineP ⟨3, name, xa, xb, rule, N, d, K, snap⟩ = (PP ++ ruleW rule ++ [40] ++ textP xa 0 ++ [44, 32] ++ numT N ++ [41]) ++ [59, 10] := HLINE.out
            have t1 : ¬ 9223372036854775807 < (bs acc).size + ((bs PP).size + (bs (ruleW rule)).size + 1 + (bs (textP xa 0)).size + 2 + (bs (numT N)).size + 1) := by omega
            have t2 : ¬ 9223372036854775807 < (bs acc).size + ((bs PP).size + (bs (ruleW rule)).size + 1 + (bs (textP xa 0)).size + 2 + (bs (numT N)).size + 1) + 2 := by omega
            have hO : bs acc ++ (bs PP ++ bs (ruleW rule) ++ ⟨#[40]⟩ ++ bs (textP xa 0) ++ ⟨#[44, 32]⟩ ++ bs (numT N) ++ ⟨#[41]⟩) ++ ⟨#[59, 10]⟩ = bs (acc ++ lineP ⟨3, name, xa, xb, rule, N, d, K, snap⟩) := by
              rw [hLine]
              show bs acc ++ (bs PP ++ bs (ruleW rule) ++ bs [40] ++ bs (textP xa 0) ++ bs [44, 32] ++ bs (numT N) ++ bs [41]) ++ bs [59, 10] = _
              simp only [bs_app, List.append_assoc]
            have hM : (acc ++ lineP ⟨3, name, xa, xb, rule, N, d, K, snap⟩).length = (bs acc).size + ((bs PP).size + (bs (ruleW rule)).size + 1 + (bs (textP xa 0)).size + 2 + (bs (numT N)).size + 1) + 2 := by
              rw [hLine]; simp only [bs_size, List.length_append, List.length_cons, List.length_nil]; omega
            have BW : Hid (Below w.heap.size w w7) := HBW.out.trans (T6.out.bw.mono HBW.out.size)
            clear hLine HLINE
            obtain ⟨M, hMs⟩ : ∃ M : Nat, (bs acc).size + ((bs PP).size + (bs (ruleW rule)).size + 1 + (bs (textP xa 0)).size + 2 + (bs (numT N)).size + 1) + 2 = M := ⟨_, rfl⟩
            have hMi : ((bs acc).size : Int) + (((bs PP).size : Int) + ((bs (ruleW rule)).size : Int) + 1 + ((bs (textP xa 0)).size : Int) + 2 + ((bs (numT N)).size : Int) + 1) + 2 = (M : Int) := by omega
            have t3 : ¬ 9223372036854775807 < M := by omega
            rw [hMs] at hM
            have HO := Lib.hid hO
            have HMM := Lib.hid hM
            clear hO hM T6 hacc hsA hsP
            try clear hsa
            try clear hns
            try clear hsDN
            try clear hsDK
            by_cases hbg : 65536 < M
            · obtain rfl : R = none := (by have h := HR3.out; rw [HMM.out, if_pos hbg] at h; exact h.symm)
              go_wp2
              go_ret2
              exact ⟨rfl, BW.out⟩
            · have hrest : refP (l.drop (i + 1)) (acc ++ lineP ⟨3, name, xa, xb, rule, N, d, K, snap⟩) = R := (by have h := HR3.out; rw [HMM.out, if_neg hbg] at h; exact h)
              have HREST := Lib.hid hrest
              have hM2 : (acc ++ lineP ⟨3, name, xa, xb, rule, N, d, K, snap⟩).length ≤ 65536 := (by rw [HMM.out]; omega)
              have HM2 := Lib.hid hM2
              clear hrest hM2
              go_wp2
              go_roundg (gk - 1)
              case measure => omega
              case rel => exact ⟨i + 1, _, congrArg Value.string HO.out, by go_num, by omega, by omega, HM2.out, HREST.out, BW.out⟩
        by_cases hk4 : kind = 4
        case pos =>
          subst hk4
          have hNr : 0 ≤ N ∧ N ≤ 2147483647 := f2 (by decide)
          have hsDN := hsN N hNr
          obtain ⟨hTA, hsTA⟩ := f4 (by decide) HX2.out
          have CTA : Hid (∀ (v : Value) (w : World), NdIs Any w xa v → Calls Tryz.prog 41 #[v, .int .i64 1] w fun e w' => e = .returned (.string (bs (textP xa 0))) ∧ w.grownBy w' none) := text_int xa hTA hsTA
          have hsa : (bs (textP xa 0)).size ≤ 100000000 := by rw [bs_size]; exact hsTA
          clear hTA hsTA
          have hDr : 1 ≤ d ∧ d ≤ 2147483647 := f6 rfl
          have hsDD := hsN d (by omega)
          clear f1 f2 f3 f4 f5 f6 hsN
          by_cases hd1 : 1 < d
          case pos =>
            have hd4 : ¬ d = 1 := by omega
            obtain ⟨PP, hPP⟩ : ∃ PP, [115, 109, 97, 108, 108, 32] ++ name ++ [32, 61, 32] = PP := ⟨_, rfl⟩
            have hP : ⟨#[115, 109, 97, 108, 108]⟩ ++ ⟨#[32]⟩ ++ bs name ++ ⟨#[32, 61, 32]⟩ = bs PP := by
              rw [← hPP]
              show bs [115, 109, 97, 108, 108] ++ bs [32] ++ bs name ++ bs [32, 61, 32] = _
              simp only [bs_app, List.cons_append, List.nil_append]
            have hsP : (bs PP).size ≤ 60 := by rw [← hPP, bs_size]; rw [bs_size] at hns; simp only [List.length_append, List.length_cons, List.length_nil]; omega
            have HLINE : Hid (lineP ⟨4, name, xa, xb, rule, N, d, K, snap⟩ = (PP ++ textP xa 0 ++ [44, 32] ++ numT N ++ [47] ++ numT d) ++ [59, 10]) := by
              show _ = _
              rw [← hPP]; simp [lineP, stWord, hd4]
            clear hPP HFIT
            have x0 := T0.out.cell 0
            have x1 := T0.out.cell 1
            simp only [stCells, List.getElem?_cons_succ, List.getElem?_cons_zero] at x0 x1
            have hlt3 : wr.heap.size < w3.heap.size := T0.out.bx.lt
            have y0 := (grown_cell (j := 0) (grown_alloc w3 (.cells #[.string ⟨#[105, 110, 112, 117, 116]⟩, .string ⟨#[108, 101, 116]⟩, .string ⟨#[99, 104, 101, 99, 107]⟩, .string ⟨#[115, 109, 97, 108, 108]⟩, .string ⟨#[119, 114, 105, 116, 101]⟩] 9) none) hlt3).trans x0
            have y1 := (grown_cell (j := 1) (grown_alloc w3 (.cells #[.string ⟨#[105, 110, 112, 117, 116]⟩, .string ⟨#[108, 101, 116]⟩, .string ⟨#[99, 104, 101, 99, 107]⟩, .string ⟨#[115, 109, 97, 108, 108]⟩, .string ⟨#[119, 114, 105, 116, 101]⟩] 9) none) hlt3).trans x1
            have yw := cell_at w3 [.string ⟨#[105, 110, 112, 117, 116]⟩, .string ⟨#[108, 101, 116]⟩, .string ⟨#[99, 104, 101, 99, 107]⟩, .string ⟨#[115, 109, 97, 108, 108]⟩, .string ⟨#[119, 114, 105, 116, 101]⟩] 9 w3.heap.size rfl 3 _ rfl
            have T1 : Hid (FS wr (w3.alloc (.cells #[.string ⟨#[105, 110, 112, 117, 116]⟩, .string ⟨#[108, 101, 116]⟩, .string ⟨#[99, 104, 101, 99, 107]⟩, .string ⟨#[115, 109, 97, 108, 108]⟩, .string ⟨#[119, 114, 105, 116, 101]⟩] 9)).drew ⟨4, name, xa, xb, rule, N, d, K, snap⟩ A B) := T0.out.next (below_still0 (grown_trans (grown_alloc _ _ _) (grown_drew _ 1 none)))
            have z1 : ¬ 9223372036854775807 < 6 + (bs name).size := by omega
            have z2 : ¬ 9223372036854775807 < 6 + (bs name).size + 3 := by omega
            go_wp2_with fail
            go_region
            try rw [hP]
            clear y0 y1 yw x0 x1 z1 z2 hlt3 T0 hP
            generalize (w3.alloc (.cells #[.string ⟨#[105, 110, 112, 117, 116]⟩, .string ⟨#[108, 101, 116]⟩, .string ⟨#[99, 104, 101, 99, 107]⟩, .string ⟨#[115, 109, 97, 108, 108]⟩, .string ⟨#[119, 114, 105, 116, 101]⟩] 9)).drew = w4 at *
            change Exit.then _ _ _ _ w4
            have zz19 : ¬ 9223372036854775807 < (bs PP).size + (bs (textP xa 0)).size := by omega
            have zz20 : ¬ 9223372036854775807 < (bs PP).size + (bs (textP xa 0)).size + 2 := by omega
            have zz21 : ¬ 9223372036854775807 < (bs PP).size + (bs (textP xa 0)).size + 2 + (bs (numT N)).size := by omega
            have zz22 : ¬ 9223372036854775807 < (bs PP).size + (bs (textP xa 0)).size + 2 + (bs (numT N)).size + 1 := by omega
            have zz23 : ¬ 9223372036854775807 < (bs PP).size + (bs (textP xa 0)).size + 2 + (bs (numT N)).size + 1 + (bs (numT d)).size := by omega
            have x0 := T1.out.cell 0
            have x2 := T1.out.cell 2
            have x3 := T1.out.cell 3
            have x4 := T1.out.cell 4
            have x9 := T1.out.cell 9
            simp only [stCells, List.getElem?_cons_succ, List.getElem?_cons_zero] at x0 x2 x3 x4 x9
            have hltS : wr.heap.size < w4.heap.size := T1.out.bx.lt
            have HD : Hid (w4.grownBy w4.drew none) := grown_drew w4 1 none
            go_wp2_with fail
            go_region_held3 (fun w' => w'.cell? ⟨wr.heap.size, 0, none⟩ = some (.int .i64 4) ∧ w'.cell? ⟨wr.heap.size, 2, none⟩ = some (.int .i64 A.k) ∧ w'.cell? ⟨wr.heap.size, 3, none⟩ = some (.string A.s) ∧ w'.cell? ⟨wr.heap.size, 4, none⟩ = some (.slice A.a A.n A.c) ∧ w'.cell? ⟨wr.heap.size, 9, none⟩ = some (.int .i64 N)) (first | exact ⟨x0, x2, x3, x4, x9⟩ | exact ⟨y0, y2, y3, y4, y9⟩ | exact ⟨z0, z2, z3, z4, z9⟩)
              (first
                | (go_at_call 40; have SA2 := SA; refine (CD.out _ _ (by omega)).mono ?_; rintro e wi ⟨rfl, hg⟩; have SF : Hid (w4.grownBy wi none) := grown_trans SA2.out hg; have z0 := (grown_cell SF.out hltS).trans x0; have z2 := (grown_cell SF.out hltS).trans x2; have z3 := (grown_cell SF.out hltS).trans x3; have z4 := (grown_cell SF.out hltS).trans x4; have z9 := (grown_cell SF.out hltS).trans x9; clear hg)
                | (go_at_call 41; have SA2 := SA; refine (CTA.out _ _ (by exact T1.out.na.still SA2.out)).mono ?_; rintro e wi ⟨rfl, hg⟩; have SF : Hid (w4.grownBy wi none) := grown_trans SA2.out hg; have z0 := (grown_cell SF.out hltS).trans x0; have z2 := (grown_cell SF.out hltS).trans x2; have z3 := (grown_cell SF.out hltS).trans x3; have z4 := (grown_cell SF.out hltS).trans x4; have z9 := (grown_cell SF.out hltS).trans x9; clear hg)
                | (go_at_call 40; refine (CD.out _ _ (by omega)).mono ?_; rintro e wi ⟨rfl, hg⟩; have SA : Hid (w4.grownBy wi none) := grown_trans HD.out hg; have y0 := (grown_cell SA.out hltS).trans x0; have y2 := (grown_cell SA.out hltS).trans x2; have y3 := (grown_cell SA.out hltS).trans x3; have y4 := (grown_cell SA.out hltS).trans x4; have y9 := (grown_cell SA.out hltS).trans x9; clear hg)
                | (go_at_call 41; refine (CTA.out _ _ (by exact T1.out.na.still HD.out)).mono ?_; rintro e wi ⟨rfl, hg⟩; have SA : Hid (w4.grownBy wi none) := grown_trans HD.out hg; have y0 := (grown_cell SA.out hltS).trans x0; have y2 := (grown_cell SA.out hltS).trans x2; have y3 := (grown_cell SA.out hltS).trans x3; have y4 := (grown_cell SA.out hltS).trans x4; have y9 := (grown_cell SA.out hltS).trans x9; clear hg))
            all_goals
              have S9 : Hid (FS wr wi ⟨4, name, xa, xb, rule, N, d, K, snap⟩ A B) := T1.out.next (below_still0 SF.out)
              try clear x0 x2 x3 x4 x9
              try clear y0 y2 y3 y4 y9
              try clear z0 z2 z3 z4 z9
              try clear SA2
              try clear SB2
              try clear SB
              try clear SA
              clear SF HD hltS T1
              have x10 := S9.out.cell 10
              simp only [stCells, List.getElem?_cons_succ, List.getElem?_cons_zero] at x10
              go_wp2_with fail
              refine (CD.out _ _ (by omega)).mono ?_
              rintro e w6 ⟨rfl, hg⟩
              have T5 : Hid (FS wr w6 ⟨4, name, xa, xb, rule, N, d, K, snap⟩ A B) := S9.out.next (below_still0 hg)
              clear hg S9
              clear x10
              have hLine : lineP ⟨4, name, xa, xb, rule, N, d, K, snap⟩ = (PP ++ textP xa 0 ++ [44, 32] ++ numT N ++ [47] ++ numT d) ++ [59, 10] := HLINE.out
              have t1 : ¬ 9223372036854775807 < (bs acc).size + ((bs PP).size + (bs (textP xa 0)).size + 2 + (bs (numT N)).size + 1 + (bs (numT d)).size) := by omega
              have t2 : ¬ 9223372036854775807 < (bs acc).size + ((bs PP).size + (bs (textP xa 0)).size + 2 + (bs (numT N)).size + 1 + (bs (numT d)).size) + 2 := by omega
              have hO : bs acc ++ (bs PP ++ bs (textP xa 0) ++ ⟨#[44, 32]⟩ ++ bs (numT N) ++ ⟨#[47]⟩ ++ bs (numT d)) ++ ⟨#[59, 10]⟩ = bs (acc ++ lineP ⟨4, name, xa, xb, rule, N, d, K, snap⟩) := by
                rw [hLine]
                show bs acc ++ (bs PP ++ bs (textP xa 0) ++ bs [44, 32] ++ bs (numT N) ++ bs [47] ++ bs (numT d)) ++ bs [59, 10] = _
                simp only [bs_app, List.append_assoc]
              have hM : (acc ++ lineP ⟨4, name, xa, xb, rule, N, d, K, snap⟩).length = (bs acc).size + ((bs PP).size + (bs (textP xa 0)).size + 2 + (bs (numT N)).size + 1 + (bs (numT d)).size) + 2 := by
                rw [hLine]; simp only [bs_size, List.length_append, List.length_cons, List.length_nil]; omega
              have BW : Hid (Below w.heap.size w w6) := HBW.out.trans (T5.out.bw.mono HBW.out.size)
              clear hLine HLINE
              obtain ⟨M, hMs⟩ : ∃ M : Nat, (bs acc).size + ((bs PP).size + (bs (textP xa 0)).size + 2 + (bs (numT N)).size + 1 + (bs (numT d)).size) + 2 = M := ⟨_, rfl⟩
              have hMi : ((bs acc).size : Int) + (((bs PP).size : Int) + ((bs (textP xa 0)).size : Int) + 2 + ((bs (numT N)).size : Int) + 1 + ((bs (numT d)).size : Int)) + 2 = (M : Int) := by omega
              have t3 : ¬ 9223372036854775807 < M := by omega
              rw [hMs] at hM
              have HO := Lib.hid hO
              have HMM := Lib.hid hM
              clear hO hM T5 hacc hsA hsP
              try clear hsa
              try clear hns
              try clear hsDN
              try clear hsDK
              by_cases hbg : 65536 < M
              · obtain rfl : R = none := (by have h := HR3.out; rw [HMM.out, if_pos hbg] at h; exact h.symm)
                go_wp2
                go_ret2
                exact ⟨rfl, BW.out⟩
              · have hrest : refP (l.drop (i + 1)) (acc ++ lineP ⟨4, name, xa, xb, rule, N, d, K, snap⟩) = R := (by have h := HR3.out; rw [HMM.out, if_neg hbg] at h; exact h)
                have HREST := Lib.hid hrest
                have hM2 : (acc ++ lineP ⟨4, name, xa, xb, rule, N, d, K, snap⟩).length ≤ 65536 := (by rw [HMM.out]; omega)
                have HM2 := Lib.hid hM2
                clear hrest hM2
                go_wp2
                go_roundg (gk - 1)
                case measure => omega
                case rel => exact ⟨i + 1, _, congrArg Value.string HO.out, by go_num, by omega, by omega, HM2.out, HREST.out, BW.out⟩
          have hd4 : d = 1 := by omega
          obtain ⟨PP, hPP⟩ : ∃ PP, [115, 109, 97, 108, 108, 32] ++ name ++ [32, 61, 32] = PP := ⟨_, rfl⟩
          have hP : ⟨#[115, 109, 97, 108, 108]⟩ ++ ⟨#[32]⟩ ++ bs name ++ ⟨#[32, 61, 32]⟩ = bs PP := by
            rw [← hPP]
            show bs [115, 109, 97, 108, 108] ++ bs [32] ++ bs name ++ bs [32, 61, 32] = _
            simp only [bs_app, List.cons_append, List.nil_append]
          have hsP : (bs PP).size ≤ 60 := by rw [← hPP, bs_size]; rw [bs_size] at hns; simp only [List.length_append, List.length_cons, List.length_nil]; omega
          have HLINE : Hid (lineP ⟨4, name, xa, xb, rule, N, d, K, snap⟩ = (PP ++ textP xa 0 ++ [44, 32] ++ numT N) ++ [59, 10]) := by
            show _ = _
            rw [← hPP]; simp [lineP, stWord, hd4]
          clear hPP HFIT
          have x0 := T0.out.cell 0
          have x1 := T0.out.cell 1
          simp only [stCells, List.getElem?_cons_succ, List.getElem?_cons_zero] at x0 x1
          have hlt3 : wr.heap.size < w3.heap.size := T0.out.bx.lt
          have y0 := (grown_cell (j := 0) (grown_alloc w3 (.cells #[.string ⟨#[105, 110, 112, 117, 116]⟩, .string ⟨#[108, 101, 116]⟩, .string ⟨#[99, 104, 101, 99, 107]⟩, .string ⟨#[115, 109, 97, 108, 108]⟩, .string ⟨#[119, 114, 105, 116, 101]⟩] 9) none) hlt3).trans x0
          have y1 := (grown_cell (j := 1) (grown_alloc w3 (.cells #[.string ⟨#[105, 110, 112, 117, 116]⟩, .string ⟨#[108, 101, 116]⟩, .string ⟨#[99, 104, 101, 99, 107]⟩, .string ⟨#[115, 109, 97, 108, 108]⟩, .string ⟨#[119, 114, 105, 116, 101]⟩] 9) none) hlt3).trans x1
          have yw := cell_at w3 [.string ⟨#[105, 110, 112, 117, 116]⟩, .string ⟨#[108, 101, 116]⟩, .string ⟨#[99, 104, 101, 99, 107]⟩, .string ⟨#[115, 109, 97, 108, 108]⟩, .string ⟨#[119, 114, 105, 116, 101]⟩] 9 w3.heap.size rfl 3 _ rfl
          have T1 : Hid (FS wr (w3.alloc (.cells #[.string ⟨#[105, 110, 112, 117, 116]⟩, .string ⟨#[108, 101, 116]⟩, .string ⟨#[99, 104, 101, 99, 107]⟩, .string ⟨#[115, 109, 97, 108, 108]⟩, .string ⟨#[119, 114, 105, 116, 101]⟩] 9)).drew ⟨4, name, xa, xb, rule, N, d, K, snap⟩ A B) := T0.out.next (below_still0 (grown_trans (grown_alloc _ _ _) (grown_drew _ 1 none)))
          have z1 : ¬ 9223372036854775807 < 6 + (bs name).size := by omega
          have z2 : ¬ 9223372036854775807 < 6 + (bs name).size + 3 := by omega
          go_wp2_with fail
          go_region
          try rw [hP]
          clear y0 y1 yw x0 x1 z1 z2 hlt3 T0 hP
          generalize (w3.alloc (.cells #[.string ⟨#[105, 110, 112, 117, 116]⟩, .string ⟨#[108, 101, 116]⟩, .string ⟨#[99, 104, 101, 99, 107]⟩, .string ⟨#[115, 109, 97, 108, 108]⟩, .string ⟨#[119, 114, 105, 116, 101]⟩] 9)).drew = w4 at *
          change Exit.then _ _ _ _ w4
          have zz24 : ¬ 9223372036854775807 < (bs PP).size + (bs (textP xa 0)).size := by omega
          have zz25 : ¬ 9223372036854775807 < (bs PP).size + (bs (textP xa 0)).size + 2 := by omega
          have zz26 : ¬ 9223372036854775807 < (bs PP).size + (bs (textP xa 0)).size + 2 + (bs (numT N)).size := by omega
          have x0 := T1.out.cell 0
          have x2 := T1.out.cell 2
          have x3 := T1.out.cell 3
          have x4 := T1.out.cell 4
          have x9 := T1.out.cell 9
          simp only [stCells, List.getElem?_cons_succ, List.getElem?_cons_zero] at x0 x2 x3 x4 x9
          have hltS : wr.heap.size < w4.heap.size := T1.out.bx.lt
          have HD : Hid (w4.grownBy w4.drew none) := grown_drew w4 1 none
          go_wp2_with fail
          go_region_held3 (fun w' => w'.cell? ⟨wr.heap.size, 0, none⟩ = some (.int .i64 4) ∧ w'.cell? ⟨wr.heap.size, 2, none⟩ = some (.int .i64 A.k) ∧ w'.cell? ⟨wr.heap.size, 3, none⟩ = some (.string A.s) ∧ w'.cell? ⟨wr.heap.size, 4, none⟩ = some (.slice A.a A.n A.c) ∧ w'.cell? ⟨wr.heap.size, 9, none⟩ = some (.int .i64 N)) (first | exact ⟨x0, x2, x3, x4, x9⟩ | exact ⟨y0, y2, y3, y4, y9⟩ | exact ⟨z0, z2, z3, z4, z9⟩)
            (first
              | (go_at_call 40; have SA2 := SA; refine (CD.out _ _ (by omega)).mono ?_; rintro e wi ⟨rfl, hg⟩; have SF : Hid (w4.grownBy wi none) := grown_trans SA2.out hg; have z0 := (grown_cell SF.out hltS).trans x0; have z2 := (grown_cell SF.out hltS).trans x2; have z3 := (grown_cell SF.out hltS).trans x3; have z4 := (grown_cell SF.out hltS).trans x4; have z9 := (grown_cell SF.out hltS).trans x9; clear hg)
              | (go_at_call 41; have SA2 := SA; refine (CTA.out _ _ (by exact T1.out.na.still SA2.out)).mono ?_; rintro e wi ⟨rfl, hg⟩; have SF : Hid (w4.grownBy wi none) := grown_trans SA2.out hg; have z0 := (grown_cell SF.out hltS).trans x0; have z2 := (grown_cell SF.out hltS).trans x2; have z3 := (grown_cell SF.out hltS).trans x3; have z4 := (grown_cell SF.out hltS).trans x4; have z9 := (grown_cell SF.out hltS).trans x9; clear hg)
              | (go_at_call 40; refine (CD.out _ _ (by omega)).mono ?_; rintro e wi ⟨rfl, hg⟩; have SA : Hid (w4.grownBy wi none) := grown_trans HD.out hg; have y0 := (grown_cell SA.out hltS).trans x0; have y2 := (grown_cell SA.out hltS).trans x2; have y3 := (grown_cell SA.out hltS).trans x3; have y4 := (grown_cell SA.out hltS).trans x4; have y9 := (grown_cell SA.out hltS).trans x9; clear hg)
              | (go_at_call 41; refine (CTA.out _ _ (by exact T1.out.na.still HD.out)).mono ?_; rintro e wi ⟨rfl, hg⟩; have SA : Hid (w4.grownBy wi none) := grown_trans HD.out hg; have y0 := (grown_cell SA.out hltS).trans x0; have y2 := (grown_cell SA.out hltS).trans x2; have y3 := (grown_cell SA.out hltS).trans x3; have y4 := (grown_cell SA.out hltS).trans x4; have y9 := (grown_cell SA.out hltS).trans x9; clear hg))
          all_goals
            have S9 : Hid (FS wr wi ⟨4, name, xa, xb, rule, N, d, K, snap⟩ A B) := T1.out.next (below_still0 SF.out)
            try clear x0 x2 x3 x4 x9
            try clear y0 y2 y3 y4 y9
            try clear z0 z2 z3 z4 z9
            try clear SA2
            try clear SB2
            try clear SB
            try clear SA
            clear SF HD hltS T1
            have x10 := S9.out.cell 10
            simp only [stCells, List.getElem?_cons_succ, List.getElem?_cons_zero] at x10
            have hLine : lineP ⟨4, name, xa, xb, rule, N, d, K, snap⟩ = (PP ++ textP xa 0 ++ [44, 32] ++ numT N) ++ [59, 10] := HLINE.out
            have t1 : ¬ 9223372036854775807 < (bs acc).size + ((bs PP).size + (bs (textP xa 0)).size + 2 + (bs (numT N)).size) := by omega
            have t2 : ¬ 9223372036854775807 < (bs acc).size + ((bs PP).size + (bs (textP xa 0)).size + 2 + (bs (numT N)).size) + 2 := by omega
            have hO : bs acc ++ (bs PP ++ bs (textP xa 0) ++ ⟨#[44, 32]⟩ ++ bs (numT N)) ++ ⟨#[59, 10]⟩ = bs (acc ++ lineP ⟨4, name, xa, xb, rule, N, d, K, snap⟩) := by
              rw [hLine]
              show bs acc ++ (bs PP ++ bs (textP xa 0) ++ bs [44, 32] ++ bs (numT N)) ++ bs [59, 10] = _
              simp only [bs_app, List.append_assoc]
            have hM : (acc ++ lineP ⟨4, name, xa, xb, rule, N, d, K, snap⟩).length = (bs acc).size + ((bs PP).size + (bs (textP xa 0)).size + 2 + (bs (numT N)).size) + 2 := by
              rw [hLine]; simp only [bs_size, List.length_append, List.length_cons, List.length_nil]; omega
            have BW : Hid (Below w.heap.size w wi) := HBW.out.trans (S9.out.bw.mono HBW.out.size)
            clear hLine HLINE
            obtain ⟨M, hMs⟩ : ∃ M : Nat, (bs acc).size + ((bs PP).size + (bs (textP xa 0)).size + 2 + (bs (numT N)).size) + 2 = M := ⟨_, rfl⟩
            have hMi : ((bs acc).size : Int) + (((bs PP).size : Int) + ((bs (textP xa 0)).size : Int) + 2 + ((bs (numT N)).size : Int)) + 2 = (M : Int) := by omega
            have t3 : ¬ 9223372036854775807 < M := by omega
            rw [hMs] at hM
            have HO := Lib.hid hO
            have HMM := Lib.hid hM
            clear hO hM S9 hacc hsA hsP
            try clear hsa
            try clear hns
            try clear hsDN
            try clear hsDK
            by_cases hbg : 65536 < M
            · obtain rfl : R = none := (by have h := HR3.out; rw [HMM.out, if_pos hbg] at h; exact h.symm)
              go_wp2
              go_ret2
              exact ⟨rfl, BW.out⟩
            · have hrest : refP (l.drop (i + 1)) (acc ++ lineP ⟨4, name, xa, xb, rule, N, d, K, snap⟩) = R := (by have h := HR3.out; rw [HMM.out, if_neg hbg] at h; exact h)
              have HREST := Lib.hid hrest
              have hM2 : (acc ++ lineP ⟨4, name, xa, xb, rule, N, d, K, snap⟩).length ≤ 65536 := (by rw [HMM.out]; omega)
              have HM2 := Lib.hid hM2
              clear hrest hM2
              go_wp2
              go_roundg (gk - 1)
              case measure => omega
              case rel => exact ⟨i + 1, _, congrArg Value.string HO.out, by go_num, by omega, by omega, HM2.out, HREST.out, BW.out⟩
        by_cases hk5 : kind = 5
        case pos =>
          subst hk5
          have hNr : 0 ≤ N ∧ N ≤ 2147483647 := f2 (by decide)
          have hsDN := hsN N hNr
          have hKr : 0 ≤ K ∧ K ≤ 2147483647 := f3 (by decide)
          have hsDK := hsN K hKr
          obtain ⟨hTA, hsTA⟩ := f4 (by decide) HX2.out
          have CTA : Hid (∀ (v : Value) (w : World), NdIs Any w xa v → Calls Tryz.prog 41 #[v, .int .i64 1] w fun e w' => e = .returned (.string (bs (textP xa 0))) ∧ w.grownBy w' none) := text_int xa hTA hsTA
          have hsa : (bs (textP xa 0)).size ≤ 100000000 := by rw [bs_size]; exact hsTA
          clear hTA hsTA
          clear f1 f2 f3 f4 f5 f6 hsN
          cases snap with
          | true =>
            obtain ⟨PP, hPP⟩ : ∃ PP, [119, 114, 105, 116, 101, 32] ++ name ++ [32, 61, 32] = PP := ⟨_, rfl⟩
            have hP : ⟨#[119, 114, 105, 116, 101]⟩ ++ ⟨#[32]⟩ ++ bs name ++ ⟨#[32, 61, 32]⟩ = bs PP := by
              rw [← hPP]
              show bs [119, 114, 105, 116, 101] ++ bs [32] ++ bs name ++ bs [32, 61, 32] = _
              simp only [bs_app, List.cons_append, List.nil_append]
            have hsP : (bs PP).size ≤ 60 := by rw [← hPP, bs_size]; rw [bs_size] at hns; simp only [List.length_append, List.length_cons, List.length_nil]; omega
            have HLINE : Hid (lineP ⟨5, name, xa, xb, rule, N, d, K, true⟩ = (PP ++ textP xa 0 ++ [44, 32] ++ numT N ++ [47] ++ numT K ++ [32, 115, 110, 97, 112]) ++ [59, 10]) := by
              show _ = _
              rw [← hPP]; simp [lineP, stWord]
            clear hPP HFIT
            have x0 := T0.out.cell 0
            have x1 := T0.out.cell 1
            simp only [stCells, List.getElem?_cons_succ, List.getElem?_cons_zero] at x0 x1
            have hlt3 : wr.heap.size < w3.heap.size := T0.out.bx.lt
            have y0 := (grown_cell (j := 0) (grown_alloc w3 (.cells #[.string ⟨#[105, 110, 112, 117, 116]⟩, .string ⟨#[108, 101, 116]⟩, .string ⟨#[99, 104, 101, 99, 107]⟩, .string ⟨#[115, 109, 97, 108, 108]⟩, .string ⟨#[119, 114, 105, 116, 101]⟩] 9) none) hlt3).trans x0
            have y1 := (grown_cell (j := 1) (grown_alloc w3 (.cells #[.string ⟨#[105, 110, 112, 117, 116]⟩, .string ⟨#[108, 101, 116]⟩, .string ⟨#[99, 104, 101, 99, 107]⟩, .string ⟨#[115, 109, 97, 108, 108]⟩, .string ⟨#[119, 114, 105, 116, 101]⟩] 9) none) hlt3).trans x1
            have yw := cell_at w3 [.string ⟨#[105, 110, 112, 117, 116]⟩, .string ⟨#[108, 101, 116]⟩, .string ⟨#[99, 104, 101, 99, 107]⟩, .string ⟨#[115, 109, 97, 108, 108]⟩, .string ⟨#[119, 114, 105, 116, 101]⟩] 9 w3.heap.size rfl 4 _ rfl
            have T1 : Hid (FS wr (w3.alloc (.cells #[.string ⟨#[105, 110, 112, 117, 116]⟩, .string ⟨#[108, 101, 116]⟩, .string ⟨#[99, 104, 101, 99, 107]⟩, .string ⟨#[115, 109, 97, 108, 108]⟩, .string ⟨#[119, 114, 105, 116, 101]⟩] 9)).drew ⟨5, name, xa, xb, rule, N, d, K, true⟩ A B) := T0.out.next (below_still0 (grown_trans (grown_alloc _ _ _) (grown_drew _ 1 none)))
            have z1 : ¬ 9223372036854775807 < 6 + (bs name).size := by omega
            have z2 : ¬ 9223372036854775807 < 6 + (bs name).size + 3 := by omega
            go_wp2_with fail
            go_region
            try rw [hP]
            clear y0 y1 yw x0 x1 z1 z2 hlt3 T0 hP
            generalize (w3.alloc (.cells #[.string ⟨#[105, 110, 112, 117, 116]⟩, .string ⟨#[108, 101, 116]⟩, .string ⟨#[99, 104, 101, 99, 107]⟩, .string ⟨#[115, 109, 97, 108, 108]⟩, .string ⟨#[119, 114, 105, 116, 101]⟩] 9)).drew = w4 at *
            change Exit.then _ _ _ _ w4
            have zz27 : ¬ 9223372036854775807 < (bs PP).size + (bs (textP xa 0)).size := by omega
            have zz28 : ¬ 9223372036854775807 < (bs PP).size + (bs (textP xa 0)).size + 2 := by omega
            have zz29 : ¬ 9223372036854775807 < (bs PP).size + (bs (textP xa 0)).size + 2 + (bs (numT N)).size := by omega
            have zz30 : ¬ 9223372036854775807 < (bs PP).size + (bs (textP xa 0)).size + 2 + (bs (numT N)).size + 1 := by omega
            have zz31 : ¬ 9223372036854775807 < (bs PP).size + (bs (textP xa 0)).size + 2 + (bs (numT N)).size + 1 + (bs (numT K)).size := by omega
            have zz32 : ¬ 9223372036854775807 < (bs PP).size + (bs (textP xa 0)).size + 2 + (bs (numT N)).size + 1 + (bs (numT K)).size + 5 := by omega
            have x0 := T1.out.cell 0
            have x2 := T1.out.cell 2
            have x3 := T1.out.cell 3
            have x4 := T1.out.cell 4
            have x9 := T1.out.cell 9
            have x11 := T1.out.cell 11
            simp only [stCells, List.getElem?_cons_succ, List.getElem?_cons_zero] at x0 x2 x3 x4 x9 x11
            have hltS : wr.heap.size < w4.heap.size := T1.out.bx.lt
            have HD : Hid (w4.grownBy w4.drew none) := grown_drew w4 1 none
            go_wp2_with fail
            go_region_held3 (fun w' => w'.cell? ⟨wr.heap.size, 0, none⟩ = some (.int .i64 5) ∧ w'.cell? ⟨wr.heap.size, 2, none⟩ = some (.int .i64 A.k) ∧ w'.cell? ⟨wr.heap.size, 3, none⟩ = some (.string A.s) ∧ w'.cell? ⟨wr.heap.size, 4, none⟩ = some (.slice A.a A.n A.c) ∧ w'.cell? ⟨wr.heap.size, 9, none⟩ = some (.int .i64 N) ∧ w'.cell? ⟨wr.heap.size, 11, none⟩ = some (.int .i64 K)) (first | exact ⟨x0, x2, x3, x4, x9, x11⟩ | exact ⟨y0, y2, y3, y4, y9, y11⟩ | exact ⟨z0, z2, z3, z4, z9, z11⟩ | exact ⟨t0, t2, t3, t4, t9, t11⟩)
              (first
                | (go_at_call 40; have SB2 := SB; refine (CD.out _ _ (by omega)).mono ?_; rintro e wi ⟨rfl, hg⟩; have SF : Hid (w4.grownBy wi none) := grown_trans SB2.out hg; have t0 := (grown_cell SF.out hltS).trans x0; have t2 := (grown_cell SF.out hltS).trans x2; have t3 := (grown_cell SF.out hltS).trans x3; have t4 := (grown_cell SF.out hltS).trans x4; have t9 := (grown_cell SF.out hltS).trans x9; have t11 := (grown_cell SF.out hltS).trans x11; clear hg)
                | (go_at_call 41; have SB2 := SB; refine (CTA.out _ _ (by exact T1.out.na.still SB2.out)).mono ?_; rintro e wi ⟨rfl, hg⟩; have SF : Hid (w4.grownBy wi none) := grown_trans SB2.out hg; have t0 := (grown_cell SF.out hltS).trans x0; have t2 := (grown_cell SF.out hltS).trans x2; have t3 := (grown_cell SF.out hltS).trans x3; have t4 := (grown_cell SF.out hltS).trans x4; have t9 := (grown_cell SF.out hltS).trans x9; have t11 := (grown_cell SF.out hltS).trans x11; clear hg)
                | (go_at_call 40; have SA2 := SA; refine (CD.out _ _ (by omega)).mono ?_; rintro e wi ⟨rfl, hg⟩; have SB : Hid (w4.grownBy wi none) := grown_trans SA2.out hg; have z0 := (grown_cell SB.out hltS).trans x0; have z2 := (grown_cell SB.out hltS).trans x2; have z3 := (grown_cell SB.out hltS).trans x3; have z4 := (grown_cell SB.out hltS).trans x4; have z9 := (grown_cell SB.out hltS).trans x9; have z11 := (grown_cell SB.out hltS).trans x11; clear hg)
                | (go_at_call 41; have SA2 := SA; refine (CTA.out _ _ (by exact T1.out.na.still SA2.out)).mono ?_; rintro e wi ⟨rfl, hg⟩; have SB : Hid (w4.grownBy wi none) := grown_trans SA2.out hg; have z0 := (grown_cell SB.out hltS).trans x0; have z2 := (grown_cell SB.out hltS).trans x2; have z3 := (grown_cell SB.out hltS).trans x3; have z4 := (grown_cell SB.out hltS).trans x4; have z9 := (grown_cell SB.out hltS).trans x9; have z11 := (grown_cell SB.out hltS).trans x11; clear hg)
                | (go_at_call 40; refine (CD.out _ _ (by omega)).mono ?_; rintro e wi ⟨rfl, hg⟩; have SA : Hid (w4.grownBy wi none) := grown_trans HD.out hg; have y0 := (grown_cell SA.out hltS).trans x0; have y2 := (grown_cell SA.out hltS).trans x2; have y3 := (grown_cell SA.out hltS).trans x3; have y4 := (grown_cell SA.out hltS).trans x4; have y9 := (grown_cell SA.out hltS).trans x9; have y11 := (grown_cell SA.out hltS).trans x11; clear hg)
                | (go_at_call 41; refine (CTA.out _ _ (by exact T1.out.na.still HD.out)).mono ?_; rintro e wi ⟨rfl, hg⟩; have SA : Hid (w4.grownBy wi none) := grown_trans HD.out hg; have y0 := (grown_cell SA.out hltS).trans x0; have y2 := (grown_cell SA.out hltS).trans x2; have y3 := (grown_cell SA.out hltS).trans x3; have y4 := (grown_cell SA.out hltS).trans x4; have y9 := (grown_cell SA.out hltS).trans x9; have y11 := (grown_cell SA.out hltS).trans x11; clear hg))
            all_goals
              have S9 : Hid (FS wr wi ⟨5, name, xa, xb, rule, N, d, K, true⟩ A B) := T1.out.next (below_still0 SF.out)
              try clear x0 x2 x3 x4 x9 x11
              try clear y0 y2 y3 y4 y9 y11
              try clear z0 z2 z3 z4 z9 z11
              try clear t0 t2 t3 t4 t9 t11
              try clear SA2
              try clear SB2
              try clear SB
              try clear SA
              clear SF HD hltS T1
              have x12 := S9.out.cell 12
              simp only [stCells, List.getElem?_cons_succ, List.getElem?_cons_zero] at x12
              have hLine : lineP ⟨5, name, xa, xb, rule, N, d, K, true⟩ = (PP ++ textP xa 0 ++ [44, 32] ++ numT N ++ [47] ++ numT K ++ [32, 115, 110, 97, 112]) ++ [59, 10] := HLINE.out
              have t1 : ¬ 9223372036854775807 < (bs acc).size + ((bs PP).size + (bs (textP xa 0)).size + 2 + (bs (numT N)).size + 1 + (bs (numT K)).size + 5) := by omega
              have t2 : ¬ 9223372036854775807 < (bs acc).size + ((bs PP).size + (bs (textP xa 0)).size + 2 + (bs (numT N)).size + 1 + (bs (numT K)).size + 5) + 2 := by omega
              have hO : bs acc ++ (bs PP ++ bs (textP xa 0) ++ ⟨#[44, 32]⟩ ++ bs (numT N) ++ ⟨#[47]⟩ ++ bs (numT K) ++ ⟨#[32, 115, 110, 97, 112]⟩) ++ ⟨#[59, 10]⟩ = bs (acc ++ lineP ⟨5, name, xa, xb, rule, N, d, K, true⟩) := by
                rw [hLine]
                show bs acc ++ (bs PP ++ bs (textP xa 0) ++ bs [44, 32] ++ bs (numT N) ++ bs [47] ++ bs (numT K) ++ bs [32, 115, 110, 97, 112]) ++ bs [59, 10] = _
                simp only [bs_app, List.append_assoc]
              have hM : (acc ++ lineP ⟨5, name, xa, xb, rule, N, d, K, true⟩).length = (bs acc).size + ((bs PP).size + (bs (textP xa 0)).size + 2 + (bs (numT N)).size + 1 + (bs (numT K)).size + 5) + 2 := by
                rw [hLine]; simp only [bs_size, List.length_append, List.length_cons, List.length_nil]; omega
              have BW : Hid (Below w.heap.size w wi) := HBW.out.trans (S9.out.bw.mono HBW.out.size)
              clear hLine HLINE
              obtain ⟨M, hMs⟩ : ∃ M : Nat, (bs acc).size + ((bs PP).size + (bs (textP xa 0)).size + 2 + (bs (numT N)).size + 1 + (bs (numT K)).size + 5) + 2 = M := ⟨_, rfl⟩
              have hMi : ((bs acc).size : Int) + (((bs PP).size : Int) + ((bs (textP xa 0)).size : Int) + 2 + ((bs (numT N)).size : Int) + 1 + ((bs (numT K)).size : Int) + 5) + 2 = (M : Int) := by omega
              have t3 : ¬ 9223372036854775807 < M := by omega
              rw [hMs] at hM
              have HO := Lib.hid hO
              have HMM := Lib.hid hM
              clear hO hM S9 hacc hsA hsP
              try clear hsa
              try clear hns
              try clear hsDN
              try clear hsDK
              by_cases hbg : 65536 < M
              · obtain rfl : R = none := (by have h := HR3.out; rw [HMM.out, if_pos hbg] at h; exact h.symm)
                go_wp2
                go_ret2
                exact ⟨rfl, BW.out⟩
              · have hrest : refP (l.drop (i + 1)) (acc ++ lineP ⟨5, name, xa, xb, rule, N, d, K, true⟩) = R := (by have h := HR3.out; rw [HMM.out, if_neg hbg] at h; exact h)
                have HREST := Lib.hid hrest
                have hM2 : (acc ++ lineP ⟨5, name, xa, xb, rule, N, d, K, true⟩).length ≤ 65536 := (by rw [HMM.out]; omega)
                have HM2 := Lib.hid hM2
                clear hrest hM2
                go_wp2
                go_roundg (gk - 1)
                case measure => omega
                case rel => exact ⟨i + 1, _, congrArg Value.string HO.out, by go_num, by omega, by omega, HM2.out, HREST.out, BW.out⟩
          | false =>
            obtain ⟨PP, hPP⟩ : ∃ PP, [119, 114, 105, 116, 101, 32] ++ name ++ [32, 61, 32] = PP := ⟨_, rfl⟩
            have hP : ⟨#[119, 114, 105, 116, 101]⟩ ++ ⟨#[32]⟩ ++ bs name ++ ⟨#[32, 61, 32]⟩ = bs PP := by
              rw [← hPP]
              show bs [119, 114, 105, 116, 101] ++ bs [32] ++ bs name ++ bs [32, 61, 32] = _
              simp only [bs_app, List.cons_append, List.nil_append]
            have hsP : (bs PP).size ≤ 60 := by rw [← hPP, bs_size]; rw [bs_size] at hns; simp only [List.length_append, List.length_cons, List.length_nil]; omega
            have HLINE : Hid (lineP ⟨5, name, xa, xb, rule, N, d, K, false⟩ = (PP ++ textP xa 0 ++ [44, 32] ++ numT N ++ [47] ++ numT K) ++ [59, 10]) := by
              show _ = _
              rw [← hPP]; simp [lineP, stWord]
            clear hPP HFIT
            have x0 := T0.out.cell 0
            have x1 := T0.out.cell 1
            simp only [stCells, List.getElem?_cons_succ, List.getElem?_cons_zero] at x0 x1
            have hlt3 : wr.heap.size < w3.heap.size := T0.out.bx.lt
            have y0 := (grown_cell (j := 0) (grown_alloc w3 (.cells #[.string ⟨#[105, 110, 112, 117, 116]⟩, .string ⟨#[108, 101, 116]⟩, .string ⟨#[99, 104, 101, 99, 107]⟩, .string ⟨#[115, 109, 97, 108, 108]⟩, .string ⟨#[119, 114, 105, 116, 101]⟩] 9) none) hlt3).trans x0
            have y1 := (grown_cell (j := 1) (grown_alloc w3 (.cells #[.string ⟨#[105, 110, 112, 117, 116]⟩, .string ⟨#[108, 101, 116]⟩, .string ⟨#[99, 104, 101, 99, 107]⟩, .string ⟨#[115, 109, 97, 108, 108]⟩, .string ⟨#[119, 114, 105, 116, 101]⟩] 9) none) hlt3).trans x1
            have yw := cell_at w3 [.string ⟨#[105, 110, 112, 117, 116]⟩, .string ⟨#[108, 101, 116]⟩, .string ⟨#[99, 104, 101, 99, 107]⟩, .string ⟨#[115, 109, 97, 108, 108]⟩, .string ⟨#[119, 114, 105, 116, 101]⟩] 9 w3.heap.size rfl 4 _ rfl
            have T1 : Hid (FS wr (w3.alloc (.cells #[.string ⟨#[105, 110, 112, 117, 116]⟩, .string ⟨#[108, 101, 116]⟩, .string ⟨#[99, 104, 101, 99, 107]⟩, .string ⟨#[115, 109, 97, 108, 108]⟩, .string ⟨#[119, 114, 105, 116, 101]⟩] 9)).drew ⟨5, name, xa, xb, rule, N, d, K, false⟩ A B) := T0.out.next (below_still0 (grown_trans (grown_alloc _ _ _) (grown_drew _ 1 none)))
            have z1 : ¬ 9223372036854775807 < 6 + (bs name).size := by omega
            have z2 : ¬ 9223372036854775807 < 6 + (bs name).size + 3 := by omega
            go_wp2_with fail
            go_region
            try rw [hP]
            clear y0 y1 yw x0 x1 z1 z2 hlt3 T0 hP
            generalize (w3.alloc (.cells #[.string ⟨#[105, 110, 112, 117, 116]⟩, .string ⟨#[108, 101, 116]⟩, .string ⟨#[99, 104, 101, 99, 107]⟩, .string ⟨#[115, 109, 97, 108, 108]⟩, .string ⟨#[119, 114, 105, 116, 101]⟩] 9)).drew = w4 at *
            change Exit.then _ _ _ _ w4
            have zz33 : ¬ 9223372036854775807 < (bs PP).size + (bs (textP xa 0)).size := by omega
            have zz34 : ¬ 9223372036854775807 < (bs PP).size + (bs (textP xa 0)).size + 2 := by omega
            have zz35 : ¬ 9223372036854775807 < (bs PP).size + (bs (textP xa 0)).size + 2 + (bs (numT N)).size := by omega
            have zz36 : ¬ 9223372036854775807 < (bs PP).size + (bs (textP xa 0)).size + 2 + (bs (numT N)).size + 1 := by omega
            have zz37 : ¬ 9223372036854775807 < (bs PP).size + (bs (textP xa 0)).size + 2 + (bs (numT N)).size + 1 + (bs (numT K)).size := by omega
            have x0 := T1.out.cell 0
            have x2 := T1.out.cell 2
            have x3 := T1.out.cell 3
            have x4 := T1.out.cell 4
            have x9 := T1.out.cell 9
            have x11 := T1.out.cell 11
            simp only [stCells, List.getElem?_cons_succ, List.getElem?_cons_zero] at x0 x2 x3 x4 x9 x11
            have hltS : wr.heap.size < w4.heap.size := T1.out.bx.lt
            have HD : Hid (w4.grownBy w4.drew none) := grown_drew w4 1 none
            go_wp2_with fail
            go_region_held3 (fun w' => w'.cell? ⟨wr.heap.size, 0, none⟩ = some (.int .i64 5) ∧ w'.cell? ⟨wr.heap.size, 2, none⟩ = some (.int .i64 A.k) ∧ w'.cell? ⟨wr.heap.size, 3, none⟩ = some (.string A.s) ∧ w'.cell? ⟨wr.heap.size, 4, none⟩ = some (.slice A.a A.n A.c) ∧ w'.cell? ⟨wr.heap.size, 9, none⟩ = some (.int .i64 N) ∧ w'.cell? ⟨wr.heap.size, 11, none⟩ = some (.int .i64 K)) (first | exact ⟨x0, x2, x3, x4, x9, x11⟩ | exact ⟨y0, y2, y3, y4, y9, y11⟩ | exact ⟨z0, z2, z3, z4, z9, z11⟩ | exact ⟨t0, t2, t3, t4, t9, t11⟩)
              (first
                | (go_at_call 40; have SB2 := SB; refine (CD.out _ _ (by omega)).mono ?_; rintro e wi ⟨rfl, hg⟩; have SF : Hid (w4.grownBy wi none) := grown_trans SB2.out hg; have t0 := (grown_cell SF.out hltS).trans x0; have t2 := (grown_cell SF.out hltS).trans x2; have t3 := (grown_cell SF.out hltS).trans x3; have t4 := (grown_cell SF.out hltS).trans x4; have t9 := (grown_cell SF.out hltS).trans x9; have t11 := (grown_cell SF.out hltS).trans x11; clear hg)
                | (go_at_call 41; have SB2 := SB; refine (CTA.out _ _ (by exact T1.out.na.still SB2.out)).mono ?_; rintro e wi ⟨rfl, hg⟩; have SF : Hid (w4.grownBy wi none) := grown_trans SB2.out hg; have t0 := (grown_cell SF.out hltS).trans x0; have t2 := (grown_cell SF.out hltS).trans x2; have t3 := (grown_cell SF.out hltS).trans x3; have t4 := (grown_cell SF.out hltS).trans x4; have t9 := (grown_cell SF.out hltS).trans x9; have t11 := (grown_cell SF.out hltS).trans x11; clear hg)
                | (go_at_call 40; have SA2 := SA; refine (CD.out _ _ (by omega)).mono ?_; rintro e wi ⟨rfl, hg⟩; have SB : Hid (w4.grownBy wi none) := grown_trans SA2.out hg; have z0 := (grown_cell SB.out hltS).trans x0; have z2 := (grown_cell SB.out hltS).trans x2; have z3 := (grown_cell SB.out hltS).trans x3; have z4 := (grown_cell SB.out hltS).trans x4; have z9 := (grown_cell SB.out hltS).trans x9; have z11 := (grown_cell SB.out hltS).trans x11; clear hg)
                | (go_at_call 41; have SA2 := SA; refine (CTA.out _ _ (by exact T1.out.na.still SA2.out)).mono ?_; rintro e wi ⟨rfl, hg⟩; have SB : Hid (w4.grownBy wi none) := grown_trans SA2.out hg; have z0 := (grown_cell SB.out hltS).trans x0; have z2 := (grown_cell SB.out hltS).trans x2; have z3 := (grown_cell SB.out hltS).trans x3; have z4 := (grown_cell SB.out hltS).trans x4; have z9 := (grown_cell SB.out hltS).trans x9; have z11 := (grown_cell SB.out hltS).trans x11; clear hg)
                | (go_at_call 40; refine (CD.out _ _ (by omega)).mono ?_; rintro e wi ⟨rfl, hg⟩; have SA : Hid (w4.grownBy wi none) := grown_trans HD.out hg; have y0 := (grown_cell SA.out hltS).trans x0; have y2 := (grown_cell SA.out hltS).trans x2; have y3 := (grown_cell SA.out hltS).trans x3; have y4 := (grown_cell SA.out hltS).trans x4; have y9 := (grown_cell SA.out hltS).trans x9; have y11 := (grown_cell SA.out hltS).trans x11; clear hg)
                | (go_at_call 41; refine (CTA.out _ _ (by exact T1.out.na.still HD.out)).mono ?_; rintro e wi ⟨rfl, hg⟩; have SA : Hid (w4.grownBy wi none) := grown_trans HD.out hg; have y0 := (grown_cell SA.out hltS).trans x0; have y2 := (grown_cell SA.out hltS).trans x2; have y3 := (grown_cell SA.out hltS).trans x3; have y4 := (grown_cell SA.out hltS).trans x4; have y9 := (grown_cell SA.out hltS).trans x9; have y11 := (grown_cell SA.out hltS).trans x11; clear hg))
            all_goals
              have S9 : Hid (FS wr wi ⟨5, name, xa, xb, rule, N, d, K, false⟩ A B) := T1.out.next (below_still0 SF.out)
              try clear x0 x2 x3 x4 x9 x11
              try clear y0 y2 y3 y4 y9 y11
              try clear z0 z2 z3 z4 z9 z11
              try clear t0 t2 t3 t4 t9 t11
              try clear SA2
              try clear SB2
              try clear SB
              try clear SA
              clear SF HD hltS T1
              have x12 := S9.out.cell 12
              simp only [stCells, List.getElem?_cons_succ, List.getElem?_cons_zero] at x12
              have hLine : lineP ⟨5, name, xa, xb, rule, N, d, K, false⟩ = (PP ++ textP xa 0 ++ [44, 32] ++ numT N ++ [47] ++ numT K) ++ [59, 10] := HLINE.out
              have t1 : ¬ 9223372036854775807 < (bs acc).size + ((bs PP).size + (bs (textP xa 0)).size + 2 + (bs (numT N)).size + 1 + (bs (numT K)).size) := by omega
              have t2 : ¬ 9223372036854775807 < (bs acc).size + ((bs PP).size + (bs (textP xa 0)).size + 2 + (bs (numT N)).size + 1 + (bs (numT K)).size) + 2 := by omega
              have hO : bs acc ++ (bs PP ++ bs (textP xa 0) ++ ⟨#[44, 32]⟩ ++ bs (numT N) ++ ⟨#[47]⟩ ++ bs (numT K)) ++ ⟨#[59, 10]⟩ = bs (acc ++ lineP ⟨5, name, xa, xb, rule, N, d, K, false⟩) := by
                rw [hLine]
                show bs acc ++ (bs PP ++ bs (textP xa 0) ++ bs [44, 32] ++ bs (numT N) ++ bs [47] ++ bs (numT K)) ++ bs [59, 10] = _
                simp only [bs_app, List.append_assoc]
              have hM : (acc ++ lineP ⟨5, name, xa, xb, rule, N, d, K, false⟩).length = (bs acc).size + ((bs PP).size + (bs (textP xa 0)).size + 2 + (bs (numT N)).size + 1 + (bs (numT K)).size) + 2 := by
                rw [hLine]; simp only [bs_size, List.length_append, List.length_cons, List.length_nil]; omega
              have BW : Hid (Below w.heap.size w wi) := HBW.out.trans (S9.out.bw.mono HBW.out.size)
              clear hLine HLINE
              obtain ⟨M, hMs⟩ : ∃ M : Nat, (bs acc).size + ((bs PP).size + (bs (textP xa 0)).size + 2 + (bs (numT N)).size + 1 + (bs (numT K)).size) + 2 = M := ⟨_, rfl⟩
              have hMi : ((bs acc).size : Int) + (((bs PP).size : Int) + ((bs (textP xa 0)).size : Int) + 2 + ((bs (numT N)).size : Int) + 1 + ((bs (numT K)).size : Int)) + 2 = (M : Int) := by omega
              have t3 : ¬ 9223372036854775807 < M := by omega
              rw [hMs] at hM
              have HO := Lib.hid hO
              have HMM := Lib.hid hM
              clear hO hM S9 hacc hsA hsP
              try clear hsa
              try clear hns
              try clear hsDN
              try clear hsDK
              by_cases hbg : 65536 < M
              · obtain rfl : R = none := (by have h := HR3.out; rw [HMM.out, if_pos hbg] at h; exact h.symm)
                go_wp2
                go_ret2
                exact ⟨rfl, BW.out⟩
              · have hrest : refP (l.drop (i + 1)) (acc ++ lineP ⟨5, name, xa, xb, rule, N, d, K, false⟩) = R := (by have h := HR3.out; rw [HMM.out, if_neg hbg] at h; exact h)
                have HREST := Lib.hid hrest
                have hM2 : (acc ++ lineP ⟨5, name, xa, xb, rule, N, d, K, false⟩).length ≤ 65536 := (by rw [HMM.out]; omega)
                have HM2 := Lib.hid hM2
                clear hrest hM2
                go_wp2
                go_roundg (gk - 1)
                case measure => omega
                case rel => exact ⟨i + 1, _, congrArg Value.string HO.out, by go_num, by omega, by omega, HM2.out, HREST.out, BW.out⟩
        exact absurd f1 (by omega)
    · have hin : i = n := by omega
      subst hin
      obtain rfl : R = some acc := by
        have h1 := HRP.out
        rw [List.drop_eq_nil_of_le (by rw [HLN.out]; exact Nat.le_refl _), refP] at h1
        exact h1.symm
      have hd1 : decide (i < i) = false := by simp
      have hd2 : decide ((i : Int) < (i : Int)) = false := by simp
      clear HRP
      go_wp2
      go_ret2
      exact ⟨rfl, HBW.out⟩
end Go.Proofs.YtdjklnlkocconaaGreatDoor
