/-
  Statements as an argument: how many names they use; how long their row may be. No walk.
  The law's few: it answers; memory stays. Its known(): true.
  What is known of statements that come in; the law's same, of two equal rows.
-/
import Derived.Test.YtdjklnlkocconaaGreatDoorOpenNamesZ
import Derived.Test.YtdjklnlkocconaaGreatDoorBnPZ
import Derived.Test.YtdjklnlkocconaaGreatDoorBnQZ
import Derived.Test.YtdjklnlkocconaaGreatDoorOpAZ
import Derived.Test.YtdjklnlkocconaaGreatDoorBnTZ
import Derived.Test.YtdjklnlkocconaaGreatDoorDeckLetZ
import Derived.Test.YtdjklnlkocconaaGreatDoorBnUZ
namespace Go.Proofs.YtdjklnlkocconaaGreatDoor
open Go Go.ChangeShapes Go.WideShapes Go.ChangeAt Go.WideMaps Go.WideElems Go.RowKit

theorem usesN_B (n : Nd) (h : NdB n) : ∀ u ∈ usesN n, u.1.length ≤ maxLen := by
  induction h with
  | mk k s l hs _ ih =>
    intro u hu
    rw [usesN_mk] at hu
    rcases List.mem_append.1 hu with hu | hu
    · unfold ownU at hu
      split at hu
      · rw [List.mem_singleton.1 hu]; exact hs
      · split at hu
        · rw [List.mem_singleton.1 hu]; exact hs
        · cases hu
    · have key : ∀ m : List Nd, (∀ z ∈ m, ∀ u ∈ usesN z, u.1.length ≤ maxLen) → ∀ u ∈ usesNs m, u.1.length ≤ maxLen := by
        intro m
        induction m with
        | nil => intro _ u hu; rw [usesNs] at hu; cases hu
        | cons z m ihm =>
          intro hz u hu
          rw [usesNs] at hu
          rcases List.mem_append.1 hu with hu | hu
          · exact hz z (by simp) u hu
          · exact ihm (fun y hy => hz y (by simp [hy])) u hu
      exact key l ih u hu

theorem ownU_len (k : Int) (s : List UInt8) : (ownU k s).length ≤ 1 := by
  unfold ownU
  split
  · simp
  · split <;> simp

theorem bulk_pos {H : Type} (d : DataW H) : 1 ≤ Rows.uptoBulk d := by
  cases d with
  | lit x => cases x <;> simp [Rows.uptoBulk]
  | _ => simp [Rows.uptoBulk]

theorem uses_all {H : Type} : ∀ (l : List Nd) (elems : List (DataW H × List MemPlace)), l.length = elems.length → (∀ (i : Nat) n y, l[i]? = some n → elems[i]? = some y → (usesN n).length ≤ Rows.uptoBulk y.1) → (usesNs l).length ≤ Rows.uptoBulkAll (elems.map (·.1))
  | [], _, _, _ => by rw [usesNs]; simp
  | n :: l, [], h, _ => by simp at h
  | n :: l, y :: ys, h, hh => by
    rw [usesNs, List.length_append, List.map_cons]
    simp only [Rows.uptoBulkAll]
    have h1 := hh 0 n y rfl rfl
    have h2 := uses_all l ys (by simpa using h) (fun i n y h1 h2 => hh (i + 1) n y (by simpa using h1) (by simpa using h2))
    omega

section
variable {H : Type} {enc : TypeId × Value → H} {W : World}

set_option maxRecDepth 100000 in
theorem open_uses (fuel : Nat) : ∀ (n : Nd) (c0 c1 c2 : Value) (x : DataW H × List MemPlace), DataW.trod enc Tryz.prog W 0 (fun _ => true) true fuel 37 [c0, c1, c2] = some x → NdIs Any W n (.agg #[c0, c1, c2]) → (usesN n).length ≤ Rows.uptoBulk x.1 := by
  induction fuel using Nat.strongRecOn with
  | ind fuel ih =>
    intro n c0 c1 c2 x h hn
    obtain ⟨k, s, l⟩ := n
    unfold NdIs at hn
    obtain ⟨a, cap, e, hl, hk⟩ := hn
    cases e
    obtain ⟨xs, n1, rfl, rfl, _, hlen, hf⟩ := DataW.trod_struct Tryz.underlying37 h
    match xs, hlen with
    | [y0, y1, y2], _ =>
      have f0 : DataW.trod enc Tryz.prog W 0 (fun _ => true) true n1 3 ((([.int .i64 k, .string (bs s), .slice a l.length cap] : List Value).drop 0).take (Tryz.prog.cellsOf 3)) = some y0 := hf 0 _ rfl
      rw [cellsInt] at f0
      have f2 : DataW.trod enc Tryz.prog W 0 (fun _ => true) true n1 35 ((([.int .i64 k, .string (bs s), .slice a l.length cap] : List Value).drop 2).take (Tryz.prog.cellsOf 35)) = some y2 := hf 2 _ rfl
      rw [cellsKids] at f2
      have g0 : DataW.trod enc Tryz.prog W 0 (fun _ => true) true n1 3 [.int .i64 k] = some y0 := f0
      have g2 : DataW.trod enc Tryz.prog W 0 (fun _ => true) true n1 35 [.slice a l.length cap] = some y2 := f2
      obtain ⟨k', e0, rfl, _⟩ := DataW.trod_int Tryz.underlying3 g0
      have ho := ownU_len k s
      rw [usesN_mk, List.length_append]
      simp only [List.map_cons, List.map_nil, Rows.uptoBulk, Rows.uptoBulkAll]
      rcases hk with rfl | ⟨g, o, rfl, _, hg, hnds⟩
      · rw [usesNs]
        simp only [List.length_nil]
        omega
      · rcases DataW.trod_slice Tryz.underlying35 g2 with ⟨e2, _⟩ | ⟨a', len, cap', elems, rest, n2, hn2, e2, ey, _, _, _, hel, hat, _, _⟩
        · cases e2
        · cases e2
          rw [cellsNode] at hat
          have hall := uses_all l elems hel.symm (fun i z y hi hy => by
            have hil : i < l.length := (List.getElem?_eq_some_iff.1 hi).1
            have h1 := hat i hil
            rw [hy] at h1
            obtain ⟨csi, h2, h3⟩ := Option.bind_eq_some_iff.1 h1
            rw [add_none] at h2
            obtain ⟨_, h4, h5⟩ := World.cells?_some h2
            obtain ⟨vz, hz1, hz2⟩ := hnds.get i z hi
            obtain ⟨p, q, r, rfl, rfl⟩ := hz1.eq (cs := csi) (fun j hj => by have := h5 j hj; rw [add_none] at this; exact this) h4
            exact ih n2 (by omega) z p q r _ h3 hz2)
          subst ey
          simp only [Rows.uptoBulk]
          omega

set_option maxRecDepth 100000 in
theorem open_uses_st (fuel : Nat) (t : St) (A B : NV) (x : DataW H × List MemPlace) (h : DataW.trod enc Tryz.prog W 0 (fun _ => true) true fuel 39 (stCells t A B) = some x) (ha : NdIs Any W t.a A.val) (hb : NdIs Any W t.b B.val) :
    (usesSt t).length ≤ Rows.uptoBulk x.1 := by
  obtain ⟨xs, n1, rfl, rfl, _, hlen, hf⟩ := DataW.trod_struct Tryz.underlying39 h
  match xs, hlen with
  | [y0, y1, y2, y3, y4, y5, y6, y7, y8], _ =>
    have f2 : DataW.trod enc Tryz.prog W 0 (fun _ => true) true n1 37 (((stCells t A B).drop 2).take (Tryz.prog.cellsOf 37)) = some y2 := hf 2 _ rfl
    rw [cellsNode] at f2
    have f3 : DataW.trod enc Tryz.prog W 0 (fun _ => true) true n1 37 (((stCells t A B).drop 5).take (Tryz.prog.cellsOf 37)) = some y3 := hf 3 _ rfl
    rw [cellsNode] at f3
    have h1 := open_uses n1 t.a _ _ _ _ f2 ha
    have h2 := open_uses n1 t.b _ _ _ _ f3 hb
    rw [usesSt, List.length_append]
    simp only [List.map_cons, List.map_nil, Rows.uptoBulk, Rows.uptoBulkAll]
    omega

set_option maxRecDepth 100000 in
/-- How many names statements that came in use; how long their row is. -/
theorem open_uses_sts {v : Value} {d : DataW H} {p : List MemPlace} {l : List St} (hv : StsIs W v l) (h : DataW.Trod enc Tryz.prog W 0 (fun _ => true) true 22 v d p) : (∀ x ∈ l, (usesSt x).length ≤ Rows.uptoBulk d) ∧ (∀ a n c, v = .slice a n c → n ≤ c ∧ c ≤ maxLen) ∧ l.length ≤ Rows.uptoBulk d := by
  obtain ⟨fuel, hf⟩ := h
  have hv2 := hv
  obtain ⟨_, a0, cap0, rfl, _⟩ := hv2
  have hone : (Value.slice a0 l.length cap0).cells.toList = [.slice a0 l.length cap0] := rfl
  rw [hone] at hf
  rcases DataW.trod_slice Tryz.underlying22 hf with ⟨e2, _⟩ | ⟨a', len, cap', elems, rest, n2, hn2, e2, e3, _, hlc, hcm, hel, hat, _, _⟩
  · have hl : l = [] := by
      have : l.length = 0 := by injection e2 with e2; injection e2
      exact List.eq_nil_of_length_eq_zero this
    subst hl
    refine ⟨fun x hx => (by cases hx), fun a n c e => ?_, Nat.zero_le _⟩
    cases e2
    cases e
    exact ⟨Nat.le_refl _, Nat.zero_le _⟩
  · cases e2
    have hbulk : ∀ m : List (DataW H), m.length ≤ Rows.uptoBulkAll m := by
      intro m
      induction m with
      | nil => exact Nat.zero_le _
      | cons z m ih =>
        have hz : 1 ≤ Rows.uptoBulk z := bulk_pos z
        simp only [Rows.uptoBulkAll, List.length_cons]
        omega
    refine ⟨fun x hx => ?_, fun a n c e => by cases e; exact ⟨hlc, hcm⟩, ?_⟩
    · obtain ⟨i, hi⟩ := List.getElem?_of_mem hx
      have hil : i < l.length := (List.getElem?_eq_some_iff.1 hi).1
      obtain ⟨g, o, cap, e, hg, A, B, h1, h2, h3⟩ := hv.get hi
      cases e
      rw [cellsStmt] at hat
      have k1 := hat i hil
      rw [List.getElem?_eq_getElem (by omega)] at k1
      obtain ⟨csi, k2, k3⟩ := Option.bind_eq_some_iff.1 k1
      rw [add_none] at k2
      obtain ⟨_, k4, k5⟩ := World.cells?_some k2
      have e : csi = stCells x A B := by
        apply List.ext_getElem?
        intro j
        by_cases hj : j < 13
        · have := k5 j hj
          rw [add_none] at this
          rw [← this, h1 j hj]
        · rw [List.getElem?_eq_none (by omega), List.getElem?_eq_none (by rw [stCells_length]; omega)]
      subst e
      have h4 := open_uses_st n2 x A B _ k3 h2 h3
      cases e3
      have h5 : Rows.uptoBulk (elems[i]'(by omega)).1 ≤ Rows.uptoBulkAll (elems.map (·.1)) := bulk_mem (List.mem_map.2 ⟨_, List.getElem_mem _, rfl⟩)
      simp only [Rows.uptoBulk]
      omega
    · cases e3
      have h5 := hbulk (elems.map (·.1))
      rw [List.length_map] at h5
      simp only [Rows.uptoBulk]
      omega
end
end Go.Proofs.YtdjklnlkocconaaGreatDoor

namespace Go.Proofs.YtdjklnlkocconaaGreatDoor
open Go Go.RowKit

theorem few_sum24 (q a b c : Int) (h0 : 0 ≤ q) (h1 : q ≤ 2000) (h2 : 1 ≤ a) (h3 : a ≤ 100) (h4 : 1 ≤ b) (h5 : b ≤ 100) (hc : c = q + a + b) : Value.int .i64 (IntKind.i64.wrap (IntKind.i64.wrap (q + a) + b)) = .int .i64 c := by
  rw [wrap_small (q + a) (by omega) (by omega), wrap_small (q + a + b) (by omega) (by omega), hc]

def FewAt24 (w : World) (n : Nat) (k : Nat) (u z : Value) (wr : World) : Prop := ∃ (i : Nat) (q : Int), u = .int .i64 q ∧ z = .int .i64 i ∧ i ≤ n ∧ n < k + i ∧ 0 ≤ q ∧ q ≤ 2000 ∧ w.grownBy wr none

set_option maxHeartbeats 4000000 in
set_option maxRecDepth 100000 in
theorem few24_any (l : List St) (v : Value) (w : World) (h : StsIs w v l) :
    Calls Tryz.prog 7 #[v] w fun e w' => (∃ b, e = .returned (.bool b)) ∧ w.grownBy w' none := by
  have H := Lib.hid h
  obtain ⟨hn, a, c, rfl, _⟩ := h
  obtain ⟨n, hln⟩ : ∃ n, l.length = n := ⟨_, rfl⟩
  rw [hln] at hn H ⊢
  have HLN := Lib.hid hln
  clear hln
  go_enter Tryz.func7, Tryz.ntmps7
  go_wp2_with fail
  go_loopg [3, 4] (n + 1) (fun k u z wr => Hid (FewAt24 w n k u z wr))
  case atStart => exact ⟨0, 0, rfl, rfl, Nat.zero_le _, by omega, by omega, by omega, grown_refl _ _⟩
  case round =>
    obtain ⟨i, q, rfl, rfl, hi, hk, hq1, hq2, hg⟩ := hrel.out
    have HG := Lib.hid hg
    clear hrel hg
    by_cases hcont : i < n ∧ q < 400
    · obtain ⟨hlt, hqm⟩ := hcont
      have hd1 : decide (i < n) = true := by simp; omega
      have hd2 : decide ((i : Int) < (n : Int)) = true := by simp; omega
      obtain ⟨x, hx⟩ : ∃ x, l[i]? = some x := ⟨l[i]'(by rw [HLN.out]; exact hlt), List.getElem?_eq_getElem _⟩
      obtain ⟨g1, o1, cap1, e1, hl1, A, B, q1, na, nb⟩ := (H.out.still HG.out).get hx
      injection e1 with e1a e1b e1c
      subst e1a e1c
      obtain ⟨kind, name, xa, xb, rule, N, d, K, snap⟩ := x
      have x1 := q1 1 (by decide)
      have x2 := q1 2 (by decide)
      have x3 := q1 3 (by decide)
      have x4 := q1 4 (by decide)
      have x5 := q1 5 (by decide)
      have x6 := q1 6 (by decide)
      have x7 := q1 7 (by decide)
      simp only [stCells, List.getElem?_cons_succ, List.getElem?_cons_zero] at x1 x2 x3 x4 x5 x6 x7
      have NA := Lib.hid na
      have NB := Lib.hid nb
      have HD : Hid (wr.grownBy wr.drew none) := grown_drew wr 1 none
      have HL1 := Lib.hid hl1
      have X := Lib.hid (And.intro x1 (And.intro x2 (And.intro x3 (And.intro x4 (And.intro x5 (And.intro x6 x7))))))
      clear na nb q1 hx e1b
      go_wp2_with fail
      go_region_held3 (fun w' => w'.cell? ⟨g1, o1 + i * 13 + 2, none⟩ = some (.int .i64 A.k) ∧ w'.cell? ⟨g1, o1 + i * 13 + 3, none⟩ = some (.string A.s) ∧ w'.cell? ⟨g1, o1 + i * 13 + 4, none⟩ = some (.slice A.a A.n A.c) ∧ w'.cell? ⟨g1, o1 + i * 13 + 5, none⟩ = some (.int .i64 B.k) ∧ w'.cell? ⟨g1, o1 + i * 13 + 6, none⟩ = some (.string B.s) ∧ w'.cell? ⟨g1, o1 + i * 13 + 7, none⟩ = some (.slice B.a B.n B.c)) (first | exact ⟨x2, x3, x4, x5, x6, x7⟩ | exact ⟨y2, y3, y4, y5, y6, y7⟩ | exact ⟨z2, z3, z4, z5, z6, z7⟩)
        (first
          | (go_at_call 18; have SA2 := SA; (first | refine (size_any xa 100 _ _ (by decide) (by decide) (by exact NA.out.still SA2.out)).mono ?_ | refine (size_any xb 100 _ _ (by decide) (by decide) (by exact NB.out.still SA2.out)).mono ?_); rintro e wi ⟨⟨qb, rfl, hq5, hq6⟩, hg⟩; have SF : Hid (wr.grownBy wi none) := grown_trans SA2.out hg; have z2 := (grown_cell SF.out hl1).trans x2; have z3 := (grown_cell SF.out hl1).trans x3; have z4 := (grown_cell SF.out hl1).trans x4; have z5 := (grown_cell SF.out hl1).trans x5; have z6 := (grown_cell SF.out hl1).trans x6; have z7 := (grown_cell SF.out hl1).trans x7; clear hg)
          | (go_at_call 18; (first | refine (size_any xa 100 _ _ (by decide) (by decide) (by exact NA.out.still HD.out)).mono ?_ | refine (size_any xb 100 _ _ (by decide) (by decide) (by exact NB.out.still HD.out)).mono ?_); rintro e wi ⟨⟨qa, rfl, hq3, hq4⟩, hg⟩; have SA : Hid (wr.grownBy wi none) := grown_trans HD.out hg; have y2 := (grown_cell SA.out hl1).trans x2; have y3 := (grown_cell SA.out hl1).trans x3; have y4 := (grown_cell SA.out hl1).trans x4; have y5 := (grown_cell SA.out hl1).trans x5; have y6 := (grown_cell SA.out hl1).trans x6; have y7 := (grown_cell SA.out hl1).trans x7; clear hg))
      all_goals
        clear x1 x2 x3 x4 x5 x6 x7 HD
        try clear y2 y3 y4 y5 y6 y7 SA SA2
        try clear z2 z3 z4 z5 z6 z7
        have z1 := (grown_cell SF.out HL1.out).trans X.out.1
        have HGF : Hid (w.grownBy wi none) := grown_trans HG.out SF.out
        by_cases hbig : 10000 < (bs name).size
        · go_wp2
          go_ret
          exact ⟨by first | exact .inl rfl | exact .inr rfl | exact ⟨_, rfl⟩, HGF.out⟩
        · go_wp2
          go_roundg (gk - 1)
          case measure => omega
          case rel => exact ⟨i + 1, q + qa + qb, (by first | exact few_sum24 q qa qb _ (by omega) (by omega) (by omega) (by omega) (by omega) (by omega) (by omega) | exact few_sum24 q qb qa _ (by omega) (by omega) (by omega) (by omega) (by omega) (by omega) (by omega)), by go_num, by omega, by omega, by omega, by omega, HGF.out⟩
    · by_cases hlt : i < n
      · have hqm : ¬ q < 400 := by omega
        have hd1 : decide (i < n) = true := by simp; omega
        have hd2 : decide ((i : Int) < (n : Int)) = true := by simp; omega
        by_cases h11 : n ≤ 60
        · go_wp2
          go_ret
          exact ⟨by first | exact .inl rfl | exact .inr rfl | exact ⟨_, rfl⟩, HG.out⟩
        · go_wp2
          go_ret
          exact ⟨by first | exact .inl rfl | exact .inr rfl | exact ⟨_, rfl⟩, HG.out⟩
      · have hd1 : decide (i < n) = false := by simp; omega
        have hd2 : decide ((i : Int) < (n : Int)) = false := by simp; omega
        by_cases h11 : n ≤ 60
        · go_wp2
          go_ret
          exact ⟨by first | exact .inl rfl | exact .inr rfl | exact ⟨_, rfl⟩, HG.out⟩
        · go_wp2
          go_ret
          exact ⟨by first | exact .inl rfl | exact .inr rfl | exact ⟨_, rfl⟩, HG.out⟩

def okL : Except Int (List St) → List St
  | .ok l => l
  | .error _ => []
def kl1 : List St := okL (parseS [105, 110, 112, 117, 116, 32, 97, 32, 61, 32, 49, 47, 48, 59, 32, 108, 101, 116, 32, 98, 32, 61, 32, 97, 32, 111, 114, 32, 98, 111, 120, 101, 115, 32, 99, 59])
def kl2 : List St := okL (parseS [105, 110, 112, 117, 116, 32, 97, 32, 61, 32, 49, 47, 48, 59, 32, 99, 104, 101, 99, 107, 32, 99, 32, 61, 32, 119, 105, 100, 116, 104, 40, 97, 44, 32, 51, 41, 59, 32, 108, 101, 116, 32, 98, 32, 61, 32, 98, 111, 120, 101, 115, 32, 99, 32, 111, 114, 32, 97, 59])
def kl3 : List St := okL (parseS [108, 101, 116, 32, 97, 32, 61, 32, 101, 109, 112, 116, 121, 59, 32, 108, 101, 116, 32, 97, 32, 61, 32, 101, 109, 112, 116, 121, 59])
theorem kp1 : parseS [105, 110, 112, 117, 116, 32, 97, 32, 61, 32, 49, 47, 48, 59, 32, 108, 101, 116, 32, 98, 32, 61, 32, 97, 32, 111, 114, 32, 98, 111, 120, 101, 115, 32, 99, 59] = .ok kl1 := by rfl
theorem kp2 : parseS [105, 110, 112, 117, 116, 32, 97, 32, 61, 32, 49, 47, 48, 59, 32, 99, 104, 101, 99, 107, 32, 99, 32, 61, 32, 119, 105, 100, 116, 104, 40, 97, 44, 32, 51, 41, 59, 32, 108, 101, 116, 32, 98, 32, 61, 32, 98, 111, 120, 101, 115, 32, 99, 32, 111, 114, 32, 97, 59] = .ok kl2 := by rfl
theorem kp3 : parseS [108, 101, 116, 32, 97, 32, 61, 32, 101, 109, 112, 116, 121, 59, 32, 108, 101, 116, 32, 97, 32, 61, 32, 101, 109, 112, 116, 121, 59] = .ok kl3 := by rfl
theorem kf1 : checkF [] kl1 = some 1 := by rfl
theorem kf2 : checkF [] kl2 = none := by rfl
theorem kc1 : checkS kl1 = (1, 22) := by
  rw [checkS, printS_of_parse kp1 (by decide), kf1]
  rfl
theorem kc2 : checkS kl2 = (-1, 0) := checkS_of (printS_of_parse kp2 (by decide)) kf2
theorem kc3 : checkS kl3 = (1, 22) := by rfl
theorem kd2 : needsS kl2 2 = [0, 1] := by rfl
theorem kn2 : needsV kl2 2 = [0, 1] := (needsV_of (i0 := 2) (by rw [kc2]) (by decide)).trans kd2
theorem klen1 : kl1.length = 2 := by rfl
theorem klen2 : kl2.length = 3 := by rfl
theorem klen3 : kl3.length = 2 := by rfl
def shortB (l : List St) : Bool := l.all fun x => decide (x.name.length ≤ 9) && (decide ((usesSt x).length ≤ 9) && (usesSt x).all fun u => decide (u.1.length ≤ 9))
theorem ks1 : shortB kl1 = true := by rfl
theorem ks2 : shortB kl2 = true := by rfl
theorem ks3 : shortB kl3 = true := by rfl
theorem short_of {l : List St} (h : shortB l = true) : (∀ x ∈ l, x.name.length ≤ maxLen ∧ ∀ u ∈ usesSt x, u.1.length ≤ maxLen) ∧ ∀ x ∈ l, (usesSt x).length ≤ 4000000 := by
  unfold shortB at h
  rw [List.all_eq_true] at h
  have h9 : 9 ≤ maxLen := by decide
  refine ⟨fun x hx => ?_, fun x hx => ?_⟩
  · have := h x hx
    rw [Bool.and_eq_true, Bool.and_eq_true, decide_eq_true_eq, decide_eq_true_eq, List.all_eq_true] at this
    exact ⟨Nat.le_trans this.1 h9, fun u hu => Nat.le_trans (of_decide_eq_true (this.2.2 u hu)) h9⟩
  · have := h x hx
    rw [Bool.and_eq_true, Bool.and_eq_true, decide_eq_true_eq, decide_eq_true_eq, List.all_eq_true] at this
    omega

/-- bind.Check and Needs of a deck that was parsed. -/
theorem check_parsed {s : List UInt8} {l : List St} (hp : parseS s = .ok l) (hs : shortB l = true) {i k : Int} (hc : checkS l = (i, k)) (v : Value) (w : World) (h : StsIs w v l) (hg : Good w) :
    Calls Tryz.prog 9 #[v] w fun e w' => e = .returned (.tuple #[.int .i64 i, .int .i64 k]) ∧ Below w.heap.size w w' := by
  have := bcheck_any l v w (prints_parsed hp) (short_of hs).1 (short_of hs).2 h hg
  rw [hc] at this
  exact this
theorem needs_parsed {s : List UInt8} {l : List St} (hp : parseS s = .ok l) (hs : shortB l = true) {i : Int} {R : List Nat} (hc : needsV l i = R) (v : Value) (w : World) (h : StsIs w v l) (hg : Good w) :
    Calls Tryz.prog 12 #[v, .int .i64 i] w (RowE w R) := by
  have := needs_any l v i w (prints_parsed hp) (short_of hs).1 (short_of hs).2 h hg
  rw [hc] at this
  exact this

set_option maxHeartbeats 4000000 in
set_option maxRecDepth 100000 in
theorem known24_any (w : World) (hg : Good w) :
    Calls Tryz.prog 8 #[] w fun e w' => e = .returned (.bool true) ∧ Below w.heap.size w w' := by
  have G0 := Lib.hid hg
  clear hg
  go_enter Tryz.func8, Tryz.ntmps8
  go_wp2_with fail
  refine (parse_is [105, 110, 112, 117, 116, 32, 97, 32, 61, 32, 49, 47, 48, 59, 32, 108, 101, 116, 32, 98, 32, 61, 32, 97, 32, 111, 114, 32, 98, 111, 120, 101, 115, 32, 99, 59] (.ok kl1) _ w ⟨rfl, by decide⟩ kp1 G0.out).mono ?_
  rintro e w1 ⟨hE, hb1⟩
  obtain ⟨v1, cs1, rfl, hown1, hr1⟩ := hE
  have H1 := Lib.hid (stsIs_of_owns hown1 hr1)
  obtain ⟨a1, c1, rfl⟩ := owns_shape hown1
  have G1 : Hid (Good w1) := G0.out.at hb1
  have B1 := Lib.hid hb1
  rw [klen1] at H1 ⊢
  clear hb1 hown1 hr1 G0
  go_wp2_with fail
  refine (parse_is [105, 110, 112, 117, 116, 32, 97, 32, 61, 32, 49, 47, 48, 59, 32, 99, 104, 101, 99, 107, 32, 99, 32, 61, 32, 119, 105, 100, 116, 104, 40, 97, 44, 32, 51, 41, 59, 32, 108, 101, 116, 32, 98, 32, 61, 32, 98, 111, 120, 101, 115, 32, 99, 32, 111, 114, 32, 97, 59] (.ok kl2) _ w1 ⟨rfl, by decide⟩ kp2 G1.out).mono ?_
  rintro e w2 ⟨hE, hb2⟩
  obtain ⟨v2, cs2, rfl, hown2, hr2⟩ := hE
  have H2 := Lib.hid (stsIs_of_owns hown2 hr2)
  obtain ⟨a2, c2, rfl⟩ := owns_shape hown2
  have G2 : Hid (Good w2) := G1.out.at hb2
  have B2 : Hid (Below w.heap.size w w2) := B1.out.trans (hb2.mono B1.out.size)
  have H12 : Hid (StsIs w2 (.slice a1 2 c1) kl1) := sts_below H1.out hb2
  rw [klen2] at H2 ⊢
  clear hb2 hown2 hr2 G1 B1 H1
  go_wp2_with fail
  refine (parse_is [108, 101, 116, 32, 97, 32, 61, 32, 101, 109, 112, 116, 121, 59, 32, 108, 101, 116, 32, 97, 32, 61, 32, 101, 109, 112, 116, 121, 59] (.ok kl3) _ w2 ⟨rfl, by decide⟩ kp3 G2.out).mono ?_
  rintro e w3 ⟨hE, hb3⟩
  obtain ⟨v3, cs3, rfl, hown3, hr3⟩ := hE
  have H3 := Lib.hid (stsIs_of_owns hown3 hr3)
  obtain ⟨a3, c3, rfl⟩ := owns_shape hown3
  have G3 : Hid (Good w3) := G2.out.at hb3
  have B3 : Hid (Below w.heap.size w w3) := B2.out.trans (hb3.mono B2.out.size)
  have H13 : Hid (StsIs w3 (.slice a1 2 c1) kl1) := sts_below H12.out hb3
  have H23 : Hid (StsIs w3 (.slice a2 3 c2) kl2) := sts_below H2.out hb3
  rw [klen3] at H3 ⊢
  clear hb3 hown3 hr3 G2 B2 H12 H2
  go_wp2_with fail
  refine (check_parsed kp1 ks1 kc1 _ w3 H13.out G3.out).mono ?_
  rintro e w4 ⟨rfl, hb4⟩
  have G4 : Hid (Good w4) := G3.out.at hb4
  have B4 : Hid (Below w.heap.size w w4) := B3.out.trans (hb4.mono B3.out.size)
  have H24 : Hid (StsIs w4 (.slice a2 3 c2) kl2) := sts_below H23.out hb4
  have H34 : Hid (StsIs w4 (.slice a3 2 c3) kl3) := sts_below H3.out hb4
  clear hb4 G3 B3 H13 H23 H3
  go_wp2_with fail
  refine (check_parsed kp2 ks2 kc2 _ w4 H24.out G4.out).mono ?_
  rintro e w5 ⟨rfl, hb5⟩
  have G5 : Hid (Good w5) := G4.out.at hb5
  have B5 : Hid (Below w.heap.size w w5) := B4.out.trans (hb5.mono B4.out.size)
  have H25 : Hid (StsIs w5 (.slice a2 3 c2) kl2) := sts_below H24.out hb5
  have H35 : Hid (StsIs w5 (.slice a3 2 c3) kl3) := sts_below H34.out hb5
  clear hb5 G4 B4 H24 H34
  go_wp2_with fail
  refine (check_parsed kp3 ks3 kc3 _ w5 H35.out G5.out).mono ?_
  rintro e w6 ⟨rfl, hb6⟩
  have G6 : Hid (Good w6) := G5.out.at hb6
  have B6 : Hid (Below w.heap.size w w6) := B5.out.trans (hb6.mono B5.out.size)
  have H26 : Hid (StsIs w6 (.slice a2 3 c2) kl2) := sts_below H25.out hb6
  clear hb6 G5 B5 H25 H35
  go_wp2_with fail
  refine (needs_parsed kp2 ks2 kn2 _ w6 H26.out G6.out).mono ?_
  rintro e w7 ⟨v7, rfl, hrow, hb7⟩
  obtain ⟨g7, c7, rfl, _, _, _, hcell⟩ := owns_slice hrow (by decide)
  have B7 : Hid (Below w.heap.size w w7) := B6.out.trans (hb7.mono B6.out.size)
  have z0 : w7.cell? ⟨g7, 0, none⟩ = some (.int .i64 0) := hcell 0 _ rfl
  have z1 : w7.cell? ⟨g7, 1, none⟩ = some (.int .i64 1) := hcell 1 _ rfl
  have hl2 : ([0, 1] : List Nat).length = 2 := rfl
  rw [hl2]
  clear hb7 hcell hrow hl2 G6 B6 H26
  go_wp2
  go_ret
  exact ⟨rfl, B7.out⟩
end Go.Proofs.YtdjklnlkocconaaGreatDoor

namespace Go.Proofs.YtdjklnlkocconaaGreatDoor
section
open Go Go.RowKit

structure BindOk (l : List St) (v : Value) : Prop where
  prints : Prints l
  names : ∀ x ∈ l, x.name.length ≤ maxLen ∧ ∀ u ∈ usesSt x, u.1.length ≤ maxLen
  uses : ∀ x ∈ l, (usesSt x).length ≤ 4000000
  nb : ∀ x ∈ l, x.name.length ≤ maxLen ∧ NdB x.a ∧ NdB x.b
  size : ∀ x ∈ l, (lineP x).length ≤ 100000000
  cap : ∀ a n c, v = .slice a n c → n ≤ c ∧ c ≤ maxLen
  len : l.length ≤ 1048576

theorem BindOk.check {l : List St} {v : Value} (h : BindOk l v) {w : World} (hs : StsIs w v l) (hg : Good w) : Calls Tryz.prog 9 #[v] w fun e w' => e = .returned (.tuple #[.int .i64 (checkS l).1, .int .i64 (checkS l).2]) ∧ Below w.heap.size w w' := bcheck_any l v w h.prints h.names h.uses hs hg
theorem BindOk.needs {l : List St} {v : Value} (h : BindOk l v) (i : Int) {w : World} (hs : StsIs w v l) (hg : Good w) : Calls Tryz.prog 12 #[v, .int .i64 i] w (RowE w (needsV l i)) := needs_any l v i w h.prints h.names h.uses hs hg
def SmAt (w : World) (n k : Nat) (u : Value) (wr : World) : Prop := ∃ i : Nat, u = .int .i64 i ∧ i ≤ n ∧ n < k + i ∧ w.grownBy wr none

theorem intL_get {l : List Nat} {j x : Nat} (h : l[j]? = some x) : (intL l)[j]? = some (.int .i64 (x : Int)) := by simp [intL, h]

theorem needsV_len (l : List St) (i : Int) : (needsV l i).length ≤ l.length := by
  unfold needsV
  split
  · have := List.length_filter_le (fun j => (backS (outS l) i.toNat).contains j) (List.range l.length)
    rw [List.length_range] at this
    exact this
  · exact Nat.zero_le _
end

section
open Go Go.ChangeShapes Go.WideShapes Go.ChangeAt Go.WideMaps Go.WideElems Go.RowKit

set_option maxRecDepth 100000 in
theorem open_bind {H : Type} {enc : TypeId × Value → H} {W : World} {v : Value} {d : DataW H} {p : List MemPlace} {r : Reach} {b0 : Nat} (hv : Value.okWide Tryz.prog W r b0 22 v) (h : DataW.Trod enc Tryz.prog W 0 (fun _ => true) true 22 v d p) (hk : Rows.uptoBulk d ≤ 1048576) :
    ∃ l : List St, StsIs W v l ∧ BindOk l v := by
  obtain ⟨l, hl, hb⟩ := open_sts hv h
  have hn := open_names_sts hl h
  obtain ⟨hu, hc, hlen⟩ := open_uses_sts hl h
  refine ⟨l, hl, prints_of hb hk, fun x hx => ⟨(hn x hx).1, fun u hu2 => ?_⟩, fun x hx => by have := hu x hx; omega, hn, fun x hx => by have := (hb x hx).2; omega, hc, by omega⟩
  rcases List.mem_append.1 hu2 with h1 | h1
  · exact usesN_B _ (hn x hx).2.1 u h1
  · exact usesN_B _ (hn x hx).2.2 u h1
end
end Go.Proofs.YtdjklnlkocconaaGreatDoor
