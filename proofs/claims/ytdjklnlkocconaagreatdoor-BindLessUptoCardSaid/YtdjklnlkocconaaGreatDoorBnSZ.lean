/-
  bind.Check: whether a deck is bound, or where it is not.
  bind.Uses: the names that a statement uses, each once: a new row.
  The reference's Uses: the names that a statement uses, each once: a new row.
-/
import Derived.Test.YtdjklnlkocconaaGreatDoorBnQZ
import Derived.Test.YtdjklnlkocconaaGreatDoorBnRZ
import Derived.Test.YtdjklnlkocconaaGreatDoorRightZ
import Derived.Test.YtdjklnlkocconaaGreatDoorOpAZ
import Derived.Test.YtdjklnlkocconaaGreatDoorPaAZ
import Derived.Maps.OwnOps
import Derived.Maps.Views
import Derived.Deep.RegionHeld3
import Derived.Deep.AppendLies
namespace Go.Proofs.YtdjklnlkocconaaGreatDoor
open Go Go.RowKit Go.Maps

/-- The map of names' types, behind the statements pre. -/
def TypesAt (w : World) (b n : Nat) (pre : List St) : Prop := ∃ D : DataW Unit, w.ownsMap Tryz.prog 9 (plainElem Tryz.prog 3) b n D ∧ IsMap D ∧ ∀ s : List UInt8, D.atKey (.string s) (.lit (.int .i64 0)) = .lit (.int .i64 (typeIn pre s))

theorem TypesAt.still {w w' : World} {b n : Nat} {pre : List St} (h : TypesAt w b n pre) (hg : w.grownBy w' none) : TypesAt w' b n pre := by
  obtain ⟨D, h1, h2, h3⟩ := h
  exact ⟨D, h1.kept hg (by simp), h2, h3⟩
theorem TypesAt.lt {w : World} {b n : Nat} {pre : List St} (h : TypesAt w b n pre) : b < w.heap.size := by
  obtain ⟨D, h1, _⟩ := h
  exact h1.lt
theorem TypesAt.new (w : World) : TypesAt (w.alloc (.map #[] 0)) w.heap.size 0 [] := ⟨.map [], World.ownsMap_made _ _ _ _, isMap_empty, fun _ => rfl⟩

theorem keyStr (s : List UInt8) (hs : s.length ≤ maxLen) : keyOf Tryz.prog 9 (.string (bs s)) = some (.string s) := by
  have h : (bs s).size ≤ maxLen := by rw [bs_size]; exact hs
  have e : (bs s).data.toList = s := rfl
  rw [Go.WideMaps.keyOf_string_mk Tryz.underlying9 h, e]

theorem zeroInt (w : World) : (zeroValue 3).run Tryz.prog w = .ok (.int .i64 0) w := by kernel_rfl

/-- What the check says from a place on. -/
def checkR (R : Option Nat) : Int × Int := match R with | none => (-1, 0) | some i => (i, 22)

theorem giveV_range (k : Int) : 0 ≤ giveV k ∧ giveV k ≤ 3 := by
  unfold giveV
  split
  · decide
  · split
    · decide
    · split <;> decide
theorem wfInt {n : Int} (h0 : 0 ≤ n) (h1 : n ≤ 3) : (Lit.int .i64 n).wf = true := by
  have : n = 0 ∨ n = 1 ∨ n = 2 ∨ n = 3 := by omega
  rcases this with rfl | rfl | rfl | rfl <;> decide

theorem TypesAt.put {w' : World} {b n : Nat} {pre : List St} {D : DataW Unit} (x : St) (hm : IsMap D) (hD : ∀ s : List UInt8, D.atKey (.string s) (.lit (.int .i64 0)) = .lit (.int .i64 (typeIn pre s)))
    (hk : KindsOk pre) (hx : typeIn pre x.name = 0) (h : w'.ownsMap Tryz.prog 9 (plainElem Tryz.prog 3) b (n + 1) (D.put (.string x.name) (.lit (.int .i64 (giveV x.kind))))) : TypesAt w' b (n + 1) (pre ++ [x]) := by
  refine ⟨_, h, hm.put _ _, fun s => ?_⟩
  rw [typeIn_snoc hk hx s]
  by_cases e : x.name = s
  · subst e
    rw [if_pos rfl]
    exact atKey_put_same hm (by trivial) _ _
  · rw [if_neg e, atKey_put_other (fun h => e (by injection h with h; exact h.symm))]
    exact hD s

def UsAt (w : World) (us : List Use) (pre : List St) (m k : Nat) (u : Value) (wr : World) : Prop := ∃ j : Nat, u = .int .i64 j ∧ j ≤ m ∧ m < k + j ∧ w.grownBy wr none ∧ ∀ x ∈ us.take j, typeIn pre x.1 = x.2

theorem useCells_get {us : List Use} {j : Nat} {u : Use} (h : us[j]? = some u) : (useCells us)[j * 2]? = some (.string (bs u.1)) ∧ (useCells us)[j * 2 + 1]? = some (.int .i64 u.2) := by
  induction us generalizing j with
  | nil => simp at h
  | cons y us ih =>
    have e : useCells (y :: us) = .string (bs y.1) :: .int .i64 y.2 :: useCells us := rfl
    rw [e]
    cases j with
    | zero =>
      obtain rfl : y = u := by simpa using h
      exact ⟨rfl, rfl⟩
    | succ j =>
      obtain ⟨h1, h2⟩ := ih (by simpa using h)
      rw [show (j + 1) * 2 = j * 2 + 1 + 1 by omega]
      exact ⟨by simpa using h1, by simpa using h2⟩

theorem kinds_fit (x : St) (h : fitB x = true) : 1 ≤ x.kind ∧ x.kind ≤ 5 := by
  unfold fitB at h
  by_cases h1 : x.kind = 1
  · omega
  · by_cases h2 : x.kind = 2
    · omega
    · by_cases h3 : x.kind = 3
      · omega
      · by_cases h4 : x.kind = 4
        · omega
        · by_cases h5 : x.kind = 5
          · omega
          · simp [h1, h2, h3, h4, h5] at h

theorem bad_use {pre : List St} {x : St} {us : List Use} {u : Use} (hu : u ∈ us) (hx : usesSt x = us) (h : typeIn pre u.1 ≠ u.2) : badAt pre x = true := by
  rw [badAt, Bool.or_eq_true, List.any_eq_true]
  exact .inl ⟨u, by rw [hx]; exact hu, by simpa using h⟩
theorem bad_name {pre : List St} {x : St} (h : typeIn pre x.name ≠ 0) : badAt pre x = true := by
  rw [badAt, Bool.or_eq_true]
  exact .inr (by simpa using h)
theorem good_st {pre : List St} {x : St} {us : List Use} (hall : ∀ u ∈ us, typeIn pre u.1 = u.2) (hx : usesSt x = us) (h : typeIn pre x.name = 0) : ¬ badAt pre x = true := by
  have : badAt pre x = false := badAt_false.2 ⟨fun u hu => hall u (by rw [← hx]; exact hu), h⟩
  simp [this]

def CkAt (w : World) (l : List St) (R : Option Nat) (b n k : Nat) (u : Value) (wr : World) : Prop := ∃ i : Nat, u = .int .i64 i ∧ i ≤ n ∧ n < k + i ∧ Below w.heap.size w wr ∧ w.heap.size ≤ b ∧ TypesAt wr b i (l.take i) ∧ checkF (l.take i) (l.drop i) = R

theorem usesSt_len (x : St) : (usesSt x).length = (usesN x.a).length + (usesN x.b).length := by rw [usesSt, List.length_append]

set_option maxHeartbeats 8000000 in
set_option maxRecDepth 100000 in
theorem bcheck_any (l : List St) (v : Value) (w : World) (hp : Prints l) (hnl : ∀ x ∈ l, x.name.length ≤ maxLen ∧ ∀ u ∈ usesSt x, u.1.length ≤ maxLen) (hus : ∀ x ∈ l, (usesSt x).length ≤ 4000000) (h : StsIs w v l) (hgd : Good w) :
    Calls Tryz.prog 9 #[v] w fun e w' => e = .returned (.tuple #[.int .i64 (checkS l).1, .int .i64 (checkS l).2]) ∧ Below w.heap.size w w' := by
  have H := Lib.hid h
  have HR := Lib.hid (right_at l v w hp h hgd)
  have HNL := Lib.hid hnl
  have HUS := Lib.hid hus
  obtain ⟨hn, a, c, rfl, _⟩ := h
  obtain ⟨n, hln⟩ : ∃ n, l.length = n := ⟨_, rfl⟩
  rw [hln] at hn H HR ⊢
  have HLN := Lib.hid hln
  have HNM : Hid (l.length ≤ maxLen) := by have := hn; show _ ≤ _; unfold maxLen; omega
  clear hp hnl hus hln hgd
  cases hP : printS l with
  | none =>
    have e : checkS l = (-1, 3) := by rw [checkS, hP]; rfl
    rw [e]
    rw [hP] at HR
    clear e hP
    go_enter Tryz.func9, Tryz.ntmps9
    go_wp2_with fail
    refine HR.out.mono ?_
    rintro e w1 ⟨he, hb1⟩
    have he2 : e = .returned (.bool false) := he
    subst he2
    clear he HR
    go_wp2
    go_ret2
    exact ⟨rfl, hb1⟩
  | some t =>
    have HK : Hid (KindsOk l) := fun x hx => kinds_fit x (((printS_iff l t).1 hP).1 x hx)
    obtain ⟨R, hR⟩ : ∃ R, checkF [] l = R := ⟨_, rfl⟩
    have e : checkS l = checkR R := by rw [checkS, hP, hR]; rfl
    rw [e]
    rw [hP] at HR
    have HF := Lib.hid hR
    clear e hP hR
    have hmm := @run_makeMap Tryz.prog
    go_enter Tryz.func9, Tryz.ntmps9
    go_wp2_with fail
    refine HR.out.mono ?_
    rintro e w1 ⟨he, hb1⟩
    have he2 : e = .returned (.bool true) := he
    subst he2
    have B1 := Lib.hid hb1
    clear he HR hb1
    go_wp2_with fail
    have HA0 : Hid (CkAt w l R w1.heap.size n (n + 1) (.int .i64 0) (w1.alloc (.map #[] 0))) := ⟨0, rfl, Nat.zero_le _, by omega, B1.out.alloc B1.out.size _, B1.out.size, TypesAt.new _, HF.out⟩
    have hbb := B1.out.size
    generalize w1.heap.size = b at *
    generalize (w1.alloc (.map #[] 0)) = w2 at *
    clear HF B1 hmm
    go_loopg [15] (n + 1) (fun k u wr => Hid (CkAt w l R b n k u wr))
    case atStart => exact HA0
    case round =>
      obtain ⟨i, rfl, hi, hk, hb, hbw, hty, hr⟩ := hrel.out
      obtain ⟨gO, hgO⟩ : ∃ q, q = gk := ⟨_, rfl⟩
      subst hgO
      have HB := Lib.hid hb
      have HT := Lib.hid hty
      have HF := Lib.hid hr
      clear hrel hb hty hr HA0
      by_cases hlt : i < n
      · obtain ⟨x, hx⟩ : ∃ x, l[i]? = some x := ⟨l[i]'(by rw [HLN.out]; exact hlt), List.getElem?_eq_getElem _⟩
        have HX := Lib.hid hx
        obtain ⟨g1, o1, cap1, e1, hl1, A, B, q1, na, nb⟩ := (sts_below H.out HB.out).get hx
        injection e1 with e1a e1b e1c
        subst e1a e1c
        clear e1b
        obtain ⟨kind, name, xa, xb, rule, N, d, K, snap⟩ := x
        have x0 := q1 0 (by decide)
        have x1 := q1 1 (by decide)
        have x2 := q1 2 (by decide)
        have x3 := q1 3 (by decide)
        have x4 := q1 4 (by decide)
        have x5 := q1 5 (by decide)
        have x6 := q1 6 (by decide)
        have x7 := q1 7 (by decide)
        have x8 := q1 8 (by decide)
        have x9 := q1 9 (by decide)
        have x10 := q1 10 (by decide)
        have x11 := q1 11 (by decide)
        have x12 := q1 12 (by decide)
        simp only [stCells, List.getElem?_cons_succ, List.getElem?_cons_zero, Nat.add_zero] at x0 x1 x2 x3 x4 x5 x6 x7 x8 x9 x10 x11 x12
        have NA := Lib.hid na
        have NB := Lib.hid nb
        have HUL : Hid ((usesN xa).length + (usesN xb).length ≤ 4000000) := by have h := HUS.out _ (List.mem_of_getElem? hx); rw [usesSt_len] at h; exact h
        have hd2 : decide (i < n) = true := by simp; omega
        have hd3 : decide ((i : Int) < (n : Int)) = true := by simp; omega
        clear q1 hx na nb
        go_wp2_with fail
        have HA : Hid (wr.grownBy (wr.alloc (.cells #[.int .i64 kind, .string (bs name), .int .i64 A.k, .string A.s, .slice A.a A.n A.c, .int .i64 B.k, .string B.s, .slice B.a B.n B.c, .int .i64 rule, .int .i64 N, .int .i64 d, .int .i64 K, .bool snap] 39)) none) := grown_alloc _ _ _
        refine (uses_any kind name xa xb rule N d K snap A B _ (NA.out.still HA.out) (NB.out.still HA.out) HUL.out).mono ?_
        rintro e w3 ⟨ua, uc, rfl, hown, hb3⟩
        obtain ⟨us, hus⟩ : ∃ us, usesN xa ++ usesN xb = us := ⟨_, rfl⟩
        have HUX : Hid (usesSt ⟨kind, name, xa, xb, rule, N, d, K, snap⟩ = us) := hus
        rw [hus] at hown ⊢
        obtain ⟨m, hm⟩ : ∃ m, us.length = m := ⟨_, rfl⟩
        have HUM : Hid (us.length = m ∧ m ≤ 4000000) := ⟨hm, by have h := HUL.out; have h2 := congrArg List.length hus; rw [List.length_append] at h2; omega⟩
        have hm4 := HUM.out.2
        rw [hm] at hown ⊢
        have HUO := Lib.hid hown
        have HBX : Hid (Blk13 w3 wr.heap.size ⟨kind, name, xa, xb, rule, N, d, K, snap⟩ A B) := (Blk13.new wr ⟨kind, name, xa, xb, rule, N, d, K, snap⟩ A B).below hb3 (by simp)
        have HG3 : Hid (wr.grownBy w3 none) := grown_trans HA.out (grown_of_below hb3 none)
        have HT3 := Lib.hid (HT.out.still HG3.out)
        have HB3 : Hid (Below w.heap.size w w3) := HB.out.grown HG3.out HB.out.size (fun _ e => by cases e)
        have hbx : wr.heap.size < w3.heap.size := HBX.out.lt
        have HNB : Hid (¬ b = wr.heap.size) := by have h := HT.out.lt; show ¬ _; omega
        generalize wr.heap.size = bx at *
        clear hus hm hown hb3 HA NA NB HUL HT HB HG3 x0 x1 x2 x3 x4 x5 x6 x7 x8 x9 x10 x11 x12
        go_wp2_with fail
        go_loopg [23] (m + 1) (fun k u wr2 => Hid (UsAt w3 us (l.take i) m k u wr2))
        case atStart => exact ⟨0, rfl, Nat.zero_le _, by omega, grown_refl _ _, fun _ h => by cases h⟩
        case round =>
          obtain ⟨j, rfl, hj, hkj, hg2, hall⟩ := hrel.out
          have HG2 := Lib.hid hg2
          have HALL := Lib.hid hall
          clear hrel hg2 hall
          by_cases hjm : j < m
          · obtain ⟨u, hu⟩ : ∃ u, us[j]? = some u := ⟨us[j]'(by rw [HUM.out.1]; exact hjm), List.getElem?_eq_getElem _⟩
            have HUU := Lib.hid hu
            obtain ⟨gu, capu, hv, _, hgl, _, hc⟩ := owns_slice HUO.out (by omega)
            cases hv
            obtain ⟨c0, c1⟩ := useCells_get hu
            have y0 := (World.cell?_of_block (a := ⟨gu, j * 2, none⟩) (HG2.out.block gu hgl (by simp))).trans (hc _ _ c0)
            have y1 := (World.cell?_of_block (a := ⟨gu, j * 2 + 1, none⟩) (HG2.out.block gu hgl (by simp))).trans (hc _ _ c1)
            obtain ⟨D, hD1, hD2, hD3⟩ := HT3.out.still (grown_trans HG2.out (grown_alloc wr (.cells #[.string (bs u.1), .int .i64 u.2] 51) none))
            have HD1 := Lib.hid hD1
            have HD3 := Lib.hid (hD3 u.1)
            have hkey := keyStr u.1 ((HNL.out _ (List.mem_of_getElem? HX.out)).2 u (by rw [HUX.out]; exact List.mem_of_getElem? hu))
            have hd4 : decide (j < m) = true := by simp; omega
            have hd5 : decide ((j : Int) < (m : Int)) = true := by simp; omega
            obtain ⟨bad, hbad⟩ : ∃ bad, (typeIn (l.take i) u.1 != u.2) = bad := ⟨_, rfl⟩
            have HBAD := Lib.hid hbad
            clear hu c0 c1 hc hD1 hD2 hD3 hbad
            obtain ⟨TY, hTY⟩ : ∃ TY, typeIn (l.take i) u.1 = TY := ⟨_, rfl⟩
            have HTY := Lib.hid hTY
            rw [hTY] at HD3 HBAD
            clear hTY
            cases bad with
            | true =>
              have HRS : Hid (R = some i) := by
                show _ = _
                rw [← HF.out, drop_at HX.out, checkF, if_pos (bad_use (List.mem_of_getElem? HUU.out) HUX.out (by have h := HBAD.out; rw [HTY.out]; simpa using h)), List.length_take, Nat.min_eq_left (by rw [HLN.out]; omega)]
              go_wp2_with (at_lookup; refine wpList_lookup_own_int _ rfl _ _ 47 rfl 9 3 .i64 (string_keyed Tryz.underlying9) Tryz.underlying47 Tryz.underlying3 (zeroInt _) b i D rfl HD1.out _ _ rfl hkey ?_; intro cc hat _; obtain rfl : TY = cc := (by have h := hat.symm.trans HD3.out; injection h with h; injection h with h1 h2; exact h2.symm); clear hat; have hbb2 := HBAD.out)
              go_ret2
              refine ⟨?_, HB3.out.grown (row := none) (grown_trans HG2.out (grown_alloc _ _ _)) HB3.out.size (fun _ e => by cases e)⟩
              rw [HRS.out]
              rfl
            | false =>
              have HAL2 : Hid (∀ x ∈ us.take (j + 1), typeIn (l.take i) x.1 = x.2) := by
                show ∀ x ∈ _, _
                intro x hx
                rw [List.take_add_one, HUU.out] at hx
                rcases List.mem_append.1 hx with hx | hx
                · exact HALL.out x hx
                · obtain rfl : x = u := by simpa using hx
                  have h := HBAD.out
                  rw [HTY.out]
                  simpa using h
              go_wp2_with (at_lookup; refine wpList_lookup_own_int _ rfl _ _ 47 rfl 9 3 .i64 (string_keyed Tryz.underlying9) Tryz.underlying47 Tryz.underlying3 (zeroInt _) b i D rfl HD1.out _ _ rfl hkey ?_; intro cc hat _; obtain rfl : TY = cc := (by have h := hat.symm.trans HD3.out; injection h with h; injection h with h1 h2; exact h2.symm); clear hat; have hbb2 := HBAD.out)
              go_roundg (gk - 1)
              case measure => omega
              case rel => exact ⟨j + 1, by go_num, by omega, by omega, grown_trans HG2.out (grown_alloc _ _ _), HAL2.out⟩
          · have hjm2 : j = m := by omega
            have HAL2 : Hid (∀ x ∈ us, typeIn (l.take i) x.1 = x.2) := by
              have h := HALL.out
              rw [hjm2, List.take_of_length_le (by rw [HUM.out.1]; omega)] at h
              exact h
            have HBX4 := Lib.hid (HBX.out.still HG2.out)
            obtain ⟨D, hD1, hD2, hD3⟩ := HT3.out.still HG2.out
            have HD1 := Lib.hid hD1
            have HD2 := Lib.hid hD2
            have HDA := Lib.hid hD3
            have HD3 := Lib.hid (hD3 name)
            have HB4 : Hid (Below w.heap.size w wr) := HB3.out.grown HG2.out HB3.out.size (fun _ e => by cases e)
            have hkey := keyStr name (HNL.out _ (List.mem_of_getElem? HX.out)).1
            have hd4 : decide (j < m) = false := by simp; omega
            have hd5 : decide ((j : Int) < (m : Int)) = false := by simp; omega
            obtain ⟨TY, hTY⟩ : ∃ TY, typeIn (l.take i) name = TY := ⟨_, rfl⟩
            have HTY := Lib.hid hTY
            rw [hTY] at HD3
            obtain ⟨bad, hbad⟩ : ∃ bad, (TY != 0) = bad := ⟨_, rfl⟩
            have HBAD := Lib.hid hbad
            have y0 := HBX4.out.cell 0
            have y1 := HBX4.out.cell 1
            have y2 := HBX4.out.cell 2
            have y3 := HBX4.out.cell 3
            have y4 := HBX4.out.cell 4
            have y5 := HBX4.out.cell 5
            have y6 := HBX4.out.cell 6
            have y7 := HBX4.out.cell 7
            have y8 := HBX4.out.cell 8
            have y9 := HBX4.out.cell 9
            have y10 := HBX4.out.cell 10
            have y11 := HBX4.out.cell 11
            have y12 := HBX4.out.cell 12
            simp only [stCells, List.getElem?_cons_succ, List.getElem?_cons_zero] at y0 y1 y2 y3 y4 y5 y6 y7 y8 y9 y10 y11 y12
            clear hTY hbad hD1 hD2 hD3 hjm2 HALL HT3 HB3 HBX
            cases bad with
            | true =>
              have HRS : Hid (R = some i) := by
                show _ = _
                rw [← HF.out, drop_at HX.out, checkF, if_pos (bad_name (by have h := HBAD.out; rw [HTY.out]; simpa using h)), List.length_take, Nat.min_eq_left (by rw [HLN.out]; omega)]
              go_wp2_with (at_lookup; refine wpList_lookup_own_int _ rfl _ _ 47 rfl 9 3 .i64 (string_keyed Tryz.underlying9) Tryz.underlying47 Tryz.underlying3 (zeroInt _) b i D rfl HD1.out _ _ rfl hkey ?_; intro cc hat _; obtain rfl : TY = cc := (by have h := hat.symm.trans HD3.out; injection h with h; injection h with h1 h2; exact h2.symm); clear hat; have hbb2 := HBAD.out)
              go_ret2
              refine ⟨?_, HB4.out⟩
              rw [HRS.out]
              rfl
            | false =>
              have HTZ : Hid (typeIn (l.take i) name = 0) := by
                have h := HBAD.out
                show _ = _
                rw [HTY.out]
                simpa using h
              have HFN : Hid (checkF (l.take (i + 1)) (l.drop (i + 1)) = R) := by
                show _ = _
                rw [← HF.out, drop_at HX.out, checkF, if_neg (good_st HAL2.out HUX.out HTZ.out), List.take_add_one, HX.out]
                rfl
              go_wp2_with (at_lookup; refine wpList_lookup_own_int _ rfl _ _ 47 rfl 9 3 .i64 (string_keyed Tryz.underlying9) Tryz.underlying47 Tryz.underlying3 (zeroInt _) b i D rfl HD1.out _ _ rfl hkey ?_; intro cc hat _; obtain rfl : TY = cc := (by have h := hat.symm.trans HD3.out; injection h with h; injection h with h1 h2; exact h2.symm); clear hat; have hbb2 := HBAD.out)
              have HGD : Hid (wr.grownBy wr.drew none) := grown_drew wr 1 none
              have hbx4 := HBX4.out.lt
              have hnb : ¬ b = bx := HNB.out
              go_region_held3 (fun w' => w'.cell? ⟨bx, 0, none⟩ = some (.int .i64 kind) ∧ w'.cell? ⟨bx, 1, none⟩ = some (.string (bs name)) ∧ w'.cell? ⟨bx, 2, none⟩ = some (.int .i64 A.k) ∧ w'.cell? ⟨bx, 3, none⟩ = some (.string A.s) ∧ w'.cell? ⟨bx, 4, none⟩ = some (.slice A.a A.n A.c) ∧ w'.cell? ⟨bx, 5, none⟩ = some (.int .i64 B.k) ∧ w'.cell? ⟨bx, 6, none⟩ = some (.string B.s) ∧ w'.cell? ⟨bx, 7, none⟩ = some (.slice B.a B.n B.c) ∧ w'.cell? ⟨bx, 8, none⟩ = some (.int .i64 rule) ∧ w'.cell? ⟨bx, 9, none⟩ = some (.int .i64 N) ∧ w'.cell? ⟨bx, 10, none⟩ = some (.int .i64 d) ∧ w'.cell? ⟨bx, 11, none⟩ = some (.int .i64 K) ∧ w'.cell? ⟨bx, 12, none⟩ = some (.bool snap)) (first | exact ⟨y0, y1, y2, y3, y4, y5, y6, y7, y8, y9, y10, y11, y12⟩ | exact hz | exact hv)
                ((go_at_call 22; refine (typeOf_any kind name rule N d K snap A B _).mono ?_; rintro e w5 ⟨rfl, hg5⟩; have HG5 : Hid (wr.grownBy w5 none) := grown_trans HGD.out hg5; obtain ⟨w6, hrun6, hown6, hgrow6⟩ := (HD1.out.kept HG5.out (by simp)).update (string_keyed Tryz.underlying9) Tryz.underlying47 (by unfold maxLen; omega) hkey (plainElem_int Tryz.underlying3 (wfInt (giveV_range kind).1 (giveV_range kind).2)); have hz : w5.cell? ⟨bx, 0, none⟩ = some (.int .i64 kind) ∧ w5.cell? ⟨bx, 1, none⟩ = some (.string (bs name)) ∧ w5.cell? ⟨bx, 2, none⟩ = some (.int .i64 A.k) ∧ w5.cell? ⟨bx, 3, none⟩ = some (.string A.s) ∧ w5.cell? ⟨bx, 4, none⟩ = some (.slice A.a A.n A.c) ∧ w5.cell? ⟨bx, 5, none⟩ = some (.int .i64 B.k) ∧ w5.cell? ⟨bx, 6, none⟩ = some (.string B.s) ∧ w5.cell? ⟨bx, 7, none⟩ = some (.slice B.a B.n B.c) ∧ w5.cell? ⟨bx, 8, none⟩ = some (.int .i64 rule) ∧ w5.cell? ⟨bx, 9, none⟩ = some (.int .i64 N) ∧ w5.cell? ⟨bx, 10, none⟩ = some (.int .i64 d) ∧ w5.cell? ⟨bx, 11, none⟩ = some (.int .i64 K) ∧ w5.cell? ⟨bx, 12, none⟩ = some (.bool snap) := ⟨(grown_cell HG5.out hbx4).trans y0, (grown_cell HG5.out hbx4).trans y1, (grown_cell HG5.out hbx4).trans y2, (grown_cell HG5.out hbx4).trans y3, (grown_cell HG5.out hbx4).trans y4, (grown_cell HG5.out hbx4).trans y5, (grown_cell HG5.out hbx4).trans y6, (grown_cell HG5.out hbx4).trans y7, (grown_cell HG5.out hbx4).trans y8, (grown_cell HG5.out hbx4).trans y9, (grown_cell HG5.out hbx4).trans y10, (grown_cell HG5.out hbx4).trans y11, (grown_cell HG5.out hbx4).trans y12⟩; have hv : w6.cell? ⟨bx, 0, none⟩ = some (.int .i64 kind) ∧ w6.cell? ⟨bx, 1, none⟩ = some (.string (bs name)) ∧ w6.cell? ⟨bx, 2, none⟩ = some (.int .i64 A.k) ∧ w6.cell? ⟨bx, 3, none⟩ = some (.string A.s) ∧ w6.cell? ⟨bx, 4, none⟩ = some (.slice A.a A.n A.c) ∧ w6.cell? ⟨bx, 5, none⟩ = some (.int .i64 B.k) ∧ w6.cell? ⟨bx, 6, none⟩ = some (.string B.s) ∧ w6.cell? ⟨bx, 7, none⟩ = some (.slice B.a B.n B.c) ∧ w6.cell? ⟨bx, 8, none⟩ = some (.int .i64 rule) ∧ w6.cell? ⟨bx, 9, none⟩ = some (.int .i64 N) ∧ w6.cell? ⟨bx, 10, none⟩ = some (.int .i64 d) ∧ w6.cell? ⟨bx, 11, none⟩ = some (.int .i64 K) ∧ w6.cell? ⟨bx, 12, none⟩ = some (.bool snap) := ⟨(hgrow6.cell_far _ (Nat.lt_of_lt_of_le hbx4 HG5.out.size) (by simp only [ne_eq, Option.some.injEq]; omega)).trans ((grown_cell HG5.out hbx4).trans y0), (hgrow6.cell_far _ (Nat.lt_of_lt_of_le hbx4 HG5.out.size) (by simp only [ne_eq, Option.some.injEq]; omega)).trans ((grown_cell HG5.out hbx4).trans y1), (hgrow6.cell_far _ (Nat.lt_of_lt_of_le hbx4 HG5.out.size) (by simp only [ne_eq, Option.some.injEq]; omega)).trans ((grown_cell HG5.out hbx4).trans y2), (hgrow6.cell_far _ (Nat.lt_of_lt_of_le hbx4 HG5.out.size) (by simp only [ne_eq, Option.some.injEq]; omega)).trans ((grown_cell HG5.out hbx4).trans y3), (hgrow6.cell_far _ (Nat.lt_of_lt_of_le hbx4 HG5.out.size) (by simp only [ne_eq, Option.some.injEq]; omega)).trans ((grown_cell HG5.out hbx4).trans y4), (hgrow6.cell_far _ (Nat.lt_of_lt_of_le hbx4 HG5.out.size) (by simp only [ne_eq, Option.some.injEq]; omega)).trans ((grown_cell HG5.out hbx4).trans y5), (hgrow6.cell_far _ (Nat.lt_of_lt_of_le hbx4 HG5.out.size) (by simp only [ne_eq, Option.some.injEq]; omega)).trans ((grown_cell HG5.out hbx4).trans y6), (hgrow6.cell_far _ (Nat.lt_of_lt_of_le hbx4 HG5.out.size) (by simp only [ne_eq, Option.some.injEq]; omega)).trans ((grown_cell HG5.out hbx4).trans y7), (hgrow6.cell_far _ (Nat.lt_of_lt_of_le hbx4 HG5.out.size) (by simp only [ne_eq, Option.some.injEq]; omega)).trans ((grown_cell HG5.out hbx4).trans y8), (hgrow6.cell_far _ (Nat.lt_of_lt_of_le hbx4 HG5.out.size) (by simp only [ne_eq, Option.some.injEq]; omega)).trans ((grown_cell HG5.out hbx4).trans y9), (hgrow6.cell_far _ (Nat.lt_of_lt_of_le hbx4 HG5.out.size) (by simp only [ne_eq, Option.some.injEq]; omega)).trans ((grown_cell HG5.out hbx4).trans y10), (hgrow6.cell_far _ (Nat.lt_of_lt_of_le hbx4 HG5.out.size) (by simp only [ne_eq, Option.some.injEq]; omega)).trans ((grown_cell HG5.out hbx4).trans y11), (hgrow6.cell_far _ (Nat.lt_of_lt_of_le hbx4 HG5.out.size) (by simp only [ne_eq, Option.some.injEq]; omega)).trans ((grown_cell HG5.out hbx4).trans y12)⟩; have HW6 := Lib.hid hown6; have HR6 := Lib.hid hgrow6; clear hown6 hgrow6 hg5))
              have hown6 := HW6.out
              have hgrow6 := HR6.out
              clear y0 y1 y2 y3 y4 y5 y6 y7 y8 y9 y10 y11 y12 hbb2 HGD hz hv hrun6
              have HB6 : Hid (Below w.heap.size w w6) := (HB4.out.grown HG5.out HB4.out.size (fun _ e => by cases e)).grown hgrow6 (Nat.le_trans HB4.out.size HG5.out.size) (fun k e => by cases e; exact hbw)
              have HT6 : Hid (TypesAt w6 b (i + 1) (l.take (i + 1))) := by
                have h := TypesAt.put ⟨kind, name, xa, xb, rule, N, d, K, snap⟩ HD2.out HDA.out (fun x hx => HK.out x (List.mem_of_mem_take hx)) HTZ.out hown6
                rw [List.take_add_one, HX.out]
                exact h
              clear hown6 hgrow6
              go_wp2
              go_roundg (gO - 1)
              case measure => omega
              case rel => exact ⟨i + 1, by go_num, by omega, by omega, HB6.out, hbw, HT6.out, HFN.out⟩
      · have hin : i = n := by omega
        obtain rfl : R = none := by
          have h := HF.out
          rw [List.drop_eq_nil_of_le (by rw [HLN.out]; omega), checkF] at h
          exact h.symm
        have hd2 : decide (i < n) = false := by simp; omega
        have hd3 : decide ((i : Int) < (n : Int)) = false := by simp; omega
        clear HF hin
        go_wp2
        go_ret2
        exact ⟨rfl, HB.out⟩
end Go.Proofs.YtdjklnlkocconaaGreatDoor

namespace Go.Proofs.YtdjklnlkocconaaGreatDoor
open Go Go.RowKit

def strL (l : List (List UInt8)) : List Value := l.map fun s => .string (bs s)
theorem strL_snoc (l : List (List UInt8)) (s : List UInt8) : strL (l ++ [s]) = strL l ++ [.string (bs s)] := by simp [strL]
theorem strL_get {l : List (List UInt8)} {j : Nat} {s : List UInt8} (h : l[j]? = some s) : (strL l)[j]? = some (.string (bs s)) := by simp [strL, h]

/-- slices.Contains at a row of the call's own, nil or not. -/
theorem contains_own {w : World} {B : Nat} {v : Value} {l : List (List UInt8)} (s : List UInt8) (h : w.ownsRow B 9 1 v l.length (strL l)) (hl : l.length ≤ 4000000) :
    Calls Tryz.prog 32 #[v, .string (bs s)] w fun e w' => e = .returned (.bool (l.contains s)) ∧ w' = w := by
  by_cases hn : 0 < l.length
  · obtain ⟨g, cap, rfl, _, _, _, hc⟩ := owns_slice h hn
    have := Tryz.slices_Contains_string g 0 l.length cap (l.map bs) (bs s) w (by simp) (by omega) (fun j hj => by
      have hj2 : j < l.length := by simpa using hj
      have h1 := hc j (.string (bs l[j])) (strL_get (List.getElem?_eq_getElem hj2))
      rw [Nat.zero_add, h1]
      simp [hj2])
    rwa [show (l.map bs).take l.length = l.map bs from List.take_of_length_le (by simp), containsS_bs] at this
  · obtain rfl : l = [] := List.eq_nil_of_length_eq_zero (by omega)
    rcases h.2 with ⟨rfl, _⟩ | ⟨g, cap, cur, rfl, _⟩
    · exact Tryz.slices_Contains_string_empty none 0 (bs s) w
    · exact Tryz.slices_Contains_string_empty _ cap (bs s) w

def DsAt (w3 : World) (us : List Use) (R : List (List UInt8)) (m k : Nat) (v u : Value) (wr : World) : Prop := ∃ (j : Nat) (acc : List (List UInt8)) (va : Value), va = v ∧ u = .int .i64 j ∧ j ≤ m ∧ m < k + j ∧ Below w3.heap.size w3 wr ∧ wr.ownsRow w3.heap.size 9 1 v acc.length (strL acc) ∧ acc.length ≤ j ∧ onceF ((us.drop j).map (·.1)) acc = R

set_option maxHeartbeats 4000000 in
set_option maxRecDepth 100000 in
theorem bUses_any (kind : Int) (name : List UInt8) (xa xb : Nd) (rule N d K : Int) (snap : Bool) (A B : NV) (w : World) (ha : NdIs Any w xa A.val) (hb : NdIs Any w xb B.val) (hsz : (usesN xa).length + (usesN xb).length ≤ 4000000) :
    Calls Tryz.prog 16 #[.agg #[.int .i64 kind, .string (bs name), .int .i64 A.k, .string A.s, .slice A.a A.n A.c, .int .i64 B.k, .string B.s, .slice B.a B.n B.c, .int .i64 rule, .int .i64 N, .int .i64 d, .int .i64 K, .bool snap]] w fun e w' =>
      ∃ v, e = .returned v ∧ w'.ownsRow w.heap.size 9 1 v (usesD ⟨kind, name, xa, xb, rule, N, d, K, snap⟩).length (strL (usesD ⟨kind, name, xa, xb, rule, N, d, K, snap⟩)) ∧ Below w.heap.size w w' := by
  obtain ⟨is, hs, hs0, hs1, hs2⟩ := info_parts info9
  have HA := Lib.hid ha
  have HB := Lib.hid hb
  have HG : Hid (w.grownBy (w.alloc (.cells #[.int .i64 kind, .string (bs name), .int .i64 A.k, .string A.s, .slice A.a A.n A.c, .int .i64 B.k, .string B.s, .slice B.a B.n B.c, .int .i64 rule, .int .i64 N, .int .i64 d, .int .i64 K, .bool snap] 39)) none) := grown_alloc _ _ _
  have HWD : Hid (Below w.heap.size w (w.alloc (.cells #[.int .i64 kind, .string (bs name), .int .i64 A.k, .string A.s, .slice A.a A.n A.c, .int .i64 B.k, .string B.s, .slice B.a B.n B.c, .int .i64 rule, .int .i64 N, .int .i64 d, .int .i64 K, .bool snap] 39))) := (Below.refl _ _).alloc (Nat.le_refl _) _
  obtain ⟨RD, hRD⟩ : ∃ q, usesD ⟨kind, name, xa, xb, rule, N, d, K, snap⟩ = q := ⟨_, rfl⟩
  rw [hRD]
  have HRD := Lib.hid hRD
  clear ha hb hRD
  go_enter Tryz.func16, Tryz.ntmps16
  go_wp2_with fail
  generalize (w.alloc (.cells #[.int .i64 kind, .string (bs name), .int .i64 A.k, .string A.s, .slice A.a A.n A.c, .int .i64 B.k, .string B.s, .slice B.a B.n B.c, .int .i64 rule, .int .i64 N, .int .i64 d, .int .i64 K, .bool snap] 39)) = w2 at *
  refine (uses_any kind name xa xb rule N d K snap A B _ (HA.out.still HG.out) (HB.out.still HG.out) hsz).mono ?_
  rintro e w3 ⟨ua, uc, rfl, hown, hb3⟩
  obtain ⟨us, hus⟩ : ∃ us, usesN xa ++ usesN xb = us := ⟨_, rfl⟩
  have HUX : Hid (onceF (us.map (·.1)) [] = RD) := by
    show _ = _
    rw [← hus]
    exact HRD.out
  have hlen := congrArg List.length hus
  rw [List.length_append] at hlen
  rw [hus] at hown ⊢
  obtain ⟨m, hm⟩ : ∃ m, us.length = m := ⟨_, rfl⟩
  have hm4 : m ≤ 4000000 := by omega
  have HUM : Hid (us.length = m) := hm
  rw [hm] at hown ⊢
  have HUO := Lib.hid hown
  have HB3 : Hid (Below w.heap.size w w3) := HWD.out.trans (hb3.mono HWD.out.size)
  clear hus hm hown hb3 hlen hsz HA HB HG HWD HRD
  go_wp2_with fail
  go_loopg [3, 9] (m + 1) (fun k v u wr => Hid (DsAt w3 us RD m k v u wr))
  case atStart => exact ⟨0, [], _, rfl, rfl, Nat.zero_le _, by omega, Below.refl _ _, World.ownsRow_nil _ _ _ _, Nat.le_refl _, HUX.out⟩
  case round =>
    obtain ⟨j, acc, v, rfl, rfl, hj, hkj, hbw, hrow, hal, hr⟩ := hrel.out
    have HBW := Lib.hid hbw
    have HRW := Lib.hid hrow
    have HR := Lib.hid hr
    clear hrel hbw hrow hr HUX
    by_cases hjm : j < m
    · obtain ⟨u, hu⟩ : ∃ u, us[j]? = some u := ⟨us[j]'(by rw [HUM.out]; exact hjm), List.getElem?_eq_getElem _⟩
      have HDR : Hid (us.drop j = u :: us.drop (j + 1)) := drop_at hu
      obtain ⟨gu, capu, hv, _, hgl, _, hc⟩ := owns_slice HUO.out (by omega)
      cases hv
      obtain ⟨c0, c1⟩ := useCells_get hu
      have y0 := (World.cell?_of_block (a := ⟨gu, j * 2, none⟩) (HBW.out.block gu hgl)).trans (hc _ _ c0)
      have y1 := (World.cell?_of_block (a := ⟨gu, j * 2 + 1, none⟩) (HBW.out.block gu hgl)).trans (hc _ _ c1)
      have hd4 : decide (j < m) = true := by simp; omega
      have hd5 : decide ((j : Int) < (m : Int)) = true := by simp; omega
      have hgz := HBW.out.size
      obtain ⟨bad, hbad⟩ : ∃ bad, acc.contains u.1 = bad := ⟨_, rfl⟩
      have HBAD := Lib.hid hbad
      have HCO : Hid (Calls Tryz.prog 32 #[v, .string (bs u.1)] (wr.alloc (.cells #[.string (bs u.1), .int .i64 u.2] 51)) fun e w' => e = .returned (.bool bad) ∧ w' = wr.alloc (.cells #[.string (bs u.1), .int .i64 u.2] 51)) := by
        show Calls _ _ _ _ _
        rw [← hbad]
        exact contains_own u.1 (HRW.out.alloc _) (by omega)
      clear hu c0 c1 hc hbad
      go_wp2_with fail
      refine HCO.out.mono ?_
      rintro e w5 ⟨rfl, rfl⟩
      clear HCO y0 y1
      cases bad with
      | true =>
        have HR2 : Hid (onceF ((us.drop (j + 1)).map (·.1)) acc = RD) := by
          have h := HR.out
          rw [HDR.out, List.map_cons, onceF, if_pos HBAD.out] at h
          exact h
        go_wp2
        go_roundg (gk - 1)
        case measure => omega
        case rel => exact ⟨j + 1, acc, _, rfl, by go_num, by omega, by omega, HBW.out.alloc hgz _, HRW.out.alloc _, by omega, HR2.out⟩
      | false =>
        have HR2 : Hid (onceF ((us.drop (j + 1)).map (·.1)) (acc ++ [u.1]) = RD) := by
          have h := HR.out
          rw [HDR.out, List.map_cons, onceF, if_neg (by rw [HBAD.out]; simp)] at h
          exact h
        clear HR HBAD
        go_wp2_with (at_builtin; go_must (refine wpList_append_lies _ rfl _ _ 41 rfl w3.heap.size 9 is _ 1 16 Tryz.underlying41 hs hs0 hs1 hs2 rfl (by decide) _ _ _ rfl ((HRW.out.alloc _).alloc _) ⟨wr.heap.size + 1, 0, none⟩ 1 1 [.string (bs u.1)] rfl rfl (cell_new _ [.string (bs u.1)] _ (by simp)) (by simp [Value.oneCell']) (by decide) (by unfold maxLen; omega) (by omega) (by simp; omega) (wr.heap.size + 1 + 1) (by simp) ?_))
        intro g cap w7 hown7 hgrow hat hlt7
        have hg0 : ∀ k, v.ownBlock = some k → w3.heap.size ≤ k := fun k e => (HRW.out.lt k e).1
        have HB7 : Hid (Below w3.heap.size w3 w7) := ((HBW.out.alloc hgz _).alloc (by simp; omega) _).grown hgrow (by simp; omega) hg0
        have HO7 : Hid (w7.ownsRow w3.heap.size 9 1 (.slice (some ⟨g, 0, none⟩) (acc.length + 1) cap) (acc ++ [u.1]).length (strL (acc ++ [u.1]))) := by
          show World.ownsRow _ _ _ _ _ _ _
          rw [strL_snoc, List.length_append]
          exact hown7
        clear hown7 hgrow hat hlt7 hg0
        go_wp2
        go_roundg (gk - 1)
        case measure => omega
        case rel => exact ⟨j + 1, acc ++ [u.1], _, rfl, by go_num, by omega, by omega, HB7.out, HO7.out, by simp; omega, HR2.out⟩
    · have hjm2 : j = m := by omega
      have hd4 : decide (j < m) = false := by simp; omega
      have hd5 : decide ((j : Int) < (m : Int)) = false := by simp; omega
      obtain rfl : acc = RD := by
        have h := HR.out
        rw [List.drop_eq_nil_of_le (by rw [HUM.out]; omega)] at h
        exact h
      have HF : Hid (wr.ownsRow w.heap.size 9 1 v acc.length (strL acc)) := Joins.ownsRow_le HRW.out HB3.out.size
      have HFB : Hid (Below w.heap.size w wr) := HB3.out.trans (HBW.out.mono HB3.out.size)
      clear HR HRW HBW HB3 hjm2
      go_wp2
      go_ret
      exact ⟨_, rfl, HF.out, HFB.out⟩
end Go.Proofs.YtdjklnlkocconaaGreatDoor

namespace Go.Proofs.YtdjklnlkocconaaGreatDoor
open Go Go.RowKit

theorem owns_shape {w : World} {B : Nat} {e : TypeId} {size : Nat} {v : Value} {n : Nat} {xs : List Value} (h : w.ownsRow B e size v n xs) : ∃ a c, v = .slice a n c := by
  rcases h.2 with ⟨rfl, rfl⟩ | ⟨g, cap, cur, rfl, _⟩
  · exact ⟨none, 0, rfl⟩
  · exact ⟨_, _, rfl⟩
def OnAt (wr : World) (L : List (List UInt8)) (s : List UInt8) (i k : Nat) (b u : Value) (wr2 : World) : Prop := ∃ (j : Nat) (c : Bool), u = .int .i64 j ∧ b = .bool c ∧ (L.take j).contains s = c ∧ j ≤ i ∧ i < k + j ∧ wr.grownBy wr2 none
def RuAt (w3 : World) (L R : List (List UInt8)) (m k : Nat) (v u : Value) (wr : World) : Prop := ∃ (i : Nat) (acc : List (List UInt8)) (va : Value), va = v ∧ u = .int .i64 i ∧ i ≤ m ∧ m < k + i ∧ Below w3.heap.size w3 wr ∧ wr.ownsRow w3.heap.size 9 1 v acc.length (strL acc) ∧ acc.length ≤ i ∧ onceR (L.take i) (L.drop i) acc = R

end Go.Proofs.YtdjklnlkocconaaGreatDoor
