/-
  The reference: cut, Cmp, Less, Mul of numbers by ten thousands. (Printed by gen_refp.py.)
  The reference: Mul of numbers by ten thousands. (Printed by gen_refmul.py.)
  The reference: Neg, Cmp, Add, Sub, Mul of numbers with a sign. (Printed by gen_refq.py.)
  The reference: apart. (Printed by gen_apart.py.)
-/
import Derived.Test.YtnojfiokdhcbjaaRefNG
import Derived.Test.YtnojfiokdhcbjaaGPlain
import Derived.Test.YtnojfiokdhcbjaaGH
import Derived.Test.YtnojfiokdhcbjaaRefND
import Derived.Test.YtnojfiokdhcbjaaRefNH
namespace Go.Proofs.Ytnojfiokdhcbjaa.Dec

theorem val_take_all {l : List Nat} {i : Nat} (h : l.length ≤ i) : valL (l.take i) = valL l := by rw [List.take_of_length_le h]
theorem val_take_none {l : List Nat} {i : Nat} (h : l.length ≤ i) : valL (l.take (i + 1)) = valL (l.take i) := by rw [List.take_of_length_le h, List.take_of_length_le (by omega)]
theorem limb_mod (n : Nat) : n % 10000 < 10000 := Nat.mod_lt _ (by decide)

/-- Less at work. -/
def LessAt (l m : List Nat) (i : Nat) (o : List Nat) (b : Nat) : Prop := o.length = i ∧ Limb o ∧ b < 2 ∧ valL o + valL (m.take i) = valL (l.take i) + 10000 ^ i * b
theorem less_start (l m : List Nat) : LessAt l m 0 [] 0 := ⟨rfl, (fun _ h => by cases h), by decide, by simp [valL]⟩
theorem less_both {l m : List Nat} {i : Nat} {o : List Nat} {b x y z b' : Nat} (h : LessAt l m i o b) (hx : l[i]? = some x) (hy : m[i]? = some y) (hz : z < 10000) (hb : b' < 2) (he : z + y + b = x + 10000 * b') :
    LessAt l m (i + 1) (o ++ [z]) b' := by
  obtain ⟨h1, h2, h3, h4⟩ := h
  refine ⟨by simp [h1], limb_snoc h2 hz, hb, ?_⟩
  rw [val_snoc, h1, val_take_succ hx, val_take_succ hy, Nat.pow_succ]
  have := less_step h4 he
  omega
theorem less_one {l m : List Nat} {i : Nat} {o : List Nat} {b x z b' : Nat} (h : LessAt l m i o b) (hx : l[i]? = some x) (hm : m.length ≤ i) (hz : z < 10000) (hb : b' < 2) (he : z + b = x + 10000 * b') :
    LessAt l m (i + 1) (o ++ [z]) b' := by
  obtain ⟨h1, h2, h3, h4⟩ := h
  refine ⟨by simp [h1], limb_snoc h2 hz, hb, ?_⟩
  rw [val_snoc, h1, val_take_succ hx, val_take_none hm, Nat.pow_succ]
  have := less_step (y := 0) h4 (by omega : z + 0 + b = x + 10000 * b')
  simp only [Nat.mul_zero, Nat.add_zero] at this
  omega
theorem less_done {l m o : List Nat} {b : Nat} (h : LessAt l m l.length o b) (hml : m.length ≤ l.length) (hle : valL m ≤ valL l) : Limb o ∧ o.length = l.length ∧ valL o = valL l - valL m := by
  obtain ⟨h1, h2, h3, h4⟩ := h
  rw [val_take_all (Nat.le_refl _), val_take_all hml] at h4
  refine ⟨h2, h1, ?_⟩
  have hv := val_lt h2
  rw [h1] at hv
  exact less_end hv h4 hle

/-- Mul at work. -/
def MulAt (l m : List Nat) (i : Nat) (o : List Nat) : Prop := o.length = l.length + m.length + 1 ∧ Limb o ∧ valL o = valL (l.take i) * valL m ∧ ∀ j, i + m.length ≤ j → j < l.length + m.length + 1 → o[j]? = some 0
/-- .. and the inner one. -/
def MulIn (l m : List Nat) (i x k : Nat) (o : List Nat) (c : Nat) : Prop := o.length = l.length + m.length + 1 ∧ Limb o ∧ c < 10000 ∧ valL o + 10000 ^ (i + k) * c = valL (l.take i) * valL m + 10000 ^ i * x * valL (m.take k) ∧ ∀ j, i + m.length ≤ j → j < l.length + m.length + 1 → o[j]? = some 0
theorem mul_start (l m : List Nat) : MulAt l m 0 (List.replicate (l.length + m.length + 1) 0) :=
  ⟨by simp, limb_zeros _, by rw [val_zeros]; simp [valL], fun j h1 h2 => by rw [List.getElem?_replicate, if_pos h2]⟩
theorem mul_in {l m : List Nat} {i x : Nat} {o : List Nat} (h : MulAt l m i o) : MulIn l m i x 0 o 0 :=
  ⟨h.1, h.2.1, by decide, by rw [h.2.2.1]; simp [valL], h.2.2.2⟩
theorem mul_one {l m : List Nat} {i x k : Nat} {o : List Nat} {c y v : Nat} (h : MulIn l m i x k o c) (hx : x < 10000) (hy : m[k]? = some y) (hyb : y < 10000) (hv : o[i + k]? = some v) :
    MulIn l m i x (k + 1) (o.set (i + k) ((c + (x * y + v)) % 10000)) ((c + (x * y + v)) / 10000) := by
  obtain ⟨h1, h2, h3, h4, h5⟩ := h
  have hvb := h2 v (List.mem_of_getElem? hv)
  have hkm : k < m.length := (List.getElem?_eq_some_iff.1 hy).1
  refine ⟨by simp [h1], limb_set h2 _ (limb_mod _), ?_, ?_, ?_⟩
  · have : x * y ≤ 9999 * 9999 := Nat.mul_le_mul (by omega) (by omega)
    omega
  · have e1 := val_set ((c + (x * y + v)) % 10000) hv
    have e2 := mul_step (x := x) (y := y) (o := v) h4
    rw [val_take_succ hy, show i + (k + 1) = i + k + 1 from rfl, Nat.pow_succ]
    have e3 : 10000 ^ i * x * (valL (m.take k) + 10000 ^ k * y) = 10000 ^ i * x * valL (m.take k) + 10000 ^ (i + k) * (x * y) := by
      rw [Nat.pow_add]; grind
    rw [e3]
    omega
  · intro j hj1 hj2
    rw [List.getElem?_set_ne (by omega)]
    exact h5 j hj1 hj2
theorem mul_out {l m : List Nat} {i x : Nat} {o : List Nat} {c : Nat} (h : MulIn l m i x m.length o c) (hx : l[i]? = some x) : MulAt l m (i + 1) (o.set (i + m.length) c) := by
  obtain ⟨h1, h2, h3, h4, h5⟩ := h
  have hil : i < l.length := (List.getElem?_eq_some_iff.1 hx).1
  refine ⟨by simp [h1], limb_set h2 _ h3, ?_, ?_⟩
  · have e1 := val_set c (h5 (i + m.length) (Nat.le_refl _) (by omega))
    rw [val_take_succ hx, Nat.add_mul]
    rw [val_take_all (Nat.le_refl _)] at h4
    omega
  · intro j hj1 hj2
    rw [List.getElem?_set_ne (by omega)]
    exact h5 j (by omega) hj2
theorem mul_end {l m o : List Nat} (h : MulAt l m l.length o) : Limb o ∧ o.length = l.length + m.length + 1 ∧ valL o = valL l * valL m :=
  ⟨h.2.1, h.1, by rw [h.2.2.1, val_take_all (Nat.le_refl _)]⟩
theorem mul_at {l m : List Nat} {i x k : Nat} {o : List Nat} {c : Nat} (h : MulIn l m i x k o c) (hi : i < l.length) (hk : k < m.length) : ∃ v, o[i + k]? = some v ∧ v < 10000 := by
  have hl : i + k < o.length := by rw [h.1]; omega
  exact ⟨_, List.getElem?_eq_getElem hl, h.2.1 _ (List.getElem_mem hl)⟩

theorem limbs_inj {x y : Nat} (h : limbs x = limbs y) : x = y := by
  rw [← val_limbs x, h, val_limbs]
end Go.Proofs.Ytnojfiokdhcbjaa.Dec
namespace Go.Proofs.Ytnojfiokdhcbjaa
open Go Go.RowKit

theorem m_of_take {w : World} {a : Option Addr} {l : List Nat} {n c : Nat} (hl : Dec.Limb l) (hr : RowI w a l) (hc : l.length ≤ c) (hn : n ≤ l.length) (hz : ∀ j, n ≤ j → ∀ x, l[j]? = some x → x = 0) (ht : n = 0 ∨ l[n - 1]? ≠ some 0) : MIs w (.agg #[.slice a n c]) (Dec.valL l) := by
  have e := Dec.cut_limbs hl n hn hz ht
  have hlen : (Dec.limbs (Dec.valL l)).length = n := by rw [← e, List.length_take]; omega
  refine ⟨a, c, by rw [hlen], by rw [hlen]; omega, ?_⟩
  rw [← e]
  exact hr.take n
theorem row_none {w : World} {l : List Nat} (h : RowI w none l) : l = [] := by
  rcases h with h | ⟨_, _, h, _⟩
  · exact h
  · cases h

set_option maxHeartbeats 4000000 in
set_option maxRecDepth 100000 in
theorem mcut_any (l : List Nat) (a : Option Addr) (n0 c : Nat) (w : World) (hn0 : l.length = n0) (hl : Dec.Limb l) (hr : RowI w a l) (hc : l.length ≤ c) (hsz : l.length ≤ 10000000) :
    Calls Try.prog 117 #[.slice a n0 c] w fun e w' => ∃ v, e = .returned v ∧ MIs w' v (Dec.valL l) ∧ Below w.heap.size w w' := by
  subst hn0
  have HL := Lib.hid hl
  have HR := Lib.hid hr
  have HC := Lib.hid hc
  clear hl hr
  go_enter Try.func117, Try.ntmps117
  go_wp2_with fail
  have HB : Hid (BlkC 49 (w.alloc (.cells #[.slice none 0 0] 49)) w.heap.size [.slice none 0 0]) := BlkC.new _ _ _
  have HG : Hid (Below w.heap.size w (w.alloc (.cells #[.slice none 0 0] 49))) := (own_alloc _ _).b
  have HRW : Hid (RowI (w.alloc (.cells #[.slice none 0 0] 49)) a l) := Lib.hid (HR.out.keep (ki_below HG.out))
  have hlt := HB.out.lt
  have hc1 := HB.out.cell 0
  have hf1 := HB.out.free 0
  simp only [List.getElem?_cons_zero] at hc1
  generalize hw0 : (w.alloc (.cells #[.slice none 0 0] 49)) = w0 at *
  clear hw0
  go_loopg [3] (l.length + 1) (fun k u wr => Hid (CutAt w0 l k u wr))
  case atStart => exact ⟨l.length, rfl, Nat.le_refl _, by omega, (fun j hj x hx => by rw [List.getElem?_eq_none hj] at hx; cases hx), rfl⟩
  case round =>
    obtain ⟨n, rfl, hn, hk, hz, rfl⟩ := hrel.out
    have HZ := Lib.hid hz
    clear hrel hz
    by_cases h0 : 0 < n
    · obtain ⟨x, hx⟩ : ∃ x, l[n - 1]? = some x := ⟨l[n - 1]'(by omega), List.getElem?_eq_getElem _⟩
      obtain ⟨g, ha, hgl, hcell⟩ := HRW.out.cells (by rintro rfl; simp at hn; omega)
      subst ha
      have hc0 := hcell _ _ hx
      have HX := Lib.hid hx
      clear hx hcell
      by_cases hx0 : x = 0
      · subst hx0
        go_wp2_with fail
        go_roundg (gk - 1)
        case measure => omega
        case rel =>
          refine ⟨n - 1, by go_num, by omega, by omega, ?_, rfl⟩
          intro j hj y hy
          by_cases h : j = n - 1
          · rw [h, HX.out] at hy; cases hy; rfl
          · exact HZ.out j (by omega) y hy
      · have hx1 : ((x : Int) == 0) = false := by simp; omega
        have hnc : n ≤ c := by omega
        have HM : Hid (MIs w0 (.agg #[.slice (some ⟨g, 0, none⟩) n c]) (Dec.valL l)) := m_of_take HL.out HRW.out HC.out hn HZ.out (.inr (by rw [HX.out]; simpa using hx0))
        go_wp2_with fail
        exact m_ret rfl rfl rfl (HB.out.set 0 _) ⟨_, rfl, m_shut HM.out HB.out (by decide) HG.out (Nat.le_refl _)⟩
    · obtain rfl : n = 0 := by omega
      rcases a with _ | ad
      · have HM : ∀ k : Nat, MIs w0 (.agg #[.slice none 0 k]) (Dec.valL l) := fun k => by
          have e := row_none HRW.out
          subst e
          exact mis_limbs (l := []) (by show Dec.limbs 0 = []; exact Dec.limbs_zero) (Nat.zero_le _) (.inl rfl)
        go_wp2_with fail
        exact m_ret rfl rfl rfl (HB.out.set 0 _) ⟨_, rfl, m_shut (HM _) HB.out (by decide) HG.out (Nat.le_refl _)⟩
      · have HM : Hid (MIs w0 (.agg #[.slice (some ad) 0 c]) (Dec.valL l)) := m_of_take HL.out HRW.out HC.out hn HZ.out (.inl rfl)
        go_wp2_with fail
        exact m_ret rfl rfl rfl (HB.out.set 0 _) ⟨_, rfl, m_shut HM.out HB.out (by decide) HG.out (Nat.le_refl _)⟩

theorem mcmp_len {x y : Nat} (h : (Dec.limbs x).length < (Dec.limbs y).length) : cmpZ (x : Int) (y : Int) = -1 := by
  have := Dec.lt_of_len h
  unfold cmpZ
  rw [if_pos (by omega)]

set_option maxHeartbeats 4000000 in
set_option maxRecDepth 100000 in
theorem mcmp_any (x y : Nat) (v u : Value) (w : World) (hv : MIs w v x) (hu : MIs w u y) (hx : (Dec.limbs x).length ≤ 1000000) :
    Calls Try.prog 106 #[v, u] w fun e w' => e = .returned (.int .i64 (cmpZ (x : Int) (y : Int))) ∧ Own w.heap.size w w' := by
  obtain ⟨a, c1, rfl, hc1, hr⟩ := hv
  obtain ⟨b, c2, rfl, hc2, hs⟩ := hu
  have HX := Lib.hid (Dec.val_limbs x)
  have HY := Lib.hid (Dec.val_limbs y)
  have HLX := Lib.hid (Dec.limbs_limb x)
  have HLY := Lib.hid (Dec.limbs_limb y)
  have HR := Lib.hid hr
  have HS := Lib.hid hs
  have HEQ := Lib.hid (@Dec.limbs_inj x y)
  have hcl : (Dec.limbs x).length < (Dec.limbs y).length → cmpZ (x : Int) (y : Int) = -1 := mcmp_len
  have hcg : (Dec.limbs y).length < (Dec.limbs x).length → cmpZ (x : Int) (y : Int) = 1 := fun h => cmp_gt (Dec.lt_of_len h)
  have HCL := Lib.hid hcl
  have HCG := Lib.hid hcg
  clear hr hs hcl hcg hc1 hc2
  obtain ⟨l, hl⟩ : ∃ l, l = Dec.limbs x := ⟨_, rfl⟩
  obtain ⟨m, hm⟩ : ∃ m, m = Dec.limbs y := ⟨_, rfl⟩
  rw [← hl] at HX HLX HR HEQ HCL HCG hx ⊢
  rw [← hm] at HY HLY HS HEQ HCL HCG ⊢
  clear hl hm
  have HB1 : Hid (BlkC 49 (w.alloc (.cells #[.slice a l.length c1] 49)) w.heap.size [.slice a l.length c1]) := BlkC.new _ _ _
  have HB2 : Hid (BlkC 49 ((w.alloc (.cells #[.slice a l.length c1] 49)).alloc (.cells #[.slice b m.length c2] 49)) (w.heap.size + 1) [.slice b m.length c2]) := blk_at (cs := [.slice b m.length c2]) (by simp)
  have HB3 : Hid (BlkC 49 ((w.alloc (.cells #[.slice a l.length c1] 49)).alloc (.cells #[.slice b m.length c2] 49)) w.heap.size [.slice a l.length c1]) := Lib.hid (HB1.out.still (grown_alloc _ (.cells #[.slice b m.length c2] 49) none))
  have HG : Hid (Own w.heap.size w ((w.alloc (.cells #[.slice a l.length c1] 49)).alloc (.cells #[.slice b m.length c2] 49))) := (own_alloc _ _).alloc (by simp) _
  have HRW : Hid (RowI ((w.alloc (.cells #[.slice a l.length c1] 49)).alloc (.cells #[.slice b m.length c2] 49)) a l) := Lib.hid (HR.out.keep (ki_below HG.out.b))
  have HSW : Hid (RowI ((w.alloc (.cells #[.slice a l.length c1] 49)).alloc (.cells #[.slice b m.length c2] 49)) b m) := Lib.hid (HS.out.keep (ki_below HG.out.b))
  clear HB1 HR HS
  rcases Nat.lt_trichotomy l.length m.length with hlt | heq | hgt
  · have h1 : ((l.length : Int)) < (m.length : Int) := by omega
    have hres := HCL.out hlt
    go_enter Try.func106, Try.ntmps106
    go_wp2
    go_ret
    exact ⟨by first | rfl | exact ret_int hres.symm, HG.out⟩
  · go_enter Try.func106, Try.ntmps106
    have h1 : ¬ ((l.length : Int)) < (m.length : Int) := by omega
    have h2 : ¬ ((m.length : Int)) < (l.length : Int) := by omega
    have HLEN := Lib.hid heq
    clear heq
    go_wp2_with fail
    generalize ((w.alloc (.cells #[.slice a l.length c1] 49)).alloc (.cells #[.slice b m.length c2] 49)) = w0 at *
    go_loopg [5] (l.length + 1) (fun k u wr => Hid (CmpAt w0 l m k u wr))
    case atStart => exact ⟨l.length, by first | rfl | go_num, Nat.le_refl _, by omega, by rw [List.drop_of_length_le (Nat.le_refl _), List.drop_of_length_le (by rw [HLEN.out]; exact Nat.le_refl _)], Own.refl _ _⟩
    case round =>
      obtain ⟨i, rfl, hi, hk, hd, hg⟩ := hrel.out
      have HD := Lib.hid hd
      have HGR := Lib.hid hg
      clear hrel hd hg
      have hb3 := (HB3.out.still (Gr.grown HGR.out)).cell 0
      have hb2 := (HB2.out.still (Gr.grown HGR.out)).cell 0
      simp only [List.getElem?_cons_zero] at hb3 hb2
      by_cases h0 : 0 < i
      · obtain ⟨j, rfl⟩ : ∃ j, i = j + 1 := ⟨i - 1, by omega⟩
        obtain ⟨p, hp⟩ : ∃ p, l[j]? = some p := ⟨l[j]'(by omega), List.getElem?_eq_getElem _⟩
        obtain ⟨q, hq⟩ : ∃ q, m[j]? = some q := ⟨m[j]'(by have := HLEN.out; omega), List.getElem?_eq_getElem _⟩
        obtain ⟨g, ha, hgl, hcell⟩ := (HRW.out.keep (ki_below HGR.out.b)).cells (by rintro rfl; simp at hi)
        obtain ⟨g2, ha2, hgl2, hcell2⟩ := (HSW.out.keep (ki_below HGR.out.b)).cells (by intro h; have := HLEN.out; rw [h] at this; simp only [List.length_nil] at this; omega)
        subst ha ha2
        have hc0 := hcell _ _ hp
        have hc2 := hcell2 _ _ hq
        have HP := Lib.hid hp
        have HQ := Lib.hid hq
        have e1 : ((j : Int) + 1 - 1) = j := by omega
        have hj2 : (j : Int) < l.length := by omega
        have hj3 : (j : Int) < m.length := by have := HLEN.out; omega
        clear hp hq hcell hcell2 h0
        have z0 : (0 : Int) ≤ (j : Int) := by omega
        rcases Nat.lt_trichotomy p q with hlt | hpq | hgt
        · have hlt2 : (p : Int) < (q : Int) := by omega
          have hlt3 : decide ((p : Int) < (q : Int)) = true := decide_eq_true hlt2
          have hres : cmpZ (x : Int) (y : Int) = -1 := cmp_lt (by rw [← HX.out, ← HY.out]; exact Dec.val_cmp HLX.out HLEN.out j HD.out HP.out HQ.out hlt)
          go_wp2_with fail
          go_quiet (fail)
          go_wp2_with fail
          go_ret
          exact ⟨by first | rfl | exact ret_int hres.symm, by first | exact HG.out.call HG.out.size (HGR.out.call0 (gr_drewN _ _)) | exact HG.out.call HG.out.size ((HGR.out.call0 (gr_drewN _ _)).call0 (gr_drewN _ _))⟩
        · subst hpq
          have hlt2 : ¬ (p : Int) < (p : Int) := by omega
          have hlt3 : decide ((p : Int) < (p : Int)) = false := decide_eq_false hlt2
          go_wp2_with fail
          go_quiet (fail)
          go_wp2_with fail
          go_quiet (fail)
          go_wp2_with fail
          go_roundg (gk - 1)
          case measure => omega
          case rel => exact ⟨j, by first | rfl | go_num, by omega, by omega, drop_step HD.out HP.out HQ.out, by first | exact HGR.out.call0 (gr_drewN _ _) | exact (HGR.out.call0 (gr_drewN _ _)).call0 (gr_drewN _ _)⟩
        · have hlt2 : ¬ (p : Int) < (q : Int) := by omega
          have hlt3 : decide ((p : Int) < (q : Int)) = false := decide_eq_false hlt2
          have hlt4 : (q : Int) < (p : Int) := by omega
          have hlt5 : decide ((q : Int) < (p : Int)) = true := decide_eq_true hlt4
          have hres : cmpZ (x : Int) (y : Int) = 1 := cmp_gt (by rw [← HX.out, ← HY.out]; exact Dec.val_cmp HLY.out HLEN.out.symm j HD.out.symm HQ.out HP.out (by omega))
          go_wp2_with fail
          go_quiet (fail)
          go_wp2_with fail
          go_quiet (fail)
          go_wp2_with fail
          go_ret
          exact ⟨by first | rfl | exact ret_int hres.symm, by first | exact HG.out.call HG.out.size (HGR.out.call0 (gr_drewN _ _)) | exact HG.out.call HG.out.size ((HGR.out.call0 (gr_drewN _ _)).call0 (gr_drewN _ _))⟩
      · obtain rfl : i = 0 := by omega
        have hres : cmpZ (x : Int) (y : Int) = 0 := by
          have := HEQ.out (drop_eq_all HD.out)
          rw [this]
          exact cmp_self _
        go_wp2_with fail
        go_ret
        exact ⟨by first | rfl | exact ret_int hres.symm, HG.out.call HG.out.size HGR.out⟩
  · have h1 : ¬ ((l.length : Int)) < (m.length : Int) := by omega
    have h2 : ((m.length : Int)) < (l.length : Int) := by omega
    have hres := HCG.out hgt
    go_enter Try.func106, Try.ntmps106
    go_wp2
    go_ret
    exact ⟨by first | rfl | exact ret_int hres.symm, HG.out⟩

/-- Less at work. -/
structure MLessR (w : World) (l m : List Nat) (u1 u2 : Value) (k : Nat) (v s6 s7 : Value) (wr : World) : Prop where
  r : ∃ (i : Nat) (o : List Nat) (c : Nat), wr.ownsRow (w.heap.size + 3) 3 1 v o.length (ints o) ∧ s6 = .int .i64 (c : Nat) ∧ s7 = .int .i64 (i : Nat) ∧ Dec.LessAt l m i o c ∧ i ≤ l.length ∧ l.length < k + i
  b1 : BlkC 49 wr w.heap.size [u1]
  b2 : BlkC 49 wr (w.heap.size + 1) [u2]
  b3 : BlkC 49 wr (w.heap.size + 2) [.slice none 0 0]
  b : Below w.heap.size w wr
  z : w.heap.size + 3 ≤ wr.heap.size

set_option maxHeartbeats 4000000 in
set_option maxRecDepth 100000 in
theorem mless_any (x y : Nat) (v u : Value) (w : World) (hv : MIs w v x) (hu : MIs w u y) (hx : (Dec.limbs x).length ≤ 1000000) (hyx : y ≤ x) :
    Calls Try.prog 116 #[v, u] w fun e w' => ∃ r, e = .returned r ∧ MIs w' r (x - y) ∧ Below w.heap.size w w' := by
  obtain ⟨a, c1, rfl, hc1, hr1⟩ := hv
  obtain ⟨b, c2, rfl, hc2, hr2⟩ := hu
  have HX := Lib.hid (Dec.val_limbs x)
  have HY := Lib.hid (Dec.val_limbs y)
  have HR1 := Lib.hid hr1
  have HR2 := Lib.hid hr2
  have HL1 := Lib.hid (Dec.limbs_limb x)
  have HL2 := Lib.hid (Dec.limbs_limb y)
  have HML := Lib.hid (Dec.limbs_mono hyx)
  have HYX := Lib.hid hyx
  clear hr1 hr2 hc1 hc2 hyx
  obtain ⟨l, hl⟩ : ∃ l, l = Dec.limbs x := ⟨_, rfl⟩
  obtain ⟨m, hm⟩ : ∃ m, m = Dec.limbs y := ⟨_, rfl⟩
  rw [← hl] at HX HL1 HR1 HML hx ⊢
  rw [← hm] at HY HL2 HR2 HML ⊢
  clear hl hm
  have HB1 : Hid (BlkC 49 (((w.alloc (.cells #[.slice a l.length c1] 49)).alloc (.cells #[.slice b m.length c2] 49)).alloc (.cells #[.slice none 0 0] 49)) w.heap.size [.slice a l.length c1]) := ((BlkC.new _ w [.slice a l.length c1]).still (grown_alloc _ _ none)).still (grown_alloc _ _ none)
  have HB2 : Hid (BlkC 49 (((w.alloc (.cells #[.slice a l.length c1] 49)).alloc (.cells #[.slice b m.length c2] 49)).alloc (.cells #[.slice none 0 0] 49)) (w.heap.size + 1) [.slice b m.length c2]) := (blk_at (cs := [.slice b m.length c2]) (by simp)).still (grown_alloc _ _ none)
  have HB3 : Hid (BlkC 49 (((w.alloc (.cells #[.slice a l.length c1] 49)).alloc (.cells #[.slice b m.length c2] 49)).alloc (.cells #[.slice none 0 0] 49)) (w.heap.size + 2) [.slice none 0 0]) := blk_at (cs := [.slice none 0 0]) (by simp)
  have HG : Hid (Below w.heap.size w (((w.alloc (.cells #[.slice a l.length c1] 49)).alloc (.cells #[.slice b m.length c2] 49)).alloc (.cells #[.slice none 0 0] 49))) := (((own_alloc _ _).alloc (by simp) _).alloc (by simp; omega) _).b
  have HR0 : Hid (MLessR w l m (.slice a l.length c1) (.slice b m.length c2) (l.length + 1) (.slice none 0 0) (.int .i64 0) (.int .i64 0) (((w.alloc (.cells #[.slice a l.length c1] 49)).alloc (.cells #[.slice b m.length c2] 49)).alloc (.cells #[.slice none 0 0] 49))) :=
    ⟨⟨0, [], 0, World.ownsRow_nil _ _ _ _, rfl, rfl, Dec.less_start _ _, Nat.zero_le _, by omega⟩, HB1.out, HB2.out, HB3.out, HG.out, by simp⟩
  clear HB1 HB2 HB3 HG
  go_enter Try.func116, Try.ntmps116
  go_wp2_with fail
  go_loopg [5, 6, 7] (l.length + 1) (fun k s5 s6 s7 wr => Hid (MLessR w l m (.slice a l.length c1) (.slice b m.length c2) k s5 s6 s7 wr))
  case atStart => exact HR0.out
  case round =>
    clear HR0
    obtain ⟨⟨i, o, c, hown, rfl, rfl, hat, hil, hik⟩, hb1, hb2, hb3, hb, hz⟩ := hrel.out
    have HOWN := Lib.hid hown
    have HAT := Lib.hid hat
    have HB1 := Lib.hid hb1
    have HB2 := Lib.hid hb2
    have HB3 := Lib.hid hb3
    have HBL := Lib.hid hb
    have hcb : c < 2 := hat.2.2.1
    clear hrel hown hat hb1 hb2 hb3 hb
    have y1 := HB1.out.cell 0
    have y2 := HB2.out.cell 0
    have y3 := HB3.out.cell 0
    have yf3 := HB3.out.free 0
    have yl3 := HB3.out.lt
    simp only [List.getElem?_cons_zero] at y1 y2 y3
    by_cases hlt : i < l.length
    · obtain ⟨p, hp⟩ : ∃ p, l[i]? = some p := ⟨l[i]'(by omega), List.getElem?_eq_getElem _⟩
      have hpb := HL1.out p (List.mem_of_getElem? hp)
      obtain ⟨g, ha, hgl, hcell⟩ := (HR1.out.keep (ki_below HBL.out)).cells (by rintro h; rw [h] at hlt; simp at hlt)
      subst ha
      have hc0 := hcell _ _ hp
      have HP := Lib.hid hp
      have hlt2 : (i : Int) < l.length := by omega
      clear hp hcell
      by_cases hm : i < m.length
      · obtain ⟨q, hq⟩ : ∃ q, m[i]? = some q := ⟨m[i]'(by omega), List.getElem?_eq_getElem _⟩
        have hqb := HL2.out q (List.mem_of_getElem? hq)
        obtain ⟨g2, ha2, hgl2, hcell2⟩ := (HR2.out.keep (ki_below HBL.out)).cells (by rintro h; rw [h] at hm; simp at hm)
        subst ha2
        have hc2 := hcell2 _ _ hq
        have HQ := Lib.hid hq
        have hm2 : (i : Int) < m.length := by omega
        clear hq hcell2
        by_cases hbo : p < q + c
        · obtain ⟨Z, hZ⟩ : ∃ Z, Z = p + 10000 - (q + c) := ⟨_, rfl⟩
          have hz1 : (p : Int) - (c : Int) - (q : Int) + 10000 = (Z : Int) := by omega
          have hn1 : (p : Int) - (c : Int) - (q : Int) < 0 := by omega
          have HN : Hid (Dec.LessAt l m (i + 1) (o ++ [Z]) 1) := Dec.less_both HAT.out HP.out HQ.out (by omega) (by omega) (by omega)
          clear hZ
          go_wp2_with (refine wpList_appI wr rfl (.tmp 39) (.tmp 41) rfl Z rfl rfl HOWN.out (by have := HAT.out.1; omega) hz ?_; intro v2 w2 hown2 hg2; have HOWN2 := Lib.hid hown2; have HG2 := Lib.hid hg2; clear hown2 hg2)
          go_roundg (gk - 1)
          case measure => omega
          case rel => exact ⟨⟨i + 1, o ++ [Z], 1, HOWN2.out, by first | rfl | go_num, by first | rfl | go_num, HN.out, by omega, by omega⟩, app_blk HB1.out HOWN.out (by omega) HG2.out, app_blk HB2.out HOWN.out (by omega) HG2.out, app_blk HB3.out HOWN.out (by omega) HG2.out, app_frame HBL.out HOWN.out (by omega) HG2.out, Nat.le_trans hz HG2.out.size⟩
        · obtain ⟨Z, hZ⟩ : ∃ Z, Z = p - (q + c) := ⟨_, rfl⟩
          have hz1 : (p : Int) - (c : Int) - (q : Int) = (Z : Int) := by omega
          have hn1 : ¬ (p : Int) - (c : Int) - (q : Int) < 0 := by omega
          have hn2 : ¬ (Z : Int) < 0 := by omega
          have HN : Hid (Dec.LessAt l m (i + 1) (o ++ [Z]) 0) := Dec.less_both HAT.out HP.out HQ.out (by omega) (by omega) (by omega)
          clear hZ
          go_wp2_with (refine wpList_appI wr rfl (.tmp 39) (.tmp 41) rfl Z rfl rfl HOWN.out (by have := HAT.out.1; omega) hz ?_; intro v2 w2 hown2 hg2; have HOWN2 := Lib.hid hown2; have HG2 := Lib.hid hg2; clear hown2 hg2)
          go_roundg (gk - 1)
          case measure => omega
          case rel => exact ⟨⟨i + 1, o ++ [Z], 0, HOWN2.out, by first | rfl | go_num, by first | rfl | go_num, HN.out, by omega, by omega⟩, app_blk HB1.out HOWN.out (by omega) HG2.out, app_blk HB2.out HOWN.out (by omega) HG2.out, app_blk HB3.out HOWN.out (by omega) HG2.out, app_frame HBL.out HOWN.out (by omega) HG2.out, Nat.le_trans hz HG2.out.size⟩
      · have hm2 : ¬ (i : Int) < m.length := by omega
        by_cases hbo : p < c
        · obtain ⟨Z, hZ⟩ : ∃ Z, Z = p + 10000 - c := ⟨_, rfl⟩
          have hz1 : (p : Int) - (c : Int) + 10000 = (Z : Int) := by omega
          have hn1 : (p : Int) - (c : Int) < 0 := by omega
          have HN : Hid (Dec.LessAt l m (i + 1) (o ++ [Z]) 1) := Dec.less_one HAT.out HP.out (by omega) (by omega) (by omega) (by omega)
          clear hZ
          go_wp2_with (refine wpList_appI wr rfl (.tmp 39) (.tmp 41) rfl Z rfl rfl HOWN.out (by have := HAT.out.1; omega) hz ?_; intro v2 w2 hown2 hg2; have HOWN2 := Lib.hid hown2; have HG2 := Lib.hid hg2; clear hown2 hg2)
          go_roundg (gk - 1)
          case measure => omega
          case rel => exact ⟨⟨i + 1, o ++ [Z], 1, HOWN2.out, by first | rfl | go_num, by first | rfl | go_num, HN.out, by omega, by omega⟩, app_blk HB1.out HOWN.out (by omega) HG2.out, app_blk HB2.out HOWN.out (by omega) HG2.out, app_blk HB3.out HOWN.out (by omega) HG2.out, app_frame HBL.out HOWN.out (by omega) HG2.out, Nat.le_trans hz HG2.out.size⟩
        · obtain ⟨Z, hZ⟩ : ∃ Z, Z = p - c := ⟨_, rfl⟩
          have hz1 : (p : Int) - (c : Int) = (Z : Int) := by omega
          have hn1 : ¬ (p : Int) - (c : Int) < 0 := by omega
          have hn2 : ¬ (Z : Int) < 0 := by omega
          have HN : Hid (Dec.LessAt l m (i + 1) (o ++ [Z]) 0) := Dec.less_one HAT.out HP.out (by omega) (by omega) (by omega) (by omega)
          clear hZ
          go_wp2_with (refine wpList_appI wr rfl (.tmp 39) (.tmp 41) rfl Z rfl rfl HOWN.out (by have := HAT.out.1; omega) hz ?_; intro v2 w2 hown2 hg2; have HOWN2 := Lib.hid hown2; have HG2 := Lib.hid hg2; clear hown2 hg2)
          go_roundg (gk - 1)
          case measure => omega
          case rel => exact ⟨⟨i + 1, o ++ [Z], 0, HOWN2.out, by first | rfl | go_num, by first | rfl | go_num, HN.out, by omega, by omega⟩, app_blk HB1.out HOWN.out (by omega) HG2.out, app_blk HB2.out HOWN.out (by omega) HG2.out, app_blk HB3.out HOWN.out (by omega) HG2.out, app_frame HBL.out HOWN.out (by omega) HG2.out, Nat.le_trans hz HG2.out.size⟩
    · have hil2 : i = l.length := by omega
      have hlt2 : ¬ (i : Int) < l.length := by omega
      obtain ⟨he1, he2, he3⟩ := Dec.less_done (l := l) (m := m) (o := o) (by rw [← hil2]; exact HAT.out) HML.out (by rw [HX.out, HY.out]; exact HYX.out)
      have HE := Lib.hid he1
      have HV : Hid (Dec.valL o = x - y) := by show _ = _; rw [he3, HX.out, HY.out]
      obtain ⟨a3, c3, rfl, hac, hrow⟩ := rowI_owns HOWN.out
      have HROW := Lib.hid hrow
      clear hil2 he1 he3 hrow
      go_wp2_with fail
      refine (mcut_any o _ _ _ _ he2 HE.out HROW.out hac (by rw [he2]; omega)).mono ?_
      rintro e3 w3 ⟨v3, rfl, hv3, hg3⟩
      rw [HV.out] at hv3
      have HV3 := Lib.hid hv3
      have HB33 := Lib.hid (HB3.out.still (grown_of_below hg3 none))
      have HW3 : Hid (Below w.heap.size w w3) := Lib.hid (HBL.out.trans (hg3.mono HBL.out.size))
      have hlt3 := HB33.out.lt
      have hc3 := HB33.out.cell 0
      have hf3 := HB33.out.free 0
      simp only [List.getElem?_cons_zero] at hc3
      obtain ⟨a4, c4, rfl, _⟩ := hv3
      clear hg3
      go_wp2_with fail
      exact m_ret rfl rfl rfl (HB33.out.set 0 _) ⟨_, rfl, m_shut HV3.out HB33.out (by decide) HW3.out (by omega)⟩
end Go.Proofs.Ytnojfiokdhcbjaa

namespace Go.Proofs.Ytnojfiokdhcbjaa
open Go Go.RowKit

theorem ints_made (w : World) (n : Nat) (hn : n ≤ 10000000) : ∃ w', (Instr.makeSlice 47 (.int .i64 (n : Int)) (.int .i64 (n : Int))).run Try.prog w = .ok (.slice (some ⟨w.heap.size, 0, none⟩) n n) w' ∧ BlkC 3 w' w.heap.size (ints (List.replicate n 0)) ∧ Gr w w' := by
  obtain ⟨i0, hi, hz0, hz1, hz2⟩ := info_parts intInfo
  obtain ⟨w', h1, h2, h3⟩ := run_make_full (P := Try.prog) w w.heap.size 47 3 i0 (.int .i64 0) 1 Try.underlying47 hi hz0 hz1 .i64 .i64 n (by rw [hz2]; omega) (by unfold maxLen; omega) (Nat.le_refl _)
  refine ⟨w', h1, ?_, gr_of_grown h3 (run_drawn _ h1)⟩
  have e : (madeCells (Value.int .i64 0).cells (n * 1)).toList = ints (List.replicate n 0) := by
    rw [Nat.mul_one]
    show (madeCells #[.int .i64 0] n).toList = _
    unfold ints
    rw [toList_madeCells_one, List.map_replicate]
    rfl
  rw [e] at h2
  exact blk_of_full h2
theorem ints_set {T : TypeId} {w : World} {g : Nat} {o : List Nat} (h : BlkC T w g (ints o)) (j z : Nat) : BlkC T (w.setCell ⟨g, j, none⟩ (.int .i64 z)) g (ints (o.set j z)) := by
  have := h.set j (.int .i64 z)
  unfold ints at this ⊢
  rw [← List.map_set (f := fun x : Nat => Value.int .i64 x)] at this
  exact this
theorem ints_get {T : TypeId} {w : World} {g : Nat} {o : List Nat} (h : BlkC T w g (ints o)) {j z : Nat} (hz : o[j]? = some z) : w.cell? ⟨g, j, none⟩ = some (Value.int .i64 (z : Nat)) := by
  rw [h.cell j]
  unfold ints
  simp [hz]
theorem rowI_at {w : World} {g : Nat} {o : List Nat} (h : BlkC 3 w g (ints o)) : RowI w (some ⟨g, 0, none⟩) o :=
  .inr ⟨g, _, rfl, h, fun j x hx => by unfold ints; simp [hx]⟩

def MMulR (w : World) (l m : List Nat) (u1 u2 : Value) (k : Nat) (u : Value) (wr : World) : Prop :=
  ∃ (i : Nat) (o : List Nat), u = .int .i64 i ∧ Dec.MulAt l m i o ∧ i ≤ l.length ∧ l.length < k + i ∧ BlkC 3 wr (w.heap.size + 1 + 1 + 1) (ints o) ∧ BlkC 49 wr w.heap.size [u1] ∧ BlkC 49 wr (w.heap.size + 1) [u2] ∧ BlkC 49 wr (w.heap.size + 1 + 1) [.slice none 0 0] ∧ Below w.heap.size w wr
def MMulIn (w : World) (l m : List Nat) (u1 u2 : Value) (i x k : Nat) (cv u : Value) (wr : World) : Prop :=
  ∃ (j : Nat) (o : List Nat) (c : Nat), cv = .int .i64 c ∧ u = .int .i64 j ∧ Dec.MulIn l m i x j o c ∧ j ≤ m.length ∧ m.length < k + j ∧ BlkC 3 wr (w.heap.size + 1 + 1 + 1) (ints o) ∧ BlkC 49 wr w.heap.size [u1] ∧ BlkC 49 wr (w.heap.size + 1) [u2] ∧ BlkC 49 wr (w.heap.size + 1 + 1) [.slice none 0 0] ∧ Below w.heap.size w wr
/-- The last digit's carry: ahead of its one step, or behind it. -/
def MMulC (w : World) (l m : List Nat) (u1 u2 : Value) (i x k : Nat) (cv u : Value) (wr : World) : Prop :=
  ∃ (o : List Nat) (c j : Nat), cv = .int .i64 c ∧ u = .int .i64 j ∧ ((j = i + m.length ∧ Dec.MulIn l m i x m.length o c ∧ 2 ≤ k) ∨ (c = 0 ∧ j = i + m.length + 1 ∧ Dec.MulAt l m (i + 1) o ∧ 1 ≤ k)) ∧ BlkC 3 wr (w.heap.size + 1 + 1 + 1) (ints o) ∧ BlkC 49 wr w.heap.size [u1] ∧ BlkC 49 wr (w.heap.size + 1) [u2] ∧ BlkC 49 wr (w.heap.size + 1 + 1) [.slice none 0 0] ∧ Below w.heap.size w wr
theorem below_drewN {B : Nat} {a w : World} (h : Below B a w) (n : Nat) : Below B a (w.drewN n) := ⟨h.os, h.tape, h.output, h.size, h.block⟩
theorem set_same {o : List Nat} {j x : Nat} (h : o[j]? = some x) : o.set j x = o := by
  apply List.ext_getElem?
  intro k
  rw [List.getElem?_set]
  split
  · rename_i e
    subst e
    have := (List.getElem?_eq_some_iff.1 h).1
    rw [if_pos this, h]
  · rfl

set_option maxHeartbeats 3000000 in
set_option maxRecDepth 100000 in
theorem mmul_any (x y : Nat) (v u : Value) (w : World) (hv : MIs w v x) (hu : MIs w u y) (hx : (Dec.limbs x).length ≤ 1000000) (hy : (Dec.limbs y).length ≤ 1000000) :
    Calls Try.prog 105 #[v, u] w fun e w' => ∃ r, e = .returned r ∧ MIs w' r (x * y) ∧ Below w.heap.size w w' := by
  obtain ⟨a, c1, rfl, hc1, hr⟩ := hv
  obtain ⟨b, c2, rfl, hc2, hs⟩ := hu
  have HX := Lib.hid (Dec.val_limbs x)
  have HY := Lib.hid (Dec.val_limbs y)
  have HLX := Lib.hid (Dec.limbs_limb x)
  have HLY := Lib.hid (Dec.limbs_limb y)
  have HR := Lib.hid hr
  have HS := Lib.hid hs
  clear hr hs hc1 hc2
  obtain ⟨l, hl⟩ : ∃ l, l = Dec.limbs x := ⟨_, rfl⟩
  obtain ⟨m, hm⟩ : ∃ m, m = Dec.limbs y := ⟨_, rfl⟩
  rw [← hl] at HX HLX HR hx ⊢
  rw [← hm] at HY HLY HS hy ⊢
  clear hl hm
  obtain ⟨w1, hmk, hb0, hgk⟩ := ints_made (((w.alloc (.cells #[.slice a l.length c1] 49)).alloc (.cells #[.slice b m.length c2] 49)).alloc (.cells #[.slice none 0 0] 49)) (l.length + m.length + 1) (by omega)
  have HB1 : Hid (BlkC 49 (((w.alloc (.cells #[.slice a l.length c1] 49)).alloc (.cells #[.slice b m.length c2] 49)).alloc (.cells #[.slice none 0 0] 49)) w.heap.size [.slice a l.length c1]) := ((BlkC.new _ w [.slice a l.length c1]).still (grown_alloc _ _ none)).still (grown_alloc _ _ none)
  have HB2 : Hid (BlkC 49 (((w.alloc (.cells #[.slice a l.length c1] 49)).alloc (.cells #[.slice b m.length c2] 49)).alloc (.cells #[.slice none 0 0] 49)) (w.heap.size + 1) [.slice b m.length c2]) := (blk_at (cs := [.slice b m.length c2]) (by simp)).still (grown_alloc _ _ none)
  have HB3 : Hid (BlkC 49 (((w.alloc (.cells #[.slice a l.length c1] 49)).alloc (.cells #[.slice b m.length c2] 49)).alloc (.cells #[.slice none 0 0] 49)) (w.heap.size + 1 + 1) [.slice none 0 0]) := blk_at (cs := [.slice none 0 0]) (by simp)
  have HG : Hid (Own w.heap.size w (((w.alloc (.cells #[.slice a l.length c1] 49)).alloc (.cells #[.slice b m.length c2] 49)).alloc (.cells #[.slice none 0 0] 49))) := ((own_alloc _ _).alloc (by simp) _).alloc (by simp; omega) _
  have HC1 := Lib.hid (HB1.out.still (Gr.grown hgk))
  have HC2 := Lib.hid (HB2.out.still (Gr.grown hgk))
  have HC3 := Lib.hid (HB3.out.still (Gr.grown hgk))
  have HG1 : Hid (Below w.heap.size w w1) := Lib.hid (HG.out.call HG.out.size hgk).b
  simp only [World.size_alloc] at hmk hb0
  push_cast at hmk
  have HOUT := Lib.hid hb0
  have hwz : w.heap.size + 1 + 1 + 1 < w1.heap.size := hb0.lt
  have hd1 := HC1.out.cell 0
  have hd2 := HC2.out.cell 0
  simp only [List.getElem?_cons_zero] at hd1 hd2
  clear hb0 hgk HB1 HB2 HB3 HG
  go_enter Try.func105, Try.ntmps105
  go_wp2_with fail
  go_loopg [6] (l.length + 1) (fun k u wr => Hid (MMulR w l m (.slice a l.length c1) (.slice b m.length c2) k u wr))
  case atStart => exact ⟨0, _, rfl, Dec.mul_start l m, Nat.zero_le _, by omega, HOUT.out, HC1.out, HC2.out, HC3.out, HG1.out⟩
  case round =>
    clear HOUT HC1 HC2 HC3 HG1 hd1 hd2 hmk
    obtain ⟨i, o, rfl, hat, hil, hik, hbo, hb1, hb2, hb3, hg⟩ := hrel.out
    obtain ⟨wo, hwo⟩ : ∃ q : World, q = wr := ⟨_, rfl⟩
    subst hwo
    obtain ⟨gO, hgO⟩ : ∃ q, q = gk := ⟨_, rfl⟩
    subst hgO
    have HAT := Lib.hid hat
    have HOUT := Lib.hid hbo
    have HB1 := Lib.hid hb1
    have HB2 := Lib.hid hb2
    have HB3 := Lib.hid hb3
    have HG := Lib.hid hg
    clear hrel hat hbo hb1 hb2 hb3 hg
    have hb1 := HB1.out.cell 0
    have hb2 := HB2.out.cell 0
    have hb3 := HB3.out.cell 0
    have hf3 := HB3.out.free 0
    have hsz3 := HB3.out.lt
    simp only [List.getElem?_cons_zero] at hb1 hb2 hb3
    by_cases hlt : i < l.length
    · obtain ⟨p, hp⟩ : ∃ p, l[i]? = some p := ⟨l[i]'(by omega), List.getElem?_eq_getElem _⟩
      have hpb := HLX.out p (List.mem_of_getElem? hp)
      have HP := Lib.hid hp
      have hlt2 : (i : Int) < l.length := by omega
      clear hp
      go_wp2_with fail
      go_loopg [7, 8] (m.length + 1) (fun k c u wr => Hid (MMulIn w l m (.slice a l.length c1) (.slice b m.length c2) i p k c u wr))
      case atStart => exact ⟨0, o, 0, rfl, rfl, Dec.mul_in HAT.out, Nat.zero_le _, by omega, HOUT.out, HB1.out, HB2.out, HB3.out, HG.out⟩
      case round =>
        clear HOUT HAT HB1 HB2 HB3 HG hb1 hb2 hb3 hf3 hsz3
        obtain ⟨j, o, c, rfl, rfl, hat, hjl, hjk, hbo, hb1, hb2, hb3, hg⟩ := hrel.out
        have HAT := Lib.hid hat
        have hcb : c < 10000 := hat.2.2.1
        have HOUT := Lib.hid hbo
        have HB1 := Lib.hid hb1
        have HB2 := Lib.hid hb2
        have HB3 := Lib.hid hb3
        have HG := Lib.hid hg
        clear hrel hat hbo hb1 hb2 hb3 hg
        have hb1 := HB1.out.cell 0
        have hb2 := HB2.out.cell 0
        have hb3 := HB3.out.cell 0
        have hf3 := HB3.out.free 0
        have hsz3 := HB3.out.lt
        simp only [List.getElem?_cons_zero] at hb1 hb2 hb3
        by_cases hjt : j < m.length
        · obtain ⟨g, ha, hgl, hcell⟩ := (HR.out.keep (ki_below HG.out)).cells (by rintro h; rw [h] at hlt; simp at hlt)
          subst ha
          have hc0 := hcell _ _ HP.out
          obtain ⟨q, hq⟩ : ∃ q, m[j]? = some q := ⟨m[j]'(by omega), List.getElem?_eq_getElem _⟩
          have hqb := HLY.out q (List.mem_of_getElem? hq)
          obtain ⟨g2, ha2, hgl2, hcell2⟩ := (HS.out.keep (ki_below HG.out)).cells (by rintro h; rw [h] at hjt; simp at hjt)
          subst ha2
          have hc2 := hcell2 _ _ hq
          have HQ := Lib.hid hq
          obtain ⟨r, hr, hrb⟩ := Dec.mul_at HAT.out hlt hjt
          have HRR := Lib.hid hr
          have hc3 := ints_get HOUT.out hr
          have hf4 := HOUT.out.free (i + j)
          have hjt2 : (j : Int) < m.length := by omega
          obtain ⟨M, hM⟩ : ∃ M, M = p * q := ⟨_, rfl⟩
          have hMb : M ≤ 9999 * 9999 := by rw [hM]; exact Nat.mul_le_mul (by omega) (by omega)
          have hM2 : (p : Int) * (q : Int) = (M : Int) := by rw [hM]; push_cast; rfl
          obtain ⟨Z, hZ⟩ : ∃ Z, Z = (c + (M + r)) % 10000 := ⟨_, rfl⟩
          obtain ⟨C, hC⟩ : ∃ C, C = (c + (M + r)) / 10000 := ⟨_, rfl⟩
          have hz : ((c : Int) + (r : Int) + (M : Int)) % 10000 = (Z : Int) := by omega
          have hc : ((c : Int) + (r : Int) + (M : Int)) / 10000 = (C : Int) := by omega
          have hij : ((i : Int) + (j : Int)).toNat = i + j := by omega
          have hij1 : (i : Int) + (j : Int) < (l.length : Int) + (m.length : Int) + 1 := by omega
          have hij0 : 0 ≤ (i : Int) + (j : Int) := by omega
          have HN : Hid (Dec.MulIn l m i p (j + 1) (o.set (i + j) Z) C) := by rw [hZ, hC, hM]; exact Dec.mul_one HAT.out hpb HQ.out hqb HRR.out
          clear hq hcell hcell2 hZ hC hM hr
          go_wp2_with fail
          go_quiet (fail)
          go_wp2_with fail
          go_roundg (gk - 1)
          case measure => omega
          case rel =>
            exact ⟨j + 1, o.set (i + j) Z, C, by first | rfl | go_num, by first | rfl | go_num, HN.out, by omega, by omega, ints_set (w := wr.drewN nq) HOUT.out _ _, BlkC.set_ne (w := wr.drewN nq) HB1.out (by omega) _ _, BlkC.set_ne (w := wr.drewN nq) HB2.out (by omega) _ _, BlkC.set_ne (w := wr.drewN nq) HB3.out (by omega) _ _, (below_drewN HG.out nq).setCell (by show w.heap.size ≤ w.heap.size + 1 + 1 + 1; omega) _⟩
        · have hjm : j = m.length := by omega
          have hjt2 : ¬ (j : Int) < m.length := by omega
          have HIN : Hid (Dec.MulIn l m i p m.length o c) := by rw [← hjm]; exact HAT.out
          clear hjm HAT
          go_wp2_with fail
          go_loopg [7, 9] 2 (fun k c u wr => Hid (MMulC w l m (.slice a l.length c1) (.slice b m.length c2) i p k c u wr))
          case atStart => exact ⟨o, c, i + m.length, rfl, by first | rfl | go_num, .inl ⟨rfl, HIN.out, Nat.le_refl _⟩, HOUT.out, HB1.out, HB2.out, HB3.out, HG.out⟩
          case round =>
            clear HOUT HIN HB1 HB2 HB3 HG hb1 hb2 hb3 hf3 hsz3 hcb
            obtain ⟨o, c, j2, rfl, rfl, hst, hbo, hb1, hb2, hb3, hg⟩ := hrel.out
            have HOUT := Lib.hid hbo
            have HB1 := Lib.hid hb1
            have HB2 := Lib.hid hb2
            have HB3 := Lib.hid hb3
            have HG := Lib.hid hg
            clear hrel hbo hb1 hb2 hb3 hg
            have hb1 := HB1.out.cell 0
            have hb2 := HB2.out.cell 0
            have hb3 := HB3.out.cell 0
            have hf3 := HB3.out.free 0
            have hsz3 := HB3.out.lt
            simp only [List.getElem?_cons_zero] at hb1 hb2 hb3
            rcases hst with ⟨rfl, hin, hk2⟩ | ⟨rfl, rfl, hat, hk1⟩
            · have HIN := Lib.hid hin
              have hcb : c < 10000 := hin.2.2.1
              have h0 : o[i + m.length]? = some 0 := hin.2.2.2.2 (i + m.length) (Nat.le_refl _) (by omega)
              have H0 := Lib.hid h0
              clear hin
              by_cases hcz : 0 < c
              · have hcz2 : (0 : Int) < (c : Int) := by omega
                have hc3 := ints_get HOUT.out h0
                have hf4 := HOUT.out.free (i + m.length)
                have hz : (c : Int) % 10000 = (c : Int) := by omega
                have hd0 : (c : Int) / 10000 = 0 := by omega
                have him1 : (i : Int) + (m.length : Int) < (l.length : Int) + (m.length : Int) + 1 := by omega
                have hij : ((i : Int) + (m.length : Int)).toNat = i + m.length := by omega
                have hij0 : 0 ≤ (i : Int) + (m.length : Int) := by omega
                have HN : Hid (Dec.MulAt l m (i + 1) (o.set (i + m.length) c)) := Dec.mul_out HIN.out HP.out
                clear h0 H0 HIN
                go_wp2_with fail
                go_roundg (gk - 1)
                case measure => omega
                case rel =>
                  exact ⟨o.set (i + m.length) c, 0, i + m.length + 1, by first | rfl | go_num, by first | rfl | go_num, .inr ⟨rfl, rfl, HN.out, by omega⟩, ints_set HOUT.out _ _, HB1.out.set_ne (by omega) _ _, HB2.out.set_ne (by omega) _ _, HB3.out.set_ne (by omega) _ _, HG.out.setCell (by show w.heap.size ≤ w.heap.size + 1 + 1 + 1; omega) _⟩
              · obtain rfl : c = 0 := by omega
                have HN : Hid (Dec.MulAt l m (i + 1) o) := by
                  have := Dec.mul_out HIN.out HP.out
                  rwa [set_same H0.out] at this
                clear h0 H0 HIN
                go_wp2_with fail
                go_roundg (gO - 1)
                case measure => omega
                case rel =>
                  exact ⟨i + 1, o, by first | rfl | go_num, HN.out, by omega, by omega, HOUT.out, HB1.out, HB2.out, HB3.out, HG.out⟩
            · have HN := Lib.hid hat
              clear hat
              go_wp2_with fail
              go_roundg (gO - 1)
              case measure => omega
              case rel =>
                exact ⟨i + 1, o, by first | rfl | go_num, HN.out, by omega, by omega, HOUT.out, HB1.out, HB2.out, HB3.out, HG.out⟩
    · have hil2 : i = l.length := by omega
      have hlt2 : ¬ (i : Int) < l.length := by omega
      obtain ⟨he1, he2, he3⟩ := Dec.mul_end (l := l) (m := m) (o := o) (by rw [← hil2]; exact HAT.out)
      have HE := Lib.hid he1
      have HV : Hid (Dec.valL o = x * y) := by show _ = _; rw [he3, HX.out, HY.out]
      have HROW : Hid (RowI wo (some ⟨w.heap.size + 1 + 1 + 1, 0, none⟩) o) := rowI_at HOUT.out
      clear hil2 he1 he3
      go_wp2_with fail
      refine (mcut_any o _ _ _ _ he2 HE.out HROW.out (by rw [he2]; exact Nat.le_refl _) (by rw [he2]; omega)).mono ?_
      rintro e3 w3 ⟨v3, rfl, hv3, hg3⟩
      rw [HV.out] at hv3
      have HV3 := Lib.hid hv3
      have HB33 := Lib.hid (HB3.out.still (grown_of_below hg3 none))
      have HW3 : Hid (Below w.heap.size w w3) := Lib.hid (HG.out.trans (hg3.mono HG.out.size))
      have hlt3 := HB33.out.lt
      have hc3 := HB33.out.cell 0
      have hf3 := HB33.out.free 0
      simp only [List.getElem?_cons_zero] at hc3
      obtain ⟨a4, c4, rfl, _⟩ := hv3
      clear hg3
      go_wp2_with fail
      exact m_ret rfl rfl rfl (HB33.out.set 0 _) ⟨_, rfl, m_shut HV3.out HB33.out (by decide) HW3.out (by omega)⟩
end Go.Proofs.Ytnojfiokdhcbjaa

namespace Go.Proofs.Ytnojfiokdhcbjaa
open Go Go.RowKit

theorem JIs.parts {w : World} {v : Value} {z : Int} (h : JIs w v z) : ∃ (S : Int) (a : Option Addr) (n c : Nat), v = .agg #[.int .i64 S, .slice a n c] ∧ MIs w (.agg #[.slice a n c]) z.natAbs ∧ S * (z.natAbs : Int) = z ∧ (S = 1 ∧ 0 < z ∨ S = -1 ∧ z < 0 ∨ S = 0 ∧ z = 0) := by
  obtain ⟨a, c, rfl, h1, h2⟩ := h
  refine ⟨_, a, _, c, rfl, ⟨a, c, rfl, h1, h2⟩, Int.sign_mul_natAbs z, ?_⟩
  rcases Int.lt_trichotomy z 0 with h | h | h
  · exact .inr (.inl ⟨Int.sign_eq_neg_one_of_neg h, h⟩)
  · exact .inr (.inr ⟨by rw [h]; rfl, h⟩)
  · exact .inl ⟨Int.sign_eq_one_of_pos h, h⟩
theorem j_cs {w : World} {cs : List Value} {z : Int} (h : JIs w (.agg cs.toArray) z) : ∃ (a : Option Addr) (c : Nat), cs = [.int .i64 z.sign, .slice a (Dec.limbs z.natAbs).length c] := by
  obtain ⟨a, c, e, _⟩ := h
  simp only [Value.agg.injEq] at e
  exact ⟨a, c, congrArg Array.toList e⟩
theorem len2 {cs : List Value} (h : cs.length = 2) : ∃ a b, cs = [a, b] := by
  match cs, h with
  | [a, b], _ => exact ⟨a, b, rfl⟩
section
variable (w : World) (S1 S2 : Int) (a1 a2 : Option Addr) (n1 c1 n2 c2 : Nat)
abbrev ijW : World := (((w.alloc (.cells #[.int .i64 S1, .slice a1 n1 c1] 51)).alloc (.cells #[.int .i64 S2, .slice a2 n2 c2] 51)).alloc (.cells #[.int .i64 0, .slice none 0 0] 51))
theorem ijW_1 : BlkC 51 (ijW w S1 S2 a1 a2 n1 c1 n2 c2) w.heap.size [.int .i64 S1, .slice a1 n1 c1] := ((BlkC.new _ w [.int .i64 S1, .slice a1 n1 c1]).still (grown_alloc _ _ none)).still (grown_alloc _ _ none)
theorem ijW_2 : BlkC 51 (ijW w S1 S2 a1 a2 n1 c1 n2 c2) (w.heap.size + 1) [.int .i64 S2, .slice a2 n2 c2] := (blk_at (cs := [.int .i64 S2, .slice a2 n2 c2]) (by simp)).still (grown_alloc _ _ none)
theorem ijW_3 : BlkC 51 (ijW w S1 S2 a1 a2 n1 c1 n2 c2) (w.heap.size + 1 + 1) [.int .i64 0, .slice none 0 0] := blk_at (cs := [.int .i64 0, .slice none 0 0]) (by simp)
theorem ijW_g : Own w.heap.size w (ijW w S1 S2 a1 a2 n1 c1 n2 c2) := ((own_alloc _ _).alloc (by simp) _).alloc (by simp; omega) _
end

set_option maxHeartbeats 4000000 in
set_option maxRecDepth 100000 in
theorem jneg_any (z : Int) (v : Value) (w : World) (hv : JIs w v z) :
    Calls Try.prog 104 #[v] w fun e w' => ∃ r, e = .returned r ∧ JIs w' r (-z) ∧ Below w.heap.size w w' := by
  obtain ⟨Z, hZ⟩ : ∃ Z, -z = Z := ⟨_, rfl⟩
  rw [hZ]
  have HZ := Lib.hid hZ
  clear hZ
  obtain ⟨S1, a1, n1, c1, rfl, hm, he, hs⟩ := hv.parts
  have hsb : -1 ≤ S1 ∧ S1 ≤ 1 := by omega
  have HE := Lib.hid he
  have HS : Hid (-S1 = 1 ∨ -S1 = -1 ∨ z.natAbs = 0) := Lib.hid (by omega)
  have HB1 : Hid (BlkC 51 ((w.alloc (.cells #[.int .i64 S1, .slice a1 n1 c1] 51)).alloc (.cells #[.int .i64 0, .slice none 0 0] 51)) w.heap.size [.int .i64 S1, .slice a1 n1 c1]) := (BlkC.new _ w [.int .i64 S1, .slice a1 n1 c1]).still (grown_alloc _ _ none)
  have HB2 : Hid (BlkC 51 ((w.alloc (.cells #[.int .i64 S1, .slice a1 n1 c1] 51)).alloc (.cells #[.int .i64 0, .slice none 0 0] 51)) (w.heap.size + 1) [.int .i64 0, .slice none 0 0]) := blk_at (cs := [.int .i64 0, .slice none 0 0]) (by simp)
  have HG : Hid (Own w.heap.size w ((w.alloc (.cells #[.int .i64 S1, .slice a1 n1 c1] 51)).alloc (.cells #[.int .i64 0, .slice none 0 0] 51))) := (own_alloc _ _).alloc (by simp) _
  have HM := Lib.hid (hm.keep (ki_below HG.out.b))
  clear hm hs hv he
  go_enter Try.func104, Try.ntmps104
  go_wp2_with fail
  refine (jmade_any (-S1) z.natAbs _ _ HM.out HS.out).mono ?_
  rintro e w1 ⟨r, rfl, hr, hg1⟩
  have HC2 := Lib.hid (HB2.out.still (grown_of_below hg1 none))
  have HG1 : Hid (Below w.heap.size w w1) := Lib.hid (HG.out.b.trans (hg1.mono HG.out.size))
  have HJ : Hid (JIs w1 r Z) := Lib.hid (by rw [← HZ.out, show -z = -S1 * (z.natAbs : Int) by rw [Int.neg_mul, HE.out]]; exact hr)
  clear hr hg1 HB1 HB2 HG HM
  obtain ⟨a8, c8, rfl, hc8, hr8⟩ := HJ.out
  have x0 := HC2.out.cell 0
  have x1 := HC2.out.cell 1
  have f0 := HC2.out.free 0
  have f1 := HC2.out.free 1
  have lt := HC2.out.lt
  simp only [List.getElem?_cons_zero, List.getElem?_cons_succ] at x0 x1
  have HF := Lib.hid (j_shut (T := 51) HC2.out (by decide) hc8 hr8 HG1.out (Nat.le_succ _))
  clear hc8 hr8
  go_wp2_with fail
  exact j_ret rfl rfl rfl HF.out.1 ⟨_, rfl, HF.out.2⟩

theorem cmpZ_sign {x y S : Int} (h1 : S * (x.natAbs : Int) = x) (h2 : S * (y.natAbs : Int) = y) (hs : S = 1 ∨ S = -1 ∨ S = 0) : S * cmpZ ((x.natAbs : Nat) : Int) ((y.natAbs : Nat) : Int) = cmpZ x y := by
  unfold cmpZ
  rcases hs with rfl | rfl | rfl
  · rw [Int.one_mul] at h1 h2 ⊢
    rw [h1, h2]
  · split <;> split <;> (try split) <;> (try split) <;> omega
  · rw [Int.zero_mul] at h1 h2 ⊢
    rw [← h1, ← h2]
    simp
set_option maxHeartbeats 4000000 in
set_option maxRecDepth 100000 in
theorem jcmp_any (x y : Int) (v u : Value) (w : World) (hv : JIs w v x) (hu : JIs w u y) (hlx : (Dec.limbs x.natAbs).length ≤ 1000000) (hly : (Dec.limbs y.natAbs).length ≤ 1000000) :
    Calls Try.prog 89 #[v, u] w fun e w' => e = .returned (.int .i64 (cmpZ x y)) ∧ Below w.heap.size w w' := by
  have hv0 := hv
  have hu0 := hu
  obtain ⟨S1, a1, n1, c1, rfl, hm1, he1, hs1⟩ := hv.parts
  obtain ⟨S2, a2, n2, c2, rfl, hm2, he2, hs2⟩ := hu.parts
  have HJ1 := Lib.hid hv0
  have HJ2 := Lib.hid hu0
  have HM1 := Lib.hid hm1
  have HM2 := Lib.hid hm2
  have HE1 := Lib.hid he1
  have HE2 := Lib.hid he2
  have HLX := Lib.hid hlx
  have HLY := Lib.hid hly
  have HS1 := Lib.hid hs1
  have HS2 := Lib.hid hs2
  have hsb1 : -1 ≤ S1 ∧ S1 ≤ 1 := by omega
  have hsb2 : -1 ≤ S2 ∧ S2 ≤ 1 := by omega
  clear hv hu hv0 hu0 hm1 hm2 he1 he2 hlx hly hs1 hs2
  have HB1 : Hid (BlkC 51 ((w.alloc (.cells #[.int .i64 S1, .slice a1 n1 c1] 51)).alloc (.cells #[.int .i64 S2, .slice a2 n2 c2] 51)) w.heap.size [.int .i64 S1, .slice a1 n1 c1]) := (BlkC.new _ w [.int .i64 S1, .slice a1 n1 c1]).still (grown_alloc _ _ none)
  have HB2 : Hid (BlkC 51 ((w.alloc (.cells #[.int .i64 S1, .slice a1 n1 c1] 51)).alloc (.cells #[.int .i64 S2, .slice a2 n2 c2] 51)) (w.heap.size + 1) [.int .i64 S2, .slice a2 n2 c2]) := blk_at (cs := [.int .i64 S2, .slice a2 n2 c2]) (by simp)
  have HG : Hid (Own w.heap.size w ((w.alloc (.cells #[.int .i64 S1, .slice a1 n1 c1] 51)).alloc (.cells #[.int .i64 S2, .slice a2 n2 c2] 51))) := (own_alloc _ _).alloc (by simp) _
  have mixed : Try.prog.follows .mixedOrders = true := by kernel_rfl
  go_enter Try.func89, Try.ntmps89
  rcases Int.lt_trichotomy S1 S2 with hlt | heq | hgt
  · have hres : cmpZ x y = -1 := by
      have h1 := HS1.out
      have h2 := HS2.out
      unfold cmpZ
      rw [if_pos (by omega)]
    go_wp2_with fail
    go_ret
    exact ⟨by first | rfl | exact ret_int hres.symm, HG.out.b⟩
  · have hnl : ¬ S1 < S2 := by omega
    have hnl2 : ¬ S2 < S1 := by omega
    have HCM : Hid (IntKind.i64.wrap (S1 * (cmpZ ((x.natAbs : Nat) : Int) ((y.natAbs : Nat) : Int))) = cmpZ x y) := by
      have h1 := HS1.out
      have e := cmpZ_sign HE1.out (heq ▸ HE2.out) (by omega)
      have hb : -1 ≤ cmpZ x y ∧ cmpZ x y ≤ 1 := by unfold cmpZ; split <;> (try split) <;> omega
      show _ = _
      rw [e, IntKind.wrap_i64]
      omega
    clear heq
    go_wp2_with fail
    refine region_kk (by kernel_rfl) (by kernel_rfl) rfl (KK) (fun | 0 => .is (.pointer (some ⟨w.heap.size, 0, none⟩)) | 1 => .is ((.int .i64 S1)) | 2 => .is (.pointer (some ⟨w.heap.size, 1, none⟩)) | 3 => .is (.agg #[.slice a1 n1 c1]) | 4 => .is (.pointer (some ⟨(w.heap.size + 1), 1, none⟩)) | 5 => .is (.agg #[.slice a2 n2 c2]) | 6 => .is (.int .i64 (cmpZ ((x.natAbs : Nat) : Int) ((y.natAbs : Nat) : Int))) | 7 => .is (.int .i64 (cmpZ x y)) | 8 => .is (.int .i64 (cmpZ x y)) | _ => .any) (MK w.heap.size w w [(51, w.heap.size, [.int .i64 S1, .slice a1 n1 c1]), (51, (w.heap.size + 1), [.int .i64 S2, .slice a2 n2 c2])] []) (fun f g a w hn h => MK.ext (n := 9) (by simp) hn h) ?_ ?_ ?_
    · exact ⟨HG.out.b.drew, kk_below HG.out.b.drew, HG.out.size, (by intro q hq; simp only [List.mem_cons, List.not_mem_nil, or_false] at hq; rcases hq with rfl | rfl; exact HB1.out; exact HB2.out), (fun t ht => by cases ht), (fun t u ht => by cases ht)⟩
    · intro i o f A W hi hJ hf hdep hdn hcl hfr hsz
      rcases i with _ | _ | _ | _ | _ | _ | _ | _ | _ | i
      all_goals (simp at hi)
      all_goals (try subst hi)
      · have t2 := hfr 2 (by simp)
        refine par_value (v := .pointer (some ⟨w.heap.size, 0, none⟩)) (w' := W) ?_ ⟨KK.refl _, hJ.same _ _ _ (by simp), rfl⟩
        simp [go_sem, Act.eval, t2]
      · have t15 : A.tmps.getD 15 undef = .pointer (some ⟨w.heap.size, 0, none⟩) := hdep 0 _ 15 rfl (by kernel_rfl) rfl
        have hb0 : BlkC 51 W w.heap.size [.int .i64 S1, .slice a1 n1 c1] := hJ.kept (51, w.heap.size, [.int .i64 S1, .slice a1 n1 c1]) (by simp)
        have x00 : W.cell? ⟨w.heap.size, 0, none⟩ = some (.int .i64 S1) := by rw [hb0.cell 0]; rfl
        have x01 : W.cell? ⟨w.heap.size, 1, none⟩ = some (.slice a1 n1 c1) := by rw [hb0.cell 1]; rfl
        refine par_value (v := (.int .i64 S1)) (w' := W) ?_ ⟨KK.refl _, hJ.same _ _ _ (by simp), rfl⟩
        simp [go_sem, Act.eval, t15, x00]
      · have t2 := hfr 2 (by simp)
        refine par_value (v := .pointer (some ⟨w.heap.size, 1, none⟩)) (w' := W) ?_ ⟨KK.refl _, hJ.same _ _ _ (by simp), rfl⟩
        simp [go_sem, Act.eval, t2]
      · have t17 : A.tmps.getD 17 undef = .pointer (some ⟨w.heap.size, 1, none⟩) := hdep 2 _ 17 rfl (by kernel_rfl) rfl
        have hb0 : BlkC 51 W w.heap.size [.int .i64 S1, .slice a1 n1 c1] := hJ.kept (51, w.heap.size, [.int .i64 S1, .slice a1 n1 c1]) (by simp)
        have x00 : W.cell? ⟨w.heap.size, 0, none⟩ = some (.int .i64 S1) := by rw [hb0.cell 0]; rfl
        have x01 : W.cell? ⟨w.heap.size, 1, none⟩ = some (.slice a1 n1 c1) := by rw [hb0.cell 1]; rfl
        refine par_value (v := .agg #[.slice a1 n1 c1]) (w' := W) ?_ ⟨KK.refl _, hJ.same _ _ _ (by simp), rfl⟩
        simp [go_sem, Act.eval, t17, x01]
      · have t3 := hfr 3 (by simp)
        refine par_value (v := .pointer (some ⟨(w.heap.size + 1), 1, none⟩)) (w' := W) ?_ ⟨KK.refl _, hJ.same _ _ _ (by simp), rfl⟩
        simp [go_sem, Act.eval, t3]
      · have t19 : A.tmps.getD 19 undef = .pointer (some ⟨(w.heap.size + 1), 1, none⟩) := hdep 4 _ 19 rfl (by kernel_rfl) rfl
        have hb1 : BlkC 51 W (w.heap.size + 1) [.int .i64 S2, .slice a2 n2 c2] := hJ.kept (51, (w.heap.size + 1), [.int .i64 S2, .slice a2 n2 c2]) (by simp)
        have x10 : W.cell? ⟨(w.heap.size + 1), 0, none⟩ = some (.int .i64 S2) := by rw [hb1.cell 0]; rfl
        have x11 : W.cell? ⟨(w.heap.size + 1), 1, none⟩ = some (.slice a2 n2 c2) := by rw [hb1.cell 1]; rfl
        refine par_value (v := .agg #[.slice a2 n2 c2]) (w' := W) ?_ ⟨KK.refl _, hJ.same _ _ _ (by simp), rfl⟩
        simp [go_sem, Act.eval, t19, x11]
      · have t18 : A.tmps.getD 18 undef = .agg #[.slice a1 n1 c1] := hdep 3 _ 18 rfl (by kernel_rfl) rfl
        have t20 : A.tmps.getD 20 undef = .agg #[.slice a2 n2 c2] := hdep 5 _ 20 rfl (by kernel_rfl) rfl
        refine par_call (w' := W) (f := 106) (xs := #[Value.agg #[.slice a1 n1 c1], Value.agg #[.slice a2 n2 c2]]) (by simp [go_sem, Act.eval, t18, t20]) ?_
        refine (mcmp_any x.natAbs y.natAbs _ _ _ (kkm _ _ _ hJ.k HM1.out) (kkm _ _ _ hJ.k HM2.out) HLX.out).mono ?_
        rintro e w1 ⟨rfl, hg1⟩
        exact ⟨_, rfl, kk_below hg1.b, hJ.gr hg1.b _ _ _ (by simp), rfl⟩
      · have t16 : A.tmps.getD 16 undef = (.int .i64 S1) := hdep 1 _ 16 rfl (by kernel_rfl) rfl
        have t21 : A.tmps.getD 21 undef = .int .i64 (cmpZ ((x.natAbs : Nat) : Int) ((y.natAbs : Nat) : Int)) := hdep 6 _ 21 rfl (by kernel_rfl) rfl
        refine par_value (v := .int .i64 (cmpZ x y)) (w' := W) ?_ ⟨KK.refl _, hJ.same _ _ _ (by simp), rfl⟩
        simp [go_sem, Act.eval, t16, t21, HCM.out]
      · have t22 : A.tmps.getD 22 undef = .int .i64 (cmpZ x y) := hdep 7 _ 22 rfl (by kernel_rfl) rfl
        refine par_value (v := .int .i64 (cmpZ x y)) (w' := W) ?_ ⟨KK.refl _, hJ.same _ _ _ (by simp), rfl⟩
        simp [go_sem, Act.eval, t22]
    · intro vs W hJ hs
      have HL9 : Hid (Below w.heap.size w W) := hJ.b
      have e4 : vs 4 = .int .i64 (cmpZ x y) := hs 8 _ _ rfl rfl
      clear hJ hs
      simp only [putAll, List.foldl_cons, List.foldl_nil, Act.put, List.setIfInBounds_toArray, List.set_cons_succ, List.set_cons_zero]
      rw [e4]
      go_wp2_with fail
      go_ret
      exact ⟨rfl, HL9.out⟩
  · have hnl : ¬ S1 < S2 := by omega
    have hres : cmpZ x y = 1 := by
      have h1 := HS1.out
      have h2 := HS2.out
      unfold cmpZ
      rw [if_neg (by omega), if_pos (by omega)]
    go_wp2_with fail
    go_ret
    exact ⟨by first | rfl | exact ret_int hres.symm, HG.out.b⟩

set_option maxHeartbeats 4000000 in
set_option maxRecDepth 100000 in
theorem jadd_any (x y : Int) (v u : Value) (w : World) (hv : JIs w v x) (hu : JIs w u y) (hlx : (Dec.limbs x.natAbs).length ≤ 1000000) (hly : (Dec.limbs y.natAbs).length ≤ 1000000) :
    Calls Try.prog 103 #[v, u] w fun e w' => ∃ r, e = .returned r ∧ JIs w' r (x + y) ∧ Below w.heap.size w w' := by
  have hv0 := hv
  have hu0 := hu
  obtain ⟨S1, a1, n1, c1, rfl, hm1, he1, hs1⟩ := hv.parts
  obtain ⟨S2, a2, n2, c2, rfl, hm2, he2, hs2⟩ := hu.parts
  have HJ1 := Lib.hid hv0
  have HJ2 := Lib.hid hu0
  have HM1 := Lib.hid hm1
  have HM2 := Lib.hid hm2
  have HE1 := Lib.hid he1
  have HE2 := Lib.hid he2
  have HLX := Lib.hid hlx
  have HLY := Lib.hid hly
  have HS1 := Lib.hid hs1
  have HS2 := Lib.hid hs2
  have hsb1 : -1 ≤ S1 ∧ S1 ≤ 1 := by omega
  have hsb2 : -1 ≤ S2 ∧ S2 ≤ 1 := by omega
  clear hv hu hv0 hu0 hm1 hm2 he1 he2 hlx hly hs1 hs2
  have HB1 := Lib.hid (ijW_1 w S1 S2 a1 a2 n1 c1 n2 c2)
  have HB2 := Lib.hid (ijW_2 w S1 S2 a1 a2 n1 c1 n2 c2)
  have HB3 := Lib.hid (ijW_3 w S1 S2 a1 a2 n1 c1 n2 c2)
  have HG := Lib.hid (ijW_g w S1 S2 a1 a2 n1 c1 n2 c2)
  have x0 := HB1.out.cell 0
  have x1 := HB1.out.cell 1
  have y0 := HB2.out.cell 0
  have y1 := HB2.out.cell 1
  have z0 := HB3.out.cell 0
  have z1 := HB3.out.cell 1
  have zf0 := HB3.out.free 0
  have zf1 := HB3.out.free 1
  have zl := HB3.out.lt
  simp only [List.getElem?_cons_zero, List.getElem?_cons_succ] at x0 x1 y0 y1 z0 z1
  have mixed : Try.prog.follows .mixedOrders = true := by kernel_rfl
  go_enter Try.func103, Try.ntmps103
  by_cases h1 : S1 = 0
  · have h1z : (S1 == 0) = true := by rw [h1]; rfl
    have hxy : x + y = y := by have := HS1.out; omega
    have HK2 : Hid (KI w (((((w.alloc (.cells #[.int .i64 S1, .slice a1 n1 c1] 51)).alloc (.cells #[.int .i64 S2, .slice a2 n2 c2] 51)).alloc (.cells #[.int .i64 0, .slice none 0 0] 51)).setCell ⟨(w.heap.size + 1 + 1), 0, none⟩ (.int .i64 S2)).setCell ⟨(w.heap.size + 1 + 1), 1, none⟩ (.slice a2 n2 c2))) := Lib.hid (((ki_below HG.out.b).trans (ki_set HB3.out (by decide) _)).trans (ki_set (HB3.out.set 0 _) (by decide) _))
    have HGB : Hid (Below w.heap.size w (((((w.alloc (.cells #[.int .i64 S1, .slice a1 n1 c1] 51)).alloc (.cells #[.int .i64 S2, .slice a2 n2 c2] 51)).alloc (.cells #[.int .i64 0, .slice none 0 0] 51)).setCell ⟨(w.heap.size + 1 + 1), 0, none⟩ (.int .i64 S2)).setCell ⟨(w.heap.size + 1 + 1), 1, none⟩ (.slice a2 n2 c2))) := Lib.hid ((HG.out.b.setCell (by show w.heap.size ≤ w.heap.size + 1 + 1; omega) _).setCell (by show w.heap.size ≤ w.heap.size + 1 + 1; omega) _)
    have HFB := Lib.hid ((HB3.out.set 0 (.int .i64 S2)).set 1 (.slice a2 n2 c2))
    rw [hxy]
    clear hxy
    go_wp2_with fail
    exact j_ret (x := .int .i64 S2) (y := .slice a2 n2 c2) rfl rfl rfl (by first | exact HFB.out | exact blk_at (cs := [.int .i64 S2, .slice a2 n2 c2]) (by simp)) ⟨_, rfl, by first | exact HJ2.out.keep HK2.out | exact HJ2.out.keep (ki_below (((own_alloc _ _).alloc (by simp) _).alloc (by simp; omega) _).b), by first | exact HGB.out | exact (((own_alloc _ _).alloc (by simp) _).alloc (by simp; omega) _).b⟩
  · have h1z : (S1 == 0) = false := by rw [beq_eq_false_iff_ne]; exact h1
    by_cases h2 : S2 = 0
    · have h2z : (S2 == 0) = true := by rw [h2]; rfl
      have hxy : x + y = x := by have := HS2.out; omega
      have HK2 : Hid (KI w (((((w.alloc (.cells #[.int .i64 S1, .slice a1 n1 c1] 51)).alloc (.cells #[.int .i64 S2, .slice a2 n2 c2] 51)).alloc (.cells #[.int .i64 0, .slice none 0 0] 51)).setCell ⟨(w.heap.size + 1 + 1), 0, none⟩ (.int .i64 S1)).setCell ⟨(w.heap.size + 1 + 1), 1, none⟩ (.slice a1 n1 c1))) := Lib.hid (((ki_below HG.out.b).trans (ki_set HB3.out (by decide) _)).trans (ki_set (HB3.out.set 0 _) (by decide) _))
      have HGB : Hid (Below w.heap.size w (((((w.alloc (.cells #[.int .i64 S1, .slice a1 n1 c1] 51)).alloc (.cells #[.int .i64 S2, .slice a2 n2 c2] 51)).alloc (.cells #[.int .i64 0, .slice none 0 0] 51)).setCell ⟨(w.heap.size + 1 + 1), 0, none⟩ (.int .i64 S1)).setCell ⟨(w.heap.size + 1 + 1), 1, none⟩ (.slice a1 n1 c1))) := Lib.hid ((HG.out.b.setCell (by show w.heap.size ≤ w.heap.size + 1 + 1; omega) _).setCell (by show w.heap.size ≤ w.heap.size + 1 + 1; omega) _)
      have HFB := Lib.hid ((HB3.out.set 0 (.int .i64 S1)).set 1 (.slice a1 n1 c1))
      rw [hxy]
      clear hxy
      go_wp2_with fail
      exact j_ret (x := .int .i64 S1) (y := .slice a1 n1 c1) rfl rfl rfl (by first | exact HFB.out | exact blk_at (cs := [.int .i64 S1, .slice a1 n1 c1]) (by simp)) ⟨_, rfl, by first | exact HJ1.out.keep HK2.out | exact HJ1.out.keep (ki_below (((own_alloc _ _).alloc (by simp) _).alloc (by simp; omega) _).b), by first | exact HGB.out | exact (((own_alloc _ _).alloc (by simp) _).alloc (by simp; omega) _).b⟩
    · have h2z : (S2 == 0) = false := by rw [beq_eq_false_iff_ne]; exact h2
      by_cases h12 : S1 = S2
      · have h12z : (S1 == S2) = true := by rw [h12]; simp
        have HK : Hid (S1 = 1 ∨ S1 = -1 ∨ x.natAbs + y.natAbs = 0) := Lib.hid (by have := HS1.out; omega)
        have HZ : Hid (S1 * ((x.natAbs + y.natAbs : Nat) : Int) = x + y) := Lib.hid (by
          have e1 := HE1.out
          have e2 := HE2.out
          rw [← h12] at e2
          push_cast
          rw [Int.mul_add]
          push_cast at e1 e2
          omega)
        clear h1 h2 h12 x0 x1 y0 y1 z0 z1 zf0 zf1 zl
        generalize hW3 : (((w.alloc (.cells #[.int .i64 S1, .slice a1 n1 c1] 51)).alloc (.cells #[.int .i64 S2, .slice a2 n2 c2] 51)).alloc (.cells #[.int .i64 0, .slice none 0 0] 51)) = w3 at *
        clear hW3
        go_wp2_with fail
        refine region_kk (by kernel_rfl) (by kernel_rfl) rfl (KK) (fun | 0 => .is (.pointer (some ⟨w.heap.size, 0, none⟩)) | 1 => .is ((.int .i64 S1)) | 2 => .is (.pointer (some ⟨w.heap.size, 1, none⟩)) | 3 => .is (.agg #[.slice a1 n1 c1]) | 4 => .is (.pointer (some ⟨(w.heap.size + 1), 1, none⟩)) | 5 => .is (.agg #[.slice a2 n2 c2]) | 6 => .p ((fun W v => MIs W v (x.natAbs + y.natAbs))) kkm | 7 => .p ((fun W v => JIs W v (x + y))) kkj | 8 => .any | _ => .any) (MK w.heap.size w w [(51, w.heap.size, [.int .i64 S1, .slice a1 n1 c1]), (51, (w.heap.size + 1), [.int .i64 S2, .slice a2 n2 c2])] [tgK 4 none 8 51 2 (fun W v => JIs W v (x + y)) kkj]) (fun f g a w hn h => MK.ext (n := 9) (by simp) hn h) ?_ ?_ ?_
        · refine ⟨HG.out.b.drew, kk_below HG.out.b.drew, HG.out.size, (by intro q hq; simp only [List.mem_cons, List.not_mem_nil, or_false] at hq; rcases hq with rfl | rfl; exact HB1.out; exact HB2.out), ?_, (by intro t u h1 h2 hd; simp only [List.mem_singleton] at h1 h2; subst h1; subst h2; exact absurd rfl hd)⟩
          intro t ht h
          simp only [List.mem_singleton] at ht
          subst ht
          exact ⟨w.heap.size + 1 + 1, _, rfl, by omega, HB3.out, rfl, by intro q hq; simp only [List.mem_cons, List.not_mem_nil, or_false] at hq; rcases hq with rfl | rfl <;> (simp <;> omega)⟩
        · intro i o f A W hi hJ hf hdep hdn hcl hfr hsz
          rcases i with _ | _ | _ | _ | _ | _ | _ | _ | _ | i
          all_goals (simp at hi)
          all_goals (try subst hi)
          · have t2 := hfr 2 (by simp)
            refine par_value (v := .pointer (some ⟨w.heap.size, 0, none⟩)) (w' := W) ?_ ⟨KK.refl _, hJ.same _ _ _ (by simp), rfl⟩
            simp [go_sem, Act.eval, t2]
          · have t18 : A.tmps.getD 18 undef = .pointer (some ⟨w.heap.size, 0, none⟩) := hdep 0 _ 18 rfl (by kernel_rfl) rfl
            have hb0 : BlkC 51 W w.heap.size [.int .i64 S1, .slice a1 n1 c1] := hJ.kept (51, w.heap.size, [.int .i64 S1, .slice a1 n1 c1]) (by simp)
            have x00 : W.cell? ⟨w.heap.size, 0, none⟩ = some (.int .i64 S1) := by rw [hb0.cell 0]; rfl
            have x01 : W.cell? ⟨w.heap.size, 1, none⟩ = some (.slice a1 n1 c1) := by rw [hb0.cell 1]; rfl
            refine par_value (v := (.int .i64 S1)) (w' := W) ?_ ⟨KK.refl _, hJ.same _ _ _ (by simp), rfl⟩
            simp [go_sem, Act.eval, t18, x00]
          · have t2 := hfr 2 (by simp)
            refine par_value (v := .pointer (some ⟨w.heap.size, 1, none⟩)) (w' := W) ?_ ⟨KK.refl _, hJ.same _ _ _ (by simp), rfl⟩
            simp [go_sem, Act.eval, t2]
          · have t20 : A.tmps.getD 20 undef = .pointer (some ⟨w.heap.size, 1, none⟩) := hdep 2 _ 20 rfl (by kernel_rfl) rfl
            have hb0 : BlkC 51 W w.heap.size [.int .i64 S1, .slice a1 n1 c1] := hJ.kept (51, w.heap.size, [.int .i64 S1, .slice a1 n1 c1]) (by simp)
            have x00 : W.cell? ⟨w.heap.size, 0, none⟩ = some (.int .i64 S1) := by rw [hb0.cell 0]; rfl
            have x01 : W.cell? ⟨w.heap.size, 1, none⟩ = some (.slice a1 n1 c1) := by rw [hb0.cell 1]; rfl
            refine par_value (v := .agg #[.slice a1 n1 c1]) (w' := W) ?_ ⟨KK.refl _, hJ.same _ _ _ (by simp), rfl⟩
            simp [go_sem, Act.eval, t20, x01]
          · have t3 := hfr 3 (by simp)
            refine par_value (v := .pointer (some ⟨(w.heap.size + 1), 1, none⟩)) (w' := W) ?_ ⟨KK.refl _, hJ.same _ _ _ (by simp), rfl⟩
            simp [go_sem, Act.eval, t3]
          · have t22 : A.tmps.getD 22 undef = .pointer (some ⟨(w.heap.size + 1), 1, none⟩) := hdep 4 _ 22 rfl (by kernel_rfl) rfl
            have hb1 : BlkC 51 W (w.heap.size + 1) [.int .i64 S2, .slice a2 n2 c2] := hJ.kept (51, (w.heap.size + 1), [.int .i64 S2, .slice a2 n2 c2]) (by simp)
            have x10 : W.cell? ⟨(w.heap.size + 1), 0, none⟩ = some (.int .i64 S2) := by rw [hb1.cell 0]; rfl
            have x11 : W.cell? ⟨(w.heap.size + 1), 1, none⟩ = some (.slice a2 n2 c2) := by rw [hb1.cell 1]; rfl
            refine par_value (v := .agg #[.slice a2 n2 c2]) (w' := W) ?_ ⟨KK.refl _, hJ.same _ _ _ (by simp), rfl⟩
            simp [go_sem, Act.eval, t22, x11]
          · have t21 : A.tmps.getD 21 undef = .agg #[.slice a1 n1 c1] := hdep 3 _ 21 rfl (by kernel_rfl) rfl
            have t23 : A.tmps.getD 23 undef = .agg #[.slice a2 n2 c2] := hdep 5 _ 23 rfl (by kernel_rfl) rfl
            refine par_call (w' := W) (f := 85) (xs := #[Value.agg #[.slice a1 n1 c1], Value.agg #[.slice a2 n2 c2]]) (by simp [go_sem, Act.eval, t21, t23]) ?_
            refine (madd_any x.natAbs y.natAbs _ _ _ (kkm _ _ _ hJ.k HM1.out) (kkm _ _ _ hJ.k HM2.out) HLX.out HLY.out).mono ?_
            rintro e w1 ⟨r, rfl, hr, hg1⟩
            exact ⟨r, rfl, kk_below hg1, hJ.gr hg1 _ _ _ (by simp), hr⟩
          · have t19 : A.tmps.getD 19 undef = (.int .i64 S1) := hdep 1 _ 19 rfl (by kernel_rfl) rfl
            have t24 : (fun W v => MIs W v (x.natAbs + y.natAbs)) W (A.tmps.getD 24 undef) := hdep 6 _ 24 rfl (by kernel_rfl) rfl
            refine par_call (w' := W) (f := 84) (xs := #[Value.int IntKind.i64 S1, A.tmps.getD 24 undef]) (by simp [go_sem, Act.eval, t19]) ?_
            refine (jmade_any S1 (x.natAbs + y.natAbs) _ _ t24 HK.out).mono ?_
            rintro e w1 ⟨r, rfl, hr0, hg1⟩
            exact ⟨r, rfl, kk_below hg1, hJ.gr hg1 _ _ _ (by simp), (HZ.out ▸ hr0)⟩
          · have t25 : (fun W v => JIs W v (x + y)) W (A.tmps.getD 25 undef) := hdep 7 _ 25 rfl (by kernel_rfl) rfl
            obtain ⟨g9, cs9, hp9, hb9, hk9⟩ := hJ.ahead (t0 := tgK 4 none 8 51 2 (fun W v => JIs W v (x + y)) kkj) (by simp) (fun j hj => by cases hj) hf
            obtain ⟨y0, y1, rfl⟩ := len2 hk9
            have hv8 := t25
            obtain ⟨a8, c8, e8, _⟩ := t25
            rw [e8] at hv8
            have hst : StK 51 W g9 _ [.int .i64 (x + y).sign, .slice a8 (Dec.limbs (x + y).natAbs).length c8] := (StK.one (T := 51) hb9 ⟨by decide, by decide⟩ 0 (.int .i64 (x + y).sign)).more ⟨by decide, by decide⟩ 1 (.slice a8 (Dec.limbs (x + y).natAbs).length c8)
            have hcell := hb9.cell
            have hfree := hb9.free
            refine par_skip ?_ ⟨hst.kk, hJ.put 8 undef (by simp) (fun j hj => by cases hj) rfl hp9 hst.gr hst.kk hst.bb (kkj _ _ _ hst.kk hv8) (by simp) (by simp), trivial⟩
            simp [go_sem, Act.eval, hp9, e8, hcell, hfree]
        · intro vs W hJ hs
          obtain ⟨gA, csA, pA, _, bA, kA, _⟩ := hJ.at' (tgK 4 none 8 51 2 (fun W v => JIs W v (x + y)) kkj) (by simp) (fun j hj => by cases hj)
          have eA : gA = (w.heap.size + 1 + 1) := ptr_eq (by simpa [putAll, Act.put] using pA)
          subst eA
          have kA' : JIs W (.agg csA.toArray) (x + y) := kA
          obtain ⟨a8, c8, rfl⟩ := j_cs kA'
          have HB9 : Hid (BlkC 51 W (w.heap.size + 1 + 1) _) := bA
          have HR9 : Hid (JIs W (.agg _) (x + y)) := kA'
          have HL9 : Hid (Below w.heap.size w W) := hJ.b
          clear pA bA kA kA' hJ hs
          simp only [putAll, List.foldl_cons, List.foldl_nil, Act.put, List.setIfInBounds_toArray, List.set_cons_succ, List.set_cons_zero]
          go_wp2_with fail
          exact j_ret rfl rfl rfl HB9.out ⟨_, rfl, HR9.out, HL9.out⟩
      · have h12z : (S1 == S2) = false := by rw [beq_eq_false_iff_ne]; exact h12
        have HM1W := Lib.hid (HM1.out.keep (ki_below HG.out.b))
        have HM2W := Lib.hid (HM2.out.keep (ki_below HG.out.b))
        by_cases hle : y.natAbs ≤ x.natAbs
        · have HLE := Lib.hid hle
          have hcz : 0 ≤ cmpZ ((x.natAbs : Nat) : Int) ((y.natAbs : Nat) : Int) := by unfold cmpZ; split <;> (try split) <;> omega
          have HK : Hid (S1 = 1 ∨ S1 = -1 ∨ x.natAbs - y.natAbs = 0) := Lib.hid (by have := HS1.out; omega)
          have HZ : Hid (S1 * ((x.natAbs - y.natAbs : Nat) : Int) = x + y) := Lib.hid (by
            have g1 := HS1.out
            have g2 := HS2.out
            rcases g1 with ⟨rfl, g1⟩ | ⟨rfl, g1⟩ | ⟨rfl, g1⟩ <;> omega)
          generalize (((w.alloc (.cells #[.int .i64 S1, .slice a1 n1 c1] 51)).alloc (.cells #[.int .i64 S2, .slice a2 n2 c2] 51)).alloc (.cells #[.int .i64 0, .slice none 0 0] 51)) = w3 at *
          go_wp2_with fail
          refine (mcmp_any x.natAbs y.natAbs _ _ _ HM1W.out HM2W.out HLX.out).mono ?_
          rintro e w4 ⟨rfl, hg4⟩
          have HC1 := Lib.hid (HB1.out.still (Gr.grown hg4))
          have HC2 := Lib.hid (HB2.out.still (Gr.grown hg4))
          have HC3 := Lib.hid (HB3.out.still (Gr.grown hg4))
          have HG4 := Lib.hid (HG.out.call HG.out.size hg4)
          clear HB1 HB2 HB3 HG HM1W HM2W hg4 h1 h2 h12 x0 x1 y0 y1 z0 z1 zf0 zf1 zl hle
          have HB1 := HC1
          have HB2 := HC2
          have HB3 := HC3
          have HG := HG4
          clear HC1 HC2 HC3 HG4
          generalize cmpZ ((x.natAbs : Nat) : Int) ((y.natAbs : Nat) : Int) = cz at *
          go_wp2_with fail
          refine region_kk (by kernel_rfl) (by kernel_rfl) rfl (KK) (fun | 0 => .is (.pointer (some ⟨w.heap.size, 0, none⟩)) | 1 => .is ((.int .i64 S1)) | 2 => .is (.pointer (some ⟨w.heap.size, 1, none⟩)) | 3 => .is (.agg #[.slice a1 n1 c1]) | 4 => .is (.pointer (some ⟨(w.heap.size + 1), 1, none⟩)) | 5 => .is (.agg #[.slice a2 n2 c2]) | 6 => .p ((fun W v => MIs W v (x.natAbs - y.natAbs))) kkm | 7 => .p ((fun W v => JIs W v (x + y))) kkj | 8 => .any | _ => .any) (MK w.heap.size w w [(51, w.heap.size, [.int .i64 S1, .slice a1 n1 c1]), (51, (w.heap.size + 1), [.int .i64 S2, .slice a2 n2 c2])] [tgK 4 none 8 51 2 (fun W v => JIs W v (x + y)) kkj]) (fun f g a w hn h => MK.ext (n := 9) (by simp) hn h) ?_ ?_ ?_
          · refine ⟨HG.out.b.drew, kk_below HG.out.b.drew, HG.out.size, (by intro q hq; simp only [List.mem_cons, List.not_mem_nil, or_false] at hq; rcases hq with rfl | rfl; exact HB1.out; exact HB2.out), ?_, (by intro t u h1 h2 hd; simp only [List.mem_singleton] at h1 h2; subst h1; subst h2; exact absurd rfl hd)⟩
            intro t ht h
            simp only [List.mem_singleton] at ht
            subst ht
            exact ⟨w.heap.size + 1 + 1, _, rfl, by omega, HB3.out, rfl, by intro q hq; simp only [List.mem_cons, List.not_mem_nil, or_false] at hq; rcases hq with rfl | rfl <;> (simp <;> omega)⟩
          · intro i o f A W hi hJ hf hdep hdn hcl hfr hsz
            rcases i with _ | _ | _ | _ | _ | _ | _ | _ | _ | i
            all_goals (simp at hi)
            all_goals (try subst hi)
            · have t2 := hfr 2 (by simp)
              refine par_value (v := .pointer (some ⟨w.heap.size, 0, none⟩)) (w' := W) ?_ ⟨KK.refl _, hJ.same _ _ _ (by simp), rfl⟩
              simp [go_sem, Act.eval, t2]
            · have t32 : A.tmps.getD 32 undef = .pointer (some ⟨w.heap.size, 0, none⟩) := hdep 0 _ 32 rfl (by kernel_rfl) rfl
              have hb0 : BlkC 51 W w.heap.size [.int .i64 S1, .slice a1 n1 c1] := hJ.kept (51, w.heap.size, [.int .i64 S1, .slice a1 n1 c1]) (by simp)
              have x00 : W.cell? ⟨w.heap.size, 0, none⟩ = some (.int .i64 S1) := by rw [hb0.cell 0]; rfl
              have x01 : W.cell? ⟨w.heap.size, 1, none⟩ = some (.slice a1 n1 c1) := by rw [hb0.cell 1]; rfl
              refine par_value (v := (.int .i64 S1)) (w' := W) ?_ ⟨KK.refl _, hJ.same _ _ _ (by simp), rfl⟩
              simp [go_sem, Act.eval, t32, x00]
            · have t2 := hfr 2 (by simp)
              refine par_value (v := .pointer (some ⟨w.heap.size, 1, none⟩)) (w' := W) ?_ ⟨KK.refl _, hJ.same _ _ _ (by simp), rfl⟩
              simp [go_sem, Act.eval, t2]
            · have t34 : A.tmps.getD 34 undef = .pointer (some ⟨w.heap.size, 1, none⟩) := hdep 2 _ 34 rfl (by kernel_rfl) rfl
              have hb0 : BlkC 51 W w.heap.size [.int .i64 S1, .slice a1 n1 c1] := hJ.kept (51, w.heap.size, [.int .i64 S1, .slice a1 n1 c1]) (by simp)
              have x00 : W.cell? ⟨w.heap.size, 0, none⟩ = some (.int .i64 S1) := by rw [hb0.cell 0]; rfl
              have x01 : W.cell? ⟨w.heap.size, 1, none⟩ = some (.slice a1 n1 c1) := by rw [hb0.cell 1]; rfl
              refine par_value (v := .agg #[.slice a1 n1 c1]) (w' := W) ?_ ⟨KK.refl _, hJ.same _ _ _ (by simp), rfl⟩
              simp [go_sem, Act.eval, t34, x01]
            · have t3 := hfr 3 (by simp)
              refine par_value (v := .pointer (some ⟨(w.heap.size + 1), 1, none⟩)) (w' := W) ?_ ⟨KK.refl _, hJ.same _ _ _ (by simp), rfl⟩
              simp [go_sem, Act.eval, t3]
            · have t36 : A.tmps.getD 36 undef = .pointer (some ⟨(w.heap.size + 1), 1, none⟩) := hdep 4 _ 36 rfl (by kernel_rfl) rfl
              have hb1 : BlkC 51 W (w.heap.size + 1) [.int .i64 S2, .slice a2 n2 c2] := hJ.kept (51, (w.heap.size + 1), [.int .i64 S2, .slice a2 n2 c2]) (by simp)
              have x10 : W.cell? ⟨(w.heap.size + 1), 0, none⟩ = some (.int .i64 S2) := by rw [hb1.cell 0]; rfl
              have x11 : W.cell? ⟨(w.heap.size + 1), 1, none⟩ = some (.slice a2 n2 c2) := by rw [hb1.cell 1]; rfl
              refine par_value (v := .agg #[.slice a2 n2 c2]) (w' := W) ?_ ⟨KK.refl _, hJ.same _ _ _ (by simp), rfl⟩
              simp [go_sem, Act.eval, t36, x11]
            · have t35 : A.tmps.getD 35 undef = .agg #[.slice a1 n1 c1] := hdep 3 _ 35 rfl (by kernel_rfl) rfl
              have t37 : A.tmps.getD 37 undef = .agg #[.slice a2 n2 c2] := hdep 5 _ 37 rfl (by kernel_rfl) rfl
              refine par_call (w' := W) (f := 116) (xs := #[Value.agg #[.slice a1 n1 c1], Value.agg #[.slice a2 n2 c2]]) (by simp [go_sem, Act.eval, t35, t37]) ?_
              refine (mless_any x.natAbs y.natAbs _ _ _ (kkm _ _ _ hJ.k HM1.out) (kkm _ _ _ hJ.k HM2.out) HLX.out HLE.out).mono ?_
              rintro e w1 ⟨r, rfl, hr, hg1⟩
              exact ⟨r, rfl, kk_below hg1, hJ.gr hg1 _ _ _ (by simp), hr⟩
            · have t33 : A.tmps.getD 33 undef = (.int .i64 S1) := hdep 1 _ 33 rfl (by kernel_rfl) rfl
              have t38 : (fun W v => MIs W v (x.natAbs - y.natAbs)) W (A.tmps.getD 38 undef) := hdep 6 _ 38 rfl (by kernel_rfl) rfl
              refine par_call (w' := W) (f := 84) (xs := #[Value.int IntKind.i64 S1, A.tmps.getD 38 undef]) (by simp [go_sem, Act.eval, t33]) ?_
              refine (jmade_any S1 (x.natAbs - y.natAbs) _ _ t38 HK.out).mono ?_
              rintro e w1 ⟨r, rfl, hr0, hg1⟩
              exact ⟨r, rfl, kk_below hg1, hJ.gr hg1 _ _ _ (by simp), (HZ.out ▸ hr0)⟩
            · have t39 : (fun W v => JIs W v (x + y)) W (A.tmps.getD 39 undef) := hdep 7 _ 39 rfl (by kernel_rfl) rfl
              obtain ⟨g9, cs9, hp9, hb9, hk9⟩ := hJ.ahead (t0 := tgK 4 none 8 51 2 (fun W v => JIs W v (x + y)) kkj) (by simp) (fun j hj => by cases hj) hf
              obtain ⟨y0, y1, rfl⟩ := len2 hk9
              have hv8 := t39
              obtain ⟨a8, c8, e8, _⟩ := t39
              rw [e8] at hv8
              have hst : StK 51 W g9 _ [.int .i64 (x + y).sign, .slice a8 (Dec.limbs (x + y).natAbs).length c8] := (StK.one (T := 51) hb9 ⟨by decide, by decide⟩ 0 (.int .i64 (x + y).sign)).more ⟨by decide, by decide⟩ 1 (.slice a8 (Dec.limbs (x + y).natAbs).length c8)
              have hcell := hb9.cell
              have hfree := hb9.free
              refine par_skip ?_ ⟨hst.kk, hJ.put 8 undef (by simp) (fun j hj => by cases hj) rfl hp9 hst.gr hst.kk hst.bb (kkj _ _ _ hst.kk hv8) (by simp) (by simp), trivial⟩
              simp [go_sem, Act.eval, hp9, e8, hcell, hfree]
          · intro vs W hJ hs
            obtain ⟨gA, csA, pA, _, bA, kA, _⟩ := hJ.at' (tgK 4 none 8 51 2 (fun W v => JIs W v (x + y)) kkj) (by simp) (fun j hj => by cases hj)
            have eA : gA = (w.heap.size + 1 + 1) := ptr_eq (by simpa [putAll, Act.put] using pA)
            subst eA
            have kA' : JIs W (.agg csA.toArray) (x + y) := kA
            obtain ⟨a8, c8, rfl⟩ := j_cs kA'
            have HB9 : Hid (BlkC 51 W (w.heap.size + 1 + 1) _) := bA
            have HR9 : Hid (JIs W (.agg _) (x + y)) := kA'
            have HL9 : Hid (Below w.heap.size w W) := hJ.b
            clear pA bA kA kA' hJ hs
            simp only [putAll, List.foldl_cons, List.foldl_nil, Act.put, List.setIfInBounds_toArray, List.set_cons_succ, List.set_cons_zero]
            go_wp2_with fail
            exact j_ret rfl rfl rfl HB9.out ⟨_, rfl, HR9.out, HL9.out⟩
        · have HLE : Hid (x.natAbs ≤ y.natAbs) := Lib.hid (by omega)
          have hcz : cmpZ ((x.natAbs : Nat) : Int) ((y.natAbs : Nat) : Int) < 0 := by unfold cmpZ; split <;> (try split) <;> omega
          have HK : Hid (S2 = 1 ∨ S2 = -1 ∨ y.natAbs - x.natAbs = 0) := Lib.hid (by have := HS2.out; omega)
          have HZ : Hid (S2 * ((y.natAbs - x.natAbs : Nat) : Int) = x + y) := Lib.hid (by
            have g1 := HS1.out
            have g2 := HS2.out
            rcases g2 with ⟨rfl, g2⟩ | ⟨rfl, g2⟩ | ⟨rfl, g2⟩ <;> omega)
          generalize (((w.alloc (.cells #[.int .i64 S1, .slice a1 n1 c1] 51)).alloc (.cells #[.int .i64 S2, .slice a2 n2 c2] 51)).alloc (.cells #[.int .i64 0, .slice none 0 0] 51)) = w3 at *
          go_wp2_with fail
          refine (mcmp_any x.natAbs y.natAbs _ _ _ HM1W.out HM2W.out HLX.out).mono ?_
          rintro e w4 ⟨rfl, hg4⟩
          have HC1 := Lib.hid (HB1.out.still (Gr.grown hg4))
          have HC2 := Lib.hid (HB2.out.still (Gr.grown hg4))
          have HC3 := Lib.hid (HB3.out.still (Gr.grown hg4))
          have HG4 := Lib.hid (HG.out.call HG.out.size hg4)
          clear HB1 HB2 HB3 HG HM1W HM2W hg4 h1 h2 h12 x0 x1 y0 y1 z0 z1 zf0 zf1 zl hle
          have HB1 := HC1
          have HB2 := HC2
          have HB3 := HC3
          have HG := HG4
          clear HC1 HC2 HC3 HG4
          generalize cmpZ ((x.natAbs : Nat) : Int) ((y.natAbs : Nat) : Int) = cz at *
          go_wp2_with fail
          refine region_kk (by kernel_rfl) (by kernel_rfl) rfl (KK) (fun | 0 => .is (.pointer (some ⟨(w.heap.size + 1), 0, none⟩)) | 1 => .is ((.int .i64 S2)) | 2 => .is (.pointer (some ⟨(w.heap.size + 1), 1, none⟩)) | 3 => .is (.agg #[.slice a2 n2 c2]) | 4 => .is (.pointer (some ⟨w.heap.size, 1, none⟩)) | 5 => .is (.agg #[.slice a1 n1 c1]) | 6 => .p ((fun W v => MIs W v (y.natAbs - x.natAbs))) kkm | 7 => .p ((fun W v => JIs W v (x + y))) kkj | 8 => .any | _ => .any) (MK w.heap.size w w [(51, w.heap.size, [.int .i64 S1, .slice a1 n1 c1]), (51, (w.heap.size + 1), [.int .i64 S2, .slice a2 n2 c2])] [tgK 4 none 8 51 2 (fun W v => JIs W v (x + y)) kkj]) (fun f g a w hn h => MK.ext (n := 9) (by simp) hn h) ?_ ?_ ?_
          · refine ⟨HG.out.b.drew, kk_below HG.out.b.drew, HG.out.size, (by intro q hq; simp only [List.mem_cons, List.not_mem_nil, or_false] at hq; rcases hq with rfl | rfl; exact HB1.out; exact HB2.out), ?_, (by intro t u h1 h2 hd; simp only [List.mem_singleton] at h1 h2; subst h1; subst h2; exact absurd rfl hd)⟩
            intro t ht h
            simp only [List.mem_singleton] at ht
            subst ht
            exact ⟨w.heap.size + 1 + 1, _, rfl, by omega, HB3.out, rfl, by intro q hq; simp only [List.mem_cons, List.not_mem_nil, or_false] at hq; rcases hq with rfl | rfl <;> (simp <;> omega)⟩
          · intro i o f A W hi hJ hf hdep hdn hcl hfr hsz
            rcases i with _ | _ | _ | _ | _ | _ | _ | _ | _ | i
            all_goals (simp at hi)
            all_goals (try subst hi)
            · have t3 := hfr 3 (by simp)
              refine par_value (v := .pointer (some ⟨(w.heap.size + 1), 0, none⟩)) (w' := W) ?_ ⟨KK.refl _, hJ.same _ _ _ (by simp), rfl⟩
              simp [go_sem, Act.eval, t3]
            · have t40 : A.tmps.getD 40 undef = .pointer (some ⟨(w.heap.size + 1), 0, none⟩) := hdep 0 _ 40 rfl (by kernel_rfl) rfl
              have hb1 : BlkC 51 W (w.heap.size + 1) [.int .i64 S2, .slice a2 n2 c2] := hJ.kept (51, (w.heap.size + 1), [.int .i64 S2, .slice a2 n2 c2]) (by simp)
              have x10 : W.cell? ⟨(w.heap.size + 1), 0, none⟩ = some (.int .i64 S2) := by rw [hb1.cell 0]; rfl
              have x11 : W.cell? ⟨(w.heap.size + 1), 1, none⟩ = some (.slice a2 n2 c2) := by rw [hb1.cell 1]; rfl
              refine par_value (v := (.int .i64 S2)) (w' := W) ?_ ⟨KK.refl _, hJ.same _ _ _ (by simp), rfl⟩
              simp [go_sem, Act.eval, t40, x10]
            · have t3 := hfr 3 (by simp)
              refine par_value (v := .pointer (some ⟨(w.heap.size + 1), 1, none⟩)) (w' := W) ?_ ⟨KK.refl _, hJ.same _ _ _ (by simp), rfl⟩
              simp [go_sem, Act.eval, t3]
            · have t42 : A.tmps.getD 42 undef = .pointer (some ⟨(w.heap.size + 1), 1, none⟩) := hdep 2 _ 42 rfl (by kernel_rfl) rfl
              have hb1 : BlkC 51 W (w.heap.size + 1) [.int .i64 S2, .slice a2 n2 c2] := hJ.kept (51, (w.heap.size + 1), [.int .i64 S2, .slice a2 n2 c2]) (by simp)
              have x10 : W.cell? ⟨(w.heap.size + 1), 0, none⟩ = some (.int .i64 S2) := by rw [hb1.cell 0]; rfl
              have x11 : W.cell? ⟨(w.heap.size + 1), 1, none⟩ = some (.slice a2 n2 c2) := by rw [hb1.cell 1]; rfl
              refine par_value (v := .agg #[.slice a2 n2 c2]) (w' := W) ?_ ⟨KK.refl _, hJ.same _ _ _ (by simp), rfl⟩
              simp [go_sem, Act.eval, t42, x11]
            · have t2 := hfr 2 (by simp)
              refine par_value (v := .pointer (some ⟨w.heap.size, 1, none⟩)) (w' := W) ?_ ⟨KK.refl _, hJ.same _ _ _ (by simp), rfl⟩
              simp [go_sem, Act.eval, t2]
            · have t44 : A.tmps.getD 44 undef = .pointer (some ⟨w.heap.size, 1, none⟩) := hdep 4 _ 44 rfl (by kernel_rfl) rfl
              have hb0 : BlkC 51 W w.heap.size [.int .i64 S1, .slice a1 n1 c1] := hJ.kept (51, w.heap.size, [.int .i64 S1, .slice a1 n1 c1]) (by simp)
              have x00 : W.cell? ⟨w.heap.size, 0, none⟩ = some (.int .i64 S1) := by rw [hb0.cell 0]; rfl
              have x01 : W.cell? ⟨w.heap.size, 1, none⟩ = some (.slice a1 n1 c1) := by rw [hb0.cell 1]; rfl
              refine par_value (v := .agg #[.slice a1 n1 c1]) (w' := W) ?_ ⟨KK.refl _, hJ.same _ _ _ (by simp), rfl⟩
              simp [go_sem, Act.eval, t44, x01]
            · have t43 : A.tmps.getD 43 undef = .agg #[.slice a2 n2 c2] := hdep 3 _ 43 rfl (by kernel_rfl) rfl
              have t45 : A.tmps.getD 45 undef = .agg #[.slice a1 n1 c1] := hdep 5 _ 45 rfl (by kernel_rfl) rfl
              refine par_call (w' := W) (f := 116) (xs := #[Value.agg #[.slice a2 n2 c2], Value.agg #[.slice a1 n1 c1]]) (by simp [go_sem, Act.eval, t43, t45]) ?_
              refine (mless_any y.natAbs x.natAbs _ _ _ (kkm _ _ _ hJ.k HM2.out) (kkm _ _ _ hJ.k HM1.out) HLY.out HLE.out).mono ?_
              rintro e w1 ⟨r, rfl, hr, hg1⟩
              exact ⟨r, rfl, kk_below hg1, hJ.gr hg1 _ _ _ (by simp), hr⟩
            · have t41 : A.tmps.getD 41 undef = (.int .i64 S2) := hdep 1 _ 41 rfl (by kernel_rfl) rfl
              have t46 : (fun W v => MIs W v (y.natAbs - x.natAbs)) W (A.tmps.getD 46 undef) := hdep 6 _ 46 rfl (by kernel_rfl) rfl
              refine par_call (w' := W) (f := 84) (xs := #[Value.int IntKind.i64 S2, A.tmps.getD 46 undef]) (by simp [go_sem, Act.eval, t41]) ?_
              refine (jmade_any S2 (y.natAbs - x.natAbs) _ _ t46 HK.out).mono ?_
              rintro e w1 ⟨r, rfl, hr0, hg1⟩
              exact ⟨r, rfl, kk_below hg1, hJ.gr hg1 _ _ _ (by simp), (HZ.out ▸ hr0)⟩
            · have t47 : (fun W v => JIs W v (x + y)) W (A.tmps.getD 47 undef) := hdep 7 _ 47 rfl (by kernel_rfl) rfl
              obtain ⟨g9, cs9, hp9, hb9, hk9⟩ := hJ.ahead (t0 := tgK 4 none 8 51 2 (fun W v => JIs W v (x + y)) kkj) (by simp) (fun j hj => by cases hj) hf
              obtain ⟨y0, y1, rfl⟩ := len2 hk9
              have hv8 := t47
              obtain ⟨a8, c8, e8, _⟩ := t47
              rw [e8] at hv8
              have hst : StK 51 W g9 _ [.int .i64 (x + y).sign, .slice a8 (Dec.limbs (x + y).natAbs).length c8] := (StK.one (T := 51) hb9 ⟨by decide, by decide⟩ 0 (.int .i64 (x + y).sign)).more ⟨by decide, by decide⟩ 1 (.slice a8 (Dec.limbs (x + y).natAbs).length c8)
              have hcell := hb9.cell
              have hfree := hb9.free
              refine par_skip ?_ ⟨hst.kk, hJ.put 8 undef (by simp) (fun j hj => by cases hj) rfl hp9 hst.gr hst.kk hst.bb (kkj _ _ _ hst.kk hv8) (by simp) (by simp), trivial⟩
              simp [go_sem, Act.eval, hp9, e8, hcell, hfree]
          · intro vs W hJ hs
            obtain ⟨gA, csA, pA, _, bA, kA, _⟩ := hJ.at' (tgK 4 none 8 51 2 (fun W v => JIs W v (x + y)) kkj) (by simp) (fun j hj => by cases hj)
            have eA : gA = (w.heap.size + 1 + 1) := ptr_eq (by simpa [putAll, Act.put] using pA)
            subst eA
            have kA' : JIs W (.agg csA.toArray) (x + y) := kA
            obtain ⟨a8, c8, rfl⟩ := j_cs kA'
            have HB9 : Hid (BlkC 51 W (w.heap.size + 1 + 1) _) := bA
            have HR9 : Hid (JIs W (.agg _) (x + y)) := kA'
            have HL9 : Hid (Below w.heap.size w W) := hJ.b
            clear pA bA kA kA' hJ hs
            simp only [putAll, List.foldl_cons, List.foldl_nil, Act.put, List.setIfInBounds_toArray, List.set_cons_succ, List.set_cons_zero]
            go_wp2_with fail
            exact j_ret rfl rfl rfl HB9.out ⟨_, rfl, HR9.out, HL9.out⟩

set_option maxHeartbeats 4000000 in
set_option maxRecDepth 100000 in
theorem jsub_any (x y : Int) (v u : Value) (w : World) (hv : JIs w v x) (hu : JIs w u y) (hlx : (Dec.limbs x.natAbs).length ≤ 1000000) (hly : (Dec.limbs y.natAbs).length ≤ 1000000) :
    Calls Try.prog 87 #[v, u] w fun e w' => ∃ r, e = .returned r ∧ JIs w' r (x - y) ∧ Below w.heap.size w w' := by
  have hv0 := hv
  have hu0 := hu
  obtain ⟨S1, a1, n1, c1, rfl, hm1, he1, hs1⟩ := hv.parts
  obtain ⟨S2, a2, n2, c2, rfl, hm2, he2, hs2⟩ := hu.parts
  have HJ1 := Lib.hid hv0
  have HJ2 := Lib.hid hu0
  have HM1 := Lib.hid hm1
  have HM2 := Lib.hid hm2
  have HE1 := Lib.hid he1
  have HE2 := Lib.hid he2
  have HLX := Lib.hid hlx
  have HLY := Lib.hid hly
  have HS1 := Lib.hid hs1
  have HS2 := Lib.hid hs2
  have hsb1 : -1 ≤ S1 ∧ S1 ≤ 1 := by omega
  have hsb2 : -1 ≤ S2 ∧ S2 ≤ 1 := by omega
  clear hv hu hv0 hu0 hm1 hm2 he1 he2 hlx hly hs1 hs2
  have HB1 := Lib.hid (ijW_1 w S1 S2 a1 a2 n1 c1 n2 c2)
  have HB2 := Lib.hid (ijW_2 w S1 S2 a1 a2 n1 c1 n2 c2)
  have HB3 := Lib.hid (ijW_3 w S1 S2 a1 a2 n1 c1 n2 c2)
  have HG := Lib.hid (ijW_g w S1 S2 a1 a2 n1 c1 n2 c2)
  have mixed : Try.prog.follows .mixedOrders = true := by kernel_rfl
  go_enter Try.func87, Try.ntmps87
  go_wp2_with fail
  refine region_kk (by kernel_rfl) (by kernel_rfl) rfl (KK) (fun | 0 => .is (.agg #[.int .i64 S1, .slice a1 n1 c1]) | 1 => .is (.agg #[.int .i64 S2, .slice a2 n2 c2]) | 2 => .p ((fun W v => JIs W v (-y))) kkj | 3 => .p ((fun W v => JIs W v (x - y))) kkj | 4 => .any | _ => .any) (MK w.heap.size w w [(51, w.heap.size, [.int .i64 S1, .slice a1 n1 c1]), (51, (w.heap.size + 1), [.int .i64 S2, .slice a2 n2 c2])] [tgK 4 none 4 51 2 (fun W v => JIs W v (x - y)) kkj]) (fun f g a w hn h => MK.ext (n := 5) (by simp) hn h) ?_ ?_ ?_
  · refine ⟨HG.out.b.drew, kk_below HG.out.b.drew, HG.out.size, (by intro q hq; simp only [List.mem_cons, List.not_mem_nil, or_false] at hq; rcases hq with rfl | rfl; exact HB1.out; exact HB2.out), ?_, (by intro t u h1 h2 hd; simp only [List.mem_singleton] at h1 h2; subst h1; subst h2; exact absurd rfl hd)⟩
    intro t ht h
    simp only [List.mem_singleton] at ht
    subst ht
    exact ⟨w.heap.size + 1 + 1, _, rfl, by omega, HB3.out, rfl, by intro q hq; simp only [List.mem_cons, List.not_mem_nil, or_false] at hq; rcases hq with rfl | rfl <;> (simp <;> omega)⟩
  · intro i o f A W hi hJ hf hdep hdn hcl hfr hsz
    rcases i with _ | _ | _ | _ | _ | i
    all_goals (simp at hi)
    all_goals (try subst hi)
    · have t2 := hfr 2 (by simp)
      have hb0 : BlkC 51 W w.heap.size [.int .i64 S1, .slice a1 n1 c1] := hJ.kept (51, w.heap.size, [.int .i64 S1, .slice a1 n1 c1]) (by simp)
      have x00 : W.cell? ⟨w.heap.size, 0, none⟩ = some (.int .i64 S1) := by rw [hb0.cell 0]; rfl
      have x01 : W.cell? ⟨w.heap.size, 1, none⟩ = some (.slice a1 n1 c1) := by rw [hb0.cell 1]; rfl
      refine par_value (v := .agg #[.int .i64 S1, .slice a1 n1 c1]) (w' := W) ?_ ⟨KK.refl _, hJ.same _ _ _ (by simp), rfl⟩
      simp [go_sem, Act.eval, t2, x00, x01]
    · have t3 := hfr 3 (by simp)
      have hb1 : BlkC 51 W (w.heap.size + 1) [.int .i64 S2, .slice a2 n2 c2] := hJ.kept (51, (w.heap.size + 1), [.int .i64 S2, .slice a2 n2 c2]) (by simp)
      have x10 : W.cell? ⟨(w.heap.size + 1), 0, none⟩ = some (.int .i64 S2) := by rw [hb1.cell 0]; rfl
      have x11 : W.cell? ⟨(w.heap.size + 1), 1, none⟩ = some (.slice a2 n2 c2) := by rw [hb1.cell 1]; rfl
      refine par_value (v := .agg #[.int .i64 S2, .slice a2 n2 c2]) (w' := W) ?_ ⟨KK.refl _, hJ.same _ _ _ (by simp), rfl⟩
      simp [go_sem, Act.eval, t3, x10, x11]
    · have t6 : A.tmps.getD 6 undef = .agg #[.int .i64 S2, .slice a2 n2 c2] := hdep 1 _ 6 rfl (by kernel_rfl) rfl
      refine par_call (w' := W) (f := 104) (xs := #[Value.agg #[.int .i64 S2, .slice a2 n2 c2]]) (by simp [go_sem, Act.eval, t6]) ?_
      refine (jneg_any y _ _ (kkj _ _ _ hJ.k HJ2.out)).mono ?_
      rintro e w1 ⟨r, rfl, hr, hg1⟩
      exact ⟨r, rfl, kk_below hg1, hJ.gr hg1 _ _ _ (by simp), hr⟩
    · have t5 : A.tmps.getD 5 undef = .agg #[.int .i64 S1, .slice a1 n1 c1] := hdep 0 _ 5 rfl (by kernel_rfl) rfl
      have t7 : (fun W v => JIs W v (-y)) W (A.tmps.getD 7 undef) := hdep 2 _ 7 rfl (by kernel_rfl) rfl
      refine par_call (w' := W) (f := 103) (xs := #[Value.agg #[.int .i64 S1, .slice a1 n1 c1], A.tmps.getD 7 undef]) (by simp [go_sem, Act.eval, t5]) ?_
      refine (jadd_any x (-y) _ _ _ (kkj _ _ _ hJ.k HJ1.out) t7 HLX.out (by rw [Int.natAbs_neg]; exact HLY.out)).mono ?_
      rintro e w1 ⟨r, rfl, hr0, hg1⟩
      exact ⟨r, rfl, kk_below hg1, hJ.gr hg1 _ _ _ (by simp), (by rw [Int.sub_eq_add_neg]; exact hr0)⟩
    · have t8 : (fun W v => JIs W v (x - y)) W (A.tmps.getD 8 undef) := hdep 3 _ 8 rfl (by kernel_rfl) rfl
      obtain ⟨g9, cs9, hp9, hb9, hk9⟩ := hJ.ahead (t0 := tgK 4 none 4 51 2 (fun W v => JIs W v (x - y)) kkj) (by simp) (fun j hj => by cases hj) hf
      obtain ⟨y0, y1, rfl⟩ := len2 hk9
      have hv8 := t8
      obtain ⟨a8, c8, e8, _⟩ := t8
      rw [e8] at hv8
      have hst : StK 51 W g9 _ [.int .i64 (x - y).sign, .slice a8 (Dec.limbs (x - y).natAbs).length c8] := (StK.one (T := 51) hb9 ⟨by decide, by decide⟩ 0 (.int .i64 (x - y).sign)).more ⟨by decide, by decide⟩ 1 (.slice a8 (Dec.limbs (x - y).natAbs).length c8)
      have hcell := hb9.cell
      have hfree := hb9.free
      refine par_skip ?_ ⟨hst.kk, hJ.put 4 undef (by simp) (fun j hj => by cases hj) rfl hp9 hst.gr hst.kk hst.bb (kkj _ _ _ hst.kk hv8) (by simp) (by simp), trivial⟩
      simp [go_sem, Act.eval, hp9, e8, hcell, hfree]
  · intro vs W hJ hs
    obtain ⟨gA, csA, pA, _, bA, kA, _⟩ := hJ.at' (tgK 4 none 4 51 2 (fun W v => JIs W v (x - y)) kkj) (by simp) (fun j hj => by cases hj)
    have eA : gA = (w.heap.size + 1 + 1) := ptr_eq (by simpa [putAll, Act.put] using pA)
    subst eA
    have kA' : JIs W (.agg csA.toArray) (x - y) := kA
    obtain ⟨a8, c8, rfl⟩ := j_cs kA'
    have HB9 : Hid (BlkC 51 W (w.heap.size + 1 + 1) _) := bA
    have HR9 : Hid (JIs W (.agg _) (x - y)) := kA'
    have HL9 : Hid (Below w.heap.size w W) := hJ.b
    clear pA bA kA kA' hJ hs
    simp only [putAll, List.foldl_cons, List.foldl_nil, Act.put, List.setIfInBounds_toArray, List.set_cons_succ, List.set_cons_zero]
    go_wp2_with fail
    exact j_ret rfl rfl rfl HB9.out ⟨_, rfl, HR9.out, HL9.out⟩

set_option maxHeartbeats 4000000 in
set_option maxRecDepth 100000 in
theorem jmul_any (x y : Int) (v u : Value) (w : World) (hv : JIs w v x) (hu : JIs w u y) (hlx : (Dec.limbs x.natAbs).length ≤ 1000000) (hly : (Dec.limbs y.natAbs).length ≤ 1000000) :
    Calls Try.prog 88 #[v, u] w fun e w' => ∃ r, e = .returned r ∧ JIs w' r (x * y) ∧ Below w.heap.size w w' := by
  have hv0 := hv
  have hu0 := hu
  obtain ⟨S1, a1, n1, c1, rfl, hm1, he1, hs1⟩ := hv.parts
  obtain ⟨S2, a2, n2, c2, rfl, hm2, he2, hs2⟩ := hu.parts
  have HJ1 := Lib.hid hv0
  have HJ2 := Lib.hid hu0
  have HM1 := Lib.hid hm1
  have HM2 := Lib.hid hm2
  have HE1 := Lib.hid he1
  have HE2 := Lib.hid he2
  have HLX := Lib.hid hlx
  have HLY := Lib.hid hly
  have HS1 := Lib.hid hs1
  have HS2 := Lib.hid hs2
  have hsb1 : -1 ≤ S1 ∧ S1 ≤ 1 := by omega
  have hsb2 : -1 ≤ S2 ∧ S2 ≤ 1 := by omega
  clear hv hu hv0 hu0 hm1 hm2 he1 he2 hlx hly hs1 hs2
  have HB1 := Lib.hid (ijW_1 w S1 S2 a1 a2 n1 c1 n2 c2)
  have HB2 := Lib.hid (ijW_2 w S1 S2 a1 a2 n1 c1 n2 c2)
  have HB3 := Lib.hid (ijW_3 w S1 S2 a1 a2 n1 c1 n2 c2)
  have HG := Lib.hid (ijW_g w S1 S2 a1 a2 n1 c1 n2 c2)
  have mixed : Try.prog.follows .mixedOrders = true := by kernel_rfl
  obtain ⟨T, hT⟩ : ∃ T, T = S1 * S2 := ⟨_, rfl⟩
  have hTb : T = 1 ∧ S1 ≠ 0 ∧ S2 ≠ 0 ∨ T = -1 ∧ S1 ≠ 0 ∧ S2 ≠ 0 ∨ T = 0 ∧ (S1 = 0 ∨ S2 = 0) := by
    have g1 := HS1.out
    have g2 := HS2.out
    rcases g1 with ⟨rfl, g1⟩ | ⟨rfl, g1⟩ | ⟨rfl, g1⟩ <;> rcases g2 with ⟨rfl, g2⟩ | ⟨rfl, g2⟩ | ⟨rfl, g2⟩ <;> omega
  have HT : Hid (IntKind.i64.wrap (S1 * S2) = T) := Lib.hid (by rw [← hT, IntKind.wrap_i64]; omega)
  have HK : Hid (T = 1 ∨ T = -1 ∨ x.natAbs * y.natAbs = 0) := Lib.hid (by
    rcases hTb with h | h | ⟨_, h | h⟩
    · exact .inl h.1
    · exact .inr (.inl h.1)
    · have hx0 : x = 0 := by have := HS1.out; omega
      exact .inr (.inr (by rw [hx0]; simp))
    · have hy0 : y = 0 := by have := HS2.out; omega
      exact .inr (.inr (by rw [hy0]; simp)))
  have HZ : Hid (T * ((x.natAbs * y.natAbs : Nat) : Int) = x * y) := Lib.hid (by
    have e1 := HE1.out
    have e2 := HE2.out
    calc T * ((x.natAbs * y.natAbs : Nat) : Int) = (S1 * (x.natAbs : Int)) * (S2 * (y.natAbs : Int)) := by rw [hT, Int.natCast_mul]; grind
      _ = x * y := by rw [e1, e2])
  clear hT hTb
  go_enter Try.func88, Try.ntmps88
  go_wp2_with fail
  refine region_kk (by kernel_rfl) (by kernel_rfl) rfl (KK) (fun | 0 => .is (.pointer (some ⟨w.heap.size, 0, none⟩)) | 1 => .is ((.int .i64 S1)) | 2 => .is (.pointer (some ⟨(w.heap.size + 1), 0, none⟩)) | 3 => .is ((.int .i64 S2)) | 4 => .is (.int .i64 T) | 5 => .is (.pointer (some ⟨w.heap.size, 1, none⟩)) | 6 => .is (.agg #[.slice a1 n1 c1]) | 7 => .is (.pointer (some ⟨(w.heap.size + 1), 1, none⟩)) | 8 => .is (.agg #[.slice a2 n2 c2]) | 9 => .p ((fun W v => MIs W v (x.natAbs * y.natAbs))) kkm | 10 => .p ((fun W v => JIs W v (x * y))) kkj | 11 => .any | _ => .any) (MK w.heap.size w w [(51, w.heap.size, [.int .i64 S1, .slice a1 n1 c1]), (51, (w.heap.size + 1), [.int .i64 S2, .slice a2 n2 c2])] [tgK 4 none 11 51 2 (fun W v => JIs W v (x * y)) kkj]) (fun f g a w hn h => MK.ext (n := 12) (by simp) hn h) ?_ ?_ ?_
  · refine ⟨HG.out.b.drew, kk_below HG.out.b.drew, HG.out.size, (by intro q hq; simp only [List.mem_cons, List.not_mem_nil, or_false] at hq; rcases hq with rfl | rfl; exact HB1.out; exact HB2.out), ?_, (by intro t u h1 h2 hd; simp only [List.mem_singleton] at h1 h2; subst h1; subst h2; exact absurd rfl hd)⟩
    intro t ht h
    simp only [List.mem_singleton] at ht
    subst ht
    exact ⟨w.heap.size + 1 + 1, _, rfl, by omega, HB3.out, rfl, by intro q hq; simp only [List.mem_cons, List.not_mem_nil, or_false] at hq; rcases hq with rfl | rfl <;> (simp <;> omega)⟩
  · intro i o f A W hi hJ hf hdep hdn hcl hfr hsz
    rcases i with _ | _ | _ | _ | _ | _ | _ | _ | _ | _ | _ | _ | i
    all_goals (simp at hi)
    all_goals (try subst hi)
    · have t2 := hfr 2 (by simp)
      refine par_value (v := .pointer (some ⟨w.heap.size, 0, none⟩)) (w' := W) ?_ ⟨KK.refl _, hJ.same _ _ _ (by simp), rfl⟩
      simp [go_sem, Act.eval, t2]
    · have t5 : A.tmps.getD 5 undef = .pointer (some ⟨w.heap.size, 0, none⟩) := hdep 0 _ 5 rfl (by kernel_rfl) rfl
      have hb0 : BlkC 51 W w.heap.size [.int .i64 S1, .slice a1 n1 c1] := hJ.kept (51, w.heap.size, [.int .i64 S1, .slice a1 n1 c1]) (by simp)
      have x00 : W.cell? ⟨w.heap.size, 0, none⟩ = some (.int .i64 S1) := by rw [hb0.cell 0]; rfl
      have x01 : W.cell? ⟨w.heap.size, 1, none⟩ = some (.slice a1 n1 c1) := by rw [hb0.cell 1]; rfl
      refine par_value (v := (.int .i64 S1)) (w' := W) ?_ ⟨KK.refl _, hJ.same _ _ _ (by simp), rfl⟩
      simp [go_sem, Act.eval, t5, x00]
    · have t3 := hfr 3 (by simp)
      refine par_value (v := .pointer (some ⟨(w.heap.size + 1), 0, none⟩)) (w' := W) ?_ ⟨KK.refl _, hJ.same _ _ _ (by simp), rfl⟩
      simp [go_sem, Act.eval, t3]
    · have t7 : A.tmps.getD 7 undef = .pointer (some ⟨(w.heap.size + 1), 0, none⟩) := hdep 2 _ 7 rfl (by kernel_rfl) rfl
      have hb1 : BlkC 51 W (w.heap.size + 1) [.int .i64 S2, .slice a2 n2 c2] := hJ.kept (51, (w.heap.size + 1), [.int .i64 S2, .slice a2 n2 c2]) (by simp)
      have x10 : W.cell? ⟨(w.heap.size + 1), 0, none⟩ = some (.int .i64 S2) := by rw [hb1.cell 0]; rfl
      have x11 : W.cell? ⟨(w.heap.size + 1), 1, none⟩ = some (.slice a2 n2 c2) := by rw [hb1.cell 1]; rfl
      refine par_value (v := (.int .i64 S2)) (w' := W) ?_ ⟨KK.refl _, hJ.same _ _ _ (by simp), rfl⟩
      simp [go_sem, Act.eval, t7, x10]
    · have t6 : A.tmps.getD 6 undef = (.int .i64 S1) := hdep 1 _ 6 rfl (by kernel_rfl) rfl
      have t8 : A.tmps.getD 8 undef = (.int .i64 S2) := hdep 3 _ 8 rfl (by kernel_rfl) rfl
      refine par_value (v := .int .i64 T) (w' := W) ?_ ⟨KK.refl _, hJ.same _ _ _ (by simp), rfl⟩
      simp [go_sem, Act.eval, t6, t8, HT.out]
    · have t2 := hfr 2 (by simp)
      refine par_value (v := .pointer (some ⟨w.heap.size, 1, none⟩)) (w' := W) ?_ ⟨KK.refl _, hJ.same _ _ _ (by simp), rfl⟩
      simp [go_sem, Act.eval, t2]
    · have t10 : A.tmps.getD 10 undef = .pointer (some ⟨w.heap.size, 1, none⟩) := hdep 5 _ 10 rfl (by kernel_rfl) rfl
      have hb0 : BlkC 51 W w.heap.size [.int .i64 S1, .slice a1 n1 c1] := hJ.kept (51, w.heap.size, [.int .i64 S1, .slice a1 n1 c1]) (by simp)
      have x00 : W.cell? ⟨w.heap.size, 0, none⟩ = some (.int .i64 S1) := by rw [hb0.cell 0]; rfl
      have x01 : W.cell? ⟨w.heap.size, 1, none⟩ = some (.slice a1 n1 c1) := by rw [hb0.cell 1]; rfl
      refine par_value (v := .agg #[.slice a1 n1 c1]) (w' := W) ?_ ⟨KK.refl _, hJ.same _ _ _ (by simp), rfl⟩
      simp [go_sem, Act.eval, t10, x01]
    · have t3 := hfr 3 (by simp)
      refine par_value (v := .pointer (some ⟨(w.heap.size + 1), 1, none⟩)) (w' := W) ?_ ⟨KK.refl _, hJ.same _ _ _ (by simp), rfl⟩
      simp [go_sem, Act.eval, t3]
    · have t12 : A.tmps.getD 12 undef = .pointer (some ⟨(w.heap.size + 1), 1, none⟩) := hdep 7 _ 12 rfl (by kernel_rfl) rfl
      have hb1 : BlkC 51 W (w.heap.size + 1) [.int .i64 S2, .slice a2 n2 c2] := hJ.kept (51, (w.heap.size + 1), [.int .i64 S2, .slice a2 n2 c2]) (by simp)
      have x10 : W.cell? ⟨(w.heap.size + 1), 0, none⟩ = some (.int .i64 S2) := by rw [hb1.cell 0]; rfl
      have x11 : W.cell? ⟨(w.heap.size + 1), 1, none⟩ = some (.slice a2 n2 c2) := by rw [hb1.cell 1]; rfl
      refine par_value (v := .agg #[.slice a2 n2 c2]) (w' := W) ?_ ⟨KK.refl _, hJ.same _ _ _ (by simp), rfl⟩
      simp [go_sem, Act.eval, t12, x11]
    · have t11 : A.tmps.getD 11 undef = .agg #[.slice a1 n1 c1] := hdep 6 _ 11 rfl (by kernel_rfl) rfl
      have t13 : A.tmps.getD 13 undef = .agg #[.slice a2 n2 c2] := hdep 8 _ 13 rfl (by kernel_rfl) rfl
      refine par_call (w' := W) (f := 105) (xs := #[Value.agg #[.slice a1 n1 c1], Value.agg #[.slice a2 n2 c2]]) (by simp [go_sem, Act.eval, t11, t13]) ?_
      refine (mmul_any x.natAbs y.natAbs _ _ _ (kkm _ _ _ hJ.k HM1.out) (kkm _ _ _ hJ.k HM2.out) HLX.out HLY.out).mono ?_
      rintro e w1 ⟨r, rfl, hr, hg1⟩
      exact ⟨r, rfl, kk_below hg1, hJ.gr hg1 _ _ _ (by simp), hr⟩
    · have t9 : A.tmps.getD 9 undef = .int .i64 T := hdep 4 _ 9 rfl (by kernel_rfl) rfl
      have t14 : (fun W v => MIs W v (x.natAbs * y.natAbs)) W (A.tmps.getD 14 undef) := hdep 9 _ 14 rfl (by kernel_rfl) rfl
      refine par_call (w' := W) (f := 84) (xs := #[Value.int IntKind.i64 T, A.tmps.getD 14 undef]) (by simp [go_sem, Act.eval, t9]) ?_
      refine (jmade_any T (x.natAbs * y.natAbs) _ _ t14 HK.out).mono ?_
      rintro e w1 ⟨r, rfl, hr0, hg1⟩
      exact ⟨r, rfl, kk_below hg1, hJ.gr hg1 _ _ _ (by simp), (HZ.out ▸ hr0)⟩
    · have t15 : (fun W v => JIs W v (x * y)) W (A.tmps.getD 15 undef) := hdep 10 _ 15 rfl (by kernel_rfl) rfl
      obtain ⟨g9, cs9, hp9, hb9, hk9⟩ := hJ.ahead (t0 := tgK 4 none 11 51 2 (fun W v => JIs W v (x * y)) kkj) (by simp) (fun j hj => by cases hj) hf
      obtain ⟨y0, y1, rfl⟩ := len2 hk9
      have hv8 := t15
      obtain ⟨a8, c8, e8, _⟩ := t15
      rw [e8] at hv8
      have hst : StK 51 W g9 _ [.int .i64 (x * y).sign, .slice a8 (Dec.limbs (x * y).natAbs).length c8] := (StK.one (T := 51) hb9 ⟨by decide, by decide⟩ 0 (.int .i64 (x * y).sign)).more ⟨by decide, by decide⟩ 1 (.slice a8 (Dec.limbs (x * y).natAbs).length c8)
      have hcell := hb9.cell
      have hfree := hb9.free
      refine par_skip ?_ ⟨hst.kk, hJ.put 11 undef (by simp) (fun j hj => by cases hj) rfl hp9 hst.gr hst.kk hst.bb (kkj _ _ _ hst.kk hv8) (by simp) (by simp), trivial⟩
      simp [go_sem, Act.eval, hp9, e8, hcell, hfree]
  · intro vs W hJ hs
    obtain ⟨gA, csA, pA, _, bA, kA, _⟩ := hJ.at' (tgK 4 none 11 51 2 (fun W v => JIs W v (x * y)) kkj) (by simp) (fun j hj => by cases hj)
    have eA : gA = (w.heap.size + 1 + 1) := ptr_eq (by simpa [putAll, Act.put] using pA)
    subst eA
    have kA' : JIs W (.agg csA.toArray) (x * y) := kA
    obtain ⟨a8, c8, rfl⟩ := j_cs kA'
    have HB9 : Hid (BlkC 51 W (w.heap.size + 1 + 1) _) := bA
    have HR9 : Hid (JIs W (.agg _) (x * y)) := kA'
    have HL9 : Hid (Below w.heap.size w W) := hJ.b
    clear pA bA kA kA' hJ hs
    simp only [putAll, List.foldl_cons, List.foldl_nil, Act.put, List.setIfInBounds_toArray, List.set_cons_succ, List.set_cons_zero]
    go_wp2_with fail
    exact j_ret rfl rfl rfl HB9.out ⟨_, rfl, HR9.out, HL9.out⟩
end Go.Proofs.Ytnojfiokdhcbjaa

namespace Go.Proofs.Ytnojfiokdhcbjaa
open Go Go.RowKit

theorem limN {n : Nat} (h : n < 1000000000000000000000000000000000000000000000000000000000000000000000000000000000) : (Dec.limbs n).length ≤ 1000000 := by
  have : (Dec.limbs n).length ≤ 100 := (Dec.limbs_len n 100).2 (Nat.lt_of_lt_of_le h (by decide +kernel))
  omega
def B20 (z : Int) : Prop := z.natAbs < 100000000000000000000
theorem B20.mul {x y : Int} (hx : B20 x) (hy : B20 y) : (x * y).natAbs < 100000000000000000000 * 100000000000000000000 := by
  rw [Int.natAbs_mul]
  exact Nat.mul_lt_mul'' hx hy
theorem B20.l {x : Int} (hx : B20 x) : (Dec.limbs x.natAbs).length ≤ 1000000 := limN (Nat.lt_of_lt_of_le hx (by decide))
theorem b20_rng {x : Int} (h : Rng64 x) : B20 x := by
  unfold B20
  have := h.1
  have := h.2
  omega
section
variable (w : World) (Sa Sx Sb Su : Int) (pa px pb pu : Option Addr) (na ca nx cx nb cb nu cu : Nat)
abbrev apW : World := ((((w.alloc (.cells #[.int .i64 Sa, .slice pa na ca] 51)).alloc (.cells #[.int .i64 Sx, .slice px nx cx] 51)).alloc (.cells #[.int .i64 Sb, .slice pb nb cb] 51)).alloc (.cells #[.int .i64 Su, .slice pu nu cu] 51))
theorem apW_1 : BlkC 51 (apW w Sa Sx Sb Su pa px pb pu na ca nx cx nb cb nu cu) w.heap.size [.int .i64 Sa, .slice pa na ca] := (((BlkC.new _ w [.int .i64 Sa, .slice pa na ca]).still (grown_alloc _ _ none)).still (grown_alloc _ _ none)).still (grown_alloc _ _ none)
theorem apW_2 : BlkC 51 (apW w Sa Sx Sb Su pa px pb pu na ca nx cx nb cb nu cu) (w.heap.size + 1) [.int .i64 Sx, .slice px nx cx] := ((blk_at (cs := [.int .i64 Sx, .slice px nx cx]) (by simp)).still (grown_alloc _ _ none)).still (grown_alloc _ _ none)
theorem apW_3 : BlkC 51 (apW w Sa Sx Sb Su pa px pb pu na ca nx cx nb cb nu cu) (w.heap.size + 1 + 1) [.int .i64 Sb, .slice pb nb cb] := (blk_at (cs := [.int .i64 Sb, .slice pb nb cb]) (by simp)).still (grown_alloc _ _ none)
theorem apW_4 : BlkC 51 (apW w Sa Sx Sb Su pa px pb pu na ca nx cx nb cb nu cu) (w.heap.size + 1 + 1 + 1) [.int .i64 Su, .slice pu nu cu] := blk_at (cs := [.int .i64 Su, .slice pu nu cu]) (by simp)
theorem apW_g : Own w.heap.size w (apW w Sa Sx Sb Su pa px pb pu na ca nx cx nb cb nu cu) := (((own_alloc _ _).alloc (by simp) _).alloc (by simp; omega) _).alloc (by simp; omega) _
end

set_option maxHeartbeats 4000000 in
set_option maxRecDepth 100000 in
theorem apart_any (a x b u d : Int) (va vx vb vu : Value) (w : World) (ha : JIs w va a) (hx : JIs w vx x) (hb : JIs w vb b) (hu : JIs w vu u) (la : B20 a) (lx : B20 x) (lb : B20 b) (lu : B20 u) (hd : Rng64 d) :
    Calls Try.prog 48 #[va, vx, vb, vu, .int .i64 d] w fun e w' => e = .returned (.bool (decide (d * (x * u) < a * u - b * x))) ∧ Below w.heap.size w w' := by
  have HJa := Lib.hid ha
  obtain ⟨Sa, pa, na, ca, rfl, -, -, -⟩ := ha.parts
  have HLa := Lib.hid la
  have HJx := Lib.hid hx
  obtain ⟨Sx, px, nx, cx, rfl, -, -, -⟩ := hx.parts
  have HLx := Lib.hid lx
  have HJb := Lib.hid hb
  obtain ⟨Sb, pb, nb, cb, rfl, -, -, -⟩ := hb.parts
  have HLb := Lib.hid lb
  have HJu := Lib.hid hu
  obtain ⟨Su, pu, nu, cu, rfl, -, -, -⟩ := hu.parts
  have HLu := Lib.hid lu
  have HD := Lib.hid hd
  have hau := B20.mul la lu
  have hbv := B20.mul lb lx
  have hvu := B20.mul lx lu
  have hdvu : (d * (x * u)).natAbs < 100000000000000000000 * (100000000000000000000 * 100000000000000000000) := by
    rw [Int.natAbs_mul]
    exact Nat.mul_lt_mul'' (b20_rng hd) hvu
  have HL1 : Hid ((Dec.limbs (a * u).natAbs).length ≤ 1000000) := Lib.hid (limN (by omega))
  have HL2 : Hid ((Dec.limbs (b * x).natAbs).length ≤ 1000000) := Lib.hid (limN (by omega))
  have HL3 : Hid ((Dec.limbs (x * u).natAbs).length ≤ 1000000) := Lib.hid (limN (by omega))
  obtain ⟨f0, hf0⟩ : ∃ f0, a * u - b * x = f0 := ⟨_, rfl⟩
  have HF := Lib.hid hf0
  have HL4 : Hid ((Dec.limbs f0.natAbs).length ≤ 1000000) := Lib.hid (limN (by rw [← hf0]; omega))
  have HL5 : Hid ((Dec.limbs (d * (x * u)).natAbs).length ≤ 1000000) := Lib.hid (limN (by omega))
  have HC : Hid (decide (0 < cmpZ f0 (d * (x * u))) = decide (d * (x * u) < f0)) := Lib.hid (by
    unfold cmpZ
    by_cases h : d * (x * u) < f0
    · rw [if_neg (by omega), if_pos h]; simp [h]
    · split <;> simp [h])
  rw [hf0]
  have HB1 := Lib.hid (apW_1 w Sa Sx Sb Su pa px pb pu na ca nx cx nb cb nu cu)
  have HB2 := Lib.hid (apW_2 w Sa Sx Sb Su pa px pb pu na ca nx cx nb cb nu cu)
  have HB3 := Lib.hid (apW_3 w Sa Sx Sb Su pa px pb pu na ca nx cx nb cb nu cu)
  have HB4 := Lib.hid (apW_4 w Sa Sx Sb Su pa px pb pu na ca nx cx nb cb nu cu)
  have HG := Lib.hid (apW_g w Sa Sx Sb Su pa px pb pu na ca nx cx nb cb nu cu)
  clear ha hx hb hu la lx lb lu hd hau hbv hvu hdvu hf0
  have mixed : Try.prog.follows .mixedOrders = true := by kernel_rfl
  go_enter Try.func48, Try.ntmps48
  go_wp2_with fail
  refine region_kk (by kernel_rfl) (by kernel_rfl) rfl (KK) (fun | 0 => .is (.agg #[.int .i64 Sa, .slice pa na ca]) | 1 => .is (.agg #[.int .i64 Su, .slice pu nu cu]) | 2 => .p ((fun W v => JIs W v (a * u))) kkj | 3 => .is (.agg #[.int .i64 Sb, .slice pb nb cb]) | 4 => .is (.agg #[.int .i64 Sx, .slice px nx cx]) | 5 => .p ((fun W v => JIs W v (b * x))) kkj | 6 => .p ((fun W v => JIs W v (f0))) kkj | 7 => .any | 8 => .any | _ => .any) (MK w.heap.size w w [(51, w.heap.size, [.int .i64 Sa, .slice pa na ca]), (51, (w.heap.size + 1), [.int .i64 Sx, .slice px nx cx]), (51, (w.heap.size + 1 + 1), [.int .i64 Sb, .slice pb nb cb]), (51, (w.heap.size + 1 + 1 + 1), [.int .i64 Su, .slice pu nu cu])] [tgK 11 (some 7) 8 51 2 (fun W v => JIs W v f0) kkj]) (fun f g a w hn h => MK.ext (n := 9) (by simp) hn h) ?_ ?_ ?_
  · refine ⟨HG.out.b.drew, kk_below HG.out.b.drew, HG.out.size, (by intro q hq; simp only [List.mem_cons, List.not_mem_nil, or_false] at hq; rcases hq with rfl | rfl | rfl | rfl; exact HB1.out; exact HB2.out; exact HB3.out; exact HB4.out), ?_, (by intro t u h1 h2 hd; simp only [List.mem_singleton] at h1 h2; subst h1; subst h2; exact absurd rfl hd)⟩
    intro t ht h
    simp only [List.mem_singleton] at ht
    subst ht
    exact absurd (h 7 rfl) (by simp)
  · intro i o f A W hi hJ hf hdep hdn hcl hfr hsz
    rcases i with _ | _ | _ | _ | _ | _ | _ | _ | _ | i
    all_goals (simp at hi)
    all_goals (try subst hi)
    · have t5 := hfr 5 (by simp)
      have hb0 : BlkC 51 W w.heap.size [.int .i64 Sa, .slice pa na ca] := hJ.kept (51, w.heap.size, [.int .i64 Sa, .slice pa na ca]) (by simp)
      have x00 : W.cell? ⟨w.heap.size, 0, none⟩ = some (.int .i64 Sa) := by rw [hb0.cell 0]; rfl
      have x01 : W.cell? ⟨w.heap.size, 1, none⟩ = some (.slice pa na ca) := by rw [hb0.cell 1]; rfl
      refine par_value (v := .agg #[.int .i64 Sa, .slice pa na ca]) (w' := W) ?_ ⟨KK.refl _, hJ.same _ _ _ (by simp), rfl⟩
      simp [go_sem, Act.eval, t5, x00, x01]
    · have t8 := hfr 8 (by simp)
      have hb3 : BlkC 51 W (w.heap.size + 1 + 1 + 1) [.int .i64 Su, .slice pu nu cu] := hJ.kept (51, (w.heap.size + 1 + 1 + 1), [.int .i64 Su, .slice pu nu cu]) (by simp)
      have x30 : W.cell? ⟨(w.heap.size + 1 + 1 + 1), 0, none⟩ = some (.int .i64 Su) := by rw [hb3.cell 0]; rfl
      have x31 : W.cell? ⟨(w.heap.size + 1 + 1 + 1), 1, none⟩ = some (.slice pu nu cu) := by rw [hb3.cell 1]; rfl
      refine par_value (v := .agg #[.int .i64 Su, .slice pu nu cu]) (w' := W) ?_ ⟨KK.refl _, hJ.same _ _ _ (by simp), rfl⟩
      simp [go_sem, Act.eval, t8, x30, x31]
    · have t12 : A.tmps.getD 12 undef = .agg #[.int .i64 Sa, .slice pa na ca] := hdep 0 _ 12 rfl (by kernel_rfl) rfl
      have t13 : A.tmps.getD 13 undef = .agg #[.int .i64 Su, .slice pu nu cu] := hdep 1 _ 13 rfl (by kernel_rfl) rfl
      refine par_call (w' := W) (f := 88) (xs := #[Value.agg #[.int .i64 Sa, .slice pa na ca], Value.agg #[.int .i64 Su, .slice pu nu cu]]) (by simp [go_sem, Act.eval, t12, t13]) ?_
      refine (jmul_any a u _ _ _ (kkj _ _ _ hJ.k HJa.out) (kkj _ _ _ hJ.k HJu.out) HLa.out.l HLu.out.l).mono ?_
      rintro e w1 ⟨r, rfl, hr, hg1⟩
      exact ⟨r, rfl, kk_below hg1, hJ.gr hg1 _ _ _ (by simp), hr⟩
    · have t7 := hfr 7 (by simp)
      have hb2 : BlkC 51 W (w.heap.size + 1 + 1) [.int .i64 Sb, .slice pb nb cb] := hJ.kept (51, (w.heap.size + 1 + 1), [.int .i64 Sb, .slice pb nb cb]) (by simp)
      have x20 : W.cell? ⟨(w.heap.size + 1 + 1), 0, none⟩ = some (.int .i64 Sb) := by rw [hb2.cell 0]; rfl
      have x21 : W.cell? ⟨(w.heap.size + 1 + 1), 1, none⟩ = some (.slice pb nb cb) := by rw [hb2.cell 1]; rfl
      refine par_value (v := .agg #[.int .i64 Sb, .slice pb nb cb]) (w' := W) ?_ ⟨KK.refl _, hJ.same _ _ _ (by simp), rfl⟩
      simp [go_sem, Act.eval, t7, x20, x21]
    · have t6 := hfr 6 (by simp)
      have hb1 : BlkC 51 W (w.heap.size + 1) [.int .i64 Sx, .slice px nx cx] := hJ.kept (51, (w.heap.size + 1), [.int .i64 Sx, .slice px nx cx]) (by simp)
      have x10 : W.cell? ⟨(w.heap.size + 1), 0, none⟩ = some (.int .i64 Sx) := by rw [hb1.cell 0]; rfl
      have x11 : W.cell? ⟨(w.heap.size + 1), 1, none⟩ = some (.slice px nx cx) := by rw [hb1.cell 1]; rfl
      refine par_value (v := .agg #[.int .i64 Sx, .slice px nx cx]) (w' := W) ?_ ⟨KK.refl _, hJ.same _ _ _ (by simp), rfl⟩
      simp [go_sem, Act.eval, t6, x10, x11]
    · have t15 : A.tmps.getD 15 undef = .agg #[.int .i64 Sb, .slice pb nb cb] := hdep 3 _ 15 rfl (by kernel_rfl) rfl
      have t16 : A.tmps.getD 16 undef = .agg #[.int .i64 Sx, .slice px nx cx] := hdep 4 _ 16 rfl (by kernel_rfl) rfl
      refine par_call (w' := W) (f := 88) (xs := #[Value.agg #[.int .i64 Sb, .slice pb nb cb], Value.agg #[.int .i64 Sx, .slice px nx cx]]) (by simp [go_sem, Act.eval, t15, t16]) ?_
      refine (jmul_any b x _ _ _ (kkj _ _ _ hJ.k HJb.out) (kkj _ _ _ hJ.k HJx.out) HLb.out.l HLx.out.l).mono ?_
      rintro e w1 ⟨r, rfl, hr, hg1⟩
      exact ⟨r, rfl, kk_below hg1, hJ.gr hg1 _ _ _ (by simp), hr⟩
    · have t14 : (fun W v => JIs W v (a * u)) W (A.tmps.getD 14 undef) := hdep 2 _ 14 rfl (by kernel_rfl) rfl
      have t17 : (fun W v => JIs W v (b * x)) W (A.tmps.getD 17 undef) := hdep 5 _ 17 rfl (by kernel_rfl) rfl
      refine par_call (w' := W) (f := 87) (xs := #[A.tmps.getD 14 undef, A.tmps.getD 17 undef]) (by simp [go_sem, Act.eval]) ?_
      refine (jsub_any (a * u) (b * x) _ _ _ t14 t17 HL1.out HL2.out).mono ?_
      rintro e w1 ⟨r, rfl, hr0, hg1⟩
      exact ⟨r, rfl, kk_below hg1, hJ.gr hg1 _ _ _ (by simp), (HF.out ▸ hr0)⟩
    · have hst : f 8 = false := by
        cases h : f 8 with
        | false => rfl
        | true => rw [hcl 8 _ 7 rfl h (by kernel_rfl)] at hf; cases hf
      refine par_value (v := .pointer (some ⟨W.heap.size, 0, none⟩)) (w' := W.alloc (.cells #[.int .i64 0, .slice none 0 0] 51)) ?_ ⟨kk_alloc _ _, hJ.new (t0 := tgK 11 (some 7) 8 51 2 (fun W v => JIs W v f0) kkj) (cs := [.int .i64 0, .slice none 0 0]) 7 (by simp) rfl (by rw [hsz]; simp) hst (by simp) (by simp) rfl, trivial⟩
      simp [go_sem]
    · have t18 : (fun W v => JIs W v (f0)) W (A.tmps.getD 18 undef) := hdep 6 _ 18 rfl (by kernel_rfl) rfl
      obtain ⟨g9, cs9, hp9, hb9, hk9⟩ := hJ.ahead (t0 := tgK 11 (some 7) 8 51 2 (fun W v => JIs W v f0) kkj) (by simp) (fun j hj => by cases hj; exact hdn 7 (by kernel_rfl)) hf
      obtain ⟨y0, y1, rfl⟩ := len2 hk9
      have hv8 := t18
      obtain ⟨a8, c8, e8, _⟩ := t18
      rw [e8] at hv8
      have hst : StK 51 W g9 _ [.int .i64 (f0).sign, .slice a8 (Dec.limbs (f0).natAbs).length c8] := (StK.one (T := 51) hb9 ⟨by decide, by decide⟩ 0 (.int .i64 (f0).sign)).more ⟨by decide, by decide⟩ 1 (.slice a8 (Dec.limbs (f0).natAbs).length c8)
      have hcell := hb9.cell
      have hfree := hb9.free
      refine par_skip ?_ ⟨hst.kk, hJ.put 8 undef (by simp) (fun j hj => by cases hj; exact hdn 7 (by kernel_rfl)) rfl hp9 hst.gr hst.kk hst.bb (kkj _ _ _ hst.kk hv8) (by simp) (by simp), trivial⟩
      simp [go_sem, Act.eval, hp9, e8, hcell, hfree]
  · intro vs W hJ hs
    obtain ⟨gX, csA, pA, lA, bA, kA, kn⟩ := hJ.at' (tgK 11 (some 7) 8 51 2 (fun W v => JIs W v f0) kkj) (by simp) (fun j hj => by cases hj; rfl)
    have kA' : JIs W (.agg csA.toArray) f0 := kA
    obtain ⟨aX, cX, rfl⟩ := j_cs kA'
    have HC1 : Hid (BlkC 51 W.drew w.heap.size [.int .i64 Sa, .slice pa na ca]) := hJ.kept (51, w.heap.size, [.int .i64 Sa, .slice pa na ca]) (by simp)
    have HC2 : Hid (BlkC 51 W.drew (w.heap.size + 1) [.int .i64 Sx, .slice px nx cx]) := hJ.kept (51, (w.heap.size + 1), [.int .i64 Sx, .slice px nx cx]) (by simp)
    have HC3 : Hid (BlkC 51 W.drew (w.heap.size + 1 + 1) [.int .i64 Sb, .slice pb nb cb]) := hJ.kept (51, (w.heap.size + 1 + 1), [.int .i64 Sb, .slice pb nb cb]) (by simp)
    have HC4 : Hid (BlkC 51 W.drew (w.heap.size + 1 + 1 + 1) [.int .i64 Su, .slice pu nu cu]) := hJ.kept (51, (w.heap.size + 1 + 1 + 1), [.int .i64 Su, .slice pu nu cu]) (by simp)
    obtain ⟨SX, hSX⟩ : ∃ q, q = f0.sign := ⟨_, rfl⟩
    obtain ⟨nX, hnX⟩ : ∃ q, q = (Dec.limbs f0.natAbs).length := ⟨_, rfl⟩
    rw [← hSX, ← hnX] at bA kA'
    have HC5 : Hid (BlkC 51 W.drew gX [.int .i64 SX, .slice aX nX cX]) := bA
    have HJX : Hid (JIs W (.agg #[.int .i64 SX, .slice aX nX cX]) f0) := kA'
    have HG1 : Hid (Below w.heap.size w W) := hJ.b
    have hp11 : vs 11 = .pointer (some ⟨gX, 0, none⟩) := by simpa [putAll, Act.put] using pA
    have HIa := Lib.hid (kkj _ _ _ hJ.k HJa.out)
    have HIx := Lib.hid (kkj _ _ _ hJ.k HJx.out)
    have HIb := Lib.hid (kkj _ _ _ hJ.k HJb.out)
    have HIu := Lib.hid (kkj _ _ _ hJ.k HJu.out)
    clear pA bA kA kA' hJ hs kn lA hSX hnX HJa HJx HJb HJu
    have HJa := HIa
    have HJx := HIx
    have HJb := HIb
    have HJu := HIu
    clear HIa HIx HIb HIu
    simp only [putAll, List.foldl_cons, List.foldl_nil, Act.put, List.setIfInBounds_toArray, List.set_cons_succ, List.set_cons_zero]
    rw [hp11]
    generalize hW0 : W = W0 at *
    clear hW0 HB1 HB2 HB3 HB4 HG
    go_wp2_with fail
    refine region_kk (by kernel_rfl) (by kernel_rfl) rfl (KK) (fun | 0 => .is (.agg #[.int .i64 SX, .slice aX nX cX]) | 1 => .is (.int .i64 d) | 2 => .p ((fun W v => JIs W v (d))) kkj | 3 => .is (.agg #[.int .i64 Sx, .slice px nx cx]) | 4 => .is (.agg #[.int .i64 Su, .slice pu nu cu]) | 5 => .p ((fun W v => JIs W v (x * u))) kkj | 6 => .p ((fun W v => JIs W v (d * (x * u)))) kkj | 7 => .is (.int .i64 (cmpZ f0 (d * (x * u)))) | 8 => .is (.bool (decide (d * (x * u) < f0))) | 9 => .is (.bool (decide (d * (x * u) < f0))) | _ => .any) (MK w.heap.size w W0 [(51, w.heap.size, [.int .i64 Sa, .slice pa na ca]), (51, (w.heap.size + 1), [.int .i64 Sx, .slice px nx cx]), (51, (w.heap.size + 1 + 1), [.int .i64 Sb, .slice pb nb cb]), (51, (w.heap.size + 1 + 1 + 1), [.int .i64 Su, .slice pu nu cu]), (51, gX, [.int .i64 SX, .slice aX nX cX])] []) (fun f g a w hn h => MK.ext (n := 10) (by simp) hn h) ?_ ?_ ?_
    · exact ⟨HG1.out.drew, ⟨fun _ _ h => h, fun _ _ h => h⟩, HG1.out.size, (by intro q hq; simp only [List.mem_cons, List.not_mem_nil, or_false] at hq; rcases hq with rfl | rfl | rfl | rfl | rfl; exact HC1.out; exact HC2.out; exact HC3.out; exact HC4.out; exact HC5.out), (fun t ht => by cases ht), (fun t u ht => by cases ht)⟩
    · intro i o f A W hi hJ hf hdep hdn hcl hfr hsz
      rcases i with _ | _ | _ | _ | _ | _ | _ | _ | _ | _ | i
      all_goals (simp at hi)
      all_goals (try subst hi)
      · have t11 := hfr 11 (by simp)
        have hb4 : BlkC 51 W gX [.int .i64 SX, .slice aX nX cX] := hJ.kept (51, gX, [.int .i64 SX, .slice aX nX cX]) (by simp)
        have x40 : W.cell? ⟨gX, 0, none⟩ = some (.int .i64 SX) := by rw [hb4.cell 0]; rfl
        have x41 : W.cell? ⟨gX, 1, none⟩ = some (.slice aX nX cX) := by rw [hb4.cell 1]; rfl
        refine par_value (v := .agg #[.int .i64 SX, .slice aX nX cX]) (w' := W) ?_ ⟨KK.refl _, hJ.same _ _ _ (by simp), rfl⟩
        simp [go_sem, Act.eval, t11, x40, x41]
      · have t4 := hfr 4 (by simp)
        refine par_value (v := .int .i64 d) (w' := W) ?_ ⟨KK.refl _, hJ.same _ _ _ (by simp), rfl⟩
        simp [go_sem, Act.eval, t4]
      · have t20 : A.tmps.getD 20 undef = .int .i64 d := hdep 1 _ 20 rfl (by kernel_rfl) rfl
        refine par_call (w' := W) (f := 47) (xs := #[Value.int IntKind.i64 d]) (by simp [go_sem, Act.eval, t20]) ?_
        refine (jOf_any d _ HD.out.1 HD.out.2).mono ?_
        rintro e w1 ⟨r, rfl, hr, hg1⟩
        exact ⟨r, rfl, kk_below hg1, hJ.gr hg1 _ _ _ (by simp), hr⟩
      · have t6 := hfr 6 (by simp)
        have hb1 : BlkC 51 W (w.heap.size + 1) [.int .i64 Sx, .slice px nx cx] := hJ.kept (51, (w.heap.size + 1), [.int .i64 Sx, .slice px nx cx]) (by simp)
        have x10 : W.cell? ⟨(w.heap.size + 1), 0, none⟩ = some (.int .i64 Sx) := by rw [hb1.cell 0]; rfl
        have x11 : W.cell? ⟨(w.heap.size + 1), 1, none⟩ = some (.slice px nx cx) := by rw [hb1.cell 1]; rfl
        refine par_value (v := .agg #[.int .i64 Sx, .slice px nx cx]) (w' := W) ?_ ⟨KK.refl _, hJ.same _ _ _ (by simp), rfl⟩
        simp [go_sem, Act.eval, t6, x10, x11]
      · have t8 := hfr 8 (by simp)
        have hb3 : BlkC 51 W (w.heap.size + 1 + 1 + 1) [.int .i64 Su, .slice pu nu cu] := hJ.kept (51, (w.heap.size + 1 + 1 + 1), [.int .i64 Su, .slice pu nu cu]) (by simp)
        have x30 : W.cell? ⟨(w.heap.size + 1 + 1 + 1), 0, none⟩ = some (.int .i64 Su) := by rw [hb3.cell 0]; rfl
        have x31 : W.cell? ⟨(w.heap.size + 1 + 1 + 1), 1, none⟩ = some (.slice pu nu cu) := by rw [hb3.cell 1]; rfl
        refine par_value (v := .agg #[.int .i64 Su, .slice pu nu cu]) (w' := W) ?_ ⟨KK.refl _, hJ.same _ _ _ (by simp), rfl⟩
        simp [go_sem, Act.eval, t8, x30, x31]
      · have t22 : A.tmps.getD 22 undef = .agg #[.int .i64 Sx, .slice px nx cx] := hdep 3 _ 22 rfl (by kernel_rfl) rfl
        have t23 : A.tmps.getD 23 undef = .agg #[.int .i64 Su, .slice pu nu cu] := hdep 4 _ 23 rfl (by kernel_rfl) rfl
        refine par_call (w' := W) (f := 88) (xs := #[Value.agg #[.int .i64 Sx, .slice px nx cx], Value.agg #[.int .i64 Su, .slice pu nu cu]]) (by simp [go_sem, Act.eval, t22, t23]) ?_
        refine (jmul_any x u _ _ _ (kkj _ _ _ hJ.k HJx.out) (kkj _ _ _ hJ.k HJu.out) HLx.out.l HLu.out.l).mono ?_
        rintro e w1 ⟨r, rfl, hr, hg1⟩
        exact ⟨r, rfl, kk_below hg1, hJ.gr hg1 _ _ _ (by simp), hr⟩
      · have t21 : (fun W v => JIs W v (d)) W (A.tmps.getD 21 undef) := hdep 2 _ 21 rfl (by kernel_rfl) rfl
        have t24 : (fun W v => JIs W v (x * u)) W (A.tmps.getD 24 undef) := hdep 5 _ 24 rfl (by kernel_rfl) rfl
        refine par_call (w' := W) (f := 88) (xs := #[A.tmps.getD 21 undef, A.tmps.getD 24 undef]) (by simp [go_sem, Act.eval]) ?_
        refine (jmul_any d (x * u) _ _ _ t21 t24 (b20_rng HD.out).l HL3.out).mono ?_
        rintro e w1 ⟨r, rfl, hr, hg1⟩
        exact ⟨r, rfl, kk_below hg1, hJ.gr hg1 _ _ _ (by simp), hr⟩
      · have t19 : A.tmps.getD 19 undef = .agg #[.int .i64 SX, .slice aX nX cX] := hdep 0 _ 19 rfl (by kernel_rfl) rfl
        have t25 : (fun W v => JIs W v (d * (x * u))) W (A.tmps.getD 25 undef) := hdep 6 _ 25 rfl (by kernel_rfl) rfl
        refine par_call (w' := W) (f := 89) (xs := #[Value.agg #[.int .i64 SX, .slice aX nX cX], A.tmps.getD 25 undef]) (by simp [go_sem, Act.eval, t19]) ?_
        refine (jcmp_any f0 (d * (x * u)) _ _ _ (kkj _ _ _ hJ.k HJX.out) t25 HL4.out HL5.out).mono ?_
        rintro e w1 ⟨rfl, hg1⟩
        exact ⟨_, rfl, kk_below hg1, hJ.gr hg1 _ _ _ (by simp), rfl⟩
      · have t26 : A.tmps.getD 26 undef = .int .i64 (cmpZ f0 (d * (x * u))) := hdep 7 _ 26 rfl (by kernel_rfl) rfl
        refine par_value (v := .bool (decide (d * (x * u) < f0))) (w' := W) ?_ ⟨KK.refl _, hJ.same _ _ _ (by simp), rfl⟩
        have hc := HC.out
        simp [go_sem, Act.eval, t26, hc]
      · have t27 : A.tmps.getD 27 undef = .bool (decide (d * (x * u) < f0)) := hdep 8 _ 27 rfl (by kernel_rfl) rfl
        refine par_value (v := .bool (decide (d * (x * u) < f0))) (w' := W) ?_ ⟨KK.refl _, hJ.same _ _ _ (by simp), rfl⟩
        simp [go_sem, Act.eval, t27]
    · intro vs W hJ hs
      have HL9 : Hid (Below w.heap.size w W) := hJ.b
      have e10 : vs 10 = .bool (decide (d * (x * u) < f0)) := hs 9 _ _ rfl rfl
      clear hJ hs
      simp only [putAll, List.foldl_cons, List.foldl_nil, Act.put, List.setIfInBounds_toArray, List.set_cons_succ, List.set_cons_zero]
      rw [e10]
      go_wp2_with fail
      go_ret
      exact ⟨rfl, HL9.out⟩
end Go.Proofs.Ytnojfiokdhcbjaa
