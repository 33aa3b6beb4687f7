/-
  slices.SortStableFunc at boxes: symMerge: the walk. (Printed by gen_sym.py.)
-/
import Derived.Test.YtnojfiokdhcbjaaSrtB
namespace Go.Proofs.Ytnojfiokdhcbjaa
open Go Go.RowKit Go.Lib Go.Sort Go.Shelf
variable {α : Type} [Inhabited α]

set_option maxHeartbeats 16000000 in
set_option maxRecDepth 1000000 in
theorem symMerge_mid (k : Nat) (zE : ∀ w, (Go.sizeOf 72).run Try.prog w = .ok k w) (enc : α → List Value) (cf : α → α → Int) (hO : SWO (ltOf cf)) (g : Nat) (cb : Array Value) (blk off cap sz : Nat) (d0 : Array α) (w0 : World)
    (eg : ∀ args w, (callFunc g args).run Try.prog w = .ok (.enter g args) w) (hcmp : CmpLays Try.prog g cb enc k cf blk off sz w0)
    (R : RowK enc k w0 blk off d0) (hs : d0.size = sz) (hsz : sz < 4611686018427387904) (N a m b : Nat) (d : Array α) (w : World) (hN : b - a ≤ N + 1) (hd : d.size = sz) (S : SWK enc k w0 blk off d w) (ham2 : a + 1 < m) (hmb2 : m + 1 < b) (hb : b ≤ sz) (hs1 : SortedIn (ltOf cf) a m d) (hs2 : SortedIn (ltOf cf) m b d)
    (ih : ∀ (a m b : Nat) (d : Array α) (w : World), b - a ≤ N → d.size = sz → SWK enc k w0 blk off d w → a < m → m < b → b ≤ sz → SortedIn (ltOf cf) a m d → SortedIn (ltOf cf) m b d →
      Calls Try.prog 71 #[.slice (some ⟨blk, off, none⟩) sz cap, .int .i64 a, .int .i64 m, .int .i64 b, .func (.func g) #[] cb] w fun e w' => e = .returned (.tuple #[]) ∧ ∃ d', d'.size = sz ∧ PermIn a b d d' ∧ SortedIn (ltOf cf) a b d' ∧ SWK enc k w0 blk off d' w') :
    Calls Try.prog 71 #[.slice (some ⟨blk, off, none⟩) sz cap, .int .i64 a, .int .i64 m, .int .i64 b, .func (.func g) #[] cb] w fun e w' => e = .returned (.tuple #[]) ∧ ∃ d', d'.size = sz ∧ PermIn a b d d' ∧ SortedIn (ltOf cf) a b d' ∧ SWK enc k w0 blk off d' w' := by
  have mixed : Try.prog.follows .mixedOrders = true := by kernel_rfl
  have HC : Aside _ := hcmp
  have HO : Hid (SWO (ltOf cf)) := hO
  clear hcmp hO
  have S0 : Aside (SWK enc k w0 blk off d w) := S
  have H1 := Lib.hid hs1
  have H2 := Lib.hid hs2
  have IH : Aside _ := ih
  obtain ⟨mid, hmid⟩ : ∃ mid, mid = (a + b) / 2 := ⟨_, rfl⟩
  have HMZ : Hid (((a : Int) + (b : Int)) / 2 = (mid : Int)) := by show _ = _; rw [hmid]; omega
  have HMID := Lib.hid hmid
  have hm3 : a < mid ∧ mid < b := by omega
  have ham : a < m := by omega
  have hmb : m < b := by omega
  have hbm : mid < m → b ≤ mid + m := by omega
  have hrm : midR m mid ≤ m := by unfold midR; split <;> omega
  have HLE : Hid (midS a m b mid ≤ midR m mid) := mid_le ham hmb hmid
  have hg1 : ¬ (b : Int) - (m : Int) = 1 := by omega
  have hg2 : ¬ (m : Int) - (a : Int) = 1 := by omega
  clear S hs1 hs2 ih hmid
  go_enter Try.func71, Try.ntmps71
  by_cases hc : mid < m
  · have hcz : ((a : Int) + (b : Int)) / 2 < (m : Int) := by have := HMZ.out; omega
    go_wp2_with fail
    rw [HMZ.out]
    try rw [show ((m : Int) - (a : Int) == 1) = false from beq_false_of_ne hg2]
    try rw [show ((b : Int) - (m : Int) == 1) = false from beq_false_of_ne hg1]
    go_loopg [20, 21] (midR m mid - midS a m b mid) (fun kx si sj wr => ∃ (s r : Nat), si = .int .i64 s ∧ sj = .int .i64 r ∧ midS a m b mid ≤ s ∧ s ≤ r ∧ r ≤ midR m mid ∧ r - s ≤ kx ∧ Hid (MidI (ltOf cf) (midS a m b mid) (midR m mid) s r (mid + m - 1) d) ∧ Aside (SWK enc k w0 blk off d wr))
    case atStart => exact ⟨midS a m b mid, midR m mid, by unfold midS; first | (rw [if_pos hc]; have := hbm hc; congr 1; omega) | rw [if_neg hc], by unfold midR; first | rw [if_pos hc] | rw [if_neg hc], Nat.le_refl _, HLE.out, Nat.le_refl _, Nat.le_refl _, MidI.start _ d HLE.out, S0⟩
    case round =>
      clear S0
      obtain ⟨s, r, rfl, rfl, hs0, hsr, hr0, hkx, HL, S1⟩ := hrel
      have hrb : r ≤ m := by omega
      by_cases hlt : s < r
      · have hlz : (s : Int) < (r : Int) := by omega
        obtain ⟨c, hh⟩ : ∃ c, c = (s + r) / 2 := ⟨_, rfl⟩
        have hh1 : s ≤ c ∧ c < r := by rw [hh]; exact half_le s r hlt
        have hz : Hid (((s : Int) + (r : Int)) / 2 = (c : Int)) := by show _ = _; rw [hh]; omega
        clear hh
        obtain ⟨m1, m2, m3, m4⟩ := mid_at ham hmb HMID.out (show midS a m b mid ≤ c by omega) (show c < midR m mid by omega)
        go_wp2_with fail
        rw [hz.out]
        clear hz
        have qa : (c : Int) ≤ (mid : Int) + (m : Int) - 1 := by omega
        cases hlv : ltOf cf d[mid + m - 1 - c]! d[c]! with
        | false =>
          have eax1 : ((mid : Int) + (m : Int) - 1 - (c : Int)).toNat = mid + m - 1 - c := by omega
          have pax1 : (0 : Int) ≤ (mid : Int) + (m : Int) - 1 - (c : Int) := by omega
          have bax1 : (mid : Int) + (m : Int) - 1 - (c : Int) < (sz : Int) := by omega
          have rax1 : IntKind.i64.wrap ((mid : Int) + (m : Int) - 1 - (c : Int)) = (mid : Int) + (m : Int) - 1 - (c : Int) := by rw [IntKind.wrap_i64]; omega
          have eay1 : ((c : Int)).toNat = c := by omega
          have pay1 : (0 : Int) ≤ (c : Int) := by omega
          have bay1 : (c : Int) < (sz : Int) := by omega
          have ray1 : IntKind.i64.wrap ((c : Int)) = (c : Int) := by rw [IntKind.wrap_i64]; omega
          obtain ⟨x1, hx1⟩ : ∃ z, z = d[mid + m - 1 - c]! := ⟨_, rfl⟩
          obtain ⟨y1, hy1⟩ : ∃ z, z = d[c]! := ⟨_, rfl⟩
          have l1a := S1.out.ld R (by omega) Try.prog (mid + m - 1 - c) (by omega)
          have l1b := S1.out.ld R (by omega) Try.prog (c) (by omega)
          rw [← hx1] at l1a
          rw [← hy1] at l1b
          have hc1 := S1.out.cmp HC.out (by omega) x1 y1
          have hv1 : ¬ cf x1 y1 < 0 := by rw [hx1, hy1]; exact of_decide_eq_false hlv
          have hd1 : decide (cf x1 y1 < 0) = false := decide_eq_false hv1
          clear hx1 hy1
          go_wp2_with fail
          go_quiet_grown (first | (go_at_fn g; refine Calls.grown_of (hc1 _ _)))
          have S2 : Aside (SWK enc k w0 blk off d (grow (wr.drewN nq) osq)) := S1.out.grown nq osq
          clear l1a l1b hc1 S1
          generalize grow (wr.drewN nq) osq = w1 at S2 ⊢
          clear nq osq
          go_wp2_with fail
          go_roundg (r - (c + 1))
          case measure => omega
          case rel => exact ⟨c + 1, r, by go_num, rfl, by omega, by omega, hr0, by omega, HL.out.up hh1.1 hh1.2 hlv, S2⟩
        | true =>
          have eax2 : ((mid : Int) + (m : Int) - 1 - (c : Int)).toNat = mid + m - 1 - c := by omega
          have pax2 : (0 : Int) ≤ (mid : Int) + (m : Int) - 1 - (c : Int) := by omega
          have bax2 : (mid : Int) + (m : Int) - 1 - (c : Int) < (sz : Int) := by omega
          have rax2 : IntKind.i64.wrap ((mid : Int) + (m : Int) - 1 - (c : Int)) = (mid : Int) + (m : Int) - 1 - (c : Int) := by rw [IntKind.wrap_i64]; omega
          have eay2 : ((c : Int)).toNat = c := by omega
          have pay2 : (0 : Int) ≤ (c : Int) := by omega
          have bay2 : (c : Int) < (sz : Int) := by omega
          have ray2 : IntKind.i64.wrap ((c : Int)) = (c : Int) := by rw [IntKind.wrap_i64]; omega
          obtain ⟨x2, hx2⟩ : ∃ z, z = d[mid + m - 1 - c]! := ⟨_, rfl⟩
          obtain ⟨y2, hy2⟩ : ∃ z, z = d[c]! := ⟨_, rfl⟩
          have l2a := S1.out.ld R (by omega) Try.prog (mid + m - 1 - c) (by omega)
          have l2b := S1.out.ld R (by omega) Try.prog (c) (by omega)
          rw [← hx2] at l2a
          rw [← hy2] at l2b
          have hc2 := S1.out.cmp HC.out (by omega) x2 y2
          have hv2 : cf x2 y2 < 0 := by rw [hx2, hy2]; exact of_decide_eq_true hlv
          have hd2 : decide (cf x2 y2 < 0) = true := decide_eq_true hv2
          clear hx2 hy2
          go_wp2_with fail
          go_quiet_grown (first | (go_at_fn g; refine Calls.grown_of (hc2 _ _)))
          have S2 : Aside (SWK enc k w0 blk off d (grow (wr.drewN nq) osq)) := S1.out.grown nq osq
          clear l2a l2b hc2 S1
          generalize grow (wr.drewN nq) osq = w2 at S2 ⊢
          clear nq osq
          go_wp2_with fail
          go_roundg (c - s)
          case measure => omega
          case rel => exact ⟨s, c, rfl, by go_num, hs0, by omega, by omega, by omega, HL.out.down hh1.1 hh1.2 hlv, S2⟩
      · have hlz : ¬ (s : Int) < (r : Int) := by omega
        have hre : s = r := by omega
        subst hre
        obtain ⟨g1, g2, g3, g4⟩ := mid_bounds HMID.out HL.out.s0s HL.out.rr0
        have HMI : Hid (Mid (ltOf cf) a m b mid s d) := mid_end HO.out HMID.out H1.out HL.out
        obtain ⟨en, hen⟩ : ∃ en, mid + m - s = en := ⟨_, rfl⟩
        have hez : Hid ((mid : Int) + (m : Int) - (s : Int) = (en : Int)) := by show _ = _; omega
        have e1 : m ≤ en := by omega
        have e2 : en ≤ b := by omega
        have e3 : mid ≤ en := by omega
        have e4 : en + s = mid + m := by omega
        have hen := Lib.hid hen
        clear HL
        by_cases o1 : s < m
        · have o1z : (s : Int) < (m : Int) := by omega
          have o1d : decide ((s : Int) < (m : Int)) = true := decide_eq_true o1z
          by_cases o2 : m < en
          · have o2z : (m : Int) < (mid : Int) + (m : Int) - (s : Int) := by have := hez.out; omega
            have o2d : decide ((m : Int) < (mid : Int) + (m : Int) - (s : Int)) = true := decide_eq_true o2z
            have h := rotate_any k zE enc (.func (.func g) #[] cb) blk off cap sz s m en d0 d w0 wr R hs hd S1.out (by omega) (by omega) (by omega) hsz
            rw [show ((en : Nat) : Int) = (mid : Int) + (m : Int) - (s : Int) from hez.out.symm] at h
            have H : Aside _ := h
            clear h
            go_wp2_with fail
            refine Calls.mono H.out ?_
            clear H S1
            rintro e w7 ⟨rfl, d1, t1, t2, t3⟩
            have hrot1 : Rot s m (mid + m - s) d d1 := by rw [hen.out]; exact t2
            have S7 : Aside _ := t3
            clear t2 t3
            obtain ⟨p1, p2, p3, p4, p5, p6⟩ := rot_parts HO.out ham hmb HMID.out (by omega) H1.out H2.out g1 g2 g3 g4 HMI.out hrot1
            have HP1 := Lib.hid p1
            have HQ1 := Lib.hid p2
            have HQ2 := Lib.hid p3
            have HQ3 : Hid (SortedIn (ltOf cf) mid en d1) := by show SortedIn _ _ _ _; rw [← hen.out]; exact p4
            have HQ4 : Hid (SortedIn (ltOf cf) en b d1) := by show SortedIn _ _ _ _; rw [← hen.out]; exact p5
            have HX := Lib.hid p6
            clear p1 p2 p3 p4 p5 p6 hrot1 HMI
            have hsd1 : d1.size = sz := by have := HP1.out.1; omega
            by_cases l1 : a < s
            · have l1z : (a : Int) < (s : Int) := by omega
              have l1d : decide ((a : Int) < (s : Int)) = true := decide_eq_true l1z
              by_cases l2 : s < mid
              · have l2z : (s : Int) < (mid : Int) := by omega
                have l2d : decide ((s : Int) < (mid : Int)) = true := decide_eq_true l2z
                have h := IH.out a s mid d1 w7 (by omega) (by have := HP1.out.1; omega) S7.out (by omega) (by omega) (by omega) HQ1.out HQ2.out
                have H : Aside _ := h
                clear h
                go_wp2_with fail
                refine Calls.mono H.out ?_
                clear H S7
                rintro e w8 ⟨rfl, d2, t1, t2, t3, t4⟩
                have HP2 := Lib.hid t2
                have HS2 := Lib.hid t3
                have S8 : Aside _ := t4
                clear t2 t3 t4
                by_cases r1 : mid < en
                · have r1z : (mid : Int) < (mid : Int) + (m : Int) - (s : Int) := by have := hez.out; omega
                  have r1d : decide ((mid : Int) < (mid : Int) + (m : Int) - (s : Int)) = true := decide_eq_true r1z
                  by_cases r2 : en < b
                  · have r2z : (mid : Int) + (m : Int) - (s : Int) < (b : Int) := by have := hez.out; omega
                    have r2d : decide ((mid : Int) + (m : Int) - (s : Int) < (b : Int)) = true := decide_eq_true r2z
                    have h := IH.out mid en b d2 w8 (by omega) (by have := HP2.out.1; omega) S8.out (by omega) (by omega) hb (sorted_off HQ3.out HP2.out (.inr (Nat.le_refl _))) (sorted_off HQ4.out HP2.out (.inr (by omega)))
                    rw [show ((en : Nat) : Int) = (mid : Int) + (m : Int) - (s : Int) from hez.out.symm] at h
                    have H : Aside _ := h
                    clear h
                    go_wp2_with fail
                    refine Calls.mono H.out ?_
                    clear H S8
                    rintro e w9 ⟨rfl, d3, t1, t2, t3, t4⟩
                    have T2 := Lib.hid t2
                    have T3 := Lib.hid t3
                    have T4 := Lib.hid t4
                    clear t2 t3 t4
                    go_wp2_with fail
                    (try simp only [Exit.inBlock, Exit.then]); refine bodyPost_end (results_none rfl _ _ _) rfl ?_
                    obtain ⟨f1, f2⟩ := merge_end (lt := ltOf cf) (d1 := d1) (d2 := d2) (d3 := d3) (a := a) (mid := mid) (b := b) (by omega) (by omega) (by omega) HP2.out HS2.out T2.out T3.out HX.out
                    exact ⟨rfl, d3, by have := f1.1; omega, permIn_trans _ _ _ _ _ HP1.out f1, f2, T4.out⟩
                  · have r2z : ¬ (mid : Int) + (m : Int) - (s : Int) < (b : Int) := by have := hez.out; omega
                    have r2d : decide ((mid : Int) + (m : Int) - (s : Int) < (b : Int)) = false := decide_eq_false r2z
                    have hee : en = b := by omega
                    go_wp2_with fail
                    (try simp only [Exit.inBlock, Exit.then]); refine bodyPost_end (results_none rfl _ _ _) rfl ?_
                    have q3 := sorted_off HQ3.out HP2.out (.inr (Nat.le_refl _))
                    rw [hee] at q3
                    obtain ⟨f1, f2⟩ := merge_end (lt := ltOf cf) (d1 := d1) (d2 := d2) (d3 := d2) (a := a) (mid := mid) (b := b) (by omega) (by omega) (by omega) HP2.out HS2.out (permIn_refl _ _ _) q3 HX.out
                    exact ⟨rfl, d2, by have := f1.1; omega, permIn_trans _ _ _ _ _ HP1.out f1, f2, S8.out⟩
                · have r1z : ¬ (mid : Int) < (mid : Int) + (m : Int) - (s : Int) := by have := hez.out; omega
                  have r1d : decide ((mid : Int) < (mid : Int) + (m : Int) - (s : Int)) = false := decide_eq_false r1z
                  have hee : en = mid := by omega
                  go_wp2_with fail
                  (try simp only [Exit.inBlock, Exit.then]); refine bodyPost_end (results_none rfl _ _ _) rfl ?_
                  have q4 := sorted_off HQ4.out HP2.out (.inr (by omega))
                  rw [hee] at q4
                  obtain ⟨f1, f2⟩ := merge_end (lt := ltOf cf) (d1 := d1) (d2 := d2) (d3 := d2) (a := a) (mid := mid) (b := b) (by omega) (by omega) (by omega) HP2.out HS2.out (permIn_refl _ _ _) q4 HX.out
                  exact ⟨rfl, d2, by have := f1.1; omega, permIn_trans _ _ _ _ _ HP1.out f1, f2, S8.out⟩
              · have l2z : ¬ (s : Int) < (mid : Int) := by omega
                have l2d : decide ((s : Int) < (mid : Int)) = false := decide_eq_false l2z
                have hsm : s = mid := by omega
                have q1 := HQ1.out
                rw [hsm] at q1
                obtain ⟨d2, hd2⟩ : ∃ d2, d2 = d1 := ⟨_, rfl⟩
                have HP2 : Hid (PermIn a mid d1 d2) := by rw [hd2]; exact permIn_refl _ _ _
                rw [← hd2] at S7
                have HS2 : Hid (SortedIn (ltOf cf) a mid d2) := by rw [hd2]; exact q1
                clear hd2 q1 hsm
                by_cases r1 : mid < en
                · have r1z : (mid : Int) < (mid : Int) + (m : Int) - (s : Int) := by have := hez.out; omega
                  have r1d : decide ((mid : Int) < (mid : Int) + (m : Int) - (s : Int)) = true := decide_eq_true r1z
                  by_cases r2 : en < b
                  · have r2z : (mid : Int) + (m : Int) - (s : Int) < (b : Int) := by have := hez.out; omega
                    have r2d : decide ((mid : Int) + (m : Int) - (s : Int) < (b : Int)) = true := decide_eq_true r2z
                    have h := IH.out mid en b d2 w7 (by omega) (by have := HP2.out.1; omega) S7.out (by omega) (by omega) hb (sorted_off HQ3.out HP2.out (.inr (Nat.le_refl _))) (sorted_off HQ4.out HP2.out (.inr (by omega)))
                    rw [show ((en : Nat) : Int) = (mid : Int) + (m : Int) - (s : Int) from hez.out.symm] at h
                    have H : Aside _ := h
                    clear h
                    go_wp2_with fail
                    refine Calls.mono H.out ?_
                    clear H S7
                    rintro e w9 ⟨rfl, d3, t1, t2, t3, t4⟩
                    have T2 := Lib.hid t2
                    have T3 := Lib.hid t3
                    have T4 := Lib.hid t4
                    clear t2 t3 t4
                    go_wp2_with fail
                    (try simp only [Exit.inBlock, Exit.then]); refine bodyPost_end (results_none rfl _ _ _) rfl ?_
                    obtain ⟨f1, f2⟩ := merge_end (lt := ltOf cf) (d1 := d1) (d2 := d2) (d3 := d3) (a := a) (mid := mid) (b := b) (by omega) (by omega) (by omega) HP2.out HS2.out T2.out T3.out HX.out
                    exact ⟨rfl, d3, by have := f1.1; omega, permIn_trans _ _ _ _ _ HP1.out f1, f2, T4.out⟩
                  · have r2z : ¬ (mid : Int) + (m : Int) - (s : Int) < (b : Int) := by have := hez.out; omega
                    have r2d : decide ((mid : Int) + (m : Int) - (s : Int) < (b : Int)) = false := decide_eq_false r2z
                    have hee : en = b := by omega
                    go_wp2_with fail
                    (try simp only [Exit.inBlock, Exit.then]); refine bodyPost_end (results_none rfl _ _ _) rfl ?_
                    have q3 := sorted_off HQ3.out HP2.out (.inr (Nat.le_refl _))
                    rw [hee] at q3
                    obtain ⟨f1, f2⟩ := merge_end (lt := ltOf cf) (d1 := d1) (d2 := d2) (d3 := d2) (a := a) (mid := mid) (b := b) (by omega) (by omega) (by omega) HP2.out HS2.out (permIn_refl _ _ _) q3 HX.out
                    exact ⟨rfl, d2, by have := f1.1; omega, permIn_trans _ _ _ _ _ HP1.out f1, f2, S7.out⟩
                · have r1z : ¬ (mid : Int) < (mid : Int) + (m : Int) - (s : Int) := by have := hez.out; omega
                  have r1d : decide ((mid : Int) < (mid : Int) + (m : Int) - (s : Int)) = false := decide_eq_false r1z
                  have hee : en = mid := by omega
                  go_wp2_with fail
                  (try simp only [Exit.inBlock, Exit.then]); refine bodyPost_end (results_none rfl _ _ _) rfl ?_
                  have q4 := sorted_off HQ4.out HP2.out (.inr (by omega))
                  rw [hee] at q4
                  obtain ⟨f1, f2⟩ := merge_end (lt := ltOf cf) (d1 := d1) (d2 := d2) (d3 := d2) (a := a) (mid := mid) (b := b) (by omega) (by omega) (by omega) HP2.out HS2.out (permIn_refl _ _ _) q4 HX.out
                  exact ⟨rfl, d2, by have := f1.1; omega, permIn_trans _ _ _ _ _ HP1.out f1, f2, S7.out⟩
            · have l1z : ¬ (a : Int) < (s : Int) := by omega
              have l1d : decide ((a : Int) < (s : Int)) = false := decide_eq_false l1z
              have hsa : s = a := by omega
              have q2 := HQ2.out
              rw [hsa] at q2
              obtain ⟨d2, hd2⟩ : ∃ d2, d2 = d1 := ⟨_, rfl⟩
              have HP2 : Hid (PermIn a mid d1 d2) := by rw [hd2]; exact permIn_refl _ _ _
              rw [← hd2] at S7
              have HS2 : Hid (SortedIn (ltOf cf) a mid d2) := by rw [hd2]; exact q2
              clear hd2 q2 hsa
              by_cases r1 : mid < en
              · have r1z : (mid : Int) < (mid : Int) + (m : Int) - (s : Int) := by have := hez.out; omega
                have r1d : decide ((mid : Int) < (mid : Int) + (m : Int) - (s : Int)) = true := decide_eq_true r1z
                by_cases r2 : en < b
                · have r2z : (mid : Int) + (m : Int) - (s : Int) < (b : Int) := by have := hez.out; omega
                  have r2d : decide ((mid : Int) + (m : Int) - (s : Int) < (b : Int)) = true := decide_eq_true r2z
                  have h := IH.out mid en b d2 w7 (by omega) (by have := HP2.out.1; omega) S7.out (by omega) (by omega) hb (sorted_off HQ3.out HP2.out (.inr (Nat.le_refl _))) (sorted_off HQ4.out HP2.out (.inr (by omega)))
                  rw [show ((en : Nat) : Int) = (mid : Int) + (m : Int) - (s : Int) from hez.out.symm] at h
                  have H : Aside _ := h
                  clear h
                  go_wp2_with fail
                  refine Calls.mono H.out ?_
                  clear H S7
                  rintro e w9 ⟨rfl, d3, t1, t2, t3, t4⟩
                  have T2 := Lib.hid t2
                  have T3 := Lib.hid t3
                  have T4 := Lib.hid t4
                  clear t2 t3 t4
                  go_wp2_with fail
                  (try simp only [Exit.inBlock, Exit.then]); refine bodyPost_end (results_none rfl _ _ _) rfl ?_
                  obtain ⟨f1, f2⟩ := merge_end (lt := ltOf cf) (d1 := d1) (d2 := d2) (d3 := d3) (a := a) (mid := mid) (b := b) (by omega) (by omega) (by omega) HP2.out HS2.out T2.out T3.out HX.out
                  exact ⟨rfl, d3, by have := f1.1; omega, permIn_trans _ _ _ _ _ HP1.out f1, f2, T4.out⟩
                · have r2z : ¬ (mid : Int) + (m : Int) - (s : Int) < (b : Int) := by have := hez.out; omega
                  have r2d : decide ((mid : Int) + (m : Int) - (s : Int) < (b : Int)) = false := decide_eq_false r2z
                  have hee : en = b := by omega
                  go_wp2_with fail
                  (try simp only [Exit.inBlock, Exit.then]); refine bodyPost_end (results_none rfl _ _ _) rfl ?_
                  have q3 := sorted_off HQ3.out HP2.out (.inr (Nat.le_refl _))
                  rw [hee] at q3
                  obtain ⟨f1, f2⟩ := merge_end (lt := ltOf cf) (d1 := d1) (d2 := d2) (d3 := d2) (a := a) (mid := mid) (b := b) (by omega) (by omega) (by omega) HP2.out HS2.out (permIn_refl _ _ _) q3 HX.out
                  exact ⟨rfl, d2, by have := f1.1; omega, permIn_trans _ _ _ _ _ HP1.out f1, f2, S7.out⟩
              · have r1z : ¬ (mid : Int) < (mid : Int) + (m : Int) - (s : Int) := by have := hez.out; omega
                have r1d : decide ((mid : Int) < (mid : Int) + (m : Int) - (s : Int)) = false := decide_eq_false r1z
                have hee : en = mid := by omega
                go_wp2_with fail
                (try simp only [Exit.inBlock, Exit.then]); refine bodyPost_end (results_none rfl _ _ _) rfl ?_
                have q4 := sorted_off HQ4.out HP2.out (.inr (by omega))
                rw [hee] at q4
                obtain ⟨f1, f2⟩ := merge_end (lt := ltOf cf) (d1 := d1) (d2 := d2) (d3 := d2) (a := a) (mid := mid) (b := b) (by omega) (by omega) (by omega) HP2.out HS2.out (permIn_refl _ _ _) q4 HX.out
                exact ⟨rfl, d2, by have := f1.1; omega, permIn_trans _ _ _ _ _ HP1.out f1, f2, S7.out⟩
          · have o2z : ¬ (m : Int) < (mid : Int) + (m : Int) - (s : Int) := by have := hez.out; omega
            have o2d : decide ((m : Int) < (mid : Int) + (m : Int) - (s : Int)) = false := decide_eq_false o2z
            obtain ⟨d1, hd1⟩ : ∃ d1, d1 = d := ⟨_, rfl⟩
            have hrot1 : Rot s m (mid + m - s) d d1 := by rw [hd1]; exact rot_skip d (by omega) g2 (by omega)
            rw [← hd1] at S1
            clear hd1
            obtain ⟨p1, p2, p3, p4, p5, p6⟩ := rot_parts HO.out ham hmb HMID.out (by omega) H1.out H2.out g1 g2 g3 g4 HMI.out hrot1
            have HP1 := Lib.hid p1
            have HQ1 := Lib.hid p2
            have HQ2 := Lib.hid p3
            have HQ3 : Hid (SortedIn (ltOf cf) mid en d1) := by show SortedIn _ _ _ _; rw [← hen.out]; exact p4
            have HQ4 : Hid (SortedIn (ltOf cf) en b d1) := by show SortedIn _ _ _ _; rw [← hen.out]; exact p5
            have HX := Lib.hid p6
            clear p1 p2 p3 p4 p5 p6 hrot1 HMI
            have hsd1 : d1.size = sz := by have := HP1.out.1; omega
            by_cases l1 : a < s
            · have l1z : (a : Int) < (s : Int) := by omega
              have l1d : decide ((a : Int) < (s : Int)) = true := decide_eq_true l1z
              by_cases l2 : s < mid
              · have l2z : (s : Int) < (mid : Int) := by omega
                have l2d : decide ((s : Int) < (mid : Int)) = true := decide_eq_true l2z
                have h := IH.out a s mid d1 wr (by omega) (by have := HP1.out.1; omega) S1.out (by omega) (by omega) (by omega) HQ1.out HQ2.out
                have H : Aside _ := h
                clear h
                go_wp2_with fail
                refine Calls.mono H.out ?_
                clear H S1
                rintro e w8 ⟨rfl, d2, t1, t2, t3, t4⟩
                have HP2 := Lib.hid t2
                have HS2 := Lib.hid t3
                have S8 : Aside _ := t4
                clear t2 t3 t4
                by_cases r1 : mid < en
                · have r1z : (mid : Int) < (mid : Int) + (m : Int) - (s : Int) := by have := hez.out; omega
                  have r1d : decide ((mid : Int) < (mid : Int) + (m : Int) - (s : Int)) = true := decide_eq_true r1z
                  by_cases r2 : en < b
                  · have r2z : (mid : Int) + (m : Int) - (s : Int) < (b : Int) := by have := hez.out; omega
                    have r2d : decide ((mid : Int) + (m : Int) - (s : Int) < (b : Int)) = true := decide_eq_true r2z
                    have h := IH.out mid en b d2 w8 (by omega) (by have := HP2.out.1; omega) S8.out (by omega) (by omega) hb (sorted_off HQ3.out HP2.out (.inr (Nat.le_refl _))) (sorted_off HQ4.out HP2.out (.inr (by omega)))
                    rw [show ((en : Nat) : Int) = (mid : Int) + (m : Int) - (s : Int) from hez.out.symm] at h
                    have H : Aside _ := h
                    clear h
                    go_wp2_with fail
                    refine Calls.mono H.out ?_
                    clear H S8
                    rintro e w9 ⟨rfl, d3, t1, t2, t3, t4⟩
                    have T2 := Lib.hid t2
                    have T3 := Lib.hid t3
                    have T4 := Lib.hid t4
                    clear t2 t3 t4
                    go_wp2_with fail
                    (try simp only [Exit.inBlock, Exit.then]); refine bodyPost_end (results_none rfl _ _ _) rfl ?_
                    obtain ⟨f1, f2⟩ := merge_end (lt := ltOf cf) (d1 := d1) (d2 := d2) (d3 := d3) (a := a) (mid := mid) (b := b) (by omega) (by omega) (by omega) HP2.out HS2.out T2.out T3.out HX.out
                    exact ⟨rfl, d3, by have := f1.1; omega, permIn_trans _ _ _ _ _ HP1.out f1, f2, T4.out⟩
                  · have r2z : ¬ (mid : Int) + (m : Int) - (s : Int) < (b : Int) := by have := hez.out; omega
                    have r2d : decide ((mid : Int) + (m : Int) - (s : Int) < (b : Int)) = false := decide_eq_false r2z
                    have hee : en = b := by omega
                    go_wp2_with fail
                    (try simp only [Exit.inBlock, Exit.then]); refine bodyPost_end (results_none rfl _ _ _) rfl ?_
                    have q3 := sorted_off HQ3.out HP2.out (.inr (Nat.le_refl _))
                    rw [hee] at q3
                    obtain ⟨f1, f2⟩ := merge_end (lt := ltOf cf) (d1 := d1) (d2 := d2) (d3 := d2) (a := a) (mid := mid) (b := b) (by omega) (by omega) (by omega) HP2.out HS2.out (permIn_refl _ _ _) q3 HX.out
                    exact ⟨rfl, d2, by have := f1.1; omega, permIn_trans _ _ _ _ _ HP1.out f1, f2, S8.out⟩
                · have r1z : ¬ (mid : Int) < (mid : Int) + (m : Int) - (s : Int) := by have := hez.out; omega
                  have r1d : decide ((mid : Int) < (mid : Int) + (m : Int) - (s : Int)) = false := decide_eq_false r1z
                  have hee : en = mid := by omega
                  go_wp2_with fail
                  (try simp only [Exit.inBlock, Exit.then]); refine bodyPost_end (results_none rfl _ _ _) rfl ?_
                  have q4 := sorted_off HQ4.out HP2.out (.inr (by omega))
                  rw [hee] at q4
                  obtain ⟨f1, f2⟩ := merge_end (lt := ltOf cf) (d1 := d1) (d2 := d2) (d3 := d2) (a := a) (mid := mid) (b := b) (by omega) (by omega) (by omega) HP2.out HS2.out (permIn_refl _ _ _) q4 HX.out
                  exact ⟨rfl, d2, by have := f1.1; omega, permIn_trans _ _ _ _ _ HP1.out f1, f2, S8.out⟩
              · have l2z : ¬ (s : Int) < (mid : Int) := by omega
                have l2d : decide ((s : Int) < (mid : Int)) = false := decide_eq_false l2z
                have hsm : s = mid := by omega
                have q1 := HQ1.out
                rw [hsm] at q1
                obtain ⟨d2, hd2⟩ : ∃ d2, d2 = d1 := ⟨_, rfl⟩
                have HP2 : Hid (PermIn a mid d1 d2) := by rw [hd2]; exact permIn_refl _ _ _
                rw [← hd2] at S1
                have HS2 : Hid (SortedIn (ltOf cf) a mid d2) := by rw [hd2]; exact q1
                clear hd2 q1 hsm
                by_cases r1 : mid < en
                · have r1z : (mid : Int) < (mid : Int) + (m : Int) - (s : Int) := by have := hez.out; omega
                  have r1d : decide ((mid : Int) < (mid : Int) + (m : Int) - (s : Int)) = true := decide_eq_true r1z
                  by_cases r2 : en < b
                  · have r2z : (mid : Int) + (m : Int) - (s : Int) < (b : Int) := by have := hez.out; omega
                    have r2d : decide ((mid : Int) + (m : Int) - (s : Int) < (b : Int)) = true := decide_eq_true r2z
                    have h := IH.out mid en b d2 wr (by omega) (by have := HP2.out.1; omega) S1.out (by omega) (by omega) hb (sorted_off HQ3.out HP2.out (.inr (Nat.le_refl _))) (sorted_off HQ4.out HP2.out (.inr (by omega)))
                    rw [show ((en : Nat) : Int) = (mid : Int) + (m : Int) - (s : Int) from hez.out.symm] at h
                    have H : Aside _ := h
                    clear h
                    go_wp2_with fail
                    refine Calls.mono H.out ?_
                    clear H S1
                    rintro e w9 ⟨rfl, d3, t1, t2, t3, t4⟩
                    have T2 := Lib.hid t2
                    have T3 := Lib.hid t3
                    have T4 := Lib.hid t4
                    clear t2 t3 t4
                    go_wp2_with fail
                    (try simp only [Exit.inBlock, Exit.then]); refine bodyPost_end (results_none rfl _ _ _) rfl ?_
                    obtain ⟨f1, f2⟩ := merge_end (lt := ltOf cf) (d1 := d1) (d2 := d2) (d3 := d3) (a := a) (mid := mid) (b := b) (by omega) (by omega) (by omega) HP2.out HS2.out T2.out T3.out HX.out
                    exact ⟨rfl, d3, by have := f1.1; omega, permIn_trans _ _ _ _ _ HP1.out f1, f2, T4.out⟩
                  · have r2z : ¬ (mid : Int) + (m : Int) - (s : Int) < (b : Int) := by have := hez.out; omega
                    have r2d : decide ((mid : Int) + (m : Int) - (s : Int) < (b : Int)) = false := decide_eq_false r2z
                    have hee : en = b := by omega
                    go_wp2_with fail
                    (try simp only [Exit.inBlock, Exit.then]); refine bodyPost_end (results_none rfl _ _ _) rfl ?_
                    have q3 := sorted_off HQ3.out HP2.out (.inr (Nat.le_refl _))
                    rw [hee] at q3
                    obtain ⟨f1, f2⟩ := merge_end (lt := ltOf cf) (d1 := d1) (d2 := d2) (d3 := d2) (a := a) (mid := mid) (b := b) (by omega) (by omega) (by omega) HP2.out HS2.out (permIn_refl _ _ _) q3 HX.out
                    exact ⟨rfl, d2, by have := f1.1; omega, permIn_trans _ _ _ _ _ HP1.out f1, f2, S1.out⟩
                · have r1z : ¬ (mid : Int) < (mid : Int) + (m : Int) - (s : Int) := by have := hez.out; omega
                  have r1d : decide ((mid : Int) < (mid : Int) + (m : Int) - (s : Int)) = false := decide_eq_false r1z
                  have hee : en = mid := by omega
                  go_wp2_with fail
                  (try simp only [Exit.inBlock, Exit.then]); refine bodyPost_end (results_none rfl _ _ _) rfl ?_
                  have q4 := sorted_off HQ4.out HP2.out (.inr (by omega))
                  rw [hee] at q4
                  obtain ⟨f1, f2⟩ := merge_end (lt := ltOf cf) (d1 := d1) (d2 := d2) (d3 := d2) (a := a) (mid := mid) (b := b) (by omega) (by omega) (by omega) HP2.out HS2.out (permIn_refl _ _ _) q4 HX.out
                  exact ⟨rfl, d2, by have := f1.1; omega, permIn_trans _ _ _ _ _ HP1.out f1, f2, S1.out⟩
            · have l1z : ¬ (a : Int) < (s : Int) := by omega
              have l1d : decide ((a : Int) < (s : Int)) = false := decide_eq_false l1z
              have hsa : s = a := by omega
              have q2 := HQ2.out
              rw [hsa] at q2
              obtain ⟨d2, hd2⟩ : ∃ d2, d2 = d1 := ⟨_, rfl⟩
              have HP2 : Hid (PermIn a mid d1 d2) := by rw [hd2]; exact permIn_refl _ _ _
              rw [← hd2] at S1
              have HS2 : Hid (SortedIn (ltOf cf) a mid d2) := by rw [hd2]; exact q2
              clear hd2 q2 hsa
              by_cases r1 : mid < en
              · have r1z : (mid : Int) < (mid : Int) + (m : Int) - (s : Int) := by have := hez.out; omega
                have r1d : decide ((mid : Int) < (mid : Int) + (m : Int) - (s : Int)) = true := decide_eq_true r1z
                by_cases r2 : en < b
                · have r2z : (mid : Int) + (m : Int) - (s : Int) < (b : Int) := by have := hez.out; omega
                  have r2d : decide ((mid : Int) + (m : Int) - (s : Int) < (b : Int)) = true := decide_eq_true r2z
                  have h := IH.out mid en b d2 wr (by omega) (by have := HP2.out.1; omega) S1.out (by omega) (by omega) hb (sorted_off HQ3.out HP2.out (.inr (Nat.le_refl _))) (sorted_off HQ4.out HP2.out (.inr (by omega)))
                  rw [show ((en : Nat) : Int) = (mid : Int) + (m : Int) - (s : Int) from hez.out.symm] at h
                  have H : Aside _ := h
                  clear h
                  go_wp2_with fail
                  refine Calls.mono H.out ?_
                  clear H S1
                  rintro e w9 ⟨rfl, d3, t1, t2, t3, t4⟩
                  have T2 := Lib.hid t2
                  have T3 := Lib.hid t3
                  have T4 := Lib.hid t4
                  clear t2 t3 t4
                  go_wp2_with fail
                  (try simp only [Exit.inBlock, Exit.then]); refine bodyPost_end (results_none rfl _ _ _) rfl ?_
                  obtain ⟨f1, f2⟩ := merge_end (lt := ltOf cf) (d1 := d1) (d2 := d2) (d3 := d3) (a := a) (mid := mid) (b := b) (by omega) (by omega) (by omega) HP2.out HS2.out T2.out T3.out HX.out
                  exact ⟨rfl, d3, by have := f1.1; omega, permIn_trans _ _ _ _ _ HP1.out f1, f2, T4.out⟩
                · have r2z : ¬ (mid : Int) + (m : Int) - (s : Int) < (b : Int) := by have := hez.out; omega
                  have r2d : decide ((mid : Int) + (m : Int) - (s : Int) < (b : Int)) = false := decide_eq_false r2z
                  have hee : en = b := by omega
                  go_wp2_with fail
                  (try simp only [Exit.inBlock, Exit.then]); refine bodyPost_end (results_none rfl _ _ _) rfl ?_
                  have q3 := sorted_off HQ3.out HP2.out (.inr (Nat.le_refl _))
                  rw [hee] at q3
                  obtain ⟨f1, f2⟩ := merge_end (lt := ltOf cf) (d1 := d1) (d2 := d2) (d3 := d2) (a := a) (mid := mid) (b := b) (by omega) (by omega) (by omega) HP2.out HS2.out (permIn_refl _ _ _) q3 HX.out
                  exact ⟨rfl, d2, by have := f1.1; omega, permIn_trans _ _ _ _ _ HP1.out f1, f2, S1.out⟩
              · have r1z : ¬ (mid : Int) < (mid : Int) + (m : Int) - (s : Int) := by have := hez.out; omega
                have r1d : decide ((mid : Int) < (mid : Int) + (m : Int) - (s : Int)) = false := decide_eq_false r1z
                have hee : en = mid := by omega
                go_wp2_with fail
                (try simp only [Exit.inBlock, Exit.then]); refine bodyPost_end (results_none rfl _ _ _) rfl ?_
                have q4 := sorted_off HQ4.out HP2.out (.inr (by omega))
                rw [hee] at q4
                obtain ⟨f1, f2⟩ := merge_end (lt := ltOf cf) (d1 := d1) (d2 := d2) (d3 := d2) (a := a) (mid := mid) (b := b) (by omega) (by omega) (by omega) HP2.out HS2.out (permIn_refl _ _ _) q4 HX.out
                exact ⟨rfl, d2, by have := f1.1; omega, permIn_trans _ _ _ _ _ HP1.out f1, f2, S1.out⟩
        · have o1z : ¬ (s : Int) < (m : Int) := by omega
          have o1d : decide ((s : Int) < (m : Int)) = false := decide_eq_false o1z
          obtain ⟨d1, hd1⟩ : ∃ d1, d1 = d := ⟨_, rfl⟩
          have hrot1 : Rot s m (mid + m - s) d d1 := by rw [hd1]; exact rot_skip d (by omega) g2 (by omega)
          rw [← hd1] at S1
          clear hd1
          obtain ⟨p1, p2, p3, p4, p5, p6⟩ := rot_parts HO.out ham hmb HMID.out (by omega) H1.out H2.out g1 g2 g3 g4 HMI.out hrot1
          have HP1 := Lib.hid p1
          have HQ1 := Lib.hid p2
          have HQ2 := Lib.hid p3
          have HQ3 : Hid (SortedIn (ltOf cf) mid en d1) := by show SortedIn _ _ _ _; rw [← hen.out]; exact p4
          have HQ4 : Hid (SortedIn (ltOf cf) en b d1) := by show SortedIn _ _ _ _; rw [← hen.out]; exact p5
          have HX := Lib.hid p6
          clear p1 p2 p3 p4 p5 p6 hrot1 HMI
          have hsd1 : d1.size = sz := by have := HP1.out.1; omega
          by_cases l1 : a < s
          · have l1z : (a : Int) < (s : Int) := by omega
            have l1d : decide ((a : Int) < (s : Int)) = true := decide_eq_true l1z
            by_cases l2 : s < mid
            · have l2z : (s : Int) < (mid : Int) := by omega
              have l2d : decide ((s : Int) < (mid : Int)) = true := decide_eq_true l2z
              have h := IH.out a s mid d1 wr (by omega) (by have := HP1.out.1; omega) S1.out (by omega) (by omega) (by omega) HQ1.out HQ2.out
              have H : Aside _ := h
              clear h
              go_wp2_with fail
              refine Calls.mono H.out ?_
              clear H S1
              rintro e w8 ⟨rfl, d2, t1, t2, t3, t4⟩
              have HP2 := Lib.hid t2
              have HS2 := Lib.hid t3
              have S8 : Aside _ := t4
              clear t2 t3 t4
              by_cases r1 : mid < en
              · have r1z : (mid : Int) < (mid : Int) + (m : Int) - (s : Int) := by have := hez.out; omega
                have r1d : decide ((mid : Int) < (mid : Int) + (m : Int) - (s : Int)) = true := decide_eq_true r1z
                by_cases r2 : en < b
                · have r2z : (mid : Int) + (m : Int) - (s : Int) < (b : Int) := by have := hez.out; omega
                  have r2d : decide ((mid : Int) + (m : Int) - (s : Int) < (b : Int)) = true := decide_eq_true r2z
                  have h := IH.out mid en b d2 w8 (by omega) (by have := HP2.out.1; omega) S8.out (by omega) (by omega) hb (sorted_off HQ3.out HP2.out (.inr (Nat.le_refl _))) (sorted_off HQ4.out HP2.out (.inr (by omega)))
                  rw [show ((en : Nat) : Int) = (mid : Int) + (m : Int) - (s : Int) from hez.out.symm] at h
                  have H : Aside _ := h
                  clear h
                  go_wp2_with fail
                  refine Calls.mono H.out ?_
                  clear H S8
                  rintro e w9 ⟨rfl, d3, t1, t2, t3, t4⟩
                  have T2 := Lib.hid t2
                  have T3 := Lib.hid t3
                  have T4 := Lib.hid t4
                  clear t2 t3 t4
                  go_wp2_with fail
                  (try simp only [Exit.inBlock, Exit.then]); refine bodyPost_end (results_none rfl _ _ _) rfl ?_
                  obtain ⟨f1, f2⟩ := merge_end (lt := ltOf cf) (d1 := d1) (d2 := d2) (d3 := d3) (a := a) (mid := mid) (b := b) (by omega) (by omega) (by omega) HP2.out HS2.out T2.out T3.out HX.out
                  exact ⟨rfl, d3, by have := f1.1; omega, permIn_trans _ _ _ _ _ HP1.out f1, f2, T4.out⟩
                · have r2z : ¬ (mid : Int) + (m : Int) - (s : Int) < (b : Int) := by have := hez.out; omega
                  have r2d : decide ((mid : Int) + (m : Int) - (s : Int) < (b : Int)) = false := decide_eq_false r2z
                  have hee : en = b := by omega
                  go_wp2_with fail
                  (try simp only [Exit.inBlock, Exit.then]); refine bodyPost_end (results_none rfl _ _ _) rfl ?_
                  have q3 := sorted_off HQ3.out HP2.out (.inr (Nat.le_refl _))
                  rw [hee] at q3
                  obtain ⟨f1, f2⟩ := merge_end (lt := ltOf cf) (d1 := d1) (d2 := d2) (d3 := d2) (a := a) (mid := mid) (b := b) (by omega) (by omega) (by omega) HP2.out HS2.out (permIn_refl _ _ _) q3 HX.out
                  exact ⟨rfl, d2, by have := f1.1; omega, permIn_trans _ _ _ _ _ HP1.out f1, f2, S8.out⟩
              · have r1z : ¬ (mid : Int) < (mid : Int) + (m : Int) - (s : Int) := by have := hez.out; omega
                have r1d : decide ((mid : Int) < (mid : Int) + (m : Int) - (s : Int)) = false := decide_eq_false r1z
                have hee : en = mid := by omega
                go_wp2_with fail
                (try simp only [Exit.inBlock, Exit.then]); refine bodyPost_end (results_none rfl _ _ _) rfl ?_
                have q4 := sorted_off HQ4.out HP2.out (.inr (by omega))
                rw [hee] at q4
                obtain ⟨f1, f2⟩ := merge_end (lt := ltOf cf) (d1 := d1) (d2 := d2) (d3 := d2) (a := a) (mid := mid) (b := b) (by omega) (by omega) (by omega) HP2.out HS2.out (permIn_refl _ _ _) q4 HX.out
                exact ⟨rfl, d2, by have := f1.1; omega, permIn_trans _ _ _ _ _ HP1.out f1, f2, S8.out⟩
            · have l2z : ¬ (s : Int) < (mid : Int) := by omega
              have l2d : decide ((s : Int) < (mid : Int)) = false := decide_eq_false l2z
              have hsm : s = mid := by omega
              have q1 := HQ1.out
              rw [hsm] at q1
              obtain ⟨d2, hd2⟩ : ∃ d2, d2 = d1 := ⟨_, rfl⟩
              have HP2 : Hid (PermIn a mid d1 d2) := by rw [hd2]; exact permIn_refl _ _ _
              rw [← hd2] at S1
              have HS2 : Hid (SortedIn (ltOf cf) a mid d2) := by rw [hd2]; exact q1
              clear hd2 q1 hsm
              by_cases r1 : mid < en
              · have r1z : (mid : Int) < (mid : Int) + (m : Int) - (s : Int) := by have := hez.out; omega
                have r1d : decide ((mid : Int) < (mid : Int) + (m : Int) - (s : Int)) = true := decide_eq_true r1z
                by_cases r2 : en < b
                · have r2z : (mid : Int) + (m : Int) - (s : Int) < (b : Int) := by have := hez.out; omega
                  have r2d : decide ((mid : Int) + (m : Int) - (s : Int) < (b : Int)) = true := decide_eq_true r2z
                  have h := IH.out mid en b d2 wr (by omega) (by have := HP2.out.1; omega) S1.out (by omega) (by omega) hb (sorted_off HQ3.out HP2.out (.inr (Nat.le_refl _))) (sorted_off HQ4.out HP2.out (.inr (by omega)))
                  rw [show ((en : Nat) : Int) = (mid : Int) + (m : Int) - (s : Int) from hez.out.symm] at h
                  have H : Aside _ := h
                  clear h
                  go_wp2_with fail
                  refine Calls.mono H.out ?_
                  clear H S1
                  rintro e w9 ⟨rfl, d3, t1, t2, t3, t4⟩
                  have T2 := Lib.hid t2
                  have T3 := Lib.hid t3
                  have T4 := Lib.hid t4
                  clear t2 t3 t4
                  go_wp2_with fail
                  (try simp only [Exit.inBlock, Exit.then]); refine bodyPost_end (results_none rfl _ _ _) rfl ?_
                  obtain ⟨f1, f2⟩ := merge_end (lt := ltOf cf) (d1 := d1) (d2 := d2) (d3 := d3) (a := a) (mid := mid) (b := b) (by omega) (by omega) (by omega) HP2.out HS2.out T2.out T3.out HX.out
                  exact ⟨rfl, d3, by have := f1.1; omega, permIn_trans _ _ _ _ _ HP1.out f1, f2, T4.out⟩
                · have r2z : ¬ (mid : Int) + (m : Int) - (s : Int) < (b : Int) := by have := hez.out; omega
                  have r2d : decide ((mid : Int) + (m : Int) - (s : Int) < (b : Int)) = false := decide_eq_false r2z
                  have hee : en = b := by omega
                  go_wp2_with fail
                  (try simp only [Exit.inBlock, Exit.then]); refine bodyPost_end (results_none rfl _ _ _) rfl ?_
                  have q3 := sorted_off HQ3.out HP2.out (.inr (Nat.le_refl _))
                  rw [hee] at q3
                  obtain ⟨f1, f2⟩ := merge_end (lt := ltOf cf) (d1 := d1) (d2 := d2) (d3 := d2) (a := a) (mid := mid) (b := b) (by omega) (by omega) (by omega) HP2.out HS2.out (permIn_refl _ _ _) q3 HX.out
                  exact ⟨rfl, d2, by have := f1.1; omega, permIn_trans _ _ _ _ _ HP1.out f1, f2, S1.out⟩
              · have r1z : ¬ (mid : Int) < (mid : Int) + (m : Int) - (s : Int) := by have := hez.out; omega
                have r1d : decide ((mid : Int) < (mid : Int) + (m : Int) - (s : Int)) = false := decide_eq_false r1z
                have hee : en = mid := by omega
                go_wp2_with fail
                (try simp only [Exit.inBlock, Exit.then]); refine bodyPost_end (results_none rfl _ _ _) rfl ?_
                have q4 := sorted_off HQ4.out HP2.out (.inr (by omega))
                rw [hee] at q4
                obtain ⟨f1, f2⟩ := merge_end (lt := ltOf cf) (d1 := d1) (d2 := d2) (d3 := d2) (a := a) (mid := mid) (b := b) (by omega) (by omega) (by omega) HP2.out HS2.out (permIn_refl _ _ _) q4 HX.out
                exact ⟨rfl, d2, by have := f1.1; omega, permIn_trans _ _ _ _ _ HP1.out f1, f2, S1.out⟩
          · have l1z : ¬ (a : Int) < (s : Int) := by omega
            have l1d : decide ((a : Int) < (s : Int)) = false := decide_eq_false l1z
            have hsa : s = a := by omega
            have q2 := HQ2.out
            rw [hsa] at q2
            obtain ⟨d2, hd2⟩ : ∃ d2, d2 = d1 := ⟨_, rfl⟩
            have HP2 : Hid (PermIn a mid d1 d2) := by rw [hd2]; exact permIn_refl _ _ _
            rw [← hd2] at S1
            have HS2 : Hid (SortedIn (ltOf cf) a mid d2) := by rw [hd2]; exact q2
            clear hd2 q2 hsa
            by_cases r1 : mid < en
            · have r1z : (mid : Int) < (mid : Int) + (m : Int) - (s : Int) := by have := hez.out; omega
              have r1d : decide ((mid : Int) < (mid : Int) + (m : Int) - (s : Int)) = true := decide_eq_true r1z
              by_cases r2 : en < b
              · have r2z : (mid : Int) + (m : Int) - (s : Int) < (b : Int) := by have := hez.out; omega
                have r2d : decide ((mid : Int) + (m : Int) - (s : Int) < (b : Int)) = true := decide_eq_true r2z
                have h := IH.out mid en b d2 wr (by omega) (by have := HP2.out.1; omega) S1.out (by omega) (by omega) hb (sorted_off HQ3.out HP2.out (.inr (Nat.le_refl _))) (sorted_off HQ4.out HP2.out (.inr (by omega)))
                rw [show ((en : Nat) : Int) = (mid : Int) + (m : Int) - (s : Int) from hez.out.symm] at h
                have H : Aside _ := h
                clear h
                go_wp2_with fail
                refine Calls.mono H.out ?_
                clear H S1
                rintro e w9 ⟨rfl, d3, t1, t2, t3, t4⟩
                have T2 := Lib.hid t2
                have T3 := Lib.hid t3
                have T4 := Lib.hid t4
                clear t2 t3 t4
                go_wp2_with fail
                (try simp only [Exit.inBlock, Exit.then]); refine bodyPost_end (results_none rfl _ _ _) rfl ?_
                obtain ⟨f1, f2⟩ := merge_end (lt := ltOf cf) (d1 := d1) (d2 := d2) (d3 := d3) (a := a) (mid := mid) (b := b) (by omega) (by omega) (by omega) HP2.out HS2.out T2.out T3.out HX.out
                exact ⟨rfl, d3, by have := f1.1; omega, permIn_trans _ _ _ _ _ HP1.out f1, f2, T4.out⟩
              · have r2z : ¬ (mid : Int) + (m : Int) - (s : Int) < (b : Int) := by have := hez.out; omega
                have r2d : decide ((mid : Int) + (m : Int) - (s : Int) < (b : Int)) = false := decide_eq_false r2z
                have hee : en = b := by omega
                go_wp2_with fail
                (try simp only [Exit.inBlock, Exit.then]); refine bodyPost_end (results_none rfl _ _ _) rfl ?_
                have q3 := sorted_off HQ3.out HP2.out (.inr (Nat.le_refl _))
                rw [hee] at q3
                obtain ⟨f1, f2⟩ := merge_end (lt := ltOf cf) (d1 := d1) (d2 := d2) (d3 := d2) (a := a) (mid := mid) (b := b) (by omega) (by omega) (by omega) HP2.out HS2.out (permIn_refl _ _ _) q3 HX.out
                exact ⟨rfl, d2, by have := f1.1; omega, permIn_trans _ _ _ _ _ HP1.out f1, f2, S1.out⟩
            · have r1z : ¬ (mid : Int) < (mid : Int) + (m : Int) - (s : Int) := by have := hez.out; omega
              have r1d : decide ((mid : Int) < (mid : Int) + (m : Int) - (s : Int)) = false := decide_eq_false r1z
              have hee : en = mid := by omega
              go_wp2_with fail
              (try simp only [Exit.inBlock, Exit.then]); refine bodyPost_end (results_none rfl _ _ _) rfl ?_
              have q4 := sorted_off HQ4.out HP2.out (.inr (by omega))
              rw [hee] at q4
              obtain ⟨f1, f2⟩ := merge_end (lt := ltOf cf) (d1 := d1) (d2 := d2) (d3 := d2) (a := a) (mid := mid) (b := b) (by omega) (by omega) (by omega) HP2.out HS2.out (permIn_refl _ _ _) q4 HX.out
              exact ⟨rfl, d2, by have := f1.1; omega, permIn_trans _ _ _ _ _ HP1.out f1, f2, S1.out⟩
  · have hcz : ¬ ((a : Int) + (b : Int)) / 2 < (m : Int) := by have := HMZ.out; omega
    go_wp2_with fail
    rw [HMZ.out]
    try rw [show ((m : Int) - (a : Int) == 1) = false from beq_false_of_ne hg2]
    try rw [show ((b : Int) - (m : Int) == 1) = false from beq_false_of_ne hg1]
    go_loopg [20, 21] (midR m mid - midS a m b mid) (fun kx si sj wr => ∃ (s r : Nat), si = .int .i64 s ∧ sj = .int .i64 r ∧ midS a m b mid ≤ s ∧ s ≤ r ∧ r ≤ midR m mid ∧ r - s ≤ kx ∧ Hid (MidI (ltOf cf) (midS a m b mid) (midR m mid) s r (mid + m - 1) d) ∧ Aside (SWK enc k w0 blk off d wr))
    case atStart => exact ⟨midS a m b mid, midR m mid, by unfold midS; first | (rw [if_pos hc]; have := hbm hc; congr 1; omega) | rw [if_neg hc], by unfold midR; first | rw [if_pos hc] | rw [if_neg hc], Nat.le_refl _, HLE.out, Nat.le_refl _, Nat.le_refl _, MidI.start _ d HLE.out, S0⟩
    case round =>
      clear S0
      obtain ⟨s, r, rfl, rfl, hs0, hsr, hr0, hkx, HL, S1⟩ := hrel
      have hrb : r ≤ m := by omega
      by_cases hlt : s < r
      · have hlz : (s : Int) < (r : Int) := by omega
        obtain ⟨c, hh⟩ : ∃ c, c = (s + r) / 2 := ⟨_, rfl⟩
        have hh1 : s ≤ c ∧ c < r := by rw [hh]; exact half_le s r hlt
        have hz : Hid (((s : Int) + (r : Int)) / 2 = (c : Int)) := by show _ = _; rw [hh]; omega
        clear hh
        obtain ⟨m1, m2, m3, m4⟩ := mid_at ham hmb HMID.out (show midS a m b mid ≤ c by omega) (show c < midR m mid by omega)
        go_wp2_with fail
        rw [hz.out]
        clear hz
        have qa : (c : Int) ≤ (mid : Int) + (m : Int) - 1 := by omega
        cases hlv : ltOf cf d[mid + m - 1 - c]! d[c]! with
        | false =>
          have eax1 : ((mid : Int) + (m : Int) - 1 - (c : Int)).toNat = mid + m - 1 - c := by omega
          have pax1 : (0 : Int) ≤ (mid : Int) + (m : Int) - 1 - (c : Int) := by omega
          have bax1 : (mid : Int) + (m : Int) - 1 - (c : Int) < (sz : Int) := by omega
          have rax1 : IntKind.i64.wrap ((mid : Int) + (m : Int) - 1 - (c : Int)) = (mid : Int) + (m : Int) - 1 - (c : Int) := by rw [IntKind.wrap_i64]; omega
          have eay1 : ((c : Int)).toNat = c := by omega
          have pay1 : (0 : Int) ≤ (c : Int) := by omega
          have bay1 : (c : Int) < (sz : Int) := by omega
          have ray1 : IntKind.i64.wrap ((c : Int)) = (c : Int) := by rw [IntKind.wrap_i64]; omega
          obtain ⟨x1, hx1⟩ : ∃ z, z = d[mid + m - 1 - c]! := ⟨_, rfl⟩
          obtain ⟨y1, hy1⟩ : ∃ z, z = d[c]! := ⟨_, rfl⟩
          have l1a := S1.out.ld R (by omega) Try.prog (mid + m - 1 - c) (by omega)
          have l1b := S1.out.ld R (by omega) Try.prog (c) (by omega)
          rw [← hx1] at l1a
          rw [← hy1] at l1b
          have hc1 := S1.out.cmp HC.out (by omega) x1 y1
          have hv1 : ¬ cf x1 y1 < 0 := by rw [hx1, hy1]; exact of_decide_eq_false hlv
          have hd1 : decide (cf x1 y1 < 0) = false := decide_eq_false hv1
          clear hx1 hy1
          go_wp2_with fail
          go_quiet_grown (first | (go_at_fn g; refine Calls.grown_of (hc1 _ _)))
          have S2 : Aside (SWK enc k w0 blk off d (grow (wr.drewN nq) osq)) := S1.out.grown nq osq
          clear l1a l1b hc1 S1
          generalize grow (wr.drewN nq) osq = w1 at S2 ⊢
          clear nq osq
          go_wp2_with fail
          go_roundg (r - (c + 1))
          case measure => omega
          case rel => exact ⟨c + 1, r, by go_num, rfl, by omega, by omega, hr0, by omega, HL.out.up hh1.1 hh1.2 hlv, S2⟩
        | true =>
          have eax2 : ((mid : Int) + (m : Int) - 1 - (c : Int)).toNat = mid + m - 1 - c := by omega
          have pax2 : (0 : Int) ≤ (mid : Int) + (m : Int) - 1 - (c : Int) := by omega
          have bax2 : (mid : Int) + (m : Int) - 1 - (c : Int) < (sz : Int) := by omega
          have rax2 : IntKind.i64.wrap ((mid : Int) + (m : Int) - 1 - (c : Int)) = (mid : Int) + (m : Int) - 1 - (c : Int) := by rw [IntKind.wrap_i64]; omega
          have eay2 : ((c : Int)).toNat = c := by omega
          have pay2 : (0 : Int) ≤ (c : Int) := by omega
          have bay2 : (c : Int) < (sz : Int) := by omega
          have ray2 : IntKind.i64.wrap ((c : Int)) = (c : Int) := by rw [IntKind.wrap_i64]; omega
          obtain ⟨x2, hx2⟩ : ∃ z, z = d[mid + m - 1 - c]! := ⟨_, rfl⟩
          obtain ⟨y2, hy2⟩ : ∃ z, z = d[c]! := ⟨_, rfl⟩
          have l2a := S1.out.ld R (by omega) Try.prog (mid + m - 1 - c) (by omega)
          have l2b := S1.out.ld R (by omega) Try.prog (c) (by omega)
          rw [← hx2] at l2a
          rw [← hy2] at l2b
          have hc2 := S1.out.cmp HC.out (by omega) x2 y2
          have hv2 : cf x2 y2 < 0 := by rw [hx2, hy2]; exact of_decide_eq_true hlv
          have hd2 : decide (cf x2 y2 < 0) = true := decide_eq_true hv2
          clear hx2 hy2
          go_wp2_with fail
          go_quiet_grown (first | (go_at_fn g; refine Calls.grown_of (hc2 _ _)))
          have S2 : Aside (SWK enc k w0 blk off d (grow (wr.drewN nq) osq)) := S1.out.grown nq osq
          clear l2a l2b hc2 S1
          generalize grow (wr.drewN nq) osq = w2 at S2 ⊢
          clear nq osq
          go_wp2_with fail
          go_roundg (c - s)
          case measure => omega
          case rel => exact ⟨s, c, rfl, by go_num, hs0, by omega, by omega, by omega, HL.out.down hh1.1 hh1.2 hlv, S2⟩
      · have hlz : ¬ (s : Int) < (r : Int) := by omega
        have hre : s = r := by omega
        subst hre
        obtain ⟨g1, g2, g3, g4⟩ := mid_bounds HMID.out HL.out.s0s HL.out.rr0
        have HMI : Hid (Mid (ltOf cf) a m b mid s d) := mid_end HO.out HMID.out H1.out HL.out
        obtain ⟨en, hen⟩ : ∃ en, mid + m - s = en := ⟨_, rfl⟩
        have hez : Hid ((mid : Int) + (m : Int) - (s : Int) = (en : Int)) := by show _ = _; omega
        have e1 : m ≤ en := by omega
        have e2 : en ≤ b := by omega
        have e3 : mid ≤ en := by omega
        have e4 : en + s = mid + m := by omega
        have hen := Lib.hid hen
        clear HL
        by_cases o1 : s < m
        · have o1z : (s : Int) < (m : Int) := by omega
          have o1d : decide ((s : Int) < (m : Int)) = true := decide_eq_true o1z
          by_cases o2 : m < en
          · have o2z : (m : Int) < (mid : Int) + (m : Int) - (s : Int) := by have := hez.out; omega
            have o2d : decide ((m : Int) < (mid : Int) + (m : Int) - (s : Int)) = true := decide_eq_true o2z
            have h := rotate_any k zE enc (.func (.func g) #[] cb) blk off cap sz s m en d0 d w0 wr R hs hd S1.out (by omega) (by omega) (by omega) hsz
            rw [show ((en : Nat) : Int) = (mid : Int) + (m : Int) - (s : Int) from hez.out.symm] at h
            have H : Aside _ := h
            clear h
            go_wp2_with fail
            refine Calls.mono H.out ?_
            clear H S1
            rintro e w7 ⟨rfl, d1, t1, t2, t3⟩
            have hrot1 : Rot s m (mid + m - s) d d1 := by rw [hen.out]; exact t2
            have S7 : Aside _ := t3
            clear t2 t3
            obtain ⟨p1, p2, p3, p4, p5, p6⟩ := rot_parts HO.out ham hmb HMID.out (by omega) H1.out H2.out g1 g2 g3 g4 HMI.out hrot1
            have HP1 := Lib.hid p1
            have HQ1 := Lib.hid p2
            have HQ2 := Lib.hid p3
            have HQ3 : Hid (SortedIn (ltOf cf) mid en d1) := by show SortedIn _ _ _ _; rw [← hen.out]; exact p4
            have HQ4 : Hid (SortedIn (ltOf cf) en b d1) := by show SortedIn _ _ _ _; rw [← hen.out]; exact p5
            have HX := Lib.hid p6
            clear p1 p2 p3 p4 p5 p6 hrot1 HMI
            have hsd1 : d1.size = sz := by have := HP1.out.1; omega
            by_cases l1 : a < s
            · have l1z : (a : Int) < (s : Int) := by omega
              have l1d : decide ((a : Int) < (s : Int)) = true := decide_eq_true l1z
              by_cases l2 : s < mid
              · have l2z : (s : Int) < (mid : Int) := by omega
                have l2d : decide ((s : Int) < (mid : Int)) = true := decide_eq_true l2z
                have h := IH.out a s mid d1 w7 (by omega) (by have := HP1.out.1; omega) S7.out (by omega) (by omega) (by omega) HQ1.out HQ2.out
                have H : Aside _ := h
                clear h
                go_wp2_with fail
                refine Calls.mono H.out ?_
                clear H S7
                rintro e w8 ⟨rfl, d2, t1, t2, t3, t4⟩
                have HP2 := Lib.hid t2
                have HS2 := Lib.hid t3
                have S8 : Aside _ := t4
                clear t2 t3 t4
                by_cases r1 : mid < en
                · have r1z : (mid : Int) < (mid : Int) + (m : Int) - (s : Int) := by have := hez.out; omega
                  have r1d : decide ((mid : Int) < (mid : Int) + (m : Int) - (s : Int)) = true := decide_eq_true r1z
                  by_cases r2 : en < b
                  · have r2z : (mid : Int) + (m : Int) - (s : Int) < (b : Int) := by have := hez.out; omega
                    have r2d : decide ((mid : Int) + (m : Int) - (s : Int) < (b : Int)) = true := decide_eq_true r2z
                    have h := IH.out mid en b d2 w8 (by omega) (by have := HP2.out.1; omega) S8.out (by omega) (by omega) hb (sorted_off HQ3.out HP2.out (.inr (Nat.le_refl _))) (sorted_off HQ4.out HP2.out (.inr (by omega)))
                    rw [show ((en : Nat) : Int) = (mid : Int) + (m : Int) - (s : Int) from hez.out.symm] at h
                    have H : Aside _ := h
                    clear h
                    go_wp2_with fail
                    refine Calls.mono H.out ?_
                    clear H S8
                    rintro e w9 ⟨rfl, d3, t1, t2, t3, t4⟩
                    have T2 := Lib.hid t2
                    have T3 := Lib.hid t3
                    have T4 := Lib.hid t4
                    clear t2 t3 t4
                    go_wp2_with fail
                    (try simp only [Exit.inBlock, Exit.then]); refine bodyPost_end (results_none rfl _ _ _) rfl ?_
                    obtain ⟨f1, f2⟩ := merge_end (lt := ltOf cf) (d1 := d1) (d2 := d2) (d3 := d3) (a := a) (mid := mid) (b := b) (by omega) (by omega) (by omega) HP2.out HS2.out T2.out T3.out HX.out
                    exact ⟨rfl, d3, by have := f1.1; omega, permIn_trans _ _ _ _ _ HP1.out f1, f2, T4.out⟩
                  · have r2z : ¬ (mid : Int) + (m : Int) - (s : Int) < (b : Int) := by have := hez.out; omega
                    have r2d : decide ((mid : Int) + (m : Int) - (s : Int) < (b : Int)) = false := decide_eq_false r2z
                    have hee : en = b := by omega
                    go_wp2_with fail
                    (try simp only [Exit.inBlock, Exit.then]); refine bodyPost_end (results_none rfl _ _ _) rfl ?_
                    have q3 := sorted_off HQ3.out HP2.out (.inr (Nat.le_refl _))
                    rw [hee] at q3
                    obtain ⟨f1, f2⟩ := merge_end (lt := ltOf cf) (d1 := d1) (d2 := d2) (d3 := d2) (a := a) (mid := mid) (b := b) (by omega) (by omega) (by omega) HP2.out HS2.out (permIn_refl _ _ _) q3 HX.out
                    exact ⟨rfl, d2, by have := f1.1; omega, permIn_trans _ _ _ _ _ HP1.out f1, f2, S8.out⟩
                · have r1z : ¬ (mid : Int) < (mid : Int) + (m : Int) - (s : Int) := by have := hez.out; omega
                  have r1d : decide ((mid : Int) < (mid : Int) + (m : Int) - (s : Int)) = false := decide_eq_false r1z
                  have hee : en = mid := by omega
                  go_wp2_with fail
                  (try simp only [Exit.inBlock, Exit.then]); refine bodyPost_end (results_none rfl _ _ _) rfl ?_
                  have q4 := sorted_off HQ4.out HP2.out (.inr (by omega))
                  rw [hee] at q4
                  obtain ⟨f1, f2⟩ := merge_end (lt := ltOf cf) (d1 := d1) (d2 := d2) (d3 := d2) (a := a) (mid := mid) (b := b) (by omega) (by omega) (by omega) HP2.out HS2.out (permIn_refl _ _ _) q4 HX.out
                  exact ⟨rfl, d2, by have := f1.1; omega, permIn_trans _ _ _ _ _ HP1.out f1, f2, S8.out⟩
              · have l2z : ¬ (s : Int) < (mid : Int) := by omega
                have l2d : decide ((s : Int) < (mid : Int)) = false := decide_eq_false l2z
                have hsm : s = mid := by omega
                have q1 := HQ1.out
                rw [hsm] at q1
                obtain ⟨d2, hd2⟩ : ∃ d2, d2 = d1 := ⟨_, rfl⟩
                have HP2 : Hid (PermIn a mid d1 d2) := by rw [hd2]; exact permIn_refl _ _ _
                rw [← hd2] at S7
                have HS2 : Hid (SortedIn (ltOf cf) a mid d2) := by rw [hd2]; exact q1
                clear hd2 q1 hsm
                by_cases r1 : mid < en
                · have r1z : (mid : Int) < (mid : Int) + (m : Int) - (s : Int) := by have := hez.out; omega
                  have r1d : decide ((mid : Int) < (mid : Int) + (m : Int) - (s : Int)) = true := decide_eq_true r1z
                  by_cases r2 : en < b
                  · have r2z : (mid : Int) + (m : Int) - (s : Int) < (b : Int) := by have := hez.out; omega
                    have r2d : decide ((mid : Int) + (m : Int) - (s : Int) < (b : Int)) = true := decide_eq_true r2z
                    have h := IH.out mid en b d2 w7 (by omega) (by have := HP2.out.1; omega) S7.out (by omega) (by omega) hb (sorted_off HQ3.out HP2.out (.inr (Nat.le_refl _))) (sorted_off HQ4.out HP2.out (.inr (by omega)))
                    rw [show ((en : Nat) : Int) = (mid : Int) + (m : Int) - (s : Int) from hez.out.symm] at h
                    have H : Aside _ := h
                    clear h
                    go_wp2_with fail
                    refine Calls.mono H.out ?_
                    clear H S7
                    rintro e w9 ⟨rfl, d3, t1, t2, t3, t4⟩
                    have T2 := Lib.hid t2
                    have T3 := Lib.hid t3
                    have T4 := Lib.hid t4
                    clear t2 t3 t4
                    go_wp2_with fail
                    (try simp only [Exit.inBlock, Exit.then]); refine bodyPost_end (results_none rfl _ _ _) rfl ?_
                    obtain ⟨f1, f2⟩ := merge_end (lt := ltOf cf) (d1 := d1) (d2 := d2) (d3 := d3) (a := a) (mid := mid) (b := b) (by omega) (by omega) (by omega) HP2.out HS2.out T2.out T3.out HX.out
                    exact ⟨rfl, d3, by have := f1.1; omega, permIn_trans _ _ _ _ _ HP1.out f1, f2, T4.out⟩
                  · have r2z : ¬ (mid : Int) + (m : Int) - (s : Int) < (b : Int) := by have := hez.out; omega
                    have r2d : decide ((mid : Int) + (m : Int) - (s : Int) < (b : Int)) = false := decide_eq_false r2z
                    have hee : en = b := by omega
                    go_wp2_with fail
                    (try simp only [Exit.inBlock, Exit.then]); refine bodyPost_end (results_none rfl _ _ _) rfl ?_
                    have q3 := sorted_off HQ3.out HP2.out (.inr (Nat.le_refl _))
                    rw [hee] at q3
                    obtain ⟨f1, f2⟩ := merge_end (lt := ltOf cf) (d1 := d1) (d2 := d2) (d3 := d2) (a := a) (mid := mid) (b := b) (by omega) (by omega) (by omega) HP2.out HS2.out (permIn_refl _ _ _) q3 HX.out
                    exact ⟨rfl, d2, by have := f1.1; omega, permIn_trans _ _ _ _ _ HP1.out f1, f2, S7.out⟩
                · have r1z : ¬ (mid : Int) < (mid : Int) + (m : Int) - (s : Int) := by have := hez.out; omega
                  have r1d : decide ((mid : Int) < (mid : Int) + (m : Int) - (s : Int)) = false := decide_eq_false r1z
                  have hee : en = mid := by omega
                  go_wp2_with fail
                  (try simp only [Exit.inBlock, Exit.then]); refine bodyPost_end (results_none rfl _ _ _) rfl ?_
                  have q4 := sorted_off HQ4.out HP2.out (.inr (by omega))
                  rw [hee] at q4
                  obtain ⟨f1, f2⟩ := merge_end (lt := ltOf cf) (d1 := d1) (d2 := d2) (d3 := d2) (a := a) (mid := mid) (b := b) (by omega) (by omega) (by omega) HP2.out HS2.out (permIn_refl _ _ _) q4 HX.out
                  exact ⟨rfl, d2, by have := f1.1; omega, permIn_trans _ _ _ _ _ HP1.out f1, f2, S7.out⟩
            · have l1z : ¬ (a : Int) < (s : Int) := by omega
              have l1d : decide ((a : Int) < (s : Int)) = false := decide_eq_false l1z
              have hsa : s = a := by omega
              have q2 := HQ2.out
              rw [hsa] at q2
              obtain ⟨d2, hd2⟩ : ∃ d2, d2 = d1 := ⟨_, rfl⟩
              have HP2 : Hid (PermIn a mid d1 d2) := by rw [hd2]; exact permIn_refl _ _ _
              rw [← hd2] at S7
              have HS2 : Hid (SortedIn (ltOf cf) a mid d2) := by rw [hd2]; exact q2
              clear hd2 q2 hsa
              by_cases r1 : mid < en
              · have r1z : (mid : Int) < (mid : Int) + (m : Int) - (s : Int) := by have := hez.out; omega
                have r1d : decide ((mid : Int) < (mid : Int) + (m : Int) - (s : Int)) = true := decide_eq_true r1z
                by_cases r2 : en < b
                · have r2z : (mid : Int) + (m : Int) - (s : Int) < (b : Int) := by have := hez.out; omega
                  have r2d : decide ((mid : Int) + (m : Int) - (s : Int) < (b : Int)) = true := decide_eq_true r2z
                  have h := IH.out mid en b d2 w7 (by omega) (by have := HP2.out.1; omega) S7.out (by omega) (by omega) hb (sorted_off HQ3.out HP2.out (.inr (Nat.le_refl _))) (sorted_off HQ4.out HP2.out (.inr (by omega)))
                  rw [show ((en : Nat) : Int) = (mid : Int) + (m : Int) - (s : Int) from hez.out.symm] at h
                  have H : Aside _ := h
                  clear h
                  go_wp2_with fail
                  refine Calls.mono H.out ?_
                  clear H S7
                  rintro e w9 ⟨rfl, d3, t1, t2, t3, t4⟩
                  have T2 := Lib.hid t2
                  have T3 := Lib.hid t3
                  have T4 := Lib.hid t4
                  clear t2 t3 t4
                  go_wp2_with fail
                  (try simp only [Exit.inBlock, Exit.then]); refine bodyPost_end (results_none rfl _ _ _) rfl ?_
                  obtain ⟨f1, f2⟩ := merge_end (lt := ltOf cf) (d1 := d1) (d2 := d2) (d3 := d3) (a := a) (mid := mid) (b := b) (by omega) (by omega) (by omega) HP2.out HS2.out T2.out T3.out HX.out
                  exact ⟨rfl, d3, by have := f1.1; omega, permIn_trans _ _ _ _ _ HP1.out f1, f2, T4.out⟩
                · have r2z : ¬ (mid : Int) + (m : Int) - (s : Int) < (b : Int) := by have := hez.out; omega
                  have r2d : decide ((mid : Int) + (m : Int) - (s : Int) < (b : Int)) = false := decide_eq_false r2z
                  have hee : en = b := by omega
                  go_wp2_with fail
                  (try simp only [Exit.inBlock, Exit.then]); refine bodyPost_end (results_none rfl _ _ _) rfl ?_
                  have q3 := sorted_off HQ3.out HP2.out (.inr (Nat.le_refl _))
                  rw [hee] at q3
                  obtain ⟨f1, f2⟩ := merge_end (lt := ltOf cf) (d1 := d1) (d2 := d2) (d3 := d2) (a := a) (mid := mid) (b := b) (by omega) (by omega) (by omega) HP2.out HS2.out (permIn_refl _ _ _) q3 HX.out
                  exact ⟨rfl, d2, by have := f1.1; omega, permIn_trans _ _ _ _ _ HP1.out f1, f2, S7.out⟩
              · have r1z : ¬ (mid : Int) < (mid : Int) + (m : Int) - (s : Int) := by have := hez.out; omega
                have r1d : decide ((mid : Int) < (mid : Int) + (m : Int) - (s : Int)) = false := decide_eq_false r1z
                have hee : en = mid := by omega
                go_wp2_with fail
                (try simp only [Exit.inBlock, Exit.then]); refine bodyPost_end (results_none rfl _ _ _) rfl ?_
                have q4 := sorted_off HQ4.out HP2.out (.inr (by omega))
                rw [hee] at q4
                obtain ⟨f1, f2⟩ := merge_end (lt := ltOf cf) (d1 := d1) (d2 := d2) (d3 := d2) (a := a) (mid := mid) (b := b) (by omega) (by omega) (by omega) HP2.out HS2.out (permIn_refl _ _ _) q4 HX.out
                exact ⟨rfl, d2, by have := f1.1; omega, permIn_trans _ _ _ _ _ HP1.out f1, f2, S7.out⟩
          · have o2z : ¬ (m : Int) < (mid : Int) + (m : Int) - (s : Int) := by have := hez.out; omega
            have o2d : decide ((m : Int) < (mid : Int) + (m : Int) - (s : Int)) = false := decide_eq_false o2z
            obtain ⟨d1, hd1⟩ : ∃ d1, d1 = d := ⟨_, rfl⟩
            have hrot1 : Rot s m (mid + m - s) d d1 := by rw [hd1]; exact rot_skip d (by omega) g2 (by omega)
            rw [← hd1] at S1
            clear hd1
            obtain ⟨p1, p2, p3, p4, p5, p6⟩ := rot_parts HO.out ham hmb HMID.out (by omega) H1.out H2.out g1 g2 g3 g4 HMI.out hrot1
            have HP1 := Lib.hid p1
            have HQ1 := Lib.hid p2
            have HQ2 := Lib.hid p3
            have HQ3 : Hid (SortedIn (ltOf cf) mid en d1) := by show SortedIn _ _ _ _; rw [← hen.out]; exact p4
            have HQ4 : Hid (SortedIn (ltOf cf) en b d1) := by show SortedIn _ _ _ _; rw [← hen.out]; exact p5
            have HX := Lib.hid p6
            clear p1 p2 p3 p4 p5 p6 hrot1 HMI
            have hsd1 : d1.size = sz := by have := HP1.out.1; omega
            by_cases l1 : a < s
            · have l1z : (a : Int) < (s : Int) := by omega
              have l1d : decide ((a : Int) < (s : Int)) = true := decide_eq_true l1z
              by_cases l2 : s < mid
              · have l2z : (s : Int) < (mid : Int) := by omega
                have l2d : decide ((s : Int) < (mid : Int)) = true := decide_eq_true l2z
                have h := IH.out a s mid d1 wr (by omega) (by have := HP1.out.1; omega) S1.out (by omega) (by omega) (by omega) HQ1.out HQ2.out
                have H : Aside _ := h
                clear h
                go_wp2_with fail
                refine Calls.mono H.out ?_
                clear H S1
                rintro e w8 ⟨rfl, d2, t1, t2, t3, t4⟩
                have HP2 := Lib.hid t2
                have HS2 := Lib.hid t3
                have S8 : Aside _ := t4
                clear t2 t3 t4
                by_cases r1 : mid < en
                · have r1z : (mid : Int) < (mid : Int) + (m : Int) - (s : Int) := by have := hez.out; omega
                  have r1d : decide ((mid : Int) < (mid : Int) + (m : Int) - (s : Int)) = true := decide_eq_true r1z
                  by_cases r2 : en < b
                  · have r2z : (mid : Int) + (m : Int) - (s : Int) < (b : Int) := by have := hez.out; omega
                    have r2d : decide ((mid : Int) + (m : Int) - (s : Int) < (b : Int)) = true := decide_eq_true r2z
                    have h := IH.out mid en b d2 w8 (by omega) (by have := HP2.out.1; omega) S8.out (by omega) (by omega) hb (sorted_off HQ3.out HP2.out (.inr (Nat.le_refl _))) (sorted_off HQ4.out HP2.out (.inr (by omega)))
                    rw [show ((en : Nat) : Int) = (mid : Int) + (m : Int) - (s : Int) from hez.out.symm] at h
                    have H : Aside _ := h
                    clear h
                    go_wp2_with fail
                    refine Calls.mono H.out ?_
                    clear H S8
                    rintro e w9 ⟨rfl, d3, t1, t2, t3, t4⟩
                    have T2 := Lib.hid t2
                    have T3 := Lib.hid t3
                    have T4 := Lib.hid t4
                    clear t2 t3 t4
                    go_wp2_with fail
                    (try simp only [Exit.inBlock, Exit.then]); refine bodyPost_end (results_none rfl _ _ _) rfl ?_
                    obtain ⟨f1, f2⟩ := merge_end (lt := ltOf cf) (d1 := d1) (d2 := d2) (d3 := d3) (a := a) (mid := mid) (b := b) (by omega) (by omega) (by omega) HP2.out HS2.out T2.out T3.out HX.out
                    exact ⟨rfl, d3, by have := f1.1; omega, permIn_trans _ _ _ _ _ HP1.out f1, f2, T4.out⟩
                  · have r2z : ¬ (mid : Int) + (m : Int) - (s : Int) < (b : Int) := by have := hez.out; omega
                    have r2d : decide ((mid : Int) + (m : Int) - (s : Int) < (b : Int)) = false := decide_eq_false r2z
                    have hee : en = b := by omega
                    go_wp2_with fail
                    (try simp only [Exit.inBlock, Exit.then]); refine bodyPost_end (results_none rfl _ _ _) rfl ?_
                    have q3 := sorted_off HQ3.out HP2.out (.inr (Nat.le_refl _))
                    rw [hee] at q3
                    obtain ⟨f1, f2⟩ := merge_end (lt := ltOf cf) (d1 := d1) (d2 := d2) (d3 := d2) (a := a) (mid := mid) (b := b) (by omega) (by omega) (by omega) HP2.out HS2.out (permIn_refl _ _ _) q3 HX.out
                    exact ⟨rfl, d2, by have := f1.1; omega, permIn_trans _ _ _ _ _ HP1.out f1, f2, S8.out⟩
                · have r1z : ¬ (mid : Int) < (mid : Int) + (m : Int) - (s : Int) := by have := hez.out; omega
                  have r1d : decide ((mid : Int) < (mid : Int) + (m : Int) - (s : Int)) = false := decide_eq_false r1z
                  have hee : en = mid := by omega
                  go_wp2_with fail
                  (try simp only [Exit.inBlock, Exit.then]); refine bodyPost_end (results_none rfl _ _ _) rfl ?_
                  have q4 := sorted_off HQ4.out HP2.out (.inr (by omega))
                  rw [hee] at q4
                  obtain ⟨f1, f2⟩ := merge_end (lt := ltOf cf) (d1 := d1) (d2 := d2) (d3 := d2) (a := a) (mid := mid) (b := b) (by omega) (by omega) (by omega) HP2.out HS2.out (permIn_refl _ _ _) q4 HX.out
                  exact ⟨rfl, d2, by have := f1.1; omega, permIn_trans _ _ _ _ _ HP1.out f1, f2, S8.out⟩
              · have l2z : ¬ (s : Int) < (mid : Int) := by omega
                have l2d : decide ((s : Int) < (mid : Int)) = false := decide_eq_false l2z
                have hsm : s = mid := by omega
                have q1 := HQ1.out
                rw [hsm] at q1
                obtain ⟨d2, hd2⟩ : ∃ d2, d2 = d1 := ⟨_, rfl⟩
                have HP2 : Hid (PermIn a mid d1 d2) := by rw [hd2]; exact permIn_refl _ _ _
                rw [← hd2] at S1
                have HS2 : Hid (SortedIn (ltOf cf) a mid d2) := by rw [hd2]; exact q1
                clear hd2 q1 hsm
                by_cases r1 : mid < en
                · have r1z : (mid : Int) < (mid : Int) + (m : Int) - (s : Int) := by have := hez.out; omega
                  have r1d : decide ((mid : Int) < (mid : Int) + (m : Int) - (s : Int)) = true := decide_eq_true r1z
                  by_cases r2 : en < b
                  · have r2z : (mid : Int) + (m : Int) - (s : Int) < (b : Int) := by have := hez.out; omega
                    have r2d : decide ((mid : Int) + (m : Int) - (s : Int) < (b : Int)) = true := decide_eq_true r2z
                    have h := IH.out mid en b d2 wr (by omega) (by have := HP2.out.1; omega) S1.out (by omega) (by omega) hb (sorted_off HQ3.out HP2.out (.inr (Nat.le_refl _))) (sorted_off HQ4.out HP2.out (.inr (by omega)))
                    rw [show ((en : Nat) : Int) = (mid : Int) + (m : Int) - (s : Int) from hez.out.symm] at h
                    have H : Aside _ := h
                    clear h
                    go_wp2_with fail
                    refine Calls.mono H.out ?_
                    clear H S1
                    rintro e w9 ⟨rfl, d3, t1, t2, t3, t4⟩
                    have T2 := Lib.hid t2
                    have T3 := Lib.hid t3
                    have T4 := Lib.hid t4
                    clear t2 t3 t4
                    go_wp2_with fail
                    (try simp only [Exit.inBlock, Exit.then]); refine bodyPost_end (results_none rfl _ _ _) rfl ?_
                    obtain ⟨f1, f2⟩ := merge_end (lt := ltOf cf) (d1 := d1) (d2 := d2) (d3 := d3) (a := a) (mid := mid) (b := b) (by omega) (by omega) (by omega) HP2.out HS2.out T2.out T3.out HX.out
                    exact ⟨rfl, d3, by have := f1.1; omega, permIn_trans _ _ _ _ _ HP1.out f1, f2, T4.out⟩
                  · have r2z : ¬ (mid : Int) + (m : Int) - (s : Int) < (b : Int) := by have := hez.out; omega
                    have r2d : decide ((mid : Int) + (m : Int) - (s : Int) < (b : Int)) = false := decide_eq_false r2z
                    have hee : en = b := by omega
                    go_wp2_with fail
                    (try simp only [Exit.inBlock, Exit.then]); refine bodyPost_end (results_none rfl _ _ _) rfl ?_
                    have q3 := sorted_off HQ3.out HP2.out (.inr (Nat.le_refl _))
                    rw [hee] at q3
                    obtain ⟨f1, f2⟩ := merge_end (lt := ltOf cf) (d1 := d1) (d2 := d2) (d3 := d2) (a := a) (mid := mid) (b := b) (by omega) (by omega) (by omega) HP2.out HS2.out (permIn_refl _ _ _) q3 HX.out
                    exact ⟨rfl, d2, by have := f1.1; omega, permIn_trans _ _ _ _ _ HP1.out f1, f2, S1.out⟩
                · have r1z : ¬ (mid : Int) < (mid : Int) + (m : Int) - (s : Int) := by have := hez.out; omega
                  have r1d : decide ((mid : Int) < (mid : Int) + (m : Int) - (s : Int)) = false := decide_eq_false r1z
                  have hee : en = mid := by omega
                  go_wp2_with fail
                  (try simp only [Exit.inBlock, Exit.then]); refine bodyPost_end (results_none rfl _ _ _) rfl ?_
                  have q4 := sorted_off HQ4.out HP2.out (.inr (by omega))
                  rw [hee] at q4
                  obtain ⟨f1, f2⟩ := merge_end (lt := ltOf cf) (d1 := d1) (d2 := d2) (d3 := d2) (a := a) (mid := mid) (b := b) (by omega) (by omega) (by omega) HP2.out HS2.out (permIn_refl _ _ _) q4 HX.out
                  exact ⟨rfl, d2, by have := f1.1; omega, permIn_trans _ _ _ _ _ HP1.out f1, f2, S1.out⟩
            · have l1z : ¬ (a : Int) < (s : Int) := by omega
              have l1d : decide ((a : Int) < (s : Int)) = false := decide_eq_false l1z
              have hsa : s = a := by omega
              have q2 := HQ2.out
              rw [hsa] at q2
              obtain ⟨d2, hd2⟩ : ∃ d2, d2 = d1 := ⟨_, rfl⟩
              have HP2 : Hid (PermIn a mid d1 d2) := by rw [hd2]; exact permIn_refl _ _ _
              rw [← hd2] at S1
              have HS2 : Hid (SortedIn (ltOf cf) a mid d2) := by rw [hd2]; exact q2
              clear hd2 q2 hsa
              by_cases r1 : mid < en
              · have r1z : (mid : Int) < (mid : Int) + (m : Int) - (s : Int) := by have := hez.out; omega
                have r1d : decide ((mid : Int) < (mid : Int) + (m : Int) - (s : Int)) = true := decide_eq_true r1z
                by_cases r2 : en < b
                · have r2z : (mid : Int) + (m : Int) - (s : Int) < (b : Int) := by have := hez.out; omega
                  have r2d : decide ((mid : Int) + (m : Int) - (s : Int) < (b : Int)) = true := decide_eq_true r2z
                  have h := IH.out mid en b d2 wr (by omega) (by have := HP2.out.1; omega) S1.out (by omega) (by omega) hb (sorted_off HQ3.out HP2.out (.inr (Nat.le_refl _))) (sorted_off HQ4.out HP2.out (.inr (by omega)))
                  rw [show ((en : Nat) : Int) = (mid : Int) + (m : Int) - (s : Int) from hez.out.symm] at h
                  have H : Aside _ := h
                  clear h
                  go_wp2_with fail
                  refine Calls.mono H.out ?_
                  clear H S1
                  rintro e w9 ⟨rfl, d3, t1, t2, t3, t4⟩
                  have T2 := Lib.hid t2
                  have T3 := Lib.hid t3
                  have T4 := Lib.hid t4
                  clear t2 t3 t4
                  go_wp2_with fail
                  (try simp only [Exit.inBlock, Exit.then]); refine bodyPost_end (results_none rfl _ _ _) rfl ?_
                  obtain ⟨f1, f2⟩ := merge_end (lt := ltOf cf) (d1 := d1) (d2 := d2) (d3 := d3) (a := a) (mid := mid) (b := b) (by omega) (by omega) (by omega) HP2.out HS2.out T2.out T3.out HX.out
                  exact ⟨rfl, d3, by have := f1.1; omega, permIn_trans _ _ _ _ _ HP1.out f1, f2, T4.out⟩
                · have r2z : ¬ (mid : Int) + (m : Int) - (s : Int) < (b : Int) := by have := hez.out; omega
                  have r2d : decide ((mid : Int) + (m : Int) - (s : Int) < (b : Int)) = false := decide_eq_false r2z
                  have hee : en = b := by omega
                  go_wp2_with fail
                  (try simp only [Exit.inBlock, Exit.then]); refine bodyPost_end (results_none rfl _ _ _) rfl ?_
                  have q3 := sorted_off HQ3.out HP2.out (.inr (Nat.le_refl _))
                  rw [hee] at q3
                  obtain ⟨f1, f2⟩ := merge_end (lt := ltOf cf) (d1 := d1) (d2 := d2) (d3 := d2) (a := a) (mid := mid) (b := b) (by omega) (by omega) (by omega) HP2.out HS2.out (permIn_refl _ _ _) q3 HX.out
                  exact ⟨rfl, d2, by have := f1.1; omega, permIn_trans _ _ _ _ _ HP1.out f1, f2, S1.out⟩
              · have r1z : ¬ (mid : Int) < (mid : Int) + (m : Int) - (s : Int) := by have := hez.out; omega
                have r1d : decide ((mid : Int) < (mid : Int) + (m : Int) - (s : Int)) = false := decide_eq_false r1z
                have hee : en = mid := by omega
                go_wp2_with fail
                (try simp only [Exit.inBlock, Exit.then]); refine bodyPost_end (results_none rfl _ _ _) rfl ?_
                have q4 := sorted_off HQ4.out HP2.out (.inr (by omega))
                rw [hee] at q4
                obtain ⟨f1, f2⟩ := merge_end (lt := ltOf cf) (d1 := d1) (d2 := d2) (d3 := d2) (a := a) (mid := mid) (b := b) (by omega) (by omega) (by omega) HP2.out HS2.out (permIn_refl _ _ _) q4 HX.out
                exact ⟨rfl, d2, by have := f1.1; omega, permIn_trans _ _ _ _ _ HP1.out f1, f2, S1.out⟩
        · have o1z : ¬ (s : Int) < (m : Int) := by omega
          have o1d : decide ((s : Int) < (m : Int)) = false := decide_eq_false o1z
          obtain ⟨d1, hd1⟩ : ∃ d1, d1 = d := ⟨_, rfl⟩
          have hrot1 : Rot s m (mid + m - s) d d1 := by rw [hd1]; exact rot_skip d (by omega) g2 (by omega)
          rw [← hd1] at S1
          clear hd1
          obtain ⟨p1, p2, p3, p4, p5, p6⟩ := rot_parts HO.out ham hmb HMID.out (by omega) H1.out H2.out g1 g2 g3 g4 HMI.out hrot1
          have HP1 := Lib.hid p1
          have HQ1 := Lib.hid p2
          have HQ2 := Lib.hid p3
          have HQ3 : Hid (SortedIn (ltOf cf) mid en d1) := by show SortedIn _ _ _ _; rw [← hen.out]; exact p4
          have HQ4 : Hid (SortedIn (ltOf cf) en b d1) := by show SortedIn _ _ _ _; rw [← hen.out]; exact p5
          have HX := Lib.hid p6
          clear p1 p2 p3 p4 p5 p6 hrot1 HMI
          have hsd1 : d1.size = sz := by have := HP1.out.1; omega
          by_cases l1 : a < s
          · have l1z : (a : Int) < (s : Int) := by omega
            have l1d : decide ((a : Int) < (s : Int)) = true := decide_eq_true l1z
            by_cases l2 : s < mid
            · have l2z : (s : Int) < (mid : Int) := by omega
              have l2d : decide ((s : Int) < (mid : Int)) = true := decide_eq_true l2z
              have h := IH.out a s mid d1 wr (by omega) (by have := HP1.out.1; omega) S1.out (by omega) (by omega) (by omega) HQ1.out HQ2.out
              have H : Aside _ := h
              clear h
              go_wp2_with fail
              refine Calls.mono H.out ?_
              clear H S1
              rintro e w8 ⟨rfl, d2, t1, t2, t3, t4⟩
              have HP2 := Lib.hid t2
              have HS2 := Lib.hid t3
              have S8 : Aside _ := t4
              clear t2 t3 t4
              by_cases r1 : mid < en
              · have r1z : (mid : Int) < (mid : Int) + (m : Int) - (s : Int) := by have := hez.out; omega
                have r1d : decide ((mid : Int) < (mid : Int) + (m : Int) - (s : Int)) = true := decide_eq_true r1z
                by_cases r2 : en < b
                · have r2z : (mid : Int) + (m : Int) - (s : Int) < (b : Int) := by have := hez.out; omega
                  have r2d : decide ((mid : Int) + (m : Int) - (s : Int) < (b : Int)) = true := decide_eq_true r2z
                  have h := IH.out mid en b d2 w8 (by omega) (by have := HP2.out.1; omega) S8.out (by omega) (by omega) hb (sorted_off HQ3.out HP2.out (.inr (Nat.le_refl _))) (sorted_off HQ4.out HP2.out (.inr (by omega)))
                  rw [show ((en : Nat) : Int) = (mid : Int) + (m : Int) - (s : Int) from hez.out.symm] at h
                  have H : Aside _ := h
                  clear h
                  go_wp2_with fail
                  refine Calls.mono H.out ?_
                  clear H S8
                  rintro e w9 ⟨rfl, d3, t1, t2, t3, t4⟩
                  have T2 := Lib.hid t2
                  have T3 := Lib.hid t3
                  have T4 := Lib.hid t4
                  clear t2 t3 t4
                  go_wp2_with fail
                  (try simp only [Exit.inBlock, Exit.then]); refine bodyPost_end (results_none rfl _ _ _) rfl ?_
                  obtain ⟨f1, f2⟩ := merge_end (lt := ltOf cf) (d1 := d1) (d2 := d2) (d3 := d3) (a := a) (mid := mid) (b := b) (by omega) (by omega) (by omega) HP2.out HS2.out T2.out T3.out HX.out
                  exact ⟨rfl, d3, by have := f1.1; omega, permIn_trans _ _ _ _ _ HP1.out f1, f2, T4.out⟩
                · have r2z : ¬ (mid : Int) + (m : Int) - (s : Int) < (b : Int) := by have := hez.out; omega
                  have r2d : decide ((mid : Int) + (m : Int) - (s : Int) < (b : Int)) = false := decide_eq_false r2z
                  have hee : en = b := by omega
                  go_wp2_with fail
                  (try simp only [Exit.inBlock, Exit.then]); refine bodyPost_end (results_none rfl _ _ _) rfl ?_
                  have q3 := sorted_off HQ3.out HP2.out (.inr (Nat.le_refl _))
                  rw [hee] at q3
                  obtain ⟨f1, f2⟩ := merge_end (lt := ltOf cf) (d1 := d1) (d2 := d2) (d3 := d2) (a := a) (mid := mid) (b := b) (by omega) (by omega) (by omega) HP2.out HS2.out (permIn_refl _ _ _) q3 HX.out
                  exact ⟨rfl, d2, by have := f1.1; omega, permIn_trans _ _ _ _ _ HP1.out f1, f2, S8.out⟩
              · have r1z : ¬ (mid : Int) < (mid : Int) + (m : Int) - (s : Int) := by have := hez.out; omega
                have r1d : decide ((mid : Int) < (mid : Int) + (m : Int) - (s : Int)) = false := decide_eq_false r1z
                have hee : en = mid := by omega
                go_wp2_with fail
                (try simp only [Exit.inBlock, Exit.then]); refine bodyPost_end (results_none rfl _ _ _) rfl ?_
                have q4 := sorted_off HQ4.out HP2.out (.inr (by omega))
                rw [hee] at q4
                obtain ⟨f1, f2⟩ := merge_end (lt := ltOf cf) (d1 := d1) (d2 := d2) (d3 := d2) (a := a) (mid := mid) (b := b) (by omega) (by omega) (by omega) HP2.out HS2.out (permIn_refl _ _ _) q4 HX.out
                exact ⟨rfl, d2, by have := f1.1; omega, permIn_trans _ _ _ _ _ HP1.out f1, f2, S8.out⟩
            · have l2z : ¬ (s : Int) < (mid : Int) := by omega
              have l2d : decide ((s : Int) < (mid : Int)) = false := decide_eq_false l2z
              have hsm : s = mid := by omega
              have q1 := HQ1.out
              rw [hsm] at q1
              obtain ⟨d2, hd2⟩ : ∃ d2, d2 = d1 := ⟨_, rfl⟩
              have HP2 : Hid (PermIn a mid d1 d2) := by rw [hd2]; exact permIn_refl _ _ _
              rw [← hd2] at S1
              have HS2 : Hid (SortedIn (ltOf cf) a mid d2) := by rw [hd2]; exact q1
              clear hd2 q1 hsm
              by_cases r1 : mid < en
              · have r1z : (mid : Int) < (mid : Int) + (m : Int) - (s : Int) := by have := hez.out; omega
                have r1d : decide ((mid : Int) < (mid : Int) + (m : Int) - (s : Int)) = true := decide_eq_true r1z
                by_cases r2 : en < b
                · have r2z : (mid : Int) + (m : Int) - (s : Int) < (b : Int) := by have := hez.out; omega
                  have r2d : decide ((mid : Int) + (m : Int) - (s : Int) < (b : Int)) = true := decide_eq_true r2z
                  have h := IH.out mid en b d2 wr (by omega) (by have := HP2.out.1; omega) S1.out (by omega) (by omega) hb (sorted_off HQ3.out HP2.out (.inr (Nat.le_refl _))) (sorted_off HQ4.out HP2.out (.inr (by omega)))
                  rw [show ((en : Nat) : Int) = (mid : Int) + (m : Int) - (s : Int) from hez.out.symm] at h
                  have H : Aside _ := h
                  clear h
                  go_wp2_with fail
                  refine Calls.mono H.out ?_
                  clear H S1
                  rintro e w9 ⟨rfl, d3, t1, t2, t3, t4⟩
                  have T2 := Lib.hid t2
                  have T3 := Lib.hid t3
                  have T4 := Lib.hid t4
                  clear t2 t3 t4
                  go_wp2_with fail
                  (try simp only [Exit.inBlock, Exit.then]); refine bodyPost_end (results_none rfl _ _ _) rfl ?_
                  obtain ⟨f1, f2⟩ := merge_end (lt := ltOf cf) (d1 := d1) (d2 := d2) (d3 := d3) (a := a) (mid := mid) (b := b) (by omega) (by omega) (by omega) HP2.out HS2.out T2.out T3.out HX.out
                  exact ⟨rfl, d3, by have := f1.1; omega, permIn_trans _ _ _ _ _ HP1.out f1, f2, T4.out⟩
                · have r2z : ¬ (mid : Int) + (m : Int) - (s : Int) < (b : Int) := by have := hez.out; omega
                  have r2d : decide ((mid : Int) + (m : Int) - (s : Int) < (b : Int)) = false := decide_eq_false r2z
                  have hee : en = b := by omega
                  go_wp2_with fail
                  (try simp only [Exit.inBlock, Exit.then]); refine bodyPost_end (results_none rfl _ _ _) rfl ?_
                  have q3 := sorted_off HQ3.out HP2.out (.inr (Nat.le_refl _))
                  rw [hee] at q3
                  obtain ⟨f1, f2⟩ := merge_end (lt := ltOf cf) (d1 := d1) (d2 := d2) (d3 := d2) (a := a) (mid := mid) (b := b) (by omega) (by omega) (by omega) HP2.out HS2.out (permIn_refl _ _ _) q3 HX.out
                  exact ⟨rfl, d2, by have := f1.1; omega, permIn_trans _ _ _ _ _ HP1.out f1, f2, S1.out⟩
              · have r1z : ¬ (mid : Int) < (mid : Int) + (m : Int) - (s : Int) := by have := hez.out; omega
                have r1d : decide ((mid : Int) < (mid : Int) + (m : Int) - (s : Int)) = false := decide_eq_false r1z
                have hee : en = mid := by omega
                go_wp2_with fail
                (try simp only [Exit.inBlock, Exit.then]); refine bodyPost_end (results_none rfl _ _ _) rfl ?_
                have q4 := sorted_off HQ4.out HP2.out (.inr (by omega))
                rw [hee] at q4
                obtain ⟨f1, f2⟩ := merge_end (lt := ltOf cf) (d1 := d1) (d2 := d2) (d3 := d2) (a := a) (mid := mid) (b := b) (by omega) (by omega) (by omega) HP2.out HS2.out (permIn_refl _ _ _) q4 HX.out
                exact ⟨rfl, d2, by have := f1.1; omega, permIn_trans _ _ _ _ _ HP1.out f1, f2, S1.out⟩
          · have l1z : ¬ (a : Int) < (s : Int) := by omega
            have l1d : decide ((a : Int) < (s : Int)) = false := decide_eq_false l1z
            have hsa : s = a := by omega
            have q2 := HQ2.out
            rw [hsa] at q2
            obtain ⟨d2, hd2⟩ : ∃ d2, d2 = d1 := ⟨_, rfl⟩
            have HP2 : Hid (PermIn a mid d1 d2) := by rw [hd2]; exact permIn_refl _ _ _
            rw [← hd2] at S1
            have HS2 : Hid (SortedIn (ltOf cf) a mid d2) := by rw [hd2]; exact q2
            clear hd2 q2 hsa
            by_cases r1 : mid < en
            · have r1z : (mid : Int) < (mid : Int) + (m : Int) - (s : Int) := by have := hez.out; omega
              have r1d : decide ((mid : Int) < (mid : Int) + (m : Int) - (s : Int)) = true := decide_eq_true r1z
              by_cases r2 : en < b
              · have r2z : (mid : Int) + (m : Int) - (s : Int) < (b : Int) := by have := hez.out; omega
                have r2d : decide ((mid : Int) + (m : Int) - (s : Int) < (b : Int)) = true := decide_eq_true r2z
                have h := IH.out mid en b d2 wr (by omega) (by have := HP2.out.1; omega) S1.out (by omega) (by omega) hb (sorted_off HQ3.out HP2.out (.inr (Nat.le_refl _))) (sorted_off HQ4.out HP2.out (.inr (by omega)))
                rw [show ((en : Nat) : Int) = (mid : Int) + (m : Int) - (s : Int) from hez.out.symm] at h
                have H : Aside _ := h
                clear h
                go_wp2_with fail
                refine Calls.mono H.out ?_
                clear H S1
                rintro e w9 ⟨rfl, d3, t1, t2, t3, t4⟩
                have T2 := Lib.hid t2
                have T3 := Lib.hid t3
                have T4 := Lib.hid t4
                clear t2 t3 t4
                go_wp2_with fail
                (try simp only [Exit.inBlock, Exit.then]); refine bodyPost_end (results_none rfl _ _ _) rfl ?_
                obtain ⟨f1, f2⟩ := merge_end (lt := ltOf cf) (d1 := d1) (d2 := d2) (d3 := d3) (a := a) (mid := mid) (b := b) (by omega) (by omega) (by omega) HP2.out HS2.out T2.out T3.out HX.out
                exact ⟨rfl, d3, by have := f1.1; omega, permIn_trans _ _ _ _ _ HP1.out f1, f2, T4.out⟩
              · have r2z : ¬ (mid : Int) + (m : Int) - (s : Int) < (b : Int) := by have := hez.out; omega
                have r2d : decide ((mid : Int) + (m : Int) - (s : Int) < (b : Int)) = false := decide_eq_false r2z
                have hee : en = b := by omega
                go_wp2_with fail
                (try simp only [Exit.inBlock, Exit.then]); refine bodyPost_end (results_none rfl _ _ _) rfl ?_
                have q3 := sorted_off HQ3.out HP2.out (.inr (Nat.le_refl _))
                rw [hee] at q3
                obtain ⟨f1, f2⟩ := merge_end (lt := ltOf cf) (d1 := d1) (d2 := d2) (d3 := d2) (a := a) (mid := mid) (b := b) (by omega) (by omega) (by omega) HP2.out HS2.out (permIn_refl _ _ _) q3 HX.out
                exact ⟨rfl, d2, by have := f1.1; omega, permIn_trans _ _ _ _ _ HP1.out f1, f2, S1.out⟩
            · have r1z : ¬ (mid : Int) < (mid : Int) + (m : Int) - (s : Int) := by have := hez.out; omega
              have r1d : decide ((mid : Int) < (mid : Int) + (m : Int) - (s : Int)) = false := decide_eq_false r1z
              have hee : en = mid := by omega
              go_wp2_with fail
              (try simp only [Exit.inBlock, Exit.then]); refine bodyPost_end (results_none rfl _ _ _) rfl ?_
              have q4 := sorted_off HQ4.out HP2.out (.inr (by omega))
              rw [hee] at q4
              obtain ⟨f1, f2⟩ := merge_end (lt := ltOf cf) (d1 := d1) (d2 := d2) (d3 := d2) (a := a) (mid := mid) (b := b) (by omega) (by omega) (by omega) HP2.out HS2.out (permIn_refl _ _ _) q4 HX.out
              exact ⟨rfl, d2, by have := f1.1; omega, permIn_trans _ _ _ _ _ HP1.out f1, f2, S1.out⟩

end Go.Proofs.Ytnojfiokdhcbjaa
