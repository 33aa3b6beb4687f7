/-
  slices.SortStableFunc at boxes: the walk. (Printed by gen_stable.py.)
-/
import Derived.Test.YtnojfiokdhcbjaaSrtC
import Derived.Test.YtnojfiokdhcbjaaSortLay
namespace Go.Proofs.Ytnojfiokdhcbjaa
open Go Go.RowKit Go.Lib Go.Sort Go.Shelf
variable {α : Type} [Inhabited α]

theorem symMerge_any (k : Nat) (zE : ∀ w, (Go.sizeOf 72).run Try.prog w = .ok k w) (enc : α → List Value) (cf : α → α → Int) (hO : SWO (ltOf cf)) (g : Nat) (cb : Array Value) (blk off cap sz : Nat) (d0 : Array α) (w0 : World)
    (eg : ∀ args w, (callFunc g args).run Try.prog w = .ok (.enter g args) w) (hcmp : CmpLays Try.prog g cb enc k cf blk off sz w0)
    (R : RowK enc k w0 blk off d0) (hs : d0.size = sz) (hsz : sz < 4611686018427387904) :
    ∀ (N a m b : Nat) (d : Array α) (w : World), b - a ≤ N → d.size = sz → SWK enc k w0 blk off d w → a < m → m < b → b ≤ sz → SortedIn (ltOf cf) a m d → SortedIn (ltOf cf) m b d →
    Calls Try.prog 71 #[.slice (some ⟨blk, off, none⟩) sz cap, .int .i64 a, .int .i64 m, .int .i64 b, .func (.func g) #[] cb] w fun e w' => e = .returned (.tuple #[]) ∧ ∃ d', d'.size = sz ∧ PermIn a b d d' ∧ SortedIn (ltOf cf) a b d' ∧ SWK enc k w0 blk off d' w' := by
  intro N
  induction N with
  | zero => intro a m b d w h; omega
  | succ N ih =>
    intro a m b d w hN hd S ham hmb hb hs1 hs2
    by_cases h1 : m = a + 1
    · exact symMerge_left k zE enc cf hO g cb blk off cap sz d0 w0 eg hcmp R hs hsz a m b d w hd S h1 hmb hb hs2
    · by_cases h2 : b = m + 1
      · exact symMerge_right k zE enc cf hO g cb blk off cap sz d0 w0 eg hcmp R hs hsz a m b d w hd S (by omega) h2 hb hs1
      · exact symMerge_mid k zE enc cf hO g cb blk off cap sz d0 w0 eg hcmp R hs hsz N a m b d w (by omega) hd S (by omega) (by omega) hb hs1 hs2 ih

theorem insert_any (k : Nat) (zE : ∀ w, (Go.sizeOf 72).run Try.prog w = .ok k w) (enc : α → List Value) (cf : α → α → Int) (hO : SWO (ltOf cf)) (g : Nat) (cb : Array Value) (blk off cap sz : Nat) (d0 : Array α) (w0 : World)
    (eg : ∀ args w, (callFunc g args).run Try.prog w = .ok (.enter g args) w) (hcmp : CmpLays Try.prog g cb enc k cf blk off sz w0)
    (R : RowK enc k w0 blk off d0) (hs : d0.size = sz) (hsz : sz < 4611686018427387904) (a b : Nat) (d : Array α) (w : World) (hd : d.size = sz) (S : SWK enc k w0 blk off d w) (hab : a ≤ b) (hb : b ≤ sz) :
    Calls Try.prog 70 #[.slice (some ⟨blk, off, none⟩) sz cap, .int .i64 a, .int .i64 b, .func (.func g) #[] cb] w fun e w' => e = .returned (.tuple #[]) ∧ ∃ d', d'.size = sz ∧ PermIn a b d d' ∧ SortedIn (ltOf cf) a b d' ∧ SWK enc k w0 blk off d' w' := by
  subst hd
  obtain ⟨p1, p2⟩ := insertionSort_holds hO d a b hab hb
  have hC : CmpLays Try.prog g cb enc k cf blk off d.size w := fun m os dk hdk x y => by
    obtain ⟨n0, os0, rfl⟩ := S
    rw [sortWorldK_on enc k w0 blk off n0 m d dk os0 os R.hblk hdk]
    exact hcmp _ _ dk hdk x y
  have h := AnyQ.insertionSortCmpFunc Try.insL k Try.isAgg72 zE enc R.hk R.h1 cf g cb blk off cap a b d w eg hC (S.holds R.hblk R.hH hs.symm) (S.lt R.hblk) hab hb hsz
  change Calls Try.prog 70 _ _ _ at h
  refine Calls.mono h ?_
  rintro e w' ⟨rfl, n, os, rfl⟩
  exact ⟨rfl, _, p1.1, p1, p2, S.on R.hblk n _ os p1.1⟩

theorem permIn_in {a b n : Nat} {d d1 d2 : Array α} (h : PermIn 0 n d d1) (p : PermIn a b d1 d2) (hb : b ≤ n) (hn : n ≤ d1.size) : PermIn 0 n d d2 :=
  permIn_trans _ _ _ _ _ h (permIn_mono d1 d2 a b 0 n (Nat.zero_le _) hb hn p)

theorem half_merged {lt : α → α → Bool} {bs a n : Nat} {d d' : Array α} (hd : 2 * bs ∣ a) (h : Half lt bs a n d) (p : PermIn a n d d') (hs : SortedIn lt a n d') : Half lt bs a n d' :=
  ⟨fun x hx hxa => sorted_off (h.1 x hx hxa) p (.inl (dvd_next hx hd hxa)), fun x _ hax i j hi hij hj => hs i j (by omega) hij (by omega)⟩

set_option maxHeartbeats 16000000 in
set_option maxRecDepth 1000000 in
theorem stable_any (k : Nat) (zE : ∀ w, (Go.sizeOf 72).run Try.prog w = .ok k w) (enc : α → List Value) (cf : α → α → Int) (hO : SWO (ltOf cf)) (g : Nat) (cb : Array Value) (blk off cap sz : Nat) (d0 : Array α) (w0 : World)
    (eg : ∀ args w, (callFunc g args).run Try.prog w = .ok (.enter g args) w) (hcmp : CmpLays Try.prog g cb enc k cf blk off sz w0)
    (R : RowK enc k w0 blk off d0) (hs : d0.size = sz) (hsz : sz < 4611686018427387904) (hsm : sz < 1152921504606846976) (d : Array α) (w : World) (hd : d.size = sz) (S : SWK enc k w0 blk off d w) :
    Calls Try.prog 41 #[.slice (some ⟨blk, off, none⟩) sz cap, .int .i64 sz, .func (.func g) #[] cb] w fun e w' => e = .returned (.tuple #[]) ∧ ∃ d', d'.size = sz ∧ PermIn 0 sz d d' ∧ SortedIn (ltOf cf) 0 sz d' ∧ SWK enc k w0 blk off d' w' := by
  have HI : Aside _ := insert_any k zE enc cf hO g cb blk off cap sz d0 w0 eg hcmp R hs hsz
  have HM : Aside _ := symMerge_any k zE enc cf hO g cb blk off cap sz d0 w0 eg hcmp R hs hsz
  have S0 : Aside (SWK enc k w0 blk off d w) := S
  clear S hcmp
  go_enter Try.func41, Try.ntmps41
  go_wp2_with fail
  go_loopg [7, 8] sz (fun kx si sj wr => ∃ (a : Nat) (dk : Array α), si = .int .i64 a ∧ sj = .int .i64 (a + 20 : Nat) ∧ a ≤ sz ∧ sz ≤ kx + a ∧ 20 ∣ a ∧ dk.size = sz ∧ Hid (Firsts (ltOf cf) 20 a dk) ∧ Hid (PermIn 0 sz d dk) ∧ Aside (SWK enc k w0 blk off dk wr))
  case atStart => exact ⟨0, d, rfl, rfl, Nat.zero_le _, by omega, Nat.dvd_zero _, hd, (fun x _ h => absurd h (Nat.not_lt_zero _)), permIn_refl _ _ _, S0⟩
  case round =>
    clear S0
    obtain ⟨a, dk, rfl, rfl, ha, hkx, hdv, hds, HF, HP, S1⟩ := hrel
    have HDV := Lib.hid hdv
    clear hdv
    obtain ⟨b, hb⟩ : ∃ b, b = a + 20 := ⟨_, rfl⟩
    rw [← hb]
    have HB := Lib.hid hb
    by_cases hlt : b ≤ sz
    · have hlz : (b : Int) ≤ (sz : Int) := by omega
      have h := HI.out a b dk wr hds S1.out (by omega) hlt
      have H : Aside _ := h
      clear h S1 hb
      go_wp2_with fail
      refine Calls.mono H.out ?_
      clear H
      rintro e w1 ⟨rfl, d1, t1, t2, t3, t4⟩
      have T2 := Lib.hid t2
      have T3 := Lib.hid t3
      have T4 : Aside _ := t4
      clear t2 t3 t4
      have hbe := HB.out
      have hbz : (b : Int) = (a : Int) + 20 := by omega
      clear hbe
      have HBZ := Lib.hid hbz
      clear hbz
      go_wp2_with fail
      have hbe := HB.out
      go_roundg (sz - b)
      case measure => omega
      case rel =>
        refine ⟨b, d1, rfl, by go_num, hlt, by omega, ?_, t1, ?_, permIn_in HP.out T2.out hlt (by omega), T4⟩
        · rw [hbe]; exact Nat.dvd_add HDV.out (Nat.dvd_refl _)
        · have h2 := T2.out
          have h3 := T3.out
          rw [hbe] at h2 h3 ⊢
          exact firsts_step HDV.out HF.out h2 h3
    · have hlz : ¬ (b : Int) ≤ (sz : Int) := by omega
      have h := HI.out a sz dk wr hds S1.out ha (Nat.le_refl _)
      have H : Aside _ := h
      have hbl : sz < a + 20 := by omega
      clear h S1 hb
      go_wp2_with fail
      refine Calls.mono H.out ?_
      clear H
      rintro e w1 ⟨rfl, d1, t1, t2, t3, t4⟩
      have HBK : Hid (Blks (ltOf cf) 20 sz d1) := firsts_end HDV.out HF.out ha hbl t2 t3
      have HP1 : Hid (PermIn 0 sz d d1) := permIn_in HP.out t2 (Nat.le_refl _) (by omega)
      have T4 : Aside _ := t4
      clear t2 t3 t4 HF HP HDV HB hlz hlt hkx hds
      go_wp2_with fail
      go_loopg [6, 7, 8, 9] (sz + 20) (fun kx s6 s7 s8 s9 wr => ∃ (bs : Nat) (dk : Array α), s6 = .int .i64 bs ∧ 20 ≤ bs ∧ bs ≤ 2 * sz + 20 ∧ sz + 20 ≤ kx + bs ∧ dk.size = sz ∧ Hid (Blks (ltOf cf) bs sz dk) ∧ Hid (PermIn 0 sz d dk) ∧ Aside (SWK enc k w0 blk off dk wr))
      case atStart => exact ⟨20, d1, rfl, Nat.le_refl _, by omega, by omega, t1, HBK, HP1, T4⟩
      case round =>
        clear HBK HP1 T4 t1
        obtain ⟨bs, dk, rfl, hb20, hb2, hkx, hds, HB, HP, S1⟩ := hrel
        by_cases hlt : bs < sz
        · have hlz : (bs : Int) < (sz : Int) := by omega
          have HH : Hid (Half (ltOf cf) bs 0 sz dk) := half_start HB.out
          clear HB
          go_wp2_with fail
          go_loopg [7, 8] sz (fun ky s7 s8 wr => ∃ (a : Nat) (dq : Array α), s7 = .int .i64 a ∧ s8 = .int .i64 ((a + 2 * bs : Nat) : Int) ∧ a ≤ sz ∧ sz ≤ ky + a ∧ Hid (2 * bs ∣ a) ∧ dq.size = sz ∧ Hid (Half (ltOf cf) bs a sz dq) ∧ Hid (PermIn 0 sz d dq) ∧ Aside (SWK enc k w0 blk off dq wr))
          case atStart => exact ⟨0, dk, rfl, by go_num, Nat.zero_le _, by omega, Nat.dvd_zero _, hds, HH, HP, S1⟩
          case round =>
            clear HH HP S1 hds
            obtain ⟨a, dq, rfl, rfl, ha, hky, hdv, hdq, HH, HP, S1⟩ := hrel
            obtain ⟨b, hb⟩ : ∃ b, b = a + 2 * bs := ⟨_, rfl⟩
            rw [← hb]
            have hba : a + bs < b := by omega
            have hbx : b = a + bs + bs := by omega
            obtain ⟨q1, q2⟩ := half_two hdv.out HH.out
            rw [← hbx] at q2
            have ec : ((a + bs : Nat) : Int) = (a : Int) + (bs : Int) := by omega
            by_cases hle : b ≤ sz
            · have hlz2 : (b : Int) ≤ (sz : Int) := by omega
              rw [Nat.min_eq_left (by omega)] at q1 q2
              have h := HM.out (b - a) a (a + bs) b dq wr (Nat.le_refl _) hdq S1.out (by omega) hba hle q1 q2
              rw [ec] at h
              have H : Aside _ := h
              have HBB := Lib.hid hb
              clear h S1 q1 q2 hb hbx ec
              go_wp2_with fail
              refine Calls.mono H.out ?_
              clear H
              rintro e w1 ⟨rfl, d2, t1, t2, t3, t4⟩
              have T2 := Lib.hid t2
              have T3 := Lib.hid t3
              have T4 : Aside _ := t4
              clear t2 t3 t4
              go_wp2_with fail
              have hbe := HBB.out
              go_roundg (sz - b)
              case measure => omega
              case rel =>
                refine ⟨b, d2, rfl, by go_num, hle, by omega, ?_, t1, ?_, permIn_in HP.out T2.out hle (by omega), T4⟩
                · show _ ∣ _
                  rw [hbe]
                  exact Nat.dvd_add hdv.out (Nat.dvd_refl _)
                · have h2 := T2.out
                  have h3 := T3.out
                  rw [hbe] at h2 h3 ⊢
                  exact half_step hdv.out HH.out h2 h3
            · have hlz2 : ¬ (b : Int) ≤ (sz : Int) := by omega
              have hbs2 : sz < a + 2 * bs := by omega
              rw [Nat.min_eq_right (by omega)] at q2
              by_cases hm : a + bs < sz
              · have hmz : (a : Int) + (bs : Int) < (sz : Int) := by omega
                rw [Nat.min_eq_left (by omega)] at q1
                have h := HM.out (sz - a) a (a + bs) sz dq wr (Nat.le_refl _) hdq S1.out (by omega) hm (Nat.le_refl _) q1 q2
                rw [ec] at h
                have H : Aside _ := h
                clear h S1 q1 q2 hb hbx ec hba
                go_wp2_with fail
                refine Calls.mono H.out ?_
                clear H
                rintro e w1 ⟨rfl, d2, t1, t2, t3, t4⟩
                have HBK : Hid (Blks (ltOf cf) (2 * bs) sz d2) := half_end hdv.out (half_merged hdv.out HH.out t2 t3) hbs2 ha t3
                have HP2 : Hid (PermIn 0 sz d d2) := permIn_in HP.out t2 (Nat.le_refl _) (by omega)
                have T4 : Aside _ := t4
                clear t2 t3 t4
                go_wp2_with fail
                go_roundg (sz + 20 - 2 * bs)
                case measure => omega
                case rel => exact ⟨2 * bs, d2, by go_num, by omega, by omega, by omega, t1, HBK, HP2, T4⟩
              · have hmz : ¬ (a : Int) + (bs : Int) < (sz : Int) := by omega
                rw [Nat.min_eq_right (by omega)] at q1
                have HBK : Hid (Blks (ltOf cf) (2 * bs) sz dq) := half_end hdv.out HH.out hbs2 ha q1
                clear q1 q2 hb hbx ec hba
                go_wp2_with fail
                go_roundg (sz + 20 - 2 * bs)
                case measure => omega
                case rel => exact ⟨2 * bs, dq, by go_num, by omega, by omega, by omega, hdq, HBK, HP, S1⟩
        · have hlz : ¬ (bs : Int) < (sz : Int) := by omega
          go_wp2_with fail
          go_end0
          exact ⟨rfl, dk, hds, HP.out, blks_all HB.out (by omega), S1.out⟩

set_option maxHeartbeats 16000000 in
set_option maxRecDepth 1000000 in
theorem sortStable_any (k : Nat) (zE : ∀ w, (Go.sizeOf 72).run Try.prog w = .ok k w) (enc : α → List Value) (cf : α → α → Int) (hO : SWO (ltOf cf)) (g : Nat) (cb : Array Value) (blk off cap sz : Nat) (d0 : Array α) (w0 : World)
    (eg : ∀ args w, (callFunc g args).run Try.prog w = .ok (.enter g args) w) (hcmp : CmpLays Try.prog g cb enc k cf blk off sz w0)
    (R : RowK enc k w0 blk off d0) (hs : d0.size = sz) (hsz : sz < 4611686018427387904) (hsm : sz < 1152921504606846976) (d : Array α) (w : World) (hd : d.size = sz) (S : SWK enc k w0 blk off d w) :
    Calls Try.prog 20 #[.slice (some ⟨blk, off, none⟩) sz cap, .func (.func g) #[] cb] w fun e w' => e = .returned (.tuple #[]) ∧ ∃ d', d'.size = sz ∧ PermIn 0 sz d d' ∧ SortedIn (ltOf cf) 0 sz d' ∧ SWK enc k w0 blk off d' w' := by
  have H : Aside _ := stable_any k zE enc cf hO g cb blk off cap sz d0 w0 eg hcmp R hs hsz hsm d w hd S
  clear S hcmp
  go_enter Try.func20, Try.ntmps20
  go_wp2_with fail
  refine Calls.mono H.out ?_
  clear H
  rintro e w1 ⟨rfl, d2, t1, t2, t3, t4⟩
  have T2 := Lib.hid t2
  have T3 := Lib.hid t3
  have T4 : Aside _ := t4
  clear t2 t3 t4
  go_wp2_with fail
  go_end0
  exact ⟨rfl, d2, t1, T2.out, T3.out, T4.out⟩
end Go.Proofs.Ytnojfiokdhcbjaa
