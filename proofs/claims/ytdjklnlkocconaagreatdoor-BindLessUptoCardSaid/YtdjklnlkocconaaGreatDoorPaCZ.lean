/-
  The parser's both, out of one: the walk of a loop that joins nodes.
  The parser's expr, out of both: the walk of a loop that joins nodes. Then expr at any number of tokens, by induction.
-/
import Derived.Test.YtdjklnlkocconaaGreatDoorPaBZ
import Derived.Deep.LoopGhost
import Derived.Deep.RegionHeld3
import Derived.Deep.RegionWith
namespace Go.Proofs.YtdjklnlkocconaaGreatDoor
open Go Go.RowKit

/-- .. with what it has read so far in a block of its own. -/
structure BS (w w' : World) (b : Nat) (lv : Value) (ts r : List Tok) (fin deep : Int) (nb : Nat) (n : Nd) (x y z : Value) : Prop where
  o : OS w w' b lv ts r fin deep
  hn : w.heap.size < nb
  blk : Blk3 w' nb x y z
  nd : NdIs (fun g => w.heap.size + 1 ≤ g ∧ g ≠ nb) w' n (.agg #[x, y, z])

theorem BS.start {w w' w'' : World} {b : Nat} {lv : Value} {ts r : List Tok} {fin deep : Int} (h : OS w w' b lv ts r fin deep) {n : Nd} {x y z : Value} (hn : NdIs (w.heap.size + 1 ≤ ·) w' n (.agg #[x, y, z])) (hg : w'.grownBy w'' none) (hb : Blk3 w'' w'.heap.size x y z) : BS w w'' b lv ts r fin deep w'.heap.size n x y z :=
  ⟨h.still hg, h.size, hb, NdIs.kept hg.size (fun g hl ho => ⟨hg.block g hl (by simp), ho, Nat.ne_of_lt hl⟩) n _ hn⟩
theorem BS.still {w w' w'' : World} {b : Nat} {lv : Value} {ts r : List Tok} {fin deep : Int} {nb : Nat} {n : Nd} {x y z : Value} (h : BS w w' b lv ts r fin deep nb n x y z) (hg : w'.grownBy w'' none) : BS w w'' b lv ts r fin deep nb n x y z :=
  ⟨h.o.still hg, h.hn, h.blk.grown hg (by simp), NdIs.kept hg.size (fun g hl ho => ⟨hg.block g hl (by simp), ho⟩) n _ h.nd⟩
theorem BS.alloc {w w' : World} {b : Nat} {lv : Value} {ts r : List Tok} {fin deep : Int} {nb : Nat} {n : Nd} {x y z : Value} (h : BS w w' b lv ts r fin deep nb n x y z) (o : Obj) : BS w (w'.alloc o) b lv ts r fin deep nb n x y z := h.still (grown_alloc _ _ _)
theorem BS.moved {w w' w'' : World} {b : Nat} {lv : Value} {ts r r' : List Tok} {fin deep deep' : Int} {nb : Nat} {n : Nd} {x y z : Value} (h : BS w w' b lv ts r fin deep nb n x y z) (hg : w'.grownBy w'' (some b)) (hp : PW w'' b lv ts r' fin deep') : BS w w'' b lv ts r' fin deep' nb n x y z := by
  have hb := h.o.hb
  have hn := h.hn
  exact ⟨h.o.moved hg hp, h.hn, h.blk.grown hg (by intro e; have := Option.some.inj e; omega), NdIs.kept hg.size (fun g hl ho => ⟨hg.block g hl (by intro e; have := Option.some.inj e; omega), ho⟩) n _ h.nd⟩

theorem cell_six (w : World) (a b c d e f : Value) (T : TypeId) : ∀ (j : Nat) (u : Value), [a, b, c, d, e, f][j]? = some u → (w.alloc (.cells #[a, b, c, d, e, f] T)).cell? ⟨w.heap.size, j, none⟩ = some u := by
  intro j u hj
  unfold World.cell?
  rw [(MapKept.heap_alloc w _).1]
  simpa using hj

/-- Two joined: a row of both made, and the variable's block turned. -/
theorem BS.join {w w1 w2 w3 : World} {b : Nat} {lv : Value} {ts r : List Tok} {fin deep : Int} {nb : Nat} {n m : Nd} {x y z x2 y2 z2 : Value} (h : BS w w2 b lv ts r fin deep nb n x y z) (hsz : w1.heap.size ≤ w2.heap.size) (h1 : nb < w1.heap.size) (hm : NdIs (w1.heap.size ≤ ·) w2 m (.agg #[x2, y2, z2])) (k : Int) (s : ByteArray) (hs : s = bs [])
    (hg : w2.grownBy w3 none) (hc : ∀ (j : Nat) (u : Value), [x, y, z, x2, y2, z2][j]? = some u → w3.cell? ⟨w2.heap.size, j, none⟩ = some u) (hlt : w2.heap.size < w3.heap.size) (cap : Nat) :
    BS w (((w3.setCell ⟨nb, 0, none⟩ (.int .i64 k)).setCell ⟨nb, 1, none⟩ (.string s)).setCell ⟨nb, 2, none⟩ (.slice (some ⟨w2.heap.size, 0, none⟩) 2 cap)) b lv ts r fin deep nb (.mk k [] [n, m]) (.int .i64 k) (.string s) (.slice (some ⟨w2.heap.size, 0, none⟩) 2 cap) := by
  have h3 := h.still hg
  have hn := h.hn
  have hb := h.o.hb
  have hs3 := grown_set3 w3 nb (.int .i64 k) (.string s) (.slice (some ⟨w2.heap.size, 0, none⟩) 2 cap)
  have hk : ∀ g, g < w3.heap.size → g ≠ nb → ((((w3.setCell ⟨nb, 0, none⟩ (.int .i64 k)).setCell ⟨nb, 1, none⟩ (.string s)).setCell ⟨nb, 2, none⟩ (.slice (some ⟨w2.heap.size, 0, none⟩) 2 cap))).heap[g]? = w3.heap[g]? := fun g hl hne => hs3.block g hl (by intro e; exact hne (Option.some.inj e))
  refine ⟨⟨hb, grown_new h3.o.g hs3 (by omega), h3.o.p.other hs3 (by omega), h3.o.n.grown hs3 (by intro e; have := Option.some.inj e; omega)⟩, hn, h3.blk.stored _ _ _, ?_⟩
  subst hs
  unfold NdIs
  refine ⟨_, cap, rfl, by simp, .inr ⟨w2.heap.size, 0, rfl, ⟨by have := h.o.size; omega, by omega⟩, Nat.lt_of_lt_of_le hlt hs3.size, ?_⟩⟩
  have hc2 : ∀ (j : Nat) (u : Value), [x, y, z, x2, y2, z2][j]? = some u → World.cell? _ ⟨w2.heap.size, j, none⟩ = some u := fun j u hj => (World.cell?_of_block (a := ⟨w2.heap.size, j, none⟩) (hk w2.heap.size hlt (by omega))).trans (hc j u hj)
  unfold NdsIs
  refine ⟨⟨_, ⟨x, y, z, rfl, hc2 0 _ rfl, hc2 1 _ rfl, hc2 2 _ rfl⟩, NdIs.kept hs3.size (fun g hl ho => ⟨hk g hl ho.2, ho⟩) n _ h3.nd⟩, ?_⟩
  unfold NdsIs
  refine ⟨⟨_, ⟨x2, y2, z2, rfl, hc2 3 _ rfl, hc2 4 _ rfl, hc2 5 _ rfl⟩, ?_⟩, trivial⟩
  refine NdIs.kept (Nat.le_trans hg.size hs3.size) (fun g hl ho => ?_) m _ hm
  have ho' : w1.heap.size ≤ g := ho
  exact ⟨(hk g (Nat.lt_of_lt_of_le hl hg.size) (by omega)).trans (hg.block g hl (by simp)), by omega, by omega⟩

/-- It ends. -/
theorem BS.done {w w' : World} {b : Nat} {lv : Value} {ts r : List Tok} {fin deep : Int} {nb : Nat} {n : Nd} {x y z : Value} (h : BS w w' b lv ts r fin deep nb n x y z) {ex : Ex} (hf : ex.nd = n) {p : PR Ex} (hp : p = .ok (ex, r)) :
    ExOut w b lv ts fin deep p (.returned (.agg #[x, y, z])) (((w'.setCell ⟨w.heap.size, 0, none⟩ x).setCell ⟨w.heap.size, 1, none⟩ y).setCell ⟨w.heap.size, 2, none⟩ z) :=
  h.o.done x y z (NdIs.kept (Nat.le_refl _) (fun _ _ ho => ⟨rfl, ho.1⟩) n _ h.nd) hf hp

/-- Where a loop of both stands. -/
def BothAt (w : World) (b : Nat) (lv : Value) (ts : List Tok) (fin : Int) (d nb m : Nat) (p : PR Ex) (k : Nat) (wr : World) : Prop :=
  ∃ (r : List Tok) (ex : Ex) (xk : Int) (xs : ByteArray) (xa : Option Addr) (xn xc : Nat), r.length < k ∧ r.length ≤ m ∧ BS w wr b lv ts r fin d nb ex.nd (.int .i64 xk) (.string xs) (.slice xa xn xc) ∧ p = pAnd d ex r

set_option maxHeartbeats 2000000 in
set_option maxRecDepth 100000 in
theorem both_walk (m b : Nat) (lv : Value) (ts r : List Tok) (fin : Int) (d : Nat) (w : World) (ho1 : OneC m) (hm : r.length ≤ m) (hd : d ≤ 64) (h : PW w b lv ts r fin d) :
    Calls Tryz.prog 81 #[.pointer (some ⟨b, 0, none⟩)] w fun e w' => ExOut w b lv ts fin d (pBoth d r) e w' := by
  have S0 := Lib.hid (OS.start h)
  clear h
  go_enter Tryz.func81, Tryz.ntmps81
  go_wp2_with fail
  refine (ho1 b lv ts r fin d _ hm hd S0.out.p).mono ?_
  intro e w1 ho
  rcases out_cases ho with ⟨n, r1, v, hp, rfl, hv, hg, hw⟩ | ⟨r1, hp, he, hg⟩
  · obtain ⟨xk, xs, xa, xn, xc, rfl⟩ := hv.agg
    have HN : Hid (NdIs (w.heap.size + 1 ≤ ·) w1 (Ex.nd n) (.agg #[.int .i64 xk, .string xs, .slice xa xn xc])) := hv.from S0.out.size
    have S1 := Lib.hid (S0.out.moved hg hw)
    have HP : Hid (pBoth d r = pAnd d n r1) := by
      show _ = _
      rw [pBoth, hp.out, PR.then_ok]
    have HL : Hid (r1.length < r.length) := pOne_len hp.out
    clear hg hw S0 ho hv hp
    obtain ⟨k0, k1, k2, f0, f1, f2⟩ := (Blk3.new w1 (.int .i64 0) (.string ⟨#[]⟩) (.slice none 0 0)).cells
    go_wp2_with fail
    have hB : BothAt w b lv ts fin d w1.heap.size m (pBoth d r) (r1.length + 1) (w1.alloc (.cells #[.int .i64 xk, .string xs, .slice xa xn xc] 37)) :=
      ⟨r1, n, xk, xs, xa, xn, xc, by omega, by have := HL.out; omega, BS.start S1.out HN.out (grown_alloc _ _ _) (Blk3.new _ _ _ _), HP.out⟩
    have HB := Lib.hid hB
    have hnb : w.heap.size < w1.heap.size := S1.out.size
    clear hB S1 HN HP k0 k1 k2 f0 f1 f2
    generalize (w1.alloc (.cells #[.int .i64 xk, .string xs, .slice xa xn xc] 37)) = w2 at *
    generalize w1.heap.size = nb at *
    go_loopg [6] (r1.length + 1) (fun k u wr => Hid (BothAt w b lv ts fin d nb m (pBoth d r) k wr))
    case atStart => exact HB
    case round =>
      obtain ⟨r2, ex, yk, ys, ya, yn, yc, hlt, hlm, hbs, hp⟩ := hrel.out
      have HP := Lib.hid hp
      have B0 := Lib.hid hbs
      clear hrel hp hbs
      cases hβ : seesR r2 [w_and]
      · go_wp2_with fail
        refine (sees_w b lv ts r2 fin d _ [w_and] _ _ hβ (B0.out.alloc _).o.p (txtRow_one _ _ w_and _ _ _ rfl rfl)).mono ?_
        rintro e w3 ⟨rfl, hg1⟩
        have B1 := Lib.hid ((B0.out.alloc _).still hg1)
        clear hg1 B0
        obtain ⟨k0, k1, k2, f0, f1, f2⟩ := B1.out.o.n.cells
        obtain ⟨l0, l1, l2, _, _, _⟩ := B1.out.blk.cells
        go_wp2
        refine node_ret rfl rfl rfl (B1.out.o.n.stored _ _ _) (B1.out.done rfl ?_)
        rw [HP.out]
        cases r2 with
        | nil => rfl
        | cons t r2 => rw [pAnd_cons, ← seesR_one t r2, hβ]; rfl
      · go_wp2_with fail
        refine (sees_w b lv ts r2 fin d _ [w_and] _ _ hβ (B0.out.alloc _).o.p (txtRow_one _ _ w_and _ _ _ rfl rfl)).mono ?_
        rintro e w3 ⟨rfl, hg1⟩
        have B1 := Lib.hid ((B0.out.alloc _).still hg1)
        clear hg1 B0
        cases r2 with
        | nil => cases hβ
        | cons t r2 =>
          have HP3 : Hid (pBoth d r = (pOne d r2).then fun m r1 => pAnd d (.bin 4 ex m) r1) := by
            show _ = _
            rw [HP.out, pAnd_cons, ← seesR_one t r2, hβ, if_pos rfl]
          have hlm2 : r2.length ≤ m := by simp only [List.length_cons] at hlm; omega
          have hlt2 : r2.length + 1 < gk := by simpa only [List.length_cons] using hlt
          clear hlm hlt HP
          go_wp2_with fail
          refine (take_at b lv ts r2 t fin d _ B1.out.o.p).mono ?_
          rintro e w4 ⟨rfl, hg, hw⟩
          have B2 := Lib.hid (B1.out.moved hg hw)
          clear hg hw B1
          cases hpo : pOne d r2 with
          | error r3 =>
            have HO : Hid (∀ w1, w4.grownBy w1 none → Calls Tryz.prog 107 #[.pointer (some ⟨b, 0, none⟩)] w1 fun e w' => Thrown (posOf r3 fin) e ∧ w.grownBy w' (some b)) := by
              show ∀ _, _
              intro w1 hg
              refine (ho1 b lv ts r2 fin d w1 hlm2 hd (B2.out.still hg).o.p).mono fun e w' ho => ?_
              rw [hpo] at ho
              exact ⟨ho.1, grown_trans (B2.out.still hg).o.g ho.2⟩
            have HP2 : Hid (pBoth d r = .error r3) := by
              show _ = _
              rw [HP3.out, hpo]; rfl
            have HS : Hid (w4.grownBy w4.drew none) := grown_drew w4 1 none
            clear hpo
            obtain ⟨l0, l1, l2, f0, f1, f2⟩ := B2.out.blk.cells
            go_wp2_with fail
            go_region_dies
            all_goals
              refine (HO.out _ HS.out).mono ?_
              intro e w5 ⟨he, hg⟩
              have HE := Lib.hid he
              clear he
              obtain rfl : e = _ := HE.out
              exact ⟨rfl, out_error HP2.out rfl hg⟩
          | ok p =>
            obtain ⟨mx, r3⟩ := p
            have HO : Hid (∀ w1, w4.grownBy w1 none → Calls Tryz.prog 107 #[.pointer (some ⟨b, 0, none⟩)] w1 fun e w' => ∃ (zk : Int) (zs : ByteArray) (za : Option Addr) (zn zc : Nat), e = .returned (.agg #[.int .i64 zk, .string zs, .slice za zn zc]) ∧ Hid (NdIs (w4.heap.size ≤ ·) w' mx.nd (.agg #[.int .i64 zk, .string zs, .slice za zn zc]) ∧ w4.heap.size ≤ w'.heap.size ∧ BS w w' b lv ts r3 fin d nb ex.nd (.int .i64 yk) (.string ys) (.slice ya yn yc)) ∧
                (w'.cell? ⟨nb, 0, none⟩ = some (.int .i64 yk) ∧ w'.cell? ⟨nb, 1, none⟩ = some (.string ys) ∧ w'.cell? ⟨nb, 2, none⟩ = some (.slice ya yn yc)) ∧ ∀ o : Obj, (w'.alloc o).cell? ⟨nb, 0, none⟩ = some (.int .i64 yk) ∧ (w'.alloc o).cell? ⟨nb, 1, none⟩ = some (.string ys) ∧ (w'.alloc o).cell? ⟨nb, 2, none⟩ = some (.slice ya yn yc) ∧ (w'.alloc o).frozen? ⟨nb, 0, none⟩ = false ∧ (w'.alloc o).frozen? ⟨nb, 1, none⟩ = false ∧ (w'.alloc o).frozen? ⟨nb, 2, none⟩ = false) := by
              show ∀ _, _
              intro w1 hg
              refine (ho1 b lv ts r2 fin d w1 hlm2 hd (B2.out.still hg).o.p).mono fun e w' ho => ?_
              rw [hpo] at ho
              obtain ⟨v, rfl, hn, hg2, hw⟩ := ho
              obtain ⟨zk, zs, za, zn, zc, rfl⟩ := hn.agg
              have hB := (B2.out.still hg).moved hg2 hw
              have hc := hB.blk.cells
              exact ⟨zk, zs, za, zn, zc, rfl, ⟨hn.from hg.size, Nat.le_trans hg.size hg2.size, hB⟩, ⟨hc.1, hc.2.1, hc.2.2.1⟩, fun o => (hB.alloc o).blk.cells⟩
            have HP2 : Hid (pBoth d r = pAnd d (.bin 4 ex mx) r3) := by
              show _ = _
              rw [HP3.out, hpo]; rfl
            have HS : Hid (w4.grownBy w4.drew none) := grown_drew w4 1 none
            have HL3 : Hid (r3.length < r2.length) := pOne_len hpo
            clear hpo
            obtain ⟨l0, l1, l2, f0, f1, f2⟩ := B2.out.blk.cells
            go_wp2_with fail
            go_region_with (go_at_call 107; refine (HO.out _ HS.out).mono ?_; rintro e w5 ⟨zk, zs, za, zn, zc, rfl, hq, ⟨q0, q1, q2⟩, hqa⟩)
            all_goals
              have HR : Hid (BothAt w b lv ts fin d nb m (pBoth d r) (r3.length + 1) ((((w5.alloc (.cells #[.int .i64 yk, .string ys, .slice ya yn yc, .int .i64 zk, .string zs, .slice za zn zc] 37)).setCell ⟨nb, 0, none⟩ (.int .i64 4)).setCell ⟨nb, 1, none⟩ (.string ⟨#[]⟩)).setCell ⟨nb, 2, none⟩ (.slice (some ⟨w5.heap.size, 0, none⟩) 2 2))) :=
                ⟨r3, .bin 4 ex mx, 4, ⟨#[]⟩, some ⟨w5.heap.size, 0, none⟩, 2, 2, Nat.lt_succ_self _, by have := HL3.out; omega,
                  BS.join (w1 := w4) hq.out.2.2 hq.out.2.1 B2.out.blk.lt hq.out.1 4 ⟨#[]⟩ rfl (grown_alloc _ _ _) (cell_six w5 _ _ _ _ _ _ _) (by simp) 2, HP2.out⟩
              clear hq q0 q1 q2 hqa l0 l1 l2 f0 f1 f2 HO
              go_wp2
              go_roundg (r3.length + 1)
              case measure => have := HL3.out; omega
              case rel => exact HR
  · have HE := Lib.hid he
    clear he ho
    obtain rfl : e = _ := HE.out
    exact ⟨rfl, out_error (by rw [pBoth, hp.out]; rfl) rfl (grown_trans S0.out.g hg)⟩
end Go.Proofs.YtdjklnlkocconaaGreatDoor

namespace Go.Proofs.YtdjklnlkocconaaGreatDoor
open Go Go.RowKit

theorem lowKind_no {t : Tok} {r : List Tok} (h : seesR (t :: r) [w_or, w_not, w_xor] = false) : lowKind t = 0 := by
  simp only [seesR, List.contains_cons, List.contains_nil, Bool.or_false] at h
  unfold lowKind isT
  cases hk : (t.kind != 2)
  · rfl
  · rw [hk] at h
    simp only [Bool.true_and, Bool.or_eq_false_iff] at h
    rw [h.1, h.2.1, h.2.2]; rfl
theorem lowKind_yes {t : Tok} {r : List Tok} (h : seesR (t :: r) [w_or, w_not, w_xor] = true) : lowKind t ≠ 0 ∧ lowKind t = lowOf t.text := by
  simp only [seesR, List.contains_cons, List.contains_nil, Bool.or_false, Bool.and_eq_true, Bool.or_eq_true, beq_iff_eq] at h
  unfold lowKind isT lowOf
  rw [h.1]
  rcases h.2 with e | e | e <;> rw [e] <;> decide

/-- Where a loop of expr stands. -/
def LowAt (w : World) (b : Nat) (lv : Value) (ts : List Tok) (fin : Int) (d nb m : Nat) (p : PR Ex) (k : Nat) (wr : World) : Prop :=
  ∃ (r : List Tok) (ex : Ex) (xk : Int) (xs : ByteArray) (xa : Option Addr) (xn xc : Nat), r.length < k ∧ r.length ≤ m ∧ BS w wr b lv ts r fin d nb ex.nd (.int .i64 xk) (.string xs) (.slice xa xn xc) ∧ p = pLow d ex r

set_option maxHeartbeats 2000000 in
set_option maxRecDepth 100000 in
theorem expr_walk (m b : Nat) (lv : Value) (ts r : List Tok) (fin : Int) (d : Nat) (w : World) (ho1 : BothC m) (hm : r.length ≤ m) (hd : d ≤ 64) (h : PW w b lv ts r fin d) :
    Calls Tryz.prog 60 #[.pointer (some ⟨b, 0, none⟩)] w fun e w' => ExOut w b lv ts fin d (pEx d r) e w' := by
  have S0 := Lib.hid (OS.start h)
  clear h
  go_enter Tryz.func60, Tryz.ntmps60
  go_wp2_with fail
  refine (ho1 b lv ts r fin d _ hm hd S0.out.p).mono ?_
  intro e w1 ho
  rcases out_cases ho with ⟨n, r1, v, hp, rfl, hv, hg, hw⟩ | ⟨r1, hp, he, hg⟩
  · obtain ⟨xk, xs, xa, xn, xc, rfl⟩ := hv.agg
    have HN : Hid (NdIs (w.heap.size + 1 ≤ ·) w1 (Ex.nd n) (.agg #[.int .i64 xk, .string xs, .slice xa xn xc])) := hv.from S0.out.size
    have S1 := Lib.hid (S0.out.moved hg hw)
    have HP : Hid (pEx d r = pLow d n r1) := by
      show _ = _
      rw [pEx, hp.out, PR.then_ok]
    have HL : Hid (r1.length < r.length) := pBoth_len hp.out
    clear hg hw S0 ho hv hp
    obtain ⟨k0, k1, k2, f0, f1, f2⟩ := (Blk3.new w1 (.int .i64 0) (.string ⟨#[]⟩) (.slice none 0 0)).cells
    go_wp2_with fail
    have hB : LowAt w b lv ts fin d w1.heap.size m (pEx d r) (r1.length + 1) (w1.alloc (.cells #[.int .i64 xk, .string xs, .slice xa xn xc] 37)) :=
      ⟨r1, n, xk, xs, xa, xn, xc, by omega, by have := HL.out; omega, BS.start S1.out HN.out (grown_alloc _ _ _) (Blk3.new _ _ _ _), HP.out⟩
    have HB := Lib.hid hB
    have hnb : w.heap.size < w1.heap.size := S1.out.size
    clear hB S1 HN HP k0 k1 k2 f0 f1 f2
    generalize (w1.alloc (.cells #[.int .i64 xk, .string xs, .slice xa xn xc] 37)) = w2 at *
    generalize w1.heap.size = nb at *
    go_loopg [4] (r1.length + 1) (fun k u wr => Hid (LowAt w b lv ts fin d nb m (pEx d r) k wr))
    case atStart => exact HB
    case round =>
      obtain ⟨r2, ex, yk, ys, ya, yn, yc, hlt, hlm, hbs, hp⟩ := hrel.out
      have HP := Lib.hid hp
      have B0 := Lib.hid hbs
      clear hrel hp hbs
      cases hβ : seesR r2 [w_or, w_not, w_xor]
      · go_wp2_with fail
        refine (sees_w b lv ts r2 fin d _ [w_or, w_not, w_xor] _ _ hβ (B0.out.alloc _).o.p (txtRow_at _ _ [w_or, w_not, w_xor] _ _ _ _ rfl rfl rfl (by simp))).mono ?_
        rintro e w3 ⟨rfl, hg1⟩
        have B1 := Lib.hid ((B0.out.alloc _).still hg1)
        clear hg1 B0
        obtain ⟨k0, k1, k2, f0, f1, f2⟩ := B1.out.o.n.cells
        obtain ⟨l0, l1, l2, _, _, _⟩ := B1.out.blk.cells
        go_wp2
        refine node_ret rfl rfl rfl (B1.out.o.n.stored _ _ _) (B1.out.done rfl ?_)
        rw [HP.out]
        cases r2 with
        | nil => rfl
        | cons t r2 => rw [pLow_cons, if_neg (by rw [lowKind_no hβ]; decide)]
      · go_wp2_with fail
        refine (sees_w b lv ts r2 fin d _ [w_or, w_not, w_xor] _ _ hβ (B0.out.alloc _).o.p (txtRow_at _ _ [w_or, w_not, w_xor] _ _ _ _ rfl rfl rfl (by simp))).mono ?_
        rintro e w3 ⟨rfl, hg1⟩
        have B1 := Lib.hid ((B0.out.alloc _).still hg1)
        clear hg1 B0
        cases r2 with
        | nil => cases hβ
        | cons t r2 =>
          have HP3 : Hid (pEx d r = (pBoth d r2).then fun m r1 => pLow d (.bin (lowOf t.text) ex m) r1) := by
            show _ = _
            rw [HP.out, pLow_cons, if_pos (lowKind_yes hβ).1, (lowKind_yes hβ).2]
          have hlm2 : r2.length ≤ m := by simp only [List.length_cons] at hlm; omega
          have hlt2 : r2.length + 1 < gk := by simpa only [List.length_cons] using hlt
          clear hlm hlt HP
          go_wp2_with fail
          refine (take_at b lv ts r2 t fin d _ B1.out.o.p).mono ?_
          rintro e w4 ⟨rfl, hg, hw⟩
          have B2 := Lib.hid (B1.out.moved hg hw)
          clear hg hw B1
          go_wp2_with fail
          refine (kindOf_any t.text _).mono ?_
          rintro e w4' ⟨rfl, rfl⟩
          cases hpo : pBoth d r2 with
          | error r3 =>
            have HO : Hid (∀ w1, w4.grownBy w1 none → Calls Tryz.prog 81 #[.pointer (some ⟨b, 0, none⟩)] w1 fun e w' => Thrown (posOf r3 fin) e ∧ w.grownBy w' (some b)) := by
              show ∀ _, _
              intro w1 hg
              refine (ho1 b lv ts r2 fin d w1 hlm2 hd (B2.out.still hg).o.p).mono fun e w' ho => ?_
              rw [hpo] at ho
              exact ⟨ho.1, grown_trans (B2.out.still hg).o.g ho.2⟩
            have HP2 : Hid (pEx d r = .error r3) := by
              show _ = _
              rw [HP3.out, hpo]; rfl
            have HS : Hid (w4.grownBy w4.drew none) := grown_drew w4 1 none
            clear hpo
            obtain ⟨l0, l1, l2, f0, f1, f2⟩ := B2.out.blk.cells
            go_wp2_with fail
            go_region_dies
            all_goals
              refine (HO.out _ HS.out).mono ?_
              intro e w5 ⟨he, hg⟩
              have HE := Lib.hid he
              clear he
              obtain rfl : e = _ := HE.out
              exact ⟨rfl, out_error HP2.out rfl hg⟩
          | ok p =>
            obtain ⟨mx, r3⟩ := p
            have HO : Hid (∀ w1, w4.grownBy w1 none → Calls Tryz.prog 81 #[.pointer (some ⟨b, 0, none⟩)] w1 fun e w' => ∃ (zk : Int) (zs : ByteArray) (za : Option Addr) (zn zc : Nat), e = .returned (.agg #[.int .i64 zk, .string zs, .slice za zn zc]) ∧ Hid (NdIs (w4.heap.size ≤ ·) w' mx.nd (.agg #[.int .i64 zk, .string zs, .slice za zn zc]) ∧ w4.heap.size ≤ w'.heap.size ∧ BS w w' b lv ts r3 fin d nb ex.nd (.int .i64 yk) (.string ys) (.slice ya yn yc)) ∧
                (w'.cell? ⟨nb, 0, none⟩ = some (.int .i64 yk) ∧ w'.cell? ⟨nb, 1, none⟩ = some (.string ys) ∧ w'.cell? ⟨nb, 2, none⟩ = some (.slice ya yn yc)) ∧ ∀ o : Obj, (w'.alloc o).cell? ⟨nb, 0, none⟩ = some (.int .i64 yk) ∧ (w'.alloc o).cell? ⟨nb, 1, none⟩ = some (.string ys) ∧ (w'.alloc o).cell? ⟨nb, 2, none⟩ = some (.slice ya yn yc) ∧ (w'.alloc o).frozen? ⟨nb, 0, none⟩ = false ∧ (w'.alloc o).frozen? ⟨nb, 1, none⟩ = false ∧ (w'.alloc o).frozen? ⟨nb, 2, none⟩ = false) := by
              show ∀ _, _
              intro w1 hg
              refine (ho1 b lv ts r2 fin d w1 hlm2 hd (B2.out.still hg).o.p).mono fun e w' ho => ?_
              rw [hpo] at ho
              obtain ⟨v, rfl, hn, hg2, hw⟩ := ho
              obtain ⟨zk, zs, za, zn, zc, rfl⟩ := hn.agg
              have hB := (B2.out.still hg).moved hg2 hw
              have hc := hB.blk.cells
              exact ⟨zk, zs, za, zn, zc, rfl, ⟨hn.from hg.size, Nat.le_trans hg.size hg2.size, hB⟩, ⟨hc.1, hc.2.1, hc.2.2.1⟩, fun o => (hB.alloc o).blk.cells⟩
            have HP2 : Hid (pEx d r = pLow d (.bin (lowOf t.text) ex mx) r3) := by
              show _ = _
              rw [HP3.out, hpo]; rfl
            have HS : Hid (w4.grownBy w4.drew none) := grown_drew w4 1 none
            have HL3 : Hid (r3.length < r2.length) := pBoth_len hpo
            clear hpo
            obtain ⟨l0, l1, l2, f0, f1, f2⟩ := B2.out.blk.cells
            go_wp2_with fail
            go_region_with (go_at_call 81; refine (HO.out _ HS.out).mono ?_; rintro e w5 ⟨zk, zs, za, zn, zc, rfl, hq, ⟨q0, q1, q2⟩, hqa⟩)
            all_goals
              have HR : Hid (LowAt w b lv ts fin d nb m (pEx d r) (r3.length + 1) ((((w5.alloc (.cells #[.int .i64 yk, .string ys, .slice ya yn yc, .int .i64 zk, .string zs, .slice za zn zc] 37)).setCell ⟨nb, 0, none⟩ (.int .i64 (lowOf t.text))).setCell ⟨nb, 1, none⟩ (.string ⟨#[]⟩)).setCell ⟨nb, 2, none⟩ (.slice (some ⟨w5.heap.size, 0, none⟩) 2 2))) :=
                ⟨r3, .bin (lowOf t.text) ex mx, lowOf t.text, ⟨#[]⟩, some ⟨w5.heap.size, 0, none⟩, 2, 2, Nat.lt_succ_self _, by have := HL3.out; omega,
                  BS.join (w1 := w4) hq.out.2.2 hq.out.2.1 B2.out.blk.lt hq.out.1 (lowOf t.text) ⟨#[]⟩ rfl (grown_alloc _ _ _) (cell_six w5 _ _ _ _ _ _ _) (by simp) 2, HP2.out⟩
              clear hq q0 q1 q2 hqa l0 l1 l2 f0 f1 f2 HO
              go_wp2
              go_roundg (r3.length + 1)
              case measure => have := HL3.out; omega
              case rel => exact HR
  · have HE := Lib.hid he
    clear he ho
    obtain rfl : e = _ := HE.out
    exact ⟨rfl, out_error (by rw [pEx, hp.out]; rfl) rfl (grown_trans S0.out.g hg)⟩

theorem bothC_of {m : Nat} (h : OneC m) : BothC m := fun b lv ts r fin d w hm hd hw => both_walk m b lv ts r fin d w h hm hd hw
theorem exprC_of {m : Nat} (h : BothC m) : ExprC m := fun b lv ts r fin d w hm hd hw => expr_walk m b lv ts r fin d w h hm hd hw
theorem oneC : ∀ m, OneC m
  | 0 => oneC_zero
  | m + 1 => one_of (exprC_of (bothC_of (oneC m)))

theorem expr_at (b : Nat) (lv : Value) (ts r : List Tok) (fin : Int) (d : Nat) (w : World) (hd : d ≤ 64) (h : PW w b lv ts r fin d) :
    Calls Tryz.prog 60 #[.pointer (some ⟨b, 0, none⟩)] w fun e w' => ExOut w b lv ts fin d (pExpr d r) e w' := by
  rw [pExpr_eq]
  exact exprC_of (bothC_of (oneC r.length)) b lv ts r fin d w (Nat.le_refl _) hd h
end Go.Proofs.YtdjklnlkocconaaGreatDoor
