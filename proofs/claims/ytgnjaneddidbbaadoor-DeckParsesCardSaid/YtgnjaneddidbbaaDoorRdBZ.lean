/-
  The reference's reader: what expr has in memory; the cases of an expression that stands together. No walk.
  The reference's reader: expr: the walk.
-/
import Derived.Test.YtgnjaneddidbbaaDoorRdAZ
import Derived.Test.YtgnjaneddidbbaaDoorPlainZ
import Derived.Test.YtgnjaneddidbbaaDoorPaCZ
import Derived.Deep.DeepCutAuto
import Derived.Deep.CutBlock
import Derived.IntWalk
namespace Go.Proofs.YtgnjaneddidbbaaDoor
open Go Go.RowKit

/-- The reader's expr at work: its result's block, its variable's block. -/
structure ES {α : Type} (w w' : World) (b : Nat) (lv : Value) (ts : List Tok) (f : α → Option Nd) (p : PR α) (x y z : Value) : Prop where
  hb : b < w.heap.size
  g : w.grownBy w' (some b)
  rp : RP w' b lv ts p
  res : Blk3 w' w.heap.size (.int .i64 0) (.string ⟨#[]⟩) (.slice none 0 0)
  blk : Blk3 w' (w.heap.size + 1) x y z
  nd : ∀ a r n, p = .ok (a, r) → f a = some n → NdIs (w.heap.size + 2 ≤ ·) w' n (.agg #[x, y, z])

def noNd {α : Type} (_ : α) : Option Nd := none
def exNd (e : Ex) : Option Nd := some e.nd

section
variable {α β : Type} {w w' w'' : World} {b : Nat} {lv : Value} {ts : List Tok} {f : α → Option Nd} {f' : β → Option Nd} {p : PR α} {q : PR β} {x y z : Value}
theorem ES.start (h : RP w b lv ts p) : ES w ((w.alloc (.cells #[.int .i64 0, .string ⟨#[]⟩, .slice none 0 0] 71)).alloc (.cells #[.int .i64 0, .string ⟨#[]⟩, .slice none 0 0] 71)) b lv ts noNd p (.int .i64 0) (.string ⟨#[]⟩) (.slice none 0 0) := by
  have h1 := grown_alloc w (.cells #[.int .i64 0, .string ⟨#[]⟩, .slice none 0 0] 71) none
  have h2 := grown_alloc (w.alloc (.cells #[.int .i64 0, .string ⟨#[]⟩, .slice none 0 0] 71)) (.cells #[.int .i64 0, .string ⟨#[]⟩, .slice none 0 0] 71) none
  exact ⟨h.lt, grown_none (grown_trans h1 h2) _, (h.grown h1).grown h2, (Blk3.new w _ _ _).grown h2 (by simp), Blk3.new_at _ _ _ _ _ (by simp), fun _ _ _ _ e => by cases e⟩
theorem ES.size (h : ES w w' b lv ts f p x y z) : w.heap.size + 2 ≤ w'.heap.size := h.blk.lt
theorem ES.still (h : ES w w' b lv ts f p x y z) (hg : w'.grownBy w'' none) : ES w w'' b lv ts f p x y z :=
  ⟨h.hb, grown_trans h.g (grown_none hg _), h.rp.grown hg, h.res.grown hg (by simp), h.blk.grown hg (by simp),
    fun a r n e1 e2 => NdIs.kept hg.size (fun g hl ho => ⟨hg.block g hl (by simp), ho⟩) _ _ (h.nd a r n e1 e2)⟩
theorem ES.moved (h : ES w w' b lv ts f p x y z) (hg : w'.grownBy w'' (some b)) (hq : RP w'' b lv ts q) (hn : ∀ a r n, q = .ok (a, r) → f' a = some n → ∃ a' r', p = .ok (a', r') ∧ f a' = some n) : ES w w'' b lv ts f' q x y z := by
  have hb := h.hb
  refine ⟨hb, grown_trans h.g hg, hq, h.res.grown hg (by intro e; have := Option.some.inj e; omega), h.blk.grown hg (by intro e; have := Option.some.inj e; omega), ?_⟩
  intro a r n e1 e2
  obtain ⟨a', r', e3, e4⟩ := hn a r n e1 e2
  exact (h.nd a' r' n e3 e4).grown hg (by omega)
/-- Its variable turned. -/
theorem ES.turn (h : ES w w' b lv ts f p x y z) (hg : w'.grownBy w'' (some (w.heap.size + 1))) {x' y' z' : Value} (hx : Blk3 w'' (w.heap.size + 1) x' y' z') (hq : RP w' b lv ts p → RP w' b lv ts q) (hn : ∀ a r n, q = .ok (a, r) → f' a = some n → NdIs (w.heap.size + 2 ≤ ·) w' n (.agg #[x', y', z'])) : ES w w'' b lv ts f' q x' y' z' := by
  have hb := h.hb
  exact ⟨hb, grown_new h.g hg (by omega), (hq h.rp).other hg (by omega), h.res.grown hg (by intro e; have := Option.some.inj e; omega), hx, fun a r n e1 e2 => (hn a r n e1 e2).grown hg (by omega)⟩
end

theorem Blk3.set0 {w : World} {g : Nat} {x y z : Value} (h : Blk3 w g x y z) (u : Value) : Blk3 (w.setCell ⟨g, 0, none⟩ u) g u y z := by
  unfold Blk3 at h ⊢
  simp [World.setCell, Array.getElem?_modify, h]
theorem Blk3.set1 {w : World} {g : Nat} {x y z : Value} (h : Blk3 w g x y z) (u : Value) : Blk3 (w.setCell ⟨g, 1, none⟩ u) g x u z := by
  unfold Blk3 at h ⊢
  simp [World.setCell, Array.getElem?_modify, h]

/-- The place moved on behind a token that is there. -/
theorem RW.step {w : World} {b : Nat} {lv : Value} {ts r : List Tok} {t : Tok} (h : RW w b lv ts (t :: r) false) : ∃ k : Nat, k < 9223372036854775807 ∧ w.cell? ⟨b, 1, none⟩ = some (.int .i64 (k : Int)) ∧ w.frozen? ⟨b, 1, none⟩ = false ∧
    Hid (w.grownBy (w.setCell ⟨b, 1, none⟩ (.int .i64 ((k : Int) + 1))) (some b) ∧ RW (w.setCell ⟨b, 1, none⟩ (.int .i64 ((k : Int) + 1))) b lv ts r false) := by
  obtain ⟨c0, c1, c2, f1, f2⟩ := h.rs.cells
  have hl := h.row.1
  have h2 := (rest_cons h.rest).2.1
  have hg := grown_setCell w ⟨b, 1, none⟩ (.int .i64 (((ts.length - (t :: r).length : Nat) : Int) + 1))
  have h3 := (rest_cons h.rest).2.2.1
  exact ⟨_, by omega, c1, f1, hg, h.tail hg (h.rs.set _)⟩
/-- It met one that does not fit. -/
theorem RW.fails {w : World} {b : Nat} {lv : Value} {ts r : List Tok} (h : RW w b lv ts r false) : w.cell? ⟨b, 2, none⟩ = some (.bool false) ∧ w.frozen? ⟨b, 2, none⟩ = false ∧
    Hid (w.grownBy (w.setCell ⟨b, 2, none⟩ (.bool true)) (some b) ∧ RW (w.setCell ⟨b, 2, none⟩ (.bool true)) b lv ts r true) := by
  obtain ⟨c0, c1, c2, f1, f2⟩ := h.rs.cells
  have hg := grown_setCell w ⟨b, 2, none⟩ (.bool true)
  exact ⟨c2, f2, hg, h.moved hg h.rs.fail h.rest⟩

/-- An expression that stands together, by the next token's text. -/
theorem one_cases (d : Nat) (r : List Tok) (x : List UInt8) (hx : wordP (.ok ((), r) : PR Unit) = x) :
    (x = w_empty ∧ ∃ t r', r = t :: r' ∧ pOne d r = .ok (.empty, r')) ∨
    (x ≠ w_empty ∧ x = w_boxes ∧ ∃ t r', r = t :: r' ∧ pOne d r = (pName r').then fun s r1 => .ok (.boxes s, r1)) ∨
    (x ≠ w_empty ∧ x ≠ w_boxes ∧ x = [40] ∧ 64 ≤ d ∧ ∃ t r', r = t :: r' ∧ pOne d r = .error r) ∨
    (x ≠ w_empty ∧ x ≠ w_boxes ∧ x = [40] ∧ d < 64 ∧ ∃ t r', r = t :: r' ∧ pOne d r = (pEx (d + 1) r').then fun n r1 => (pMust [41] r1).then fun _ r2 => .ok (n, r2)) ∨
    (x ≠ w_empty ∧ x ≠ w_boxes ∧ x ≠ [40] ∧ pOne d r = (pName r).then fun s r1 => .ok (.name s, r1)) := by
  cases r with
  | nil =>
    have : x = [] := hx.symm
    subst this
    exact .inr (.inr (.inr (.inr ⟨by decide, by decide, by decide, pOne_nil d⟩)))
  | cons t r =>
    have h1 := wordP_isT () t r w_empty (by decide)
    have h2 := wordP_isT () t r w_boxes (by decide)
    have h3 := wordP_isT () t r [40] (by decide)
    rw [hx] at h1 h2 h3
    rw [pOne_cons]
    cases e1 : isT t w_empty
    · cases e2 : isT t w_boxes
      · cases e3 : isT t [40]
        · refine .inr (.inr (.inr (.inr ⟨?_, ?_, ?_, rfl⟩)))
          · rw [Ne, h1, e1]; decide
          · rw [Ne, h2, e2]; decide
          · rw [Ne, h3, e3]; decide
        · rw [e1] at h1; rw [e2] at h2; rw [e3] at h3
          have n1 : x ≠ w_empty := by rw [Ne, h1]; decide
          have n2 : x ≠ w_boxes := by rw [Ne, h2]; decide
          have n3 : x = [40] := by rw [h3]
          by_cases hd : 64 ≤ d
          · exact .inr (.inr (.inl ⟨n1, n2, n3, hd, t, r, rfl, by rw [if_neg (by decide), if_neg (by decide), if_pos rfl, if_pos hd]⟩))
          · exact .inr (.inr (.inr (.inl ⟨n1, n2, n3, by omega, t, r, rfl, by rw [if_neg (by decide), if_neg (by decide), if_pos rfl, if_neg hd]⟩)))
      · rw [e1] at h1; rw [e2] at h2
        exact .inr (.inl ⟨by rw [Ne, h1]; decide, by rw [h2], t, r, rfl, rfl⟩)
    · rw [e1] at h1
      exact .inl ⟨by rw [h1], t, r, rfl, rfl⟩

/-- What the reader's expr comes to. -/
def RExOut (w : World) (b : Nat) (lv : Value) (ts : List Tok) (p : PR Ex) (e : Ending) (w' : World) : Prop :=
  ∃ (xk : Int) (xs : ByteArray) (xa : Option Addr) (xn xc : Nat), e = .returned (.agg #[.int .i64 xk, .string xs, .slice xa xn xc]) ∧ w.grownBy w' (some b) ∧ RP w' b lv ts p ∧
    ∀ ex r, p = .ok (ex, r) → NdIs (w.heap.size ≤ ·) w' ex.nd (.agg #[.int .i64 xk, .string xs, .slice xa xn xc])

def RExprC (m : Nat) : Prop := ∀ (b : Nat) (lv : Value) (ts r : List Tok) (l d : Nat) (w : World), r.length < m → l ≤ 3 → d ≤ 64 → RW w b lv ts r false →
  Calls Tryd.prog 63 #[.pointer (some ⟨b, 0, none⟩), .int .i64 l, .int .i64 d] w fun e w' => RExOut w b lv ts (eR l d r) e w'

/-- Its result stored, it ends. -/
theorem ES.done {w w' : World} {b : Nat} {lv : Value} {ts : List Tok} {p q : PR Ex} {xk : Int} {xs : ByteArray} {xa : Option Addr} {xn xc : Nat} (h : ES w w' b lv ts exNd p (.int .i64 xk) (.string xs) (.slice xa xn xc)) (hq : q = p) :
    RExOut w b lv ts q (.returned (.agg #[.int .i64 xk, .string xs, .slice xa xn xc])) (((w'.setCell ⟨w.heap.size, 0, none⟩ (.int .i64 xk)).setCell ⟨w.heap.size, 1, none⟩ (.string xs)).setCell ⟨w.heap.size, 2, none⟩ (.slice xa xn xc)) := by
  subst hq
  refine ⟨xk, xs, xa, xn, xc, rfl, grown_new h.g (grown_set3 w' w.heap.size _ _ _) (Nat.le_refl _), h.rp.other (grown_set3 w' w.heap.size _ _ _) h.hb, fun ex r e => ?_⟩
  exact ((h.nd ex r _ e rfl).grown (grown_set3 w' w.heap.size _ _ _) (by omega)).from (by omega)
theorem ES.fail {α : Type} {w w' : World} {b : Nat} {lv : Value} {ts r : List Tok} {f : α → Option Nd} {p : PR α} {q : PR Ex} {xk : Int} {xs : ByteArray} {xa : Option Addr} {xn xc : Nat} (h : ES w w' b lv ts f p (.int .i64 xk) (.string xs) (.slice xa xn xc)) (hp : p = .error r) (hq : q = .error r) :
    RExOut w b lv ts q (.returned (.agg #[.int .i64 xk, .string xs, .slice xa xn xc])) (((w'.setCell ⟨w.heap.size, 0, none⟩ (.int .i64 xk)).setCell ⟨w.heap.size, 1, none⟩ (.string xs)).setCell ⟨w.heap.size, 2, none⟩ (.slice xa xn xc)) := by
  subst hq hp
  exact ⟨xk, xs, xa, xn, xc, rfl, grown_new h.g (grown_set3 w' w.heap.size _ _ _) (Nat.le_refl _), RW.other (show RW w' b lv ts r true from h.rp) (grown_set3 w' w.heap.size _ _ _) h.hb, fun ex r e => by cases e⟩

/-- Two trees joined in a row that is new; a variable's block turned. -/
theorem nd_join {w2 w3 : World} {B : Nat} {n m : Nd} {x y z x2 y2 z2 : Value} (hn : NdIs (B ≤ ·) w2 n (.agg #[x, y, z])) (hm : NdIs (B ≤ ·) w2 m (.agg #[x2, y2, z2])) (hB : B ≤ w2.heap.size) (k : Int) (s : ByteArray) (hs : s = bs [])
    (hg : w2.grownBy w3 none) (hc : ∀ (j : Nat) (u : Value), [x, y, z, x2, y2, z2][j]? = some u → w3.cell? ⟨w2.heap.size, j, none⟩ = some u) (hlt : w2.heap.size < w3.heap.size) (cap : Nat) :
    NdIs (B ≤ ·) w3 (.mk k [] [n, m]) (.agg #[.int .i64 k, .string s, .slice (some ⟨w2.heap.size, 0, none⟩) 2 cap]) := by
  have hk : ∀ g, g < w2.heap.size → w3.heap[g]? = w2.heap[g]? := fun g hl => hg.block g hl (by simp)
  subst hs
  unfold NdIs
  refine ⟨_, cap, rfl, by simp, .inr ⟨w2.heap.size, 0, rfl, hB, hlt, ?_⟩⟩
  unfold NdsIs
  refine ⟨⟨_, ⟨x, y, z, rfl, hc 0 _ rfl, hc 1 _ rfl, hc 2 _ rfl⟩, NdIs.kept hg.size (fun g hl ho => ⟨hk g hl, ho⟩) n _ hn⟩, ?_⟩
  unfold NdsIs
  exact ⟨⟨_, ⟨x2, y2, z2, rfl, hc 3 _ rfl, hc 4 _ rfl, hc 5 _ rfl⟩, NdIs.kept hg.size (fun g hl ho => ⟨hk g hl, ho⟩) m _ hm⟩, trivial⟩

/-- Where the loop stands. -/
def RLoopAt (w : World) (b : Nat) (lv : Value) (ts : List Tok) (l d m : Nat) (T : PR Ex) (wx : World) : Prop :=
  ∃ (p : PR Ex) (xk : Int) (xs : ByteArray) (xa : Option Addr) (xn xc : Nat), ES w wx b lv ts exNd p (.int .i64 xk) (.string xs) (.slice xa xn xc) ∧ (∀ n r, p = .ok (n, r) → r.length < m) ∧ T = p.then fun n r => lR l d n r
/-- .. with how many tokens are left. -/
def RLoopK (w : World) (b : Nat) (lv : Value) (ts : List Tok) (l d m : Nat) (T : PR Ex) (k : Nat) (wx : World) : Prop :=
  ∃ (p : PR Ex) (xk : Int) (xs : ByteArray) (xa : Option Addr) (xn xc : Nat), ES w wx b lv ts exNd p (.int .i64 xk) (.string xs) (.slice xa xn xc) ∧ (∀ n r, p = .ok (n, r) → r.length < m ∧ r.length < k) ∧ T = p.then fun n r => lR l d n r

theorem operV_word (t : Tok) (r : List Tok) : operV (wordP (.ok ((), t :: r) : PR Unit)) = ((opOf t).1, ((opOf t).2 : Int)) := by
  have h1 := wordP_isT () t r w_and (by decide)
  have h2 := wordP_isT () t r w_or (by decide)
  have h3 := wordP_isT () t r w_not (by decide)
  have h4 := wordP_isT () t r w_xor (by decide)
  unfold operV
  simp only [h1, h2, h3, h4]
  cases e1 : isT t w_and
  · cases e2 : isT t w_or
    · cases e3 : isT t w_not
      · cases e4 : isT t w_xor
        · rw [opOf_none e1 (by unfold lowKind; rw [e2, e3, e4]; rfl)]; rfl
        · have : lowKind t = 7 := by unfold lowKind; rw [e2, e3, e4]; rfl
          rw [opOf_low e1 (by rw [this]; decide), this]; rfl
      · have : lowKind t = 6 := by unfold lowKind; rw [e2, e3]; rfl
        rw [opOf_low e1 (by rw [this]; decide), this]; rfl
    · have : lowKind t = 5 := by unfold lowKind; rw [e2]; rfl
      rw [opOf_low e1 (by rw [this]; decide), this]; rfl
  · rw [opOf_and e1]; rfl
theorem operV_nil : operV (wordP (.ok ((), []) : PR Unit)) = (0, 0) := by decide
theorem opOf_le (t : Tok) : (opOf t).2 ≤ 2 := by
  unfold opOf
  split
  · decide
  · split
    · exact (by decide : (1 : Nat) ≤ 2)
    · decide
theorem wordP_val {α β : Type} (a : α) (c : β) (r : List Tok) : wordP (.ok (a, r) : PR α) = wordP (.ok (c, r) : PR β) := by cases r <;> rfl
end Go.Proofs.YtgnjaneddidbbaaDoor

namespace Go.Proofs.YtgnjaneddidbbaaDoor
open Go Go.RowKit

/-- word, a state's own text under a name. -/
theorem word_w {α : Type} (b : Nat) (lv : Value) (ts : List Tok) (p : PR α) (x : List UInt8) (w : World) (hx : Hid (wordP p = x)) (h : RP w b lv ts p) :
    Calls Tryd.prog 59 #[.pointer (some ⟨b, 0, none⟩)] w fun e w' => e = .returned (.string (bs x)) ∧ w.grownBy w' none :=
  (word_at b lv ts p w h).mono fun e w' ⟨he, q, hw⟩ => ⟨by rw [he, hx.out], by rw [hw]; exact grown_drew w q none⟩
theorem operator_w (x : List UInt8) (k s : Int) (w : World) (hx : Hid (operV x = (k, s))) :
    Calls Tryd.prog 72 #[.string (bs x)] w fun e w' => e = .returned (.tuple #[.int .i64 k, .int .i64 s]) ∧ w = w' :=
  (operator_any x w).mono fun e w' ⟨he, hw⟩ => ⟨by rw [he, hx.out], hw⟩

set_option maxHeartbeats 1000000 in
set_option maxRecDepth 100000 in
theorem rexpr_bad (b : Nat) (lv : Value) (ts r : List Tok) (l d : Nat) (w : World) (h : RW w b lv ts r true) :
    Calls Tryd.prog 63 #[.pointer (some ⟨b, 0, none⟩), .int .i64 l, .int .i64 d] w fun e w' => RExOut w b lv ts (.error r) e w' := by
  have S0 := Lib.hid (ES.start (p := (.error r : PR Unit)) h)
  have e1 : ((bs []).toList == [101, 109, 112, 116, 121]) = false := bs_not (by decide)
  have e2 : ((bs []).toList == [98, 111, 120, 101, 115]) = false := bs_not (by decide)
  have e3 : ((bs []).toList == [40]) = false := bs_not (by decide)
  clear h
  go_enter Tryd.func63, Tryd.ntmps63
  go_wp2_with fail
  refine (word_w b lv ts (.error r : PR Unit) [] _ (Lib.hid rfl) S0.out.rp).mono ?_
  rintro e w1 ⟨rfl, hg1⟩
  have S1 := Lib.hid (S0.out.still hg1)
  clear hg1 S0
  obtain ⟨k0, k1, k2, f0, f1, f2⟩ := S1.out.blk.cells
  have S2 : Hid (ES w (w1.setCell ⟨w.heap.size + 1, 0, none⟩ (.int .i64 1)) b lv ts noNd (.error r : PR Unit) (.int .i64 1) (.string ⟨#[]⟩) (.slice none 0 0)) :=
    S1.out.turn (grown_setCell w1 ⟨w.heap.size + 1, 0, none⟩ _) (S1.out.blk.set0 _) (fun h => h) (fun _ _ _ _ e => by cases e)
  clear S1
  go_wp2_with fail
  refine (rname_at b lv ts (.error r : PR Unit) _ S2.out.rp).mono ?_
  rintro e w3 ⟨s, rfl, hg, hp, _⟩
  have S3 : Hid (ES w w3 b lv ts noNd (.error r : PR Unit) (.int .i64 1) (.string ⟨#[]⟩) (.slice none 0 0)) := S2.out.moved hg hp (fun _ _ _ _ e => by cases e)
  clear hg hp S2 k0 k1 k2 f0 f1 f2
  obtain ⟨_, j1, _, f0, f1, f2⟩ := S3.out.blk.cells
  have S4 : Hid (ES w (w3.setCell ⟨w.heap.size + 1, 1, none⟩ (.string (bs s))) b lv ts noNd (.error r : PR Unit) (.int .i64 1) (.string (bs s)) (.slice none 0 0)) :=
    S3.out.turn (grown_setCell w3 ⟨w.heap.size + 1, 1, none⟩ _) (S3.out.blk.set1 _) (fun h => h) (fun _ _ _ _ e => by cases e)
  have h4 : RW (w3.setCell ⟨w.heap.size + 1, 1, none⟩ (.string (bs s))) b lv ts r true := S4.out.rp
  obtain ⟨c0, c1, c2, _, _⟩ := h4.rs.cells
  clear S3 h4 c0 c1
  obtain ⟨k0, k1, k2, _, _, _⟩ := S4.out.blk.cells
  obtain ⟨r0, r1, r2, g0, g1, g2⟩ := S4.out.res.cells
  go_wp2_with fail
  refine wp_loop_rounds 1 ?_
  rw [rounds_succ]
  go_wp2
  exact node_ret rfl rfl rfl (S4.out.res.stored _ _ _) (S4.out.fail rfl rfl)

def lenP {α : Type} (p : PR α) : Nat := match p with | .ok (_, r) => r.length | .error _ => 0

theorem loop_cases (l d : Nat) (n : Ex) (r : List Tok) : ∃ (κ : Int) (σ : Nat), operV (wordP (.ok (n, r) : PR Ex)) = (κ, (σ : Int)) ∧ σ ≤ 2 ∧
    ((κ = 0 ∧ lR l d n r = .ok (n, r)) ∨ (κ ≠ 0 ∧ σ < l ∧ lR l d n r = .ok (n, r)) ∨
      (κ ≠ 0 ∧ l ≤ σ ∧ ∃ t r4, r = t :: r4 ∧ lR l d n r = (eR (σ + 1) d r4).then fun m r1 => lR l d (.bin κ n m) r1)) := by
  cases r with
  | nil => exact ⟨0, 0, operV_nil, by decide, .inl ⟨rfl, lR_nil l d n⟩⟩
  | cons t r =>
    refine ⟨(opOf t).1, (opOf t).2, operV_word t r, opOf_le t, ?_⟩
    rw [lR_cons]
    by_cases h1 : (opOf t).1 = 0
    · exact .inl ⟨h1, by rw [if_pos (.inl h1)]⟩
    · by_cases h2 : (opOf t).2 < l
      · exact .inr (.inl ⟨h1, h2, by rw [if_pos (.inr h2)]⟩)
      · exact .inr (.inr ⟨h1, by omega, t, r, rfl, by rw [if_neg (fun h => h.elim h1 h2)]⟩)

set_option maxHeartbeats 4000000 in
set_option maxRecDepth 100000 in
theorem rexpr_walk (m : Nat) (IH : RExprC m) (b : Nat) (lv : Value) (ts r : List Tok) (l d : Nat) (w : World) (hm : r.length < m + 1) (_hl : l ≤ 3) (hd : d ≤ 64) (h : RW w b lv ts r false) :
    Calls Tryd.prog 63 #[.pointer (some ⟨b, 0, none⟩), .int .i64 l, .int .i64 d] w fun e w' => RExOut w b lv ts (eR l d r) e w' := by
  obtain ⟨x, HX⟩ : ∃ x, Hid (wordP (.ok ((), r) : PR Unit) = x) := ⟨_, rfl⟩
  have HC := Lib.hid (one_cases d r x HX.out)
  have HT := Lib.hid (eR_eq l d r)
  have HIH := Lib.hid IH
  have HM := Lib.hid hm
  have S0 := Lib.hid (ES.start (p := (.ok ((), r) : PR Unit)) h)
  clear h IH hm
  go_enter Tryd.func63, Tryd.ntmps63
  go_upto_block 0 with (go_at_call 59; refine (word_w b lv ts (.ok ((), r) : PR Unit) x _ HX S0.out.rp).mono ?_; rintro e w1 ⟨rfl, hg1⟩)
  have S1 := Lib.hid (S0.out.still hg1)
  clear hg1 S0
  go_cut [] (fun wx => Hid (RLoopAt w b lv ts l d m (eR l d r) wx))
  case first =>
    rcases HC.out with ⟨hx, t, r', hr, hp1⟩ | ⟨hx1, hx, t, r', hr, hp1⟩ | ⟨hx1, hx2, hx, hd2, t, r', hr, hp1⟩ | ⟨hx1, hx2, hx, hd2, t, r', hr, hp1⟩ | ⟨hx1, hx2, hx, hp1⟩
    · have e1 : ((bs x).toList == [101, 109, 112, 116, 121]) = true := bs_is hx
      have HP := Lib.hid hp1
      subst hr
      obtain ⟨k, hk, c1, f1, hs⟩ := RW.step (show RW w1 b lv ts (t :: r') false from S1.out.rp)
      have S2 : Hid (ES w (w1.setCell ⟨b, 1, none⟩ (.int .i64 ((k : Int) + 1))) b lv ts noNd (.ok ((), r') : PR Unit) (.int .i64 0) (.string ⟨#[]⟩) (.slice none 0 0)) := S1.out.moved hs.out.1 hs.out.2 (fun _ _ _ _ e => by cases e)
      have S3 : Hid (ES w ((w1.setCell ⟨b, 1, none⟩ (.int .i64 ((k : Int) + 1))).setCell ⟨w.heap.size + 1, 0, none⟩ (.int .i64 2)) b lv ts exNd (.ok (.empty, r') : PR Ex) (.int .i64 2) (.string ⟨#[]⟩) (.slice none 0 0)) :=
        S2.out.turn (grown_setCell _ ⟨w.heap.size + 1, 0, none⟩ _) (S2.out.blk.set0 _) (fun h => h) (fun a r n e e2 => by cases e; cases e2; exact NdIs.leaf_at 2 [] _ rfl none 0)
      obtain ⟨k0, k1, k2, f0, _, _⟩ := S2.out.blk.cells
      clear hx hp1 S1 hs S2 HC HX
      go_wp2_with fail
      go_meet
      exact ⟨.ok (.empty, r'), 2, ⟨#[]⟩, none, 0, 0, S3.out, fun n r e => by cases e; have := HM.out; simp only [List.length_cons] at this; omega, by rw [HT.out, HP.out]⟩
    · have e1 : ((bs x).toList == [101, 109, 112, 116, 121]) = false := bs_not hx1
      have e2 : ((bs x).toList == [98, 111, 120, 101, 115]) = true := bs_is hx
      have HP := Lib.hid hp1
      subst hr
      obtain ⟨k, hk, c1, f1, hs⟩ := RW.step (show RW w1 b lv ts (t :: r') false from S1.out.rp)
      have S2 : Hid (ES w (w1.setCell ⟨b, 1, none⟩ (.int .i64 ((k : Int) + 1))) b lv ts noNd (.ok ((), r') : PR Unit) (.int .i64 0) (.string ⟨#[]⟩) (.slice none 0 0)) := S1.out.moved hs.out.1 hs.out.2 (fun _ _ _ _ e => by cases e)
      have S3 : Hid (ES w ((w1.setCell ⟨b, 1, none⟩ (.int .i64 ((k : Int) + 1))).setCell ⟨w.heap.size + 1, 0, none⟩ (.int .i64 3)) b lv ts noNd (.ok ((), r') : PR Unit) (.int .i64 3) (.string ⟨#[]⟩) (.slice none 0 0)) :=
        S2.out.turn (grown_setCell _ ⟨w.heap.size + 1, 0, none⟩ _) (S2.out.blk.set0 _) (fun h => h) (fun _ _ _ _ e => by cases e)
      obtain ⟨k0, k1, k2, f0, _, _⟩ := S2.out.blk.cells
      clear hx1 hx hp1 S1 hs S2 HC HX
      go_wp2_with fail
      refine (rname_at b lv ts (.ok ((), r') : PR Unit) _ S3.out.rp).mono ?_
      rintro e w3 ⟨s, rfl, hg, hp, hs⟩
      have S4 : Hid (ES w w3 b lv ts noNd (nameP (.ok ((), r') : PR Unit)) (.int .i64 3) (.string ⟨#[]⟩) (.slice none 0 0)) := S3.out.moved hg hp (fun _ _ _ _ e => by cases e)
      have S5 : Hid (ES w (w3.setCell ⟨w.heap.size + 1, 1, none⟩ (.string (bs s))) b lv ts exNd ((pName r').then fun s r1 => .ok (.boxes s, r1)) (.int .i64 3) (.string (bs s)) (.slice none 0 0)) := by
        show ES _ _ _ _ _ _ _ _ _ _
        refine S4.out.turn (grown_setCell w3 ⟨w.heap.size + 1, 1, none⟩ _) (S4.out.blk.set1 _) (fun h => ?_) (fun a r n e e2 => ?_)
        · refine h.iff ⟨?_, ?_⟩
          · intro a r e; unfold nameP at e; rw [PR.then_ok] at e; obtain ⟨s, r1, e1, e2⟩ := then_ok_of e; cases e2; exact ⟨_, by rw [e1]; rfl⟩
          · intro r e; unfold nameP at e; rw [PR.then_ok] at e; cases h : pName r' with
            | error r1 => rw [h] at e; cases e; rfl
            | ok p => rw [h] at e; cases e
        · obtain ⟨s', r1, e3, e4⟩ := then_ok_of e
          cases e4
          cases e2
          have := hs () s' r (by rw [nameP, PR.then_ok, e3]; rfl)
          subst this
          exact NdIs.leaf_at 3 s _ rfl none 0
      obtain ⟨k0, k1, k2, _, f1, _⟩ := S4.out.blk.cells
      clear hs hg hp S3 S4
      go_wp2_with fail
      go_meet
      refine ⟨_, 3, bs s, none, 0, 0, S5.out, fun n r e => ?_, by rw [HT.out, HP.out]⟩
      obtain ⟨s', r1, e3, e4⟩ := then_ok_of e
      cases e4
      have := pName_len e3
      have := HM.out; simp only [List.length_cons] at this; omega
    · have e1 : ((bs x).toList == [101, 109, 112, 116, 121]) = false := bs_not hx1
      have e2 : ((bs x).toList == [98, 111, 120, 101, 115]) = false := bs_not hx2
      have e3 : ((bs x).toList == [40]) = true := bs_is hx
      have hd3 : decide (64 ≤ d) = true := by simp; omega
      have hd4 : decide (64 ≤ (d : Int)) = true := by simp; omega
      have HP := Lib.hid hp1
      subst hr
      obtain ⟨c2, f1, hs⟩ := RW.fails (show RW w1 b lv ts (t :: r') false from S1.out.rp)
      have S2 : Hid (ES w (w1.setCell ⟨b, 2, none⟩ (.bool true)) b lv ts noNd (.error (t :: r') : PR Unit) (.int .i64 0) (.string ⟨#[]⟩) (.slice none 0 0)) := S1.out.moved hs.out.1 hs.out.2 (fun _ _ _ _ e => by cases e)
      obtain ⟨k0, k1, k2, _, _, _⟩ := S2.out.blk.cells
      obtain ⟨r0, r1, r2, g0, g1, g2⟩ := S2.out.res.cells
      clear hx1 hx2 hx hp1 S1 hs HC HX
      go_wp2
      exact node_ret rfl rfl rfl (S2.out.res.stored _ _ _) (S2.out.fail rfl (by rw [HT.out, HP.out]; rfl))
    · have e1 : ((bs x).toList == [101, 109, 112, 116, 121]) = false := bs_not hx1
      have e2 : ((bs x).toList == [98, 111, 120, 101, 115]) = false := bs_not hx2
      have e3 : ((bs x).toList == [40]) = true := bs_is hx
      have hd3 : decide (64 ≤ d) = false := by simp; omega
      have hd4 : decide (64 ≤ (d : Int)) = false := by simp; omega
      have HP := Lib.hid hp1
      subst hr
      obtain ⟨k, hk, c1, f1, hs⟩ := RW.step (show RW w1 b lv ts (t :: r') false from S1.out.rp)
      have S2 : Hid (ES w (w1.setCell ⟨b, 1, none⟩ (.int .i64 ((k : Int) + 1))) b lv ts noNd (.ok ((), r') : PR Unit) (.int .i64 0) (.string ⟨#[]⟩) (.slice none 0 0)) := S1.out.moved hs.out.1 hs.out.2 (fun _ _ _ _ e => by cases e)
      have HL : Hid (r'.length < m) := by have := HM.out; simp only [List.length_cons] at this; show _ < _; omega
      clear hx1 hx2 hx hp1 S1 hs HC HX
      go_wp2_with fail
      refine (HIH.out b lv ts r' 1 (d + 1) _ HL.out (by decide) (by omega) S2.out.rp).mono ?_
      rintro e w3 ⟨zk, zs, za, zn, zc, rfl, hg, hp, hnd⟩
      have S3 : Hid (ES w w3 b lv ts noNd (eR 1 (d + 1) r') (.int .i64 0) (.string ⟨#[]⟩) (.slice none 0 0)) := S2.out.moved hg hp (fun _ _ _ _ e => by cases e)
      have S4 : Hid (ES w (((w3.setCell ⟨w.heap.size + 1, 0, none⟩ (.int .i64 zk)).setCell ⟨w.heap.size + 1, 1, none⟩ (.string zs)).setCell ⟨w.heap.size + 1, 2, none⟩ (.slice za zn zc)) b lv ts exNd (eR 1 (d + 1) r') (.int .i64 zk) (.string zs) (.slice za zn zc)) :=
        S3.out.turn (grown_set3 w3 (w.heap.size + 1) _ _ _) (S3.out.blk.stored _ _ _) (fun h => h) (fun a r n e e2 => by cases e2; exact (hnd a r e).from (S2.out.size))
      obtain ⟨k0, k1, k2, g0, g1, g2⟩ := S3.out.blk.cells
      clear hg hp hnd S2 S3
      go_wp2_with fail
      refine (rtake_at b lv ts (eR 1 (d + 1) r') [41] (by decide) _ S4.out.rp).mono ?_
      rintro e w5 ⟨rfl, hg, hp⟩
      have S5 : Hid (ES w w5 b lv ts exNd (takeP [41] (eR 1 (d + 1) r')) (.int .i64 zk) (.string zs) (.slice za zn zc)) := S4.out.moved hg hp (fun a r n e e2 => by
        obtain ⟨a', r', e3, e4⟩ := then_ok_of e
        obtain ⟨_, r'', e5, e6⟩ := then_ok_of e4
        cases e6
        exact ⟨_, _, e3, e2⟩)
      clear hg hp S4 k0 k1 k2 g0 g1 g2
      go_wp2_with fail
      go_meet
      refine ⟨_, zk, zs, za, zn, zc, S5.out, fun n r e => ?_, by rw [HT.out, HP.out]; rfl⟩
      obtain ⟨a', r', e3, e4⟩ := then_ok_of e
      obtain ⟨_, r'', e5, e6⟩ := then_ok_of e4
      cases e6
      have := eR_len e3
      have := pMust_len e5
      have := HL.out
      omega
    · have e1 : ((bs x).toList == [101, 109, 112, 116, 121]) = false := bs_not hx1
      have e2 : ((bs x).toList == [98, 111, 120, 101, 115]) = false := bs_not hx2
      have e3 : ((bs x).toList == [40]) = false := bs_not hx
      have HP := Lib.hid hp1
      have S3 : Hid (ES w (w1.setCell ⟨w.heap.size + 1, 0, none⟩ (.int .i64 1)) b lv ts noNd (.ok ((), r) : PR Unit) (.int .i64 1) (.string ⟨#[]⟩) (.slice none 0 0)) :=
        S1.out.turn (grown_setCell _ ⟨w.heap.size + 1, 0, none⟩ _) (S1.out.blk.set0 _) (fun h => h) (fun _ _ _ _ e => by cases e)
      obtain ⟨k0, k1, k2, f0, _, _⟩ := S1.out.blk.cells
      clear hx1 hx2 hx hp1 S1 HC HX
      go_wp2_with fail
      refine (rname_at b lv ts (.ok ((), r) : PR Unit) _ S3.out.rp).mono ?_
      rintro e w3 ⟨s, rfl, hg, hp, hs⟩
      have S4 : Hid (ES w w3 b lv ts noNd (nameP (.ok ((), r) : PR Unit)) (.int .i64 1) (.string ⟨#[]⟩) (.slice none 0 0)) := S3.out.moved hg hp (fun _ _ _ _ e => by cases e)
      have S5 : Hid (ES w (w3.setCell ⟨w.heap.size + 1, 1, none⟩ (.string (bs s))) b lv ts exNd ((pName r).then fun s r1 => .ok (.name s, r1)) (.int .i64 1) (.string (bs s)) (.slice none 0 0)) := by
        show ES _ _ _ _ _ _ _ _ _ _
        refine S4.out.turn (grown_setCell w3 ⟨w.heap.size + 1, 1, none⟩ _) (S4.out.blk.set1 _) (fun h => ?_) (fun a r n e e2 => ?_)
        · refine h.iff ⟨?_, ?_⟩
          · intro a r1 e; unfold nameP at e; rw [PR.then_ok] at e; obtain ⟨s, r1, e1, e2⟩ := then_ok_of e; cases e2; exact ⟨_, by rw [e1]; rfl⟩
          · intro r1 e; unfold nameP at e; rw [PR.then_ok] at e; cases h : pName r with
            | error r1 => rw [h] at e; cases e; rfl
            | ok p => rw [h] at e; cases e
        · obtain ⟨s', r1, e3, e4⟩ := then_ok_of e
          cases e4
          cases e2
          have := hs () s' _ (by rw [nameP, PR.then_ok, e3]; rfl)
          subst this
          exact NdIs.leaf_at 1 s _ rfl none 0
      obtain ⟨k0, k1, k2, _, f1, _⟩ := S4.out.blk.cells
      clear hs hg hp S3 S4
      go_wp2_with fail
      go_meet
      refine ⟨_, 1, bs s, none, 0, 0, S5.out, fun n r1 e => ?_, by rw [HT.out, HP.out]⟩
      obtain ⟨s', r1, e3, e4⟩ := then_ok_of e
      cases e4
      have := pName_len e3
      have := HM.out; omega
  case rest =>
    obtain ⟨p0, xk, xs, xa, xn, xc, hES, hlen, hT⟩ := hcut.out
    have HB : Hid (RLoopK w b lv ts l d m (eR l d r) (lenP p0 + 1) wc) := ⟨p0, xk, xs, xa, xn, xc, hES, fun n r e => ⟨hlen n r e, by rw [e]; exact Nat.lt_succ_self _⟩, hT⟩
    clear hES hlen hT hcut S1 HX HC HT HM
    go_wp2_with fail
    go_loopg [8] (lenP p0 + 1) (fun k u wr => Hid (RLoopK w b lv ts l d m (eR l d r) k wr))
    case atStart => exact HB
    case round =>
      obtain ⟨p, yk, ys, ya, yn, yc, hES, hlen, hT⟩ := hrel.out
      have HT := Lib.hid hT
      have S2 := Lib.hid hES
      have HL := Lib.hid hlen
      clear hrel hT hES hlen HB
      cases p with
      | error r3 =>
        obtain ⟨c0, c1, c2, _, _⟩ := RS.cells (show RS wr b lv _ true from (show RW wr b lv ts r3 true from S2.out.rp).rs)
        obtain ⟨k0, k1, k2, _, _, _⟩ := S2.out.blk.cells
        obtain ⟨r0, r1, r2, g0, g1, g2⟩ := S2.out.res.cells
        clear c0 c1
        go_wp2
        exact node_ret rfl rfl rfl (S2.out.res.stored _ _ _) (S2.out.fail rfl HT.out)
      | ok pr =>
        obtain ⟨n, r3⟩ := pr
        obtain ⟨c0, c1, c2, _, _⟩ := RS.cells (show RS wr b lv _ false from (show RW wr b lv ts r3 false from S2.out.rp).rs)
        obtain ⟨κ, σ, hop, hσ, hcs⟩ := loop_cases l d n r3
        obtain ⟨y, HY⟩ : ∃ y, Hid (wordP (.ok (n, r3) : PR Ex) = y) := ⟨_, rfl⟩
        have HO : Hid (operV y = (κ, (σ : Int))) := by show _ = _; rw [← HY.out]; exact hop
        have HCS := Lib.hid hcs
        clear c0 c1 hop hcs
        rcases HCS.out with ⟨h0, hl3⟩ | ⟨h0, hl2, hl3⟩ | ⟨h0, hl2, t, r4, hr, hl3⟩
        · have e1 : (κ == 0) = true := by simp [h0]
          have HE := Lib.hid hl3
          clear hl3 h0 HCS
          go_wp2_with fail
          refine (word_w b lv ts (.ok (n, r3) : PR Ex) y _ HY S2.out.rp).mono ?_
          rintro e w3 ⟨rfl, hg1⟩
          have S3 := Lib.hid (S2.out.still hg1)
          clear hg1 S2 c2
          go_wp2_with fail
          refine (operator_w y κ σ _ HO).mono ?_
          rintro e w4 ⟨rfl, rfl⟩
          obtain ⟨k0, k1, k2, _, _, _⟩ := S3.out.blk.cells
          obtain ⟨r0, r1, r2, g0, g1, g2⟩ := S3.out.res.cells
          go_wp2
          exact node_ret rfl rfl rfl (S3.out.res.stored _ _ _) (S3.out.done (by rw [HT.out, PR.then_ok, HE.out]))
        · have e1 : (κ == 0) = false := by simp [h0]
          have e2 : decide (σ < l) = true := by simp; omega
          have e3 : decide ((σ : Int) < (l : Int)) = true := by simp; omega
          have HE := Lib.hid hl3
          clear hl3 h0 HCS hl2
          go_wp2_with fail
          refine (word_w b lv ts (.ok (n, r3) : PR Ex) y _ HY S2.out.rp).mono ?_
          rintro e w3 ⟨rfl, hg1⟩
          have S3 := Lib.hid (S2.out.still hg1)
          clear hg1 S2 c2
          go_wp2_with fail
          refine (operator_w y κ σ _ HO).mono ?_
          rintro e w4 ⟨rfl, rfl⟩
          obtain ⟨k0, k1, k2, _, _, _⟩ := S3.out.blk.cells
          obtain ⟨r0, r1, r2, g0, g1, g2⟩ := S3.out.res.cells
          go_wp2
          exact node_ret rfl rfl rfl (S3.out.res.stored _ _ _) (S3.out.done (by rw [HT.out, PR.then_ok, HE.out]))
        · have e1 : (κ == 0) = false := by simp [h0]
          have e2 : decide (σ < l) = false := by simp; omega
          have e3 : decide ((σ : Int) < (l : Int)) = false := by simp; omega
          subst hr
          have HE : Hid (eR l d r = (eR (σ + 1) d r4).then fun m r1 => lR l d (.bin κ n m) r1) := by show _ = _; rw [HT.out, PR.then_ok, hl3]
          have HL2 := Lib.hid (HL.out n (t :: r4) rfl)
          clear hl3 h0 HCS hl2 HT HL
          go_wp2_with fail
          refine (word_w b lv ts (.ok (n, t :: r4) : PR Ex) y _ HY S2.out.rp).mono ?_
          rintro e w3 ⟨rfl, hg1⟩
          have S3 := Lib.hid (S2.out.still hg1)
          clear hg1 S2 c2
          go_wp2_with fail
          refine (operator_w y κ σ _ HO).mono ?_
          rintro e w4 ⟨rfl, rfl⟩
          obtain ⟨k, hk, c1, f1, hs⟩ := RW.step (show RW w3 b lv ts (t :: r4) false from S3.out.rp)
          have S4 : Hid (ES w (w3.setCell ⟨b, 1, none⟩ (.int .i64 ((k : Int) + 1))) b lv ts exNd (.ok (n, r4) : PR Ex) (.int .i64 yk) (.string ys) (.slice ya yn yc)) := S3.out.moved hs.out.1 hs.out.2 (fun a r n e e2 => by cases e; exact ⟨_, _, rfl, e2⟩)
          clear hs S3
          go_wp2_with fail
          clear c1 f1
          generalize w3.setCell ⟨b, 1, none⟩ (.int .i64 ((k : Int) + 1)) = w5 at *
          have HOC : Hid (∀ w1, w5.grownBy w1 none → Calls Tryd.prog 63 #[.pointer (some ⟨b, 0, none⟩), .int .i64 ((σ : Int) + 1), .int .i64 d] w1 fun e w' => ∃ (zk : Int) (zs : ByteArray) (za : Option Addr) (zn zc : Nat), e = .returned (.agg #[.int .i64 zk, .string zs, .slice za zn zc]) ∧
              Hid (ES w w' b lv ts noNd (eR (σ + 1) d r4) (.int .i64 yk) (.string ys) (.slice ya yn yc) ∧ NdIs (w.heap.size + 2 ≤ ·) w' n.nd (.agg #[.int .i64 yk, .string ys, .slice ya yn yc]) ∧ (∀ ex r, eR (σ + 1) d r4 = .ok (ex, r) → NdIs (w.heap.size + 2 ≤ ·) w' ex.nd (.agg #[.int .i64 zk, .string zs, .slice za zn zc]))) ∧
              (w'.cell? ⟨w.heap.size + 1, 0, none⟩ = some (.int .i64 yk) ∧ w'.cell? ⟨w.heap.size + 1, 1, none⟩ = some (.string ys) ∧ w'.cell? ⟨w.heap.size + 1, 2, none⟩ = some (.slice ya yn yc)) ∧ ∀ o : Obj, (w'.alloc o).cell? ⟨w.heap.size + 1, 0, none⟩ = some (.int .i64 yk) ∧ (w'.alloc o).cell? ⟨w.heap.size + 1, 1, none⟩ = some (.string ys) ∧ (w'.alloc o).cell? ⟨w.heap.size + 1, 2, none⟩ = some (.slice ya yn yc) ∧ (w'.alloc o).frozen? ⟨w.heap.size + 1, 0, none⟩ = false ∧ (w'.alloc o).frozen? ⟨w.heap.size + 1, 1, none⟩ = false ∧ (w'.alloc o).frozen? ⟨w.heap.size + 1, 2, none⟩ = false) := by
            show ∀ _, _
            intro w1 hg
            have S5 := S4.out.still hg
            refine (HIH.out b lv ts r4 (σ + 1) d w1 (by have := HL2.out; simp only [List.length_cons] at this; omega) (by omega) hd S5.rp).mono fun e w' ho => ?_
            obtain ⟨zk, zs, za, zn, zc, rfl, hg2, hp, hnd⟩ := ho
            have S6 : ES w w' b lv ts noNd (eR (σ + 1) d r4) (.int .i64 yk) (.string ys) (.slice ya yn yc) := S5.moved hg2 hp (fun _ _ _ _ e => by cases e)
            have hc := S6.blk.cells
            have hbw := S5.hb
            exact ⟨zk, zs, za, zn, zc, rfl, ⟨S6, (S5.nd n r4 _ rfl rfl).grown hg2 (by omega), fun ex r e => (hnd ex r e).from S5.size⟩, ⟨hc.1, hc.2.1, hc.2.2.1⟩, fun o => (S6.still (grown_alloc w' o none)).blk.cells⟩
          have HS : Hid (w5.grownBy w5.drew none) := grown_drew w5 1 none
          obtain ⟨l0, l1, l2, f0, f01, f02⟩ := S4.out.blk.cells
          have hwrap : IntKind.i64.wrap ((σ : Int) + 1) = (σ : Int) + 1 := IntWalk.i64_in _ (by omega)
          clear S4
          go_region_with (go_at_call 63; refine (HOC.out _ HS.out).mono ?_; rintro e w6 ⟨zk, zs, za, zn, zc, rfl, hq, ⟨q0, q1, q2⟩, hqa⟩)
          all_goals
            have HR : Hid (RLoopK w b lv ts l d m (eR l d r) (lenP (eR (σ + 1) d r4) + 1) ((((w6.alloc (.cells #[.int .i64 yk, .string ys, .slice ya yn yc, .int .i64 zk, .string zs, .slice za zn zc] 71)).setCell ⟨w.heap.size + 1, 0, none⟩ (.int .i64 κ)).setCell ⟨w.heap.size + 1, 1, none⟩ (.string ⟨#[]⟩)).setCell ⟨w.heap.size + 1, 2, none⟩ (.slice (some ⟨w6.heap.size, 0, none⟩) 2 2))) := by
              refine ⟨(eR (σ + 1) d r4).then fun m r1 => .ok (.bin κ n m, r1), κ, ⟨#[]⟩, some ⟨w6.heap.size, 0, none⟩, 2, 2, ?_, ?_, ?_⟩
              · have S7 := hq.out.1.still (grown_alloc w6 (.cells #[.int .i64 yk, .string ys, .slice ya yn yc, .int .i64 zk, .string zs, .slice za zn zc] 71) none)
                refine S7.turn (grown_set3 _ (w.heap.size + 1) _ _ _) (S7.blk.stored _ _ _) (fun h => ?_) (fun a r n' e e2 => ?_)
                · exact h.val (fun m _ => Ex.bin κ n m)
                · obtain ⟨mx, r1, e3, e4⟩ := then_ok_of e
                  cases e4
                  cases e2
                  exact nd_join hq.out.2.1 (hq.out.2.2 mx _ e3) hq.out.1.size κ ⟨#[]⟩ rfl (grown_alloc _ _ _) (cell_six w6 _ _ _ _ _ _ _) (by simp) 2
              · intro n' r' e
                obtain ⟨mx, r1, e3, e4⟩ := then_ok_of e
                cases e4
                have := eR_len e3
                have := HL2.out
                simp only [List.length_cons] at this
                exact ⟨by omega, by rw [e3]; exact Nat.lt_succ_self _⟩
              · rw [HE.out, PR.then_then]; rfl
            have HK : Hid (lenP (eR (σ + 1) d r4) + 1 < gk) := by
              have := HL2.out.2
              simp only [List.length_cons] at this
              show _ < _
              cases he : eR (σ + 1) d r4 with
              | error r1 => simp only [lenP]; omega
              | ok p => obtain ⟨a, r1⟩ := p; have := eR_len he; simp only [lenP]; omega
            clear hq q0 q1 q2 hqa l0 l1 l2 f0 f01 f02 HOC HS
            go_wp2
            go_roundg (lenP (eR (σ + 1) d r4) + 1)
            case measure => exact HK.out
            case rel => exact HR

theorem rexprC : ∀ m, RExprC m
  | 0 => fun _ _ _ _ _ _ _ h => absurd h (Nat.not_lt_zero _)
  | m + 1 => fun b lv ts r l d w h hl hd hw => rexpr_walk m (rexprC m) b lv ts r l d w h hl hd hw

/-- The reader's expr, whatever the state. -/
theorem rexpr_at {α : Type} (b : Nat) (lv : Value) (ts : List Tok) (d : Nat) (p : PR α) (w : World) (hd : d ≤ 64) (h : RP w b lv ts p) :
    Calls Tryd.prog 63 #[.pointer (some ⟨b, 0, none⟩), .int .i64 1, .int .i64 d] w fun e w' => RExOut w b lv ts (p.then fun _ r => pEx d r) e w' := by
  cases p with
  | error r => exact rexpr_bad b lv ts r 1 d w h
  | ok p => obtain ⟨a, r⟩ := p; exact rexprC (r.length + 1) b lv ts r 1 d w (Nat.lt_succ_self _) (by decide) hd h
end Go.Proofs.YtgnjaneddidbbaaDoor
