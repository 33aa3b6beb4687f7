/-
  The reference's names of an expression and of a statement, each with the type as which it is used: two rows.
  bind.Type, the reference's Type: where a name is given first, and what its statement gives.
-/
import Derived.Test.YtdjklnlkocconaaGreatDoorBnQZ
import Derived.Test.YtdjklnlkocconaaGreatDoorSmAZ
import Derived.Test.YtdjklnlkocconaaGreatDoorPaFZ
import Derived.Maps.AppendAt
namespace Go.Proofs.YtdjklnlkocconaaGreatDoor
open Go Go.RowKit

def strU (us : List Use) : List Value := us.map fun u => .string (bs u.1)
def intU (us : List Use) : List Value := us.map fun u => .int .i64 u.2
theorem strU_app (us vs : List Use) : strU (us ++ vs) = strU us ++ strU vs := by simp [strU]
theorem intU_app (us vs : List Use) : intU (us ++ vs) = intU us ++ intU vs := by simp [intU]
theorem info9 : (Tryz.prog.info? 9).map (fun i => (i.zero, i.size, i.bytes)) = some (some (.string ⟨#[]⟩), 1, 16) := by kernel_rfl
theorem info3 : (Tryz.prog.info? 3).map (fun i => (i.zero, i.size, i.bytes)) = some (some (.int .i64 0), 1, 8) := by kernel_rfl

/-- A row that a literal has laid. -/
theorem owns_lit {w : World} {b B : Nat} {t : TypeId} {xs : List Value} (hb : w.heap[b]? = some (.cells xs.toArray t (0, 0))) (hB : B ≤ b) (hn : xs.length ≤ maxLen) : w.ownsRow B t 1 (.slice (some ⟨b, 0, none⟩) xs.length xs.length) xs.length xs :=
  ⟨by simp, .inr ⟨b, xs.length, xs.toArray, rfl, hB, hb, Nat.le_refl _, hn, by simp, by simp⟩⟩

/-- Two rows: names and types. -/
structure NS (w w' : World) (us : List Use) (va vb : Value) : Prop where
  below : Below w.heap.size w w'
  ra : w'.ownsRow w.heap.size 9 1 va us.length (strU us)
  rb : w'.ownsRow w.heap.size 3 1 vb us.length (intU us)
  dj : ∀ g, va.ownBlock = some g → vb.ownBlock ≠ some g

theorem NS.still {w w' w'' : World} {us : List Use} {va vb : Value} (h : NS w w' us va vb) (hg : w'.grownBy w'' none) : NS w w'' us va vb := by
  refine ⟨h.below.grown hg h.below.size (fun _ e => by cases e), h.ra.kept hg ?_, h.rb.kept hg ?_, h.dj⟩
  · cases va.ownBlock with
    | none => exact .inl rfl
    | some k => exact .inr (by simp)
  · cases vb.ownBlock with
    | none => exact .inl rfl
    | some k => exact .inr (by simp)

/-- A row stays while another one is appended to. -/
theorem owns_other {w w' : World} {B : Nat} {e : TypeId} {size : Nat} {v : Value} {n : Nat} {xs : List Value} {row : Option Nat} (h : w.ownsRow B e size v n xs) (hg : w.grownBy w' row) (hn : ∀ g, row = some g → v.ownBlock ≠ some g) : w'.ownsRow B e size v n xs := by
  refine h.kept hg ?_
  cases hv : v.ownBlock with
  | none => exact .inl rfl
  | some k =>
    refine .inr ?_
    intro e
    exact hn k e.symm hv

/-- The first append of two: the names. -/
theorem NS.names {w w' w1 w2 : World} {us vs : List Use} {va vb vm vn va' : Value} (h : NS w w1 us va vb) (k : NS w1 w' vs vm vn) (hg : w'.grownBy w2 va.ownBlock)
    (hat : va'.ownBlock = va.ownBlock ∨ va'.ownBlock = some w'.heap.size) :
    Below w.heap.size w w2 ∧ w2.ownsRow w.heap.size 3 1 vb us.length (intU us) ∧ w2.ownsRow w1.heap.size 3 1 vn vs.length (intU vs) ∧ (∀ g, va'.ownBlock = some g → vb.ownBlock ≠ some g) ∧ (∀ g, va'.ownBlock = some g → vn.ownBlock ≠ some g) ∧ (∀ g, vb.ownBlock = some g → g < w1.heap.size) ∧ (∀ g, va'.ownBlock = some g → g < w1.heap.size ∨ g = w'.heap.size) := by
  have hlt : ∀ g, va.ownBlock = some g → w.heap.size ≤ g ∧ g < w1.heap.size := fun g e => h.ra.lt g e
  have hltb : ∀ g, vb.ownBlock = some g → w.heap.size ≤ g ∧ g < w1.heap.size := fun g e => h.rb.lt g e
  have hltn : ∀ g, vn.ownBlock = some g → w1.heap.size ≤ g ∧ g < w'.heap.size := fun g e => k.rb.lt g e
  have hs := h.below.size
  have hs2 := k.below.size
  have hB : Below w.heap.size w w' := h.below.trans (k.below.mono hs)
  have hb1 : w'.ownsRow w.heap.size 3 1 vb us.length (intU us) := owns_below h.rb k.below
  refine ⟨hB.grown hg hB.size (fun g e => (hlt g e).1), owns_other hb1 hg (fun g e => h.dj g e), owns_other k.rb hg (fun g e e2 => by have := hlt g e; have := hltn g e2; omega), ?_, ?_, fun g e => (hltb g e).2, ?_⟩
  · intro g e e2
    rcases hat with h1 | h1
    · exact h.dj g (h1.symm.trans e) e2
    · have := Option.some.inj (h1.symm.trans e)
      have := hltb g e2
      omega
  · intro g e e2
    have hn := hltn g e2
    rcases hat with h1 | h1
    · have := hlt g (h1.symm.trans e)
      omega
    · have := Option.some.inj (h1.symm.trans e)
      omega
  · intro g e
    rcases hat with h1 | h1
    · exact .inl (hlt g (h1.symm.trans e)).2
    · exact .inr (Option.some.inj (h1.symm.trans e)).symm

/-- Both appends. -/
theorem NS.both {w w2 w3 : World} {us vs : List Use} {va' vb vb' : Value} (hb : Below w.heap.size w w2) (hra : w2.ownsRow w.heap.size 9 1 va' (us.length + vs.length) (strU us ++ strU vs)) (hdj : ∀ g, va'.ownBlock = some g → vb.ownBlock ≠ some g)
    (hbl : ∀ g, vb.ownBlock = some g → w.heap.size ≤ g) (hrow : w3.ownsRow w.heap.size 3 1 vb' (us.length + vs.length) (intU us ++ intU vs)) (hg : w2.grownBy w3 vb.ownBlock) (hat : vb'.ownBlock = vb.ownBlock ∨ vb'.ownBlock = some w2.heap.size) : NS w w3 (us ++ vs) va' vb' := by
  have hlt : ∀ g, va'.ownBlock = some g → w.heap.size ≤ g ∧ g < w2.heap.size := fun g e => hra.lt g e
  refine ⟨hb.grown hg hb.size hbl, ?_, ?_, ?_⟩
  · rw [strU_app, List.length_append]
    exact owns_other hra hg (fun g e e2 => hdj g e2 e)
  · rw [intU_app, List.length_append]
    exact hrow
  · intro g e e2
    rcases hat with h1 | h1
    · exact hdj g e (h1.symm.trans e2)
    · have := Option.some.inj (h1.symm.trans e2)
      have := hlt g e
      omega

/-- What names does at a tree. -/
def NamesC (n : Nd) : Prop := ∀ (v : Value) (w : World), NdIs Any w n v → (usesN n).length ≤ 4000000 →
  Calls Tryz.prog 43 #[v] w fun e w' => ∃ va vb, e = .returned (.tuple #[va, vb]) ∧ NS w w' (usesN n) va vb

def NmAt (w1 : World) (O : List Use) (l : List Nd) (n k : Nat) (u va vb : Value) (wr : World) : Prop := ∃ i : Nat, u = .int .i64 i ∧ i ≤ n ∧ n < k + i ∧ NS w1 wr (O ++ usesNs (l.take i)) va vb

theorem NS.lit {w w' : World} {s : List UInt8} {t : Int} {b c : Nat} (hb : Below w.heap.size w w') (h1 : Blk1 w' b (.string (bs s)) 9) (h2 : Blk1 w' c (.int .i64 t) 3) (hb1 : w.heap.size ≤ b) (hc1 : w.heap.size ≤ c) (hbc : b ≠ c) :
    NS w w' [(s, t)] (.slice (some ⟨b, 0, none⟩) 1 1) (.slice (some ⟨c, 0, none⟩) 1 1) :=
  ⟨hb, owns_lit (xs := [.string (bs s)]) h1 hb1 (by show (1 : Nat) ≤ maxLen; decide), owns_lit (xs := [.int .i64 t]) h2 hc1 (by show (1 : Nat) ≤ maxLen; decide), fun g e e2 => hbc ((Option.some.inj (show some b = some g from e)).trans (Option.some.inj (show some c = some g from e2)).symm)⟩

theorem NS.start {w : World} : NS w w [] (.slice none 0 0) (.slice none 0 0) := ⟨Below.refl _ _, World.ownsRow_nil _ _ _ _, World.ownsRow_nil _ _ _ _, fun g e => by cases e⟩

end Go.Proofs.YtdjklnlkocconaaGreatDoor

namespace Go.Proofs.YtdjklnlkocconaaGreatDoor
open Go Go.RowKit

theorem bytes_eq {s t : List UInt8} {b : Bool} (h : (s == t) = b) : ((bs s).toList == (bs t).toList) = b := by rw [bs_toList, bs_toList]; exact h
def PlAt (w : World) (l : List St) (s : List UInt8) (R : Int) (n k : Nat) (u : Value) (wr : World) : Prop := ∃ i : Nat, u = .int .i64 i ∧ i ≤ n ∧ n < k + i ∧ w.grownBy wr none ∧ placeF (l.drop i) s i = R

theorem drop_at {α : Type} {l : List α} {i : Nat} {x : α} (h : l[i]? = some x) : l.drop i = x :: l.drop (i + 1) := by
  obtain ⟨hi, e⟩ := List.getElem?_eq_some_iff.1 h
  rw [List.drop_eq_getElem_cons hi, e]

set_option maxHeartbeats 1000000 in
set_option maxRecDepth 100000 in
theorem named_n (kind : Int) (name : List UInt8) (rule N d K : Int) (snap : Bool) (A B : NV) (g : Nat) (s : List UInt8) (b : Bool) (w : World) (hg : g < w.heap.size) (hc : w.cell? ⟨g, 0, none⟩ = some (.string (bs s))) (hb : Hid ((name == s) = b)) :
    Calls Tryz.prog 28 #[.agg #[.int .i64 kind, .string (bs name), .int .i64 A.k, .string A.s, .slice A.a A.n A.c, .int .i64 B.k, .string B.s, .slice B.a B.n B.c, .int .i64 rule, .int .i64 N, .int .i64 d, .int .i64 K, .bool snap], .pointer (some ⟨g, 0, none⟩)] w fun e w' => e = .returned (.bool b) ∧ w.grownBy w' none := by
  have q0 : ∀ o, (w.alloc o).cell? ⟨g, 0, none⟩ = some (.string (bs s)) := fun o => (Below.cell (p := ⟨g, 0, none⟩) ((Below.refl w.heap.size w).alloc (Nat.le_refl _) o) hg).trans hc
  have he := bytes_eq hb.out
  clear hc hb hg
  go_enter Tryz.func28, Tryz.ntmps28
  go_wp2
  go_ret
  exact ⟨rfl, grown_alloc _ _ _⟩

set_option maxHeartbeats 4000000 in
set_option maxRecDepth 100000 in
theorem index_n (l : List St) (v : Value) (g : Nat) (s : List UInt8) (w : World) (h : StsIs w v l) (hg : g < w.heap.size) (hc : w.cell? ⟨g, 0, none⟩ = some (.string (bs s))) :
    Calls Tryz.prog 27 #[v, .func (.func 28) #[] #[.pointer (some ⟨g, 0, none⟩)]] w fun e w' => e = .returned (.int .i64 (placeS l s)) ∧ w.grownBy w' none := by
  have H := Lib.hid h
  have HGL := Lib.hid hg
  have HC := Lib.hid hc
  obtain ⟨hn, a, c, rfl, _⟩ := h
  obtain ⟨n, hln⟩ : ∃ n, l.length = n := ⟨_, rfl⟩
  rw [hln] at hn H ⊢
  have HLN := Lib.hid hln
  obtain ⟨R, hR⟩ : ∃ R, placeS l s = R := ⟨_, rfl⟩
  rw [hR]
  have HA0 : Hid (PlAt w l s R n (n + 1) (.int .i64 0) w) := ⟨0, rfl, Nat.zero_le _, by omega, grown_refl _ _, hR⟩
  clear hln hR hg hc
  go_enter Tryz.func27, Tryz.ntmps27
  go_wp2_with fail
  go_loopg [8] (n + 1) (fun k u wr => Hid (PlAt w l s R n k u wr))
  case atStart => exact HA0
  case round =>
    obtain ⟨i, rfl, hi, hk, hgr, hr⟩ := hrel.out
    have HG := Lib.hid hgr
    have HR := Lib.hid hr
    clear hrel hgr hr HA0
    by_cases hlt : i < n
    · obtain ⟨x, hx⟩ : ∃ x, l[i]? = some x := ⟨l[i]'(by rw [HLN.out]; exact hlt), List.getElem?_eq_getElem _⟩
      have HD := Lib.hid (drop_at hx)
      obtain ⟨g1, o1, cap1, e1, hl1, A, B, q1, na, nb⟩ := (H.out.still HG.out).get hx
      injection e1 with e1a e1b e1c
      subst e1a e1c
      clear e1b
      obtain ⟨kind, name, xa, xb, rule, N, d, K, snap⟩ := x
      have x0 := q1 0 (by decide)
      have x1 := q1 1 (by decide)
      have x2 := q1 2 (by decide)
      have x3 := q1 3 (by decide)
      have x4 := q1 4 (by decide)
      have x5 := q1 5 (by decide)
      have x6 := q1 6 (by decide)
      have x7 := q1 7 (by decide)
      have x8 := q1 8 (by decide)
      have x9 := q1 9 (by decide)
      have x10 := q1 10 (by decide)
      have x11 := q1 11 (by decide)
      have x12 := q1 12 (by decide)
      simp only [stCells, List.getElem?_cons_succ, List.getElem?_cons_zero, Nat.add_zero] at x0 x1 x2 x3 x4 x5 x6 x7 x8 x9 x10 x11 x12
      obtain ⟨b, hb⟩ : ∃ b, (name == s) = b := ⟨_, rfl⟩
      have HB := Lib.hid hb
      have hd2 : decide (i < n) = true := by simp; omega
      have hd3 : decide ((i : Int) < (n : Int)) = true := by simp; omega
      clear q1 hx hb na nb
      go_wp2_with fail
      refine (named_n kind name rule N d K snap A B g s b wr (Nat.lt_of_lt_of_le HGL.out HG.out.size) ((Go.World.cell?_of_block (a := ⟨g, 0, none⟩) (HG.out.block g HGL.out (by simp))).trans HC.out) HB).mono ?_
      rintro e w3 ⟨rfl, hg3⟩
      have HG3 : Hid (w.grownBy w3 none) := grown_trans HG.out hg3
      clear hg3 HG x0 x1 x2 x3 x4 x5 x6 x7 x8 x9 x10 x11 x12
      cases b with
      | true =>
        obtain rfl : R = (i : Int) := by
          have h := HR.out
          rw [HD.out, placeF, if_pos (by simpa using HB.out)] at h
          exact h.symm
        clear HR
        go_wp2
        go_ret
        exact ⟨rfl, HG3.out⟩
      | false =>
        have HR3 : Hid (placeF (l.drop (i + 1)) s (i + 1) = R) := by
          have h := HR.out
          rw [HD.out, placeF, if_neg (by simpa using HB.out)] at h
          exact h
        clear HR
        go_wp2
        go_roundg (gk - 1)
        case measure => omega
        case rel => exact ⟨i + 1, by go_num, by omega, by omega, HG3.out, HR3.out⟩
    · have hin : i = n := by omega
      subst hin
      obtain rfl : R = -1 := by
        have h := HR.out
        rw [List.drop_eq_nil_of_le (by rw [HLN.out]; omega), placeF] at h
        exact h.symm
      have hd2 : decide (i < i) = false := by simp
      have hd3 : decide ((i : Int) < (i : Int)) = false := by simp
      clear HR
      go_wp2
      go_ret
      exact ⟨rfl, HG.out⟩

end Go.Proofs.YtdjklnlkocconaaGreatDoor
