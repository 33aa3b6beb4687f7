/-
  The parser's must, open, shut: the walks.
  The parser's open, shut, kindOf: the walks. The grammar's equations.
  Blocks of three cells; a node that is read out of one: the small laws of the parser's expressions.
  The parser's one, whatever the tokens, out of expr at fewer tokens: the walk.
-/
import Derived.Test.YtdjklnlkocconaaGreatDoorPaAZ
import Derived.Test.YtdjklnlkocconaaGreatDoorPlainZ
import Derived.LoopN
namespace Go.Proofs.YtdjklnlkocconaaGreatDoor
open Go Go.RowKit

theorem seesR_one (t : Tok) (r : List Tok) (s : List UInt8) : seesR (t :: r) [s] = isT t s := by
  simp only [seesR, isT, List.contains_cons, List.contains_nil, Bool.or_false]

theorem sees_is (b : Nat) (lv : Value) (ts r : List Tok) (fin deep : Int) (tv : Value) (xs : List (List UInt8)) (β : Bool) (w : World) (hβ : Hid (seesR r xs = β)) (h : PW w b lv ts r fin deep) (hx : TxtRow w tv xs) :
    Calls Tryz.prog 54 #[.pointer (some ⟨b, 0, none⟩), tv] w fun e w' => e = .returned (.bool β) ∧ ∃ q, w' = w.drewN q := by
  rw [← hβ.out]
  exact sees_at b lv ts r fin deep tv xs w h hx

theorem txtRow_new (w : World) (l : List (List UInt8)) (T : TypeId) (cap : Nat) (hl : l.length ≤ 9223372036854775807) : TxtRow (w.alloc (.cells (l.map fun s => Value.string (bs s)).toArray T)) (.slice (some ⟨w.heap.size, 0, none⟩) l.length cap) l := by
  refine ⟨_, cap, rfl, hl, fun j hj => ?_⟩
  unfold World.cell?
  rw [(MapKept.heap_alloc w _).1]
  simp [hj]

theorem tok_le {w : World} {b : Nat} {lv : Value} {ts r : List Tok} {fin deep : Int} (h : PW w b lv ts r fin deep) : ts.length - r.length ≤ ts.length ∧ ts.length ≤ 9223372036854775807 := ⟨by omega, h.row.1⟩

set_option maxHeartbeats 1000000 in
set_option maxRecDepth 100000 in
theorem must_no (b tb cap : Nat) (lv : Value) (ts r : List Tok) (fin deep : Int) (s : ByteArray) (S : List UInt8) (w : World) (h : PW w b lv ts r fin deep) (hS : Hid (s = bs S)) (hc : w.cell? ⟨tb, 0, none⟩ = some (.string s)) (hβ : Hid (seesR r [S] = false)) :
    Calls Tryz.prog 57 #[.pointer (some ⟨b, 0, none⟩), .slice (some ⟨tb, 0, none⟩) 1 cap] w fun e w' => Thrown (posOf r fin) e ∧ w.grownBy w' (some b) := by
  have H := Lib.hid h
  clear h
  have HX : Hid (∀ T, TxtRow (w.alloc (.cells #[.string s] T)) (.slice (some ⟨w.heap.size, 0, none⟩) 1 1) [S]) := by
    show ∀ T, _
    intro T
    rw [hS.out]
    exact txtRow_new w [S] T 1 (by simp)
  go_enter Tryz.func57, Tryz.ntmps57
  go_wp2_with fail
  refine wp_loop_rounds 2 ?_
  rw [rounds_succ]
  go_wp2_with fail
  refine (sees_is b lv ts r fin deep _ [S] _ _ hβ (H.out.grown (grown_alloc _ _ _)) (HX.out _)).mono ?_
  rintro e w1 ⟨rfl, q, rfl⟩
  go_wp2_with fail
  refine (fail_at b lv ts r fin deep _ ((H.out.grown (grown_alloc _ _ _)).drew _)).mono ?_
  rintro e w1 ⟨he, q, rfl⟩
  have HE := Lib.hid he
  clear he
  obtain rfl : e = _ := HE.out
  exact ⟨rfl, rfl, grown_trans (grown_alloc _ _ _) (grown_trans (grown_drew _ _ _) (grown_drew _ q _))⟩

set_option maxHeartbeats 1000000 in
set_option maxRecDepth 100000 in
theorem must_yes (b tb cap k : Nat) (lv : Value) (ts r : List Tok) (fin deep : Int) (s : ByteArray) (S : List UInt8) (w : World) (h : PW w b lv ts r fin deep) (hS : Hid (s = bs S)) (hc : w.cell? ⟨tb, 0, none⟩ = some (.string s)) (hβ : Hid (seesR r [S] = true)) (hkk : Hid (ts.length - r.length = k)) (hk : k < 9223372036854775807) :
    Calls Tryz.prog 57 #[.pointer (some ⟨b, 0, none⟩), .slice (some ⟨tb, 0, none⟩) 1 cap] w fun e w' => e = .returned (.tuple #[]) ∧ w.grownBy w' (some b) ∧ PS w' b lv ((k : Int) + 1) fin deep := by
  have H := Lib.hid h
  clear h
  have HX : Hid (∀ T, TxtRow (w.alloc (.cells #[.string s] T)) (.slice (some ⟨w.heap.size, 0, none⟩) 1 1) [S]) := by
    show ∀ T, _
    intro T
    rw [hS.out]
    exact txtRow_new w [S] T 1 (by simp)
  go_enter Tryz.func57, Tryz.ntmps57
  go_wp2_with fail
  refine wp_loop_rounds 2 ?_
  rw [rounds_succ]
  go_wp2_with fail
  refine (sees_is b lv ts r fin deep _ [S] _ _ hβ (H.out.grown (grown_alloc _ _ _)) (HX.out _)).mono ?_
  rintro e w1 ⟨rfl, q, rfl⟩
  have hps := ((H.out.grown (grown_alloc w (.cells #[.string s] 9) none)).drew q).ps
  rw [hkk.out] at hps
  obtain ⟨c0, c1, c2, c3, f1, _⟩ := hps.cells
  have HPS := Lib.hid hps
  have HG : Hid (w.grownBy ((w.alloc (.cells #[.string s] 9)).drewN q) (some b)) := grown_trans (grown_alloc _ _ _) (grown_drew _ q _)
  clear c0 c2 c3 hps
  generalize ((w.alloc (.cells #[.string s] 9)).drewN q) = w2 at *
  go_wp2_with fail
  rw [rounds_succ]
  go_wp2
  go_end0
  exact ⟨rfl, grown_trans HG.out (grown_setCell w2 ⟨b, 1, none⟩ _), HPS.out.set _⟩

/-- must at one text, in a row of one cell. -/
theorem must_at (b tb cap : Nat) (lv : Value) (ts r : List Tok) (fin deep : Int) (s : ByteArray) (S : List UInt8) (w : World) (h : PW w b lv ts r fin deep) (hS : Hid (s = bs S)) (hc : w.cell? ⟨tb, 0, none⟩ = some (.string s)) :
    Calls Tryz.prog 57 #[.pointer (some ⟨b, 0, none⟩), .slice (some ⟨tb, 0, none⟩) 1 cap] w fun e w' => Out w b lv ts fin deep RUnit (pMust S r) e w' := by
  cases hβ : seesR r [S]
  · refine (must_no b tb cap lv ts r fin deep s S w h hS hc hβ).mono fun e w' ⟨he, hg⟩ => out_error ?_ he hg
    cases r with
    | nil => rfl
    | cons t r => rw [seesR_one] at hβ; rw [pMust, hβ]; rfl
  · cases r with
    | nil => cases hβ
    | cons t r =>
      have h3 := (rest_cons h.rest).2.2.1
      refine (must_yes b tb cap _ lv ts (t :: r) fin deep s S w h hS hc hβ rfl (by have := tok_le h; have := (rest_cons h.rest).2.1; simp only [List.length_cons] at h3 ⊢; omega)).mono ?_
      rintro e w' ⟨rfl, hg, hp⟩
      rw [seesR_one] at hβ
      exact out_ok (by rw [pMust, hβ]; rfl) rfl hg (h.tail hg hp)
end Go.Proofs.YtdjklnlkocconaaGreatDoor

namespace Go.Proofs.YtdjklnlkocconaaGreatDoor
open Go Go.RowKit

theorem PW.deeper {w : World} {b : Nat} {lv : Value} {ts r : List Tok} {fin deep : Int} (h : PW w b lv ts r fin deep) (d : Int) : PW (w.setCell ⟨b, 3, none⟩ (.int .i64 d)) b lv ts r fin d :=
  h.moved (grown_setCell w ⟨b, 3, none⟩ _) (h.ps.setDeep d) h.rest

/-- A row of one text, where a walk lays it. -/
theorem cell_one (w : World) (v : Value) (T : TypeId) : (w.alloc (.cells #[v] T)).cell? ⟨w.heap.size, 0, none⟩ = some v := by
  unfold World.cell?
  rw [(MapKept.heap_alloc w _).1]
  rfl

theorem grown_none {w w' : World} (h : w.grownBy w' none) (row : Option Nat) : w.grownBy w' row := ⟨h.os, h.tape, h.output, h.size, fun k hk _ => h.block k hk (by simp)⟩

set_option maxHeartbeats 1000000 in
set_option maxRecDepth 100000 in
theorem open_deep (b : Nat) (lv : Value) (ts r : List Tok) (fin : Int) (d : Nat) (w : World) (h : PW w b lv ts r fin d) (hd : 64 ≤ d) :
    Calls Tryz.prog 62 #[.pointer (some ⟨b, 0, none⟩)] w fun e w' => Thrown (posOf r fin) e ∧ w.grownBy w' (some b) := by
  obtain ⟨_, _, _, c3, _, _⟩ := h.ps.cells
  have H := Lib.hid h
  clear h
  go_enter Tryz.func62, Tryz.ntmps62
  go_wp2_with fail
  refine (fail_at b lv ts r fin d _ H.out).mono ?_
  rintro e w1 ⟨he, q, rfl⟩
  have HE := Lib.hid he
  clear he
  obtain rfl : e = _ := HE.out
  exact ⟨rfl, rfl, grown_drew _ _ _⟩

set_option maxHeartbeats 1000000 in
set_option maxRecDepth 100000 in
theorem open_must (b : Nat) (lv : Value) (ts r : List Tok) (fin : Int) (d : Nat) (w : World) (h : PW w b lv ts r fin d) (hd : d < 64) :
    Calls Tryz.prog 62 #[.pointer (some ⟨b, 0, none⟩)] w fun e w' => Out w b lv ts fin ((d : Int) + 1) RUnit (pMust [40] r) e w' := by
  obtain ⟨_, _, _, c3, _, _⟩ := h.ps.cells
  have H := Lib.hid h
  clear h
  have hg0 : Hid (∀ o, w.grownBy (w.alloc o) none) := fun o => grown_alloc w o none
  go_enter Tryz.func62, Tryz.ntmps62
  go_wp2_with fail
  refine (must_at b _ _ lv ts r fin d _ [40] _ (H.out.grown (hg0.out _)) rfl (cell_one _ _ _)).mono ?_
  intro e w1 ho
  rcases out_cases ho with ⟨_, r1, v, hp, rfl, hv, hg, hw⟩ | ⟨r1, hp, he, hg⟩
  · obtain ⟨_, _, _, c3', _, f3⟩ := hw.ps.cells
    have HW := Lib.hid hw
    have HG := Lib.hid hg
    obtain rfl : v = _ := hv
    clear c3 hw hg ho
    go_wp2
    go_end0
    exact out_ok hp.out rfl (grown_trans (grown_none (hg0.out _) _) (grown_trans HG.out (grown_setCell w1 ⟨b, 3, none⟩ _))) (HW.out.deeper _)
  · have HE := Lib.hid he
    clear he
    obtain rfl : e = _ := HE.out
    exact ⟨rfl, out_error hp.out rfl (grown_trans (grown_none (hg0.out _) _) hg)⟩

theorem open_at (b : Nat) (lv : Value) (ts r : List Tok) (fin : Int) (d : Nat) (w : World) (h : PW w b lv ts r fin d) :
    Calls Tryz.prog 62 #[.pointer (some ⟨b, 0, none⟩)] w fun e w' => Out w b lv ts fin ((d : Int) + 1) RUnit (if 64 ≤ d then .error r else pMust [40] r) e w' := by
  by_cases hd : 64 ≤ d
  · rw [if_pos hd]
    exact (open_deep b lv ts r fin d w h hd).mono fun e w' ⟨he, hg⟩ => out_error rfl he hg
  · rw [if_neg hd]
    exact open_must b lv ts r fin d w h (by omega)

set_option maxHeartbeats 1000000 in
set_option maxRecDepth 100000 in
theorem shut_at (b : Nat) (lv : Value) (ts r : List Tok) (fin : Int) (d : Nat) (w : World) (h : PW w b lv ts r fin ((d : Int) + 1)) (hd : d < 64) :
    Calls Tryz.prog 63 #[.pointer (some ⟨b, 0, none⟩)] w fun e w' => Out w b lv ts fin d RUnit (pMust [41] r) e w' := by
  have H := Lib.hid h
  clear h
  have hg0 : Hid (∀ o, w.grownBy (w.alloc o) none) := fun o => grown_alloc w o none
  go_enter Tryz.func63, Tryz.ntmps63
  go_wp2_with fail
  refine (must_at b _ _ lv ts r fin ((d : Int) + 1) _ [41] _ (H.out.grown (hg0.out _)) rfl (cell_one _ _ _)).mono ?_
  intro e w1 ho
  rcases out_cases ho with ⟨_, r1, v, hp, rfl, hv, hg, hw⟩ | ⟨r1, hp, he, hg⟩
  · obtain ⟨_, _, _, c3', _, f3⟩ := hw.ps.cells
    have HW := Lib.hid hw
    have HG := Lib.hid hg
    obtain rfl : v = _ := hv
    clear hw hg ho
    go_wp2
    go_end0
    exact out_ok hp.out rfl (grown_trans (grown_none (hg0.out _) _) (grown_trans HG.out (grown_setCell w1 ⟨b, 3, none⟩ _))) (by have := HW.out.deeper ((d : Int) + 1 - 1); rwa [show (d : Int) + 1 - 1 = d by omega] at this)
  · have HE := Lib.hid he
    clear he
    obtain rfl : e = _ := HE.out
    exact ⟨rfl, out_error hp.out rfl (grown_trans (grown_none (hg0.out _) _) hg)⟩

theorem bs_toList (l : List UInt8) : (bs l).toList = l := by rw [ByteArray.toList_eq]; rfl

/-- The operator's kind, by the word. -/
def lowOf (x : List UInt8) : Int := if x = w_or then 5 else if x = w_not then 6 else 7

set_option maxHeartbeats 1000000 in
theorem kindOf_any (x : List UInt8) (w : World) : Calls Tryz.prog 82 #[.string (bs x)] w fun e w' => e = .returned (.int .i64 (lowOf x)) ∧ w = w' := by
  by_cases h1 : x = w_or
  · have e1 : ((bs x).toList == [111, 114]) = true := by rw [bs_toList, h1]; rfl
    have HE : Hid (lowOf x = 5) := by rw [lowOf, if_pos h1]; rfl
    clear h1
    go_enter Tryz.func82, Tryz.ntmps82
    go_wp2
    go_ret
    exact ⟨ret_int HE.out.symm, rfl⟩
  · have e1 : ((bs x).toList == [111, 114]) = false := by rw [bs_toList, beq_eq_false_iff_ne]; exact h1
    by_cases h2 : x = w_not
    · have e2 : ((bs x).toList == [110, 111, 116]) = true := by rw [bs_toList, h2]; rfl
      have HE : Hid (lowOf x = 6) := by rw [lowOf, if_neg h1, if_pos h2]; rfl
      clear h1 h2
      go_enter Tryz.func82, Tryz.ntmps82
      go_wp2
      go_ret
      exact ⟨ret_int HE.out.symm, rfl⟩
    · have e2 : ((bs x).toList == [110, 111, 116]) = false := by rw [bs_toList, beq_eq_false_iff_ne]; exact h2
      have HE : Hid (lowOf x = 7) := by rw [lowOf, if_neg h1, if_neg h2]; rfl
      clear h1 h2
      go_enter Tryz.func82, Tryz.ntmps82
      go_wp2
      go_ret
      exact ⟨ret_int HE.out.symm, rfl⟩
end Go.Proofs.YtdjklnlkocconaaGreatDoor

namespace Go.Proofs.YtdjklnlkocconaaGreatDoor
open Go Go.RowKit

theorem cell_one_at (w : World) (v : Value) (T : TypeId) (g : Nat) (hg : g = w.heap.size) : (w.alloc (.cells #[v] T)).cell? ⟨g, 0, none⟩ = some v := by
  subst hg
  exact cell_one w v T

theorem txtRow_one (w : World) (s : ByteArray) (S : List UInt8) (T : TypeId) (cap g : Nat) (hs : s = bs S) (hg : g = w.heap.size) : TxtRow (w.alloc (.cells #[.string s] T)) (.slice (some ⟨g, 0, none⟩) 1 cap) [S] := by
  subst hs hg
  exact txtRow_new w [S] T cap (by simp)

theorem txtRow_at (w : World) (xs : Array Value) (S : List (List UInt8)) (T : TypeId) (n cap g : Nat) (hn : n = S.length) (hs : xs = (S.map fun s => Value.string (bs s)).toArray) (hg : g = w.heap.size) (hl : S.length ≤ 9223372036854775807) : TxtRow (w.alloc (.cells xs T)) (.slice (some ⟨g, 0, none⟩) n cap) S := by
  subst hs hg hn
  exact txtRow_new w S T cap hl

/-- A block of three cells of the call's own. -/
def Blk3 (w : World) (g : Nat) (x y z : Value) : Prop := w.heap[g]? = some (.cells #[x, y, z] 37 (0, 0))
theorem Blk3.cells {w : World} {g : Nat} {x y z : Value} (h : Blk3 w g x y z) : w.cell? ⟨g, 0, none⟩ = some x ∧ w.cell? ⟨g, 1, none⟩ = some y ∧ w.cell? ⟨g, 2, none⟩ = some z ∧ w.frozen? ⟨g, 0, none⟩ = false ∧ w.frozen? ⟨g, 1, none⟩ = false ∧ w.frozen? ⟨g, 2, none⟩ = false := by
  unfold Blk3 at h
  refine ⟨?_, ?_, ?_, ?_, ?_, ?_⟩ <;> simp [World.cell?, World.frozen?, h]
theorem Blk3.new (w : World) (x y z : Value) : Blk3 (w.alloc (.cells #[x, y, z] 37)) w.heap.size x y z := (MapKept.heap_alloc w _).1
theorem Blk3.new_at (w : World) (x y z : Value) (g : Nat) (hg : g = w.heap.size) : Blk3 (w.alloc (.cells #[x, y, z] 37)) g x y z := by subst hg; exact Blk3.new w x y z
theorem Blk3.lt {w : World} {g : Nat} {x y z : Value} (h : Blk3 w g x y z) : g < w.heap.size := by
  unfold Blk3 at h
  rcases Nat.lt_or_ge g w.heap.size with h' | h'
  · exact h'
  · simp [Array.getElem?_eq_none h'] at h
theorem Blk3.grown {w w' : World} {g : Nat} {x y z : Value} {row : Option Nat} (h : Blk3 w g x y z) (hg : w.grownBy w' row) (hn : some g ≠ row) : Blk3 w' g x y z := (hg.block g h.lt hn).trans h
theorem Blk3.stored {w : World} {g : Nat} {x y z : Value} (h : Blk3 w g x y z) (x' y' z' : Value) : Blk3 (((w.setCell ⟨g, 0, none⟩ x').setCell ⟨g, 1, none⟩ y').setCell ⟨g, 2, none⟩ z') g x' y' z' := by
  unfold Blk3 at h ⊢
  simp [World.setCell, Array.getElem?_modify, h]
theorem grown_set3 (w : World) (g : Nat) (x' y' z' : Value) : w.grownBy (((w.setCell ⟨g, 0, none⟩ x').setCell ⟨g, 1, none⟩ y').setCell ⟨g, 2, none⟩ z') (some g) :=
  grown_trans (grown_setCell w ⟨g, 0, none⟩ x') (grown_trans (grown_setCell _ ⟨g, 1, none⟩ y') (grown_setCell _ ⟨g, 2, none⟩ z'))

/-- What has been made anew, with two rows turned, one of which is new. -/
theorem grown_new {w w1 w2 : World} {g : Nat} {row : Option Nat} (h1 : w.grownBy w1 row) (h2 : w1.grownBy w2 (some g)) (hg : w.heap.size ≤ g) : w.grownBy w2 row :=
  ⟨h2.os.trans h1.os, h2.tape.trans h1.tape, h2.output.trans h1.output, Nat.le_trans h1.size h2.size,
    fun k hk hr => (h2.block k (Nat.lt_of_lt_of_le hk h1.size) (by intro e; have := Option.some.inj e; omega)).trans (h1.block k hk hr)⟩

/-- A function that hands back a node out of a block. -/
theorem node_ret {R : Ending → World → Prop} {a : Act} {w : World} {g : Nat} {x y z : Value} {f : Func} {t : Tmp} (h : f.results = #[.cell t 37]) (hp : a.tmps.getD t undef = .pointer (some ⟨g, 0, none⟩)) (hd : a.defers = []) (hB : Blk3 w g x y z)
    (hR : R (.returned (.agg #[x, y, z])) w) : bodyPost Tryz.prog f R .ret a w := by
  obtain ⟨c0, c1, c2, _, _, _⟩ := hB.cells
  refine bodyPost_ret (v := .agg #[x, y, z]) ?_ hd hR
  rw [Array.getD_eq_getD_getElem?] at hp
  simp only [results, h]
  simp [hp, go_sem, c0, c1, c2]
/-- sees, the world behind it under a name of its own. -/
theorem sees_w (b : Nat) (lv : Value) (ts r : List Tok) (fin deep : Int) (tv : Value) (xs : List (List UInt8)) (β : Bool) (w : World) (hβ : Hid (seesR r xs = β)) (h : PW w b lv ts r fin deep) (hx : TxtRow w tv xs) :
    Calls Tryz.prog 54 #[.pointer (some ⟨b, 0, none⟩), tv] w fun e w' => e = .returned (.bool β) ∧ w.grownBy w' none :=
  (sees_is b lv ts r fin deep tv xs β w hβ h hx).mono fun e w' ⟨he, q, hw⟩ => ⟨he, by rw [hw]; exact grown_drew w q none⟩

/-- A parsing function at work: its result's block, fresh, is the first that it has made. -/
structure OS (w w' : World) (b : Nat) (lv : Value) (ts r : List Tok) (fin deep : Int) : Prop where
  hb : b < w.heap.size
  g : w.grownBy w' (some b)
  p : PW w' b lv ts r fin deep
  n : Blk3 w' w.heap.size (.int .i64 0) (.string ⟨#[]⟩) (.slice none 0 0)

theorem OS.start {w : World} {b : Nat} {lv : Value} {ts r : List Tok} {fin deep : Int} (h : PW w b lv ts r fin deep) : OS w (w.alloc (.cells #[.int .i64 0, .string ⟨#[]⟩, .slice none 0 0] 37)) b lv ts r fin deep :=
  ⟨h.lt, grown_alloc _ _ _, h.grown (grown_alloc _ _ _), Blk3.new _ _ _ _⟩
theorem OS.still {w w' w'' : World} {b : Nat} {lv : Value} {ts r : List Tok} {fin deep : Int} (h : OS w w' b lv ts r fin deep) (hg : w'.grownBy w'' none) : OS w w'' b lv ts r fin deep :=
  ⟨h.hb, grown_trans h.g (grown_none hg _), h.p.grown hg, h.n.grown hg (by simp)⟩
theorem OS.alloc {w w' : World} {b : Nat} {lv : Value} {ts r : List Tok} {fin deep : Int} (h : OS w w' b lv ts r fin deep) (o : Obj) : OS w (w'.alloc o) b lv ts r fin deep := h.still (grown_alloc _ _ _)
theorem OS.moved {w w' w'' : World} {b : Nat} {lv : Value} {ts r r' : List Tok} {fin deep deep' : Int} (h : OS w w' b lv ts r fin deep) (hg : w'.grownBy w'' (some b)) (hp : PW w'' b lv ts r' fin deep') : OS w w'' b lv ts r' fin deep' :=
  ⟨h.hb, grown_trans h.g hg, hp, h.n.grown hg (by intro e; have := Option.some.inj e; have := h.hb; omega)⟩
theorem OS.size {w w' : World} {b : Nat} {lv : Value} {ts r : List Tok} {fin deep : Int} (h : OS w w' b lv ts r fin deep) : w.heap.size < w'.heap.size := h.n.lt
/-- Its result stored, it ends. -/
theorem OS.done {w w' : World} {b : Nat} {lv : Value} {ts r : List Tok} {fin deep : Int} (h : OS w w' b lv ts r fin deep) (x y z : Value) {n : Nd} (hn : NdIs (w.heap.size + 1 ≤ ·) w' n (.agg #[x, y, z])) {α : Type} {f : α → Nd} {a : α} (hf : f a = n) {p : PR α} (hp : p = .ok (a, r)) :
    Out w b lv ts fin deep (fun n v w' => NdIs (w.heap.size ≤ ·) w' (f n) v) p (.returned (.agg #[x, y, z])) (((w'.setCell ⟨w.heap.size, 0, none⟩ x).setCell ⟨w.heap.size, 1, none⟩ y).setCell ⟨w.heap.size, 2, none⟩ z) := by
  refine out_ok hp ?_ (grown_new h.g (grown_set3 w' w.heap.size _ _ _) (Nat.le_refl _)) (h.p.other (grown_set3 w' w.heap.size _ _ _) h.hb)
  rw [hf]
  exact (hn.grown (grown_set3 w' w.heap.size _ _ _) (Nat.lt_succ_self _)).from (Nat.le_succ _)
theorem NdIs.leaf_at {w : World} {B : Nat} (k : Int) (s : List UInt8) (sv : ByteArray) (hs : sv = bs s) (a : Option Addr) (cap : Nat) : NdIs (B ≤ ·) w (.mk k s []) (.agg #[.int .i64 k, .string sv, .slice a 0 cap]) := by
  subst hs
  exact NdIs.leaf _ _ k s cap a

/-- What an expression's reading comes to. -/
abbrev ExOut (w : World) (b : Nat) (lv : Value) (ts : List Tok) (fin deep : Int) (p : PR Ex) (e : Ending) (w' : World) : Prop :=
  Out w b lv ts fin deep (fun n v w' => NdIs (w.heap.size ≤ ·) w' (Ex.nd n) v) p e w'

set_option maxHeartbeats 1000000 in
set_option maxRecDepth 100000 in
theorem one_empty (b : Nat) (lv : Value) (ts r : List Tok) (fin : Int) (d : Nat) (t : Tok) (w : World) (h : PW w b lv ts (t :: r) fin d) (h1 : Hid (seesR (t :: r) [w_empty] = true)) :
    Calls Tryz.prog 107 #[.pointer (some ⟨b, 0, none⟩)] w fun e w' => ExOut w b lv ts fin d (.ok (.empty, r)) e w' := by
  have S0 := Lib.hid (OS.start h)
  clear h
  go_enter Tryz.func107, Tryz.ntmps107
  go_wp2_with fail
  refine (sees_w b lv ts (t :: r) fin d _ [w_empty] _ _ h1 (S0.out.alloc _).p (txtRow_one _ _ w_empty _ _ _ rfl (by simp))).mono ?_
  rintro e w1 ⟨rfl, hg1⟩
  have S1 := Lib.hid ((S0.out.alloc _).still hg1)
  clear hg1 S0
  go_wp2_with fail
  refine (take_at b lv ts r t fin d _ S1.out.p).mono ?_
  rintro e w2 ⟨rfl, hg, hw⟩
  have S2 := Lib.hid (S1.out.moved hg hw)
  clear hg hw S1
  obtain ⟨k0, k1, k2, f0, f1, f2⟩ := S2.out.n.cells
  go_wp2
  exact node_ret rfl rfl rfl (S2.out.n.stored _ _ _) (S2.out.done _ _ _ (NdIs.leaf_at 2 [] _ rfl none 0) (f := Ex.nd) rfl rfl)

set_option maxHeartbeats 1000000 in
set_option maxRecDepth 100000 in
theorem one_boxes (b : Nat) (lv : Value) (ts r : List Tok) (fin : Int) (d : Nat) (t : Tok) (w : World) (h : PW w b lv ts (t :: r) fin d) (h1 : Hid (seesR (t :: r) [w_empty] = false)) (h2 : Hid (seesR (t :: r) [w_boxes] = true)) :
    Calls Tryz.prog 107 #[.pointer (some ⟨b, 0, none⟩)] w fun e w' => ExOut w b lv ts fin d ((pName r).then fun s r1 => .ok (.boxes s, r1)) e w' := by
  have S0 := Lib.hid (OS.start h)
  clear h
  go_enter Tryz.func107, Tryz.ntmps107
  go_wp2_with fail
  refine (sees_w b lv ts (t :: r) fin d _ [w_empty] _ _ h1 (S0.out.alloc _).p (txtRow_one _ _ w_empty _ _ _ rfl (by simp))).mono ?_
  rintro e w1 ⟨rfl, hg1⟩
  have S1 := Lib.hid ((S0.out.alloc _).still hg1)
  clear hg1 S0
  go_wp2_with fail
  refine (sees_w b lv ts (t :: r) fin d _ [w_boxes] _ _ h2 (S1.out.alloc _).p (txtRow_one _ _ w_boxes _ _ _ rfl rfl)).mono ?_
  rintro e w2 ⟨rfl, hg1⟩
  have S2 := Lib.hid ((S1.out.alloc _).still hg1)
  clear hg1 S1
  go_wp2_with fail
  refine (take_at b lv ts r t fin d _ S2.out.p).mono ?_
  rintro e w3 ⟨rfl, hg, hw⟩
  have S3 := Lib.hid (S2.out.moved hg hw)
  clear hg hw S2
  go_wp2_with fail
  refine (name_at b lv ts r fin d _ S3.out.p).mono ?_
  intro e w4 ho
  rcases out_cases ho with ⟨s, r1, v, hp, rfl, hv, hg, hw⟩ | ⟨r1, hp, he, hg⟩
  · obtain rfl : v = _ := hv
    have S4 := Lib.hid (S3.out.moved hg hw)
    clear hg hw S3 ho
    obtain ⟨k0, k1, k2, f0, f1, f2⟩ := S4.out.n.cells
    go_wp2
    exact node_ret rfl rfl rfl (S4.out.n.stored _ _ _) (S4.out.done _ _ _ (NdIs.leaf_at 3 s _ rfl none 0) (f := Ex.nd) (a := .boxes s) rfl (by rw [hp.out]; rfl))
  · have HE := Lib.hid he
    clear he ho
    obtain rfl : e = _ := HE.out
    exact ⟨rfl, out_error (by rw [hp.out]; rfl) rfl (grown_trans S3.out.g hg)⟩

set_option maxHeartbeats 1000000 in
set_option maxRecDepth 100000 in
theorem one_name (b : Nat) (lv : Value) (ts r : List Tok) (fin : Int) (d : Nat) (w : World) (h : PW w b lv ts r fin d) (h1 : Hid (seesR r [w_empty] = false)) (h2 : Hid (seesR r [w_boxes] = false)) (h3 : Hid (seesR r [[40]] = false)) :
    Calls Tryz.prog 107 #[.pointer (some ⟨b, 0, none⟩)] w fun e w' => ExOut w b lv ts fin d ((pName r).then fun s r1 => .ok (.name s, r1)) e w' := by
  have S0 := Lib.hid (OS.start h)
  clear h
  go_enter Tryz.func107, Tryz.ntmps107
  go_wp2_with fail
  refine (sees_w b lv ts r fin d _ [w_empty] _ _ h1 (S0.out.alloc _).p (txtRow_one _ _ w_empty _ _ _ rfl (by simp))).mono ?_
  rintro e w1 ⟨rfl, hg1⟩
  have S1 := Lib.hid ((S0.out.alloc _).still hg1)
  clear hg1 S0
  go_wp2_with fail
  refine (sees_w b lv ts r fin d _ [w_boxes] _ _ h2 (S1.out.alloc _).p (txtRow_one _ _ w_boxes _ _ _ rfl rfl)).mono ?_
  rintro e w2 ⟨rfl, hg1⟩
  have S2 := Lib.hid ((S1.out.alloc _).still hg1)
  clear hg1 S1
  go_wp2_with fail
  refine (sees_w b lv ts r fin d _ [[40]] _ _ h3 (S2.out.alloc _).p (txtRow_one _ _ [40] _ _ _ rfl rfl)).mono ?_
  rintro e w3 ⟨rfl, hg1⟩
  have S3 := Lib.hid ((S2.out.alloc _).still hg1)
  clear hg1 S2
  go_wp2_with fail
  refine (name_at b lv ts r fin d _ S3.out.p).mono ?_
  intro e w4 ho
  rcases out_cases ho with ⟨s, r1, v, hp, rfl, hv, hg, hw⟩ | ⟨r1, hp, he, hg⟩
  · obtain rfl : v = _ := hv
    have S4 := Lib.hid (S3.out.moved hg hw)
    clear hg hw S3 ho
    obtain ⟨k0, k1, k2, f0, f1, f2⟩ := S4.out.n.cells
    go_wp2
    exact node_ret rfl rfl rfl (S4.out.n.stored _ _ _) (S4.out.done _ _ _ (NdIs.leaf_at 1 s _ rfl none 0) (f := Ex.nd) (a := .name s) rfl (by rw [hp.out]; rfl))
  · have HE := Lib.hid he
    clear he ho
    obtain rfl : e = _ := HE.out
    exact ⟨rfl, out_error (by rw [hp.out]; rfl) rfl (grown_trans S3.out.g hg)⟩
end Go.Proofs.YtdjklnlkocconaaGreatDoor

namespace Go.Proofs.YtdjklnlkocconaaGreatDoor
open Go Go.RowKit

def ExprC (m : Nat) : Prop := ∀ (b : Nat) (lv : Value) (ts r : List Tok) (fin : Int) (d : Nat) (w : World), r.length ≤ m → d ≤ 64 → PW w b lv ts r fin d →
  Calls Tryz.prog 60 #[.pointer (some ⟨b, 0, none⟩)] w fun e w' => ExOut w b lv ts fin d (pEx d r) e w'
def BothC (m : Nat) : Prop := ∀ (b : Nat) (lv : Value) (ts r : List Tok) (fin : Int) (d : Nat) (w : World), r.length ≤ m → d ≤ 64 → PW w b lv ts r fin d →
  Calls Tryz.prog 81 #[.pointer (some ⟨b, 0, none⟩)] w fun e w' => ExOut w b lv ts fin d (pBoth d r) e w'
def OneC (m : Nat) : Prop := ∀ (b : Nat) (lv : Value) (ts r : List Tok) (fin : Int) (d : Nat) (w : World), r.length ≤ m → d ≤ 64 → PW w b lv ts r fin d →
  Calls Tryz.prog 107 #[.pointer (some ⟨b, 0, none⟩)] w fun e w' => ExOut w b lv ts fin d (pOne d r) e w'

set_option maxHeartbeats 1000000 in
set_option maxRecDepth 100000 in
theorem one_paren (m b : Nat) (lv : Value) (ts r : List Tok) (fin : Int) (d : Nat) (t : Tok) (w : World) (he : ExprC m) (hm : r.length ≤ m) (hd : d < 64) (h : PW w b lv ts (t :: r) fin d) (h0 : Hid (pMust [40] (t :: r) = .ok ((), r))) (h1 : Hid (seesR (t :: r) [w_empty] = false)) (h2 : Hid (seesR (t :: r) [w_boxes] = false)) (h3 : Hid (seesR (t :: r) [[40]] = true)) :
    Calls Tryz.prog 107 #[.pointer (some ⟨b, 0, none⟩)] w fun e w' => ExOut w b lv ts fin d ((pEx (d + 1) r).then fun n r1 => (pMust [41] r1).then fun _ r2 => .ok (n, r2)) e w' := by
  have S0 := Lib.hid (OS.start h)
  clear h
  go_enter Tryz.func107, Tryz.ntmps107
  go_wp2_with fail
  refine (sees_w b lv ts (t :: r) fin d _ [w_empty] _ _ h1 (S0.out.alloc _).p (txtRow_one _ _ w_empty _ _ _ rfl (by simp))).mono ?_
  rintro e w1 ⟨rfl, hg1⟩
  have S1 := Lib.hid ((S0.out.alloc _).still hg1)
  clear hg1 S0
  go_wp2_with fail
  refine (sees_w b lv ts (t :: r) fin d _ [w_boxes] _ _ h2 (S1.out.alloc _).p (txtRow_one _ _ w_boxes _ _ _ rfl rfl)).mono ?_
  rintro e w2 ⟨rfl, hg1⟩
  have S2 := Lib.hid ((S1.out.alloc _).still hg1)
  clear hg1 S1
  go_wp2_with fail
  refine (sees_w b lv ts (t :: r) fin d _ [[40]] _ _ h3 (S2.out.alloc _).p (txtRow_one _ _ [40] _ _ _ rfl rfl)).mono ?_
  rintro e w3 ⟨rfl, hg1⟩
  have S3 := Lib.hid ((S2.out.alloc _).still hg1)
  clear hg1 S2
  go_wp2_with fail
  refine (open_at b lv ts (t :: r) fin d _ S3.out.p).mono ?_
  intro e w4 ho
  rcases out_cases ho with ⟨u, r1, v, hp, rfl, hv, hg, hw⟩ | ⟨r1, hp, he, hg⟩
  · have hr : r1 = r := by
      have hp2 := hp.out
      rw [if_neg (by omega), h0.out] at hp2
      cases hp2
      rfl
    have S4 := Lib.hid (S3.out.moved hg hw)
    clear hg hw S3 ho hp hv
    subst hr
    go_wp2_with fail
    refine (he b lv ts r1 fin (d + 1) _ hm (by omega) S4.out.p).mono ?_
    intro e w5 ho
    rcases out_cases ho with ⟨n, r2, v, hp, rfl, hv, hg, hw⟩ | ⟨r2, hp, he, hg⟩
    · obtain ⟨xk, xs, xa, xn, xc, rfl⟩ := hv.agg
      have HN : Hid (NdIs (w.heap.size + 1 ≤ ·) w5 (Ex.nd n) (.agg #[.int .i64 xk, .string xs, .slice xa xn xc])) := hv.from S4.out.size
      have S5 := Lib.hid (S4.out.moved hg hw)
      have HZ : Hid (w4.heap.size ≤ w5.heap.size) := hg.size
      clear hg hw S4 ho hv
      obtain ⟨k0, k1, k2, f0, f1, f2⟩ := (Blk3.new w5 (.int .i64 0) (.string ⟨#[]⟩) (.slice none 0 0)).cells
      go_wp2_with fail
      refine (shut_at b lv ts r2 fin d _ (S5.out.alloc _).p hd).mono ?_
      intro e w6 ho
      have HB5 : Hid (Blk3 (w5.alloc (.cells #[.int .i64 xk, .string xs, .slice xa xn xc] 37)) w5.heap.size (.int .i64 xk) (.string xs) (.slice xa xn xc)) := Blk3.new _ _ _ _
      rcases out_cases ho with ⟨_, r3, v, hp2, rfl, hv, hg, hw⟩ | ⟨r3, hp2, he, hg⟩
      · have S6 := Lib.hid ((S5.out.alloc _).moved hg hw)
        have HB6 : Hid (Blk3 w6 w5.heap.size (.int .i64 xk) (.string xs) (.slice xa xn xc)) := HB5.out.grown hg (by intro e; have := Option.some.inj e; have := S5.out.size; have := S5.out.hb; omega)
        have HN6 : Hid (NdIs (w.heap.size + 1 ≤ ·) w6 (Ex.nd n) (.agg #[.int .i64 xk, .string xs, .slice xa xn xc])) := (HN.out.grown (grown_alloc w5 (.cells #[.int .i64 xk, .string xs, .slice xa xn xc] 37) (some b)) (by have := S5.out.hb; omega)).grown hg (by have := S5.out.hb; omega)
        clear hg hw S5 ho hv HN HB5
        obtain ⟨k0, k1, k2, f0, f1, f2⟩ := S6.out.n.cells
        obtain ⟨l0, l1, l2, _, _, _⟩ := HB6.out.cells
        go_wp2
        exact node_ret rfl rfl rfl (S6.out.n.stored _ _ _) (S6.out.done _ _ _ HN6.out (f := Ex.nd) (a := n) rfl (by rw [hp.out, PR.then_ok, hp2.out]; rfl))
      · have HE := Lib.hid he
        clear he ho
        obtain rfl : e = _ := HE.out
        exact ⟨rfl, out_error (by rw [hp.out, PR.then_ok, hp2.out]; rfl) rfl (grown_trans (S5.out.alloc _).g hg)⟩
    · have HE := Lib.hid he
      clear he ho
      obtain rfl : e = _ := HE.out
      exact ⟨rfl, out_error (by rw [hp.out]; rfl) rfl (grown_trans S4.out.g hg)⟩
  · have hp2 := hp.out
    rw [if_neg (by omega), h0.out] at hp2
    cases hp2

set_option maxHeartbeats 1000000 in
set_option maxRecDepth 100000 in
theorem one_deep (b : Nat) (lv : Value) (ts r : List Tok) (fin : Int) (d : Nat) (t : Tok) (w : World) (hd : 64 ≤ d) (h : PW w b lv ts (t :: r) fin d) (h1 : Hid (seesR (t :: r) [w_empty] = false)) (h2 : Hid (seesR (t :: r) [w_boxes] = false)) (h3 : Hid (seesR (t :: r) [[40]] = true)) :
    Calls Tryz.prog 107 #[.pointer (some ⟨b, 0, none⟩)] w fun e w' => ExOut w b lv ts fin d (.error (t :: r)) e w' := by
  have S0 := Lib.hid (OS.start h)
  clear h
  go_enter Tryz.func107, Tryz.ntmps107
  go_wp2_with fail
  refine (sees_w b lv ts (t :: r) fin d _ [w_empty] _ _ h1 (S0.out.alloc _).p (txtRow_one _ _ w_empty _ _ _ rfl (by simp))).mono ?_
  rintro e w1 ⟨rfl, hg1⟩
  have S1 := Lib.hid ((S0.out.alloc _).still hg1)
  clear hg1 S0
  go_wp2_with fail
  refine (sees_w b lv ts (t :: r) fin d _ [w_boxes] _ _ h2 (S1.out.alloc _).p (txtRow_one _ _ w_boxes _ _ _ rfl rfl)).mono ?_
  rintro e w2 ⟨rfl, hg1⟩
  have S2 := Lib.hid ((S1.out.alloc _).still hg1)
  clear hg1 S1
  go_wp2_with fail
  refine (sees_w b lv ts (t :: r) fin d _ [[40]] _ _ h3 (S2.out.alloc _).p (txtRow_one _ _ [40] _ _ _ rfl rfl)).mono ?_
  rintro e w3 ⟨rfl, hg1⟩
  have S3 := Lib.hid ((S2.out.alloc _).still hg1)
  clear hg1 S2
  go_wp2_with fail
  refine (open_deep b lv ts (t :: r) fin d _ S3.out.p hd).mono ?_
  intro e w4 ⟨he, hg⟩
  have HE := Lib.hid he
  clear he
  obtain rfl : e = _ := HE.out
  exact ⟨rfl, out_error rfl rfl (grown_trans S3.out.g hg)⟩

theorem one_of {m : Nat} (he : ExprC m) : OneC (m + 1) := by
  intro b lv ts r fin d w hm hd h
  cases r with
  | nil =>
    rw [pOne_nil]
    exact one_name b lv ts [] fin d w h rfl rfl rfl
  | cons t r =>
    simp only [List.length_cons] at hm
    rw [pOne_cons]
    have e1 : seesR (t :: r) [w_empty] = isT t w_empty := seesR_one _ _ _
    have e2 : seesR (t :: r) [w_boxes] = isT t w_boxes := seesR_one _ _ _
    have e3 : seesR (t :: r) [[40]] = isT t [40] := seesR_one _ _ _
    cases h1 : isT t w_empty
    · rw [if_neg (by decide)]
      cases h2 : isT t w_boxes
      · rw [if_neg (by decide)]
        cases h3 : isT t [40]
        · rw [if_neg (by decide)]
          exact one_name b lv ts (t :: r) fin d w h (e1.trans h1) (e2.trans h2) (e3.trans h3)
        · rw [if_pos rfl]
          by_cases hd2 : 64 ≤ d
          · rw [if_pos hd2]
            exact one_deep b lv ts r fin d t w hd2 h (e1.trans h1) (e2.trans h2) (e3.trans h3)
          · rw [if_neg hd2]
            exact one_paren m b lv ts r fin d t w he (by omega) (by omega) h (by rw [pMust, h3]; rfl) (e1.trans h1) (e2.trans h2) (e3.trans h3)
      · rw [if_pos rfl]
        exact one_boxes b lv ts r fin d t w h (e1.trans h1) (e2.trans h2)
    · rw [if_pos rfl]
      exact one_empty b lv ts r fin d t w h (e1.trans h1)
theorem oneC_zero : OneC 0 := by
  intro b lv ts r fin d w hm hd h
  cases r with
  | nil =>
    rw [pOne_nil]
    exact one_name b lv ts [] fin d w h rfl rfl rfl
  | cons t r => simp at hm
end Go.Proofs.YtdjklnlkocconaaGreatDoor
