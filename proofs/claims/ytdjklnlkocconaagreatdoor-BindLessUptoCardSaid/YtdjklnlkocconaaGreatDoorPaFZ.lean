/-
  Parse's deferred closure: the walks.
  The parser's stmt, whatever the tokens.
  What Parse makes in memory. No walk.
  deck.Parse: the walk.
-/
import Derived.Test.YtdjklnlkocconaaGreatDoorPaDZ
import Derived.Test.YtdjklnlkocconaaGreatDoorPaEZ
import Derived.Test.YtdjklnlkocconaaGreatDoorLexKnownZ
import Derived.Test.YtdjklnlkocconaaGreatDoorPlainZ
import Derived.Recover
import Derived.RegionTactic
import Derived.Deep.AppendLies
import Derived.Deep.RegionLaw
import Derived.Deep.LoopGhost
import Derived.Deep.RegionHeld3
namespace Go.Proofs.YtdjklnlkocconaaGreatDoor
open Go Go.RowKit

def Blk1 (w : World) (g : Nat) (v : Value) (T : TypeId) : Prop := w.heap[g]? = some (.cells #[v] T (0, 0))
theorem Blk1.cell {w : World} {g : Nat} {v : Value} {T : TypeId} (h : Blk1 w g v T) : w.cell? ⟨g, 0, none⟩ = some v := by
  unfold Blk1 at h
  simp [World.cell?, h]
theorem Blk1.free {w : World} {g : Nat} {v : Value} {T : TypeId} (h : Blk1 w g v T) : w.frozen? ⟨g, 0, none⟩ = false := by
  unfold Blk1 at h
  simp [World.frozen?, h]
theorem Blk1.lt {w : World} {g : Nat} {v : Value} {T : TypeId} (h : Blk1 w g v T) : g < w.heap.size := by
  unfold Blk1 at h
  rcases Nat.lt_or_ge g w.heap.size with h' | h'
  · exact h'
  · simp [Array.getElem?_eq_none h'] at h
theorem Blk1.grown {w w' : World} {g : Nat} {v : Value} {T : TypeId} {row : Option Nat} (h : Blk1 w g v T) (hg : w.grownBy w' row) (hn : some g ≠ row) : Blk1 w' g v T := (hg.block g h.lt hn).trans h
theorem Blk1.set {w : World} {g : Nat} {v : Value} {T : TypeId} (h : Blk1 w g v T) (u : Value) : Blk1 (w.setCell ⟨g, 0, none⟩ u) g u T := by
  unfold Blk1 at h ⊢
  simp [World.setCell, Array.getElem?_modify, h]
theorem Blk1.new (w : World) (v : Value) (T : TypeId) : Blk1 (w.alloc (.cells #[v] T)) w.heap.size v T := (MapKept.heap_alloc w _).1

set_option maxHeartbeats 1000000 in
set_option maxRecDepth 100000 in
theorem catch_wrong (L : Nat) (l a e : Value) (p : Int) (older : List PanicEntry) (w : World) (hL : Blk1 w L l 22) (hA : Blk1 w (L + 1) a 3) (hE : Blk1 w (L + 1 + 1) e 25) :
    CallsD Tryz.prog 34 #[.pointer (some ⟨L, 0, none⟩), .pointer (some ⟨L + 1, 0, none⟩), .pointer (some ⟨L + 1 + 1, 0, none⟩)] (.panicking ({ v := .iface 70 (.agg #[.int .i64 p]), recovered := false } :: older)) w fun e u' w' =>
      e = .returned (.tuple #[]) ∧ u' = .panicking ({ v := .iface 70 (.agg #[.int .i64 p]), recovered := true } :: older) ∧ (w'.cell? ⟨L, 0, none⟩ = some (.slice none 0 0) ∧ w'.cell? ⟨L + 1, 0, none⟩ = some (.int .i64 p) ∧ w'.cell? ⟨L + 1 + 1, 0, none⟩ = some (.int .i64 21)) ∧ Below L w w' := by
  have c0 := hL.cell
  have c1 := hA.cell
  have c2 := hE.cell
  have f0 := hL.free
  have f1 := hA.free
  have f2 := hE.free
  have hta : ∀ w, (Instr.typeAssert (.iface 70 (.agg #[.int .i64 p])) 20 70 true).run Tryz.prog w = .ok (.tuple #[.agg #[.int .i64 p], .bool true]) w := fun _ => by kernel_rfl
  refine callsD_of_wpS Tryz.func34 rfl fun c₀ cs hu => ?_
  apply wpS_seq
  apply wpS_region
  simp [wpOpsS, go_sem, recoverD, hu, Tryz.ntmps34, Exit.thenS]
  refine wpS_of_wp ?_
  simp only [Array.replicate_succ, Array.replicate_zero, List.push_toArray, List.nil_append, List.cons_append]
  go_wp2
  have hg : w.grownBy (w.alloc (.cells #[.int .i64 p] 70)) none := grown_alloc _ _ _
  have H4 := Lib.hid (Blk1.new w (.int .i64 p) 70)
  have HL := Lib.hid (hL.grown hg (by simp))
  have HA := Lib.hid (hA.grown hg (by simp))
  have HE := Lib.hid (hE.grown hg (by simp))
  have HB : Hid (Below L w (w.alloc (.cells #[.int .i64 p] 70))) := (Below.refl _ _).alloc (Nat.le_of_lt hL.lt) _
  have hLt := hL.lt
  have hAt := hA.lt
  clear hg hL hA hE c0 c1 c2 f0 f1 f2 hta
  generalize (w.alloc (.cells #[.int .i64 p] 70)) = w2 at *
  have n1 : ¬ L = w.heap.size := by have := hLt; omega
  have n2 : ¬ w.heap.size = L := by have := hLt; omega
  have n3 : ¬ L + 1 = w.heap.size := by have := hAt; omega
  have n4 : ¬ w.heap.size = L + 1 := by have := hAt; omega
  have c0 := HL.out.cell
  have c1 := HA.out.cell
  have c2 := HE.out.cell
  have c4 := H4.out.cell
  have f0 := HL.out.free
  have f1 := HA.out.free
  have f2 := HE.out.free
  go_region
  have g0 : w2.grownBy _ (some L) := grown_setCell w2 ⟨L, 0, none⟩ (.slice none 0 0)
  have g1 : World.grownBy _ _ (some (L + 1)) := grown_setCell (w2.setCell ⟨L, 0, none⟩ (.slice none 0 0)) ⟨L + 1, 0, none⟩ (.int .i64 p)
  have g2 : World.grownBy _ _ (some (L + 1 + 1)) := grown_setCell ((w2.setCell ⟨L, 0, none⟩ (.slice none 0 0)).setCell ⟨L + 1, 0, none⟩ (.int .i64 p)) ⟨L + 1 + 1, 0, none⟩ (.int .i64 21)
  have b0 := (((HL.out.set (.slice none 0 0)).grown g1 (by intro e; have := Option.some.inj e; omega)).grown g2 (by intro e; have := Option.some.inj e; omega)).cell
  have b1 := (((HA.out.grown g0 (by intro e; have := Option.some.inj e; omega)).set (.int .i64 p)).grown g2 (by intro e; have := Option.some.inj e; omega)).cell
  have b2 := (((HE.out.grown g0 (by intro e; have := Option.some.inj e; omega)).grown g1 (by intro e; have := Option.some.inj e; omega)).set (.int .i64 21)).cell
  have hb := (((HB.out.setCell (p := ⟨L, 0, none⟩) (Nat.le_refl _) (.slice none 0 0)).setCell (p := ⟨L + 1, 0, none⟩) (Nat.le_succ _) (.int .i64 p)).setCell (p := ⟨L + 1 + 1, 0, none⟩) (Nat.le_succ_of_le (Nat.le_succ _)) (.int .i64 21)).drew
  refine ⟨rfl, _, rfl, _, results_none rfl _ _ _, rfl, rfl, ⟨b0, b1, b2⟩, hb⟩

set_option maxHeartbeats 1000000 in
set_option maxRecDepth 100000 in
theorem catch_idle (L A E : Addr) (w : World) :
    CallsD Tryz.prog 34 #[.pointer (some L), .pointer (some A), .pointer (some E)] .returning w fun e u' w' => e = .returned (.tuple #[]) ∧ u' = .returning ∧ w' = w := by
  refine callsD_of_wpS Tryz.func34 rfl fun c₀ cs hu => ?_
  apply wpS_seq
  apply wpS_region
  simp [wpOpsS, go_sem, recoverD, hu, Tryz.ntmps34, Exit.thenS]
  refine wpS_of_wp ?_
  simp only [Array.replicate_succ, Array.replicate_zero, List.push_toArray, List.nil_append, List.cons_append]
  go_wp2
  refine ⟨rfl, _, ?_, _, results_none rfl _ _ _, rfl, rfl, rfl⟩
  cases c₀
  simp_all
end Go.Proofs.YtdjklnlkocconaaGreatDoor

namespace Go.Proofs.YtdjklnlkocconaaGreatDoor
open Go Go.RowKit

set_option maxHeartbeats 1000000 in
set_option maxRecDepth 100000 in
theorem stmt_none (b : Nat) (lv : Value) (ts r : List Tok) (fin : Int) (w : World) (h : PW w b lv ts r fin ((0 : Nat) : Int)) (hs : Hid (seesR r [w_input, w_let, w_check, w_small, w_write] = false)) :
    Calls Tryz.prog 36 #[.pointer (some ⟨b, 0, none⟩)] w fun e w' => StOut w b lv ts fin (.error r) e w' := by
  have S0 := Lib.hid (SS.start h)
  clear h
  have pb := S0.out.pcell
  have pb2 := fun o => (S0.out.alloc o).pcell
  go_enter Tryz.func36, Tryz.ntmps36
  go_wp2_with fail
  refine (sees_w b lv ts r fin _ _ [w_input, w_let, w_check, w_small, w_write] false _ hs (S0.out.alloc _).p (txtRow_at _ _ [w_input, w_let, w_check, w_small, w_write] _ _ _ _ rfl rfl (by simp) (by simp))).mono ?_
  rintro e w1 ⟨rfl, hg⟩
  have S1 := Lib.hid ((S0.out.alloc _).still hg)
  clear hg S0 pb pb2
  have pb := S1.out.pcell
  go_wp2_with fail
  refine (fail_at b lv ts r fin _ _ S1.out.p).mono ?_
  rintro e w9 ⟨he, q, rfl⟩
  have HE := Lib.hid he
  clear he
  obtain rfl : e = _ := HE.out
  exact ⟨rfl, out_error rfl rfl (grown_trans S1.out.g (grown_drew _ q _))⟩

theorem kindNo_none {t : Tok} {r : List Tok} (h : seesR (t :: r) [w_input, w_let, w_check, w_small, w_write] = false) : kindNo t = 0 := by
  simp only [seesR, List.contains_cons, List.contains_nil, Bool.or_false] at h
  unfold kindNo isT
  cases hk : (t.kind != 2)
  · rfl
  · rw [hk] at h
    simp only [Bool.true_and, Bool.or_eq_false_iff] at h
    rw [h.1, h.2.1, h.2.2.1, h.2.2.2.1, h.2.2.2.2]; rfl
theorem kindNo_is {t : Tok} {r : List Tok} (h : seesR (t :: r) [w_input, w_let, w_check, w_small, w_write] = true) :
    (t.text = w_input ∧ kindNo t = 1) ∨ (t.text = w_let ∧ kindNo t = 2) ∨ (t.text = w_check ∧ kindNo t = 3) ∨ (t.text = w_small ∧ kindNo t = 4) ∨ (t.text = w_write ∧ kindNo t = 5) := by
  simp only [seesR, List.contains_cons, List.contains_nil, Bool.or_false, Bool.and_eq_true, Bool.or_eq_true, beq_iff_eq] at h
  unfold kindNo isT
  rw [h.1]
  rcases h.2 with e | e | e | e | e <;> rw [e] <;> decide

theorem stmt_at (b : Nat) (lv : Value) (ts r : List Tok) (fin : Int) (w : World) (h : PW w b lv ts r fin ((0 : Nat) : Int)) :
    Calls Tryz.prog 36 #[.pointer (some ⟨b, 0, none⟩)] w fun e w' => StOut w b lv ts fin (pStmt r) e w' := by
  cases hs : seesR r [w_input, w_let, w_check, w_small, w_write]
  · have e : pStmt r = .error r := by
      cases r with
      | nil => rfl
      | cons t r => rw [pStmt, if_pos (kindNo_none hs)]
    rw [e]
    exact stmt_none b lv ts r fin w h hs
  · cases r with
    | nil => cases hs
    | cons t r =>
      have ee : ∀ k, kindNo t = k → k ≠ 0 → pStmt (t :: r) = (pName r).then fun s r2 => (pMust [61] r2).then fun _ r3 => sBody k s r3 := fun k hk h0 => by rw [pStmt, if_neg (by rw [hk]; exact h0), hk]
      have q : ∀ (x y : List UInt8) (β : Bool), (x == y) = β → t.text = x → ((bs t.text).toList == y) = β := fun x y β h1 h2 => by rw [bs_toList, h2]; exact h1
      rcases kindNo_is hs with ⟨ht, hk⟩ | ⟨ht, hk⟩ | ⟨ht, hk⟩ | ⟨ht, hk⟩ | ⟨ht, hk⟩
      · exact stmt_input b lv ts r fin t _ w h hs (q _ _ _ (by decide) ht) (ee 1 hk (by decide))
      · exact stmt_let b lv ts r fin t _ w h hs (q _ _ _ (by decide) ht) (q _ _ _ (by decide) ht) (ee 2 hk (by decide))
      · exact stmt_check b lv ts r fin t _ w h hs (q _ _ _ (by decide) ht) (q _ _ _ (by decide) ht) (q _ _ _ (by decide) ht) (ee 3 hk (by decide))
      · exact stmt_small b lv ts r fin t _ w h hs (q _ _ _ (by decide) ht) (q _ _ _ (by decide) ht) (q _ _ _ (by decide) ht) (q _ _ _ (by decide) ht) (ee 4 hk (by decide))
      · exact stmt_write b lv ts r fin t _ w h hs (q _ _ _ (by decide) ht) (q _ _ _ (by decide) ht) (q _ _ _ (by decide) ht) (q _ _ _ (by decide) ht) (q _ _ _ (by decide) ht) (ee 5 hk (by decide))
end Go.Proofs.YtdjklnlkocconaaGreatDoor

namespace Go.Proofs.YtdjklnlkocconaaGreatDoor
open Go Go.RowKit

/-- Statements in a row of cells; their trees are in memory. -/
def StRow (ok : Nat → Prop) (w : World) : List St → List Value → Prop
  | [], cs => cs = []
  | x :: l, cs => ∃ A B rest, cs = stCells x A B ++ rest ∧ NdIs ok w x.a A.val ∧ NdIs ok w x.b B.val ∧ StRow ok w l rest

theorem StRow.kept {ok ok' : Nat → Prop} {w w' : World} (hs : w.heap.size ≤ w'.heap.size) (hb : ∀ g, g < w.heap.size → ok g → w'.heap[g]? = w.heap[g]? ∧ ok' g) : ∀ {l : List St} {cs : List Value}, StRow ok w l cs → StRow ok' w' l cs
  | [], _, h => h
  | _ :: _, _, ⟨A, B, rest, h1, h2, h3, h4⟩ => ⟨A, B, rest, h1, NdIs.kept hs hb _ _ h2, NdIs.kept hs hb _ _ h3, StRow.kept hs hb h4⟩
theorem StRow.snoc {ok : Nat → Prop} {w : World} {x : St} {A B : NV} (ha : NdIs ok w x.a A.val) (hb : NdIs ok w x.b B.val) : ∀ {l : List St} {cs : List Value}, StRow ok w l cs → StRow ok w (l ++ [x]) (cs ++ stCells x A B)
  | [], _, h => ⟨A, B, [], by rw [show _ = [] from h]; simp, ha, hb, rfl⟩
  | _ :: _, _, ⟨A', B', rest, h1, h2, h3, h4⟩ => ⟨A', B', rest ++ stCells x A B, by rw [h1, List.append_assoc], h2, h3, StRow.snoc ha hb h4⟩

/-- A deck's statements, out of its tokens, or the place. -/
def deckR (ts : List Tok) (fin : Int) : Except Int (List St) := match pDeck ts with | .error r => .error (posOf r fin) | .ok l => .ok l

/-- What Parse comes to. -/
def ParseEnd (B : Nat) (R : Except Int (List St)) (e : Ending) (w' : World) : Prop :=
  match R with
  | .error k => e = .returned (.tuple #[.slice none 0 0, .int .i64 k, .int .i64 21])
  | .ok l => ∃ v cs, e = .returned (.tuple #[v, .int .i64 0, .int .i64 0]) ∧ w'.ownsRow B 39 13 v l.length cs ∧ StRow (fun _ => True) w' l cs

theorem info39 : (Tryz.prog.info? 39).map (fun i => (i.zero, i.size, i.bytes)) = some (some (stVal .zero .zero .zero), 13, 160) := by kernel_rfl

/-- The three results' blocks. -/
structure R3 (w : World) (L : Nat) (x y z : Value) : Prop where
  l : Blk1 w L x 22
  a : Blk1 w (L + 1) y 3
  e : Blk1 w (L + 1 + 1) z 25
theorem R3.cells {w : World} {L : Nat} {x y z : Value} (h : R3 w L x y z) : w.cell? ⟨L, 0, none⟩ = some x ∧ w.cell? ⟨L + 1, 0, none⟩ = some y ∧ w.cell? ⟨L + 1 + 1, 0, none⟩ = some z ∧ w.frozen? ⟨L, 0, none⟩ = false ∧ w.frozen? ⟨L + 1, 0, none⟩ = false ∧ w.frozen? ⟨L + 1 + 1, 0, none⟩ = false :=
  ⟨h.l.cell, h.a.cell, h.e.cell, h.l.free, h.a.free, h.e.free⟩
theorem R3.grown {w w' : World} {L : Nat} {x y z : Value} {row : Option Nat} (h : R3 w L x y z) (hg : w.grownBy w' row) (hn : ∀ k, row = some k → L + 3 ≤ k) : R3 w' L x y z :=
  ⟨h.l.grown hg (by intro e; have := hn _ e.symm; omega), h.a.grown hg (by intro e; have := hn _ e.symm; omega), h.e.grown hg (by intro e; have := hn _ e.symm; omega)⟩
theorem R3.still {w w' : World} {L : Nat} {x y z : Value} (h : R3 w L x y z) (hg : w.grownBy w' none) : R3 w' L x y z := h.grown hg (fun k e => by cases e)
theorem R3.set0 {w : World} {L : Nat} {x y z : Value} (h : R3 w L x y z) (u : Value) : R3 (w.setCell ⟨L, 0, none⟩ u) L u y z := by
  have hg : w.grownBy (w.setCell ⟨L, 0, none⟩ u) (some L) := grown_setCell w ⟨L, 0, none⟩ u
  exact ⟨h.l.set u, h.a.grown hg (by intro e; have := Option.some.inj e; omega), h.e.grown hg (by intro e; have := Option.some.inj e; omega)⟩
theorem R3.set1 {w : World} {L : Nat} {x y z : Value} (h : R3 w L x y z) (u : Value) : R3 (w.setCell ⟨L + 1, 0, none⟩ u) L x u z := by
  have hg : w.grownBy (w.setCell ⟨L + 1, 0, none⟩ u) (some (L + 1)) := grown_setCell w ⟨L + 1, 0, none⟩ u
  exact ⟨h.l.grown hg (by intro e; have := Option.some.inj e; omega), h.a.set u, h.e.grown hg (by intro e; have := Option.some.inj e; omega)⟩
theorem R3.set2 {w : World} {L : Nat} {x y z : Value} (h : R3 w L x y z) (u : Value) : R3 (w.setCell ⟨L + 1 + 1, 0, none⟩ u) L x y u := by
  have hg : w.grownBy (w.setCell ⟨L + 1 + 1, 0, none⟩ u) (some (L + 1 + 1)) := grown_setCell w ⟨L + 1 + 1, 0, none⟩ u
  exact ⟨h.l.grown hg (by intro e; have := Option.some.inj e; omega), h.a.grown hg (by intro e; have := Option.some.inj e; omega), h.e.set u⟩
theorem R3.start (w : World) : R3 (((w.alloc (.cells #[.slice none 0 0] 22)).alloc (.cells #[.int .i64 0] 3)).alloc (.cells #[.int .i64 0] 25)) w.heap.size (.slice none 0 0) (.int .i64 0) (.int .i64 0) := by
  have h1 := Blk1.new w (.slice none 0 0) 22
  have h2 := Blk1.new (w.alloc (.cells #[.slice none 0 0] 22)) (.int .i64 0) 3
  have h3 := Blk1.new ((w.alloc (.cells #[.slice none 0 0] 22)).alloc (.cells #[.int .i64 0] 3)) (.int .i64 0) 25
  have g2 := grown_alloc (w.alloc (.cells #[.slice none 0 0] 22)) (.cells #[.int .i64 0] 3) none
  have g3 := grown_alloc ((w.alloc (.cells #[.slice none 0 0] 22)).alloc (.cells #[.int .i64 0] 3)) (.cells #[.int .i64 0] 25) none
  have e2 : (w.alloc (.cells #[.slice none 0 0] 22)).heap.size = w.heap.size + 1 := by simp
  have e3 : ((w.alloc (.cells #[.slice none 0 0] 22)).alloc (.cells #[.int .i64 0] 3)).heap.size = w.heap.size + 1 + 1 := by simp
  rw [e2] at h2
  rw [e3] at h3
  exact ⟨(h1.grown g2 (by simp)).grown g3 (by simp), h2.grown g3 (by simp), h3⟩
theorem R3.res {w : World} {L : Nat} {x y z : Value} (h : R3 w L x y z) {tmps : Array Value} (h2 : tmps.getD 2 undef = .pointer (some ⟨L, 0, none⟩)) (h3 : tmps.getD 3 undef = .pointer (some ⟨L + 1, 0, none⟩)) (h4 : tmps.getD 4 undef = .pointer (some ⟨L + 1 + 1, 0, none⟩)) :
    (results Tryz.f19 tmps).run Tryz.prog w = .ok (.tuple #[x, y, z]) w := by
  obtain ⟨c0, c1, c2, _, _, _⟩ := h.cells
  rw [Array.getD_eq_getD_getElem?] at h2 h3 h4
  simp [results, Tryz.results19, h2, h3, h4, go_sem, c0, c1, c2]

theorem grown_row {w w' : World} {row : Option Nat} (h : w.grownBy w' row) {k : Nat} (hk : k < w.heap.size) (hn : ∀ c, row = some c → k ≠ c) : w'.heap[k]? = w.heap[k]? := by
  refine h.block k hk ?_
  intro e
  exact hn k e.symm rfl

/-- The parser behind a change of blocks that are neither its own nor its tokens'. -/
theorem PW.apart {w w' : World} {b : Nat} {lv : Value} {ts r : List Tok} {fin deep : Int} {row : Option Nat} (h : PW w b lv ts r fin deep) (hg : w.grownBy w' row) (hb : ∀ c, row = some c → b ≠ c) (ho : ∀ c, row = some c → ∀ a n k, lv = .slice (some a) n k → a.block ≠ c) : PW w' b lv ts r fin deep := by
  refine ⟨(grown_row hg h.lt hb).trans h.ps, ?_, h.off, h.rest⟩
  obtain ⟨h1, a, cap, rfl, h2⟩ := h.row
  refine ⟨h1, a, cap, rfl, ?_⟩
  rcases h2 with h2 | ⟨g, rfl, hl, hc⟩
  · exact .inl h2
  · exact .inr ⟨g, rfl, Nat.lt_of_lt_of_le hl hg.size, fun j u hu => (World.cell?_of_block (a := ⟨g, j, none⟩) (grown_row hg hl (fun c e => ho c e ⟨g, 0, none⟩ _ _ rfl))).trans (hc j u hu)⟩

/-- Parse at work. -/
structure QS (w w' : World) (b : Nat) (lv : Value) (ts r : List Tok) (fin : Int) (acc : List St) (v : Value) : Prop where
  p : PW w' b lv ts r fin ((0 : Nat) : Int)
  hb : w.heap.size + 3 ≤ b
  lo : ∀ a n c, lv = .slice (some a) n c → w.heap.size + 3 ≤ a.block
  c : R3 w' w.heap.size v (.int .i64 0) (.int .i64 0)
  own : ∃ cs, w'.ownsRow (w.heap.size + 3) 39 13 v acc.length cs ∧ StRow (fun g => w.heap.size + 3 ≤ g ∧ g ≠ b ∧ some g ≠ v.ownBlock) w' acc cs
  nb : ∀ c, v.ownBlock = some c → b < c
  below : Below w.heap.size w w'

section
variable {w w' w'' : World} {b : Nat} {lv : Value} {ts r r' : List Tok} {fin : Int} {acc : List St} {v : Value}
theorem QS.moved (h : QS w w' b lv ts r fin acc v) (hg : w'.grownBy w'' (some b)) (hp : PW w'' b lv ts r' fin ((0 : Nat) : Int)) : QS w w'' b lv ts r' fin acc v := by
  have hb := h.hb
  obtain ⟨cs, h1, h2⟩ := h.own
  refine ⟨hp, hb, h.lo, h.c.grown hg (fun k e => by cases e; exact hb), ⟨cs, ?_, ?_⟩, h.nb, h.below.grown hg (by have := h.p.lt; omega) (fun k e => by cases e; omega)⟩
  · refine h1.kept hg (Or.inr ?_)
    intro e
    have := h.nb b e
    omega
  · exact h2.kept hg.size (fun g hl ho => ⟨hg.block g hl (by intro e; exact ho.2.1 (Option.some.inj e)), ho⟩)
theorem QS.still (h : QS w w' b lv ts r fin acc v) (hg : w'.grownBy w'' none) : QS w w'' b lv ts r fin acc v := by
  have hb := h.hb
  obtain ⟨cs, h1, h2⟩ := h.own
  refine ⟨h.p.grown hg, hb, h.lo, h.c.still hg, ⟨cs, ?_, ?_⟩, h.nb, h.below.grown hg (by have := h.p.lt; omega) (fun k e => by cases e)⟩
  · refine h1.kept hg ?_
    cases v.ownBlock with
    | none => exact .inl rfl
    | some k => exact .inr (by simp)
  · exact h2.kept hg.size (fun g hl ho => ⟨hg.block g hl (by simp), ho⟩)

theorem stCells_one (x : St) (A B : NV) : ∀ u ∈ stCells x A B, u.oneCell' = true := by
  intro u hu
  simp only [stCells, List.mem_cons, List.not_mem_nil, or_false] at hu
  rcases hu with rfl | rfl | rfl | rfl | rfl | rfl | rfl | rfl | rfl | rfl | rfl | rfl | rfl <;> rfl

/-- A statement more. -/
theorem QS.push {w5 w7 : World} {x : St} {A B : NV} {o : Obj} {g' n' cap' B0 : Nat} (h : QS w w5 b lv ts r fin acc v) (ha : NdIs (B0 ≤ ·) w5 x.a A.val) (hb : NdIs (B0 ≤ ·) w5 x.b B.val) (hB0 : b < B0) (hv0 : ∀ c, v.ownBlock = some c → c < B0)
    {cs : List Value} (h2 : StRow (fun g => w.heap.size + 3 ≤ g ∧ g ≠ b ∧ some g ≠ v.ownBlock) w5 acc cs) (hown : w7.ownsRow (w.heap.size + 3) 39 13 (.slice (some ⟨g', 0, none⟩) n' cap') (acc.length + 1) (cs ++ stCells x A B))
    (hgrow : (w5.alloc o).grownBy w7 v.ownBlock) (hat : v.ownBlock = some g' ∨ g' = w5.heap.size + 1) :
    QS w (w7.setCell ⟨w.heap.size, 0, none⟩ (.slice (some ⟨g', 0, none⟩) n' cap')) b lv ts r fin (acc ++ [x]) (.slice (some ⟨g', 0, none⟩) n' cap') := by
  have h6 := h.still (grown_alloc w5 o none)
  have hbb := h.hb
  have hnb := h.nb
  have e6 : (w5.alloc o).heap.size = w5.heap.size + 1 := by simp
  have hb5 := h.p.lt
  have hs7 := hgrow.size
  rw [e6] at hs7
  have hset : w7.grownBy (w7.setCell ⟨w.heap.size, 0, none⟩ (.slice (some ⟨g', 0, none⟩) n' cap')) (some w.heap.size) := grown_setCell w7 ⟨w.heap.size, 0, none⟩ _
  have p7 : PW w7 b lv ts r fin ((0 : Nat) : Int) := h6.p.apart hgrow (fun c e => by have := hnb c e; omega) (fun c e a n k el => by have := hnb c e; have := h.p.off a n k el; omega)
  have p8 : PW (w7.setCell ⟨w.heap.size, 0, none⟩ (.slice (some ⟨g', 0, none⟩) n' cap')) b lv ts r fin ((0 : Nat) : Int) := p7.apart hset (fun c e => by cases e; omega) (fun c e a n k el => by cases e; have := h.lo a n k el; omega)
  have hg'b : b < g' := by
    rcases hat with e | e
    · exact hnb _ e
    · omega
  have hk : ∀ g, g < w5.heap.size → w.heap.size + 3 ≤ g → some g ≠ v.ownBlock → (w7.setCell ⟨w.heap.size, 0, none⟩ (.slice (some ⟨g', 0, none⟩) n' cap')).heap[g]? = w5.heap[g]? := by
    intro g hl hge hne
    rw [hset.block g (by omega) (by intro e; have := Option.some.inj e; omega), hgrow.block g (by omega) hne]
    exact (grown_alloc w5 o none).block g hl (by simp)
  have hne' : ∀ g, g < w5.heap.size → some g ≠ v.ownBlock → some g ≠ (Value.slice (some ⟨g', 0, none⟩) n' cap').ownBlock := by
    intro g hl hne e
    have e2 : g = g' := by simpa [Value.ownBlock] using e
    rcases hat with e3 | e3
    · exact hne (by rw [e3, e2])
    · omega
  refine ⟨p8, hbb, h.lo, ?_, ⟨cs ++ stCells x A B, ?_, ?_⟩, ?_, ?_⟩
  · exact (h6.c.grown hgrow (fun k e => by have := hnb k e; omega)).set0 _
  · have h8 := hown
    have hl : (acc ++ [x]).length = acc.length + 1 := by simp
    rw [hl]
    refine h8.kept hset (Or.inr ?_)
    intro e
    have e2 : g' = w.heap.size := by simpa [Value.ownBlock] using e
    omega
  · have hsz8 : w5.heap.size ≤ (w7.setCell ⟨w.heap.size, 0, none⟩ (.slice (some ⟨g', 0, none⟩) n' cap')).heap.size := Nat.le_trans (by omega) hset.size
    refine StRow.snoc ?_ ?_ (h2.kept hsz8 (fun g hl ho => ⟨hk g hl ho.1 ho.2.2, ho.1, ho.2.1, hne' g hl ho.2.2⟩))
    · refine NdIs.kept hsz8 (fun g hl ho => ?_) _ _ ha
      have ho' : B0 ≤ g := ho
      have hne : some g ≠ v.ownBlock := by intro e; have := hv0 g e.symm; omega
      exact ⟨hk g hl (by omega) hne, by omega, by omega, hne' g hl hne⟩
    · refine NdIs.kept hsz8 (fun g hl ho => ?_) _ _ hb
      have ho' : B0 ≤ g := ho
      have hne : some g ≠ v.ownBlock := by intro e; have := hv0 g e.symm; omega
      exact ⟨hk g hl (by omega) hne, by omega, by omega, hne' g hl hne⟩
  · intro c e
    have e2 : g' = c := by simpa [Value.ownBlock] using e
    omega
  · exact (h6.below.grown hgrow (by omega) (fun k e => by have := hnb k e; omega)).setCell (p := ⟨w.heap.size, 0, none⟩) (Nat.le_refl _) _

/-- It ends: the results stored once more. -/
theorem QS.finish (h : QS w w' b lv ts r fin acc v) : R3 (((w'.setCell ⟨w.heap.size, 0, none⟩ v).setCell ⟨w.heap.size + 1, 0, none⟩ (.int .i64 0)).setCell ⟨w.heap.size + 1 + 1, 0, none⟩ (.int .i64 0)) w.heap.size v (.int .i64 0) (.int .i64 0) ∧
    ParseEnd w.heap.size (.ok acc) (.returned (.tuple #[v, .int .i64 0, .int .i64 0])) (((w'.setCell ⟨w.heap.size, 0, none⟩ v).setCell ⟨w.heap.size + 1, 0, none⟩ (.int .i64 0)).setCell ⟨w.heap.size + 1 + 1, 0, none⟩ (.int .i64 0)) ∧
    Below w.heap.size w (((w'.setCell ⟨w.heap.size, 0, none⟩ v).setCell ⟨w.heap.size + 1, 0, none⟩ (.int .i64 0)).setCell ⟨w.heap.size + 1 + 1, 0, none⟩ (.int .i64 0)) := by
  refine ⟨((h.c.set0 _).set1 _).set2 _, ?_, ((h.below.setCell (p := ⟨w.heap.size, 0, none⟩) (Nat.le_refl _) _).setCell (p := ⟨w.heap.size + 1, 0, none⟩) (Nat.le_succ _) _).setCell (p := ⟨w.heap.size + 1 + 1, 0, none⟩) (Nat.le_succ_of_le (Nat.le_succ _)) _⟩
  have hb := h.hb
  have hnb := h.nb
  obtain ⟨cs, h1, h2⟩ := h.own
  have g0 : w'.grownBy _ (some w.heap.size) := grown_setCell w' ⟨w.heap.size, 0, none⟩ v
  have g1 : World.grownBy _ _ (some (w.heap.size + 1)) := grown_setCell (w'.setCell ⟨w.heap.size, 0, none⟩ v) ⟨w.heap.size + 1, 0, none⟩ (.int .i64 0)
  have g2 : World.grownBy _ _ (some (w.heap.size + 1 + 1)) := grown_setCell ((w'.setCell ⟨w.heap.size, 0, none⟩ v).setCell ⟨w.heap.size + 1, 0, none⟩ (.int .i64 0)) ⟨w.heap.size + 1 + 1, 0, none⟩ (.int .i64 0)
  have hne : ∀ c, c < b → v.ownBlock ≠ some c := fun c hc e => by have := hnb c e; omega
  have o3 := ((h1.kept g0 (Or.inr (hne _ (by omega)))).kept g1 (Or.inr (hne _ (by omega)))).kept g2 (Or.inr (hne _ (by omega)))
  have hle : w.heap.size ≤ w.heap.size + 3 := by omega
  refine ⟨v, cs, rfl, ⟨o3.1, ?_⟩, ?_⟩
  · rcases o3.2 with h3 | ⟨g, cap, cur, h3, h4, h5⟩
    · exact .inl h3
    · exact .inr ⟨g, cap, cur, h3, by omega, h5⟩
  · refine h2.kept (Nat.le_trans g0.size (Nat.le_trans g1.size g2.size)) (fun g hl ho => ⟨?_, trivial⟩)
    have hg3 : w.heap.size + 3 ≤ g := ho.1
    rw [g2.block g (Nat.lt_of_lt_of_le hl (Nat.le_trans g0.size g1.size)) (by intro e; have := Option.some.inj e; omega), g1.block g (Nat.lt_of_lt_of_le hl g0.size) (by intro e; have := Option.some.inj e; omega), g0.block g hl (by intro e; have := Option.some.inj e; omega)]

end

end Go.Proofs.YtdjklnlkocconaaGreatDoor

namespace Go.Proofs.YtdjklnlkocconaaGreatDoor
open Go Go.RowKit

def ParseAt (w : World) (b : Nat) (lv : Value) (ts : List Tok) (fin : Int) (k : Nat) (wr : World) : Prop :=
  ∃ (r : List Tok) (acc : List St) (a : Option Addr) (n c : Nat), r.length < k ∧ QS w wr b lv ts r fin acc (.slice a n c) ∧ n = acc.length ∧ acc.length ≤ 1000 ∧ pDeck ts = pDeckF (r.length + 1) r acc

set_option maxHeartbeats 2000000 in
set_option maxRecDepth 100000 in
theorem parse_bad (s : ByteArray) (w : World) (k : Nat) (hs : s.size ≤ maxLen) (hg : Good w) (hR : Hid (lexS s.data.toList = .error k)) :
    Calls Tryz.prog 19 #[.string s] w fun e w' => e = .returned (.tuple #[.slice none 0 0, .int .i64 k, .int .i64 21]) ∧ Below w.heap.size w w' := by
  have hmf : ∀ (fn : Fn) (first cap : Array Value) (w : World), (Instr.makeFunc fn first cap).run Tryz.prog w = .ok (.func fn first cap) w := fun _ _ _ _ => rfl
  have HG : Hid (∀ w', Below w.heap.size w w' → Good w') := fun w' hb => hg.at hb
  have HB0 : Hid (Below w.heap.size w (((w.alloc (.cells #[.slice none 0 0] 22)).alloc (.cells #[.int .i64 0] 3)).alloc (.cells #[.int .i64 0] 25))) := (((Below.refl _ _).alloc (Nat.le_refl _) _).alloc (by simp) _).alloc (by simp; omega) _
  have H0 := Lib.hid (R3.start w)
  clear hg
  go_enter_defers Tryz.func19, Tryz.ntmps19
  go_wp2_with fail
  refine (tokens_every s _ hs (HG.out _ HB0.out)).mono ?_
  rintro e w1 ⟨hE, hb⟩
  have he := lexEnd_error hE hR.out
  clear hE
  subst he
  have hgr := grown_of_below hb none
  have K := Lib.hid (H0.out.still hgr)
  have HB1 := Lib.hid (HB0.out.trans (hb.mono (by simp; omega)))
  clear hgr hb H0 HB0
  obtain ⟨c1, c2, c3, f1, f2, f3⟩ := K.out.cells
  go_wp2
  have K2 := Lib.hid ((K.out.set1 (.int .i64 k)).set2 (.int .i64 21))
  have HB2 : Hid (Below w.heap.size w ((w1.setCell ⟨w.heap.size + 1, 0, none⟩ (.int .i64 k)).setCell ⟨w.heap.size + 1 + 1, 0, none⟩ (.int .i64 21))) := (HB1.out.setCell (p := ⟨w.heap.size + 1, 0, none⟩) (Nat.le_succ _) _).setCell (p := ⟨w.heap.size + 1 + 1, 0, none⟩) (Nat.le_succ_of_le (Nat.le_succ _)) _
  clear c1 c2 c3 f1 f2 f3 K HB1
  generalize ((w1.setCell ⟨w.heap.size + 1, 0, none⟩ (.int .i64 k)).setCell ⟨w.heap.size + 1 + 1, 0, none⟩ (.int .i64 21)) = w2 at *
  obtain ⟨c1, c2, c3, f1, f2, f3⟩ := K2.out.cells
  go_region
  all_goals
    go_wp2
    have K3 := ((K2.out.set0 (.slice none 0 0)).set1 (.int .i64 k)).set2 (.int .i64 21)
    have HB3 := (((HB2.out.setCell (p := ⟨w.heap.size, 0, none⟩) (Nat.le_refl _) (.slice none 0 0)).setCell (p := ⟨w.heap.size + 1, 0, none⟩) (Nat.le_succ _) (.int .i64 k)).setCell (p := ⟨w.heap.size + 1 + 1, 0, none⟩) (Nat.le_succ_of_le (Nat.le_succ _)) (.int .i64 21))
    refine ⟨_, R3.res (w := _) (x := .slice none 0 0) (y := .int .i64 k) (z := .int .i64 21) ?_ rfl rfl rfl, rfl, ?_⟩
    · first | exact K3 | exact ⟨K3.l, K3.a, K3.e⟩
    · first | exact HB3 | exact HB3.drew

theorem tokRow_of_owns {w : World} {B : Nat} {v : Value} {ts : List Tok} (h : w.ownsRow B 88 4 v ts.length (ts.flatMap tokCells)) : TokRow w v ts ∧ Off v w.heap.size := by
  have hlt := h.lt
  refine ⟨⟨?_, ?_⟩, fun a n c e => ?_⟩
  · obtain ⟨_, ⟨_, h0⟩ | ⟨g, cap, cur, _, _, _, hc, hm, _⟩⟩ := h
    · omega
    · unfold maxLen at hm; omega
  · cases ts with
    | nil =>
      obtain ⟨a, cap, rfl⟩ := owns_nil h
      exact ⟨a, cap, rfl, .inl rfl⟩
    | cons t ts =>
      obtain ⟨g, cap, rfl, _, hg, _, hc⟩ := owns_slice h (by simp)
      exact ⟨_, cap, rfl, .inr ⟨g, rfl, hg, hc⟩⟩
  · subst e
    exact (hlt _ rfl).2

theorem PW.begin {w : World} {lv : Value} {ts : List Tok} {b : Nat} (hb : b = w.heap.size) (h : TokRow w lv ts) (ho : Off lv b) (fin : Int) : PW (w.alloc (.cells #[lv, .int .i64 0, .int .i64 fin, .int .i64 0] 76)) b lv ts ts fin ((0 : Nat) : Int) := by
  subst hb
  refine ⟨?_, ?_, ho, by simp⟩
  · have e : ((ts.length - ts.length : Nat) : Int) = 0 := by simp
    rw [e]
    exact (MapKept.heap_alloc w _).1
  · exact h.grown ho (grown_alloc _ _ _)

theorem TokRow.apart {w w' : World} {lv : Value} {ts : List Tok} {c : Nat} (h : TokRow w lv ts) (hg : w.grownBy w' (some c)) (ho : ∀ a n k, lv = .slice (some a) n k → a.block ≠ c) : TokRow w' lv ts := by
  obtain ⟨h1, a, cap, rfl, h2⟩ := h
  refine ⟨h1, a, cap, rfl, ?_⟩
  rcases h2 with h2 | ⟨g, rfl, hl, hc⟩
  · exact .inl h2
  · exact .inr ⟨g, rfl, Nat.lt_of_lt_of_le hl hg.size, fun j u hu => (World.cell?_of_block (a := ⟨g, j, none⟩) (hg.block g hl (by intro e; exact ho ⟨g, 0, none⟩ _ _ rfl (Option.some.inj e)))).trans (hc j u hu)⟩

/-- A reading's panic is caught: the results say where. -/
theorem parse_caught {R : Ending → World → Prop} {tmps : Array Value} {L : Nat} {pos : Int} {x y z : Value} {w : World} {e : Ending} {chain : List PanicEntry} (he : Thrown pos e) (hch : e = .panicked chain) (hc : R3 w L x y z) (h2 : tmps.getD 2 undef = .pointer (some ⟨L, 0, none⟩)) (h3 : tmps.getD 3 undef = .pointer (some ⟨L + 1, 0, none⟩)) (h4 : tmps.getD 4 undef = .pointer (some ⟨L + 1 + 1, 0, none⟩))
    (hR : ∀ w', Below L w w' → R (.returned (.tuple #[.slice none 0 0, .int .i64 pos, .int .i64 21])) w') :
    bodyPostD Tryz.prog Tryz.f19 R (.panic chain) { tmps := tmps, defers := [{ target := Target.fn (Fn.func 34) #[.pointer (some ⟨L, 0, none⟩), .pointer (some ⟨L + 1, 0, none⟩), .pointer (some ⟨L + 1 + 1, 0, none⟩)], args := #[] }] } w := by
  have hch2 : chain = [{ v := .iface 70 (.agg #[.int .i64 pos]), recovered := false }] := by
    have h1 : e = _ := he
    rw [h1] at hch
    cases hch
    rfl
  subst hch2
  refine leaves_cons (f := 34) (args := #[.pointer (some ⟨L, 0, none⟩), .pointer (some ⟨L + 1, 0, none⟩), .pointer (some ⟨L + 1 + 1, 0, none⟩)]) (by simp) (by simp [go_sem]) ?_
  refine (catch_wrong L x y z pos [] w hc.l hc.a hc.e).mono ?_
  rintro e u' w' ⟨rfl, rfl, ⟨c0, c1, c2⟩, hb⟩
  have hres : (results Tryz.f19 tmps).run Tryz.prog w' = .ok (.tuple #[.slice none 0 0, .int .i64 pos, .int .i64 21]) w' := by
    rw [Array.getD_eq_getD_getElem?] at h2 h3 h4
    simp [results, Tryz.results19, h2, h3, h4, go_sem, c0, c1, c2]
  exact ⟨_, hres, hR w' hb⟩

theorem parse_left {R : Ending → World → Prop} {tmps : Array Value} {L : Nat} {x y z : Value} {w : World} (hc : R3 w L x y z) (h2 : tmps.getD 2 undef = .pointer (some ⟨L, 0, none⟩)) (h3 : tmps.getD 3 undef = .pointer (some ⟨L + 1, 0, none⟩)) (h4 : tmps.getD 4 undef = .pointer (some ⟨L + 1 + 1, 0, none⟩))
    (hR : R (.returned (.tuple #[x, y, z])) w) :
    bodyPostD Tryz.prog Tryz.f19 R .ret { tmps := tmps, defers := [{ target := Target.fn (Fn.func 34) #[.pointer (some ⟨L, 0, none⟩), .pointer (some ⟨L + 1, 0, none⟩), .pointer (some ⟨L + 1 + 1, 0, none⟩)], args := #[] }] } w := by
  refine leaves_cons (f := 34) (args := #[.pointer (some ⟨L, 0, none⟩), .pointer (some ⟨L + 1, 0, none⟩), .pointer (some ⟨L + 1 + 1, 0, none⟩)]) (by simp) (by simp [go_sem]) ?_
  refine (catch_idle _ _ _ w).mono ?_
  rintro e u' w' ⟨rfl, rfl, rfl⟩
  exact ⟨_, hc.res h2 h3 h4, hR⟩

set_option maxHeartbeats 4000000 in
set_option maxRecDepth 100000 in
theorem parse_good (s : ByteArray) (w : World) (ts : List Tok) (hs : s.size ≤ 65536) (hg : Good w) (hR : Hid (lexS s.data.toList = .ok ts)) :
    Calls Tryz.prog 19 #[.string s] w fun e w' => ParseEnd w.heap.size (deckR ts s.size) e w' ∧ Below w.heap.size w w' := by
  have hmf : ∀ (fn : Fn) (first cap : Array Value) (w : World), (Instr.makeFunc fn first cap).run Tryz.prog w = .ok (.func fn first cap) w := fun _ _ _ _ => rfl
  have HG : Hid (∀ w', Below w.heap.size w w' → Good w') := fun w' hb => hg.at hb
  have HB0 : Hid (Below w.heap.size w (((w.alloc (.cells #[.slice none 0 0] 22)).alloc (.cells #[.int .i64 0] 3)).alloc (.cells #[.int .i64 0] 25))) := (((Below.refl _ _).alloc (Nat.le_refl _) _).alloc (by simp) _).alloc (by simp; omega) _
  have H0 := Lib.hid (R3.start w)
  clear hg
  have hmax : s.size ≤ maxLen := by unfold maxLen; omega
  have HMAX := Lib.hid hmax
  clear hmax
  go_enter_defers Tryz.func19, Tryz.ntmps19
  go_wp2_with fail
  refine (tokens_every s _ HMAX.out (HG.out _ HB0.out)).mono ?_
  rintro e w1 ⟨hE, hb⟩
  obtain ⟨v, he, hown⟩ := lexEnd_ok hE hR.out
  clear hE
  subst he
  obtain ⟨htr, hoff⟩ := tokRow_of_owns hown
  obtain ⟨hts, ta, tc, rfl, htc⟩ := htr
  have HT : Hid (TokRow w1 (.slice ta ts.length tc) ts ∧ Off (.slice ta ts.length tc) w1.heap.size) := ⟨⟨hts, ta, tc, rfl, htc⟩, hoff⟩
  have HLO : Hid (∀ a n c, Value.slice ta ts.length tc = .slice (some a) n c → w.heap.size + 3 ≤ a.block) := by
    have h1 := hown.lt
    show ∀ a n c, _
    intro a n c e
    cases e
    have h2 := (h1 a.block rfl).1
    simpa using h2
  have hgr := grown_of_below hb none
  have K := Lib.hid (H0.out.still hgr)
  have HB1 := Lib.hid (HB0.out.trans (hb.mono (by simp; omega)))
  have hsz : w.heap.size + 3 ≤ w1.heap.size := by have := hb.size; simpa using this
  clear hgr hb H0 HB0 hown htc hoff
  obtain ⟨c1, c2, c3, f1, f2, f3⟩ := K.out.cells
  go_wp2_with fail
  have HQ : Hid (QS w (((w1.setCell ⟨w.heap.size + 1, 0, none⟩ (.int .i64 0)).setCell ⟨w.heap.size + 1 + 1, 0, none⟩ (.int .i64 0)).alloc (.cells #[.slice ta ts.length tc, .int .i64 0, .int .i64 s.size, .int .i64 0] 76)) w1.heap.size (.slice ta ts.length tc) ts ts s.size [] (.slice none 0 0)) := by
    have g1 : w1.grownBy _ (some (w.heap.size + 1)) := grown_setCell w1 ⟨w.heap.size + 1, 0, none⟩ (.int .i64 0)
    have g2 : World.grownBy _ _ (some (w.heap.size + 1 + 1)) := grown_setCell (w1.setCell ⟨w.heap.size + 1, 0, none⟩ (.int .i64 0)) ⟨w.heap.size + 1 + 1, 0, none⟩ (.int .i64 0)
    have t1 := HT.out.1.apart g1 (fun a n k e => by have := HLO.out a n k e; omega)
    have t2 := t1.apart g2 (fun a n k e => by have := HLO.out a n k e; omega)
    refine ⟨PW.begin (by simp [World.setCell]) t2 HT.out.2 _, hsz, HLO.out, ((K.out.set1 _).set2 _).still (grown_alloc _ _ _), ⟨[], World.ownsRow_nil _ _ _ _, rfl⟩, (fun c e => by cases e), ?_⟩
    exact ((HB1.out.setCell (p := ⟨w.heap.size + 1, 0, none⟩) (Nat.le_succ _) _).setCell (p := ⟨w.heap.size + 1 + 1, 0, none⟩) (Nat.le_succ_of_le (Nat.le_succ _)) _).alloc (by simp [World.setCell]; omega) _
  clear c1 c2 c3 f1 f2 f3 K HB1 HT HLO HG HMAX hmf
  generalize (((w1.setCell ⟨w.heap.size + 1, 0, none⟩ (.int .i64 0)).setCell ⟨w.heap.size + 1 + 1, 0, none⟩ (.int .i64 0)).alloc (.cells #[.slice ta ts.length tc, .int .i64 0, .int .i64 s.size, .int .i64 0] 76)) = w3 at *
  generalize w1.heap.size = b at *
  go_loopg [24] (ts.length + 1) (fun k u wr => Hid (ParseAt w b (.slice ta ts.length tc) ts s.size k wr))
  case atStart => exact ⟨ts, [], none, 0, 0, Nat.lt_succ_self _, HQ.out, rfl, by simp, rfl⟩
  case round =>
    obtain ⟨r2, acc, va, vn, vc, hlt, hq, rfl, hacc, hpd⟩ := hrel.out
    have Q := Lib.hid hq
    have HPD := Lib.hid hpd
    clear hrel hq hpd
    obtain ⟨k, hk⟩ : ∃ k, ts.length - r2.length = k := ⟨_, rfl⟩
    obtain ⟨_, d1, _, _, _, _⟩ := Q.out.p.ps.cells
    rw [hk] at d1
    obtain ⟨c1, c2, c3, f1, f2, f3⟩ := Q.out.c.cells
    cases r2 with
    | nil =>
      have hkn : ts.length ≤ k := by simp at hk; omega
      have hd1 : decide (k < ts.length) = false := by simp; omega
      have hd2 : decide ((k : Int) < (ts.length : Int)) = false := by simp; omega
      clear hk hlt
      have HF : Hid _ := Lib.hid Q.out.finish
      have HR : Hid (deckR ts s.size = .ok acc) := by
        show _ = _
        rw [deckR, HPD.out]; rfl
      go_wp2_with fail
      refine parse_left HF.out.1 rfl rfl rfl ?_
      rw [HR.out]
      exact HF.out.2
    | cons t r3 =>
      have hl := (rest_cons Q.out.p.rest)
      have hkn : k < ts.length := by have := hl.2.1; simp only [List.length_cons] at hk; omega
      by_cases h1000 : acc.length = 1000
      · have he1 : ((acc.length : Int) == 1000) = true := by rw [h1000]; rfl
        have HR : Hid (deckR ts s.size = .error (posOf (t :: r3) s.size)) := by
          show _ = _
          rw [deckR, HPD.out, List.length_cons, pDeckF, if_pos h1000]
        clear hk hlt hl h1000
        go_wp2_with fail
        refine (fail_at b _ ts (t :: r3) s.size _ _ Q.out.p).mono ?_
        rintro e w5 ⟨he, q, rfl⟩
        have HE := Lib.hid he
        clear he
        obtain rfl : e = _ := HE.out
        refine parse_caught (L := w.heap.size) (pos := posOf (t :: r3) s.size) (x := .slice va acc.length vc) (y := .int .i64 0) (z := .int .i64 0) rfl rfl (Q.out.c.still (grown_drew _ q none)) rfl rfl rfl ?_
        intro w' hb
        rw [HR.out]
        exact ⟨rfl, (Q.out.still (grown_drew _ q none)).below.trans hb⟩
      · have he1 : ((acc.length : Int) == 1000) = false := by simp; omega
        have HS : Hid (wr.grownBy wr.drew none) := grown_drew wr 1 none
        have HPD2 : Hid (pDeck ts = match pStmt (t :: r3) with | .error r1 => .error r1 | .ok (x, r1) => pDeckF (r3.length + 1) r1 (acc ++ [x])) := by
          show _ = _
          rw [HPD.out, List.length_cons, pDeckF, if_neg h1000]
          cases pStmt (t :: r3) with
          | error _ => rfl
          | ok p => cases p; rfl
        have hlt2 : r3.length + 1 < gk := by simpa only [List.length_cons] using hlt
        clear hk hlt hl HPD
        cases hps : pStmt (t :: r3) with
        | error r4 =>
          have HO : Hid (∀ w1, wr.grownBy w1 none → Calls Tryz.prog 36 #[.pointer (some ⟨b, 0, none⟩)] w1 fun e w' => Thrown (posOf r4 s.size) e ∧ R3 w' w.heap.size (.slice va acc.length vc) (.int .i64 0) (.int .i64 0) ∧ Below w.heap.size w w') := by
            show ∀ _, _
            intro w1 hg
            have Q1 := Q.out.still hg
            refine (stmt_at b _ ts (t :: r3) s.size w1 Q1.p).mono fun e w' ho => ?_
            rw [hps] at ho
            exact ⟨ho.1, Q1.c.grown ho.2 (fun k e => by cases e; exact hsz), Q1.below.grown ho.2 (by have := Q1.p.lt; omega) (fun k e => by cases e; omega)⟩
          have HR : Hid (deckR ts s.size = .error (posOf r4 s.size)) := by
            show _ = _
            rw [deckR, HPD2.out, hps]
          clear hps HPD2
          go_wp2_with fail
          refine wp_region_any (by kernel_rfl) ?_
          change wpAny _ _ _ _ _ _ _ (World.drew _)
          refine wpAny_ready (rs := [0, 1]) (by kernel_rfl) (by simp) ?_
          refine AllReady.cons rfl (fun K hK => ?_) ?_
          · go_simp
            refine hK _ _ ?_
            clear hK K
            refine wpAny_ready (rs := [1]) (by kernel_rfl) (by simp) ?_
            refine AllReady.cons rfl (fun K hK => ?_) AllReady.nil
            go_simp
            refine hK _ _ ?_
            clear hK K
            refine wpAny_ready (rs := [2]) (by kernel_rfl) (by simp) ?_
            refine AllReady.cons rfl (fun K hK => ?_) AllReady.nil
            go_simp
            go_at_call 36
            ((refine (HO.out _ HS.out).mono ?_); intro e w5 ⟨he, hc, hb⟩; have HE := Lib.hid he; clear he; obtain rfl : e = _ := HE.out; refine parse_caught (L := w.heap.size) (pos := posOf r4 s.size) (x := .slice va acc.length vc) (y := .int .i64 0) (z := .int .i64 0) rfl rfl hc rfl rfl rfl ?_; intro w' hb2; rw [HR.out]; exact ⟨rfl, hb.trans hb2⟩)
          · refine AllReady.cons rfl (fun K hK => ?_) AllReady.nil
            go_simp
            refine hK _ _ ?_
            clear hK K
            refine wpAny_ready (rs := [0, 2]) (by kernel_rfl) (by simp) ?_
            refine AllReady.cons rfl (fun K hK => ?_) ?_
            · go_simp
              refine hK _ _ ?_
              clear hK K
              refine wpAny_ready (rs := [2]) (by kernel_rfl) (by simp) ?_
              refine AllReady.cons rfl (fun K hK => ?_) AllReady.nil
              go_simp
              go_at_call 36
              ((refine (HO.out _ HS.out).mono ?_); intro e w5 ⟨he, hc, hb⟩; have HE := Lib.hid he; clear he; obtain rfl : e = _ := HE.out; refine parse_caught (L := w.heap.size) (pos := posOf r4 s.size) (x := .slice va acc.length vc) (y := .int .i64 0) (z := .int .i64 0) rfl rfl hc rfl rfl rfl ?_; intro w' hb2; rw [HR.out]; exact ⟨rfl, hb.trans hb2⟩)
            · refine AllReady.cons rfl (fun K hK => ?_) AllReady.nil
              go_simp
              go_at_call 36
              ((refine (HO.out _ HS.out).mono ?_); intro e w5 ⟨he, hc, hb⟩; have HE := Lib.hid he; clear he; obtain rfl : e = _ := HE.out; refine parse_caught (L := w.heap.size) (pos := posOf r4 s.size) (x := .slice va acc.length vc) (y := .int .i64 0) (z := .int .i64 0) rfl rfl hc rfl rfl rfl ?_; intro w' hb2; rw [HR.out]; exact ⟨rfl, hb.trans hb2⟩)
        | ok p =>
          obtain ⟨x, r4⟩ := p
          have HO : Hid (∀ w1, wr.grownBy w1 none → Calls Tryz.prog 36 #[.pointer (some ⟨b, 0, none⟩)] w1 fun e w' => ∃ (A B : NV) (cs : List Value), e = .returned (.agg #[.int .i64 x.kind, .string (bs x.name), .int .i64 A.k, .string A.s, .slice A.a A.n A.c, .int .i64 B.k, .string B.s, .slice B.a B.n B.c, .int .i64 x.rule, .int .i64 x.n, .int .i64 x.d, .int .i64 x.k, .bool x.snap]) ∧
              Hid (QS w w' b (.slice ta ts.length tc) ts r4 s.size acc (.slice va acc.length vc) ∧ NdIs (wr.heap.size ≤ ·) w' x.a A.val ∧ NdIs (wr.heap.size ≤ ·) w' x.b B.val ∧ StRow (fun g => w.heap.size + 3 ≤ g ∧ g ≠ b ∧ some g ≠ (Value.slice va acc.length vc).ownBlock) w' acc cs) ∧
              w'.ownsRow (w.heap.size + 3) 39 13 (.slice va acc.length vc) acc.length cs ∧ w.heap.size + 3 ≤ w'.heap.size ∧ w'.cell? ⟨w.heap.size, 0, none⟩ = some (.slice va acc.length vc) ∧ ∀ o : Obj, (w'.alloc o).cell? ⟨w.heap.size, 0, none⟩ = some (.slice va acc.length vc)) := by
            show ∀ _, _
            intro w1 hg
            have Q1 := Q.out.still hg
            refine (stmt_at b _ ts (t :: r3) s.size w1 Q1.p).mono fun e w' ho => ?_
            rw [hps] at ho
            obtain ⟨v, rfl, ⟨A, B, rfl, ha, hb⟩, hg2, hp2⟩ := ho
            have Q2 := Q1.moved hg2 hp2
            obtain ⟨cs, h1, h2⟩ := Q2.own
            exact ⟨A, B, cs, rfl, ⟨Q2, ha.from hg.size, hb.from hg.size, h2⟩, h1, by have := Q2.p.lt; omega, Q2.c.l.cell, fun o => (Q2.c.still (grown_alloc _ o _)).l.cell⟩
          have HPD3 : Hid (pDeck ts = pDeckF (r4.length + 1) r4 (acc ++ [x])) := by
            show _ = _
            rw [HPD2.out, hps]
            exact pDeckF_fuel _ _ _ _ (by have := pStmt_len hps; simpa only [List.length_cons] using this) (Nat.lt_succ_self _)
          have hl4 : r4.length < r3.length + 1 := by have := pStmt_len hps; simpa only [List.length_cons] using this
          have HV : Hid (∀ c, (Value.slice va acc.length vc).ownBlock = some c → c < wr.heap.size) := by
            obtain ⟨cs, h1, _⟩ := Q.out.own
            exact fun c e => (h1.lt c e).2
          have HBW := Lib.hid Q.out.p.lt
          clear hps HPD2
          obtain ⟨i0, hi, hz0, hz1, hz2⟩ := info_parts info39
          go_wp2_with fail
          refine wp_region_noPanic ?_
          go_region_law (first
            | (refine step_append_lies _ (by rfl) _ _ _ (by rfl) (w.heap.size + 3) 39 i0 _ 13 160 Tryz.underlying22 hi hz0 hz1 hz2 rfl (by decide) _ _ _ (by rfl) (hown5.alloc _) ⟨w5.heap.size, 0, none⟩ 1 1 (stCells x A B) (by rfl) (by rfl) (World.news_of_block (MapKept.heap_alloc w5 _).1) (stCells_one _ _ _) (by decide) (by unfold maxLen; omega) (by omega) (by simp; omega) (w5.heap.size + 1) (by simp) ?_; intro g cap w7 hown7 hgrow hat hlt7; have HR7 := Lib.hid ((hq.out.1.c.still (grown_alloc w5 (.cells (stCells x A B).toArray 39) none)).grown hgrow (fun k e => by have := hq.out.1.nb k e; have := hq.out.1.hb; omega)); have m0 := HR7.out.l.cell; have m1 := HR7.out.l.free)
            | (go_simp; go_at_call 36; refine (HO.out _ HS.out).mono ?_; rintro e w5 ⟨A, B, cs, rfl, hq, hown5, hsz5, q0, q1⟩))
          all_goals
            have HA : Hid (ParseAt w b (.slice ta ts.length tc) ts s.size (r4.length + 1) (w7.setCell ⟨w.heap.size, 0, none⟩ (.slice (some ⟨g, 0, none⟩) (acc.length + 1) cap))) :=
              ⟨r4, acc ++ [x], some ⟨g, 0, none⟩, acc.length + 1, cap, Nat.lt_succ_self _, hq.out.1.push hq.out.2.1 hq.out.2.2.1 HBW.out HV.out hq.out.2.2.2 hown7 hgrow hat, by simp, by simp; omega, HPD3.out⟩
            refine NoPanic.normal ?_
            clear hq hown5 hown7 hgrow hat q0 q1 m0 m1
            go_wp2
            go_roundg (r4.length + 1)
            case measure => omega
            case rel => exact HA

/-- deck.Parse, whatever the string. -/
theorem parse_any (s : ByteArray) (w : World) (hs : s.size ≤ maxLen) (hg : Good w) :
    Calls Tryz.prog 19 #[.string s] w fun e w' => ParseEnd w.heap.size (parseS s.data.toList) e w' ∧ Below w.heap.size w w' := by
  cases hR : lexS s.data.toList with
  | error k =>
    have e : parseS s.data.toList = .error (k : Int) := by rw [parseS, hR]
    rw [e]
    exact parse_bad s w k hs hg hR
  | ok ts =>
    have hsz : s.size ≤ 65536 := by
      rcases Nat.lt_or_ge 65536 s.size with h | h
      · rw [lexS, if_pos (by rw [← Lib.size_eq]; exact h)] at hR
        cases hR
      · exact h
    have e : parseS s.data.toList = deckR ts s.size := by
      simp only [parseS, hR, deckR, ← Lib.size_eq]
      cases pDeck ts <;> rfl
    rw [e]
    exact parse_good s w ts hsz hg hR
end Go.Proofs.YtdjklnlkocconaaGreatDoor
