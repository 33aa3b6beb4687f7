/-
  Blocks of three cells; a node that is read out of one: the small laws of the parser's expressions.
-/
import Derived.Test.YtgnjaneddidbbaaDoorDeckI
namespace Go.Proofs.YtgnjaneddidbbaaDoor
open Go Go.RowKit

theorem cell_one_at (w : World) (v : Value) (T : TypeId) (g : Nat) (hg : g = w.heap.size) : (w.alloc (.cells #[v] T)).cell? ⟨g, 0, none⟩ = some v := by
  subst hg
  exact cell_one w v T

theorem txtRow_one (w : World) (s : ByteArray) (S : List UInt8) (T : TypeId) (cap g : Nat) (hs : s = bs S) (hg : g = w.heap.size) : TxtRow (w.alloc (.cells #[.string s] T)) (.slice (some ⟨g, 0, none⟩) 1 cap) [S] := by
  subst hs hg
  exact txtRow_new w [S] T cap (by simp)

theorem txtRow_at (w : World) (xs : Array Value) (S : List (List UInt8)) (T : TypeId) (n cap g : Nat) (hn : n = S.length) (hs : xs = (S.map fun s => Value.string (bs s)).toArray) (hg : g = w.heap.size) (hl : S.length ≤ 9223372036854775807) : TxtRow (w.alloc (.cells xs T)) (.slice (some ⟨g, 0, none⟩) n cap) S := by
  subst hs hg hn
  exact txtRow_new w S T cap hl

/-- A block of three cells of the call's own. -/
def Blk3 (w : World) (g : Nat) (x y z : Value) : Prop := w.heap[g]? = some (.cells #[x, y, z] 71 (0, 0))
theorem Blk3.cells {w : World} {g : Nat} {x y z : Value} (h : Blk3 w g x y z) : w.cell? ⟨g, 0, none⟩ = some x ∧ w.cell? ⟨g, 1, none⟩ = some y ∧ w.cell? ⟨g, 2, none⟩ = some z ∧ w.frozen? ⟨g, 0, none⟩ = false ∧ w.frozen? ⟨g, 1, none⟩ = false ∧ w.frozen? ⟨g, 2, none⟩ = false := by
  unfold Blk3 at h
  refine ⟨?_, ?_, ?_, ?_, ?_, ?_⟩ <;> simp [World.cell?, World.frozen?, h]
theorem Blk3.new (w : World) (x y z : Value) : Blk3 (w.alloc (.cells #[x, y, z] 71)) w.heap.size x y z := (MapKept.heap_alloc w _).1
theorem Blk3.new_at (w : World) (x y z : Value) (g : Nat) (hg : g = w.heap.size) : Blk3 (w.alloc (.cells #[x, y, z] 71)) g x y z := by subst hg; exact Blk3.new w x y z
theorem Blk3.lt {w : World} {g : Nat} {x y z : Value} (h : Blk3 w g x y z) : g < w.heap.size := by
  unfold Blk3 at h
  rcases Nat.lt_or_ge g w.heap.size with h' | h'
  · exact h'
  · simp [Array.getElem?_eq_none h'] at h
theorem Blk3.grown {w w' : World} {g : Nat} {x y z : Value} {row : Option Nat} (h : Blk3 w g x y z) (hg : w.grownBy w' row) (hn : some g ≠ row) : Blk3 w' g x y z := (hg.block g h.lt hn).trans h
theorem Blk3.stored {w : World} {g : Nat} {x y z : Value} (h : Blk3 w g x y z) (x' y' z' : Value) : Blk3 (((w.setCell ⟨g, 0, none⟩ x').setCell ⟨g, 1, none⟩ y').setCell ⟨g, 2, none⟩ z') g x' y' z' := by
  unfold Blk3 at h ⊢
  simp [World.setCell, Array.getElem?_modify, h]
theorem grown_set3 (w : World) (g : Nat) (x' y' z' : Value) : w.grownBy (((w.setCell ⟨g, 0, none⟩ x').setCell ⟨g, 1, none⟩ y').setCell ⟨g, 2, none⟩ z') (some g) :=
  grown_trans (grown_setCell w ⟨g, 0, none⟩ x') (grown_trans (grown_setCell _ ⟨g, 1, none⟩ y') (grown_setCell _ ⟨g, 2, none⟩ z'))

/-- What has been made anew, with two rows turned, one of which is new. -/
theorem grown_new {w w1 w2 : World} {g : Nat} {row : Option Nat} (h1 : w.grownBy w1 row) (h2 : w1.grownBy w2 (some g)) (hg : w.heap.size ≤ g) : w.grownBy w2 row :=
  ⟨h2.os.trans h1.os, h2.tape.trans h1.tape, h2.output.trans h1.output, Nat.le_trans h1.size h2.size,
    fun k hk hr => (h2.block k (Nat.lt_of_lt_of_le hk h1.size) (by intro e; have := Option.some.inj e; omega)).trans (h1.block k hk hr)⟩

/-- A function that hands back a node out of a block. -/
theorem node_ret {R : Ending → World → Prop} {a : Act} {w : World} {g : Nat} {x y z : Value} {f : Func} {t : Tmp} (h : f.results = #[.cell t 71]) (hp : a.tmps.getD t undef = .pointer (some ⟨g, 0, none⟩)) (hd : a.defers = []) (hB : Blk3 w g x y z)
    (hR : R (.returned (.agg #[x, y, z])) w) : bodyPost Tryd.prog f R .ret a w := by
  obtain ⟨c0, c1, c2, _, _, _⟩ := hB.cells
  refine bodyPost_ret (v := .agg #[x, y, z]) ?_ hd hR
  rw [Array.getD_eq_getD_getElem?] at hp
  simp only [results, h]
  simp [hp, go_sem, c0, c1, c2]
theorem node_end {R : Ending → World → Prop} {a : Act} {w : World} {g : Nat} {x y z : Value} {f : Func} {t : Tmp} (h : f.results = #[.cell t 71]) (hp : a.tmps.getD t undef = .pointer (some ⟨g, 0, none⟩)) (hd : a.defers = []) (hB : Blk3 w g x y z)
    (hR : R (.returned (.agg #[x, y, z])) w) : bodyPost Tryd.prog f R .normal a w := by
  obtain ⟨c0, c1, c2, _, _, _⟩ := hB.cells
  refine bodyPost_end (v := .agg #[x, y, z]) ?_ hd hR
  rw [Array.getD_eq_getD_getElem?] at hp
  simp only [results, h]
  simp [hp, go_sem, c0, c1, c2]

/-- sees, the world behind it under a name of its own. -/
theorem sees_w (b : Nat) (lv : Value) (ts r : List Tok) (fin deep : Int) (tv : Value) (xs : List (List UInt8)) (β : Bool) (w : World) (hβ : Hid (seesR r xs = β)) (h : PW w b lv ts r fin deep) (hx : TxtRow w tv xs) :
    Calls Tryd.prog 47 #[.pointer (some ⟨b, 0, none⟩), tv] w fun e w' => e = .returned (.bool β) ∧ w.grownBy w' none :=
  (sees_is b lv ts r fin deep tv xs β w hβ h hx).mono fun e w' ⟨he, q, hw⟩ => ⟨he, by rw [hw]; exact grown_drew w q none⟩

/-- A parsing function at work: its result's block, fresh, is the first that it has made. -/
structure OS (w w' : World) (b : Nat) (lv : Value) (ts r : List Tok) (fin deep : Int) : Prop where
  hb : b < w.heap.size
  g : w.grownBy w' (some b)
  p : PW w' b lv ts r fin deep
  n : Blk3 w' w.heap.size (.int .i64 0) (.string ⟨#[]⟩) (.slice none 0 0)

theorem OS.start {w : World} {b : Nat} {lv : Value} {ts r : List Tok} {fin deep : Int} (h : PW w b lv ts r fin deep) : OS w (w.alloc (.cells #[.int .i64 0, .string ⟨#[]⟩, .slice none 0 0] 71)) b lv ts r fin deep :=
  ⟨h.lt, grown_alloc _ _ _, h.grown (grown_alloc _ _ _), Blk3.new _ _ _ _⟩
theorem OS.still {w w' w'' : World} {b : Nat} {lv : Value} {ts r : List Tok} {fin deep : Int} (h : OS w w' b lv ts r fin deep) (hg : w'.grownBy w'' none) : OS w w'' b lv ts r fin deep :=
  ⟨h.hb, grown_trans h.g (grown_none hg _), h.p.grown hg, h.n.grown hg (by simp)⟩
theorem OS.alloc {w w' : World} {b : Nat} {lv : Value} {ts r : List Tok} {fin deep : Int} (h : OS w w' b lv ts r fin deep) (o : Obj) : OS w (w'.alloc o) b lv ts r fin deep := h.still (grown_alloc _ _ _)
theorem OS.moved {w w' w'' : World} {b : Nat} {lv : Value} {ts r r' : List Tok} {fin deep deep' : Int} (h : OS w w' b lv ts r fin deep) (hg : w'.grownBy w'' (some b)) (hp : PW w'' b lv ts r' fin deep') : OS w w'' b lv ts r' fin deep' :=
  ⟨h.hb, grown_trans h.g hg, hp, h.n.grown hg (by intro e; have := Option.some.inj e; have := h.hb; omega)⟩
theorem OS.size {w w' : World} {b : Nat} {lv : Value} {ts r : List Tok} {fin deep : Int} (h : OS w w' b lv ts r fin deep) : w.heap.size < w'.heap.size := h.n.lt
/-- Its result stored, it ends. -/
theorem OS.done {w w' : World} {b : Nat} {lv : Value} {ts r : List Tok} {fin deep : Int} (h : OS w w' b lv ts r fin deep) (x y z : Value) {n : Nd} (hn : NdIs (w.heap.size + 1 ≤ ·) w' n (.agg #[x, y, z])) {α : Type} {f : α → Nd} {a : α} (hf : f a = n) {p : PR α} (hp : p = .ok (a, r)) :
    Out w b lv ts fin deep (fun n v w' => NdIs (w.heap.size ≤ ·) w' (f n) v) p (.returned (.agg #[x, y, z])) (((w'.setCell ⟨w.heap.size, 0, none⟩ x).setCell ⟨w.heap.size, 1, none⟩ y).setCell ⟨w.heap.size, 2, none⟩ z) := by
  refine out_ok hp ?_ (grown_new h.g (grown_set3 w' w.heap.size _ _ _) (Nat.le_refl _)) (h.p.other (grown_set3 w' w.heap.size _ _ _) h.hb)
  rw [hf]
  exact (hn.grown (grown_set3 w' w.heap.size _ _ _) (Nat.lt_succ_self _)).from (Nat.le_succ _)
theorem NdIs.leaf_at {w : World} {B : Nat} (k : Int) (s : List UInt8) (sv : ByteArray) (hs : sv = bs s) (a : Option Addr) (cap : Nat) : NdIs (B ≤ ·) w (.mk k s []) (.agg #[.int .i64 k, .string sv, .slice a 0 cap]) := by
  subst hs
  exact NdIs.leaf _ _ k s cap a

/-- What an expression's reading comes to. -/
abbrev ExOut (w : World) (b : Nat) (lv : Value) (ts : List Tok) (fin deep : Int) (p : PR Ex) (e : Ending) (w' : World) : Prop :=
  Out w b lv ts fin deep (fun n v w' => NdIs (w.heap.size ≤ ·) w' (Ex.nd n) v) p e w'

set_option maxHeartbeats 1000000 in
set_option maxRecDepth 100000 in
theorem one_empty (b : Nat) (lv : Value) (ts r : List Tok) (fin : Int) (d : Nat) (t : Tok) (w : World) (h : PW w b lv ts (t :: r) fin d) (h1 : Hid (seesR (t :: r) [w_empty] = true)) :
    Calls Tryd.prog 91 #[.pointer (some ⟨b, 0, none⟩)] w fun e w' => ExOut w b lv ts fin d (.ok (.empty, r)) e w' := by
  have S0 := Lib.hid (OS.start h)
  clear h
  go_enter Tryd.func91, Tryd.ntmps91
  go_wp2_with fail
  refine (sees_w b lv ts (t :: r) fin d _ [w_empty] _ _ h1 (S0.out.alloc _).p (txtRow_one _ _ w_empty _ _ _ rfl (by simp))).mono ?_
  rintro e w1 ⟨rfl, hg1⟩
  have S1 := Lib.hid ((S0.out.alloc _).still hg1)
  clear hg1 S0
  go_wp2_with fail
  refine (take_at b lv ts r t fin d _ S1.out.p).mono ?_
  rintro e w2 ⟨rfl, hg, hw⟩
  have S2 := Lib.hid (S1.out.moved hg hw)
  clear hg hw S1
  obtain ⟨k0, k1, k2, f0, f1, f2⟩ := S2.out.n.cells
  go_wp2
  exact node_ret rfl rfl rfl (S2.out.n.stored _ _ _) (S2.out.done _ _ _ (NdIs.leaf_at 2 [] _ rfl none 0) (f := Ex.nd) rfl rfl)

set_option maxHeartbeats 1000000 in
set_option maxRecDepth 100000 in
theorem one_boxes (b : Nat) (lv : Value) (ts r : List Tok) (fin : Int) (d : Nat) (t : Tok) (w : World) (h : PW w b lv ts (t :: r) fin d) (h1 : Hid (seesR (t :: r) [w_empty] = false)) (h2 : Hid (seesR (t :: r) [w_boxes] = true)) :
    Calls Tryd.prog 91 #[.pointer (some ⟨b, 0, none⟩)] w fun e w' => ExOut w b lv ts fin d ((pName r).then fun s r1 => .ok (.boxes s, r1)) e w' := by
  have S0 := Lib.hid (OS.start h)
  clear h
  go_enter Tryd.func91, Tryd.ntmps91
  go_wp2_with fail
  refine (sees_w b lv ts (t :: r) fin d _ [w_empty] _ _ h1 (S0.out.alloc _).p (txtRow_one _ _ w_empty _ _ _ rfl (by simp))).mono ?_
  rintro e w1 ⟨rfl, hg1⟩
  have S1 := Lib.hid ((S0.out.alloc _).still hg1)
  clear hg1 S0
  go_wp2_with fail
  refine (sees_w b lv ts (t :: r) fin d _ [w_boxes] _ _ h2 (S1.out.alloc _).p (txtRow_one _ _ w_boxes _ _ _ rfl rfl)).mono ?_
  rintro e w2 ⟨rfl, hg1⟩
  have S2 := Lib.hid ((S1.out.alloc _).still hg1)
  clear hg1 S1
  go_wp2_with fail
  refine (take_at b lv ts r t fin d _ S2.out.p).mono ?_
  rintro e w3 ⟨rfl, hg, hw⟩
  have S3 := Lib.hid (S2.out.moved hg hw)
  clear hg hw S2
  go_wp2_with fail
  refine (name_at b lv ts r fin d _ S3.out.p).mono ?_
  intro e w4 ho
  rcases out_cases ho with ⟨s, r1, v, hp, rfl, hv, hg, hw⟩ | ⟨r1, hp, he, hg⟩
  · obtain rfl : v = _ := hv
    have S4 := Lib.hid (S3.out.moved hg hw)
    clear hg hw S3 ho
    obtain ⟨k0, k1, k2, f0, f1, f2⟩ := S4.out.n.cells
    go_wp2
    exact node_ret rfl rfl rfl (S4.out.n.stored _ _ _) (S4.out.done _ _ _ (NdIs.leaf_at 3 s _ rfl none 0) (f := Ex.nd) (a := .boxes s) rfl (by rw [hp.out]; rfl))
  · have HE := Lib.hid he
    clear he ho
    obtain rfl : e = _ := HE.out
    exact ⟨rfl, out_error (by rw [hp.out]; rfl) rfl (grown_trans S3.out.g hg)⟩

set_option maxHeartbeats 1000000 in
set_option maxRecDepth 100000 in
theorem one_name (b : Nat) (lv : Value) (ts r : List Tok) (fin : Int) (d : Nat) (w : World) (h : PW w b lv ts r fin d) (h1 : Hid (seesR r [w_empty] = false)) (h2 : Hid (seesR r [w_boxes] = false)) (h3 : Hid (seesR r [[40]] = false)) :
    Calls Tryd.prog 91 #[.pointer (some ⟨b, 0, none⟩)] w fun e w' => ExOut w b lv ts fin d ((pName r).then fun s r1 => .ok (.name s, r1)) e w' := by
  have S0 := Lib.hid (OS.start h)
  clear h
  go_enter Tryd.func91, Tryd.ntmps91
  go_wp2_with fail
  refine (sees_w b lv ts r fin d _ [w_empty] _ _ h1 (S0.out.alloc _).p (txtRow_one _ _ w_empty _ _ _ rfl (by simp))).mono ?_
  rintro e w1 ⟨rfl, hg1⟩
  have S1 := Lib.hid ((S0.out.alloc _).still hg1)
  clear hg1 S0
  go_wp2_with fail
  refine (sees_w b lv ts r fin d _ [w_boxes] _ _ h2 (S1.out.alloc _).p (txtRow_one _ _ w_boxes _ _ _ rfl rfl)).mono ?_
  rintro e w2 ⟨rfl, hg1⟩
  have S2 := Lib.hid ((S1.out.alloc _).still hg1)
  clear hg1 S1
  go_wp2_with fail
  refine (sees_w b lv ts r fin d _ [[40]] _ _ h3 (S2.out.alloc _).p (txtRow_one _ _ [40] _ _ _ rfl rfl)).mono ?_
  rintro e w3 ⟨rfl, hg1⟩
  have S3 := Lib.hid ((S2.out.alloc _).still hg1)
  clear hg1 S2
  go_wp2_with fail
  refine (name_at b lv ts r fin d _ S3.out.p).mono ?_
  intro e w4 ho
  rcases out_cases ho with ⟨s, r1, v, hp, rfl, hv, hg, hw⟩ | ⟨r1, hp, he, hg⟩
  · obtain rfl : v = _ := hv
    have S4 := Lib.hid (S3.out.moved hg hw)
    clear hg hw S3 ho
    obtain ⟨k0, k1, k2, f0, f1, f2⟩ := S4.out.n.cells
    go_wp2
    exact node_ret rfl rfl rfl (S4.out.n.stored _ _ _) (S4.out.done _ _ _ (NdIs.leaf_at 1 s _ rfl none 0) (f := Ex.nd) (a := .name s) rfl (by rw [hp.out]; rfl))
  · have HE := Lib.hid he
    clear he ho
    obtain rfl : e = _ := HE.out
    exact ⟨rfl, out_error (by rw [hp.out]; rfl) rfl (grown_trans S3.out.g hg)⟩
end Go.Proofs.YtgnjaneddidbbaaDoor
