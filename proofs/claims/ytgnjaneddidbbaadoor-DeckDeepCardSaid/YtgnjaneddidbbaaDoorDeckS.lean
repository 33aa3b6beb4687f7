/-
  A statement at work in memory: the parser's stmt's own blocks. No walk.
-/
import Derived.Test.YtgnjaneddidbbaaDoorDeckN
namespace Go.Proofs.YtgnjaneddidbbaaDoor
open Go Go.RowKit

/-- A node's three values. -/
structure NV where
  k : Int
  s : ByteArray
  a : Option Addr
  n : Nat
  c : Nat
def NV.val (v : NV) : Value := .agg #[.int .i64 v.k, .string v.s, .slice v.a v.n v.c]
def NV.zero : NV := ⟨0, ⟨#[]⟩, none, 0, 0⟩

def stCells (x : St) (A B : NV) : List Value :=
  [.int .i64 x.kind, .string (bs x.name), .int .i64 A.k, .string A.s, .slice A.a A.n A.c, .int .i64 B.k, .string B.s, .slice B.a B.n B.c, .int .i64 x.rule, .int .i64 x.n, .int .i64 x.d, .int .i64 x.k, .bool x.snap]
def stVal (x : St) (A B : NV) : Value := .agg (stCells x A B).toArray

/-- A statement's value; its trees are in memory. -/
def StIs (ok : Nat → Prop) (w : World) (x : St) (v : Value) : Prop := ∃ A B : NV, v = stVal x A B ∧ NdIs ok w x.a A.val ∧ NdIs ok w x.b B.val

def BlkS (w : World) (g : Nat) (cs : List Value) : Prop := w.heap[g]? = some (.cells cs.toArray 73 (0, 0))
theorem BlkS.cell {w : World} {g : Nat} {cs : List Value} (h : BlkS w g cs) (j : Nat) : w.cell? ⟨g, j, none⟩ = cs[j]? := by
  unfold BlkS at h
  simp [World.cell?, h]
theorem BlkS.free {w : World} {g : Nat} {cs : List Value} (h : BlkS w g cs) (j : Nat) : w.frozen? ⟨g, j, none⟩ = false := by
  unfold BlkS at h
  simp [World.frozen?, h]
theorem BlkS.lt {w : World} {g : Nat} {cs : List Value} (h : BlkS w g cs) : g < w.heap.size := by
  unfold BlkS at h
  rcases Nat.lt_or_ge g w.heap.size with h' | h'
  · exact h'
  · simp [Array.getElem?_eq_none h'] at h
theorem BlkS.grown {w w' : World} {g : Nat} {cs : List Value} {row : Option Nat} (h : BlkS w g cs) (hg : w.grownBy w' row) (hn : some g ≠ row) : BlkS w' g cs := (hg.block g h.lt hn).trans h
theorem BlkS.set {w : World} {g : Nat} {cs : List Value} (h : BlkS w g cs) (j : Nat) (v : Value) : BlkS (w.setCell ⟨g, j, none⟩ v) g (cs.set j v) := by
  unfold BlkS at h ⊢
  simp [World.setCell, Array.getElem?_modify, h]

/-- stmt at work: the box of its parameter, its result's block, its variable x. -/
structure SS (w w' : World) (b : Nat) (lv : Value) (ts r : List Tok) (fin deep : Int) (x : St) (A B : NV) : Prop where
  hb : b < w.heap.size
  g : w.grownBy w' (some b)
  p : PW w' b lv ts r fin deep
  box : w'.heap[w.heap.size]? = some (.cells #[.pointer (some ⟨b, 0, none⟩)] 64 (0, 0))
  res : BlkS w' (w.heap.size + 1) (stCells .zero .zero .zero)
  blk : BlkS w' (w.heap.size + 1 + 1) (stCells x A B)
  na : NdIs (w.heap.size + 3 ≤ ·) w' x.a A.val
  nb : NdIs (w.heap.size + 3 ≤ ·) w' x.b B.val

section
variable {w w' w'' : World} {b : Nat} {lv : Value} {ts r r' : List Tok} {fin deep deep' : Int} {x : St} {A B : NV}

theorem SS.size (h : SS w w' b lv ts r fin deep x A B) : w.heap.size + 3 ≤ w'.heap.size := h.blk.lt
theorem SS.pcell (h : SS w w' b lv ts r fin deep x A B) : w'.cell? ⟨w.heap.size, 0, none⟩ = some (.pointer (some ⟨b, 0, none⟩)) := by
  have := h.box
  simp [World.cell?, this]
theorem SS.xcell (h : SS w w' b lv ts r fin deep x A B) (j : Nat) : w'.cell? ⟨w.heap.size + 1 + 1, j, none⟩ = (stCells x A B)[j]? := h.blk.cell j
theorem SS.xfree (h : SS w w' b lv ts r fin deep x A B) (j : Nat) : w'.frozen? ⟨w.heap.size + 1 + 1, j, none⟩ = false := h.blk.free j

theorem SS.start (h : PW w b lv ts r fin deep) : SS w (((w.alloc (.cells #[.pointer (some ⟨b, 0, none⟩)] 64)).alloc (.cells (stCells .zero .zero .zero).toArray 73)).alloc (.cells (stCells .zero .zero .zero).toArray 73)) b lv ts r fin deep .zero .zero .zero := by
  have h1 := grown_alloc w (.cells #[.pointer (some ⟨b, 0, none⟩)] 64) none
  have h2 := grown_alloc (w.alloc (.cells #[.pointer (some ⟨b, 0, none⟩)] 64)) (.cells (stCells .zero .zero .zero).toArray 73) none
  have h3 := grown_alloc ((w.alloc (.cells #[.pointer (some ⟨b, 0, none⟩)] 64)).alloc (.cells (stCells .zero .zero .zero).toArray 73)) (.cells (stCells .zero .zero .zero).toArray 73) none
  have b1 := (MapKept.heap_alloc w (.cells #[.pointer (some ⟨b, 0, none⟩)] 64)).1
  have b2 : BlkS _ _ (stCells .zero .zero .zero) := (MapKept.heap_alloc (w.alloc (.cells #[.pointer (some ⟨b, 0, none⟩)] 64)) (.cells (stCells .zero .zero .zero).toArray 73)).1
  have b3 : BlkS _ _ (stCells .zero .zero .zero) := (MapKept.heap_alloc ((w.alloc (.cells #[.pointer (some ⟨b, 0, none⟩)] 64)).alloc (.cells (stCells .zero .zero .zero).toArray 73)) (.cells (stCells .zero .zero .zero).toArray 73)).1
  have e2 : (w.alloc (.cells #[.pointer (some ⟨b, 0, none⟩)] 64)).heap.size = w.heap.size + 1 := by simp
  have e3 : ((w.alloc (.cells #[.pointer (some ⟨b, 0, none⟩)] 64)).alloc (.cells (stCells .zero .zero .zero).toArray 73)).heap.size = w.heap.size + 1 + 1 := by simp
  rw [e2] at b2
  rw [e3] at b3
  refine ⟨h.lt, grown_none (grown_trans h1 (grown_trans h2 h3)) _, ((h.grown h1).grown h2).grown h3, ?_, b2.grown h3 (by simp), b3, NdIs.leaf _ _ 0 [] 0 none, NdIs.leaf _ _ 0 [] 0 none⟩
  exact ((grown_trans h2 h3).block _ (by rw [e2]; omega) (by simp)).trans b1

theorem SS.still (h : SS w w' b lv ts r fin deep x A B) (hg : w'.grownBy w'' none) : SS w w'' b lv ts r fin deep x A B := by
  have hs := h.size
  exact ⟨h.hb, grown_trans h.g (grown_none hg _), h.p.grown hg, (hg.block _ (by omega) (by simp)).trans h.box, h.res.grown hg (by simp), h.blk.grown hg (by simp),
    NdIs.kept hg.size (fun g hl ho => ⟨hg.block g hl (by simp), ho⟩) _ _ h.na, NdIs.kept hg.size (fun g hl ho => ⟨hg.block g hl (by simp), ho⟩) _ _ h.nb⟩
theorem SS.alloc (h : SS w w' b lv ts r fin deep x A B) (o : Obj) : SS w (w'.alloc o) b lv ts r fin deep x A B := h.still (grown_alloc _ _ _)
theorem SS.moved (h : SS w w' b lv ts r fin deep x A B) (hg : w'.grownBy w'' (some b)) (hp : PW w'' b lv ts r' fin deep') : SS w w'' b lv ts r' fin deep' x A B := by
  have hs := h.size
  have hb := h.hb
  exact ⟨hb, grown_trans h.g hg, hp, (hg.block _ (by omega) (by intro e; have := Option.some.inj e; omega)).trans h.box, h.res.grown hg (by intro e; have := Option.some.inj e; omega), h.blk.grown hg (by intro e; have := Option.some.inj e; omega),
    h.na.grown hg (by omega), h.nb.grown hg (by omega)⟩

/-- x turned. -/
theorem SS.turn (h : SS w w' b lv ts r fin deep x A B) {x' : St} {A' B' : NV} (hg : w'.grownBy w'' (some (w.heap.size + 1 + 1))) (hx : BlkS w'' (w.heap.size + 1 + 1) (stCells x' A' B')) (ha : NdIs (w.heap.size + 3 ≤ ·) w' x'.a A'.val) (hb : NdIs (w.heap.size + 3 ≤ ·) w' x'.b B'.val) :
    SS w w'' b lv ts r fin deep x' A' B' := by
  have hs := h.size
  have hbb := h.hb
  exact ⟨h.hb, grown_new h.g hg (by omega), h.p.other hg (by omega), (hg.block _ (by omega) (by intro e; have := Option.some.inj e; omega)).trans h.box, h.res.grown hg (by intro e; have := Option.some.inj e; omega), hx,
    ha.grown hg (by omega), hb.grown hg (by omega)⟩
theorem SS.setKind (h : SS w w' b lv ts r fin deep x A B) (v : Int) : SS w (w'.setCell ⟨w.heap.size + 1 + 1, 0, none⟩ (.int .i64 v)) b lv ts r fin deep { x with kind := v } A B :=
  h.turn (grown_setCell _ ⟨w.heap.size + 1 + 1, 0, none⟩ _) (h.blk.set 0 _) h.na h.nb
theorem SS.setName (h : SS w w' b lv ts r fin deep x A B) (v : List UInt8) : SS w (w'.setCell ⟨w.heap.size + 1 + 1, 1, none⟩ (.string (bs v))) b lv ts r fin deep { x with name := v } A B :=
  h.turn (grown_setCell _ ⟨w.heap.size + 1 + 1, 1, none⟩ _) (h.blk.set 1 _) h.na h.nb
theorem SS.setRule (h : SS w w' b lv ts r fin deep x A B) (v : Int) : SS w (w'.setCell ⟨w.heap.size + 1 + 1, 8, none⟩ (.int .i64 v)) b lv ts r fin deep { x with rule := v } A B :=
  h.turn (grown_setCell _ ⟨w.heap.size + 1 + 1, 8, none⟩ _) (h.blk.set 8 _) h.na h.nb
theorem SS.setN (h : SS w w' b lv ts r fin deep x A B) (v : Int) : SS w (w'.setCell ⟨w.heap.size + 1 + 1, 9, none⟩ (.int .i64 v)) b lv ts r fin deep { x with n := v } A B :=
  h.turn (grown_setCell _ ⟨w.heap.size + 1 + 1, 9, none⟩ _) (h.blk.set 9 _) h.na h.nb
theorem SS.setD (h : SS w w' b lv ts r fin deep x A B) (v : Int) : SS w (w'.setCell ⟨w.heap.size + 1 + 1, 10, none⟩ (.int .i64 v)) b lv ts r fin deep { x with d := v } A B :=
  h.turn (grown_setCell _ ⟨w.heap.size + 1 + 1, 10, none⟩ _) (h.blk.set 10 _) h.na h.nb
theorem SS.setK (h : SS w w' b lv ts r fin deep x A B) (v : Int) : SS w (w'.setCell ⟨w.heap.size + 1 + 1, 11, none⟩ (.int .i64 v)) b lv ts r fin deep { x with k := v } A B :=
  h.turn (grown_setCell _ ⟨w.heap.size + 1 + 1, 11, none⟩ _) (h.blk.set 11 _) h.na h.nb
theorem SS.setSnap (h : SS w w' b lv ts r fin deep x A B) (v : Bool) : SS w (w'.setCell ⟨w.heap.size + 1 + 1, 12, none⟩ (.bool v)) b lv ts r fin deep { x with snap := v } A B :=
  h.turn (grown_setCell _ ⟨w.heap.size + 1 + 1, 12, none⟩ _) (h.blk.set 12 _) h.na h.nb
theorem SS.setA (h : SS w w' b lv ts r fin deep x A B) (v : Nd) (V : NV) (hv : NdIs (w.heap.size + 3 ≤ ·) w' v V.val) :
    SS w (((w'.setCell ⟨w.heap.size + 1 + 1, 2, none⟩ (.int .i64 V.k)).setCell ⟨w.heap.size + 1 + 1, 3, none⟩ (.string V.s)).setCell ⟨w.heap.size + 1 + 1, 4, none⟩ (.slice V.a V.n V.c)) b lv ts r fin deep { x with a := v } V B :=
  h.turn (grown_trans (grown_setCell _ ⟨w.heap.size + 1 + 1, 2, none⟩ _) (grown_trans (grown_setCell _ ⟨w.heap.size + 1 + 1, 3, none⟩ _) (grown_setCell _ ⟨w.heap.size + 1 + 1, 4, none⟩ _))) (((h.blk.set 2 _).set 3 _).set 4 _) hv h.nb
theorem SS.setB (h : SS w w' b lv ts r fin deep x A B) (v : Nd) (V : NV) (hv : NdIs (w.heap.size + 3 ≤ ·) w' v V.val) :
    SS w (((w'.setCell ⟨w.heap.size + 1 + 1, 5, none⟩ (.int .i64 V.k)).setCell ⟨w.heap.size + 1 + 1, 6, none⟩ (.string V.s)).setCell ⟨w.heap.size + 1 + 1, 7, none⟩ (.slice V.a V.n V.c)) b lv ts r fin deep { x with b := v } A V :=
  h.turn (grown_trans (grown_setCell _ ⟨w.heap.size + 1 + 1, 5, none⟩ _) (grown_trans (grown_setCell _ ⟨w.heap.size + 1 + 1, 6, none⟩ _) (grown_setCell _ ⟨w.heap.size + 1 + 1, 7, none⟩ _))) (((h.blk.set 5 _).set 6 _).set 7 _) h.na hv
end

theorem NdIs.nv {ok : Nat → Prop} {w : World} {n : Nd} {v : Value} (h : NdIs ok w n v) : ∃ V : NV, v = V.val ∧ NdIs ok w n V.val := by
  obtain ⟨k, s, a, m, cap, rfl⟩ := h.agg
  exact ⟨⟨k, s, a, m, cap⟩, rfl, h⟩

theorem then_ok_eq {α β : Type} {x : PR α} {f : α → List Tok → PR β} {a : α} {r : List Tok} (h : x = .ok (a, r)) : PR.then x f = f a r := by rw [h]; rfl
theorem then_err_eq {α β : Type} {x : PR α} {f : α → List Tok → PR β} {r : List Tok} (h : x = .error r) : PR.then x f = .error r := by rw [h]; rfl
end Go.Proofs.YtgnjaneddidbbaaDoor
