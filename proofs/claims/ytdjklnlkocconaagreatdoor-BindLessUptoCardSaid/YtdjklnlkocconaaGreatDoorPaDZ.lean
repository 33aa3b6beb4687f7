/-
  A statement at work in memory: the parser's stmt's own blocks. No walk.
  The parser's number, whatever the tokens: the walks.
  stmt's closure that reads two layers: the walk.
  A statement handed back out of its block. No walk.
  stmt: input: the walk.
  stmt: let: the walk.
-/
import Derived.Test.YtdjklnlkocconaaGreatDoorPaCZ
import Derived.Test.YtdjklnlkocconaaGreatDoorPaAZ
namespace Go.Proofs.YtdjklnlkocconaaGreatDoor
open Go Go.RowKit

/-- A node's three values. -/
structure NV where
  k : Int
  s : ByteArray
  a : Option Addr
  n : Nat
  c : Nat
def NV.val (v : NV) : Value := .agg #[.int .i64 v.k, .string v.s, .slice v.a v.n v.c]
def NV.zero : NV := ⟨0, ⟨#[]⟩, none, 0, 0⟩

def stCells (x : St) (A B : NV) : List Value :=
  [.int .i64 x.kind, .string (bs x.name), .int .i64 A.k, .string A.s, .slice A.a A.n A.c, .int .i64 B.k, .string B.s, .slice B.a B.n B.c, .int .i64 x.rule, .int .i64 x.n, .int .i64 x.d, .int .i64 x.k, .bool x.snap]
def stVal (x : St) (A B : NV) : Value := .agg (stCells x A B).toArray

/-- A statement's value; its trees are in memory. -/
def StIs (ok : Nat → Prop) (w : World) (x : St) (v : Value) : Prop := ∃ A B : NV, v = stVal x A B ∧ NdIs ok w x.a A.val ∧ NdIs ok w x.b B.val

def BlkS (w : World) (g : Nat) (cs : List Value) : Prop := w.heap[g]? = some (.cells cs.toArray 39 (0, 0))
theorem BlkS.cell {w : World} {g : Nat} {cs : List Value} (h : BlkS w g cs) (j : Nat) : w.cell? ⟨g, j, none⟩ = cs[j]? := by
  unfold BlkS at h
  simp [World.cell?, h]
theorem BlkS.free {w : World} {g : Nat} {cs : List Value} (h : BlkS w g cs) (j : Nat) : w.frozen? ⟨g, j, none⟩ = false := by
  unfold BlkS at h
  simp [World.frozen?, h]
theorem BlkS.lt {w : World} {g : Nat} {cs : List Value} (h : BlkS w g cs) : g < w.heap.size := by
  unfold BlkS at h
  rcases Nat.lt_or_ge g w.heap.size with h' | h'
  · exact h'
  · simp [Array.getElem?_eq_none h'] at h
theorem BlkS.grown {w w' : World} {g : Nat} {cs : List Value} {row : Option Nat} (h : BlkS w g cs) (hg : w.grownBy w' row) (hn : some g ≠ row) : BlkS w' g cs := (hg.block g h.lt hn).trans h
theorem BlkS.set {w : World} {g : Nat} {cs : List Value} (h : BlkS w g cs) (j : Nat) (v : Value) : BlkS (w.setCell ⟨g, j, none⟩ v) g (cs.set j v) := by
  unfold BlkS at h ⊢
  simp [World.setCell, Array.getElem?_modify, h]

/-- stmt at work: the box of its parameter, its result's block, its variable x. -/
structure SS (w w' : World) (b : Nat) (lv : Value) (ts r : List Tok) (fin deep : Int) (x : St) (A B : NV) : Prop where
  hb : b < w.heap.size
  g : w.grownBy w' (some b)
  p : PW w' b lv ts r fin deep
  box : w'.heap[w.heap.size]? = some (.cells #[.pointer (some ⟨b, 0, none⟩)] 72 (0, 0))
  res : BlkS w' (w.heap.size + 1) (stCells .zero .zero .zero)
  blk : BlkS w' (w.heap.size + 1 + 1) (stCells x A B)
  na : NdIs (w.heap.size + 3 ≤ ·) w' x.a A.val
  nb : NdIs (w.heap.size + 3 ≤ ·) w' x.b B.val

section
variable {w w' w'' : World} {b : Nat} {lv : Value} {ts r r' : List Tok} {fin deep deep' : Int} {x : St} {A B : NV}

theorem SS.size (h : SS w w' b lv ts r fin deep x A B) : w.heap.size + 3 ≤ w'.heap.size := h.blk.lt
theorem SS.pcell (h : SS w w' b lv ts r fin deep x A B) : w'.cell? ⟨w.heap.size, 0, none⟩ = some (.pointer (some ⟨b, 0, none⟩)) := by
  have := h.box
  simp [World.cell?, this]
theorem SS.xcell (h : SS w w' b lv ts r fin deep x A B) (j : Nat) : w'.cell? ⟨w.heap.size + 1 + 1, j, none⟩ = (stCells x A B)[j]? := h.blk.cell j
theorem SS.xfree (h : SS w w' b lv ts r fin deep x A B) (j : Nat) : w'.frozen? ⟨w.heap.size + 1 + 1, j, none⟩ = false := h.blk.free j

theorem SS.start (h : PW w b lv ts r fin deep) : SS w (((w.alloc (.cells #[.pointer (some ⟨b, 0, none⟩)] 72)).alloc (.cells (stCells .zero .zero .zero).toArray 39)).alloc (.cells (stCells .zero .zero .zero).toArray 39)) b lv ts r fin deep .zero .zero .zero := by
  have h1 := grown_alloc w (.cells #[.pointer (some ⟨b, 0, none⟩)] 72) none
  have h2 := grown_alloc (w.alloc (.cells #[.pointer (some ⟨b, 0, none⟩)] 72)) (.cells (stCells .zero .zero .zero).toArray 39) none
  have h3 := grown_alloc ((w.alloc (.cells #[.pointer (some ⟨b, 0, none⟩)] 72)).alloc (.cells (stCells .zero .zero .zero).toArray 39)) (.cells (stCells .zero .zero .zero).toArray 39) none
  have b1 := (MapKept.heap_alloc w (.cells #[.pointer (some ⟨b, 0, none⟩)] 72)).1
  have b2 : BlkS _ _ (stCells .zero .zero .zero) := (MapKept.heap_alloc (w.alloc (.cells #[.pointer (some ⟨b, 0, none⟩)] 72)) (.cells (stCells .zero .zero .zero).toArray 39)).1
  have b3 : BlkS _ _ (stCells .zero .zero .zero) := (MapKept.heap_alloc ((w.alloc (.cells #[.pointer (some ⟨b, 0, none⟩)] 72)).alloc (.cells (stCells .zero .zero .zero).toArray 39)) (.cells (stCells .zero .zero .zero).toArray 39)).1
  have e2 : (w.alloc (.cells #[.pointer (some ⟨b, 0, none⟩)] 72)).heap.size = w.heap.size + 1 := by simp
  have e3 : ((w.alloc (.cells #[.pointer (some ⟨b, 0, none⟩)] 72)).alloc (.cells (stCells .zero .zero .zero).toArray 39)).heap.size = w.heap.size + 1 + 1 := by simp
  rw [e2] at b2
  rw [e3] at b3
  refine ⟨h.lt, grown_none (grown_trans h1 (grown_trans h2 h3)) _, ((h.grown h1).grown h2).grown h3, ?_, b2.grown h3 (by simp), b3, NdIs.leaf _ _ 0 [] 0 none, NdIs.leaf _ _ 0 [] 0 none⟩
  exact ((grown_trans h2 h3).block _ (by rw [e2]; omega) (by simp)).trans b1

theorem SS.still (h : SS w w' b lv ts r fin deep x A B) (hg : w'.grownBy w'' none) : SS w w'' b lv ts r fin deep x A B := by
  have hs := h.size
  exact ⟨h.hb, grown_trans h.g (grown_none hg _), h.p.grown hg, (hg.block _ (by omega) (by simp)).trans h.box, h.res.grown hg (by simp), h.blk.grown hg (by simp),
    NdIs.kept hg.size (fun g hl ho => ⟨hg.block g hl (by simp), ho⟩) _ _ h.na, NdIs.kept hg.size (fun g hl ho => ⟨hg.block g hl (by simp), ho⟩) _ _ h.nb⟩
theorem SS.alloc (h : SS w w' b lv ts r fin deep x A B) (o : Obj) : SS w (w'.alloc o) b lv ts r fin deep x A B := h.still (grown_alloc _ _ _)
theorem SS.moved (h : SS w w' b lv ts r fin deep x A B) (hg : w'.grownBy w'' (some b)) (hp : PW w'' b lv ts r' fin deep') : SS w w'' b lv ts r' fin deep' x A B := by
  have hs := h.size
  have hb := h.hb
  exact ⟨hb, grown_trans h.g hg, hp, (hg.block _ (by omega) (by intro e; have := Option.some.inj e; omega)).trans h.box, h.res.grown hg (by intro e; have := Option.some.inj e; omega), h.blk.grown hg (by intro e; have := Option.some.inj e; omega),
    h.na.grown hg (by omega), h.nb.grown hg (by omega)⟩

/-- x turned. -/
theorem SS.turn (h : SS w w' b lv ts r fin deep x A B) {x' : St} {A' B' : NV} (hg : w'.grownBy w'' (some (w.heap.size + 1 + 1))) (hx : BlkS w'' (w.heap.size + 1 + 1) (stCells x' A' B')) (ha : NdIs (w.heap.size + 3 ≤ ·) w' x'.a A'.val) (hb : NdIs (w.heap.size + 3 ≤ ·) w' x'.b B'.val) :
    SS w w'' b lv ts r fin deep x' A' B' := by
  have hs := h.size
  have hbb := h.hb
  exact ⟨h.hb, grown_new h.g hg (by omega), h.p.other hg (by omega), (hg.block _ (by omega) (by intro e; have := Option.some.inj e; omega)).trans h.box, h.res.grown hg (by intro e; have := Option.some.inj e; omega), hx,
    ha.grown hg (by omega), hb.grown hg (by omega)⟩
theorem SS.setKind (h : SS w w' b lv ts r fin deep x A B) (v : Int) : SS w (w'.setCell ⟨w.heap.size + 1 + 1, 0, none⟩ (.int .i64 v)) b lv ts r fin deep { x with kind := v } A B :=
  h.turn (grown_setCell _ ⟨w.heap.size + 1 + 1, 0, none⟩ _) (h.blk.set 0 _) h.na h.nb
theorem SS.setName (h : SS w w' b lv ts r fin deep x A B) (v : List UInt8) : SS w (w'.setCell ⟨w.heap.size + 1 + 1, 1, none⟩ (.string (bs v))) b lv ts r fin deep { x with name := v } A B :=
  h.turn (grown_setCell _ ⟨w.heap.size + 1 + 1, 1, none⟩ _) (h.blk.set 1 _) h.na h.nb
theorem SS.setRule (h : SS w w' b lv ts r fin deep x A B) (v : Int) : SS w (w'.setCell ⟨w.heap.size + 1 + 1, 8, none⟩ (.int .i64 v)) b lv ts r fin deep { x with rule := v } A B :=
  h.turn (grown_setCell _ ⟨w.heap.size + 1 + 1, 8, none⟩ _) (h.blk.set 8 _) h.na h.nb
theorem SS.setN (h : SS w w' b lv ts r fin deep x A B) (v : Int) : SS w (w'.setCell ⟨w.heap.size + 1 + 1, 9, none⟩ (.int .i64 v)) b lv ts r fin deep { x with n := v } A B :=
  h.turn (grown_setCell _ ⟨w.heap.size + 1 + 1, 9, none⟩ _) (h.blk.set 9 _) h.na h.nb
theorem SS.setD (h : SS w w' b lv ts r fin deep x A B) (v : Int) : SS w (w'.setCell ⟨w.heap.size + 1 + 1, 10, none⟩ (.int .i64 v)) b lv ts r fin deep { x with d := v } A B :=
  h.turn (grown_setCell _ ⟨w.heap.size + 1 + 1, 10, none⟩ _) (h.blk.set 10 _) h.na h.nb
theorem SS.setK (h : SS w w' b lv ts r fin deep x A B) (v : Int) : SS w (w'.setCell ⟨w.heap.size + 1 + 1, 11, none⟩ (.int .i64 v)) b lv ts r fin deep { x with k := v } A B :=
  h.turn (grown_setCell _ ⟨w.heap.size + 1 + 1, 11, none⟩ _) (h.blk.set 11 _) h.na h.nb
theorem SS.setSnap (h : SS w w' b lv ts r fin deep x A B) (v : Bool) : SS w (w'.setCell ⟨w.heap.size + 1 + 1, 12, none⟩ (.bool v)) b lv ts r fin deep { x with snap := v } A B :=
  h.turn (grown_setCell _ ⟨w.heap.size + 1 + 1, 12, none⟩ _) (h.blk.set 12 _) h.na h.nb
theorem SS.setA (h : SS w w' b lv ts r fin deep x A B) (v : Nd) (V : NV) (hv : NdIs (w.heap.size + 3 ≤ ·) w' v V.val) :
    SS w (((w'.setCell ⟨w.heap.size + 1 + 1, 2, none⟩ (.int .i64 V.k)).setCell ⟨w.heap.size + 1 + 1, 3, none⟩ (.string V.s)).setCell ⟨w.heap.size + 1 + 1, 4, none⟩ (.slice V.a V.n V.c)) b lv ts r fin deep { x with a := v } V B :=
  h.turn (grown_trans (grown_setCell _ ⟨w.heap.size + 1 + 1, 2, none⟩ _) (grown_trans (grown_setCell _ ⟨w.heap.size + 1 + 1, 3, none⟩ _) (grown_setCell _ ⟨w.heap.size + 1 + 1, 4, none⟩ _))) (((h.blk.set 2 _).set 3 _).set 4 _) hv h.nb
theorem SS.setB (h : SS w w' b lv ts r fin deep x A B) (v : Nd) (V : NV) (hv : NdIs (w.heap.size + 3 ≤ ·) w' v V.val) :
    SS w (((w'.setCell ⟨w.heap.size + 1 + 1, 5, none⟩ (.int .i64 V.k)).setCell ⟨w.heap.size + 1 + 1, 6, none⟩ (.string V.s)).setCell ⟨w.heap.size + 1 + 1, 7, none⟩ (.slice V.a V.n V.c)) b lv ts r fin deep { x with b := v } A V :=
  h.turn (grown_trans (grown_setCell _ ⟨w.heap.size + 1 + 1, 5, none⟩ _) (grown_trans (grown_setCell _ ⟨w.heap.size + 1 + 1, 6, none⟩ _) (grown_setCell _ ⟨w.heap.size + 1 + 1, 7, none⟩ _))) (((h.blk.set 5 _).set 6 _).set 7 _) h.na hv
end
theorem then_ok_eq {α β : Type} {x : PR α} {f : α → List Tok → PR β} {a : α} {r : List Tok} (h : x = .ok (a, r)) : PR.then x f = f a r := by rw [h]; rfl
theorem then_err_eq {α β : Type} {x : PR α} {f : α → List Tok → PR β} {r : List Tok} (h : x = .error r) : PR.then x f = .error r := by rw [h]; rfl
end Go.Proofs.YtdjklnlkocconaaGreatDoor

namespace Go.Proofs.YtdjklnlkocconaaGreatDoor
open Go Go.RowKit

/-- Does the token fail to be a number from lo to hi? By which test. -/
theorem num_fail {t : Tok} {lo hi : Int} (h : (t.kind == 2 && decide (lo ≤ t.num) && decide (t.num ≤ hi)) = false) : (t.kind != 2) = true ∨ ((t.kind != 2) = false ∧ t.num < lo) ∨ ((t.kind != 2) = false ∧ lo ≤ t.num ∧ hi < t.num) := by
  by_cases h1 : t.kind = 2
  · simp [h1] at h ⊢
    omega
  · left; simp [h1]

set_option maxHeartbeats 1000000 in
set_option maxRecDepth 100000 in
theorem number_out (b n cap k : Nat) (a : Option Addr) (fin deep lo hi : Int) (ts : List Tok) (w : World) (h : PW w b (.slice a n cap) ts [] fin deep) (hkk : Hid (ts.length - ([] : List Tok).length = k)) (hk : n ≤ k) :
    Calls Tryz.prog 59 #[.pointer (some ⟨b, 0, none⟩), .int .i64 lo, .int .i64 hi] w fun e w' => Thrown (posOf [] fin) e ∧ w.grownBy w' (some b) := by
  obtain ⟨c0, c1, c2, c3, _, _⟩ := h.ps.cells
  rw [hkk.out] at c1
  have hd1 : decide (n ≤ k) = true := by simp; omega
  have hd2 : decide ((n : Int) ≤ (k : Int)) = true := by simp; omega
  clear c2 c3
  have H := Lib.hid h
  clear h
  go_enter Tryz.func59, Tryz.ntmps59
  go_wp2_with fail
  go_quiet (fail)
  go_wp2_with fail
  refine (fail_at b _ ts [] fin deep _ (H.out.drew _)).mono ?_
  rintro e w1 ⟨he, q, rfl⟩
  have HE := Lib.hid he
  clear he
  obtain rfl : e = _ := HE.out
  exact ⟨rfl, rfl, grown_trans (grown_drew _ _ _) (grown_drew _ q _)⟩

set_option maxHeartbeats 2000000 in
set_option maxRecDepth 100000 in
theorem number_bad (b g n cap k : Nat) (lv : Value) (ts r : List Tok) (fin deep lo hi : Int) (t : Tok) (w : World) (h : PW w b lv ts (t :: r) fin deep) (hlv : Hid (lv = .slice (some ⟨g, 0, none⟩) n cap)) (hkk : Hid (ts.length - (t :: r).length = k)) (hk : k < n)
    (h0 : w.cell? ⟨g, k * 4, none⟩ = some (.int .i64 t.kind)) (h2 : w.cell? ⟨g, k * 4 + 2, none⟩ = some (.int .i64 t.num)) (hf : (t.kind == 2 && decide (lo ≤ t.num) && decide (t.num ≤ hi)) = false) :
    Calls Tryz.prog 59 #[.pointer (some ⟨b, 0, none⟩), .int .i64 lo, .int .i64 hi] w fun e w' => Thrown (posOf (t :: r) fin) e ∧ w.grownBy w' (some b) := by
  obtain ⟨c0, c1, c2, c3, _, _⟩ := h.ps.cells
  rw [hlv.out] at c0
  rw [hkk.out] at c1
  clear c2 c3
  have H := Lib.hid h
  clear h
  have hd3 : decide (n ≤ k) = false := by simp; omega
  have hd4 : decide ((n : Int) ≤ (k : Int)) = false := by simp; omega
  rcases num_fail hf with hne | ⟨hne, hlo⟩ | ⟨hne, hlo, hhi⟩
  · clear hf
    go_enter Tryz.func59, Tryz.ntmps59
    go_wp2_with fail
    go_quiet (fail)
    go_wp2_with fail
    refine (fail_at b lv ts (t :: r) fin deep _ (H.out.drew _)).mono ?_
    rintro e w1 ⟨he, q, rfl⟩
    have HE := Lib.hid he
    clear he
    obtain rfl : e = _ := HE.out
    exact ⟨rfl, rfl, grown_trans (grown_drew _ _ _) (grown_drew _ q _)⟩
  · have hd1 : decide (t.num < lo) = true := by simpa using hlo
    clear hf
    go_enter Tryz.func59, Tryz.ntmps59
    go_wp2_with fail
    go_quiet (fail)
    go_wp2_with fail
    refine (fail_at b lv ts (t :: r) fin deep _ (H.out.drew _)).mono ?_
    rintro e w1 ⟨he, q, rfl⟩
    have HE := Lib.hid he
    clear he
    obtain rfl : e = _ := HE.out
    exact ⟨rfl, rfl, grown_trans (grown_drew _ _ _) (grown_drew _ q _)⟩
  · have hd1 : decide (t.num < lo) = false := by simp; omega
    have hd2 : decide (hi < t.num) = true := by simpa using hhi
    clear hf
    go_enter Tryz.func59, Tryz.ntmps59
    go_wp2_with fail
    go_quiet (fail)
    go_wp2_with fail
    refine (fail_at b lv ts (t :: r) fin deep _ (H.out.drew _)).mono ?_
    rintro e w1 ⟨he, q, rfl⟩
    have HE := Lib.hid he
    clear he
    obtain rfl : e = _ := HE.out
    exact ⟨rfl, rfl, grown_trans (grown_drew _ _ _) (grown_drew _ q _)⟩

set_option maxHeartbeats 2000000 in
set_option maxRecDepth 100000 in
theorem number_yes (b g n cap k : Nat) (lv : Value) (ts r : List Tok) (fin deep lo hi : Int) (t : Tok) (w : World) (h : PW w b lv ts (t :: r) fin deep) (hlv : Hid (lv = .slice (some ⟨g, 0, none⟩) n cap)) (hkk : Hid (ts.length - (t :: r).length = k)) (hk : k < n) (hn : n ≤ 9223372036854775807)
    (h0 : w.cell? ⟨g, k * 4, none⟩ = some (.int .i64 t.kind)) (h2 : w.cell? ⟨g, k * 4 + 2, none⟩ = some (.int .i64 t.num)) (hne : (t.kind != 2) = false) (hlo : lo ≤ t.num) (hhi : t.num ≤ hi) :
    Calls Tryz.prog 59 #[.pointer (some ⟨b, 0, none⟩), .int .i64 lo, .int .i64 hi] w fun e w' => e = .returned (.int .i64 t.num) ∧ w.grownBy w' (some b) ∧ PS w' b lv ((k : Int) + 1) fin deep := by
  obtain ⟨c0, c1, c2, c3, f1, _⟩ := h.ps.cells
  rw [hlv.out] at c0
  rw [hkk.out] at c1
  clear c2 c3
  have hd3 : decide (n ≤ k) = false := by simp; omega
  have hd4 : decide ((n : Int) ≤ (k : Int)) = false := by simp; omega
  have hd1 : decide (t.num < lo) = false := by simp; omega
  have hd2 : decide (hi < t.num) = false := by simp; omega
  have HP : Hid (PS w b lv k fin deep) := by
    have := h.ps
    rw [hkk.out] at this
    exact this
  clear h
  go_enter Tryz.func59, Tryz.ntmps59
  go_wp2_with fail
  go_quiet (fail)
  go_wp2_with fail
  go_quiet (fail)
  go_wp2
  go_ret
  exact ⟨rfl, grown_trans (grown_drew _ _ _) (grown_trans (grown_setCell _ ⟨b, 1, none⟩ _) (grown_drew _ _ _)), ((HP.out.drew _).set _).drew _⟩

theorem number_at (b : Nat) (lv : Value) (ts r : List Tok) (fin deep lo hi : Int) (w : World) (h : PW w b lv ts r fin deep) :
    Calls Tryz.prog 59 #[.pointer (some ⟨b, 0, none⟩), .int .i64 lo, .int .i64 hi] w fun e w' => Out w b lv ts fin deep RInt (pNum lo hi r) e w' := by
  cases r with
  | nil =>
    obtain ⟨hl, a, cap, rfl, _⟩ := h.row
    refine (number_out b ts.length cap _ a fin deep lo hi ts w h rfl (by simp)).mono fun e w' ⟨he, hg⟩ => ?_
    exact out_error rfl he hg
  | cons t r =>
    obtain ⟨g, cap, hlv, hg, hgb, hk, hn, h0, h1, h2, h3⟩ := h.tok
    cases hf : (t.kind == 2 && decide (lo ≤ t.num) && decide (t.num ≤ hi))
    · refine (number_bad b g ts.length cap _ lv ts r fin deep lo hi t w h hlv rfl hk h0 h2 hf).mono fun e w' ⟨he, hg⟩ => ?_
      exact out_error (by rw [pNum, hf]; rfl) he hg
    · have hf2 := hf
      simp only [Bool.and_eq_true, beq_iff_eq, decide_eq_true_eq] at hf2
      refine (number_yes b g ts.length cap _ lv ts r fin deep lo hi t w h hlv rfl hk hn h0 h2 (by simp [hf2.1.1]) hf2.1.2 hf2.2).mono ?_
      rintro e w' ⟨rfl, hg2, hp2⟩
      exact out_ok (by rw [pNum, hf]; rfl) rfl hg2 (h.tail hg2 hp2)
end Go.Proofs.YtdjklnlkocconaaGreatDoor

namespace Go.Proofs.YtdjklnlkocconaaGreatDoor
open Go Go.RowKit

set_option maxHeartbeats 2000000 in
set_option maxRecDepth 100000 in
theorem layers_at (w w0 : World) (b : Nat) (lv : Value) (ts r : List Tok) (fin deep : Int) (x : St) (A B : NV) (h : SS w w0 b lv ts r fin deep x A B) :
    Calls Tryz.prog 58 #[.pointer (some ⟨w.heap.size, 0, none⟩), .pointer (some ⟨w.heap.size + 1 + 1, 0, none⟩)] w0 fun e w' =>
      (∃ n k r1, Hid (pLayers r = .ok ((n, k), r1)) ∧ e = .returned (.tuple #[]) ∧ SS w w' b lv ts r1 fin deep { x with n := n, k := k } A B) ∨
      (∃ r1, Hid (pLayers r = .error r1) ∧ Thrown (posOf r1 fin) e ∧ w.grownBy w' (some b)) := by
  have S0 := Lib.hid h
  clear h
  have HP0 : Hid (pLayers r = (pNum 0 32767 r).then fun n r1 => (pMust [47] r1).then fun _ r2 => (pNum 0 32767 r2).then fun k r3 => .ok ((n, k), r3)) := rfl
  have p0 := S0.out.pcell
  go_enter Tryz.func58, Tryz.ntmps58
  go_wp2_with fail
  refine (number_at b lv ts r fin deep 0 32767 _ S0.out.p).mono ?_
  intro e w1 ho
  rcases (out_cases ho).symm with ⟨r1, hp, he, hg⟩ | ⟨n1, r1, v, hp, rfl, hv, hg, hw⟩
  · have HE := Lib.hid he
    clear he ho
    obtain rfl : e = _ := HE.out
    exact ⟨rfl, .inr ⟨_, HP0.out.trans (then_err_eq hp.out), rfl, grown_trans S0.out.g hg⟩⟩
  obtain rfl : v = _ := hv
  have S1 := Lib.hid (S0.out.moved hg hw)
  have HP1 := Lib.hid (HP0.out.trans (then_ok_eq hp.out))
  clear hg hw S0 ho hp HP0 p0
  have p1 := S1.out.pcell
  have x1 := S1.out.xcell 9
  have f1 := S1.out.xfree 9
  simp only [stCells, List.getElem?_cons_succ, List.getElem?_cons_zero] at x1
  go_wp2_with fail
  have S2 := Lib.hid ((S1.out.setN n1).alloc (.cells #[.string ⟨#[47]⟩] 9))
  refine (must_at b _ _ lv ts r1 fin deep _ [47] _ S2.out.p rfl (cell_one_at _ _ _ _ (by simp))).mono ?_
  intro e w2 ho
  rcases (out_cases ho).symm with ⟨r2, hp, he, hg⟩ | ⟨_, r2, v, hp, rfl, hv, hg, hw⟩
  · have HE := Lib.hid he
    clear he ho
    obtain rfl : e = _ := HE.out
    exact ⟨rfl, .inr ⟨_, HP1.out.trans (then_err_eq hp.out), rfl, grown_trans S2.out.g hg⟩⟩
  obtain rfl : v = _ := hv
  have S3 := Lib.hid (S2.out.moved hg hw)
  have HP2 := Lib.hid (HP1.out.trans (then_ok_eq hp.out))
  clear hg hw S1 S2 ho hp HP1 p1 x1 f1
  have p3 := S3.out.pcell
  go_wp2_with fail
  refine (number_at b lv ts r2 fin deep 0 32767 _ S3.out.p).mono ?_
  intro e w3 ho
  rcases (out_cases ho).symm with ⟨r3, hp, he, hg⟩ | ⟨n3, r3, v, hp, rfl, hv, hg, hw⟩
  · have HE := Lib.hid he
    clear he ho
    obtain rfl : e = _ := HE.out
    exact ⟨rfl, .inr ⟨_, HP2.out.trans (then_err_eq hp.out), rfl, grown_trans S3.out.g hg⟩⟩
  obtain rfl : v = _ := hv
  have S4 := Lib.hid (S3.out.moved hg hw)
  have HP3 := Lib.hid (HP2.out.trans (then_ok_eq hp.out))
  clear hg hw S3 ho hp HP2 p3
  have x1 := S4.out.xcell 11
  have f1 := S4.out.xfree 11
  simp only [stCells, List.getElem?_cons_succ, List.getElem?_cons_zero] at x1
  go_wp2
  go_end0
  exact .inl ⟨_, _, _, HP3.out, rfl, S4.out.setK n3⟩
end Go.Proofs.YtdjklnlkocconaaGreatDoor

namespace Go.Proofs.YtdjklnlkocconaaGreatDoor
open Go Go.RowKit

theorem set13 {w : World} {g : Nat} {y : St} {C D : NV} (h : BlkS w g (stCells y C D)) (x : St) (A B : NV) : BlkS (((((((((((((w.setCell ⟨g, 0, none⟩ (.int .i64 x.kind)).setCell ⟨g, 1, none⟩ (.string (bs x.name))).setCell ⟨g, 2, none⟩ (.int .i64 A.k)).setCell ⟨g, 3, none⟩ (.string A.s)).setCell ⟨g, 4, none⟩ (.slice A.a A.n A.c)).setCell ⟨g, 5, none⟩ (.int .i64 B.k)).setCell ⟨g, 6, none⟩ (.string B.s)).setCell ⟨g, 7, none⟩ (.slice B.a B.n B.c)).setCell ⟨g, 8, none⟩ (.int .i64 x.rule)).setCell ⟨g, 9, none⟩ (.int .i64 x.n)).setCell ⟨g, 10, none⟩ (.int .i64 x.d)).setCell ⟨g, 11, none⟩ (.int .i64 x.k)).setCell ⟨g, 12, none⟩ (.bool x.snap)) g (stCells x A B) :=
  (((((((((((((h.set 0 _).set 1 _).set 2 _).set 3 _).set 4 _).set 5 _).set 6 _).set 7 _).set 8 _).set 9 _).set 10 _).set 11 _).set 12 _)
theorem grown13 (w : World) (g : Nat) (x : St) (A B : NV) : w.grownBy (((((((((((((w.setCell ⟨g, 0, none⟩ (.int .i64 x.kind)).setCell ⟨g, 1, none⟩ (.string (bs x.name))).setCell ⟨g, 2, none⟩ (.int .i64 A.k)).setCell ⟨g, 3, none⟩ (.string A.s)).setCell ⟨g, 4, none⟩ (.slice A.a A.n A.c)).setCell ⟨g, 5, none⟩ (.int .i64 B.k)).setCell ⟨g, 6, none⟩ (.string B.s)).setCell ⟨g, 7, none⟩ (.slice B.a B.n B.c)).setCell ⟨g, 8, none⟩ (.int .i64 x.rule)).setCell ⟨g, 9, none⟩ (.int .i64 x.n)).setCell ⟨g, 10, none⟩ (.int .i64 x.d)).setCell ⟨g, 11, none⟩ (.int .i64 x.k)).setCell ⟨g, 12, none⟩ (.bool x.snap)) (some g) :=
  grown_trans (grown_setCell _ ⟨g, 0, none⟩ _) (grown_trans (grown_setCell _ ⟨g, 1, none⟩ _) (grown_trans (grown_setCell _ ⟨g, 2, none⟩ _) (grown_trans (grown_setCell _ ⟨g, 3, none⟩ _) (grown_trans (grown_setCell _ ⟨g, 4, none⟩ _) (grown_trans (grown_setCell _ ⟨g, 5, none⟩ _) (grown_trans (grown_setCell _ ⟨g, 6, none⟩ _) (grown_trans (grown_setCell _ ⟨g, 7, none⟩ _) (grown_trans (grown_setCell _ ⟨g, 8, none⟩ _) (grown_trans (grown_setCell _ ⟨g, 9, none⟩ _) (grown_trans (grown_setCell _ ⟨g, 10, none⟩ _) (grown_trans (grown_setCell _ ⟨g, 11, none⟩ _) (grown_setCell _ ⟨g, 12, none⟩ _))))))))))))

/-- A function that hands back a statement out of a block. -/
theorem stmt_ret {R : Ending → World → Prop} {a : Act} {w : World} {g : Nat} {x : St} {A B : NV} {f : Func} {t : Tmp} (h : f.results = #[.cell t 39]) (hp : a.tmps.getD t undef = .pointer (some ⟨g, 0, none⟩)) (hd : a.defers = []) (hB : BlkS w g (stCells x A B))
    (hR : R (.returned (stVal x A B)) w) : bodyPost Tryz.prog f R .ret a w := by
  have c := fun j => hB.cell j
  have c0 := c 0
  have c1 := c 1; have c2 := c 2; have c3 := c 3; have c4 := c 4; have c5 := c 5; have c6 := c 6; have c7 := c 7; have c8 := c 8; have c9 := c 9; have c10 := c 10; have c11 := c 11; have c12 := c 12
  refine bodyPost_ret (v := stVal x A B) ?_ hd hR
  rw [Array.getD_eq_getD_getElem?] at hp
  simp only [stCells, List.getElem?_cons_succ, List.getElem?_cons_zero] at c0 c1 c2 c3 c4 c5 c6 c7 c8 c9 c10 c11 c12
  simp only [results, h]
  simp [hp, go_sem, c0, c1, c2, c3, c4, c5, c6, c7, c8, c9, c10, c11, c12, stVal, stCells]

/-- What a statement's reading comes to. -/
abbrev StOut (w : World) (b : Nat) (lv : Value) (ts : List Tok) (fin : Int) (p : PR St) (e : Ending) (w' : World) : Prop :=
  Out w b lv ts fin ((0 : Nat) : Int) (fun x v w' => StIs (w.heap.size ≤ ·) w' x v) p e w'

section
variable {w w' : World} {b : Nat} {lv : Value} {ts r : List Tok} {fin deep : Int} {x : St} {A B : NV}
theorem SS.rcell (h : SS w w' b lv ts r fin deep x A B) : w'.cell? ⟨w.heap.size + 1, 0, none⟩ = some (.int .i64 0) ∧ w'.cell? ⟨w.heap.size + 1, 1, none⟩ = some (.string ⟨#[]⟩) ∧ w'.cell? ⟨w.heap.size + 1, 2, none⟩ = some (.int .i64 0) ∧ w'.cell? ⟨w.heap.size + 1, 3, none⟩ = some (.string ⟨#[]⟩) ∧ w'.cell? ⟨w.heap.size + 1, 4, none⟩ = some (.slice none 0 0) ∧ w'.cell? ⟨w.heap.size + 1, 5, none⟩ = some (.int .i64 0) ∧ w'.cell? ⟨w.heap.size + 1, 6, none⟩ = some (.string ⟨#[]⟩) ∧ w'.cell? ⟨w.heap.size + 1, 7, none⟩ = some (.slice none 0 0) ∧ w'.cell? ⟨w.heap.size + 1, 8, none⟩ = some (.int .i64 0) ∧ w'.cell? ⟨w.heap.size + 1, 9, none⟩ = some (.int .i64 0) ∧ w'.cell? ⟨w.heap.size + 1, 10, none⟩ = some (.int .i64 0) ∧ w'.cell? ⟨w.heap.size + 1, 11, none⟩ = some (.int .i64 0) ∧ w'.cell? ⟨w.heap.size + 1, 12, none⟩ = some (.bool false) := by
  have c := fun j => h.res.cell j
  exact ⟨c 0, c 1, c 2, c 3, c 4, c 5, c 6, c 7, c 8, c 9, c 10, c 11, c 12⟩
theorem SS.rfree (h : SS w w' b lv ts r fin deep x A B) : w'.frozen? ⟨w.heap.size + 1, 0, none⟩ = false ∧ w'.frozen? ⟨w.heap.size + 1, 1, none⟩ = false ∧ w'.frozen? ⟨w.heap.size + 1, 2, none⟩ = false ∧ w'.frozen? ⟨w.heap.size + 1, 3, none⟩ = false ∧ w'.frozen? ⟨w.heap.size + 1, 4, none⟩ = false ∧ w'.frozen? ⟨w.heap.size + 1, 5, none⟩ = false ∧ w'.frozen? ⟨w.heap.size + 1, 6, none⟩ = false ∧ w'.frozen? ⟨w.heap.size + 1, 7, none⟩ = false ∧ w'.frozen? ⟨w.heap.size + 1, 8, none⟩ = false ∧ w'.frozen? ⟨w.heap.size + 1, 9, none⟩ = false ∧ w'.frozen? ⟨w.heap.size + 1, 10, none⟩ = false ∧ w'.frozen? ⟨w.heap.size + 1, 11, none⟩ = false ∧ w'.frozen? ⟨w.heap.size + 1, 12, none⟩ = false :=
  ⟨h.res.free 0, h.res.free 1, h.res.free 2, h.res.free 3, h.res.free 4, h.res.free 5, h.res.free 6, h.res.free 7, h.res.free 8, h.res.free 9, h.res.free 10, h.res.free 11, h.res.free 12⟩
theorem SS.done {g : Nat} (hg : g = w.heap.size + 1) (h : SS w w' b lv ts r fin ((0 : Nat) : Int) x A B) {p : PR St} (hp : p = .ok (x, r)) : StOut w b lv ts fin p (.returned (stVal x A B)) (((((((((((((w'.setCell ⟨g, 0, none⟩ (.int .i64 x.kind)).setCell ⟨g, 1, none⟩ (.string (bs x.name))).setCell ⟨g, 2, none⟩ (.int .i64 A.k)).setCell ⟨g, 3, none⟩ (.string A.s)).setCell ⟨g, 4, none⟩ (.slice A.a A.n A.c)).setCell ⟨g, 5, none⟩ (.int .i64 B.k)).setCell ⟨g, 6, none⟩ (.string B.s)).setCell ⟨g, 7, none⟩ (.slice B.a B.n B.c)).setCell ⟨g, 8, none⟩ (.int .i64 x.rule)).setCell ⟨g, 9, none⟩ (.int .i64 x.n)).setCell ⟨g, 10, none⟩ (.int .i64 x.d)).setCell ⟨g, 11, none⟩ (.int .i64 x.k)).setCell ⟨g, 12, none⟩ (.bool x.snap)) := by
  subst hg
  have hs := h.size
  have h13 := grown13 w' (w.heap.size + 1) x A B
  exact out_ok hp ⟨A, B, rfl, (h.na.grown h13 (by omega)).from (by omega), (h.nb.grown h13 (by omega)).from (by omega)⟩ (grown_new h.g h13 (by omega)) (h.p.other h13 (by have := h.hb; omega))
theorem SS.ret (h : SS w w' b lv ts r fin ((0 : Nat) : Int) x A B) {P : PR St} (hp : P = .ok (x, r)) {f : Func} {t : Tmp} {a : Act} {W : World} (hr : f.results = #[.cell t 39]) (ht : a.tmps.getD t undef = .pointer (some ⟨w.heap.size + 1, 0, none⟩)) (hd : a.defers = [])
    (hW : W = (((((((((((((w'.setCell ⟨w.heap.size + 1, 0, none⟩ (.int .i64 x.kind)).setCell ⟨w.heap.size + 1, 1, none⟩ (.string (bs x.name))).setCell ⟨w.heap.size + 1, 2, none⟩ (.int .i64 A.k)).setCell ⟨w.heap.size + 1, 3, none⟩ (.string A.s)).setCell ⟨w.heap.size + 1, 4, none⟩ (.slice A.a A.n A.c)).setCell ⟨w.heap.size + 1, 5, none⟩ (.int .i64 B.k)).setCell ⟨w.heap.size + 1, 6, none⟩ (.string B.s)).setCell ⟨w.heap.size + 1, 7, none⟩ (.slice B.a B.n B.c)).setCell ⟨w.heap.size + 1, 8, none⟩ (.int .i64 x.rule)).setCell ⟨w.heap.size + 1, 9, none⟩ (.int .i64 x.n)).setCell ⟨w.heap.size + 1, 10, none⟩ (.int .i64 x.d)).setCell ⟨w.heap.size + 1, 11, none⟩ (.int .i64 x.k)).setCell ⟨w.heap.size + 1, 12, none⟩ (.bool x.snap))) : bodyPost Tryz.prog f (fun e w' => StOut w b lv ts fin P e w') .ret a W := by
  subst hW
  exact stmt_ret hr ht hd (set13 h.res x A B) (h.done rfl hp)
end
end Go.Proofs.YtdjklnlkocconaaGreatDoor

namespace Go.Proofs.YtdjklnlkocconaaGreatDoor
open Go Go.RowKit

set_option maxHeartbeats 1000000 in
set_option maxRecDepth 100000 in
theorem stmt_input (b : Nat) (lv : Value) (ts r : List Tok) (fin : Int) (t : Tok) (P : PR St) (w : World) (h : PW w b lv ts (t :: r) fin ((0 : Nat) : Int)) (hs : Hid (seesR (t :: r) [w_input, w_let, w_check, w_small, w_write] = true)) (e0 : ((bs t.text).toList == [105, 110, 112, 117, 116]) = true)
    (HP0 : Hid (P = (pName r).then fun s r2 => (pMust [61] r2).then fun _ r3 => sInput s r3)) :
    Calls Tryz.prog 36 #[.pointer (some ⟨b, 0, none⟩)] w fun e w' => StOut w b lv ts fin P e w' := by
  have S0 := Lib.hid (SS.start h)
  clear h
  have hmf : ∀ (fn : Fn) (first cap : Array Value) (w : World), (Instr.makeFunc fn first cap).run Tryz.prog w = .ok (.func fn first cap) w := fun _ _ _ _ => rfl
  have pb := S0.out.pcell
  have pb2 := fun o => (S0.out.alloc o).pcell
  go_enter Tryz.func36, Tryz.ntmps36
  go_wp2_with fail
  refine (sees_w b lv ts (t :: r) fin _ _ [w_input, w_let, w_check, w_small, w_write] true _ hs (S0.out.alloc _).p (txtRow_at _ _ [w_input, w_let, w_check, w_small, w_write] _ _ _ _ rfl rfl (by simp) (by simp))).mono ?_
  rintro e w1 ⟨rfl, hg⟩
  have S1 := Lib.hid ((S0.out.alloc _).still hg)
  clear hg S0 pb pb2
  have pb := S1.out.pcell
  go_wp2_with fail
  refine (take_at b lv ts r t fin _ _ (S1.out).p).mono ?_
  rintro e w2 ⟨rfl, hg, hw⟩
  have S2 := Lib.hid ((S1.out).moved hg hw)
  clear hg hw S1 pb
  have pb := S2.out.pcell
  go_wp2_with fail
  refine (name_at b lv ts r fin _ _ (S2.out).p).mono ?_
  intro e w3 ho
  rcases (out_cases ho).symm with ⟨re, hp, he, hg⟩ | ⟨a3, r3, v, hp, rfl, hv, hg, hw⟩
  · have HE := Lib.hid he
    clear he ho
    obtain rfl : e = _ := HE.out
    exact ⟨rfl, out_error (HP0.out.trans (then_err_eq hp.out)) rfl (grown_trans (S2.out).g hg)⟩
  obtain rfl : v = _ := hv
  have S3 := Lib.hid ((S2.out).moved hg hw)
  have HP3 := Lib.hid (HP0.out.trans (then_ok_eq hp.out))
  clear hg hw ho hp HP0 S2 pb
  have pb := S3.out.pcell
  have x1 := S3.out.xcell 1
  have f1 := S3.out.xfree 1
  simp only [stCells, List.getElem?_cons_succ, List.getElem?_cons_zero] at x1
  go_wp2_with fail
  refine (must_at b _ _ lv ts r3 fin _ _ [61] _ ((S3.out.setName a3).alloc _).p rfl (cell_one_at _ _ _ _ (by simp))).mono ?_
  intro e w4 ho
  rcases (out_cases ho).symm with ⟨re, hp, he, hg⟩ | ⟨a4, r4, v, hp, rfl, hv, hg, hw⟩
  · have HE := Lib.hid he
    clear he ho
    obtain rfl : e = _ := HE.out
    exact ⟨rfl, out_error (HP3.out.trans (then_err_eq hp.out)) rfl (grown_trans ((S3.out.setName a3).alloc _).g hg)⟩
  obtain rfl : v = _ := hv
  have S4 := Lib.hid (((S3.out.setName a3).alloc _).moved hg hw)
  have HP4 := Lib.hid (HP3.out.trans (then_ok_eq hp.out))
  clear hg hw ho hp HP3 S3 pb x1 f1
  have pb := S4.out.pcell
  have x0 := S4.out.xcell 0
  have f0 := S4.out.xfree 0
  simp only [stCells, List.getElem?_cons_zero] at x0
  go_wp2_with fail
  refine (layers_at w _ b lv ts r4 fin _ _ _ _ (S4.out.setKind 1)).mono ?_
  intro e w5 ho
  rcases ho.symm with ⟨re, hp, he, hg⟩ | ⟨n5, l5, r5, hp, rfl, hs⟩
  · have HE := Lib.hid he
    clear he ho
    obtain rfl : e = _ := HE.out
    exact ⟨rfl, out_error (HP4.out.trans (then_err_eq hp.out)) rfl hg⟩
  have S5 := Lib.hid hs
  have HP5 := Lib.hid (HP4.out.trans (then_ok_eq hp.out))
  clear hs ho hp HP4 S4 pb x0 f0
  have pb := S5.out.pcell
  go_wp2_with fail
  refine (must_at b _ _ lv ts r5 fin _ _ [59] _ (S5.out.alloc _).p rfl (cell_one_at _ _ _ _ (by simp))).mono ?_
  intro e w6 ho
  rcases (out_cases ho).symm with ⟨re, hp, he, hg⟩ | ⟨a6, r6, v, hp, rfl, hv, hg, hw⟩
  · have HE := Lib.hid he
    clear he ho
    obtain rfl : e = _ := HE.out
    exact ⟨rfl, out_error (HP5.out.trans (then_err_eq hp.out)) rfl (grown_trans (S5.out.alloc _).g hg)⟩
  obtain rfl : v = _ := hv
  have S6 := Lib.hid ((S5.out.alloc _).moved hg hw)
  have HP6 := Lib.hid (HP5.out.trans (then_ok_eq hp.out))
  clear hg hw ho hp HP5 S5 pb
  have x0 := S6.out.xcell 0
  have f0 := S6.out.xfree 0
  have x1 := S6.out.xcell 1
  have f1 := S6.out.xfree 1
  have x2 := S6.out.xcell 2
  have f2 := S6.out.xfree 2
  have x3 := S6.out.xcell 3
  have f3 := S6.out.xfree 3
  have x4 := S6.out.xcell 4
  have f4 := S6.out.xfree 4
  have x5 := S6.out.xcell 5
  have f5 := S6.out.xfree 5
  have x6 := S6.out.xcell 6
  have f6 := S6.out.xfree 6
  have x7 := S6.out.xcell 7
  have f7 := S6.out.xfree 7
  have x8 := S6.out.xcell 8
  have f8 := S6.out.xfree 8
  have x9 := S6.out.xcell 9
  have f9 := S6.out.xfree 9
  have x10 := S6.out.xcell 10
  have f10 := S6.out.xfree 10
  have x11 := S6.out.xcell 11
  have f11 := S6.out.xfree 11
  have x12 := S6.out.xcell 12
  have f12 := S6.out.xfree 12
  simp only [stCells, List.getElem?_cons_succ, List.getElem?_cons_zero] at x0 x1 x2 x3 x4 x5 x6 x7 x8 x9 x10 x11 x12
  have q0 := S6.out.rcell
  have q1 := S6.out.rfree
  obtain ⟨q00, q01, q02, q03, q04, q05, q06, q07, q08, q09, q010, q011, q012⟩ := q0
  obtain ⟨q10, q11, q12, q13, q14, q15, q16, q17, q18, q19, q110, q111, q112⟩ := q1
  go_wp2
  refine S6.out.ret HP6.out Tryz.results36 ?_ rfl ?_
  · rfl
  · rfl
end Go.Proofs.YtdjklnlkocconaaGreatDoor

namespace Go.Proofs.YtdjklnlkocconaaGreatDoor
open Go Go.RowKit

set_option maxHeartbeats 1000000 in
set_option maxRecDepth 100000 in
theorem stmt_let (b : Nat) (lv : Value) (ts r : List Tok) (fin : Int) (t : Tok) (P : PR St) (w : World) (h : PW w b lv ts (t :: r) fin ((0 : Nat) : Int)) (hs : Hid (seesR (t :: r) [w_input, w_let, w_check, w_small, w_write] = true)) (e0 : ((bs t.text).toList == [105, 110, 112, 117, 116]) = false) (e1 : ((bs t.text).toList == [108, 101, 116]) = true)
    (HP0 : Hid (P = (pName r).then fun s r2 => (pMust [61] r2).then fun _ r3 => sLet s r3)) :
    Calls Tryz.prog 36 #[.pointer (some ⟨b, 0, none⟩)] w fun e w' => StOut w b lv ts fin P e w' := by
  have S0 := Lib.hid (SS.start h)
  clear h
  have hmf : ∀ (fn : Fn) (first cap : Array Value) (w : World), (Instr.makeFunc fn first cap).run Tryz.prog w = .ok (.func fn first cap) w := fun _ _ _ _ => rfl
  have pb := S0.out.pcell
  have pb2 := fun o => (S0.out.alloc o).pcell
  go_enter Tryz.func36, Tryz.ntmps36
  go_wp2_with fail
  refine (sees_w b lv ts (t :: r) fin _ _ [w_input, w_let, w_check, w_small, w_write] true _ hs (S0.out.alloc _).p (txtRow_at _ _ [w_input, w_let, w_check, w_small, w_write] _ _ _ _ rfl rfl (by simp) (by simp))).mono ?_
  rintro e w1 ⟨rfl, hg⟩
  have S1 := Lib.hid ((S0.out.alloc _).still hg)
  clear hg S0 pb pb2
  have pb := S1.out.pcell
  go_wp2_with fail
  refine (take_at b lv ts r t fin _ _ (S1.out).p).mono ?_
  rintro e w2 ⟨rfl, hg, hw⟩
  have S2 := Lib.hid ((S1.out).moved hg hw)
  clear hg hw S1 pb
  have pb := S2.out.pcell
  go_wp2_with fail
  refine (name_at b lv ts r fin _ _ (S2.out).p).mono ?_
  intro e w3 ho
  rcases (out_cases ho).symm with ⟨re, hp, he, hg⟩ | ⟨a3, r3, v, hp, rfl, hv, hg, hw⟩
  · have HE := Lib.hid he
    clear he ho
    obtain rfl : e = _ := HE.out
    exact ⟨rfl, out_error (HP0.out.trans (then_err_eq hp.out)) rfl (grown_trans (S2.out).g hg)⟩
  obtain rfl : v = _ := hv
  have S3 := Lib.hid ((S2.out).moved hg hw)
  have HP3 := Lib.hid (HP0.out.trans (then_ok_eq hp.out))
  clear hg hw ho hp HP0 S2 pb
  have pb := S3.out.pcell
  have x1 := S3.out.xcell 1
  have f1 := S3.out.xfree 1
  simp only [stCells, List.getElem?_cons_succ, List.getElem?_cons_zero] at x1
  go_wp2_with fail
  refine (must_at b _ _ lv ts r3 fin _ _ [61] _ ((S3.out.setName a3).alloc _).p rfl (cell_one_at _ _ _ _ (by simp))).mono ?_
  intro e w4 ho
  rcases (out_cases ho).symm with ⟨re, hp, he, hg⟩ | ⟨a4, r4, v, hp, rfl, hv, hg, hw⟩
  · have HE := Lib.hid he
    clear he ho
    obtain rfl : e = _ := HE.out
    exact ⟨rfl, out_error (HP3.out.trans (then_err_eq hp.out)) rfl (grown_trans ((S3.out.setName a3).alloc _).g hg)⟩
  obtain rfl : v = _ := hv
  have S4 := Lib.hid (((S3.out.setName a3).alloc _).moved hg hw)
  have HP4 := Lib.hid (HP3.out.trans (then_ok_eq hp.out))
  clear hg hw ho hp HP3 S3 pb x1 f1
  have pb := S4.out.pcell
  have x0 := S4.out.xcell 0
  have f0 := S4.out.xfree 0
  simp only [stCells, List.getElem?_cons_zero] at x0
  go_wp2_with fail
  refine (expr_at b lv ts r4 fin 0 _ (by decide) (S4.out.setKind 2).p).mono ?_
  intro e w5 ho
  rcases (out_cases ho).symm with ⟨re, hp, he, hg⟩ | ⟨a5, r5, v, hp, rfl, hv, hg, hw⟩
  · have HE := Lib.hid he
    clear he ho
    obtain rfl : e = _ := HE.out
    exact ⟨rfl, out_error (HP4.out.trans (then_err_eq hp.out)) rfl (grown_trans (S4.out.setKind 2).g hg)⟩
  obtain ⟨k5, s5, b5, m5, c5, rfl⟩ := hv.agg
  have HV5 : Hid (NdIs (w.heap.size + 3 ≤ ·) w5 (Ex.nd a5) (NV.val ⟨k5, s5, b5, m5, c5⟩)) := hv.from (S4.out.setKind 2).size
  have S5 := Lib.hid ((S4.out.setKind 2).moved hg hw)
  have HP5 := Lib.hid (HP4.out.trans (then_ok_eq hp.out))
  clear hg hw ho hp HP4 hv S4 pb x0 f0
  have pb := S5.out.pcell
  have x2 := S5.out.xcell 2
  have f2 := S5.out.xfree 2
  have x3 := S5.out.xcell 3
  have f3 := S5.out.xfree 3
  have x4 := S5.out.xcell 4
  have f4 := S5.out.xfree 4
  simp only [stCells, List.getElem?_cons_succ, List.getElem?_cons_zero] at x2 x3 x4
  go_wp2_with fail
  refine (must_at b _ _ lv ts r5 fin _ _ [59] _ ((S5.out.setA _ _ HV5.out).alloc _).p rfl (cell_one_at _ _ _ _ (by simp))).mono ?_
  intro e w6 ho
  rcases (out_cases ho).symm with ⟨re, hp, he, hg⟩ | ⟨a6, r6, v, hp, rfl, hv, hg, hw⟩
  · have HE := Lib.hid he
    clear he ho
    obtain rfl : e = _ := HE.out
    exact ⟨rfl, out_error (HP5.out.trans (then_err_eq hp.out)) rfl (grown_trans ((S5.out.setA _ _ HV5.out).alloc _).g hg)⟩
  obtain rfl : v = _ := hv
  have S6 := Lib.hid (((S5.out.setA _ _ HV5.out).alloc _).moved hg hw)
  have HP6 := Lib.hid (HP5.out.trans (then_ok_eq hp.out))
  clear hg hw ho hp HP5 S5 pb x2 x3 x4 f2 f3 f4
  have x0 := S6.out.xcell 0
  have f0 := S6.out.xfree 0
  have x1 := S6.out.xcell 1
  have f1 := S6.out.xfree 1
  have x2 := S6.out.xcell 2
  have f2 := S6.out.xfree 2
  have x3 := S6.out.xcell 3
  have f3 := S6.out.xfree 3
  have x4 := S6.out.xcell 4
  have f4 := S6.out.xfree 4
  have x5 := S6.out.xcell 5
  have f5 := S6.out.xfree 5
  have x6 := S6.out.xcell 6
  have f6 := S6.out.xfree 6
  have x7 := S6.out.xcell 7
  have f7 := S6.out.xfree 7
  have x8 := S6.out.xcell 8
  have f8 := S6.out.xfree 8
  have x9 := S6.out.xcell 9
  have f9 := S6.out.xfree 9
  have x10 := S6.out.xcell 10
  have f10 := S6.out.xfree 10
  have x11 := S6.out.xcell 11
  have f11 := S6.out.xfree 11
  have x12 := S6.out.xcell 12
  have f12 := S6.out.xfree 12
  simp only [stCells, List.getElem?_cons_succ, List.getElem?_cons_zero] at x0 x1 x2 x3 x4 x5 x6 x7 x8 x9 x10 x11 x12
  have q0 := S6.out.rcell
  have q1 := S6.out.rfree
  obtain ⟨q00, q01, q02, q03, q04, q05, q06, q07, q08, q09, q010, q011, q012⟩ := q0
  obtain ⟨q10, q11, q12, q13, q14, q15, q16, q17, q18, q19, q110, q111, q112⟩ := q1
  go_wp2
  refine S6.out.ret HP6.out Tryz.results36 ?_ rfl ?_
  · rfl
  · rfl
end Go.Proofs.YtdjklnlkocconaaGreatDoor
