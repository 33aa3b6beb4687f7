/-
  The reference's reader: what stmt has in memory. No walk.
  The reference's reader: stmt at input: the walk.
  The reference's reader: stmt at let: the walk.
  The reference's reader: small laws of its states, for stmt. No walk.
-/
import Derived.Test.YtgnjaneddidbbaaDoorRdBZ
import Derived.Test.YtgnjaneddidbbaaDoorPaDZ
namespace Go.Proofs.YtgnjaneddidbbaaDoor
open Go Go.RowKit

/-- An expression taken behind a reading, and what it is. -/
def exP {α : Type} (d : Nat) (p : PR α) : PR (α × Ex) := p.then fun a r => (pEx d r).then fun ex r1 => .ok ((a, ex), r1)

theorem rexpr_p {α : Type} (b : Nat) (lv : Value) (ts : List Tok) (d : Nat) (p : PR α) (w : World) (hd : d ≤ 64) (h : RP w b lv ts p) :
    Calls Tryd.prog 63 #[.pointer (some ⟨b, 0, none⟩), .int .i64 1, .int .i64 d] w fun e w' => ∃ A : NV, e = .returned (.agg #[.int .i64 A.k, .string A.s, .slice A.a A.n A.c]) ∧ w.grownBy w' (some b) ∧ RP w' b lv ts (exP d p) ∧
      ∀ a ex r, exP d p = .ok ((a, ex), r) → NdIs (w.heap.size ≤ ·) w' ex.nd A.val := by
  refine (rexpr_at b lv ts d p w hd h).mono ?_
  rintro e w' ⟨xk, xs, xa, xn, xc, rfl, hg, hp, hn⟩
  refine ⟨⟨xk, xs, xa, xn, xc⟩, rfl, hg, ?_, ?_⟩
  · refine hp.iff ⟨?_, ?_⟩
    · intro ex r e
      obtain ⟨a, r1, e1, e2⟩ := then_ok_of e
      exact ⟨(a, ex), by rw [exP, e1, PR.then_ok, e2]; rfl⟩
    · intro r e
      rw [exP]
      cases p with
      | error r1 => cases e; rfl
      | ok q =>
        obtain ⟨a, r1⟩ := q
        have e2 : pEx d r1 = .error r := e
        rw [PR.then_ok, e2]; rfl
  · intro a ex r e
    obtain ⟨a', r1, e1, e2⟩ := then_ok_of e
    obtain ⟨ex', r2, e3, e4⟩ := then_ok_of e2
    cases e4
    exact hn ex r (by rw [e1, PR.then_ok, e3])

/-- The reader's stmt at work: its result's block, its variable's. -/
structure ZS {α : Type} (w w' : World) (b : Nat) (lv : Value) (ts : List Tok) (p : PR α) (xb : Nat) (x : St) (A B : NV) (fa fb : α → Nd) : Prop where
  hb : b < w.heap.size
  g : w.grownBy w' (some b)
  rp : RP w' b lv ts p
  res : BlkS w' w.heap.size (stCells .zero .zero .zero)
  hx : w.heap.size < xb
  blk : BlkS w' xb (stCells x A B)
  na : ∀ a r, p = .ok (a, r) → NdIs (xb + 1 ≤ ·) w' (fa a) A.val
  nb : ∀ a r, p = .ok (a, r) → NdIs (xb + 1 ≤ ·) w' (fb a) B.val

/-- .. ahead of its variable. -/
structure YS {α : Type} (w w' : World) (b : Nat) (lv : Value) (ts : List Tok) (p : PR α) : Prop where
  hb : b < w.heap.size
  g : w.grownBy w' (some b)
  rp : RP w' b lv ts p
  res : BlkS w' w.heap.size (stCells .zero .zero .zero)

def noTree {α : Type} (_ : α) : Nd := .zero

section
variable {α β : Type} {w w' w'' : World} {b xb : Nat} {lv : Value} {ts : List Tok} {p : PR α} {q : PR β} {x : St} {A B : NV} {fa fb : α → Nd} {ga gb : β → Nd}
theorem YS.start (h : RP w b lv ts p) : YS w (w.alloc (.cells (stCells .zero .zero .zero).toArray 73)) b lv ts p :=
  ⟨h.lt, grown_alloc _ _ _, h.grown (grown_alloc _ _ _), (MapKept.heap_alloc w _).1⟩
theorem YS.still (h : YS w w' b lv ts p) (hg : w'.grownBy w'' none) : YS w w'' b lv ts p :=
  ⟨h.hb, grown_trans h.g (grown_none hg _), h.rp.grown hg, h.res.grown hg (by simp)⟩
theorem YS.make (h : YS w w' b lv ts p) (x : St) : ZS w (w'.alloc (.cells (stCells x .zero .zero).toArray 73)) b lv ts p w'.heap.size x .zero .zero noTree noTree := by
  have h2 := h.still (grown_alloc w' (.cells (stCells x .zero .zero).toArray 73) none)
  exact ⟨h2.hb, h2.g, h2.rp, h2.res, h.res.lt, (MapKept.heap_alloc w' _).1, fun _ _ _ => NdIs.leaf _ _ 0 [] 0 none, fun _ _ _ => NdIs.leaf _ _ 0 [] 0 none⟩
theorem ZS.size (h : ZS w w' b lv ts p xb x A B fa fb) : xb < w'.heap.size := h.blk.lt
theorem ZS.still (h : ZS w w' b lv ts p xb x A B fa fb) (hg : w'.grownBy w'' none) : ZS w w'' b lv ts p xb x A B fa fb :=
  ⟨h.hb, grown_trans h.g (grown_none hg _), h.rp.grown hg, h.res.grown hg (by simp), h.hx, h.blk.grown hg (by simp),
    fun a r e => NdIs.kept hg.size (fun g hl ho => ⟨hg.block g hl (by simp), ho⟩) _ _ (h.na a r e), fun a r e => NdIs.kept hg.size (fun g hl ho => ⟨hg.block g hl (by simp), ho⟩) _ _ (h.nb a r e)⟩
/-- A reading went on. -/
theorem ZS.moved (h : ZS w w' b lv ts p xb x A B fa fb) (hg : w'.grownBy w'' (some b)) (hq : RP w'' b lv ts q) (hv : ∀ a r, q = .ok (a, r) → ∃ a' r', p = .ok (a', r') ∧ fa a' = ga a ∧ fb a' = gb a) : ZS w w'' b lv ts q xb x A B ga gb := by
  have hb := h.hb
  have hx := h.hx
  refine ⟨hb, grown_trans h.g hg, hq, h.res.grown hg (by intro e; have := Option.some.inj e; omega), hx, h.blk.grown hg (by intro e; have := Option.some.inj e; omega), ?_, ?_⟩
  · intro a r e
    obtain ⟨a', r', e1, e2, e3⟩ := hv a r e
    rw [← e2]
    exact (h.na a' r' e1).grown hg (by omega)
  · intro a r e
    obtain ⟨a', r', e1, e2, e3⟩ := hv a r e
    rw [← e3]
    exact (h.nb a' r' e1).grown hg (by omega)
/-- x turned. -/
theorem ZS.turn (h : ZS w w' b lv ts p xb x A B fa fb) {x' : St} {A' B' : NV} (hg : w'.grownBy w'' (some xb)) (hx : BlkS w'' xb (stCells x' A' B')) {fa' fb' : α → Nd} (ha : ∀ a r, p = .ok (a, r) → NdIs (xb + 1 ≤ ·) w' (fa' a) A'.val) (hb : ∀ a r, p = .ok (a, r) → NdIs (xb + 1 ≤ ·) w' (fb' a) B'.val) :
    ZS w w'' b lv ts p xb x' A' B' fa' fb' := by
  have hbb := h.hb
  have hxx := h.hx
  exact ⟨h.hb, grown_new h.g hg (by omega), h.rp.other hg (by omega), h.res.grown hg (by intro e; have := Option.some.inj e; omega), hxx, hx,
    fun a r e => (ha a r e).grown hg (by omega), fun a r e => (hb a r e).grown hg (by omega)⟩
theorem ZS.setName (h : ZS w w' b lv ts p xb x A B fa fb) (v : List UInt8) : ZS w (w'.setCell ⟨xb, 1, none⟩ (.string (bs v))) b lv ts p xb { x with name := v } A B fa fb :=
  h.turn (x' := { x with name := v }) (grown_setCell _ ⟨xb, 1, none⟩ _) (h.blk.set 1 _) h.na h.nb
theorem ZS.setRule (h : ZS w w' b lv ts p xb x A B fa fb) (v : Int) : ZS w (w'.setCell ⟨xb, 8, none⟩ (.int .i64 v)) b lv ts p xb { x with rule := v } A B fa fb :=
  h.turn (x' := { x with rule := v }) (grown_setCell _ ⟨xb, 8, none⟩ _) (h.blk.set 8 _) h.na h.nb
theorem ZS.setN (h : ZS w w' b lv ts p xb x A B fa fb) (v : Int) : ZS w (w'.setCell ⟨xb, 9, none⟩ (.int .i64 v)) b lv ts p xb { x with n := v } A B fa fb :=
  h.turn (x' := { x with n := v }) (grown_setCell _ ⟨xb, 9, none⟩ _) (h.blk.set 9 _) h.na h.nb
theorem ZS.setD (h : ZS w w' b lv ts p xb x A B fa fb) (v : Int) : ZS w (w'.setCell ⟨xb, 10, none⟩ (.int .i64 v)) b lv ts p xb { x with d := v } A B fa fb :=
  h.turn (x' := { x with d := v }) (grown_setCell _ ⟨xb, 10, none⟩ _) (h.blk.set 10 _) h.na h.nb
theorem ZS.setK (h : ZS w w' b lv ts p xb x A B fa fb) (v : Int) : ZS w (w'.setCell ⟨xb, 11, none⟩ (.int .i64 v)) b lv ts p xb { x with k := v } A B fa fb :=
  h.turn (x' := { x with k := v }) (grown_setCell _ ⟨xb, 11, none⟩ _) (h.blk.set 11 _) h.na h.nb
theorem ZS.setSnap (h : ZS w w' b lv ts p xb x A B fa fb) (v : Bool) : ZS w (w'.setCell ⟨xb, 12, none⟩ (.bool v)) b lv ts p xb { x with snap := v } A B fa fb :=
  h.turn (x' := { x with snap := v }) (grown_setCell _ ⟨xb, 12, none⟩ _) (h.blk.set 12 _) h.na h.nb
theorem ZS.setA (h : ZS w w' b lv ts p xb x A B fa fb) (V : NV) (fa' : α → Nd) (hv : ∀ a r, p = .ok (a, r) → NdIs (xb + 1 ≤ ·) w' (fa' a) V.val) :
    ZS w (((w'.setCell ⟨xb, 2, none⟩ (.int .i64 V.k)).setCell ⟨xb, 3, none⟩ (.string V.s)).setCell ⟨xb, 4, none⟩ (.slice V.a V.n V.c)) b lv ts p xb x V B fa' fb :=
  h.turn (grown_trans (grown_setCell _ ⟨xb, 2, none⟩ _) (grown_trans (grown_setCell _ ⟨xb, 3, none⟩ _) (grown_setCell _ ⟨xb, 4, none⟩ _))) (((h.blk.set 2 _).set 3 _).set 4 _) hv h.nb
theorem ZS.setB (h : ZS w w' b lv ts p xb x A B fa fb) (V : NV) (fb' : α → Nd) (hv : ∀ a r, p = .ok (a, r) → NdIs (xb + 1 ≤ ·) w' (fb' a) V.val) :
    ZS w (((w'.setCell ⟨xb, 5, none⟩ (.int .i64 V.k)).setCell ⟨xb, 6, none⟩ (.string V.s)).setCell ⟨xb, 7, none⟩ (.slice V.a V.n V.c)) b lv ts p xb x A V fa fb' :=
  h.turn (grown_trans (grown_setCell _ ⟨xb, 5, none⟩ _) (grown_trans (grown_setCell _ ⟨xb, 6, none⟩ _) (grown_setCell _ ⟨xb, 7, none⟩ _))) (((h.blk.set 5 _).set 6 _).set 7 _) h.na hv
end

/-- What the reader's stmt comes to. -/
def RStOut (w : World) (b : Nat) (lv : Value) (ts : List Tok) (P : PR St) (e : Ending) (w' : World) : Prop :=
  ∃ (x : St) (A B : NV), e = .returned (stVal x A B) ∧ w.grownBy w' (some b) ∧ RP w' b lv ts P ∧ ∀ y r, P = .ok (y, r) → y = x ∧ NdIs (w.heap.size ≤ ·) w' y.a A.val ∧ NdIs (w.heap.size ≤ ·) w' y.b B.val

/-- It ends: its result stored. -/
theorem ZS.done {α : Type} {w w' w'' : World} {b xb : Nat} {lv : Value} {ts : List Tok} {p : PR α} {x : St} {A B : NV} {fa fb : α → Nd} (h : ZS w w' b lv ts p xb x A B fa fb) (hg : w'.grownBy w'' (some w.heap.size)) {P : PR St} (mk : α → St) (hP : P = p.then fun a r => .ok (mk a, r))
    (hm : ∀ a r, p = .ok (a, r) → (mk a).a = fa a ∧ (mk a).b = fb a ∧ stCells (mk a) A B = stCells x A B) : RStOut w b lv ts P (.returned (stVal x A B)) w'' := by
  have hb := h.hb
  have hx := h.hx
  have hrp : RP w'' b lv ts P := by rw [hP]; exact (h.rp.other hg hb).val (fun a _ => mk a)
  have hgg := grown_new h.g hg (Nat.le_refl _)
  cases p with
  | error r =>
    exact ⟨x, A, B, rfl, hgg, hrp, fun y r e => by rw [hP] at e; cases e⟩
  | ok q =>
    obtain ⟨a, r⟩ := q
    obtain ⟨h1, h2, h3⟩ := hm a r rfl
    refine ⟨mk a, A, B, by rw [stVal, stVal, h3], hgg, hrp, fun y r' e => ?_⟩
    rw [hP] at e
    cases e
    refine ⟨rfl, ?_, ?_⟩
    · rw [h1]; exact ((h.na a r rfl).grown hg (by omega)).from (by omega)
    · rw [h2]; exact ((h.nb a r rfl).grown hg (by omega)).from (by omega)

theorem ZS.ret {α : Type} {w w' W : World} {b xb : Nat} {lv : Value} {ts : List Tok} {p : PR α} {x : St} {A B : NV} {fa fb : α → Nd} (h : ZS w w' b lv ts p xb x A B fa fb) {P : PR St} (mk : α → St) (hP : P = p.then fun a r => .ok (mk a, r))
    (hm : ∀ a r, p = .ok (a, r) → (mk a).a = fa a ∧ (mk a).b = fb a ∧ stCells (mk a) A B = stCells x A B) {f : Func} {t : Tmp} {a : Act} (hr : f.results = #[.cell t 73]) (ht : a.tmps.getD t undef = .pointer (some ⟨w.heap.size, 0, none⟩)) (hd : a.defers = [])
    (hW : W = (((((((((((((w'.setCell ⟨w.heap.size, 0, none⟩ (.int .i64 x.kind)).setCell ⟨w.heap.size, 1, none⟩ (.string (bs x.name))).setCell ⟨w.heap.size, 2, none⟩ (.int .i64 A.k)).setCell ⟨w.heap.size, 3, none⟩ (.string A.s)).setCell ⟨w.heap.size, 4, none⟩ (.slice A.a A.n A.c)).setCell ⟨w.heap.size, 5, none⟩ (.int .i64 B.k)).setCell ⟨w.heap.size, 6, none⟩ (.string B.s)).setCell ⟨w.heap.size, 7, none⟩ (.slice B.a B.n B.c)).setCell ⟨w.heap.size, 8, none⟩ (.int .i64 x.rule)).setCell ⟨w.heap.size, 9, none⟩ (.int .i64 x.n)).setCell ⟨w.heap.size, 10, none⟩ (.int .i64 x.d)).setCell ⟨w.heap.size, 11, none⟩ (.int .i64 x.k)).setCell ⟨w.heap.size, 12, none⟩ (.bool x.snap))) :
    bodyPost Tryd.prog f (fun e w' => RStOut w b lv ts P e w') .ret a W := by
  subst hW
  exact stmt_ret hr ht hd (set13 h.res x A B) (h.done (grown13 w' w.heap.size x A B) mk hP hm)
theorem ZS.rcell {α : Type} {w w' : World} {b xb : Nat} {lv : Value} {ts : List Tok} {p : PR α} {x : St} {A B : NV} {fa fb : α → Nd} (h : ZS w w' b lv ts p xb x A B fa fb) : w'.cell? ⟨w.heap.size, 0, none⟩ = some (.int .i64 0) ∧ w'.cell? ⟨w.heap.size, 1, none⟩ = some (.string ⟨#[]⟩) ∧ w'.cell? ⟨w.heap.size, 2, none⟩ = some (.int .i64 0) ∧ w'.cell? ⟨w.heap.size, 3, none⟩ = some (.string ⟨#[]⟩) ∧ w'.cell? ⟨w.heap.size, 4, none⟩ = some (.slice none 0 0) ∧ w'.cell? ⟨w.heap.size, 5, none⟩ = some (.int .i64 0) ∧ w'.cell? ⟨w.heap.size, 6, none⟩ = some (.string ⟨#[]⟩) ∧ w'.cell? ⟨w.heap.size, 7, none⟩ = some (.slice none 0 0) ∧ w'.cell? ⟨w.heap.size, 8, none⟩ = some (.int .i64 0) ∧ w'.cell? ⟨w.heap.size, 9, none⟩ = some (.int .i64 0) ∧ w'.cell? ⟨w.heap.size, 10, none⟩ = some (.int .i64 0) ∧ w'.cell? ⟨w.heap.size, 11, none⟩ = some (.int .i64 0) ∧ w'.cell? ⟨w.heap.size, 12, none⟩ = some (.bool false) := by
  have c := fun j => h.res.cell j
  exact ⟨c 0, c 1, c 2, c 3, c 4, c 5, c 6, c 7, c 8, c 9, c 10, c 11, c 12⟩
theorem ZS.rfree {α : Type} {w w' : World} {b xb : Nat} {lv : Value} {ts : List Tok} {p : PR α} {x : St} {A B : NV} {fa fb : α → Nd} (h : ZS w w' b lv ts p xb x A B fa fb) : w'.frozen? ⟨w.heap.size, 0, none⟩ = false ∧ w'.frozen? ⟨w.heap.size, 1, none⟩ = false ∧ w'.frozen? ⟨w.heap.size, 2, none⟩ = false ∧ w'.frozen? ⟨w.heap.size, 3, none⟩ = false ∧ w'.frozen? ⟨w.heap.size, 4, none⟩ = false ∧ w'.frozen? ⟨w.heap.size, 5, none⟩ = false ∧ w'.frozen? ⟨w.heap.size, 6, none⟩ = false ∧ w'.frozen? ⟨w.heap.size, 7, none⟩ = false ∧ w'.frozen? ⟨w.heap.size, 8, none⟩ = false ∧ w'.frozen? ⟨w.heap.size, 9, none⟩ = false ∧ w'.frozen? ⟨w.heap.size, 10, none⟩ = false ∧ w'.frozen? ⟨w.heap.size, 11, none⟩ = false ∧ w'.frozen? ⟨w.heap.size, 12, none⟩ = false :=
  ⟨h.res.free 0, h.res.free 1, h.res.free 2, h.res.free 3, h.res.free 4, h.res.free 5, h.res.free 6, h.res.free 7, h.res.free 8, h.res.free 9, h.res.free 10, h.res.free 11, h.res.free 12⟩

/-! ### What a chain of readings gave -/
theorem takeP_of {α : Type} {x : List UInt8} {p : PR α} {a : α} {r : List Tok} (h : takeP x p = .ok (a, r)) : ∃ r', p = .ok (a, r') := by
  obtain ⟨a', r', e1, e2⟩ := then_ok_of h
  obtain ⟨_, r'', e3, e4⟩ := then_ok_of e2
  cases e4
  exact ⟨r', e1⟩
theorem nameP_of {α : Type} {p : PR α} {a : α × List UInt8} {r : List Tok} (h : nameP p = .ok (a, r)) : ∃ r', p = .ok (a.1, r') := by
  obtain ⟨a', r', e1, e2⟩ := then_ok_of h
  obtain ⟨_, r'', e3, e4⟩ := then_ok_of e2
  cases e4
  exact ⟨r', e1⟩
theorem numP_of {α : Type} {lo hi : Int} {p : PR α} {a : α × Int} {r : List Tok} (h : numP lo hi p = .ok (a, r)) : ∃ r', p = .ok (a.1, r') := by
  obtain ⟨a', r', e1, e2⟩ := then_ok_of h
  obtain ⟨_, r'', e3, e4⟩ := then_ok_of e2
  cases e4
  exact ⟨r', e1⟩
theorem exP_of {α : Type} {d : Nat} {p : PR α} {a : α × Ex} {r : List Tok} (h : exP d p = .ok (a, r)) : ∃ r', p = .ok (a.1, r') := by
  obtain ⟨a', r', e1, e2⟩ := then_ok_of h
  obtain ⟨_, r'', e3, e4⟩ := then_ok_of e2
  cases e4
  exact ⟨r', e1⟩

/-- A token that is there is passed. -/
theorem RP.step {w : World} {b : Nat} {lv : Value} {ts : List Tok} {α : Type} {p : PR α} {a : α} {t : Tok} {r : List Tok} (h : RP w b lv ts p) (hp : p = .ok (a, t :: r)) : ∃ k : Nat, k < 9223372036854775807 ∧ w.cell? ⟨b, 1, none⟩ = some (.int .i64 (k : Int)) ∧ w.frozen? ⟨b, 1, none⟩ = false ∧
    Hid (w.grownBy (w.setCell ⟨b, 1, none⟩ (.int .i64 ((k : Int) + 1))) (some b) ∧ RP (w.setCell ⟨b, 1, none⟩ (.int .i64 ((k : Int) + 1))) b lv ts (.ok (a, r) : PR α)) := by
  subst hp
  exact RW.step (show RW w b lv ts (t :: r) false from h)
def failP {α β : Type} (p : PR α) : PR β := match p with | .ok (_, r) => .error r | .error r => .error r
theorem RP.fails {w : World} {b : Nat} {lv : Value} {ts : List Tok} {α : Type} (β : Type) {p : PR α} (h : RP w b lv ts p) : ∃ bad : Bool, w.cell? ⟨b, 2, none⟩ = some (.bool bad) ∧ w.frozen? ⟨b, 2, none⟩ = false ∧
    Hid (w.grownBy (w.setCell ⟨b, 2, none⟩ (.bool true)) (some b) ∧ RP (w.setCell ⟨b, 2, none⟩ (.bool true)) b lv ts (failP p : PR β)) := by
  have hg := grown_setCell w ⟨b, 2, none⟩ (.bool true)
  cases p with
  | error r =>
    have h : RW w b lv ts r true := h
    obtain ⟨c0, c1, c2, f1, f2⟩ := h.rs.cells
    exact ⟨true, c2, f2, hg, h.moved hg h.rs.fail h.rest⟩
  | ok q =>
    obtain ⟨a, r⟩ := q
    have h : RW w b lv ts r false := h
    obtain ⟨c0, c1, c2, f1, f2⟩ := h.rs.cells
    exact ⟨false, c2, f2, hg, h.moved hg h.rs.fail h.rest⟩
theorem rkindOf_w (x : List UInt8) (k : Int) (w : World) (hx : Hid (kindV x = k)) :
    Calls Tryd.prog 58 #[.string (bs x)] w fun e w' => e = .returned (.int .i64 k) ∧ w = w' :=
  (rkindOf_any x w).mono fun e w' ⟨he, hw⟩ => ⟨by rw [he, hx.out], hw⟩
theorem ruleOf_w (x : List UInt8) (k : Int) (w : World) (hx : Hid (ruleV x = k)) :
    Calls Tryd.prog 62 #[.string (bs x)] w fun e w' => e = .returned (.int .i64 k) ∧ w = w' :=
  (ruleOf_any x w).mono fun e w' ⟨he, hw⟩ => ⟨by rw [he, hx.out], hw⟩
end Go.Proofs.YtgnjaneddidbbaaDoor

namespace Go.Proofs.YtgnjaneddidbbaaDoor
open Go Go.RowKit

set_option maxHeartbeats 2000000 in
set_option maxRecDepth 100000 in
theorem rstmt_input (b : Nat) (lv : Value) (ts r : List Tok) (t : Tok) (x : List UInt8) (P : PR St) (w : World) (h : RW w b lv ts (t :: r) false) (HX : Hid (wordP (.ok ((), t :: r) : PR Unit) = x)) (HK : Hid (kindV x = 1))
    (HP : Hid (P = (pName r).then fun s r2 => (pMust [61] r2).then fun _ r3 => sInput s r3)) :
    Calls Tryd.prog 32 #[.pointer (some ⟨b, 0, none⟩)] w fun e w' => RStOut w b lv ts P e w' := by
  have Y0 := Lib.hid (YS.start (p := (.ok ((), t :: r) : PR Unit)) h)
  clear h
  go_enter Tryd.func32, Tryd.ntmps32
  go_wp2_with fail
  refine (word_w b lv ts (.ok ((), t :: r) : PR Unit) x _ HX Y0.out.rp).mono ?_
  rintro e w1 ⟨rfl, hg⟩
  have Y1 := Lib.hid (Y0.out.still hg)
  clear hg Y0
  go_wp2_with fail
  refine (rkindOf_w x 1 _ HK).mono ?_
  rintro e w2 ⟨rfl, rfl⟩
  have Z1 : Hid (ZS w (w1.alloc (.cells #[.int .i64 1, .string ⟨#[]⟩, .int .i64 0, .string ⟨#[]⟩, .slice none 0 0, .int .i64 0, .string ⟨#[]⟩, .slice none 0 0, .int .i64 0, .int .i64 0, .int .i64 0, .int .i64 0, .bool false] 73)) b lv ts (.ok ((), t :: r) : PR Unit) w1.heap.size ⟨1, [], .zero, .zero, 0, 0, 0, 0, false⟩ .zero .zero noTree noTree) := Y1.out.make ⟨1, [], .zero, .zero, 0, 0, 0, 0, false⟩
  obtain ⟨k, hk, c1, g1, hs⟩ := Z1.out.rp.step rfl
  have x0 := Z1.out.blk.cell 0
  have f0 := Z1.out.blk.free 0
  simp only [stCells, List.getElem?_cons_zero] at x0
  have Z2 : Hid (ZS w ((w1.alloc (.cells #[.int .i64 1, .string ⟨#[]⟩, .int .i64 0, .string ⟨#[]⟩, .slice none 0 0, .int .i64 0, .string ⟨#[]⟩, .slice none 0 0, .int .i64 0, .int .i64 0, .int .i64 0, .int .i64 0, .bool false] 73)).setCell ⟨b, 1, none⟩ (.int .i64 ((k : Int) + 1))) b lv ts (.ok ((), r) : PR Unit) w1.heap.size ⟨1, [], .zero, .zero, 0, 0, 0, 0, false⟩ .zero .zero noTree noTree) := Z1.out.moved hs.out.1 hs.out.2 (fun a _ _ => ⟨a, _, rfl, rfl, rfl⟩)
  clear hs Z1 Y1
  go_wp2_with fail
  clear c1 g1 x0 f0
  generalize w1.heap.size = xb at *
  refine (rname_at b lv ts (.ok ((), r) : PR Unit) _ Z2.out.rp).mono ?_
  rintro e w3 ⟨s3, rfl, hg, hp, hv⟩
  have HV3 := Lib.hid hv
  have Z3 : Hid (ZS w w3 b lv ts (nameP (.ok ((), r) : PR Unit)) xb ⟨1, [], .zero, .zero, 0, 0, 0, 0, false⟩ .zero .zero noTree noTree) := Z2.out.moved hg hp (fun a r e => by obtain ⟨r1, e1⟩ := nameP_of e; exact ⟨_, r1, e1, rfl, rfl⟩)
  clear hg hp hv Z2
  have x0 := Z3.out.blk.cell 0
  have f0 := Z3.out.blk.free 0
  have x1 := Z3.out.blk.cell 1
  have f1 := Z3.out.blk.free 1
  simp only [stCells, List.getElem?_cons_succ, List.getElem?_cons_zero] at x0 x1
  have Z3Name : Hid (ZS w (w3.setCell ⟨xb, 1, none⟩ (.string (bs s3))) b lv ts (nameP (.ok ((), r) : PR Unit)) xb ⟨1, s3, .zero, .zero, 0, 0, 0, 0, false⟩ .zero .zero noTree noTree) := Z3.out.setName s3
  clear Z3
  go_wp2_with fail
  refine (rtake_at b lv ts (nameP (.ok ((), r) : PR Unit)) [61] (by decide) _ Z3Name.out.rp).mono ?_
  rintro e w4 ⟨rfl, hg, hp⟩
  have Z4 : Hid (ZS w w4 b lv ts (takeP [61] (nameP (.ok ((), r) : PR Unit))) xb ⟨1, s3, .zero, .zero, 0, 0, 0, 0, false⟩ .zero .zero noTree noTree) := Z3Name.out.moved hg hp (fun a r e => by obtain ⟨r1, e1⟩ := takeP_of e; exact ⟨_, r1, e1, rfl, rfl⟩)
  clear hg hp Z3Name
  clear x0 f0 x1 f1
  have x0 := Z4.out.blk.cell 0
  have f0 := Z4.out.blk.free 0
  simp only [stCells, List.getElem?_cons_zero] at x0
  go_wp2_with fail
  refine (rnum_at b lv ts 0 32767 (takeP [61] (nameP (.ok ((), r) : PR Unit))) _ Z4.out.rp).mono ?_
  rintro e w5 ⟨n5, rfl, hg, hp, hv⟩
  have HV5 := Lib.hid hv
  have Z5 : Hid (ZS w w5 b lv ts (numP 0 32767 (takeP [61] (nameP (.ok ((), r) : PR Unit)))) xb ⟨1, s3, .zero, .zero, 0, 0, 0, 0, false⟩ .zero .zero noTree noTree) := Z4.out.moved hg hp (fun a r e => by obtain ⟨r1, e1⟩ := numP_of e; exact ⟨_, r1, e1, rfl, rfl⟩)
  clear hg hp hv Z4
  clear x0 f0
  have x0 := Z5.out.blk.cell 0
  have f0 := Z5.out.blk.free 0
  have x9 := Z5.out.blk.cell 9
  have f9 := Z5.out.blk.free 9
  simp only [stCells, List.getElem?_cons_succ, List.getElem?_cons_zero] at x0 x9
  have Z5N : Hid (ZS w (w5.setCell ⟨xb, 9, none⟩ (.int .i64 n5)) b lv ts (numP 0 32767 (takeP [61] (nameP (.ok ((), r) : PR Unit)))) xb ⟨1, s3, .zero, .zero, 0, n5, 0, 0, false⟩ .zero .zero noTree noTree) := Z5.out.setN n5
  clear Z5
  go_wp2_with fail
  refine (rtake_at b lv ts (numP 0 32767 (takeP [61] (nameP (.ok ((), r) : PR Unit)))) [47] (by decide) _ Z5N.out.rp).mono ?_
  rintro e w6 ⟨rfl, hg, hp⟩
  have Z6 : Hid (ZS w w6 b lv ts (takeP [47] (numP 0 32767 (takeP [61] (nameP (.ok ((), r) : PR Unit))))) xb ⟨1, s3, .zero, .zero, 0, n5, 0, 0, false⟩ .zero .zero noTree noTree) := Z5N.out.moved hg hp (fun a r e => by obtain ⟨r1, e1⟩ := takeP_of e; exact ⟨_, r1, e1, rfl, rfl⟩)
  clear hg hp Z5N
  clear x0 f0 x9 f9
  have x0 := Z6.out.blk.cell 0
  have f0 := Z6.out.blk.free 0
  simp only [stCells, List.getElem?_cons_zero] at x0
  go_wp2_with fail
  refine (rnum_at b lv ts 0 32767 (takeP [47] (numP 0 32767 (takeP [61] (nameP (.ok ((), r) : PR Unit))))) _ Z6.out.rp).mono ?_
  rintro e w7 ⟨n7, rfl, hg, hp, hv⟩
  have HV7 := Lib.hid hv
  have Z7 : Hid (ZS w w7 b lv ts (numP 0 32767 (takeP [47] (numP 0 32767 (takeP [61] (nameP (.ok ((), r) : PR Unit)))))) xb ⟨1, s3, .zero, .zero, 0, n5, 0, 0, false⟩ .zero .zero noTree noTree) := Z6.out.moved hg hp (fun a r e => by obtain ⟨r1, e1⟩ := numP_of e; exact ⟨_, r1, e1, rfl, rfl⟩)
  clear hg hp hv Z6
  clear x0 f0
  have x0 := Z7.out.blk.cell 0
  have f0 := Z7.out.blk.free 0
  have x11 := Z7.out.blk.cell 11
  have f11 := Z7.out.blk.free 11
  simp only [stCells, List.getElem?_cons_succ, List.getElem?_cons_zero] at x0 x11
  have Z7K : Hid (ZS w (w7.setCell ⟨xb, 11, none⟩ (.int .i64 n7)) b lv ts (numP 0 32767 (takeP [47] (numP 0 32767 (takeP [61] (nameP (.ok ((), r) : PR Unit)))))) xb ⟨1, s3, .zero, .zero, 0, n5, 0, n7, false⟩ .zero .zero noTree noTree) := Z7.out.setK n7
  clear Z7
  go_wp2_with fail
  refine (rtake_at b lv ts (numP 0 32767 (takeP [47] (numP 0 32767 (takeP [61] (nameP (.ok ((), r) : PR Unit)))))) [59] (by decide) _ Z7K.out.rp).mono ?_
  rintro e w8 ⟨rfl, hg, hp⟩
  have Z8 : Hid (ZS w w8 b lv ts (takeP [59] (numP 0 32767 (takeP [47] (numP 0 32767 (takeP [61] (nameP (.ok ((), r) : PR Unit))))))) xb ⟨1, s3, .zero, .zero, 0, n5, 0, n7, false⟩ .zero .zero noTree noTree) := Z7K.out.moved hg hp (fun a r e => by obtain ⟨r1, e1⟩ := takeP_of e; exact ⟨_, r1, e1, rfl, rfl⟩)
  clear hg hp Z7K
  clear x0 f0 x11 f11
  have x0 := Z8.out.blk.cell 0
  have f0 := Z8.out.blk.free 0
  have x1 := Z8.out.blk.cell 1
  have f1 := Z8.out.blk.free 1
  have x2 := Z8.out.blk.cell 2
  have f2 := Z8.out.blk.free 2
  have x3 := Z8.out.blk.cell 3
  have f3 := Z8.out.blk.free 3
  have x4 := Z8.out.blk.cell 4
  have f4 := Z8.out.blk.free 4
  have x5 := Z8.out.blk.cell 5
  have f5 := Z8.out.blk.free 5
  have x6 := Z8.out.blk.cell 6
  have f6 := Z8.out.blk.free 6
  have x7 := Z8.out.blk.cell 7
  have f7 := Z8.out.blk.free 7
  have x8 := Z8.out.blk.cell 8
  have f8 := Z8.out.blk.free 8
  have x9 := Z8.out.blk.cell 9
  have f9 := Z8.out.blk.free 9
  have x10 := Z8.out.blk.cell 10
  have f10 := Z8.out.blk.free 10
  have x11 := Z8.out.blk.cell 11
  have f11 := Z8.out.blk.free 11
  have x12 := Z8.out.blk.cell 12
  have f12 := Z8.out.blk.free 12
  simp only [stCells, List.getElem?_cons_succ, List.getElem?_cons_zero] at x0 x1 x2 x3 x4 x5 x6 x7 x8 x9 x10 x11 x12
  have q0 := Z8.out.rcell
  have q1 := Z8.out.rfree
  obtain ⟨q00, q01, q02, q03, q04, q05, q06, q07, q08, q09, q010, q011, q012⟩ := q0
  obtain ⟨q10, q11, q12, q13, q14, q15, q16, q17, q18, q19, q110, q111, q112⟩ := q1
  go_wp2
  refine Z8.out.ret (fun a => ⟨1, a.1.1.2, .zero, .zero, 0, a.1.2, 0, a.2, false⟩) (by rw [HP.out]; simp only [sInput, pLayers, pSemi, nameP, takeP, numP, PR.then_then, PR.then_ok]; rfl) ?_ Tryd.results32 ?_ rfl ?_
  · rintro ⟨⟨⟨_, v3⟩, v5⟩, v7⟩ r0 e0
    obtain ⟨r1, e1⟩ := takeP_of e0
    obtain rfl := HV7.out _ _ _ e1
    obtain ⟨r2, e2⟩ := numP_of e1
    obtain ⟨r3, e3⟩ := takeP_of e2
    obtain rfl := HV5.out _ _ _ e3
    obtain ⟨r4, e4⟩ := numP_of e3
    obtain ⟨r5, e5⟩ := takeP_of e4
    obtain rfl := HV3.out _ _ _ e5
    obtain ⟨r6, e6⟩ := nameP_of e5
    exact ⟨rfl, rfl, rfl⟩
  · rfl
  · rfl
end Go.Proofs.YtgnjaneddidbbaaDoor

namespace Go.Proofs.YtgnjaneddidbbaaDoor
open Go Go.RowKit

set_option maxHeartbeats 2000000 in
set_option maxRecDepth 100000 in
theorem rstmt_let (b : Nat) (lv : Value) (ts r : List Tok) (t : Tok) (x : List UInt8) (P : PR St) (w : World) (h : RW w b lv ts (t :: r) false) (HX : Hid (wordP (.ok ((), t :: r) : PR Unit) = x)) (HK : Hid (kindV x = 2))
    (HP : Hid (P = (pName r).then fun s r2 => (pMust [61] r2).then fun _ r3 => sLet s r3)) :
    Calls Tryd.prog 32 #[.pointer (some ⟨b, 0, none⟩)] w fun e w' => RStOut w b lv ts P e w' := by
  have Y0 := Lib.hid (YS.start (p := (.ok ((), t :: r) : PR Unit)) h)
  clear h
  go_enter Tryd.func32, Tryd.ntmps32
  go_wp2_with fail
  refine (word_w b lv ts (.ok ((), t :: r) : PR Unit) x _ HX Y0.out.rp).mono ?_
  rintro e w1 ⟨rfl, hg⟩
  have Y1 := Lib.hid (Y0.out.still hg)
  clear hg Y0
  go_wp2_with fail
  refine (rkindOf_w x 2 _ HK).mono ?_
  rintro e w2 ⟨rfl, rfl⟩
  have Z1 : Hid (ZS w (w1.alloc (.cells #[.int .i64 2, .string ⟨#[]⟩, .int .i64 0, .string ⟨#[]⟩, .slice none 0 0, .int .i64 0, .string ⟨#[]⟩, .slice none 0 0, .int .i64 0, .int .i64 0, .int .i64 0, .int .i64 0, .bool false] 73)) b lv ts (.ok ((), t :: r) : PR Unit) w1.heap.size ⟨2, [], .zero, .zero, 0, 0, 0, 0, false⟩ .zero .zero noTree noTree) := Y1.out.make ⟨2, [], .zero, .zero, 0, 0, 0, 0, false⟩
  obtain ⟨k, hk, c1, g1, hs⟩ := Z1.out.rp.step rfl
  have x0 := Z1.out.blk.cell 0
  have f0 := Z1.out.blk.free 0
  simp only [stCells, List.getElem?_cons_zero] at x0
  have Z2 : Hid (ZS w ((w1.alloc (.cells #[.int .i64 2, .string ⟨#[]⟩, .int .i64 0, .string ⟨#[]⟩, .slice none 0 0, .int .i64 0, .string ⟨#[]⟩, .slice none 0 0, .int .i64 0, .int .i64 0, .int .i64 0, .int .i64 0, .bool false] 73)).setCell ⟨b, 1, none⟩ (.int .i64 ((k : Int) + 1))) b lv ts (.ok ((), r) : PR Unit) w1.heap.size ⟨2, [], .zero, .zero, 0, 0, 0, 0, false⟩ .zero .zero noTree noTree) := Z1.out.moved hs.out.1 hs.out.2 (fun a _ _ => ⟨a, _, rfl, rfl, rfl⟩)
  clear hs Z1 Y1
  go_wp2_with fail
  clear c1 g1 x0 f0
  generalize w1.heap.size = xb at *
  refine (rname_at b lv ts (.ok ((), r) : PR Unit) _ Z2.out.rp).mono ?_
  rintro e w3 ⟨s3, rfl, hg, hp, hv⟩
  have HV3 := Lib.hid hv
  have Z3 : Hid (ZS w w3 b lv ts (nameP (.ok ((), r) : PR Unit)) xb ⟨2, [], .zero, .zero, 0, 0, 0, 0, false⟩ .zero .zero noTree noTree) := Z2.out.moved hg hp (fun a r e => by obtain ⟨r1, e1⟩ := nameP_of e; exact ⟨_, r1, e1, rfl, rfl⟩)
  clear hg hp hv Z2
  have x0 := Z3.out.blk.cell 0
  have f0 := Z3.out.blk.free 0
  have x1 := Z3.out.blk.cell 1
  have f1 := Z3.out.blk.free 1
  simp only [stCells, List.getElem?_cons_succ, List.getElem?_cons_zero] at x0 x1
  have Z3Name : Hid (ZS w (w3.setCell ⟨xb, 1, none⟩ (.string (bs s3))) b lv ts (nameP (.ok ((), r) : PR Unit)) xb ⟨2, s3, .zero, .zero, 0, 0, 0, 0, false⟩ .zero .zero noTree noTree) := Z3.out.setName s3
  clear Z3
  go_wp2_with fail
  refine (rtake_at b lv ts (nameP (.ok ((), r) : PR Unit)) [61] (by decide) _ Z3Name.out.rp).mono ?_
  rintro e w4 ⟨rfl, hg, hp⟩
  have Z4 : Hid (ZS w w4 b lv ts (takeP [61] (nameP (.ok ((), r) : PR Unit))) xb ⟨2, s3, .zero, .zero, 0, 0, 0, 0, false⟩ .zero .zero noTree noTree) := Z3Name.out.moved hg hp (fun a r e => by obtain ⟨r1, e1⟩ := takeP_of e; exact ⟨_, r1, e1, rfl, rfl⟩)
  clear hg hp Z3Name
  clear x0 f0 x1 f1
  have x0 := Z4.out.blk.cell 0
  have f0 := Z4.out.blk.free 0
  simp only [stCells, List.getElem?_cons_zero] at x0
  go_wp2_with fail
  refine (rexpr_p b lv ts 0 (takeP [61] (nameP (.ok ((), r) : PR Unit))) _ (by decide) Z4.out.rp).mono ?_
  rintro e w5 ⟨⟨k5, s5, a5, m5, c5⟩, rfl, hg, hp, hv⟩
  have HV5 : Hid (∀ a r9, (exP 0 (takeP [61] (nameP (.ok ((), r) : PR Unit)))) = .ok (a, r9) → NdIs (xb + 1 ≤ ·) w5 a.2.nd (NV.val ⟨k5, s5, a5, m5, c5⟩)) := fun a r e => (hv a.1 a.2 r e).from Z4.out.size
  have Z5 : Hid (ZS w w5 b lv ts (exP 0 (takeP [61] (nameP (.ok ((), r) : PR Unit)))) xb ⟨2, s3, .zero, .zero, 0, 0, 0, 0, false⟩ .zero .zero noTree noTree) := Z4.out.moved hg hp (fun a r e => by obtain ⟨r1, e1⟩ := exP_of e; exact ⟨_, r1, e1, rfl, rfl⟩)
  clear hg hp hv Z4
  clear x0 f0
  have x0 := Z5.out.blk.cell 0
  have f0 := Z5.out.blk.free 0
  have x2 := Z5.out.blk.cell 2
  have f2 := Z5.out.blk.free 2
  have x3 := Z5.out.blk.cell 3
  have f3 := Z5.out.blk.free 3
  have x4 := Z5.out.blk.cell 4
  have f4 := Z5.out.blk.free 4
  simp only [stCells, List.getElem?_cons_succ, List.getElem?_cons_zero] at x0 x2 x3 x4
  have Z5A : Hid (ZS w (((w5.setCell ⟨xb, 2, none⟩ (.int .i64 k5)).setCell ⟨xb, 3, none⟩ (.string s5)).setCell ⟨xb, 4, none⟩ (.slice a5 m5 c5)) b lv ts (exP 0 (takeP [61] (nameP (.ok ((), r) : PR Unit)))) xb ⟨2, s3, .zero, .zero, 0, 0, 0, 0, false⟩ ⟨k5, s5, a5, m5, c5⟩ .zero (fun a => a.2.nd) noTree) := Z5.out.setA ⟨k5, s5, a5, m5, c5⟩ _ (fun a r e => HV5.out a r e)
  clear Z5
  go_wp2_with fail
  refine (rtake_at b lv ts (exP 0 (takeP [61] (nameP (.ok ((), r) : PR Unit)))) [59] (by decide) _ Z5A.out.rp).mono ?_
  rintro e w6 ⟨rfl, hg, hp⟩
  have Z6 : Hid (ZS w w6 b lv ts (takeP [59] (exP 0 (takeP [61] (nameP (.ok ((), r) : PR Unit))))) xb ⟨2, s3, .zero, .zero, 0, 0, 0, 0, false⟩ ⟨k5, s5, a5, m5, c5⟩ .zero (fun a => a.2.nd) noTree) := Z5A.out.moved hg hp (fun a r e => by obtain ⟨r1, e1⟩ := takeP_of e; exact ⟨_, r1, e1, rfl, rfl⟩)
  clear hg hp Z5A
  clear x0 f0 x2 f2 x3 f3 x4 f4
  have x0 := Z6.out.blk.cell 0
  have f0 := Z6.out.blk.free 0
  have x1 := Z6.out.blk.cell 1
  have f1 := Z6.out.blk.free 1
  have x2 := Z6.out.blk.cell 2
  have f2 := Z6.out.blk.free 2
  have x3 := Z6.out.blk.cell 3
  have f3 := Z6.out.blk.free 3
  have x4 := Z6.out.blk.cell 4
  have f4 := Z6.out.blk.free 4
  have x5 := Z6.out.blk.cell 5
  have f5 := Z6.out.blk.free 5
  have x6 := Z6.out.blk.cell 6
  have f6 := Z6.out.blk.free 6
  have x7 := Z6.out.blk.cell 7
  have f7 := Z6.out.blk.free 7
  have x8 := Z6.out.blk.cell 8
  have f8 := Z6.out.blk.free 8
  have x9 := Z6.out.blk.cell 9
  have f9 := Z6.out.blk.free 9
  have x10 := Z6.out.blk.cell 10
  have f10 := Z6.out.blk.free 10
  have x11 := Z6.out.blk.cell 11
  have f11 := Z6.out.blk.free 11
  have x12 := Z6.out.blk.cell 12
  have f12 := Z6.out.blk.free 12
  simp only [stCells, List.getElem?_cons_succ, List.getElem?_cons_zero] at x0 x1 x2 x3 x4 x5 x6 x7 x8 x9 x10 x11 x12
  have q0 := Z6.out.rcell
  have q1 := Z6.out.rfree
  obtain ⟨q00, q01, q02, q03, q04, q05, q06, q07, q08, q09, q010, q011, q012⟩ := q0
  obtain ⟨q10, q11, q12, q13, q14, q15, q16, q17, q18, q19, q110, q111, q112⟩ := q1
  go_wp2
  refine Z6.out.ret (fun a => ⟨2, a.1.2, (a.2).nd, .zero, 0, 0, 0, 0, false⟩) (by rw [HP.out]; simp only [sLet, pSemi, nameP, takeP, exP, pExpr_eq, PR.then_then, PR.then_ok]; rfl) ?_ Tryd.results32 ?_ rfl ?_
  · rintro ⟨⟨_, v3⟩, v5⟩ r0 e0
    obtain ⟨r1, e1⟩ := takeP_of e0
    obtain ⟨r2, e2⟩ := exP_of e1
    obtain ⟨r3, e3⟩ := takeP_of e2
    obtain rfl := HV3.out _ _ _ e3
    obtain ⟨r4, e4⟩ := nameP_of e3
    exact ⟨rfl, rfl, rfl⟩
  · rfl
  · rfl
end Go.Proofs.YtgnjaneddidbbaaDoor

namespace Go.Proofs.YtgnjaneddidbbaaDoor
open Go Go.RowKit

theorem failP_ne {α β : Type} (p : PR α) (a : β) (r : List Tok) : ¬ (failP p : PR β) = .ok (a, r) := by
  cases p with
  | error r => intro e; cases e
  | ok q => intro e; cases e

theorem ruleNo_word {α : Type} (a : α) (t : Tok) (r : List Tok) : ruleNo t = ruleV (wordP (.ok (a, t :: r) : PR α)) := by
  unfold ruleV ruleNo
  simp only [wordP_isT a t r w_width (by decide), wordP_isT a t r w_space (by decide), wordP_isT a t r w_notch (by decide), wordP_isT a t r w_apart (by decide), wordP_isT a t r w_around (by decide), wordP_isT a t r w_over (by decide)]
theorem kindNo_word {α : Type} (a : α) (t : Tok) (r : List Tok) : kindNo t = kindV (wordP (.ok (a, t :: r) : PR α)) := by
  unfold kindV kindNo
  simp only [wordP_isT a t r w_input (by decide), wordP_isT a t r w_let (by decide), wordP_isT a t r w_check (by decide), wordP_isT a t r w_small (by decide), wordP_isT a t r w_write (by decide)]

theorem check_no {α : Type} (p : PR α) (f : α → List UInt8) (h : ruleV (wordP p) = 0) : (p.then fun a r => sCheck (f a) r) = failP p := by
  cases p with
  | error r => rfl
  | ok q =>
    obtain ⟨a, r⟩ := q
    cases r with
    | nil => rfl
    | cons t r =>
      rw [PR.then_ok]
      simp only [sCheck]
      rw [if_pos (by rw [ruleNo_word a t r]; exact h)]
      rfl
theorem check_yes {α : Type} (p : PR α) (ρ : Int) (h : ruleV (wordP p) = ρ) (hne : ρ ≠ 0) : ∃ a t r, p = .ok (a, t :: r) ∧ ruleNo t = ρ := by
  cases p with
  | error r => exact absurd h.symm hne
  | ok q =>
    obtain ⟨a, r⟩ := q
    cases r with
    | nil => exact absurd h.symm hne
    | cons t r => exact ⟨a, t, r, rfl, by rw [ruleNo_word a t r]; exact h⟩
theorem small_no {α : Type} (p : PR α) (f : α → St) (h : wordP p ≠ [47]) : (p.then fun a r => sSmall1 (f a) r) = p.then fun a r => pSemi (f a) r := by
  cases p with
  | error r => rfl
  | ok q =>
    obtain ⟨a, r⟩ := q
    rw [PR.then_ok, PR.then_ok]
    cases r with
    | nil => rfl
    | cons t r =>
      simp only [sSmall1]
      rw [if_neg (by intro e; exact h ((wordP_isT a t r [47] (by decide)).mpr e))]
theorem write_no {α : Type} (p : PR α) (f : α → St) (h : wordP p ≠ w_snap) : (p.then fun a r => sWrite1 (f a) r) = p.then fun a r => pSemi (f a) r := by
  cases p with
  | error r => rfl
  | ok q =>
    obtain ⟨a, r⟩ := q
    rw [PR.then_ok, PR.then_ok]
    cases r with
    | nil => rfl
    | cons t r =>
      simp only [sWrite1]
      rw [if_neg (by intro e; exact h ((wordP_isT a t r w_snap (by decide)).mpr e))]
theorem word_yes {α : Type} (p : PR α) (x : List UInt8) (h : wordP p = x) (hne : x ≠ []) : ∃ a t r, p = .ok (a, t :: r) ∧ isT t x = true := by
  cases p with
  | error r => exact absurd h.symm hne
  | ok q =>
    obtain ⟨a, r⟩ := q
    cases r with
    | nil => exact absurd h.symm hne
    | cons t r => exact ⟨a, t, r, rfl, (wordP_isT a t r x hne).mp h⟩
end Go.Proofs.YtgnjaneddidbbaaDoor
