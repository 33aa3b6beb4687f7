/-
  A statement handed back out of its block. No walk.
-/
import Derived.Test.YtgnjaneddidbbaaDoorDeckS1
import Derived.Test.YtgnjaneddidbbaaDoorDeckF
namespace Go.Proofs.YtgnjaneddidbbaaDoor
open Go Go.RowKit

theorem set13 {w : World} {g : Nat} {y : St} {C D : NV} (h : BlkS w g (stCells y C D)) (x : St) (A B : NV) : BlkS (((((((((((((w.setCell ⟨g, 0, none⟩ (.int .i64 x.kind)).setCell ⟨g, 1, none⟩ (.string (bs x.name))).setCell ⟨g, 2, none⟩ (.int .i64 A.k)).setCell ⟨g, 3, none⟩ (.string A.s)).setCell ⟨g, 4, none⟩ (.slice A.a A.n A.c)).setCell ⟨g, 5, none⟩ (.int .i64 B.k)).setCell ⟨g, 6, none⟩ (.string B.s)).setCell ⟨g, 7, none⟩ (.slice B.a B.n B.c)).setCell ⟨g, 8, none⟩ (.int .i64 x.rule)).setCell ⟨g, 9, none⟩ (.int .i64 x.n)).setCell ⟨g, 10, none⟩ (.int .i64 x.d)).setCell ⟨g, 11, none⟩ (.int .i64 x.k)).setCell ⟨g, 12, none⟩ (.bool x.snap)) g (stCells x A B) :=
  (((((((((((((h.set 0 _).set 1 _).set 2 _).set 3 _).set 4 _).set 5 _).set 6 _).set 7 _).set 8 _).set 9 _).set 10 _).set 11 _).set 12 _)
theorem grown13 (w : World) (g : Nat) (x : St) (A B : NV) : w.grownBy (((((((((((((w.setCell ⟨g, 0, none⟩ (.int .i64 x.kind)).setCell ⟨g, 1, none⟩ (.string (bs x.name))).setCell ⟨g, 2, none⟩ (.int .i64 A.k)).setCell ⟨g, 3, none⟩ (.string A.s)).setCell ⟨g, 4, none⟩ (.slice A.a A.n A.c)).setCell ⟨g, 5, none⟩ (.int .i64 B.k)).setCell ⟨g, 6, none⟩ (.string B.s)).setCell ⟨g, 7, none⟩ (.slice B.a B.n B.c)).setCell ⟨g, 8, none⟩ (.int .i64 x.rule)).setCell ⟨g, 9, none⟩ (.int .i64 x.n)).setCell ⟨g, 10, none⟩ (.int .i64 x.d)).setCell ⟨g, 11, none⟩ (.int .i64 x.k)).setCell ⟨g, 12, none⟩ (.bool x.snap)) (some g) :=
  grown_trans (grown_setCell _ ⟨g, 0, none⟩ _) (grown_trans (grown_setCell _ ⟨g, 1, none⟩ _) (grown_trans (grown_setCell _ ⟨g, 2, none⟩ _) (grown_trans (grown_setCell _ ⟨g, 3, none⟩ _) (grown_trans (grown_setCell _ ⟨g, 4, none⟩ _) (grown_trans (grown_setCell _ ⟨g, 5, none⟩ _) (grown_trans (grown_setCell _ ⟨g, 6, none⟩ _) (grown_trans (grown_setCell _ ⟨g, 7, none⟩ _) (grown_trans (grown_setCell _ ⟨g, 8, none⟩ _) (grown_trans (grown_setCell _ ⟨g, 9, none⟩ _) (grown_trans (grown_setCell _ ⟨g, 10, none⟩ _) (grown_trans (grown_setCell _ ⟨g, 11, none⟩ _) (grown_setCell _ ⟨g, 12, none⟩ _))))))))))))

/-- A function that hands back a statement out of a block. -/
theorem stmt_ret {R : Ending → World → Prop} {a : Act} {w : World} {g : Nat} {x : St} {A B : NV} {f : Func} {t : Tmp} (h : f.results = #[.cell t 73]) (hp : a.tmps.getD t undef = .pointer (some ⟨g, 0, none⟩)) (hd : a.defers = []) (hB : BlkS w g (stCells x A B))
    (hR : R (.returned (stVal x A B)) w) : bodyPost Tryd.prog f R .ret a w := by
  have c := fun j => hB.cell j
  have c0 := c 0
  have c1 := c 1; have c2 := c 2; have c3 := c 3; have c4 := c 4; have c5 := c 5; have c6 := c 6; have c7 := c 7; have c8 := c 8; have c9 := c 9; have c10 := c 10; have c11 := c 11; have c12 := c 12
  refine bodyPost_ret (v := stVal x A B) ?_ hd hR
  rw [Array.getD_eq_getD_getElem?] at hp
  simp only [stCells, List.getElem?_cons_succ, List.getElem?_cons_zero] at c0 c1 c2 c3 c4 c5 c6 c7 c8 c9 c10 c11 c12
  simp only [results, h]
  simp [hp, go_sem, c0, c1, c2, c3, c4, c5, c6, c7, c8, c9, c10, c11, c12, stVal, stCells]

/-- What a statement's reading comes to. -/
abbrev StOut (w : World) (b : Nat) (lv : Value) (ts : List Tok) (fin : Int) (p : PR St) (e : Ending) (w' : World) : Prop :=
  Out w b lv ts fin ((0 : Nat) : Int) (fun x v w' => StIs (w.heap.size ≤ ·) w' x v) p e w'

section
variable {w w' : World} {b : Nat} {lv : Value} {ts r : List Tok} {fin deep : Int} {x : St} {A B : NV}
theorem SS.rcell (h : SS w w' b lv ts r fin deep x A B) : w'.cell? ⟨w.heap.size + 1, 0, none⟩ = some (.int .i64 0) ∧ w'.cell? ⟨w.heap.size + 1, 1, none⟩ = some (.string ⟨#[]⟩) ∧ w'.cell? ⟨w.heap.size + 1, 2, none⟩ = some (.int .i64 0) ∧ w'.cell? ⟨w.heap.size + 1, 3, none⟩ = some (.string ⟨#[]⟩) ∧ w'.cell? ⟨w.heap.size + 1, 4, none⟩ = some (.slice none 0 0) ∧ w'.cell? ⟨w.heap.size + 1, 5, none⟩ = some (.int .i64 0) ∧ w'.cell? ⟨w.heap.size + 1, 6, none⟩ = some (.string ⟨#[]⟩) ∧ w'.cell? ⟨w.heap.size + 1, 7, none⟩ = some (.slice none 0 0) ∧ w'.cell? ⟨w.heap.size + 1, 8, none⟩ = some (.int .i64 0) ∧ w'.cell? ⟨w.heap.size + 1, 9, none⟩ = some (.int .i64 0) ∧ w'.cell? ⟨w.heap.size + 1, 10, none⟩ = some (.int .i64 0) ∧ w'.cell? ⟨w.heap.size + 1, 11, none⟩ = some (.int .i64 0) ∧ w'.cell? ⟨w.heap.size + 1, 12, none⟩ = some (.bool false) := by
  have c := fun j => h.res.cell j
  exact ⟨c 0, c 1, c 2, c 3, c 4, c 5, c 6, c 7, c 8, c 9, c 10, c 11, c 12⟩
theorem SS.rfree (h : SS w w' b lv ts r fin deep x A B) : w'.frozen? ⟨w.heap.size + 1, 0, none⟩ = false ∧ w'.frozen? ⟨w.heap.size + 1, 1, none⟩ = false ∧ w'.frozen? ⟨w.heap.size + 1, 2, none⟩ = false ∧ w'.frozen? ⟨w.heap.size + 1, 3, none⟩ = false ∧ w'.frozen? ⟨w.heap.size + 1, 4, none⟩ = false ∧ w'.frozen? ⟨w.heap.size + 1, 5, none⟩ = false ∧ w'.frozen? ⟨w.heap.size + 1, 6, none⟩ = false ∧ w'.frozen? ⟨w.heap.size + 1, 7, none⟩ = false ∧ w'.frozen? ⟨w.heap.size + 1, 8, none⟩ = false ∧ w'.frozen? ⟨w.heap.size + 1, 9, none⟩ = false ∧ w'.frozen? ⟨w.heap.size + 1, 10, none⟩ = false ∧ w'.frozen? ⟨w.heap.size + 1, 11, none⟩ = false ∧ w'.frozen? ⟨w.heap.size + 1, 12, none⟩ = false :=
  ⟨h.res.free 0, h.res.free 1, h.res.free 2, h.res.free 3, h.res.free 4, h.res.free 5, h.res.free 6, h.res.free 7, h.res.free 8, h.res.free 9, h.res.free 10, h.res.free 11, h.res.free 12⟩
theorem SS.done {g : Nat} (hg : g = w.heap.size + 1) (h : SS w w' b lv ts r fin ((0 : Nat) : Int) x A B) {p : PR St} (hp : p = .ok (x, r)) : StOut w b lv ts fin p (.returned (stVal x A B)) (((((((((((((w'.setCell ⟨g, 0, none⟩ (.int .i64 x.kind)).setCell ⟨g, 1, none⟩ (.string (bs x.name))).setCell ⟨g, 2, none⟩ (.int .i64 A.k)).setCell ⟨g, 3, none⟩ (.string A.s)).setCell ⟨g, 4, none⟩ (.slice A.a A.n A.c)).setCell ⟨g, 5, none⟩ (.int .i64 B.k)).setCell ⟨g, 6, none⟩ (.string B.s)).setCell ⟨g, 7, none⟩ (.slice B.a B.n B.c)).setCell ⟨g, 8, none⟩ (.int .i64 x.rule)).setCell ⟨g, 9, none⟩ (.int .i64 x.n)).setCell ⟨g, 10, none⟩ (.int .i64 x.d)).setCell ⟨g, 11, none⟩ (.int .i64 x.k)).setCell ⟨g, 12, none⟩ (.bool x.snap)) := by
  subst hg
  have hs := h.size
  have h13 := grown13 w' (w.heap.size + 1) x A B
  exact out_ok hp ⟨A, B, rfl, (h.na.grown h13 (by omega)).from (by omega), (h.nb.grown h13 (by omega)).from (by omega)⟩ (grown_new h.g h13 (by omega)) (h.p.other h13 (by have := h.hb; omega))
theorem SS.ret (h : SS w w' b lv ts r fin ((0 : Nat) : Int) x A B) {P : PR St} (hp : P = .ok (x, r)) {f : Func} {t : Tmp} {a : Act} {W : World} (hr : f.results = #[.cell t 73]) (ht : a.tmps.getD t undef = .pointer (some ⟨w.heap.size + 1, 0, none⟩)) (hd : a.defers = [])
    (hW : W = (((((((((((((w'.setCell ⟨w.heap.size + 1, 0, none⟩ (.int .i64 x.kind)).setCell ⟨w.heap.size + 1, 1, none⟩ (.string (bs x.name))).setCell ⟨w.heap.size + 1, 2, none⟩ (.int .i64 A.k)).setCell ⟨w.heap.size + 1, 3, none⟩ (.string A.s)).setCell ⟨w.heap.size + 1, 4, none⟩ (.slice A.a A.n A.c)).setCell ⟨w.heap.size + 1, 5, none⟩ (.int .i64 B.k)).setCell ⟨w.heap.size + 1, 6, none⟩ (.string B.s)).setCell ⟨w.heap.size + 1, 7, none⟩ (.slice B.a B.n B.c)).setCell ⟨w.heap.size + 1, 8, none⟩ (.int .i64 x.rule)).setCell ⟨w.heap.size + 1, 9, none⟩ (.int .i64 x.n)).setCell ⟨w.heap.size + 1, 10, none⟩ (.int .i64 x.d)).setCell ⟨w.heap.size + 1, 11, none⟩ (.int .i64 x.k)).setCell ⟨w.heap.size + 1, 12, none⟩ (.bool x.snap))) : bodyPost Tryd.prog f (fun e w' => StOut w b lv ts fin P e w') .ret a W := by
  subst hW
  exact stmt_ret hr ht hd (set13 h.res x A B) (h.done rfl hp)
end
end Go.Proofs.YtgnjaneddidbbaaDoor
