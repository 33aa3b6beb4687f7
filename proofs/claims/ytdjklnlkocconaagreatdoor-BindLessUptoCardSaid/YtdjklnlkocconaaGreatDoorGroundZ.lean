/-
  What every law of this seat needs beside its walk: what the listed variables give ('Good'), and the frame of a law's row: out of a call that returns true and leaves old memory as it was.
  Small laws on memory, of no program: what a callee that leaves old memory as it was leaves to its caller.
-/
import Derived.Test.YtdjklnlkocconaaGreatDoorRows
import Derived.WalkKit
import Derived.WalkSpells
import Derived.WalkLawsBesides
import Derived.ProofKit
import Derived.LaidMore
import Derived.LaidLaws
import Derived.OpenShut
import Derived.Stop.Joined
import Derived.MakeChecks
import Derived.Carry
import Derived.Lib.LaidTab
import Derived.Lib.ItoaNum
import Derived.Lib.SmallJoins
import Derived.Lib.Hide
namespace Go.Proofs.YtdjklnlkocconaaGreatDoor
open Go Go.ChangeShapes Go.WideShapes Go.ChangeAt Go.WideMaps Go.WideElems Go.RowKit

theorem ret_bool {a b : Bool} (h : a = b) : Ending.returned (.bool a) = .returned (.bool b) := by rw [h]
theorem ret_int {k : IntKind} {a b : Int} (h : a = b) : Ending.returned (.int k a) = .returned (.int k b) := by rw [h]
theorem ret_str {a b : ByteArray} (h : a = b) : Ending.returned (.string a) = .returned (.string b) := by rw [h]

def IsFace (ev : Value) : Prop := ev = .nilIface ∨ ∃ te pe, ev = .iface te pe

/-- What the listed variables give a walk. -/
structure Good (w : World) : Prop where
  size : 6 ≤ w.heap.size
  rng : ∃ ev, w.cell? ⟨2, 0, none⟩ = some ev ∧ IsFace ev
  pow : Lib.TabIs Tryz.prog w "internal/strconv.uint64pow10" .u64 Lib.pow10Tab

theorem Good.below {w w' : World} {B : Nat} (h : Good w) (hb : Below B w w') (hB : 6 ≤ B) : Good w' where
  size := Nat.le_trans h.size hb.size
  rng := by
    obtain ⟨ev, h1, h2⟩ := h.rng
    exact ⟨ev, (hb.cell (p := ⟨2, 0, none⟩) (by show 2 < B; omega)).trans h1, h2⟩
  pow := var?_below hb (show Tryz.prog.globalNamed "internal/strconv.uint64pow10" = some 3 by kernel_rfl) (by omega) h.pow

theorem Good.at {w w' : World} (h : Good w) (hb : Below w.heap.size w w') : Good w' := h.below hb h.size

theorem Tryz.own : ownKnob Tryz.prog.godebug = none := by kernel_rfl
theorem Tryz.laidOutAll : laidOutB Tryz.prog = true := by kernel_rfl

theorem trodAll_below {P : Program} (hL : laidOutB P = true) {H : Type} {enc : TypeId × Value → H} {W W' : World} (hb : Below W.heap.size W W') : ∀ {ts : List TypeId} {vs : List Value} {ds : List (DataW H)} {ps : List MemPlace},
    (ts.all fun t => P.readableRec t && decide (t < P.types.size)) = true → DataW.TrodAll enc P W 0 (fun _ => true) true ts vs ds ps → (∀ x ∈ ps, x.block < W.heap.size) →
    DataW.TrodAll enc P W' 0 (fun b => decide (b < W.heap.size)) true ts vs ds ps := by
  intro ts
  induction ts with
  | nil =>
    intro vs ds ps _ h _
    cases vs <;> cases ds <;> simp_all [DataW.TrodAll]
  | cons t ts ih =>
    intro vs ds ps hr h hlt
    obtain ⟨v, vs', d, ds', p, q, rfl, rfl, rfl, h1, h2⟩ := trodAll_cons h
    simp only [List.all_cons, Bool.and_eq_true, decide_eq_true_eq] at hr
    exact ⟨p, q, Below.trod hL hr.1.1 hr.1.2 h1 hb (fun x hx => hlt x (List.mem_append.2 (.inl hx))),
      ih (by simpa using hr.2) h2 (fun x hx => hlt x (List.mem_append.2 (.inr hx))), rfl⟩

theorem post_true {H : Type} {enc : TypeId × Value → H} {f : Func} {s : ChangeSpec} {W W' : World} {args : Array Value} {ds : List (DataW H)} {before : List MemPlace}
    (hW : DataW.Whole enc Tryz.prog f.params.toList s.vars false W args.toList ds [] before) (hb : Below W.heap.size W W') (hvars : s.vars = [])
    (hspec : s.fn H (ds ++ []) = { results := [.lit (.bool true)], args := ds }) (hres : f.resultTypes = #[4])
    (hread : (f.params.toList.all fun t => Tryz.prog.readableRec t && decide (t < Tryz.prog.types.size)) = true) :
    s.post enc Tryz.prog f false true false false W args (.bool true) W' := by
  have hlt := hW.lt
  have hW' := hW
  obtain ⟨p, q, hA, hV, rfl, hfz, hnd⟩ := hW
  rw [hvars] at hV
  have hq : q = [] := hV
  subst hq
  refine ⟨ds, [], _, [], p, [], hW', ?_, ?_, ?_, hb.frame _, fun h => by cases h⟩
  · rw [hspec, hres]
    exact trodAll_mk1 (shut_bool Tryz.underlying4 true)
  · rw [hspec]
    exact trodAll_below Tryz.laidOutAll hb hread hA (fun x hx => hlt x (by simpa using hx))
  · rw [hspec, hvars]
    rfl

theorem door_met (os : Os) (args : Array Value) : laidMetH Tryz.prog Rows.bindChecksRow.laid ((World.doorLaid Tryz.prog 400 os).forCall (fun _ _ => 0) ⟨#[], args, []⟩).memory :=
  laidMetH_of_parts3 (fuel := 8) (laidMet_of_run' 8 (by kernel_rfl) (by kernel_rfl)) (by kernel_rfl) (by kernel_rfl)

end Go.Proofs.YtdjklnlkocconaaGreatDoor

namespace Go.Proofs.YtdjklnlkocconaaGreatDoor
open Go Go.RowKit

theorem below_cells {W w1 : World} (hb : Below W.heap.size W w1) : (∀ b o, b < W.heap.size → w1.cell? ⟨b, o, none⟩ = W.cell? ⟨b, o, none⟩) ∧ (∀ b o, b < W.heap.size → w1.frozen? ⟨b, o, none⟩ = W.frozen? ⟨b, o, none⟩) :=
  ⟨fun b o h => hb.cell (p := ⟨b, o, none⟩) h, fun b o h => hb.frozen (p := ⟨b, o, none⟩) h⟩

theorem grown_of_below {w w' : World} (h : Below w.heap.size w w') (row : Option Nat) : w.grownBy w' row :=
  ⟨h.os, h.tape, h.output, h.size, fun k hk _ => h.block k hk⟩

theorem grown_setCell (w : World) (p : Addr) (u : Value) : w.grownBy (w.setCell p u) (some p.block) :=
  ⟨rfl, rfl, rfl, by simp [World.setCell], fun k _ hne => Below.heap_setCell _ _ _ _ (fun e => hne (by rw [e]))⟩

theorem owns_below {w w' : World} {B : Nat} {e : TypeId} {size : Nat} {v : Value} {n : Nat} {xs : List Value} (h : w.ownsRow B e size v n xs) (hb : Below w.heap.size w w') : w'.ownsRow B e size v n xs := by
  refine h.kept (grown_of_below hb none) ?_
  cases v.ownBlock with
  | none => exact .inl rfl
  | some k => exact .inr (by simp)

theorem owns_setCell {w : World} {B : Nat} {e : TypeId} {size : Nat} {v : Value} {n : Nat} {xs : List Value} (h : w.ownsRow B e size v n xs) {p : Addr} (hp : v.ownBlock ≠ some p.block) (u : Value) : (w.setCell p u).ownsRow B e size v n xs :=
  h.kept (grown_setCell w p u) (.inr hp)

theorem owns_ne {w : World} {B : Nat} {e : TypeId} {size : Nat} {v : Value} {n : Nat} {xs : List Value} (h : w.ownsRow B e size v n xs) {b : Nat} (hb : w.heap.size ≤ b) : v.ownBlock ≠ some b := by
  intro he
  have := (h.lt b he).2
  omega

theorem cell_new (w : World) (l : List Value) (t : TypeId) {b : Nat} (hb : b = w.heap.size) : ∀ j u, l[j]? = some u → (w.alloc (.cells l.toArray t)).cell? ((⟨b, 0, none⟩ : Addr).add j) = some u := by
  intro j u hj
  subst hb
  have e : (⟨w.heap.size, 0, none⟩ : Addr).add j = ⟨w.heap.size, j, none⟩ := by
    unfold Addr.add
    split
    · rename_i h; subst h; rfl
    · simp
  rw [e]
  unfold World.cell?
  rw [(MapKept.heap_alloc w _).1]
  simpa using hj

/-- What an owned row of at least one element is. -/
theorem owns_slice {w : World} {B : Nat} {e : TypeId} {size : Nat} {v : Value} {n : Nat} {xs : List Value} (h : w.ownsRow B e size v n xs) (hn : 0 < n) :
    ∃ g cap, v = .slice (some ⟨g, 0, none⟩) n cap ∧ B ≤ g ∧ g < w.heap.size ∧ n ≤ cap ∧ ∀ j u, xs[j]? = some u → w.cell? ⟨g, j, none⟩ = some u := by
  have hlt := h.lt
  have hcs := fun g hg => h.cells (g := g) hg
  obtain ⟨_, ⟨_, h0⟩ | ⟨g, cap, cur, rfl, hB, hh, hc, _⟩⟩ := h
  · omega
  · refine ⟨g, cap, rfl, hB, (hlt g rfl).2, hc, fun j u hj => ?_⟩
    have h1 := hcs g rfl j u hj
    unfold Addr.add at h1
    split at h1
    · rename_i h0; subst h0; exact h1
    · simpa using h1

theorem owns_nil {w : World} {B : Nat} {e : TypeId} {size : Nat} {v : Value} {xs : List Value} (h : w.ownsRow B e size v 0 xs) : ∃ a cap, v = .slice a 0 cap := by
  obtain ⟨_, ⟨h0, _⟩ | ⟨g, cap, cur, rfl, _⟩⟩ := h
  · exact ⟨none, 0, h0⟩
  · exact ⟨_, cap, rfl⟩

/-- Behind an append onto a row of the call's own. -/
theorem below_grown {B : Nat} {w X w1 : World} {v : Value} {e : TypeId} {size n : Nat} {xs : List Value} {w0 : World} (hown : w0.ownsRow B e size v n xs) (hb : Below B w X) (hB : B ≤ X.heap.size)
    (hgrow : X.grownBy w1 v.ownBlock) : Below B w w1 := hb.grown hgrow hB (fun k hk => (hown.lt k hk).1)

theorem ret3 {P : Program} {fn : Func} {R : Ending → World → Prop} {a : Act} {w : World} {t1 t2 t3 : Tmp} (h : fn.results = #[.tmp t1, .tmp t2, .tmp t3]) (hd : a.defers = [])
    (hR : R (.returned (.tuple #[a.tmps.getD t1 undef, a.tmps.getD t2 undef, a.tmps.getD t3 undef])) w) : bodyPost P fn R .ret a w :=
  bodyPost_ret (v := .tuple #[a.tmps.getD t1 undef, a.tmps.getD t2 undef, a.tmps.getD t3 undef]) (by simp [results, h]) hd hR

end Go.Proofs.YtdjklnlkocconaaGreatDoor
