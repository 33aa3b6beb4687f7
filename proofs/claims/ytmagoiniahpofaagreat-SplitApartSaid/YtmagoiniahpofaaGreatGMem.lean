/-
  Geometry: small laws on memory; whole numbers in memory (rows of limbs).
-/
import Derived.Test.YtmagoiniahpofaaGreatProg
import Derived.Test.YtmagoiniahpofaaGreatGDiv
import Derived.Test.YtmagoiniahpofaaGreatGWorld
import Derived.WalkKit
import Derived.WalkSpells
import Derived.WalkLawsBesides
import Derived.ProofKit
import Derived.LaidMore
import Derived.LaidLaws
import Derived.OpenShut
import Derived.Stop.Joined
import Derived.MakeChecks
import Derived.Carry
import Derived.BigQuiet
import Derived.Deep.QuietTactic
import Derived.StillTailTactics
import Derived.Deep.LoopGhost
import Derived.Deep.RegionHeld3
import Derived.Deep.RegionWith
import Derived.Deep.AppendLies
import Derived.RegionTactic
import Derived.LoopN
import Derived.Laws.Rows
import Derived.IntWalk
import Derived.Lib.LaidTab
import Derived.Lib.ItoaNum
import Derived.Lib.SmallJoins
import Derived.Lib.Hide
namespace Go.Proofs.YtmagoiniahpofaaGreat
open Go Go.RowKit

theorem below_cells {W w1 : World} (hb : Below W.heap.size W w1) : (∀ b o, b < W.heap.size → w1.cell? ⟨b, o, none⟩ = W.cell? ⟨b, o, none⟩) ∧ (∀ b o, b < W.heap.size → w1.frozen? ⟨b, o, none⟩ = W.frozen? ⟨b, o, none⟩) :=
  ⟨fun b o h => hb.cell (p := ⟨b, o, none⟩) h, fun b o h => hb.frozen (p := ⟨b, o, none⟩) h⟩

theorem grown_of_below {w w' : World} (h : Below w.heap.size w w') (row : Option Nat) : w.grownBy w' row :=
  ⟨h.os, h.tape, h.output, h.size, fun k hk _ => h.block k hk⟩

theorem grown_setCell (w : World) (p : Addr) (u : Value) : w.grownBy (w.setCell p u) (some p.block) :=
  ⟨rfl, rfl, rfl, by simp [World.setCell], fun k _ hne => Below.heap_setCell _ _ _ _ (fun e => hne (by rw [e]))⟩

theorem owns_below {w w' : World} {B : Nat} {e : TypeId} {size : Nat} {v : Value} {n : Nat} {xs : List Value} (h : w.ownsRow B e size v n xs) (hb : Below w.heap.size w w') : w'.ownsRow B e size v n xs := by
  refine h.kept (grown_of_below hb none) ?_
  cases v.ownBlock with
  | none => exact .inl rfl
  | some k => exact .inr (by simp)

theorem owns_setCell {w : World} {B : Nat} {e : TypeId} {size : Nat} {v : Value} {n : Nat} {xs : List Value} (h : w.ownsRow B e size v n xs) {p : Addr} (hp : v.ownBlock ≠ some p.block) (u : Value) : (w.setCell p u).ownsRow B e size v n xs :=
  h.kept (grown_setCell w p u) (.inr hp)

theorem owns_ne {w : World} {B : Nat} {e : TypeId} {size : Nat} {v : Value} {n : Nat} {xs : List Value} (h : w.ownsRow B e size v n xs) {b : Nat} (hb : w.heap.size ≤ b) : v.ownBlock ≠ some b := by
  intro he
  have := (h.lt b he).2
  omega

theorem cell_new (w : World) (l : List Value) (t : TypeId) {b : Nat} (hb : b = w.heap.size) : ∀ j u, l[j]? = some u → (w.alloc (.cells l.toArray t)).cell? ((⟨b, 0, none⟩ : Addr).add j) = some u := by
  intro j u hj
  subst hb
  have e : (⟨w.heap.size, 0, none⟩ : Addr).add j = ⟨w.heap.size, j, none⟩ := by
    unfold Addr.add
    split
    · rename_i h; subst h; rfl
    · simp
  rw [e]
  unfold World.cell?
  rw [(MapKept.heap_alloc w _).1]
  simpa using hj

/-- What an owned row of at least one element is. -/
theorem owns_slice {w : World} {B : Nat} {e : TypeId} {size : Nat} {v : Value} {n : Nat} {xs : List Value} (h : w.ownsRow B e size v n xs) (hn : 0 < n) :
    ∃ g cap, v = .slice (some ⟨g, 0, none⟩) n cap ∧ B ≤ g ∧ g < w.heap.size ∧ n ≤ cap ∧ ∀ j u, xs[j]? = some u → w.cell? ⟨g, j, none⟩ = some u := by
  have hlt := h.lt
  have hcs := fun g hg => h.cells (g := g) hg
  obtain ⟨_, ⟨_, h0⟩ | ⟨g, cap, cur, rfl, hB, hh, hc, _⟩⟩ := h
  · omega
  · refine ⟨g, cap, rfl, hB, (hlt g rfl).2, hc, fun j u hj => ?_⟩
    have h1 := hcs g rfl j u hj
    unfold Addr.add at h1
    split at h1
    · rename_i h0; subst h0; exact h1
    · simpa using h1

theorem owns_nil {w : World} {B : Nat} {e : TypeId} {size : Nat} {v : Value} {xs : List Value} (h : w.ownsRow B e size v 0 xs) : ∃ a cap, v = .slice a 0 cap := by
  obtain ⟨_, ⟨h0, _⟩ | ⟨g, cap, cur, rfl, _⟩⟩ := h
  · exact ⟨none, 0, h0⟩
  · exact ⟨_, cap, rfl⟩

/-- Behind an append onto a row of the call's own. -/
theorem below_grown {B : Nat} {w X w1 : World} {v : Value} {e : TypeId} {size n : Nat} {xs : List Value} {w0 : World} (hown : w0.ownsRow B e size v n xs) (hb : Below B w X) (hB : B ≤ X.heap.size)
    (hgrow : X.grownBy w1 v.ownBlock) : Below B w w1 := hb.grown hgrow hB (fun k hk => (hown.lt k hk).1)

theorem ret3 {P : Program} {fn : Func} {R : Ending → World → Prop} {a : Act} {w : World} {t1 t2 t3 : Tmp} (h : fn.results = #[.tmp t1, .tmp t2, .tmp t3]) (hd : a.defers = [])
    (hR : R (.returned (.tuple #[a.tmps.getD t1 undef, a.tmps.getD t2 undef, a.tmps.getD t3 undef])) w) : bodyPost P fn R .ret a w :=
  bodyPost_ret (v := .tuple #[a.tmps.getD t1 undef, a.tmps.getD t2 undef, a.tmps.getD t3 undef]) (by simp [results, h]) hd hR


theorem grown_trans {a b c : World} {row : Option Nat} (h : a.grownBy b row) (k : b.grownBy c row) : a.grownBy c row :=
  ⟨k.os.trans h.os, k.tape.trans h.tape, k.output.trans h.output, Nat.le_trans h.size k.size, fun j hj hne => (k.block j (Nat.lt_of_lt_of_le hj h.size) hne).trans (h.block j hj hne)⟩
theorem grown_refl (w : World) (row : Option Nat) : w.grownBy w row := ⟨rfl, rfl, rfl, Nat.le_refl _, fun _ _ _ => rfl⟩
theorem grown_alloc (w : World) (o : Obj) (row : Option Nat) : w.grownBy (w.alloc o) row := grown_of_below ((Below.refl _ _).alloc (Nat.le_refl _) _) row
theorem grown_drew (w : World) (q : Nat) (row : Option Nat) : w.grownBy (w.drewN q) row := ⟨rfl, rfl, rfl, Nat.le_refl _, fun _ _ _ => rfl⟩

/-- Rows of words of 32 bits stay as they were. -/
def Keep (w w' : World) : Prop := ∀ (g : Nat) (cs : Array Value), w.heap[g]? = some (Obj.cells cs 127 (0, 0)) → w'.heap[g]? = some (Obj.cells cs 127 (0, 0))
theorem Keep.refl (w : World) : Keep w w := fun _ _ h => h
theorem Keep.trans {a b c : World} (h : Keep a b) (k : Keep b c) : Keep a c := fun g cs e => k g cs (h g cs e)
theorem keep_grown {w w' : World} (hg : w.grownBy w' none) : Keep w w' := fun g cs e => (hg.block g (Array.getElem?_eq_some_iff.1 e).1 (by simp)).trans e
theorem keep_set {T : TypeId} {w : World} {g j : Nat} {cs : List Value} (hB : w.heap[g]? = some (.cells cs.toArray T (0, 0))) (hT : T ≠ 127) (v : Value) : Keep w (w.setCell ⟨g, j, none⟩ v) := by
  intro b c e
  have hne : b ≠ g := by
    rintro rfl
    rw [hB] at e
    injection e with e
    injection e with _ e2
    exact hT e2
  rw [Below.heap_setCell _ _ _ _ hne]
  exact e

/-- What a call's own work turns: nothing that was there ahead of block B; draws only rise. -/
structure Own (B : Nat) (w w' : World) : Prop where
  b : Below B w w'
  d : w.drawn ≤ w'.drawn
theorem Own.refl (B : Nat) (w : World) : Own B w w := ⟨Below.refl _ _, Nat.le_refl _⟩
theorem Own.trans {B : Nat} {a b c : World} (h : Own B a b) (k : Own B b c) : Own B a c := ⟨h.b.trans k.b, Nat.le_trans h.d k.d⟩
theorem Own.alloc {B : Nat} {a b : World} (h : Own B a b) (hB : B ≤ b.heap.size) (o : Obj) : Own B a (b.alloc o) := ⟨h.b.alloc hB o, h.d⟩
theorem Own.drew {B : Nat} {a b : World} (h : Own B a b) : Own B a b.drew := ⟨h.b.drew, Nat.le_succ_of_le h.d⟩
theorem Own.drewN {B : Nat} {a b : World} (h : Own B a b) (n : Nat) : Own B a (b.drewN n) := ⟨⟨h.b.os, h.b.tape, h.b.output, h.b.size, h.b.block⟩, Nat.le_trans h.d (Nat.le_add_right _ _)⟩
theorem Own.set {B : Nat} {a b : World} (h : Own B a b) {g : Nat} (hg : B ≤ g) (j : Nat) (v : Value) : Own B a (b.setCell ⟨g, j, none⟩ v) := ⟨h.b.setCell hg v, h.d⟩
theorem Own.mono {B C : Nat} {w w' : World} (h : Own B w w') (hC : C ≤ B) : Own C w w' := ⟨h.b.mono hC, h.d⟩
theorem Own.size {B : Nat} {w w' : World} (h : Own B w w') : w.heap.size ≤ w'.heap.size := h.b.size
/-- What a callee leaves: all that was there stays. -/
abbrev Gr (w w' : World) : Prop := Own w.heap.size w w'
theorem Gr.grown {w w' : World} (h : Gr w w') : w.grownBy w' none := grown_of_below h.b none
theorem Gr.keep {w w' : World} (h : Gr w w') : Keep w w' := keep_grown h.grown
/-- A callee's work, as the caller's own. -/
theorem Own.call {B : Nat} {a b c : World} (h : Own B a b) (hB : B ≤ b.heap.size) (k : Gr b c) : Own B a c := h.trans (k.mono hB)
theorem gr_of_grown {w w' : World} (h : w.grownBy w' none) (d : w.drawn ≤ w'.drawn) : Gr w w' := ⟨⟨h.os, h.tape, h.output, h.size, fun k hk => h.block k hk (by simp)⟩, d⟩

/-- A row of words of 32 bits in memory. -/
def Row32 (w : World) (a : Option Addr) (l : List Nat) : Prop := l = [] ∨ ∃ (g : Nat) (cs : Array Value), a = some ⟨g, 0, none⟩ ∧ w.heap[g]? = some (Obj.cells cs 127 (0, 0)) ∧ ∀ (j x : Nat), l[j]? = some x → cs[j]? = some (Value.int .u32 (x : Nat))
theorem Row32.keep {w w' : World} {a : Option Addr} {l : List Nat} (h : Row32 w a l) (k : Keep w w') : Row32 w' a l := by
  rcases h with h | ⟨g, cs, rfl, hb, hc⟩
  · exact .inl h
  · exact .inr ⟨g, cs, rfl, k g cs hb, hc⟩
theorem Row32.own {w w' : World} {a : Option Addr} {l : List Nat} (h : Row32 w a l) (o : Gr w w') : Row32 w' a l := h.keep o.keep
theorem Row32.cells {w : World} {a : Option Addr} {l : List Nat} (h : Row32 w a l) (hl : l ≠ []) : ∃ g, a = some ⟨g, 0, none⟩ ∧ g < w.heap.size ∧ ∀ (j x : Nat), l[j]? = some x → w.cell? ⟨g, j, none⟩ = some (Value.int .u32 (x : Nat)) := by
  rcases h with h | ⟨g, cs, rfl, hb, hc⟩
  · exact absurd h hl
  · refine ⟨g, rfl, (Array.getElem?_eq_some_iff.1 hb).1, fun j x hx => ?_⟩
    unfold World.cell?
    simp [hb, hc j x hx]
theorem Row32.take {w : World} {a : Option Addr} {l : List Nat} (h : Row32 w a l) (k : Nat) : Row32 w a (l.take k) := by
  rcases h with rfl | ⟨g, cs, rfl, hb, hc⟩
  · exact .inl (by simp)
  · refine .inr ⟨g, cs, rfl, hb, fun j x hx => hc j x ?_⟩
    rw [List.getElem?_take] at hx
    split at hx
    · exact hx
    · cases hx

/-- A whole number in memory. -/
def NatIs (w : World) (v : Value) (n : Nat) : Prop := ∃ a, v = .agg #[.slice a (limbs n).length (limbs n).length] ∧ Row32 w a (limbs n)
theorem NatIs.keep {w w' : World} {v : Value} {n : Nat} (h : NatIs w v n) (k : Keep w w') : NatIs w' v n := by
  obtain ⟨a, h1, h2⟩ := h
  exact ⟨a, h1, h2.keep k⟩

/-- A block of cells. -/
def BlkC (T : TypeId) (w : World) (g : Nat) (cs : List Value) : Prop := w.heap[g]? = some (.cells cs.toArray T (0, 0))
theorem BlkC.cell {T : TypeId} {w : World} {g : Nat} {cs : List Value} (h : BlkC T w g cs) (j : Nat) : w.cell? ⟨g, j, none⟩ = cs[j]? := by
  unfold BlkC at h
  unfold World.cell?
  simp [h]
theorem BlkC.free {T : TypeId} {w : World} {g : Nat} {cs : List Value} (h : BlkC T w g cs) (j : Nat) : w.frozen? ⟨g, j, none⟩ = false := by
  unfold BlkC at h
  simp [World.frozen?, h]
theorem BlkC.lt {T : TypeId} {w : World} {g : Nat} {cs : List Value} (h : BlkC T w g cs) : g < w.heap.size := by
  unfold BlkC at h
  rcases Nat.lt_or_ge g w.heap.size with h' | h'
  · exact h'
  · simp [Array.getElem?_eq_none h'] at h
theorem BlkC.grown {T : TypeId} {w w' : World} {g : Nat} {cs : List Value} {row : Option Nat} (h : BlkC T w g cs) (hg : w.grownBy w' row) (hn : some g ≠ row) : BlkC T w' g cs := (hg.block g h.lt hn).trans h
theorem BlkC.still {T : TypeId} {w w' : World} {g : Nat} {cs : List Value} (h : BlkC T w g cs) (hg : w.grownBy w' none) : BlkC T w' g cs := h.grown hg (by simp)
theorem BlkC.set {T : TypeId} {w : World} {g : Nat} {cs : List Value} (h : BlkC T w g cs) (j : Nat) (v : Value) : BlkC T (w.setCell ⟨g, j, none⟩ v) g (cs.set j v) := by
  unfold BlkC at h ⊢
  simp [World.setCell, Array.getElem?_modify, h]
theorem BlkC.new (T : TypeId) (w : World) (cs : List Value) : BlkC T (w.alloc (.cells cs.toArray T)) w.heap.size cs := (MapKept.heap_alloc w _).1

def isStruct (P : Program) (ty : TypeId) : Bool := match P.underlying ty with | some (.struct _) => true | _ => false
theorem blk_ret {T ty : TypeId} {P : Program} {R : Ending → World → Prop} {a : Act} {w : World} {g : Nat} {cs : List Value} {f : Func} {t : Tmp} (h : f.results = #[.cell t ty])
    (hu : isStruct P ty = true) (hi : (P.info? ty).map (·.size) = some cs.length)
    (hp : a.tmps.getD t undef = .pointer (some ⟨g, 0, none⟩)) (ha : a.defers = []) (hB : BlkC T w g cs) (hR : R (.returned (.agg cs.toArray)) w) : bodyPost P f R .ret a w := by
  unfold isStruct at hu
  split at hu
  · rename_i fs he
    exact bodyPost_ret (results_cell_row h a.tmps w g T cs.toArray (0, 0) _ hp hB he rfl (by simpa using hi)) ha hR
  · cases hu

/-- What has been made anew, with a new row turned. -/
theorem grown_new {w w1 w2 : World} {g : Nat} {row : Option Nat} (h1 : w.grownBy w1 row) (h2 : w1.grownBy w2 (some g)) (hg : w.heap.size ≤ g) : w.grownBy w2 row :=
  ⟨h2.os.trans h1.os, h2.tape.trans h1.tape, h2.output.trans h1.output, Nat.le_trans h1.size h2.size,
    fun k hk hr => (h2.block k (Nat.lt_of_lt_of_le hk h1.size) (by intro e; have := Option.some.inj e; omega)).trans (h1.block k hk hr)⟩

theorem nat_ret {T : TypeId} {R : Ending → World → Prop} {a : Act} {w : World} {g : Nat} {x : Value} {f : Func} {t : Tmp} (h : f.results = #[.cell t 33])
    (hp : a.tmps.getD t undef = .pointer (some ⟨g, 0, none⟩)) (ha : a.defers = []) (hB : BlkC T w g [x]) (hR : R (.returned (.agg #[x])) w) : bodyPost Tryz.prog f R .ret a w :=
  blk_ret h (by kernel_rfl) (by kernel_rfl) hp ha hB hR

theorem row_at {w : World} {g : Nat} {cs : List Value} {l : List Nat} (hB : BlkC 127 w g cs) (hcs : cs = l.map fun x : Nat => Value.int .u32 x) : Row32 w (some ⟨g, 0, none⟩) l := by
  subst hcs
  refine .inr ⟨_, _, rfl, hB, fun j x hx => ?_⟩
  simp [hx]
theorem blk_at {T : TypeId} {w : World} {cs : List Value} {g : Nat} (hg : g = w.heap.size) : BlkC T (w.alloc (.cells cs.toArray T)) g cs := by subst hg; exact BlkC.new _ _ _

theorem info127 : (Tryz.prog.info? 127).map (fun i => (i.zero, i.size, i.bytes)) = some (some (.int .u32 0), 1, 4) := by kernel_rfl
theorem blk_of_full {w : World} {B : Nat} {T : TypeId} {g n : Nat} {xs : List Value} (h : w.ownsRow B T 1 (.slice (some ⟨g, 0, none⟩) n n) n xs) : BlkC T w g xs := by
  obtain ⟨_, ⟨h0, _⟩ | ⟨g', cap, cur, e, _, hh, _, _, hs, ht⟩⟩ := h
  · cases h0
  · cases e
    unfold BlkC
    rw [List.take_of_length_le (by simp; omega)] at ht
    rw [hh, ← ht]
/-- make([]uint32, n) -/
theorem u32s_made (w : World) (n : Nat) (hn : n ≤ 1000000) : ∃ w', (Instr.makeSlice 31 (.int .i64 (n : Int)) (.int .i64 (n : Int))).run Tryz.prog w = .ok (.slice (some ⟨w.heap.size, 0, none⟩) n n) w' ∧ BlkC 127 w' w.heap.size ((List.replicate n 0).map fun x : Nat => Value.int .u32 x) ∧ Gr w w' := by
  obtain ⟨i0, hi, hz0, hz1, hz2⟩ := info_parts info127
  obtain ⟨w', h1, h2, h3⟩ := run_make_full (P := Tryz.prog) w w.heap.size 31 127 i0 (.int .u32 0) 1 Tryz.underlying31 hi hz0 hz1 .i64 .i64 n (by rw [hz2]; omega) (by unfold maxLen; omega) (Nat.le_refl _)
  refine ⟨w', h1, ?_, gr_of_grown h3 (run_drawn _ h1)⟩
  have e : (madeCells (Value.int .u32 0).cells (n * 1)).toList = (List.replicate n 0).map fun x : Nat => Value.int .u32 x := by
    rw [Nat.mul_one]
    show (madeCells #[.int .u32 0] n).toList = _
    rw [toList_madeCells_one, List.map_replicate]
    rfl
  rw [e] at h2
  exact blk_of_full h2

end Go.Proofs.YtmagoiniahpofaaGreat
