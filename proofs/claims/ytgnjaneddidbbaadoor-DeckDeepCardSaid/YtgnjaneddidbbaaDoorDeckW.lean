/-
  Parse's deferred closure: the walks.
-/
import Derived.Test.YtgnjaneddidbbaaDoorDeckS
import Derived.Recover
import Derived.RegionTactic
namespace Go.Proofs.YtgnjaneddidbbaaDoor
open Go Go.RowKit

def Blk1 (w : World) (g : Nat) (v : Value) (T : TypeId) : Prop := w.heap[g]? = some (.cells #[v] T (0, 0))
theorem Blk1.cell {w : World} {g : Nat} {v : Value} {T : TypeId} (h : Blk1 w g v T) : w.cell? ⟨g, 0, none⟩ = some v := by
  unfold Blk1 at h
  simp [World.cell?, h]
theorem Blk1.free {w : World} {g : Nat} {v : Value} {T : TypeId} (h : Blk1 w g v T) : w.frozen? ⟨g, 0, none⟩ = false := by
  unfold Blk1 at h
  simp [World.frozen?, h]
theorem Blk1.lt {w : World} {g : Nat} {v : Value} {T : TypeId} (h : Blk1 w g v T) : g < w.heap.size := by
  unfold Blk1 at h
  rcases Nat.lt_or_ge g w.heap.size with h' | h'
  · exact h'
  · simp [Array.getElem?_eq_none h'] at h
theorem Blk1.grown {w w' : World} {g : Nat} {v : Value} {T : TypeId} {row : Option Nat} (h : Blk1 w g v T) (hg : w.grownBy w' row) (hn : some g ≠ row) : Blk1 w' g v T := (hg.block g h.lt hn).trans h
theorem Blk1.set {w : World} {g : Nat} {v : Value} {T : TypeId} (h : Blk1 w g v T) (u : Value) : Blk1 (w.setCell ⟨g, 0, none⟩ u) g u T := by
  unfold Blk1 at h ⊢
  simp [World.setCell, Array.getElem?_modify, h]
theorem Blk1.new (w : World) (v : Value) (T : TypeId) : Blk1 (w.alloc (.cells #[v] T)) w.heap.size v T := (MapKept.heap_alloc w _).1

set_option maxHeartbeats 1000000 in
set_option maxRecDepth 100000 in
theorem catch_wrong (L : Nat) (l a e : Value) (p : Int) (older : List PanicEntry) (w : World) (hL : Blk1 w L l 38) (hA : Blk1 w (L + 1) a 3) (hE : Blk1 w (L + 1 + 1) e 23) :
    CallsD Tryd.prog 29 #[.pointer (some ⟨L, 0, none⟩), .pointer (some ⟨L + 1, 0, none⟩), .pointer (some ⟨L + 1 + 1, 0, none⟩)] (.panicking ({ v := .iface 62 (.agg #[.int .i64 p]), recovered := false } :: older)) w fun e u' w' =>
      e = .returned (.tuple #[]) ∧ u' = .panicking ({ v := .iface 62 (.agg #[.int .i64 p]), recovered := true } :: older) ∧ (w'.cell? ⟨L, 0, none⟩ = some (.slice none 0 0) ∧ w'.cell? ⟨L + 1, 0, none⟩ = some (.int .i64 p) ∧ w'.cell? ⟨L + 1 + 1, 0, none⟩ = some (.int .i64 21)) ∧ Below L w w' := by
  have c0 := hL.cell
  have c1 := hA.cell
  have c2 := hE.cell
  have f0 := hL.free
  have f1 := hA.free
  have f2 := hE.free
  have hta : ∀ w, (Instr.typeAssert (.iface 62 (.agg #[.int .i64 p])) 20 62 true).run Tryd.prog w = .ok (.tuple #[.agg #[.int .i64 p], .bool true]) w := fun _ => by kernel_rfl
  refine callsD_of_wpS Tryd.func29 rfl fun c₀ cs hu => ?_
  apply wpS_seq
  apply wpS_region
  simp [wpOpsS, go_sem, recoverD, hu, Tryd.ntmps29, Exit.thenS]
  refine wpS_of_wp ?_
  simp only [Array.replicate_succ, Array.replicate_zero, List.push_toArray, List.nil_append, List.cons_append]
  go_wp2
  have hg : w.grownBy (w.alloc (.cells #[.int .i64 p] 62)) none := grown_alloc _ _ _
  have H4 := Lib.hid (Blk1.new w (.int .i64 p) 62)
  have HL := Lib.hid (hL.grown hg (by simp))
  have HA := Lib.hid (hA.grown hg (by simp))
  have HE := Lib.hid (hE.grown hg (by simp))
  have HB : Hid (Below L w (w.alloc (.cells #[.int .i64 p] 62))) := (Below.refl _ _).alloc (Nat.le_of_lt hL.lt) _
  have hLt := hL.lt
  have hAt := hA.lt
  clear hg hL hA hE c0 c1 c2 f0 f1 f2 hta
  generalize (w.alloc (.cells #[.int .i64 p] 62)) = w2 at *
  have n1 : ¬ L = w.heap.size := by have := hLt; omega
  have n2 : ¬ w.heap.size = L := by have := hLt; omega
  have n3 : ¬ L + 1 = w.heap.size := by have := hAt; omega
  have n4 : ¬ w.heap.size = L + 1 := by have := hAt; omega
  have c0 := HL.out.cell
  have c1 := HA.out.cell
  have c2 := HE.out.cell
  have c4 := H4.out.cell
  have f0 := HL.out.free
  have f1 := HA.out.free
  have f2 := HE.out.free
  go_region
  have g0 : w2.grownBy _ (some L) := grown_setCell w2 ⟨L, 0, none⟩ (.slice none 0 0)
  have g1 : World.grownBy _ _ (some (L + 1)) := grown_setCell (w2.setCell ⟨L, 0, none⟩ (.slice none 0 0)) ⟨L + 1, 0, none⟩ (.int .i64 p)
  have g2 : World.grownBy _ _ (some (L + 1 + 1)) := grown_setCell ((w2.setCell ⟨L, 0, none⟩ (.slice none 0 0)).setCell ⟨L + 1, 0, none⟩ (.int .i64 p)) ⟨L + 1 + 1, 0, none⟩ (.int .i64 21)
  have b0 := (((HL.out.set (.slice none 0 0)).grown g1 (by intro e; have := Option.some.inj e; omega)).grown g2 (by intro e; have := Option.some.inj e; omega)).cell
  have b1 := (((HA.out.grown g0 (by intro e; have := Option.some.inj e; omega)).set (.int .i64 p)).grown g2 (by intro e; have := Option.some.inj e; omega)).cell
  have b2 := (((HE.out.grown g0 (by intro e; have := Option.some.inj e; omega)).grown g1 (by intro e; have := Option.some.inj e; omega)).set (.int .i64 21)).cell
  have hb := (((HB.out.setCell (p := ⟨L, 0, none⟩) (Nat.le_refl _) (.slice none 0 0)).setCell (p := ⟨L + 1, 0, none⟩) (Nat.le_succ _) (.int .i64 p)).setCell (p := ⟨L + 1 + 1, 0, none⟩) (Nat.le_succ_of_le (Nat.le_succ _)) (.int .i64 21)).drew
  refine ⟨rfl, _, rfl, _, results_none rfl _ _ _, rfl, rfl, ⟨b0, b1, b2⟩, hb⟩

set_option maxHeartbeats 1000000 in
set_option maxRecDepth 100000 in
theorem catch_idle (L A E : Addr) (w : World) :
    CallsD Tryd.prog 29 #[.pointer (some L), .pointer (some A), .pointer (some E)] .returning w fun e u' w' => e = .returned (.tuple #[]) ∧ u' = .returning ∧ w' = w := by
  refine callsD_of_wpS Tryd.func29 rfl fun c₀ cs hu => ?_
  apply wpS_seq
  apply wpS_region
  simp [wpOpsS, go_sem, recoverD, hu, Tryd.ntmps29, Exit.thenS]
  refine wpS_of_wp ?_
  simp only [Array.replicate_succ, Array.replicate_zero, List.push_toArray, List.nil_append, List.cons_append]
  go_wp2
  refine ⟨rfl, _, ?_, _, results_none rfl _ _ _, rfl, rfl, rfl⟩
  cases c₀
  simp_all
end Go.Proofs.YtgnjaneddidbbaaDoor
