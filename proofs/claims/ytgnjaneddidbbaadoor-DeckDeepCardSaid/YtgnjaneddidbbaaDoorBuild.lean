/-
  strings.Builder, of the call's own: copyCheck, WriteString, WriteByte: the walks. What stands beside the builder is kept.
-/
import Derived.Test.YtgnjaneddidbbaaDoorMem
import Derived.Test.YtgnjaneddidbbaaDoorShelf2
import Derived.Test.YtgnjaneddidbbaaDoorLexSpec
import Derived.Lib.Builder
import Derived.Lib.AppendStr
import Derived.Lib.UnsafeStr
namespace Go.Proofs.YtgnjaneddidbbaaDoor
open Go Go.RowKit

/-- A builder in block b, whatever its age, that holds bytes. -/
def WB (w : World) (b : Nat) (l : List UInt8) : Prop := Lib.IsBuilder 82 5 b b (Lib.byteCells l) w

/-- All stands as it stood, but the builder and rows of bytes behind it. -/
structure Keeps (b : Nat) (w w' : World) : Prop where
  os : w'.os = w.os
  tape : w'.tape = w.tape
  output : w'.output = w.output
  size : w.heap.size ≤ w'.heap.size
  block : ∀ k, k < w.heap.size → k ≠ b → (k < b ∨ ∀ cs fr, w.heap[k]? ≠ some (.cells cs 5 fr)) → w'.heap[k]? = w.heap[k]?

theorem Keeps.refl (b : Nat) (w : World) : Keeps b w w := ⟨rfl, rfl, rfl, Nat.le_refl _, fun _ _ _ _ => rfl⟩
theorem Keeps.trans {b : Nat} {x y z : World} (h : Keeps b x y) (k : Keeps b y z) : Keeps b x z :=
  ⟨k.os.trans h.os, k.tape.trans h.tape, k.output.trans h.output, Nat.le_trans h.size k.size, fun i hi hb ht => by
    have e := h.block i hi hb ht
    exact (k.block i (Nat.lt_of_lt_of_le hi h.size) hb (by rw [e]; exact ht)).trans e⟩
theorem Keeps.of_grown {b : Nat} {w w' : World} {row : Option Nat} (h : w.grownBy w' row) (hr : ∀ c, row = some c → c = b ∨ (b ≤ c ∧ ∃ cs fr, w.heap[c]? = some (.cells cs 5 fr))) : Keeps b w w' :=
  ⟨h.os, h.tape, h.output, h.size, fun k hk hb ht => h.block k hk (by
    intro e
    rcases hr k e.symm with h1 | ⟨h1, cs, fr, h2⟩
    · exact hb h1
    · rcases ht with h3 | h3
      · omega
      · exact h3 cs fr h2)⟩
theorem Keeps.below {b : Nat} {w w' : World} (h : Keeps b w w') : Below b w w' ∨ w.heap.size ≤ b := by
  rcases Nat.lt_or_ge b w.heap.size with hl | hl
  · exact .inl ⟨h.os, h.tape, h.output, h.size, fun k hk => h.block k (by omega) (by omega) (.inl hk)⟩
  · exact .inr hl

theorem infoByte : (Tryd.prog.info? 5).map (fun i => (i.zero, i.size, i.bytes)) = some (some (.int .u8 0), 1, 1) := by kernel_rfl
theorem sizeBuilder : (Tryd.prog.info? 82).map (·.size) = some 2 := by kernel_rfl

theorem rowType {w : World} {B : Nat} {e : TypeId} {size : Nat} {v : Value} {n : Nat} {xs : List Value} (h : w.ownsRow B e size v n xs) : ∀ c, v.ownBlock = some c → B ≤ c ∧ ∃ cs fr, w.heap[c]? = some (.cells cs e fr) := by
  intro c hc
  rcases h.2 with ⟨rfl, _⟩ | ⟨g, cap, cur, rfl, hB, hg, _⟩
  · cases hc
  · have : g = c := by simpa [Value.ownBlock] using hc
    subst this
    exact ⟨hB, cur, _, hg⟩

set_option maxHeartbeats 1000000 in
set_option maxRecDepth 100000 in
theorem check_used (b : Nat) (w : World) (h0 : w.cell? ⟨b, 0, none⟩ = some (.pointer (some ⟨b, 0, none⟩))) :
    Calls Tryd.prog 85 #[.pointer (some ⟨b, 0, none⟩)] w fun e w' => e = .returned (.tuple #[]) ∧ w' = w := by
  obtain ⟨j, hj, _⟩ := Option.map_eq_some_iff.1 sizeBuilder
  go_enter Tryd.func85, Tryd.ntmps85
  go_wp2
  rw [Lib.run_neq_ptr_same w _ Tryd.underlying79 hj]
  go_wp2
  go_end0
  exact ⟨rfl, rfl⟩

set_option maxHeartbeats 1000000 in
set_option maxRecDepth 100000 in
theorem check_fresh (b : Nat) (w : World) (h0 : w.cell? ⟨b, 0, none⟩ = some (.pointer none)) (hsh : w.shape? b = some (82, 2)) (hfz : w.frozen? ⟨b, 0, none⟩ = false) :
    Calls Tryd.prog 85 #[.pointer (some ⟨b, 0, none⟩)] w fun e w' => e = .returned (.tuple #[]) ∧ w' = w.setCell ⟨b, 0, none⟩ (.pointer (some ⟨b, 0, none⟩)) := by
  obtain ⟨j, hj, hjs⟩ := Option.map_eq_some_iff.1 sizeBuilder
  go_enter Tryd.func85, Tryd.ntmps85
  go_wp2
  rw [Lib.run_to_unsafe w ⟨b, 0, none⟩ Tryd.underlying79 Tryd.underlying124 hj (by rw [hjs]; decide) hsh (Nat.zero_lt_succ 1)]
  simp only [Result.andThen]
  rw [Oper.upon_value]
  go_wp2
  rw [run_callFunc_extern Tryd.func92 (by kernel_rfl) (by kernel_rfl) (by kernel_rfl) (e := Extern.AbiNoEscape.same) (by kernel_rfl)]
  rw [Lib.run_noEscape]
  simp only [Result.andThen]
  rw [Oper.upon_value]
  go_wp2
  rw [Lib.run_from_unsafe w ⟨b, 0, none⟩ Tryd.underlying124 Tryd.underlying79 hj hsh (by kernel_rfl)]
  simp only [Result.andThen]
  rw [Oper.upon_value]
  go_wp2
  go_end0
  exact ⟨rfl, rfl⟩

/-- Behind copyCheck: the builder bears its own address. -/
theorem check_any (b : Nat) (l : List UInt8) (w : World) (h : WB w b l) :
    Calls Tryd.prog 85 #[.pointer (some ⟨b, 0, none⟩)] w fun e w' => e = .returned (.tuple #[]) ∧ Lib.BuilderAt 82 5 b b (.pointer (some ⟨b, 0, none⟩)) (Lib.byteCells l) w' ∧ Keeps b w w' := by
  rcases h with h | h
  · refine (check_fresh b w h.cell0 h.shape h.frozen0).mono ?_
    rintro e w' ⟨rfl, rfl⟩
    exact ⟨rfl, h.used _, Keeps.of_grown (grown_setCell w ⟨b, 0, none⟩ _) (fun c e => .inl (Option.some.inj e).symm)⟩
  · refine (check_used b w h.cell0).mono ?_
    rintro e w' ⟨rfl, rfl⟩
    exact ⟨rfl, h, Keeps.refl _ _⟩

set_option maxHeartbeats 2000000 in
set_option maxRecDepth 100000 in
theorem writeString_any (b : Nat) (l : List UInt8) (s : ByteArray) (w : World) (h : WB w b l) (hlen : l.length + s.size ≤ 140737488355328) :
    Calls Tryd.prog 65 #[.pointer (some ⟨b, 0, none⟩), .string s] w fun e w' => (∃ v, e = .returned v) ∧ WB w' b (l ++ s.data.toList) ∧ Keeps b w w' := by
  obtain ⟨i0, hi, hz0, hz1, hz2⟩ := info_parts infoByte
  go_enter Tryd.func65, Tryd.ntmps65
  go_wp2_with (go_at_call 85; refine (check_any b l _ h).mono ?_)
  rintro e w1 ⟨rfl, h1, hb1⟩
  obtain ⟨hB, v, hbk, hown, hne⟩ := h1
  have hlt : b < w1.heap.size := Lib.BuilderAt.lt ⟨hB, v, hbk, hown, hne⟩
  have c0 : w1.cell? ⟨b, 0, none⟩ = some (.pointer (some ⟨b, 0, none⟩)) := by rw [Lib.cell_of_heap hbk]; rfl
  have c1 : w1.cell? ⟨b, 1, none⟩ = some v := by rw [Lib.cell_of_heap hbk]; rfl
  have HB1 := Lib.hid hb1
  have HLL : Hid ((Lib.byteCells l).length = l.length) := Lib.byteCells_length l
  clear hb1
  go_wp2_with (at_builtin; refine Lib.wpList_append_own_string _ rfl _ _ 80 9 rfl b 5 i0 Tryd.underlying80 Tryd.underlying9 hi hz0 hz1 hz2 _ _ _ rfl hown s rfl ?c3 ?c4 ?c5 ?_)
  case c3 => rw [HLL.out]; unfold maxLen; omega
  case c4 => rw [HLL.out]; omega
  case c5 => omega
  intro v' w2 hown' hgrow _
  have hb2 : w2.heap[b]? = some (.cells #[.pointer (some ⟨b, 0, none⟩), v] 82 (0, 0)) := (hgrow.block b hlt (fun e => hne e.symm)).trans hbk
  have d0 : w2.cell? ⟨b, 0, none⟩ = some (.pointer (some ⟨b, 0, none⟩)) := by rw [Lib.cell_of_heap hb2]; rfl
  have d1 : w2.cell? ⟨b, 1, none⟩ = some v := by rw [Lib.cell_of_heap hb2]; rfl
  have f1 : w2.frozen? ⟨b, 1, none⟩ = false := Lib.frozen_of_heap hb2 1
  have HK : Hid (Keeps b w w2) := HB1.out.trans (Keeps.of_grown hgrow (fun c e => .inr (rowType hown c e)))
  obtain ⟨ao, n', cap, rfl⟩ : ∃ ao n' cap, v' = .slice ao n' cap := by
    rcases hown'.2 with ⟨hv, _⟩ | ⟨g, cap, cur, hv, _⟩
    · exact ⟨_, _, _, hv⟩
    · exact ⟨_, _, _, hv⟩
  go_wp2
  go_ret2
  refine ⟨⟨_, rfl⟩, .inr ?_, HK.out.trans (Keeps.of_grown (grown_setCell w2 ⟨b, 1, none⟩ _) (fun c e => .inl (Option.some.inj e).symm))⟩
  rw [Lib.byteCells_append]
  refine Lib.BuilderAt.put (T := 82) (e := 5) hB hb2 ?_ (by decide)
  rw [List.length_append, ← Lib.strCells_eq, Lib.strCells_length]
  exact hown'

set_option maxHeartbeats 2000000 in
set_option maxRecDepth 100000 in
theorem writeByte_any (b : Nat) (l : List UInt8) (c : UInt8) (k : Int) (w : World) (h : WB w b l) (hk : Hid (k = c.toNat)) (hlen : l.length + 1 ≤ 140737488355328) :
    Calls Tryd.prog 87 #[.pointer (some ⟨b, 0, none⟩), .int .u8 k] w fun e w' => (∃ v, e = .returned v) ∧ WB w' b (l ++ [c]) ∧ Keeps b w w' := by
  obtain ⟨i0, hi, hz0, hz1, hz2⟩ := info_parts infoByte
  go_enter Tryd.func87, Tryd.ntmps87
  go_wp2_with (go_at_call 85; refine (check_any b l _ h).mono ?_)
  rintro e w1 ⟨rfl, h1, hb1⟩
  obtain ⟨hB, v, hbk, hown, hne⟩ := h1
  have hlt : b < w1.heap.size := Lib.BuilderAt.lt ⟨hB, v, hbk, hown, hne⟩
  have c0 : w1.cell? ⟨b, 0, none⟩ = some (.pointer (some ⟨b, 0, none⟩)) := by rw [Lib.cell_of_heap hbk]; rfl
  have c1 : w1.cell? ⟨b, 1, none⟩ = some v := by rw [Lib.cell_of_heap hbk]; rfl
  have HB1 := Lib.hid hb1
  have HLL : Hid ((Lib.byteCells l).length = l.length) := Lib.byteCells_length l
  clear hb1
  go_wp2_with (at_builtin; refine wpList_append_own _ rfl _ _ 80 rfl b 5 i0 (.int .u8 0) 1 1 Tryd.underlying80 hi hz0 hz1 hz2 rfl (by decide) _ _ _ rfl (hown.alloc _) ⟨w1.heap.size, 0, none⟩ 1 1 [.int .u8 k] rfl rfl ?c1 ?c2 ?c3 ?c4 ?c5 ?_)
  case c1 => exact cell_new _ [.int .u8 k] _ rfl
  case c2 => intro u hu; simp at hu; subst hu; rfl
  case c3 => rw [HLL.out]; unfold maxLen; omega
  case c4 => rw [HLL.out]; omega
  case c5 => simp; omega
  intro v' w2 hown' hgrow _
  have hga := grown_of_below ((Below.refl w1.heap.size w1).alloc (Nat.le_refl _) (.cells #[.int .u8 k] 5)) none
  have hb2 : w2.heap[b]? = some (.cells #[.pointer (some ⟨b, 0, none⟩), v] 82 (0, 0)) := (hgrow.block b (by simp; omega) (fun e => hne e.symm)).trans ((hga.block b hlt (by simp)).trans hbk)
  have d0 : w2.cell? ⟨b, 0, none⟩ = some (.pointer (some ⟨b, 0, none⟩)) := by rw [Lib.cell_of_heap hb2]; rfl
  have d1 : w2.cell? ⟨b, 1, none⟩ = some v := by rw [Lib.cell_of_heap hb2]; rfl
  have f1 : w2.frozen? ⟨b, 1, none⟩ = false := Lib.frozen_of_heap hb2 1
  have HK : Hid (Keeps b w w2) := (HB1.out.trans (Keeps.of_grown hga (fun c e => by cases e))).trans (Keeps.of_grown hgrow (fun c e => .inr (rowType (hown.alloc _) c e)))
  obtain ⟨ao, n', cap, rfl⟩ : ∃ ao n' cap, v' = .slice ao n' cap := by
    rcases hown'.2 with ⟨hv, _⟩ | ⟨g, cap, cur, hv, _⟩
    · exact ⟨_, _, _, hv⟩
    · exact ⟨_, _, _, hv⟩
  go_wp2
  go_ret
  refine ⟨⟨_, rfl⟩, .inr ?_, HK.out.trans (Keeps.of_grown (grown_setCell w2 ⟨b, 1, none⟩ _) (fun c e => .inl (Option.some.inj e).symm))⟩
  rw [Lib.byteCells_append]
  refine Lib.BuilderAt.put (T := 82) (e := 5) hB hb2 ?_ (by decide)
  rw [List.length_append]
  have hk2 := hk.out
  subst hk2
  exact hown'
end Go.Proofs.YtgnjaneddidbbaaDoor
