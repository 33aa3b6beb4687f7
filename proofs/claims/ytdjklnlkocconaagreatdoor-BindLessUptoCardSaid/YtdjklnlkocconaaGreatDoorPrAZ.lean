/-
  strings.Builder, of the call's own: copyCheck, WriteString, WriteByte: the walks. What stands beside the builder is kept.
  deck.text: an expression's text into a builder. The state, and the leaves.
-/
import Derived.Test.YtdjklnlkocconaaGreatDoorGroundZ
import Derived.Test.YtdjklnlkocconaaGreatDoorShelf2
import Derived.Test.YtdjklnlkocconaaGreatDoorPlainZ
import Derived.Test.YtdjklnlkocconaaGreatDoorPaBZ
import Derived.Lib.Builder
import Derived.Lib.AppendStr
import Derived.Lib.UnsafeStr
namespace Go.Proofs.YtdjklnlkocconaaGreatDoor
open Go Go.RowKit

/-- A builder in block b, whatever its age, that holds bytes. -/
def WB (w : World) (b : Nat) (l : List UInt8) : Prop := Lib.IsBuilder 106 5 b b (Lib.byteCells l) w

/-- All stands as it stood, but the builder and rows of bytes behind it. -/
structure Keeps (b : Nat) (w w' : World) : Prop where
  os : w'.os = w.os
  tape : w'.tape = w.tape
  output : w'.output = w.output
  size : w.heap.size ≤ w'.heap.size
  block : ∀ k, k < w.heap.size → k ≠ b → (k < b ∨ ∀ cs fr, w.heap[k]? ≠ some (.cells cs 5 fr)) → w'.heap[k]? = w.heap[k]?

theorem Keeps.refl (b : Nat) (w : World) : Keeps b w w := ⟨rfl, rfl, rfl, Nat.le_refl _, fun _ _ _ _ => rfl⟩
theorem Keeps.trans {b : Nat} {x y z : World} (h : Keeps b x y) (k : Keeps b y z) : Keeps b x z :=
  ⟨k.os.trans h.os, k.tape.trans h.tape, k.output.trans h.output, Nat.le_trans h.size k.size, fun i hi hb ht => by
    have e := h.block i hi hb ht
    exact (k.block i (Nat.lt_of_lt_of_le hi h.size) hb (by rw [e]; exact ht)).trans e⟩
theorem Keeps.of_grown {b : Nat} {w w' : World} {row : Option Nat} (h : w.grownBy w' row) (hr : ∀ c, row = some c → c = b ∨ (b ≤ c ∧ ∃ cs fr, w.heap[c]? = some (.cells cs 5 fr))) : Keeps b w w' :=
  ⟨h.os, h.tape, h.output, h.size, fun k hk hb ht => h.block k hk (by
    intro e
    rcases hr k e.symm with h1 | ⟨h1, cs, fr, h2⟩
    · exact hb h1
    · rcases ht with h3 | h3
      · omega
      · exact h3 cs fr h2)⟩
theorem Keeps.below {b : Nat} {w w' : World} (h : Keeps b w w') : Below b w w' ∨ w.heap.size ≤ b := by
  rcases Nat.lt_or_ge b w.heap.size with hl | hl
  · exact .inl ⟨h.os, h.tape, h.output, h.size, fun k hk => h.block k (by omega) (by omega) (.inl hk)⟩
  · exact .inr hl

theorem infoByte : (Tryz.prog.info? 5).map (fun i => (i.zero, i.size, i.bytes)) = some (some (.int .u8 0), 1, 1) := by kernel_rfl
theorem sizeBuilder : (Tryz.prog.info? 106).map (·.size) = some 2 := by kernel_rfl

theorem rowType {w : World} {B : Nat} {e : TypeId} {size : Nat} {v : Value} {n : Nat} {xs : List Value} (h : w.ownsRow B e size v n xs) : ∀ c, v.ownBlock = some c → B ≤ c ∧ ∃ cs fr, w.heap[c]? = some (.cells cs e fr) := by
  intro c hc
  rcases h.2 with ⟨rfl, _⟩ | ⟨g, cap, cur, rfl, hB, hg, _⟩
  · cases hc
  · have : g = c := by simpa [Value.ownBlock] using hc
    subst this
    exact ⟨hB, cur, _, hg⟩

set_option maxHeartbeats 1000000 in
set_option maxRecDepth 100000 in
theorem check_used (b : Nat) (w : World) (h0 : w.cell? ⟨b, 0, none⟩ = some (.pointer (some ⟨b, 0, none⟩))) :
    Calls Tryz.prog 108 #[.pointer (some ⟨b, 0, none⟩)] w fun e w' => e = .returned (.tuple #[]) ∧ w' = w := by
  obtain ⟨j, hj, _⟩ := Option.map_eq_some_iff.1 sizeBuilder
  go_enter Tryz.func108, Tryz.ntmps108
  go_wp2
  rw [Lib.run_neq_ptr_same w _ Tryz.underlying103 hj]
  go_wp2
  go_end0
  exact ⟨rfl, rfl⟩

set_option maxHeartbeats 1000000 in
set_option maxRecDepth 100000 in
theorem check_fresh (b : Nat) (w : World) (h0 : w.cell? ⟨b, 0, none⟩ = some (.pointer none)) (hsh : w.shape? b = some (106, 2)) (hfz : w.frozen? ⟨b, 0, none⟩ = false) :
    Calls Tryz.prog 108 #[.pointer (some ⟨b, 0, none⟩)] w fun e w' => e = .returned (.tuple #[]) ∧ w' = w.setCell ⟨b, 0, none⟩ (.pointer (some ⟨b, 0, none⟩)) := by
  obtain ⟨j, hj, hjs⟩ := Option.map_eq_some_iff.1 sizeBuilder
  go_enter Tryz.func108, Tryz.ntmps108
  go_wp2
  rw [Lib.run_to_unsafe w ⟨b, 0, none⟩ Tryz.underlying103 Tryz.underlying160 hj (by rw [hjs]; decide) hsh (Nat.zero_lt_succ 1)]
  simp only [Result.andThen]
  rw [Oper.upon_value]
  go_wp2
  rw [run_callFunc_extern Tryz.func122 (by kernel_rfl) (by kernel_rfl) (by kernel_rfl) (e := Extern.AbiNoEscape.same) (by kernel_rfl)]
  rw [Lib.run_noEscape]
  simp only [Result.andThen]
  rw [Oper.upon_value]
  go_wp2
  rw [Lib.run_from_unsafe w ⟨b, 0, none⟩ Tryz.underlying160 Tryz.underlying103 hj hsh (by kernel_rfl)]
  simp only [Result.andThen]
  rw [Oper.upon_value]
  go_wp2
  go_end0
  exact ⟨rfl, rfl⟩

/-- Behind copyCheck: the builder bears its own address. -/
theorem check_any (b : Nat) (l : List UInt8) (w : World) (h : WB w b l) :
    Calls Tryz.prog 108 #[.pointer (some ⟨b, 0, none⟩)] w fun e w' => e = .returned (.tuple #[]) ∧ Lib.BuilderAt 106 5 b b (.pointer (some ⟨b, 0, none⟩)) (Lib.byteCells l) w' ∧ Keeps b w w' := by
  rcases h with h | h
  · refine (check_fresh b w h.cell0 h.shape h.frozen0).mono ?_
    rintro e w' ⟨rfl, rfl⟩
    exact ⟨rfl, h.used _, Keeps.of_grown (grown_setCell w ⟨b, 0, none⟩ _) (fun c e => .inl (Option.some.inj e).symm)⟩
  · refine (check_used b w h.cell0).mono ?_
    rintro e w' ⟨rfl, rfl⟩
    exact ⟨rfl, h, Keeps.refl _ _⟩

set_option maxHeartbeats 2000000 in
set_option maxRecDepth 100000 in
theorem writeString_any (b : Nat) (l : List UInt8) (s : ByteArray) (w : World) (h : WB w b l) (hlen : l.length + s.size ≤ 140737488355328) :
    Calls Tryz.prog 83 #[.pointer (some ⟨b, 0, none⟩), .string s] w fun e w' => (∃ v, e = .returned v) ∧ WB w' b (l ++ s.data.toList) ∧ Keeps b w w' := by
  obtain ⟨i0, hi, hz0, hz1, hz2⟩ := info_parts infoByte
  go_enter Tryz.func83, Tryz.ntmps83
  go_wp2_with (go_at_call 108; refine (check_any b l _ h).mono ?_)
  rintro e w1 ⟨rfl, h1, hb1⟩
  obtain ⟨hB, v, hbk, hown, hne⟩ := h1
  have hlt : b < w1.heap.size := Lib.BuilderAt.lt ⟨hB, v, hbk, hown, hne⟩
  have c0 : w1.cell? ⟨b, 0, none⟩ = some (.pointer (some ⟨b, 0, none⟩)) := by rw [Lib.cell_of_heap hbk]; rfl
  have c1 : w1.cell? ⟨b, 1, none⟩ = some v := by rw [Lib.cell_of_heap hbk]; rfl
  have HB1 := Lib.hid hb1
  have HLL : Hid ((Lib.byteCells l).length = l.length) := Lib.byteCells_length l
  clear hb1
  go_wp2_with (at_builtin; refine Lib.wpList_append_own_string _ rfl _ _ 104 9 rfl b 5 i0 Tryz.underlying104 Tryz.underlying9 hi hz0 hz1 hz2 _ _ _ rfl hown s rfl ?c3 ?c4 ?c5 ?_)
  case c3 => rw [HLL.out]; unfold maxLen; omega
  case c4 => rw [HLL.out]; omega
  case c5 => omega
  intro v' w2 hown' hgrow _
  have hb2 : w2.heap[b]? = some (.cells #[.pointer (some ⟨b, 0, none⟩), v] 106 (0, 0)) := (hgrow.block b hlt (fun e => hne e.symm)).trans hbk
  have d0 : w2.cell? ⟨b, 0, none⟩ = some (.pointer (some ⟨b, 0, none⟩)) := by rw [Lib.cell_of_heap hb2]; rfl
  have d1 : w2.cell? ⟨b, 1, none⟩ = some v := by rw [Lib.cell_of_heap hb2]; rfl
  have f1 : w2.frozen? ⟨b, 1, none⟩ = false := Lib.frozen_of_heap hb2 1
  have HK : Hid (Keeps b w w2) := HB1.out.trans (Keeps.of_grown hgrow (fun c e => .inr (rowType hown c e)))
  obtain ⟨ao, n', cap, rfl⟩ : ∃ ao n' cap, v' = .slice ao n' cap := by
    rcases hown'.2 with ⟨hv, _⟩ | ⟨g, cap, cur, hv, _⟩
    · exact ⟨_, _, _, hv⟩
    · exact ⟨_, _, _, hv⟩
  go_wp2
  go_ret2
  refine ⟨⟨_, rfl⟩, .inr ?_, HK.out.trans (Keeps.of_grown (grown_setCell w2 ⟨b, 1, none⟩ _) (fun c e => .inl (Option.some.inj e).symm))⟩
  rw [Lib.byteCells_append]
  refine Lib.BuilderAt.put (T := 106) (e := 5) hB hb2 ?_ (by decide)
  rw [List.length_append, ← Lib.strCells_eq, Lib.strCells_length]
  exact hown'

set_option maxHeartbeats 2000000 in
set_option maxRecDepth 100000 in
theorem writeByte_any (b : Nat) (l : List UInt8) (c : UInt8) (k : Int) (w : World) (h : WB w b l) (hk : Hid (k = c.toNat)) (hlen : l.length + 1 ≤ 140737488355328) :
    Calls Tryz.prog 110 #[.pointer (some ⟨b, 0, none⟩), .int .u8 k] w fun e w' => (∃ v, e = .returned v) ∧ WB w' b (l ++ [c]) ∧ Keeps b w w' := by
  obtain ⟨i0, hi, hz0, hz1, hz2⟩ := info_parts infoByte
  go_enter Tryz.func110, Tryz.ntmps110
  go_wp2_with (go_at_call 108; refine (check_any b l _ h).mono ?_)
  rintro e w1 ⟨rfl, h1, hb1⟩
  obtain ⟨hB, v, hbk, hown, hne⟩ := h1
  have hlt : b < w1.heap.size := Lib.BuilderAt.lt ⟨hB, v, hbk, hown, hne⟩
  have c0 : w1.cell? ⟨b, 0, none⟩ = some (.pointer (some ⟨b, 0, none⟩)) := by rw [Lib.cell_of_heap hbk]; rfl
  have c1 : w1.cell? ⟨b, 1, none⟩ = some v := by rw [Lib.cell_of_heap hbk]; rfl
  have HB1 := Lib.hid hb1
  have HLL : Hid ((Lib.byteCells l).length = l.length) := Lib.byteCells_length l
  clear hb1
  go_wp2_with (at_builtin; refine wpList_append_own _ rfl _ _ 104 rfl b 5 i0 (.int .u8 0) 1 1 Tryz.underlying104 hi hz0 hz1 hz2 rfl (by decide) _ _ _ rfl (hown.alloc _) ⟨w1.heap.size, 0, none⟩ 1 1 [.int .u8 k] rfl rfl ?c1 ?c2 ?c3 ?c4 ?c5 ?_)
  case c1 => exact cell_new _ [.int .u8 k] _ rfl
  case c2 => intro u hu; simp at hu; subst hu; rfl
  case c3 => rw [HLL.out]; unfold maxLen; omega
  case c4 => rw [HLL.out]; omega
  case c5 => simp; omega
  intro v' w2 hown' hgrow _
  have hga := grown_of_below ((Below.refl w1.heap.size w1).alloc (Nat.le_refl _) (.cells #[.int .u8 k] 5)) none
  have hb2 : w2.heap[b]? = some (.cells #[.pointer (some ⟨b, 0, none⟩), v] 106 (0, 0)) := (hgrow.block b (by simp; omega) (fun e => hne e.symm)).trans ((hga.block b hlt (by simp)).trans hbk)
  have d0 : w2.cell? ⟨b, 0, none⟩ = some (.pointer (some ⟨b, 0, none⟩)) := by rw [Lib.cell_of_heap hb2]; rfl
  have d1 : w2.cell? ⟨b, 1, none⟩ = some v := by rw [Lib.cell_of_heap hb2]; rfl
  have f1 : w2.frozen? ⟨b, 1, none⟩ = false := Lib.frozen_of_heap hb2 1
  have HK : Hid (Keeps b w w2) := (HB1.out.trans (Keeps.of_grown hga (fun c e => by cases e))).trans (Keeps.of_grown hgrow (fun c e => .inr (rowType (hown.alloc _) c e)))
  obtain ⟨ao, n', cap, rfl⟩ : ∃ ao n' cap, v' = .slice ao n' cap := by
    rcases hown'.2 with ⟨hv, _⟩ | ⟨g, cap, cur, hv, _⟩
    · exact ⟨_, _, _, hv⟩
    · exact ⟨_, _, _, hv⟩
  go_wp2
  go_ret
  refine ⟨⟨_, rfl⟩, .inr ?_, HK.out.trans (Keeps.of_grown (grown_setCell w2 ⟨b, 1, none⟩ _) (fun c e => .inl (Option.some.inj e).symm))⟩
  rw [Lib.byteCells_append]
  refine Lib.BuilderAt.put (T := 106) (e := 5) hB hb2 ?_ (by decide)
  rw [List.length_append]
  have hk2 := hk.out
  subst hk2
  exact hown'
end Go.Proofs.YtdjklnlkocconaaGreatDoor

namespace Go.Proofs.YtdjklnlkocconaaGreatDoor
open Go Go.RowKit

theorem WB.still {w w' : World} {b : Nat} {l : List UInt8} (h : WB w b l) (hg : w.grownBy w' none) : WB w' b l := by
  have key : ∀ p, Lib.BuilderAt 106 5 b b p (Lib.byteCells l) w → Lib.BuilderAt 106 5 b b p (Lib.byteCells l) w' := by
    intro p h
    have hlt := h.lt
    obtain ⟨hB, v, hbk, hown, hne⟩ := h
    refine ⟨hB, v, (hg.block b hlt (by simp)).trans hbk, hown.kept hg ?_, hne⟩
    cases v.ownBlock with
    | none => exact .inl rfl
    | some k => exact .inr (by simp)
  rcases h with h | h
  · exact .inl (key _ h)
  · exact .inr (key _ h)
theorem WB.lt {w : World} {b : Nat} {l : List UInt8} (h : WB w b l) : b < w.heap.size := by
  rcases h with h | h
  · exact h.lt
  · exact h.lt

theorem Blk3.keeps {w w' : World} {b g : Nat} {x y z : Value} (h : Blk3 w g x y z) (hk : Keeps b w w') (hn : g ≠ b) : Blk3 w' g x y z := by
  refine (hk.block g h.lt hn (.inr ?_)).trans h
  intro cs fr e
  have h2 : w.heap[g]? = some (.cells #[x, y, z] 37 (0, 0)) := h
  rw [h2] at e
  cases e
theorem NdIs.keeps {w w' : World} {b : Nat} {n : Nd} {v : Value} (h : NdIs (· < b) w n v) (hk : Keeps b w w') : NdIs (· < b) w' n v :=
  NdIs.kept hk.size (fun g hl ho => ⟨hk.block g hl (Nat.ne_of_lt ho) (.inl ho), ho⟩) n v h

/-- text at work: its parameter's box, the tree, the builder. -/
structure TS (w w' : World) (b : Nat) (l : List UInt8) (n : Nd) (k : Int) (s : ByteArray) (a : Option Addr) (m c : Nat) : Prop where
  wb : WB w' b l
  kp : Keeps b w w'
  hb : b < w.heap.size
  bx : Blk3 w' w.heap.size (.int .i64 k) (.string s) (.slice a m c)
  nd : NdIs (· < b) w' n (.agg #[.int .i64 k, .string s, .slice a m c])

theorem TS.start {w : World} {b : Nat} {l : List UInt8} {n : Nd} {k : Int} {s : ByteArray} {a : Option Addr} {m c : Nat} (h : WB w b l) (hn : NdIs (· < b) w n (.agg #[.int .i64 k, .string s, .slice a m c])) :
    TS w (w.alloc (.cells #[.int .i64 k, .string s, .slice a m c] 37)) b l n k s a m c :=
  ⟨h.still (grown_alloc _ _ _), Keeps.of_grown (grown_alloc _ _ none) (fun c e => by cases e), h.lt, Blk3.new _ _ _ _, hn.keeps (Keeps.of_grown (grown_alloc _ _ none) (fun c e => by cases e))⟩
theorem TS.next {w w' w'' : World} {b : Nat} {l l' : List UInt8} {n : Nd} {k : Int} {s : ByteArray} {a : Option Addr} {m c : Nat} (h : TS w w' b l n k s a m c) (hb : WB w'' b l') (hk : Keeps b w' w'') : TS w w'' b l' n k s a m c :=
  ⟨hb, h.kp.trans hk, h.hb, h.bx.keeps hk (by have := h.hb; omega), h.nd.keeps hk⟩

/-- What text does. -/
def TextC (n : Nd) : Prop := ∀ (level : Int) (b : Nat) (l : List UInt8) (v : Value) (w : World), WB w b l → NdIs (· < b) w n v → 0 ≤ level → level ≤ 2 → l.length + (textP n level).length ≤ 140737488355328 →
  Calls Tryz.prog 85 #[v, .pointer (some ⟨b, 0, none⟩), .int .i64 level] w fun e w' => e = .returned (.tuple #[]) ∧ WB w' b (l ++ textP n level) ∧ Keeps b w w'

set_option maxHeartbeats 1000000 in
set_option maxRecDepth 100000 in
theorem text_name (b : Nat) (l S : List UInt8) (n : Nd) (s : ByteArray) (a : Option Addr) (m c : Nat) (level : Int) (w : World) (hS : Hid (s.data.toList = S)) (h : WB w b l) (hn : NdIs (· < b) w n (.agg #[.int .i64 1, .string s, .slice a m c])) (hl : l.length + s.size ≤ 140737488355328) :
    Calls Tryz.prog 85 #[.agg #[.int .i64 1, .string s, .slice a m c], .pointer (some ⟨b, 0, none⟩), .int .i64 level] w fun e w' => e = .returned (.tuple #[]) ∧ WB w' b (l ++ S) ∧ Keeps b w w' := by
  have T0 := Lib.hid (TS.start h hn)
  clear h hn
  obtain ⟨k0, k1, k2, _, _, _⟩ := T0.out.bx.cells
  go_enter Tryz.func85, Tryz.ntmps85
  go_wp2_with fail
  refine (writeString_any b l s _ T0.out.wb hl).mono ?_
  rintro e w1 ⟨⟨v, rfl⟩, hw, hk⟩
  have T1 := Lib.hid (T0.out.next hw hk)
  clear hw hk T0 k0 k1 k2
  go_wp2
  first | go_end0 | refine bodyPost_ret (results_none rfl _ _ _) rfl ?_
  exact ⟨rfl, by rw [← hS.out]; exact T1.out.wb, T1.out.kp⟩

set_option maxHeartbeats 1000000 in
set_option maxRecDepth 100000 in
theorem text_empty (b : Nat) (l : List UInt8) (n : Nd) (s : ByteArray) (a : Option Addr) (m c : Nat) (level : Int) (w : World) (h : WB w b l) (hn : NdIs (· < b) w n (.agg #[.int .i64 2, .string s, .slice a m c])) (hl : l.length + 5 ≤ 140737488355328) :
    Calls Tryz.prog 85 #[.agg #[.int .i64 2, .string s, .slice a m c], .pointer (some ⟨b, 0, none⟩), .int .i64 level] w fun e w' => e = .returned (.tuple #[]) ∧ WB w' b (l ++ w_empty) ∧ Keeps b w w' := by
  have T0 := Lib.hid (TS.start h hn)
  clear h hn
  obtain ⟨k0, k1, k2, _, _, _⟩ := T0.out.bx.cells
  go_enter Tryz.func85, Tryz.ntmps85
  go_wp2_with fail
  refine (writeString_any b l (bs w_empty) _ T0.out.wb hl).mono ?_
  rintro e w1 ⟨⟨v, rfl⟩, hw, hk⟩
  have T1 := Lib.hid (T0.out.next hw hk)
  clear hw hk T0 k0 k1 k2
  go_wp2
  first | go_end0 | refine bodyPost_ret (results_none rfl _ _ _) rfl ?_
  exact ⟨rfl, T1.out.wb, T1.out.kp⟩

set_option maxHeartbeats 1000000 in
set_option maxRecDepth 100000 in
theorem text_boxes (b : Nat) (l S : List UInt8) (n : Nd) (s : ByteArray) (a : Option Addr) (m c : Nat) (level : Int) (w : World) (hS : Hid (S = [98, 111, 120, 101, 115, 32] ++ s.data.toList)) (h : WB w b l) (hn : NdIs (· < b) w n (.agg #[.int .i64 3, .string s, .slice a m c])) (hl : l.length + (6 + s.size) ≤ 140737488355328) :
    Calls Tryz.prog 85 #[.agg #[.int .i64 3, .string s, .slice a m c], .pointer (some ⟨b, 0, none⟩), .int .i64 level] w fun e w' => e = .returned (.tuple #[]) ∧ WB w' b (l ++ S) ∧ Keeps b w w' := by
  have T0 := Lib.hid (TS.start h hn)
  clear h hn
  obtain ⟨k0, k1, k2, _, _, _⟩ := T0.out.bx.cells
  have hs : s.size ≤ 140737488355328 := by omega
  go_enter Tryz.func85, Tryz.ntmps85
  go_wp2_with fail
  refine (writeString_any b l (bs [98, 111, 120, 101, 115, 32] ++ s) _ T0.out.wb ?_).mono ?_
  · rw [ByteArray.size_append]
    exact hl
  rintro e w1 ⟨⟨v, rfl⟩, hw, hk⟩
  have T1 := Lib.hid (T0.out.next hw hk)
  clear hw hk T0 k0 k1 k2
  go_wp2
  first | go_end0 | refine bodyPost_ret (results_none rfl _ _ _) rfl ?_
  refine ⟨rfl, ?_, T1.out.kp⟩
  have h1 := T1.out.wb
  rw [Joins.data_append] at h1
  rw [hS.out]
  exact h1
end Go.Proofs.YtdjklnlkocconaaGreatDoor
