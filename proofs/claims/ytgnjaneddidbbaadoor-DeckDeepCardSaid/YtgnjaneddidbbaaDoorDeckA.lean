/-
  The parser's small functions: the walks.
-/
import Derived.Test.YtgnjaneddidbbaaDoorLexKnown
import Derived.Test.YtgnjaneddidbbaaDoorDeckSpec
import Derived.Test.YtgnjaneddidbbaaDoorShelf2
import Derived.Deep.QuietTactic
import Derived.BigQuiet
import Derived.RegionDies
namespace Go.Proofs.YtgnjaneddidbbaaDoor
open Go Go.RowKit

/-- A row of tokens in memory. -/
def TokRow (w : World) (lv : Value) (ts : List Tok) : Prop :=
  ts.length ≤ 9223372036854775807 ∧ ∃ a cap, lv = .slice a ts.length cap ∧ (ts = [] ∨ ∃ g, a = some ⟨g, 0, none⟩ ∧ g < w.heap.size ∧ ∀ j u, (ts.flatMap tokCells)[j]? = some u → w.cell? ⟨g, j, none⟩ = some u)

/-- The parser's own cells: the row, the place, the end's place, how deep. -/
def PS (w : World) (b : Nat) (lv : Value) (at_ fin deep : Int) : Prop :=
  w.heap[b]? = some (.cells #[lv, .int .i64 at_, .int .i64 fin, .int .i64 deep] 68 (0, 0))

theorem PS.cells {w : World} {b : Nat} {lv : Value} {at_ fin deep : Int} (h : PS w b lv at_ fin deep) : w.cell? ⟨b, 0, none⟩ = some lv ∧ w.cell? ⟨b, 1, none⟩ = some (.int .i64 at_) ∧ w.cell? ⟨b, 2, none⟩ = some (.int .i64 fin) ∧ w.cell? ⟨b, 3, none⟩ = some (.int .i64 deep) ∧
    w.frozen? ⟨b, 1, none⟩ = false ∧ w.frozen? ⟨b, 3, none⟩ = false := by
  unfold PS at h
  refine ⟨?_, ?_, ?_, ?_, ?_, ?_⟩ <;> simp [World.cell?, World.frozen?, h]

theorem tok_cell (ts : List Tok) : ∀ (i : Nat) (t : Tok) (f : Nat) (u : Value), ts[i]? = some t → (tokCells t)[f]? = some u → (ts.flatMap tokCells)[i * 4 + f]? = some u := by
  induction ts with
  | nil => intro i t f u h; simp at h
  | cons x ts ih =>
    intro i t f u h hf
    have hf4 : f < 4 := (List.getElem?_eq_some_iff.1 hf).1
    cases i with
    | zero =>
      obtain rfl : x = t := by simpa using h
      rw [List.flatMap_cons, List.getElem?_append_left (by simp [tokCells]; omega)]
      simpa using hf
    | succ i =>
      have := ih i t f u (by simpa using h) hf
      rw [List.flatMap_cons, List.getElem?_append_right (by simp [tokCells]; omega), ← this]
      congr 1
      simp [tokCells]
      omega

/-- What a failing reading throws. -/
def Thrown (p : Int) (e : Ending) : Prop := e = .panicked [{ v := .iface 62 (.agg #[.int .i64 p]), recovered := false }]

set_option maxHeartbeats 1000000 in
theorem fail_in (b g n cap k : Nat) (fin deep p : Int) (w : World) (hs : PS w b (.slice (some ⟨g, 0, none⟩) n cap) k fin deep) (hk : k < n)
    (hc : w.cell? ⟨g, k * 4 + 3, none⟩ = some (.int .i64 p)) :
    Calls Tryd.prog 30 #[.pointer (some ⟨b, 0, none⟩)] w fun e w' => Thrown p e ∧ ∃ q, w' = w.drewN q := by
  obtain ⟨c0, c1, c2, c3, _, _⟩ := hs.cells
  clear hs c3
  go_enter Tryd.func30, Tryd.ntmps30
  go_wp2
  go_quiet (fail)
  go_wp2
  go_region_dies
  all_goals exact ⟨rfl, rfl, ⟨_, rfl⟩⟩

set_option maxHeartbeats 1000000 in
theorem fail_out (b n cap k : Nat) (a : Option Addr) (fin deep : Int) (w : World) (hs : PS w b (.slice a n cap) k fin deep) (hk : n ≤ k) :
    Calls Tryd.prog 30 #[.pointer (some ⟨b, 0, none⟩)] w fun e w' => Thrown fin e ∧ ∃ q, w' = w.drewN q := by
  obtain ⟨c0, c1, c2, c3, _, _⟩ := hs.cells
  clear hs c3
  go_enter Tryd.func30, Tryd.ntmps30
  go_wp2
  go_quiet (fail)
  go_wp2
  exact ⟨rfl, rfl, ⟨_, rfl⟩⟩

/-- The place at which a reading that fails at token k gives up. -/
def failPos (ts : List Tok) (k : Nat) (fin : Int) : Int := match ts[k]? with | some t => t.pos | none => fin

theorem fail_any (b k : Nat) (lv : Value) (ts : List Tok) (fin deep : Int) (w : World) (hs : PS w b lv k fin deep) (hr : TokRow w lv ts) :
    Calls Tryd.prog 30 #[.pointer (some ⟨b, 0, none⟩)] w fun e w' => Thrown (failPos ts k fin) e ∧ ∃ q, w' = w.drewN q := by
  obtain ⟨_, a, cap, rfl, h⟩ := hr
  unfold failPos
  by_cases hk : k < ts.length
  · rcases h with rfl | ⟨g, rfl, _, hc⟩
    · simp at hk
    · have ht : ts[k]? = some ts[k] := List.getElem?_eq_getElem hk
      rw [ht]
      exact fail_in b g ts.length cap k fin deep _ w hs hk (hc _ _ (tok_cell ts k _ 3 _ ht rfl))
  · rw [List.getElem?_eq_none (by omega)]
    exact fail_out b ts.length cap k a fin deep w hs (by omega)

/-- A row of texts in memory. -/
def TxtRow (w : World) (v : Value) (xs : List (List UInt8)) : Prop :=
  ∃ tb cap, v = .slice (some ⟨tb, 0, none⟩) xs.length cap ∧ xs.length ≤ 9223372036854775807 ∧ ∀ j (hj : j < xs.length), w.cell? ⟨tb, j, none⟩ = some (.string (bs xs[j]))

/-- Does the next token, a word or a sign, have one of these texts? -/
def seesB (ts : List Tok) (k : Nat) (xs : List (List UInt8)) : Bool := match ts[k]? with | some t => t.kind != 2 && xs.contains t.text | none => false

theorem bs_inj {l r : List UInt8} : bs l = bs r ↔ l = r := by
  constructor
  · intro h
    have := congrArg (fun x : ByteArray => x.data.toList) h
    simpa [bs] using this
  · intro h; rw [h]

theorem containsS_bs (xs : List (List UInt8)) (t : List UInt8) : Lib.containsS (xs.map bs) (bs t) = xs.contains t := by
  rw [Bool.eq_iff_iff, Lib.containsS_iff]
  simp only [List.mem_map, bs_inj, exists_eq_right, List.contains_iff_mem]

set_option maxHeartbeats 1000000 in
set_option maxRecDepth 100000 in
theorem sees_in (b g n cap k : Nat) (fin deep : Int) (t : Tok) (tv : Value) (xs : List (List UInt8)) (w : World) (hs : PS w b (.slice (some ⟨g, 0, none⟩) n cap) k fin deep) (hk : k < n)
    (h0 : w.cell? ⟨g, k * 4, none⟩ = some (.int .i64 t.kind)) (h1 : w.cell? ⟨g, k * 4 + 1, none⟩ = some (.string (bs t.text))) (hx : TxtRow w tv xs) :
    Calls Tryd.prog 47 #[.pointer (some ⟨b, 0, none⟩), tv] w fun e w' => e = .returned (.bool (t.kind != 2 && xs.contains t.text)) ∧ ∃ q, w' = w.drewN q := by
  obtain ⟨c0, c1, c2, c3, _, _⟩ := hs.cells
  obtain ⟨tb, tc, rfl, hxl, hxc⟩ := hx
  have hcon : ∀ w', (∀ j, j < (xs.map bs).length → World.cell? w' ⟨tb, 0 + j, none⟩ = some (.string ((xs.map bs).getD j ByteArray.empty))) →
      Calls Tryd.prog 80 #[.slice (some ⟨tb, 0, none⟩) xs.length tc, .string (bs t.text)] w' fun e w'' => e = .returned (.bool (xs.contains t.text)) ∧ w'' = w' := by
    intro w' h
    have := Tryd.slices_Contains_string tb 0 xs.length tc (xs.map bs) (bs t.text) w' (by simp) hxl h
    rwa [show (xs.map bs).take xs.length = xs.map bs from List.take_of_length_le (by simp), containsS_bs] at this
  have HCON := Lib.hid hcon
  have HXC := Lib.hid hxc
  clear hs c2 c3 hcon hxc
  cases h2 : (t.kind != 2)
  · go_enter Tryd.func47, Tryd.ntmps47
    go_wp2_with fail
    go_quiet (fail)
    go_wp2
    go_ret
    exact ⟨rfl, _, rfl⟩
  · go_enter Tryd.func47, Tryd.ntmps47
    go_wp2_with fail
    go_quiet ((go_at_call 80; exact Calls.quiet_of_same (HCON.out _ (by intro j hj; simp at hj; have := HXC.out j hj; simpa [hj] using this))))
    go_wp2
    go_ret
    exact ⟨ret_bool (by simp), _, rfl⟩

set_option maxHeartbeats 1000000 in
set_option maxRecDepth 100000 in
theorem sees_out (b n cap k : Nat) (a : Option Addr) (fin deep : Int) (tv : Value) (w : World) (hs : PS w b (.slice a n cap) k fin deep) (hk : n ≤ k) :
    Calls Tryd.prog 47 #[.pointer (some ⟨b, 0, none⟩), tv] w fun e w' => e = .returned (.bool false) ∧ ∃ q, w' = w.drewN q := by
  obtain ⟨c0, c1, c2, c3, _, _⟩ := hs.cells
  have hd1 : decide (k < n) = false := by simp; omega
  have hd2 : decide ((k : Int) < (n : Int)) = false := by simp; omega
  clear hs c2 c3
  go_enter Tryd.func47, Tryd.ntmps47
  go_wp2_with fail
  go_quiet (fail)
  go_wp2
  go_ret
  exact ⟨rfl, _, rfl⟩

theorem sees_any (b k : Nat) (lv : Value) (ts : List Tok) (fin deep : Int) (tv : Value) (xs : List (List UInt8)) (w : World) (hs : PS w b lv k fin deep) (hr : TokRow w lv ts) (hx : TxtRow w tv xs) :
    Calls Tryd.prog 47 #[.pointer (some ⟨b, 0, none⟩), tv] w fun e w' => e = .returned (.bool (seesB ts k xs)) ∧ ∃ q, w' = w.drewN q := by
  obtain ⟨_, a, cap, rfl, h⟩ := hr
  unfold seesB
  by_cases hk : k < ts.length
  · rcases h with rfl | ⟨g, rfl, _, hc⟩
    · simp at hk
    · have ht : ts[k]? = some ts[k] := List.getElem?_eq_getElem hk
      rw [ht]
      exact sees_in b g ts.length cap k fin deep ts[k] tv xs w hs hk (hc _ _ (tok_cell ts k _ 0 _ ht rfl)) (hc _ _ (tok_cell ts k _ 1 _ ht rfl)) hx
  · rw [List.getElem?_eq_none (by omega)]
    exact sees_out b ts.length cap k a fin deep tv w hs (by omega)

/-- The world behind a call that moves the parser: its own block alone has turned. -/
theorem PS.set {w : World} {b : Nat} {lv : Value} {k fin deep : Int} (h : PS w b lv k fin deep) (k' : Int) : PS (w.setCell ⟨b, 1, none⟩ (.int .i64 k')) b lv k' fin deep := by
  unfold PS at h ⊢
  simp [World.setCell, Array.getElem?_modify, h]
theorem PS.setDeep {w : World} {b : Nat} {lv : Value} {k fin deep : Int} (h : PS w b lv k fin deep) (d' : Int) : PS (w.setCell ⟨b, 3, none⟩ (.int .i64 d')) b lv k fin d' := by
  unfold PS at h ⊢
  simp [World.setCell, Array.getElem?_modify, h]

set_option maxHeartbeats 1000000 in
set_option maxRecDepth 100000 in
theorem take_any (b g n cap k : Nat) (fin deep : Int) (x : List UInt8) (w : World) (hs : PS w b (.slice (some ⟨g, 0, none⟩) n cap) k fin deep) (hk : k < n) (hn : n ≤ 9223372036854775807) (hgb : g ≠ b)
    (h1 : w.cell? ⟨g, k * 4 + 1, none⟩ = some (.string (bs x))) :
    Calls Tryd.prog 48 #[.pointer (some ⟨b, 0, none⟩)] w fun e w' => e = .returned (.string (bs x)) ∧ ∃ q, w' = (w.setCell ⟨b, 1, none⟩ (.int .i64 ((k : Int) + 1))).drewN q := by
  obtain ⟨c0, c1, c2, c3, f1, _⟩ := hs.cells
  clear hs c2 c3
  go_enter Tryd.func48, Tryd.ntmps48
  go_wp2_with fail
  go_quiet (fail)
  go_wp2
  go_ret
  exact ⟨rfl, _, rfl⟩
end Go.Proofs.YtgnjaneddidbbaaDoor
