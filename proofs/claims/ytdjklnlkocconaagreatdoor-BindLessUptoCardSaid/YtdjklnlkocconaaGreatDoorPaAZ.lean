/-
  The parser's small functions: the walks.
  rules, taken: the walks.
  The parser's name and number: the walks.
  The parser's state in memory, what a reading comes to, and trees of nodes in memory. No walk.
  The parser's name, number, must: the walks, whatever the tokens.
  The parser's name where it fails: the walks.
  The parser's name and number, whatever the tokens: the walks.
-/
import Derived.Test.YtdjklnlkocconaaGreatDoorLexKnownZ
import Derived.Test.YtdjklnlkocconaaGreatDoorPlainZ
import Derived.Test.YtdjklnlkocconaaGreatDoorShelf2
import Derived.Deep.QuietTactic
import Derived.BigQuiet
import Derived.RegionDies
import Derived.Deep.RegionHeld3
import Derived.StillTailTactics
namespace Go.Proofs.YtdjklnlkocconaaGreatDoor
open Go Go.RowKit

/-- A row of tokens in memory. -/
def TokRow (w : World) (lv : Value) (ts : List Tok) : Prop :=
  ts.length ≤ 9223372036854775807 ∧ ∃ a cap, lv = .slice a ts.length cap ∧ (ts = [] ∨ ∃ g, a = some ⟨g, 0, none⟩ ∧ g < w.heap.size ∧ ∀ j u, (ts.flatMap tokCells)[j]? = some u → w.cell? ⟨g, j, none⟩ = some u)

/-- The parser's own cells: the row, the place, the end's place, how deep. -/
def PS (w : World) (b : Nat) (lv : Value) (at_ fin deep : Int) : Prop :=
  w.heap[b]? = some (.cells #[lv, .int .i64 at_, .int .i64 fin, .int .i64 deep] 76 (0, 0))

theorem PS.cells {w : World} {b : Nat} {lv : Value} {at_ fin deep : Int} (h : PS w b lv at_ fin deep) : w.cell? ⟨b, 0, none⟩ = some lv ∧ w.cell? ⟨b, 1, none⟩ = some (.int .i64 at_) ∧ w.cell? ⟨b, 2, none⟩ = some (.int .i64 fin) ∧ w.cell? ⟨b, 3, none⟩ = some (.int .i64 deep) ∧
    w.frozen? ⟨b, 1, none⟩ = false ∧ w.frozen? ⟨b, 3, none⟩ = false := by
  unfold PS at h
  refine ⟨?_, ?_, ?_, ?_, ?_, ?_⟩ <;> simp [World.cell?, World.frozen?, h]

theorem tok_cell (ts : List Tok) : ∀ (i : Nat) (t : Tok) (f : Nat) (u : Value), ts[i]? = some t → (tokCells t)[f]? = some u → (ts.flatMap tokCells)[i * 4 + f]? = some u := by
  induction ts with
  | nil => intro i t f u h; simp at h
  | cons x ts ih =>
    intro i t f u h hf
    have hf4 : f < 4 := (List.getElem?_eq_some_iff.1 hf).1
    cases i with
    | zero =>
      obtain rfl : x = t := by simpa using h
      rw [List.flatMap_cons, List.getElem?_append_left (by simp [tokCells]; omega)]
      simpa using hf
    | succ i =>
      have := ih i t f u (by simpa using h) hf
      rw [List.flatMap_cons, List.getElem?_append_right (by simp [tokCells]; omega), ← this]
      congr 1
      simp [tokCells]
      omega

/-- What a failing reading throws. -/
def Thrown (p : Int) (e : Ending) : Prop := e = .panicked [{ v := .iface 70 (.agg #[.int .i64 p]), recovered := false }]

set_option maxHeartbeats 1000000 in
theorem fail_in (b g n cap k : Nat) (fin deep p : Int) (w : World) (hs : PS w b (.slice (some ⟨g, 0, none⟩) n cap) k fin deep) (hk : k < n)
    (hc : w.cell? ⟨g, k * 4 + 3, none⟩ = some (.int .i64 p)) :
    Calls Tryz.prog 35 #[.pointer (some ⟨b, 0, none⟩)] w fun e w' => Thrown p e ∧ ∃ q, w' = w.drewN q := by
  obtain ⟨c0, c1, c2, c3, _, _⟩ := hs.cells
  clear hs c3
  go_enter Tryz.func35, Tryz.ntmps35
  go_wp2
  go_quiet (fail)
  go_wp2
  go_region_dies
  all_goals exact ⟨rfl, rfl, ⟨_, rfl⟩⟩

set_option maxHeartbeats 1000000 in
theorem fail_out (b n cap k : Nat) (a : Option Addr) (fin deep : Int) (w : World) (hs : PS w b (.slice a n cap) k fin deep) (hk : n ≤ k) :
    Calls Tryz.prog 35 #[.pointer (some ⟨b, 0, none⟩)] w fun e w' => Thrown fin e ∧ ∃ q, w' = w.drewN q := by
  obtain ⟨c0, c1, c2, c3, _, _⟩ := hs.cells
  clear hs c3
  go_enter Tryz.func35, Tryz.ntmps35
  go_wp2
  go_quiet (fail)
  go_wp2
  exact ⟨rfl, rfl, ⟨_, rfl⟩⟩

/-- The place at which a reading that fails at token k gives up. -/
def failPos (ts : List Tok) (k : Nat) (fin : Int) : Int := match ts[k]? with | some t => t.pos | none => fin

theorem fail_any (b k : Nat) (lv : Value) (ts : List Tok) (fin deep : Int) (w : World) (hs : PS w b lv k fin deep) (hr : TokRow w lv ts) :
    Calls Tryz.prog 35 #[.pointer (some ⟨b, 0, none⟩)] w fun e w' => Thrown (failPos ts k fin) e ∧ ∃ q, w' = w.drewN q := by
  obtain ⟨_, a, cap, rfl, h⟩ := hr
  unfold failPos
  by_cases hk : k < ts.length
  · rcases h with rfl | ⟨g, rfl, _, hc⟩
    · simp at hk
    · have ht : ts[k]? = some ts[k] := List.getElem?_eq_getElem hk
      rw [ht]
      exact fail_in b g ts.length cap k fin deep _ w hs hk (hc _ _ (tok_cell ts k _ 3 _ ht rfl))
  · rw [List.getElem?_eq_none (by omega)]
    exact fail_out b ts.length cap k a fin deep w hs (by omega)

/-- A row of texts in memory. -/
def TxtRow (w : World) (v : Value) (xs : List (List UInt8)) : Prop :=
  ∃ tb cap, v = .slice (some ⟨tb, 0, none⟩) xs.length cap ∧ xs.length ≤ 9223372036854775807 ∧ ∀ j (hj : j < xs.length), w.cell? ⟨tb, j, none⟩ = some (.string (bs xs[j]))

/-- Does the next token, a word or a sign, have one of these texts? -/
def seesB (ts : List Tok) (k : Nat) (xs : List (List UInt8)) : Bool := match ts[k]? with | some t => t.kind != 2 && xs.contains t.text | none => false

theorem bs_inj {l r : List UInt8} : bs l = bs r ↔ l = r := by
  constructor
  · intro h
    have := congrArg (fun x : ByteArray => x.data.toList) h
    simpa [bs] using this
  · intro h; rw [h]

theorem containsS_bs (xs : List (List UInt8)) (t : List UInt8) : Lib.containsS (xs.map bs) (bs t) = xs.contains t := by
  rw [Bool.eq_iff_iff, Lib.containsS_iff]
  simp only [List.mem_map, bs_inj, exists_eq_right, List.contains_iff_mem]

set_option maxHeartbeats 1000000 in
set_option maxRecDepth 100000 in
theorem sees_in (b g n cap k : Nat) (fin deep : Int) (t : Tok) (tv : Value) (xs : List (List UInt8)) (w : World) (hs : PS w b (.slice (some ⟨g, 0, none⟩) n cap) k fin deep) (hk : k < n)
    (h0 : w.cell? ⟨g, k * 4, none⟩ = some (.int .i64 t.kind)) (h1 : w.cell? ⟨g, k * 4 + 1, none⟩ = some (.string (bs t.text))) (hx : TxtRow w tv xs) :
    Calls Tryz.prog 54 #[.pointer (some ⟨b, 0, none⟩), tv] w fun e w' => e = .returned (.bool (t.kind != 2 && xs.contains t.text)) ∧ ∃ q, w' = w.drewN q := by
  obtain ⟨c0, c1, c2, c3, _, _⟩ := hs.cells
  obtain ⟨tb, tc, rfl, hxl, hxc⟩ := hx
  have hcon : ∀ w', (∀ j, j < (xs.map bs).length → World.cell? w' ⟨tb, 0 + j, none⟩ = some (.string ((xs.map bs).getD j ByteArray.empty))) →
      Calls Tryz.prog 32 #[.slice (some ⟨tb, 0, none⟩) xs.length tc, .string (bs t.text)] w' fun e w'' => e = .returned (.bool (xs.contains t.text)) ∧ w'' = w' := by
    intro w' h
    have := Tryz.slices_Contains_string tb 0 xs.length tc (xs.map bs) (bs t.text) w' (by simp) hxl h
    rwa [show (xs.map bs).take xs.length = xs.map bs from List.take_of_length_le (by simp), containsS_bs] at this
  have HCON := Lib.hid hcon
  have HXC := Lib.hid hxc
  clear hs c2 c3 hcon hxc
  cases h2 : (t.kind != 2)
  · go_enter Tryz.func54, Tryz.ntmps54
    go_wp2_with fail
    go_quiet (fail)
    go_wp2
    go_ret
    exact ⟨rfl, _, rfl⟩
  · go_enter Tryz.func54, Tryz.ntmps54
    go_wp2_with fail
    go_quiet ((go_at_call 32; exact Calls.quiet_of_same (HCON.out _ (by intro j hj; simp at hj; have := HXC.out j hj; simpa [hj] using this))))
    go_wp2
    go_ret
    exact ⟨ret_bool (by simp), _, rfl⟩

set_option maxHeartbeats 1000000 in
set_option maxRecDepth 100000 in
theorem sees_out (b n cap k : Nat) (a : Option Addr) (fin deep : Int) (tv : Value) (w : World) (hs : PS w b (.slice a n cap) k fin deep) (hk : n ≤ k) :
    Calls Tryz.prog 54 #[.pointer (some ⟨b, 0, none⟩), tv] w fun e w' => e = .returned (.bool false) ∧ ∃ q, w' = w.drewN q := by
  obtain ⟨c0, c1, c2, c3, _, _⟩ := hs.cells
  have hd1 : decide (k < n) = false := by simp; omega
  have hd2 : decide ((k : Int) < (n : Int)) = false := by simp; omega
  clear hs c2 c3
  go_enter Tryz.func54, Tryz.ntmps54
  go_wp2_with fail
  go_quiet (fail)
  go_wp2
  go_ret
  exact ⟨rfl, _, rfl⟩

theorem sees_any (b k : Nat) (lv : Value) (ts : List Tok) (fin deep : Int) (tv : Value) (xs : List (List UInt8)) (w : World) (hs : PS w b lv k fin deep) (hr : TokRow w lv ts) (hx : TxtRow w tv xs) :
    Calls Tryz.prog 54 #[.pointer (some ⟨b, 0, none⟩), tv] w fun e w' => e = .returned (.bool (seesB ts k xs)) ∧ ∃ q, w' = w.drewN q := by
  obtain ⟨_, a, cap, rfl, h⟩ := hr
  unfold seesB
  by_cases hk : k < ts.length
  · rcases h with rfl | ⟨g, rfl, _, hc⟩
    · simp at hk
    · have ht : ts[k]? = some ts[k] := List.getElem?_eq_getElem hk
      rw [ht]
      exact sees_in b g ts.length cap k fin deep ts[k] tv xs w hs hk (hc _ _ (tok_cell ts k _ 0 _ ht rfl)) (hc _ _ (tok_cell ts k _ 1 _ ht rfl)) hx
  · rw [List.getElem?_eq_none (by omega)]
    exact sees_out b ts.length cap k a fin deep tv w hs (by omega)

/-- The world behind a call that moves the parser: its own block alone has turned. -/
theorem PS.set {w : World} {b : Nat} {lv : Value} {k fin deep : Int} (h : PS w b lv k fin deep) (k' : Int) : PS (w.setCell ⟨b, 1, none⟩ (.int .i64 k')) b lv k' fin deep := by
  unfold PS at h ⊢
  simp [World.setCell, Array.getElem?_modify, h]
theorem PS.setDeep {w : World} {b : Nat} {lv : Value} {k fin deep : Int} (h : PS w b lv k fin deep) (d' : Int) : PS (w.setCell ⟨b, 3, none⟩ (.int .i64 d')) b lv k fin d' := by
  unfold PS at h ⊢
  simp [World.setCell, Array.getElem?_modify, h]

set_option maxHeartbeats 1000000 in
set_option maxRecDepth 100000 in
theorem take_any (b g n cap k : Nat) (fin deep : Int) (x : List UInt8) (w : World) (hs : PS w b (.slice (some ⟨g, 0, none⟩) n cap) k fin deep) (hk : k < n) (hn : n ≤ 9223372036854775807) (hgb : g ≠ b)
    (h1 : w.cell? ⟨g, k * 4 + 1, none⟩ = some (.string (bs x))) :
    Calls Tryz.prog 55 #[.pointer (some ⟨b, 0, none⟩)] w fun e w' => e = .returned (.string (bs x)) ∧ ∃ q, w' = (w.setCell ⟨b, 1, none⟩ (.int .i64 ((k : Int) + 1))).drewN q := by
  obtain ⟨c0, c1, c2, c3, f1, _⟩ := hs.cells
  clear hs c2 c3
  go_enter Tryz.func55, Tryz.ntmps55
  go_wp2_with fail
  go_quiet (fail)
  go_wp2
  go_ret
  exact ⟨rfl, _, rfl⟩
end Go.Proofs.YtdjklnlkocconaaGreatDoor

namespace Go.Proofs.YtdjklnlkocconaaGreatDoor
open Go Go.RowKit

def rulesL : List (List UInt8) := [w_width, w_space, w_notch, w_apart, w_around, w_over]
def othersL : List (List UInt8) := [w_input, w_let, w_check, w_small, w_write, w_snap, w_and, w_or, w_not, w_xor, w_empty, w_boxes]
theorem takenL_eq : takenL = rulesL ++ othersL := rfl

def txts (l : List (List UInt8)) : Obj := .cells (l.map fun s => Value.string (bs s)).toArray 9

set_option maxHeartbeats 1000000 in
set_option maxRecDepth 100000 in
theorem rules_any (w : World) :
    Calls Tryz.prog 61 #[] w fun e w' => e = .returned (.slice (some ⟨w.heap.size, 0, none⟩) 6 6) ∧ w' = w.alloc (txts rulesL) := by
  go_enter Tryz.func61, Tryz.ntmps61
  go_wp2
  go_ret
  exact ⟨rfl, rfl⟩

theorem contains_any (b n c : Nat) (l : List (List UInt8)) (x : List UInt8) (w : World) (hn : l.length = n) (hl : n ≤ 9223372036854775807) (hc : w.heap[b]? = some (txts l)) :
    Calls Tryz.prog 32 #[.slice (some ⟨b, 0, none⟩) n c, .string (bs x)] w fun e w' => e = .returned (.bool (l.contains x)) ∧ w = w' := by
  have := Tryz.slices_Contains_string b 0 n c (l.map bs) (bs x) w (by simp [hn]) hl (by
    intro j hj
    simp at hj
    have h1 : w.cell? ⟨b, 0 + j, none⟩ = ((l.map fun s => Value.string (bs s)).toArray)[j]? := by
      simp [World.cell?, hc, txts]
    rw [h1]
    simp [hj])
  rw [show (l.map bs).take n = l.map bs from List.take_of_length_le (by simp [hn]), containsS_bs] at this
  exact this.mono fun _ _ ⟨he, hw⟩ => ⟨he, hw.symm⟩

theorem contains_is (b n c : Nat) (l : List (List UInt8)) (x : List UInt8) (r : Bool) (w : World) (hr : Hid (l.contains x = r)) (hn : l.length = n) (hl : n ≤ 9223372036854775807) (hc : w.heap[b]? = some (txts l)) :
    Calls Tryz.prog 32 #[.slice (some ⟨b, 0, none⟩) n c, .string (bs x)] w fun e w' => e = .returned (.bool r) ∧ w = w' := by
  rw [← hr.out]
  exact contains_any b n c l x w hn hl hc

set_option maxHeartbeats 1000000 in
set_option maxRecDepth 100000 in
theorem taken_any (x : List UInt8) (w : World) :
    Calls Tryz.prog 80 #[.string (bs x)] w fun e w' => e = .returned (.bool (takenL.contains x)) ∧ Below w.heap.size w w' := by
  have hB1 : Below w.heap.size w ((w.alloc (txts rulesL)).alloc (txts othersL)) := ((Below.refl _ _).alloc (Nat.le_refl _) _).alloc (by simp) _
  have HB1 := Lib.hid hB1
  clear hB1
  have e1 : takenL.contains x = (rulesL.contains x || othersL.contains x) := by rw [takenL_eq]; simp [Bool.decide_or]
  have HE := Lib.hid e1
  clear e1
  have hh1 : ∀ W : World, (W.alloc (txts rulesL)).heap[W.heap.size]? = some (txts rulesL) := fun W => (MapKept.heap_alloc W _).1
  have hh2 : (((w.alloc (txts rulesL)).alloc (txts othersL)).heap[w.heap.size + 1]? = some (txts othersL)) := by
    have := (MapKept.heap_alloc (w.alloc (txts rulesL)) (txts othersL)).1
    simpa using this
  have HH1 := Lib.hid hh1
  have HH2 := Lib.hid hh2
  clear hh1 hh2
  obtain ⟨r1, HR1⟩ : ∃ r, Hid (rulesL.contains x = r) := ⟨_, rfl⟩
  obtain ⟨r2, HR2⟩ : ∃ r, Hid (othersL.contains x = r) := ⟨_, rfl⟩
  have HB0 : Hid (Below w.heap.size w (w.alloc (txts rulesL))) := (Below.refl _ _).alloc (Nat.le_refl _) _
  cases r1
  · go_enter Tryz.func80, Tryz.ntmps80
    go_wp2_with fail
    refine (rules_any _).mono ?_
    rintro e w1 ⟨rfl, rfl⟩
    go_wp2_with fail
    refine (contains_is _ 6 6 rulesL x _ _ HR1 rfl (by omega) (HH1.out w)).mono ?_
    rintro e w' ⟨rfl, rfl⟩
    go_wp2_with fail
    refine (contains_is _ 12 12 othersL x _ _ HR2 rfl (by omega) HH2.out).mono ?_
    rintro e w' ⟨rfl, rfl⟩
    go_wp2
    go_ret
    exact ⟨ret_bool (by rw [HE.out, HR1.out, HR2.out]; rfl), HB1.out⟩
  · go_enter Tryz.func80, Tryz.ntmps80
    go_wp2_with fail
    refine (rules_any _).mono ?_
    rintro e w1 ⟨rfl, rfl⟩
    go_wp2_with fail
    refine (contains_is _ 6 6 rulesL x _ _ HR1 rfl (by omega) (HH1.out w)).mono ?_
    rintro e w' ⟨rfl, rfl⟩
    go_wp2_with fail
    go_wp2
    go_ret
    first | exact ⟨ret_bool (by rw [HE.out, HR1.out]; rfl), HB0.out⟩ | exact ⟨ret_bool (by rw [HE.out, HR1.out]; rfl), HB1.out⟩
end Go.Proofs.YtdjklnlkocconaaGreatDoor

namespace Go.Proofs.YtdjklnlkocconaaGreatDoor
open Go Go.RowKit

theorem PS.drew {w : World} {b : Nat} {lv : Value} {k fin deep : Int} (h : PS w b lv k fin deep) (q : Nat) : PS (w.drewN q) b lv k fin deep := h
theorem TokRow.drew {w : World} {lv : Value} {ts : List Tok} (h : TokRow w lv ts) (q : Nat) : TokRow (w.drewN q) lv ts := h

theorem grown_trans {a b c : World} {row : Option Nat} (h : a.grownBy b row) (k : b.grownBy c row) : a.grownBy c row :=
  ⟨k.os.trans h.os, k.tape.trans h.tape, k.output.trans h.output, Nat.le_trans h.size k.size, fun i hi hr => (k.block i (Nat.lt_of_lt_of_le hi h.size) hr).trans (h.block i hi hr)⟩
theorem grown_drew (w : World) (q : Nat) (row : Option Nat) : w.grownBy (w.drewN q) row := ⟨rfl, rfl, rfl, Nat.le_refl _, fun _ _ _ => rfl⟩
theorem PS.below {w w' : World} {b : Nat} {lv : Value} {k fin deep : Int} (h : PS w b lv k fin deep) (hb : Below w.heap.size w w') (hl : b < w.heap.size) : PS w' b lv k fin deep := (hb.block b hl).trans h

theorem taken_is (x : List UInt8) (r : Bool) (w : World) (hr : Hid (takenL.contains x = r)) :
    Calls Tryz.prog 80 #[.string (bs x)] w fun e w' => e = .returned (.bool r) ∧ Below w.heap.size w w' := by
  rw [← hr.out]
  exact taken_any x w

set_option maxHeartbeats 1000000 in
set_option maxRecDepth 100000 in
theorem name_yes (b g n cap k : Nat) (fin deep : Int) (t : Tok) (w : World) (hs : PS w b (.slice (some ⟨g, 0, none⟩) n cap) k fin deep) (hk : k < n) (hn : n ≤ 9223372036854775807) (hgb : g ≠ b) (hg : g < w.heap.size) (hb : b < w.heap.size)
    (h0 : w.cell? ⟨g, k * 4, none⟩ = some (.int .i64 t.kind)) (h1 : w.cell? ⟨g, k * 4 + 1, none⟩ = some (.string (bs t.text))) (hkind : (t.kind == 1) = true) (htk : Hid (takenL.contains t.text = false)) :
    Calls Tryz.prog 56 #[.pointer (some ⟨b, 0, none⟩)] w fun e w' => e = .returned (.string (bs t.text)) ∧ w.grownBy w' (some b) ∧ PS w' b (.slice (some ⟨g, 0, none⟩) n cap) ((k : Int) + 1) fin deep := by
  obtain ⟨c0, c1, c2, c3, f1, _⟩ := hs.cells
  have HS := Lib.hid hs
  have hne : (t.kind != 1) = false := by simpa using hkind
  clear hs c2 c3
  go_enter Tryz.func56, Tryz.ntmps56
  go_wp2_with fail
  go_still_tail 36, (by kernel_rfl)
  change wpList _ _ _ _ _ w.drew
  have HG : Hid (w.grownBy w.drew (some b)) := ⟨rfl, rfl, rfl, Nat.le_refl _, fun _ _ _ => rfl⟩
  have hz : w.drew.heap.size = w.heap.size := rfl
  have HS2 : Hid (PS w.drew b (.slice (some ⟨g, 0, none⟩) n cap) k fin deep) := HS.out
  have d0 : w.drew.cell? ⟨b, 0, none⟩ = some (.slice (some ⟨g, 0, none⟩) n cap) := c0
  have d1 : w.drew.cell? ⟨b, 1, none⟩ = some (.int .i64 k) := c1
  have e0 : w.drew.cell? ⟨g, k * 4, none⟩ = some (.int .i64 t.kind) := h0
  have e1 : w.drew.cell? ⟨g, k * 4 + 1, none⟩ = some (.string (bs t.text)) := h1
  rw [← hz] at hg hb
  clear c0 c1 h0 h1 f1 hz HS
  generalize w.drew = w2 at *
  go_wp2_with (go_at_call 80; refine (taken_is _ _ _ htk).mono ?_; rintro e w5 ⟨rfl, hb5⟩)
  have hps : PS w5 b (.slice (some ⟨g, 0, none⟩) n cap) k fin deep := HS2.out.below hb5 hb
  have e15 : w5.cell? ⟨g, k * 4 + 1, none⟩ = some (.string (bs t.text)) := (hb5.cell (by show g < _; exact hg)).trans e1
  refine (take_any b g n cap k fin deep t.text w5 hps hk hn hgb e15).mono ?_
  rintro e w6 ⟨rfl, q, rfl⟩
  have HB5 := Lib.hid hb5
  have HPS := Lib.hid ((hps.set ((k : Int) + 1)).drew q)
  clear hb5 e15 d0 d1 e0 e1 hps
  go_wp2
  go_ret
  exact ⟨rfl, grown_trans (grown_trans HG.out (grown_of_below HB5.out _)) (grown_trans (grown_setCell w5 ⟨b, 1, none⟩ _) (grown_drew _ q _)), HPS.out⟩
end Go.Proofs.YtdjklnlkocconaaGreatDoor

namespace Go.Proofs.YtdjklnlkocconaaGreatDoor
open Go Go.RowKit

/-- A slice that lies in an elder block. -/
def Off (lv : Value) (b : Nat) : Prop := ∀ a n c, lv = .slice (some a) n c → a.block < b
theorem Off.mono {lv : Value} {b c : Nat} (h : Off lv b) (hc : b ≤ c) : Off lv c := fun a n k e => Nat.lt_of_lt_of_le (h a n k e) hc

/-- The parser at work: its block, the row of tokens, and which of them are left. -/
structure PW (w : World) (b : Nat) (lv : Value) (ts r : List Tok) (fin deep : Int) : Prop where
  ps : PS w b lv ((ts.length - r.length : Nat) : Int) fin deep
  row : TokRow w lv ts
  off : Off lv b
  rest : ts.drop (ts.length - r.length) = r

theorem PS.lt {w : World} {b : Nat} {lv : Value} {k fin deep : Int} (h : PS w b lv k fin deep) : b < w.heap.size := by
  unfold PS at h
  rcases Nat.lt_or_ge b w.heap.size with h' | h'
  · exact h'
  · simp [Array.getElem?_eq_none h'] at h

theorem TokRow.grown {w w' : World} {lv : Value} {ts : List Tok} {b : Nat} (h : TokRow w lv ts) (ho : Off lv b) (hg : w.grownBy w' (some b)) : TokRow w' lv ts := by
  obtain ⟨h1, a, cap, rfl, h2⟩ := h
  refine ⟨h1, a, cap, rfl, ?_⟩
  rcases h2 with h2 | ⟨g, rfl, hl, hc⟩
  · exact .inl h2
  · refine .inr ⟨g, rfl, Nat.lt_of_lt_of_le hl hg.size, fun j u hu => hg.cell (hc j u hu) ?_⟩
    intro he
    exact absurd (show g = b from Option.some.inj he) (Nat.ne_of_lt (ho _ _ _ rfl))

theorem PW.lt {w : World} {b : Nat} {lv : Value} {ts r : List Tok} {fin deep : Int} (h : PW w b lv ts r fin deep) : b < w.heap.size := h.ps.lt
theorem PW.drew {w : World} {b : Nat} {lv : Value} {ts r : List Tok} {fin deep : Int} (h : PW w b lv ts r fin deep) (q : Nat) : PW (w.drewN q) b lv ts r fin deep := ⟨h.ps.drew q, h.row.drew q, h.off, h.rest⟩

theorem grown_refl (w : World) (row : Option Nat) : w.grownBy w row := ⟨rfl, rfl, rfl, Nat.le_refl _, fun _ _ _ => rfl⟩
theorem grown_alloc (w : World) (o : Obj) (row : Option Nat) : w.grownBy (w.alloc o) row := grown_of_below ((Below.refl _ _).alloc (Nat.le_refl _) _) row

/-- The parser behind a change that leaves its own block alone. -/
theorem PW.grown {w w' : World} {b : Nat} {lv : Value} {ts r : List Tok} {fin deep : Int} (h : PW w b lv ts r fin deep) (hg : w.grownBy w' none) : PW w' b lv ts r fin deep := by
  have hg' : w.grownBy w' (some b) := ⟨hg.os, hg.tape, hg.output, hg.size, fun k hk _ => hg.block k hk (by simp)⟩
  exact ⟨(hg.block b h.lt (by simp)).trans h.ps, h.row.grown h.off hg', h.off, h.rest⟩
/-- .. that turns another block. -/
theorem PW.other {w w' : World} {b c : Nat} {lv : Value} {ts r : List Tok} {fin deep : Int} (h : PW w b lv ts r fin deep) (hg : w.grownBy w' (some c)) (hc : b < c) : PW w' b lv ts r fin deep :=
  ⟨(hg.block b h.lt (by intro e; have := Option.some.inj e; omega)).trans h.ps, h.row.grown (h.off.mono (Nat.le_of_lt hc)) hg, h.off, h.rest⟩
/-- .. that moves it. -/
theorem PW.moved {w w' : World} {b : Nat} {lv : Value} {ts r r' : List Tok} {fin deep deep' : Int} (h : PW w b lv ts r fin deep) (hg : w.grownBy w' (some b)) (hp : PS w' b lv ((ts.length - r'.length : Nat) : Int) fin deep') (hr : ts.drop (ts.length - r'.length) = r') : PW w' b lv ts r' fin deep' :=
  ⟨hp, h.row.grown h.off hg, h.off, hr⟩

theorem rest_cons {ts : List Tok} {t : Tok} {r : List Tok} (h : ts.drop (ts.length - (t :: r).length) = t :: r) : ts.drop (ts.length - r.length) = r ∧ r.length < ts.length ∧ ts.length - (t :: r).length + 1 = ts.length - r.length ∧ ts[ts.length - (t :: r).length]? = some t := by
  have hl : (t :: r).length ≤ ts.length := by rw [← h, List.length_drop]; omega
  simp only [List.length_cons] at hl h ⊢
  have e : ts.length - r.length = (ts.length - (r.length + 1)) + 1 := by omega
  refine ⟨?_, by omega, by omega, ?_⟩
  · rw [e, ← List.drop_drop, h]; rfl
  · have := congrArg (fun l => l[0]?) h
    simpa using this
theorem rest_nil {ts : List Tok} : ts.length - ([] : List Tok).length = ts.length := by simp

/-- What a reading comes to. -/
def Out {α : Type} (w : World) (b : Nat) (lv : Value) (ts : List Tok) (fin deep : Int) (R : α → Value → World → Prop) (p : PR α) (e : Ending) (w' : World) : Prop :=
  match p with
  | .ok (a, r) => ∃ v, e = .returned v ∧ R a v w' ∧ w.grownBy w' (some b) ∧ PW w' b lv ts r fin deep
  | .error r => Thrown (posOf r fin) e ∧ w.grownBy w' (some b)

theorem out_cases {α : Type} {w : World} {b : Nat} {lv : Value} {ts : List Tok} {fin deep : Int} {R : α → Value → World → Prop} {p : PR α} {e : Ending} {w' : World} (h : Out w b lv ts fin deep R p e w') :
    (∃ a r v, Hid (p = .ok (a, r)) ∧ e = .returned v ∧ R a v w' ∧ w.grownBy w' (some b) ∧ PW w' b lv ts r fin deep) ∨ (∃ r, Hid (p = .error r) ∧ Thrown (posOf r fin) e ∧ w.grownBy w' (some b)) := by
  unfold Out at h
  split at h
  · obtain ⟨v, h⟩ := h; exact .inl ⟨_, _, v, Lib.hid rfl, h⟩
  · exact .inr ⟨_, Lib.hid rfl, h⟩

theorem out_ok {α : Type} {w : World} {b : Nat} {lv : Value} {ts : List Tok} {fin deep : Int} {R : α → Value → World → Prop} {p : PR α} {a : α} {r : List Tok} {v : Value} {w' : World} (hp : p = .ok (a, r)) (hR : R a v w') (hg : w.grownBy w' (some b)) (hw : PW w' b lv ts r fin deep) :
    Out w b lv ts fin deep R p (.returned v) w' := by
  subst hp; exact ⟨v, rfl, hR, hg, hw⟩
theorem out_error {α : Type} {w : World} {b : Nat} {lv : Value} {ts : List Tok} {fin deep : Int} {R : α → Value → World → Prop} {p : PR α} {r : List Tok} {e : Ending} {w' : World} (hp : p = .error r) (he : Thrown (posOf r fin) e) (hg : w.grownBy w' (some b)) :
    Out w b lv ts fin deep R p e w' := by
  subst hp; exact ⟨he, hg⟩

/-- Results of the parser's small functions. -/
def RStr (s : List UInt8) (v : Value) (_ : World) : Prop := v = .string (bs s)
def RInt (n : Int) (v : Value) (_ : World) : Prop := v = .int .i64 n
def RUnit (_ : Unit) (v : Value) (_ : World) : Prop := v = .tuple #[]

/-- A struct of three cells at a place. -/
def At3 (w : World) (g o : Nat) (v : Value) : Prop := ∃ x y z, v = .agg #[x, y, z] ∧ w.cell? ⟨g, o, none⟩ = some x ∧ w.cell? ⟨g, o + 1, none⟩ = some y ∧ w.cell? ⟨g, o + 2, none⟩ = some z

mutual
/-- A tree's value in memory; its blocks are such as may be. -/
def NdIs (ok : Nat → Prop) (w : World) : Nd → Value → Prop
  | .mk k s l, v => ∃ a cap, v = .agg #[.int .i64 k, .string (bs s), .slice a l.length cap] ∧ l.length ≤ 9223372036854775807 ∧ (l = [] ∨ ∃ g o, a = some ⟨g, o, none⟩ ∧ ok g ∧ g < w.heap.size ∧ NdsIs ok w g o l)
def NdsIs (ok : Nat → Prop) (w : World) (g : Nat) : Nat → List Nd → Prop
  | _, [] => True
  | o, n :: l => (∃ v, At3 w g o v ∧ NdIs ok w n v) ∧ NdsIs ok w g (o + 3) l
end

theorem At3.kept {w w' : World} {g o : Nat} {v : Value} (h : At3 w g o v) (hb : w'.heap[g]? = w.heap[g]?) : At3 w' g o v := by
  obtain ⟨x, y, z, rfl, h1, h2, h3⟩ := h
  exact ⟨x, y, z, rfl, (World.cell?_of_block (a := ⟨g, o, none⟩) hb).trans h1, (World.cell?_of_block (a := ⟨g, o + 1, none⟩) hb).trans h2, (World.cell?_of_block (a := ⟨g, o + 2, none⟩) hb).trans h3⟩

mutual
theorem NdIs.kept {ok ok' : Nat → Prop} {w w' : World} (hs : w.heap.size ≤ w'.heap.size) (hb : ∀ g, g < w.heap.size → ok g → w'.heap[g]? = w.heap[g]? ∧ ok' g) : ∀ (n : Nd) (v : Value), NdIs ok w n v → NdIs ok' w' n v
  | .mk k s l, v => by
    intro h
    unfold NdIs at h ⊢
    obtain ⟨a, cap, rfl, hl, h⟩ := h
    refine ⟨a, cap, rfl, hl, ?_⟩
    rcases h with h | ⟨g, o, rfl, ho, hg, hr⟩
    · exact .inl h
    · exact .inr ⟨g, o, rfl, (hb g hg ho).2, Nat.lt_of_lt_of_le hg hs, NdsIs.kept hs hb l g o hg ho hr⟩
theorem NdsIs.kept {ok ok' : Nat → Prop} {w w' : World} (hs : w.heap.size ≤ w'.heap.size) (hb : ∀ g, g < w.heap.size → ok g → w'.heap[g]? = w.heap[g]? ∧ ok' g) : ∀ (l : List Nd) (g o : Nat), g < w.heap.size → ok g → NdsIs ok w g o l → NdsIs ok' w' g o l
  | [], _, _, _, _ => fun _ => trivial
  | n :: l, g, o, hg, ho => by
    intro h
    unfold NdsIs at h ⊢
    obtain ⟨⟨v, h1, h2⟩, h3⟩ := h
    exact ⟨⟨v, h1.kept (hb g hg ho).1, NdIs.kept hs hb n v h2⟩, NdsIs.kept hs hb l g (o + 3) hg ho h3⟩
end

/-- Trees in blocks from B on. -/
theorem NdIs.grown {w w' : World} {b B : Nat} {n : Nd} {v : Value} (h : NdIs (B ≤ ·) w n v) (hg : w.grownBy w' (some b)) (hb : b < B) : NdIs (B ≤ ·) w' n v :=
  NdIs.kept hg.size (fun g hl ho => ⟨hg.block g hl (by intro e; have := Option.some.inj e; have : B ≤ g := ho; omega), ho⟩) n v h
theorem NdIs.from {w : World} {B B' : Nat} {n : Nd} {v : Value} (h : NdIs (B ≤ ·) w n v) (hb : B' ≤ B) : NdIs (B' ≤ ·) w n v :=
  NdIs.kept (Nat.le_refl _) (fun _ _ ho => ⟨rfl, Nat.le_trans hb ho⟩) n v h
theorem NdIs.agg {ok : Nat → Prop} {w : World} {n : Nd} {v : Value} (h : NdIs ok w n v) : ∃ k s a m cap, v = .agg #[.int .i64 k, .string s, .slice a m cap] := by
  cases n
  unfold NdIs at h
  obtain ⟨a, cap, rfl, _⟩ := h
  exact ⟨_, _, _, _, _, rfl⟩

theorem NdIs.leaf (ok : Nat → Prop) (w : World) (k : Int) (s : List UInt8) (cap : Nat) (a : Option Addr) : NdIs ok w (.mk k s []) (.agg #[.int .i64 k, .string (bs s), .slice a 0 cap]) := by
  unfold NdIs
  exact ⟨a, cap, rfl, by simp, .inl rfl⟩
end Go.Proofs.YtdjklnlkocconaaGreatDoor

namespace Go.Proofs.YtdjklnlkocconaaGreatDoor
open Go Go.RowKit

/-- What is known of the token at which the parser stands. -/
theorem PW.tok {w : World} {b : Nat} {lv : Value} {ts r : List Tok} {t : Tok} {fin deep : Int} (h : PW w b lv ts (t :: r) fin deep) :
    ∃ g cap, lv = .slice (some ⟨g, 0, none⟩) ts.length cap ∧ g < w.heap.size ∧ g ≠ b ∧ ts.length - (t :: r).length < ts.length ∧ ts.length ≤ 9223372036854775807 ∧
      w.cell? ⟨g, (ts.length - (t :: r).length) * 4, none⟩ = some (.int .i64 t.kind) ∧ w.cell? ⟨g, (ts.length - (t :: r).length) * 4 + 1, none⟩ = some (.string (bs t.text)) ∧
      w.cell? ⟨g, (ts.length - (t :: r).length) * 4 + 2, none⟩ = some (.int .i64 t.num) ∧ w.cell? ⟨g, (ts.length - (t :: r).length) * 4 + 3, none⟩ = some (.int .i64 t.pos) := by
  obtain ⟨h1, h2, h3, h4⟩ := rest_cons h.rest
  obtain ⟨hl, a, cap, rfl, hc⟩ := h.row
  rcases hc with rfl | ⟨g, rfl, hg, hc⟩
  · simp at h2
  · refine ⟨g, cap, rfl, hg, Nat.ne_of_lt (h.off _ _ _ rfl), by omega, hl, ?_, ?_, ?_, ?_⟩
    · exact hc _ _ (tok_cell ts _ _ 0 _ h4 rfl)
    · exact hc _ _ (tok_cell ts _ _ 1 _ h4 rfl)
    · exact hc _ _ (tok_cell ts _ _ 2 _ h4 rfl)
    · exact hc _ _ (tok_cell ts _ _ 3 _ h4 rfl)

theorem failPos_eq {ts r : List Tok} (fin : Int) (h : ts.drop (ts.length - r.length) = r) : failPos ts (ts.length - r.length) fin = posOf r fin := by
  unfold failPos posOf
  cases r with
  | nil => simp
  | cons t r => rw [(rest_cons h).2.2.2]

theorem fail_at (b : Nat) (lv : Value) (ts r : List Tok) (fin deep : Int) (w : World) (h : PW w b lv ts r fin deep) :
    Calls Tryz.prog 35 #[.pointer (some ⟨b, 0, none⟩)] w fun e w' => Thrown (posOf r fin) e ∧ ∃ q, w' = w.drewN q := by
  have := fail_any b (ts.length - r.length) lv ts fin deep w h.ps h.row
  rwa [failPos_eq fin h.rest] at this

theorem PW.tail {w : World} {b : Nat} {lv : Value} {ts r : List Tok} {t : Tok} {fin deep : Int} (h : PW w b lv ts (t :: r) fin deep) {w' : World} (hg : w.grownBy w' (some b)) (hp : PS w' b lv (((ts.length - (t :: r).length : Nat) : Int) + 1) fin deep) : PW w' b lv ts r fin deep := by
  obtain ⟨h1, h2, h3, h4⟩ := rest_cons h.rest
  refine h.moved hg ?_ h1
  rw [← h3]
  exact hp

theorem take_at (b : Nat) (lv : Value) (ts r : List Tok) (t : Tok) (fin deep : Int) (w : World) (h : PW w b lv ts (t :: r) fin deep) :
    Calls Tryz.prog 55 #[.pointer (some ⟨b, 0, none⟩)] w fun e w' => e = .returned (.string (bs t.text)) ∧ w.grownBy w' (some b) ∧ PW w' b lv ts r fin deep := by
  obtain ⟨g, cap, rfl, hg, hgb, hk, hn, h0, h1, h2, h3⟩ := h.tok
  refine (take_any b g ts.length cap _ fin deep t.text w h.ps hk hn hgb h1).mono ?_
  rintro e w' ⟨rfl, q, rfl⟩
  have hg2 : w.grownBy ((w.setCell ⟨b, 1, none⟩ (.int .i64 (((ts.length - (t :: r).length : Nat) : Int) + 1))).drewN q) (some b) := grown_trans (grown_setCell w ⟨b, 1, none⟩ _) (grown_drew _ q _)
  exact ⟨rfl, hg2, h.tail hg2 (h.ps.set _)⟩

/-- Has the next token, a word or a sign, one of these texts? -/
def seesR (r : List Tok) (xs : List (List UInt8)) : Bool := match r with | [] => false | t :: _ => t.kind != 2 && xs.contains t.text

theorem sees_at (b : Nat) (lv : Value) (ts r : List Tok) (fin deep : Int) (tv : Value) (xs : List (List UInt8)) (w : World) (h : PW w b lv ts r fin deep) (hx : TxtRow w tv xs) :
    Calls Tryz.prog 54 #[.pointer (some ⟨b, 0, none⟩), tv] w fun e w' => e = .returned (.bool (seesR r xs)) ∧ ∃ q, w' = w.drewN q := by
  have := sees_any b (ts.length - r.length) lv ts fin deep tv xs w h.ps h.row hx
  unfold seesB at this
  cases r with
  | nil => rw [rest_nil, List.getElem?_eq_none (Nat.le_refl _)] at this; exact this
  | cons t r => rw [(rest_cons h.rest).2.2.2] at this; exact this

set_option maxHeartbeats 1000000 in
set_option maxRecDepth 100000 in
theorem name_taken (b g n cap k : Nat) (lv : Value) (ts r : List Tok) (fin deep : Int) (t : Tok) (w : World) (h : PW w b lv ts (t :: r) fin deep) (hlv : Hid (lv = .slice (some ⟨g, 0, none⟩) n cap)) (hkk : Hid (ts.length - (t :: r).length = k)) (hk : k < n)
    (h0 : w.cell? ⟨g, k * 4, none⟩ = some (.int .i64 t.kind)) (h1 : w.cell? ⟨g, k * 4 + 1, none⟩ = some (.string (bs t.text))) (hkind : (t.kind == 1) = true) (htk : Hid (takenL.contains t.text = true)) :
    Calls Tryz.prog 56 #[.pointer (some ⟨b, 0, none⟩)] w fun e w' => Thrown (posOf (t :: r) fin) e ∧ w.grownBy w' (some b) := by
  obtain ⟨c0, c1, c2, c3, f1, _⟩ := h.ps.cells
  rw [hlv.out] at c0
  rw [hkk.out] at c1
  have hb := h.lt
  have hne : (t.kind != 1) = false := by simpa using hkind
  clear c2 c3
  have H := Lib.hid h
  clear h
  go_enter Tryz.func56, Tryz.ntmps56
  go_wp2_with fail
  go_still_tail 36, (by kernel_rfl)
  change wpList _ _ _ _ _ w.drew
  have HG : Hid (w.grownBy w.drew none) := ⟨rfl, rfl, rfl, Nat.le_refl _, fun _ _ _ => rfl⟩
  have d0 : w.drew.cell? ⟨b, 0, none⟩ = some (.slice (some ⟨g, 0, none⟩) n cap) := c0
  have d1 : w.drew.cell? ⟨b, 1, none⟩ = some (.int .i64 k) := c1
  have e0 : w.drew.cell? ⟨g, k * 4, none⟩ = some (.int .i64 t.kind) := h0
  have e1 : w.drew.cell? ⟨g, k * 4 + 1, none⟩ = some (.string (bs t.text)) := h1
  have H2 : Hid (PW w.drew b lv ts (t :: r) fin deep) := H.out.grown HG.out
  clear c0 c1 h0 h1 f1 H
  generalize w.drew = w2 at *
  go_wp2_with (go_at_call 80; refine (taken_is _ _ _ htk).mono ?_; rintro e w5 ⟨rfl, hb5⟩)
  have hps : PW w5 b lv ts (t :: r) fin deep := H2.out.grown (grown_of_below hb5 _)
  have HB5 := Lib.hid hb5
  clear hb5 d0 d1 e0 e1
  refine (fail_at b lv ts (t :: r) fin deep w5 hps).mono ?_
  rintro e w6 ⟨he, q, rfl⟩
  have HE := Lib.hid he
  clear he
  obtain rfl : e = _ := HE.out
  exact ⟨rfl, rfl, grown_trans (grown_trans ⟨HG.out.os, HG.out.tape, HG.out.output, HG.out.size, fun k hk _ => HG.out.block k hk (by simp)⟩ (grown_of_below HB5.out _)) (grown_drew _ q _)⟩
end Go.Proofs.YtdjklnlkocconaaGreatDoor

namespace Go.Proofs.YtdjklnlkocconaaGreatDoor
open Go Go.RowKit

set_option maxHeartbeats 1000000 in
set_option maxRecDepth 100000 in
theorem name_out (b n cap k : Nat) (a : Option Addr) (fin deep : Int) (w : World) (hs : PS w b (.slice a n cap) k fin deep) (hk : n ≤ k) :
    Calls Tryz.prog 56 #[.pointer (some ⟨b, 0, none⟩)] w fun e w' => Thrown fin e ∧ w.grownBy w' (some b) := by
  obtain ⟨c0, c1, c2, c3, _, _⟩ := hs.cells
  have HS := Lib.hid hs
  have hd1 : decide (n ≤ k) = true := by simp; omega
  have hd2 : decide ((n : Int) ≤ (k : Int)) = true := by simp; omega
  clear hs c2 c3
  go_enter Tryz.func56, Tryz.ntmps56
  go_wp2_with fail
  go_quiet (fail)
  go_wp2_with fail
  refine (fail_out b n cap k a fin deep _ (HS.out.drew _) hk).mono ?_
  rintro e w1 ⟨he, q, rfl⟩
  obtain rfl : e = _ := he
  exact ⟨rfl, rfl, grown_trans (grown_drew _ _ _) (grown_drew _ q _)⟩

end Go.Proofs.YtdjklnlkocconaaGreatDoor

namespace Go.Proofs.YtdjklnlkocconaaGreatDoor
open Go Go.RowKit

set_option maxHeartbeats 1000000 in
set_option maxRecDepth 100000 in
theorem name_kind (b g n cap k : Nat) (lv : Value) (ts r : List Tok) (fin deep : Int) (t : Tok) (w : World) (h : PW w b lv ts (t :: r) fin deep) (hlv : Hid (lv = .slice (some ⟨g, 0, none⟩) n cap)) (hkk : Hid (ts.length - (t :: r).length = k)) (hk : k < n)
    (h0 : w.cell? ⟨g, k * 4, none⟩ = some (.int .i64 t.kind)) (hkind : (t.kind == 1) = false) :
    Calls Tryz.prog 56 #[.pointer (some ⟨b, 0, none⟩)] w fun e w' => Thrown (posOf (t :: r) fin) e ∧ w.grownBy w' (some b) := by
  obtain ⟨c0, c1, c2, c3, _, _⟩ := h.ps.cells
  rw [hlv.out] at c0
  rw [hkk.out] at c1
  have hne : (t.kind != 1) = true := by simpa using hkind
  have hd3 : decide (n ≤ k) = false := by simp; omega
  have hd4 : decide ((n : Int) ≤ (k : Int)) = false := by simp; omega
  clear c2 c3
  have H := Lib.hid h
  clear h
  go_enter Tryz.func56, Tryz.ntmps56
  go_wp2_with fail
  go_quiet (fail)
  go_wp2_with fail
  refine (fail_at b lv ts (t :: r) fin deep _ (H.out.drew _)).mono ?_
  rintro e w1 ⟨he, q, rfl⟩
  have HE := Lib.hid he
  clear he
  obtain rfl : e = _ := HE.out
  exact ⟨rfl, rfl, grown_trans (grown_drew _ _ _) (grown_drew _ q _)⟩

theorem name_at (b : Nat) (lv : Value) (ts r : List Tok) (fin deep : Int) (w : World) (h : PW w b lv ts r fin deep) :
    Calls Tryz.prog 56 #[.pointer (some ⟨b, 0, none⟩)] w fun e w' => Out w b lv ts fin deep RStr (pName r) e w' := by
  cases r with
  | nil =>
    have hp := h.ps
    obtain ⟨hl, a, cap, rfl, _⟩ := h.row
    refine (name_out b ts.length cap _ a fin deep w hp (by simp)).mono fun e w' ⟨he, hg⟩ => ?_
    exact out_error rfl he hg
  | cons t r =>
    obtain ⟨g, cap, hlv, hg, hgb, hk, hn, h0, h1, h2, h3⟩ := h.tok
    cases hkind : (t.kind == 1)
    · refine (name_kind b g ts.length cap _ lv ts r fin deep t w h hlv rfl hk h0 hkind).mono fun e w' ⟨he, hg⟩ => ?_
      exact out_error (by rw [pName, hkind]; rfl) he hg
    · cases htk : takenL.contains t.text
      · have hps := h.ps
        rw [hlv] at hps
        refine (name_yes b g ts.length cap _ fin deep t w hps hk hn hgb hg h.lt h0 h1 hkind htk).mono fun e w' ⟨he, hg, hp⟩ => ?_
        subst he
        rw [← hlv] at hp
        exact out_ok (by rw [pName, hkind, htk]; rfl) rfl hg (h.tail hg hp)
      · refine (name_taken b g ts.length cap _ lv ts r fin deep t w h hlv rfl hk h0 h1 hkind htk).mono fun e w' ⟨he, hg⟩ => ?_
        exact out_error (by rw [pName, hkind, htk]; rfl) he hg
end Go.Proofs.YtdjklnlkocconaaGreatDoor
