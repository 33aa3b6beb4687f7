/-
  What Parse makes in memory. No walk.
-/
import Derived.Test.YtgnjaneddidbbaaDoorDeckV
import Derived.Test.YtgnjaneddidbbaaDoorDeckW
import Derived.Test.YtgnjaneddidbbaaDoorLexKnown
namespace Go.Proofs.YtgnjaneddidbbaaDoor
open Go Go.RowKit

/-- Statements in a row of cells; their trees are in memory. -/
def StRow (ok : Nat → Prop) (w : World) : List St → List Value → Prop
  | [], cs => cs = []
  | x :: l, cs => ∃ A B rest, cs = stCells x A B ++ rest ∧ NdIs ok w x.a A.val ∧ NdIs ok w x.b B.val ∧ StRow ok w l rest

theorem StRow.kept {ok ok' : Nat → Prop} {w w' : World} (hs : w.heap.size ≤ w'.heap.size) (hb : ∀ g, g < w.heap.size → ok g → w'.heap[g]? = w.heap[g]? ∧ ok' g) : ∀ {l : List St} {cs : List Value}, StRow ok w l cs → StRow ok' w' l cs
  | [], _, h => h
  | _ :: _, _, ⟨A, B, rest, h1, h2, h3, h4⟩ => ⟨A, B, rest, h1, NdIs.kept hs hb _ _ h2, NdIs.kept hs hb _ _ h3, StRow.kept hs hb h4⟩
theorem StRow.snoc {ok : Nat → Prop} {w : World} {x : St} {A B : NV} (ha : NdIs ok w x.a A.val) (hb : NdIs ok w x.b B.val) : ∀ {l : List St} {cs : List Value}, StRow ok w l cs → StRow ok w (l ++ [x]) (cs ++ stCells x A B)
  | [], _, h => ⟨A, B, [], by rw [show _ = [] from h]; simp, ha, hb, rfl⟩
  | _ :: _, _, ⟨A', B', rest, h1, h2, h3, h4⟩ => ⟨A', B', rest ++ stCells x A B, by rw [h1, List.append_assoc], h2, h3, StRow.snoc ha hb h4⟩

/-- A deck's statements, out of its tokens, or the place. -/
def deckR (ts : List Tok) (fin : Int) : Except Int (List St) := match pDeck ts with | .error r => .error (posOf r fin) | .ok l => .ok l

/-- What Parse comes to. -/
def ParseEnd (B : Nat) (R : Except Int (List St)) (e : Ending) (w' : World) : Prop :=
  match R with
  | .error k => e = .returned (.tuple #[.slice none 0 0, .int .i64 k, .int .i64 21])
  | .ok l => ∃ v cs, e = .returned (.tuple #[v, .int .i64 0, .int .i64 0]) ∧ w'.ownsRow B 73 13 v l.length cs ∧ StRow (fun _ => True) w' l cs

theorem info73 : (Tryd.prog.info? 73).map (fun i => (i.zero, i.size, i.bytes)) = some (some (stVal .zero .zero .zero), 13, 160) := by kernel_rfl

/-- The three results' blocks. -/
structure R3 (w : World) (L : Nat) (x y z : Value) : Prop where
  l : Blk1 w L x 38
  a : Blk1 w (L + 1) y 3
  e : Blk1 w (L + 1 + 1) z 23
theorem R3.cells {w : World} {L : Nat} {x y z : Value} (h : R3 w L x y z) : w.cell? ⟨L, 0, none⟩ = some x ∧ w.cell? ⟨L + 1, 0, none⟩ = some y ∧ w.cell? ⟨L + 1 + 1, 0, none⟩ = some z ∧ w.frozen? ⟨L, 0, none⟩ = false ∧ w.frozen? ⟨L + 1, 0, none⟩ = false ∧ w.frozen? ⟨L + 1 + 1, 0, none⟩ = false :=
  ⟨h.l.cell, h.a.cell, h.e.cell, h.l.free, h.a.free, h.e.free⟩
theorem R3.grown {w w' : World} {L : Nat} {x y z : Value} {row : Option Nat} (h : R3 w L x y z) (hg : w.grownBy w' row) (hn : ∀ k, row = some k → L + 3 ≤ k) : R3 w' L x y z :=
  ⟨h.l.grown hg (by intro e; have := hn _ e.symm; omega), h.a.grown hg (by intro e; have := hn _ e.symm; omega), h.e.grown hg (by intro e; have := hn _ e.symm; omega)⟩
theorem R3.still {w w' : World} {L : Nat} {x y z : Value} (h : R3 w L x y z) (hg : w.grownBy w' none) : R3 w' L x y z := h.grown hg (fun k e => by cases e)
theorem R3.set0 {w : World} {L : Nat} {x y z : Value} (h : R3 w L x y z) (u : Value) : R3 (w.setCell ⟨L, 0, none⟩ u) L u y z := by
  have hg : w.grownBy (w.setCell ⟨L, 0, none⟩ u) (some L) := grown_setCell w ⟨L, 0, none⟩ u
  exact ⟨h.l.set u, h.a.grown hg (by intro e; have := Option.some.inj e; omega), h.e.grown hg (by intro e; have := Option.some.inj e; omega)⟩
theorem R3.set1 {w : World} {L : Nat} {x y z : Value} (h : R3 w L x y z) (u : Value) : R3 (w.setCell ⟨L + 1, 0, none⟩ u) L x u z := by
  have hg : w.grownBy (w.setCell ⟨L + 1, 0, none⟩ u) (some (L + 1)) := grown_setCell w ⟨L + 1, 0, none⟩ u
  exact ⟨h.l.grown hg (by intro e; have := Option.some.inj e; omega), h.a.set u, h.e.grown hg (by intro e; have := Option.some.inj e; omega)⟩
theorem R3.set2 {w : World} {L : Nat} {x y z : Value} (h : R3 w L x y z) (u : Value) : R3 (w.setCell ⟨L + 1 + 1, 0, none⟩ u) L x y u := by
  have hg : w.grownBy (w.setCell ⟨L + 1 + 1, 0, none⟩ u) (some (L + 1 + 1)) := grown_setCell w ⟨L + 1 + 1, 0, none⟩ u
  exact ⟨h.l.grown hg (by intro e; have := Option.some.inj e; omega), h.a.grown hg (by intro e; have := Option.some.inj e; omega), h.e.set u⟩
theorem R3.start (w : World) : R3 (((w.alloc (.cells #[.slice none 0 0] 38)).alloc (.cells #[.int .i64 0] 3)).alloc (.cells #[.int .i64 0] 23)) w.heap.size (.slice none 0 0) (.int .i64 0) (.int .i64 0) := by
  have h1 := Blk1.new w (.slice none 0 0) 38
  have h2 := Blk1.new (w.alloc (.cells #[.slice none 0 0] 38)) (.int .i64 0) 3
  have h3 := Blk1.new ((w.alloc (.cells #[.slice none 0 0] 38)).alloc (.cells #[.int .i64 0] 3)) (.int .i64 0) 23
  have g2 := grown_alloc (w.alloc (.cells #[.slice none 0 0] 38)) (.cells #[.int .i64 0] 3) none
  have g3 := grown_alloc ((w.alloc (.cells #[.slice none 0 0] 38)).alloc (.cells #[.int .i64 0] 3)) (.cells #[.int .i64 0] 23) none
  have e2 : (w.alloc (.cells #[.slice none 0 0] 38)).heap.size = w.heap.size + 1 := by simp
  have e3 : ((w.alloc (.cells #[.slice none 0 0] 38)).alloc (.cells #[.int .i64 0] 3)).heap.size = w.heap.size + 1 + 1 := by simp
  rw [e2] at h2
  rw [e3] at h3
  exact ⟨(h1.grown g2 (by simp)).grown g3 (by simp), h2.grown g3 (by simp), h3⟩
theorem R3.res {w : World} {L : Nat} {x y z : Value} (h : R3 w L x y z) {tmps : Array Value} (h2 : tmps.getD 2 undef = .pointer (some ⟨L, 0, none⟩)) (h3 : tmps.getD 3 undef = .pointer (some ⟨L + 1, 0, none⟩)) (h4 : tmps.getD 4 undef = .pointer (some ⟨L + 1 + 1, 0, none⟩)) :
    (results Tryd.f14 tmps).run Tryd.prog w = .ok (.tuple #[x, y, z]) w := by
  obtain ⟨c0, c1, c2, _, _, _⟩ := h.cells
  rw [Array.getD_eq_getD_getElem?] at h2 h3 h4
  simp [results, Tryd.results14, h2, h3, h4, go_sem, c0, c1, c2]

theorem grown_row {w w' : World} {row : Option Nat} (h : w.grownBy w' row) {k : Nat} (hk : k < w.heap.size) (hn : ∀ c, row = some c → k ≠ c) : w'.heap[k]? = w.heap[k]? := by
  refine h.block k hk ?_
  intro e
  exact hn k e.symm rfl

/-- The parser behind a change of blocks that are neither its own nor its tokens'. -/
theorem PW.apart {w w' : World} {b : Nat} {lv : Value} {ts r : List Tok} {fin deep : Int} {row : Option Nat} (h : PW w b lv ts r fin deep) (hg : w.grownBy w' row) (hb : ∀ c, row = some c → b ≠ c) (ho : ∀ c, row = some c → ∀ a n k, lv = .slice (some a) n k → a.block ≠ c) : PW w' b lv ts r fin deep := by
  refine ⟨(grown_row hg h.lt hb).trans h.ps, ?_, h.off, h.rest⟩
  obtain ⟨h1, a, cap, rfl, h2⟩ := h.row
  refine ⟨h1, a, cap, rfl, ?_⟩
  rcases h2 with h2 | ⟨g, rfl, hl, hc⟩
  · exact .inl h2
  · exact .inr ⟨g, rfl, Nat.lt_of_lt_of_le hl hg.size, fun j u hu => (World.cell?_of_block (a := ⟨g, j, none⟩) (grown_row hg hl (fun c e => ho c e ⟨g, 0, none⟩ _ _ rfl))).trans (hc j u hu)⟩

/-- Parse at work. -/
structure QS (w w' : World) (b : Nat) (lv : Value) (ts r : List Tok) (fin : Int) (acc : List St) (v : Value) : Prop where
  p : PW w' b lv ts r fin ((0 : Nat) : Int)
  hb : w.heap.size + 3 ≤ b
  lo : ∀ a n c, lv = .slice (some a) n c → w.heap.size + 3 ≤ a.block
  c : R3 w' w.heap.size v (.int .i64 0) (.int .i64 0)
  own : ∃ cs, w'.ownsRow (w.heap.size + 3) 73 13 v acc.length cs ∧ StRow (fun g => w.heap.size + 3 ≤ g ∧ g ≠ b ∧ some g ≠ v.ownBlock) w' acc cs
  nb : ∀ c, v.ownBlock = some c → b < c
  below : Below w.heap.size w w'

section
variable {w w' w'' : World} {b : Nat} {lv : Value} {ts r r' : List Tok} {fin : Int} {acc : List St} {v : Value}
theorem QS.moved (h : QS w w' b lv ts r fin acc v) (hg : w'.grownBy w'' (some b)) (hp : PW w'' b lv ts r' fin ((0 : Nat) : Int)) : QS w w'' b lv ts r' fin acc v := by
  have hb := h.hb
  obtain ⟨cs, h1, h2⟩ := h.own
  refine ⟨hp, hb, h.lo, h.c.grown hg (fun k e => by cases e; exact hb), ⟨cs, ?_, ?_⟩, h.nb, h.below.grown hg (by have := h.p.lt; omega) (fun k e => by cases e; omega)⟩
  · refine h1.kept hg (Or.inr ?_)
    intro e
    have := h.nb b e
    omega
  · exact h2.kept hg.size (fun g hl ho => ⟨hg.block g hl (by intro e; exact ho.2.1 (Option.some.inj e)), ho⟩)
theorem QS.still (h : QS w w' b lv ts r fin acc v) (hg : w'.grownBy w'' none) : QS w w'' b lv ts r fin acc v := by
  have hb := h.hb
  obtain ⟨cs, h1, h2⟩ := h.own
  refine ⟨h.p.grown hg, hb, h.lo, h.c.still hg, ⟨cs, ?_, ?_⟩, h.nb, h.below.grown hg (by have := h.p.lt; omega) (fun k e => by cases e)⟩
  · refine h1.kept hg ?_
    cases v.ownBlock with
    | none => exact .inl rfl
    | some k => exact .inr (by simp)
  · exact h2.kept hg.size (fun g hl ho => ⟨hg.block g hl (by simp), ho⟩)

theorem stCells_one (x : St) (A B : NV) : ∀ u ∈ stCells x A B, u.oneCell' = true := by
  intro u hu
  simp only [stCells, List.mem_cons, List.not_mem_nil, or_false] at hu
  rcases hu with rfl | rfl | rfl | rfl | rfl | rfl | rfl | rfl | rfl | rfl | rfl | rfl | rfl <;> rfl

/-- A statement more. -/
theorem QS.push {w5 w7 : World} {x : St} {A B : NV} {o : Obj} {g' n' cap' B0 : Nat} (h : QS w w5 b lv ts r fin acc v) (ha : NdIs (B0 ≤ ·) w5 x.a A.val) (hb : NdIs (B0 ≤ ·) w5 x.b B.val) (hB0 : b < B0) (hv0 : ∀ c, v.ownBlock = some c → c < B0)
    {cs : List Value} (h2 : StRow (fun g => w.heap.size + 3 ≤ g ∧ g ≠ b ∧ some g ≠ v.ownBlock) w5 acc cs) (hown : w7.ownsRow (w.heap.size + 3) 73 13 (.slice (some ⟨g', 0, none⟩) n' cap') (acc.length + 1) (cs ++ stCells x A B))
    (hgrow : (w5.alloc o).grownBy w7 v.ownBlock) (hat : v.ownBlock = some g' ∨ g' = w5.heap.size + 1) :
    QS w (w7.setCell ⟨w.heap.size, 0, none⟩ (.slice (some ⟨g', 0, none⟩) n' cap')) b lv ts r fin (acc ++ [x]) (.slice (some ⟨g', 0, none⟩) n' cap') := by
  have h6 := h.still (grown_alloc w5 o none)
  have hbb := h.hb
  have hnb := h.nb
  have e6 : (w5.alloc o).heap.size = w5.heap.size + 1 := by simp
  have hb5 := h.p.lt
  have hs7 := hgrow.size
  rw [e6] at hs7
  have hset : w7.grownBy (w7.setCell ⟨w.heap.size, 0, none⟩ (.slice (some ⟨g', 0, none⟩) n' cap')) (some w.heap.size) := grown_setCell w7 ⟨w.heap.size, 0, none⟩ _
  have p7 : PW w7 b lv ts r fin ((0 : Nat) : Int) := h6.p.apart hgrow (fun c e => by have := hnb c e; omega) (fun c e a n k el => by have := hnb c e; have := h.p.off a n k el; omega)
  have p8 : PW (w7.setCell ⟨w.heap.size, 0, none⟩ (.slice (some ⟨g', 0, none⟩) n' cap')) b lv ts r fin ((0 : Nat) : Int) := p7.apart hset (fun c e => by cases e; omega) (fun c e a n k el => by cases e; have := h.lo a n k el; omega)
  have hg'b : b < g' := by
    rcases hat with e | e
    · exact hnb _ e
    · omega
  have hk : ∀ g, g < w5.heap.size → w.heap.size + 3 ≤ g → some g ≠ v.ownBlock → (w7.setCell ⟨w.heap.size, 0, none⟩ (.slice (some ⟨g', 0, none⟩) n' cap')).heap[g]? = w5.heap[g]? := by
    intro g hl hge hne
    rw [hset.block g (by omega) (by intro e; have := Option.some.inj e; omega), hgrow.block g (by omega) hne]
    exact (grown_alloc w5 o none).block g hl (by simp)
  have hne' : ∀ g, g < w5.heap.size → some g ≠ v.ownBlock → some g ≠ (Value.slice (some ⟨g', 0, none⟩) n' cap').ownBlock := by
    intro g hl hne e
    have e2 : g = g' := by simpa [Value.ownBlock] using e
    rcases hat with e3 | e3
    · exact hne (by rw [e3, e2])
    · omega
  refine ⟨p8, hbb, h.lo, ?_, ⟨cs ++ stCells x A B, ?_, ?_⟩, ?_, ?_⟩
  · exact (h6.c.grown hgrow (fun k e => by have := hnb k e; omega)).set0 _
  · have h8 := hown
    have hl : (acc ++ [x]).length = acc.length + 1 := by simp
    rw [hl]
    refine h8.kept hset (Or.inr ?_)
    intro e
    have e2 : g' = w.heap.size := by simpa [Value.ownBlock] using e
    omega
  · have hsz8 : w5.heap.size ≤ (w7.setCell ⟨w.heap.size, 0, none⟩ (.slice (some ⟨g', 0, none⟩) n' cap')).heap.size := Nat.le_trans (by omega) hset.size
    refine StRow.snoc ?_ ?_ (h2.kept hsz8 (fun g hl ho => ⟨hk g hl ho.1 ho.2.2, ho.1, ho.2.1, hne' g hl ho.2.2⟩))
    · refine NdIs.kept hsz8 (fun g hl ho => ?_) _ _ ha
      have ho' : B0 ≤ g := ho
      have hne : some g ≠ v.ownBlock := by intro e; have := hv0 g e.symm; omega
      exact ⟨hk g hl (by omega) hne, by omega, by omega, hne' g hl hne⟩
    · refine NdIs.kept hsz8 (fun g hl ho => ?_) _ _ hb
      have ho' : B0 ≤ g := ho
      have hne : some g ≠ v.ownBlock := by intro e; have := hv0 g e.symm; omega
      exact ⟨hk g hl (by omega) hne, by omega, by omega, hne' g hl hne⟩
  · intro c e
    have e2 : g' = c := by simpa [Value.ownBlock] using e
    omega
  · exact (h6.below.grown hgrow (by omega) (fun k e => by have := hnb k e; omega)).setCell (p := ⟨w.heap.size, 0, none⟩) (Nat.le_refl _) _

/-- It ends: the results stored once more. -/
theorem QS.finish (h : QS w w' b lv ts r fin acc v) : R3 (((w'.setCell ⟨w.heap.size, 0, none⟩ v).setCell ⟨w.heap.size + 1, 0, none⟩ (.int .i64 0)).setCell ⟨w.heap.size + 1 + 1, 0, none⟩ (.int .i64 0)) w.heap.size v (.int .i64 0) (.int .i64 0) ∧
    ParseEnd w.heap.size (.ok acc) (.returned (.tuple #[v, .int .i64 0, .int .i64 0])) (((w'.setCell ⟨w.heap.size, 0, none⟩ v).setCell ⟨w.heap.size + 1, 0, none⟩ (.int .i64 0)).setCell ⟨w.heap.size + 1 + 1, 0, none⟩ (.int .i64 0)) ∧
    Below w.heap.size w (((w'.setCell ⟨w.heap.size, 0, none⟩ v).setCell ⟨w.heap.size + 1, 0, none⟩ (.int .i64 0)).setCell ⟨w.heap.size + 1 + 1, 0, none⟩ (.int .i64 0)) := by
  refine ⟨((h.c.set0 _).set1 _).set2 _, ?_, ((h.below.setCell (p := ⟨w.heap.size, 0, none⟩) (Nat.le_refl _) _).setCell (p := ⟨w.heap.size + 1, 0, none⟩) (Nat.le_succ _) _).setCell (p := ⟨w.heap.size + 1 + 1, 0, none⟩) (Nat.le_succ_of_le (Nat.le_succ _)) _⟩
  have hb := h.hb
  have hnb := h.nb
  obtain ⟨cs, h1, h2⟩ := h.own
  have g0 : w'.grownBy _ (some w.heap.size) := grown_setCell w' ⟨w.heap.size, 0, none⟩ v
  have g1 : World.grownBy _ _ (some (w.heap.size + 1)) := grown_setCell (w'.setCell ⟨w.heap.size, 0, none⟩ v) ⟨w.heap.size + 1, 0, none⟩ (.int .i64 0)
  have g2 : World.grownBy _ _ (some (w.heap.size + 1 + 1)) := grown_setCell ((w'.setCell ⟨w.heap.size, 0, none⟩ v).setCell ⟨w.heap.size + 1, 0, none⟩ (.int .i64 0)) ⟨w.heap.size + 1 + 1, 0, none⟩ (.int .i64 0)
  have hne : ∀ c, c < b → v.ownBlock ≠ some c := fun c hc e => by have := hnb c e; omega
  have o3 := ((h1.kept g0 (Or.inr (hne _ (by omega)))).kept g1 (Or.inr (hne _ (by omega)))).kept g2 (Or.inr (hne _ (by omega)))
  have hle : w.heap.size ≤ w.heap.size + 3 := by omega
  refine ⟨v, cs, rfl, ⟨o3.1, ?_⟩, ?_⟩
  · rcases o3.2 with h3 | ⟨g, cap, cur, h3, h4, h5⟩
    · exact .inl h3
    · exact .inr ⟨g, cap, cur, h3, by omega, h5⟩
  · refine h2.kept (Nat.le_trans g0.size (Nat.le_trans g1.size g2.size)) (fun g hl ho => ⟨?_, trivial⟩)
    have hg3 : w.heap.size + 3 ≤ g := ho.1
    rw [g2.block g (Nat.lt_of_lt_of_le hl (Nat.le_trans g0.size g1.size)) (by intro e; have := Option.some.inj e; omega), g1.block g (Nat.lt_of_lt_of_le hl g0.size) (by intro e; have := Option.some.inj e; omega), g0.block g hl (by intro e; have := Option.some.inj e; omega)]

end

end Go.Proofs.YtgnjaneddidbbaaDoor
