/-
  The parser's state in memory, what a reading comes to, and trees of nodes in memory. No walk.
-/
import Derived.Test.YtgnjaneddidbbaaDoorDeckC
import Derived.Test.YtgnjaneddidbbaaDoorDeckStmt
namespace Go.Proofs.YtgnjaneddidbbaaDoor
open Go Go.RowKit

/-- A slice that lies in an elder block. -/
def Off (lv : Value) (b : Nat) : Prop := ∀ a n c, lv = .slice (some a) n c → a.block < b
theorem Off.mono {lv : Value} {b c : Nat} (h : Off lv b) (hc : b ≤ c) : Off lv c := fun a n k e => Nat.lt_of_lt_of_le (h a n k e) hc

/-- The parser at work: its block, the row of tokens, and which of them are left. -/
structure PW (w : World) (b : Nat) (lv : Value) (ts r : List Tok) (fin deep : Int) : Prop where
  ps : PS w b lv ((ts.length - r.length : Nat) : Int) fin deep
  row : TokRow w lv ts
  off : Off lv b
  rest : ts.drop (ts.length - r.length) = r

theorem PS.lt {w : World} {b : Nat} {lv : Value} {k fin deep : Int} (h : PS w b lv k fin deep) : b < w.heap.size := by
  unfold PS at h
  rcases Nat.lt_or_ge b w.heap.size with h' | h'
  · exact h'
  · simp [Array.getElem?_eq_none h'] at h

theorem TokRow.grown {w w' : World} {lv : Value} {ts : List Tok} {b : Nat} (h : TokRow w lv ts) (ho : Off lv b) (hg : w.grownBy w' (some b)) : TokRow w' lv ts := by
  obtain ⟨h1, a, cap, rfl, h2⟩ := h
  refine ⟨h1, a, cap, rfl, ?_⟩
  rcases h2 with h2 | ⟨g, rfl, hl, hc⟩
  · exact .inl h2
  · refine .inr ⟨g, rfl, Nat.lt_of_lt_of_le hl hg.size, fun j u hu => hg.cell (hc j u hu) ?_⟩
    intro he
    exact absurd (show g = b from Option.some.inj he) (Nat.ne_of_lt (ho _ _ _ rfl))

theorem PW.lt {w : World} {b : Nat} {lv : Value} {ts r : List Tok} {fin deep : Int} (h : PW w b lv ts r fin deep) : b < w.heap.size := h.ps.lt
theorem PW.drew {w : World} {b : Nat} {lv : Value} {ts r : List Tok} {fin deep : Int} (h : PW w b lv ts r fin deep) (q : Nat) : PW (w.drewN q) b lv ts r fin deep := ⟨h.ps.drew q, h.row.drew q, h.off, h.rest⟩

theorem grown_refl (w : World) (row : Option Nat) : w.grownBy w row := ⟨rfl, rfl, rfl, Nat.le_refl _, fun _ _ _ => rfl⟩
theorem grown_alloc (w : World) (o : Obj) (row : Option Nat) : w.grownBy (w.alloc o) row := grown_of_below ((Below.refl _ _).alloc (Nat.le_refl _) _) row

/-- The parser behind a change that leaves its own block alone. -/
theorem PW.grown {w w' : World} {b : Nat} {lv : Value} {ts r : List Tok} {fin deep : Int} (h : PW w b lv ts r fin deep) (hg : w.grownBy w' none) : PW w' b lv ts r fin deep := by
  have hg' : w.grownBy w' (some b) := ⟨hg.os, hg.tape, hg.output, hg.size, fun k hk _ => hg.block k hk (by simp)⟩
  exact ⟨(hg.block b h.lt (by simp)).trans h.ps, h.row.grown h.off hg', h.off, h.rest⟩
/-- .. that turns another block. -/
theorem PW.other {w w' : World} {b c : Nat} {lv : Value} {ts r : List Tok} {fin deep : Int} (h : PW w b lv ts r fin deep) (hg : w.grownBy w' (some c)) (hc : b < c) : PW w' b lv ts r fin deep :=
  ⟨(hg.block b h.lt (by intro e; have := Option.some.inj e; omega)).trans h.ps, h.row.grown (h.off.mono (Nat.le_of_lt hc)) hg, h.off, h.rest⟩
/-- .. that moves it. -/
theorem PW.moved {w w' : World} {b : Nat} {lv : Value} {ts r r' : List Tok} {fin deep deep' : Int} (h : PW w b lv ts r fin deep) (hg : w.grownBy w' (some b)) (hp : PS w' b lv ((ts.length - r'.length : Nat) : Int) fin deep') (hr : ts.drop (ts.length - r'.length) = r') : PW w' b lv ts r' fin deep' :=
  ⟨hp, h.row.grown h.off hg, h.off, hr⟩

theorem rest_cons {ts : List Tok} {t : Tok} {r : List Tok} (h : ts.drop (ts.length - (t :: r).length) = t :: r) : ts.drop (ts.length - r.length) = r ∧ r.length < ts.length ∧ ts.length - (t :: r).length + 1 = ts.length - r.length ∧ ts[ts.length - (t :: r).length]? = some t := by
  have hl : (t :: r).length ≤ ts.length := by rw [← h, List.length_drop]; omega
  simp only [List.length_cons] at hl h ⊢
  have e : ts.length - r.length = (ts.length - (r.length + 1)) + 1 := by omega
  refine ⟨?_, by omega, by omega, ?_⟩
  · rw [e, ← List.drop_drop, h]; rfl
  · have := congrArg (fun l => l[0]?) h
    simpa using this
theorem rest_nil {ts : List Tok} : ts.length - ([] : List Tok).length = ts.length := by simp

/-- What a reading comes to. -/
def Out {α : Type} (w : World) (b : Nat) (lv : Value) (ts : List Tok) (fin deep : Int) (R : α → Value → World → Prop) (p : PR α) (e : Ending) (w' : World) : Prop :=
  match p with
  | .ok (a, r) => ∃ v, e = .returned v ∧ R a v w' ∧ w.grownBy w' (some b) ∧ PW w' b lv ts r fin deep
  | .error r => Thrown (posOf r fin) e ∧ w.grownBy w' (some b)

theorem out_cases {α : Type} {w : World} {b : Nat} {lv : Value} {ts : List Tok} {fin deep : Int} {R : α → Value → World → Prop} {p : PR α} {e : Ending} {w' : World} (h : Out w b lv ts fin deep R p e w') :
    (∃ a r v, Hid (p = .ok (a, r)) ∧ e = .returned v ∧ R a v w' ∧ w.grownBy w' (some b) ∧ PW w' b lv ts r fin deep) ∨ (∃ r, Hid (p = .error r) ∧ Thrown (posOf r fin) e ∧ w.grownBy w' (some b)) := by
  unfold Out at h
  split at h
  · obtain ⟨v, h⟩ := h; exact .inl ⟨_, _, v, Lib.hid rfl, h⟩
  · exact .inr ⟨_, Lib.hid rfl, h⟩

theorem out_ok {α : Type} {w : World} {b : Nat} {lv : Value} {ts : List Tok} {fin deep : Int} {R : α → Value → World → Prop} {p : PR α} {a : α} {r : List Tok} {v : Value} {w' : World} (hp : p = .ok (a, r)) (hR : R a v w') (hg : w.grownBy w' (some b)) (hw : PW w' b lv ts r fin deep) :
    Out w b lv ts fin deep R p (.returned v) w' := by
  subst hp; exact ⟨v, rfl, hR, hg, hw⟩
theorem out_error {α : Type} {w : World} {b : Nat} {lv : Value} {ts : List Tok} {fin deep : Int} {R : α → Value → World → Prop} {p : PR α} {r : List Tok} {e : Ending} {w' : World} (hp : p = .error r) (he : Thrown (posOf r fin) e) (hg : w.grownBy w' (some b)) :
    Out w b lv ts fin deep R p e w' := by
  subst hp; exact ⟨he, hg⟩

/-- Results of the parser's small functions. -/
def RStr (s : List UInt8) (v : Value) (_ : World) : Prop := v = .string (bs s)
def RInt (n : Int) (v : Value) (_ : World) : Prop := v = .int .i64 n
def RUnit (_ : Unit) (v : Value) (_ : World) : Prop := v = .tuple #[]

theorem posOf_cons (t : Tok) (r : List Tok) (fin : Int) : posOf (t :: r) fin = t.pos := rfl
theorem posOf_nil (fin : Int) : posOf [] fin = fin := rfl

/-! ### Trees -/
/-- A struct of three cells at a place. -/
def At3 (w : World) (g o : Nat) (v : Value) : Prop := ∃ x y z, v = .agg #[x, y, z] ∧ w.cell? ⟨g, o, none⟩ = some x ∧ w.cell? ⟨g, o + 1, none⟩ = some y ∧ w.cell? ⟨g, o + 2, none⟩ = some z

mutual
/-- A tree's value in memory; its blocks are such as may be. -/
def NdIs (ok : Nat → Prop) (w : World) : Nd → Value → Prop
  | .mk k s l, v => ∃ a cap, v = .agg #[.int .i64 k, .string (bs s), .slice a l.length cap] ∧ l.length ≤ 9223372036854775807 ∧ (l = [] ∨ ∃ g o, a = some ⟨g, o, none⟩ ∧ ok g ∧ g < w.heap.size ∧ NdsIs ok w g o l)
def NdsIs (ok : Nat → Prop) (w : World) (g : Nat) : Nat → List Nd → Prop
  | _, [] => True
  | o, n :: l => (∃ v, At3 w g o v ∧ NdIs ok w n v) ∧ NdsIs ok w g (o + 3) l
end

theorem At3.kept {w w' : World} {g o : Nat} {v : Value} (h : At3 w g o v) (hb : w'.heap[g]? = w.heap[g]?) : At3 w' g o v := by
  obtain ⟨x, y, z, rfl, h1, h2, h3⟩ := h
  exact ⟨x, y, z, rfl, (World.cell?_of_block (a := ⟨g, o, none⟩) hb).trans h1, (World.cell?_of_block (a := ⟨g, o + 1, none⟩) hb).trans h2, (World.cell?_of_block (a := ⟨g, o + 2, none⟩) hb).trans h3⟩

mutual
theorem NdIs.kept {ok ok' : Nat → Prop} {w w' : World} (hs : w.heap.size ≤ w'.heap.size) (hb : ∀ g, g < w.heap.size → ok g → w'.heap[g]? = w.heap[g]? ∧ ok' g) : ∀ (n : Nd) (v : Value), NdIs ok w n v → NdIs ok' w' n v
  | .mk k s l, v => by
    intro h
    unfold NdIs at h ⊢
    obtain ⟨a, cap, rfl, hl, h⟩ := h
    refine ⟨a, cap, rfl, hl, ?_⟩
    rcases h with h | ⟨g, o, rfl, ho, hg, hr⟩
    · exact .inl h
    · exact .inr ⟨g, o, rfl, (hb g hg ho).2, Nat.lt_of_lt_of_le hg hs, NdsIs.kept hs hb l g o hg ho hr⟩
theorem NdsIs.kept {ok ok' : Nat → Prop} {w w' : World} (hs : w.heap.size ≤ w'.heap.size) (hb : ∀ g, g < w.heap.size → ok g → w'.heap[g]? = w.heap[g]? ∧ ok' g) : ∀ (l : List Nd) (g o : Nat), g < w.heap.size → ok g → NdsIs ok w g o l → NdsIs ok' w' g o l
  | [], _, _, _, _ => fun _ => trivial
  | n :: l, g, o, hg, ho => by
    intro h
    unfold NdsIs at h ⊢
    obtain ⟨⟨v, h1, h2⟩, h3⟩ := h
    exact ⟨⟨v, h1.kept (hb g hg ho).1, NdIs.kept hs hb n v h2⟩, NdsIs.kept hs hb l g (o + 3) hg ho h3⟩
end

/-- Trees in blocks from B on. -/
theorem NdIs.grown {w w' : World} {b B : Nat} {n : Nd} {v : Value} (h : NdIs (B ≤ ·) w n v) (hg : w.grownBy w' (some b)) (hb : b < B) : NdIs (B ≤ ·) w' n v :=
  NdIs.kept hg.size (fun g hl ho => ⟨hg.block g hl (by intro e; have := Option.some.inj e; have : B ≤ g := ho; omega), ho⟩) n v h
theorem NdIs.from {w : World} {B B' : Nat} {n : Nd} {v : Value} (h : NdIs (B ≤ ·) w n v) (hb : B' ≤ B) : NdIs (B' ≤ ·) w n v :=
  NdIs.kept (Nat.le_refl _) (fun _ _ ho => ⟨rfl, Nat.le_trans hb ho⟩) n v h
theorem NdIs.agg {ok : Nat → Prop} {w : World} {n : Nd} {v : Value} (h : NdIs ok w n v) : ∃ k s a m cap, v = .agg #[.int .i64 k, .string s, .slice a m cap] := by
  cases n
  unfold NdIs at h
  obtain ⟨a, cap, rfl, _⟩ := h
  exact ⟨_, _, _, _, _, rfl⟩

theorem NdIs.leaf (ok : Nat → Prop) (w : World) (k : Int) (s : List UInt8) (cap : Nat) (a : Option Addr) : NdIs ok w (.mk k s []) (.agg #[.int .i64 k, .string (bs s), .slice a 0 cap]) := by
  unfold NdIs
  exact ⟨a, cap, rfl, by simp, .inl rfl⟩
end Go.Proofs.YtgnjaneddidbbaaDoor
