/-
  LexBlanks: what the walk of the law needs.
-/
import Derived.Test.YtgnjaneddidbbaaDoorLexKnown
import Derived.Test.YtgnjaneddidbbaaDoorLexBlank
import Derived.Deep.QuietTactic
import Derived.BigQuiet
namespace Go.Proofs.YtgnjaneddidbbaaDoor
open Go Go.ChangeShapes Go.WideShapes Go.ChangeAt Go.WideMaps Go.WideElems Go.RowKit

theorem tok_cell (ts : List Tok) : ∀ (i : Nat) (t : Tok) (f : Nat) (u : Value), ts[i]? = some t → (tokCells t)[f]? = some u → (ts.flatMap tokCells)[i * 4 + f]? = some u := by
  induction ts with
  | nil => intro i t f u h; simp at h
  | cons x ts ih =>
    intro i t f u h hf
    have hf4 : f < 4 := (List.getElem?_eq_some_iff.1 hf).1
    cases i with
    | zero =>
      obtain rfl : x = t := by simpa using h
      rw [List.flatMap_cons, List.getElem?_append_left (by simp [tokCells]; omega)]
      simpa using hf
    | succ i =>
      have := ih i t f u (by simpa using h) hf
      rw [List.flatMap_cons, List.getElem?_append_right (by simp [tokCells]; omega), ← this]
      congr 1
      simp [tokCells]
      omega

theorem bs_app (l r : List UInt8) : bs l ++ bs r = bs (l ++ r) := by
  refine bs_eq ?_
  simp [bs]

theorem infoInt : (Tryd.prog.info? 3).map (fun i => (i.zero, i.size, i.bytes)) = some (some (.int .i64 0), 1, 8) := by kernel_rfl

def ints (ns : List Nat) : List Value := ns.map fun n : Nat => Value.int .i64 (n : Int)

/-- Where the first loop stands. -/
def Putting (ts : List Tok) (i : Nat) (T : List UInt8) (ps : List Nat) : Prop :=
  T.length ≤ 2200 * i ∧ ps.length = i ∧ ∃ acc : List Tok, Built T acc ∧ acc.length = i ∧ ∀ (j : Nat) (t : Tok), j < i → ts[j]? = some t → ∃ p, ps[j]? = some p ∧ acc[j]? = some ⟨t.kind, t.text, t.num, p⟩

/-- What the last loop reads: the tokens, those of the other text, the places. -/
def FinAt (w : World) (g1 g2 g3 : Nat) (ts : List Tok) (n : Nat) : Prop :=
  ∀ (j : Nat) (t : Tok), j < n → ts[j]? = some t → ∃ p : Nat, (∀ (f : Nat) (u : Value), (tokCells t)[f]? = some u → w.cell? ⟨g1, j * 4 + f, none⟩ = some u) ∧
    (∀ (f : Nat) (u : Value), (tokCells ⟨t.kind, t.text, t.num, p⟩)[f]? = some u → w.cell? ⟨g3, j * 4 + f, none⟩ = some u) ∧ w.cell? ⟨g2, j, none⟩ = some (.int .i64 (p : Int))

theorem putting_nil (ts : List Tok) : Putting ts 0 [] [] := ⟨by simp, rfl, [], built_nil, rfl, fun j t h => by omega⟩

theorem putting_step {s : List UInt8} {ts : List Tok} {i : Nat} {T G : List UInt8} {ps : List Nat} {t : Tok} (h : Putting ts i T ps) (ht : ts[i]? = some t) (hs : s.length ≤ 2000) (hok : TokOk s t) (hg : Gap G) (hl : G.length ≤ 161) :
    Putting ts (i + 1) (T ++ G ++ t.text) (ps ++ [(T ++ G).length]) := by
  obtain ⟨h1, h2, acc, h3, h4, h5⟩ := h
  have h6 := hok.fits
  refine ⟨by simp only [List.length_append]; omega, by simp [h2], _, built_step h3 hg hok, by simp [h4], fun j t' hj ht' => ?_⟩
  by_cases hji : j < i
  · obtain ⟨p, hp, ha⟩ := h5 j t' hji ht'
    exact ⟨p, by rw [List.getElem?_append_left (by omega)]; exact hp, by rw [List.getElem?_append_left (by omega)]; exact ha⟩
  · obtain rfl : j = i := by omega
    obtain rfl : t = t' := by rw [ht] at ht'; exact Option.some.inj ht'
    exact ⟨(T ++ G).length, by rw [List.getElem?_append_right (by omega), h2]; simp, by rw [List.getElem?_append_right (by omega), h4]; simp⟩

theorem ints_snoc (ps : List Nat) (p : Nat) : ints (ps ++ [p]) = ints ps ++ [.int .i64 (p : Int)] := by simp [ints]
theorem ints_get {ps : List Nat} {j p : Nat} (h : ps[j]? = some p) : (ints ps)[j]? = some (.int .i64 (p : Int)) := by simp [ints, h]

theorem owns_len {w : World} {B : Nat} {e : TypeId} {size : Nat} {v : Value} {n : Nat} {xs : List Value} (h : w.ownsRow B e size v n xs) : n ≤ 9223372036854775807 := by
  obtain ⟨_, ⟨_, h0⟩ | ⟨g, cap, cur, _, _, _, hc, hm, _⟩⟩ := h
  · omega
  · unfold maxLen at hm; omega

end Go.Proofs.YtgnjaneddidbbaaDoor
