/-
  Statements as an argument: what reads as a row of them is one in memory; how long their text may be. No walk.
  The reference's Size: it answers; memory stays.
-/
import Derived.Test.YtdjklnlkocconaaGreatDoorSmAZ
import Derived.Test.YtdjklnlkocconaaGreatDoorLnBZ
import Derived.Deep.Strs
import Derived.Deep.RegionHeld3
import Derived.StillTailTactics
namespace Go.Proofs.YtdjklnlkocconaaGreatDoor
open Go Go.ChangeShapes Go.WideShapes Go.ChangeAt Go.WideMaps Go.WideElems Go.RowKit

theorem choose_list {α : Type} (n : Nat) (p : Nat → α → Prop) (h : ∀ i, i < n → ∃ x, p i x) : ∃ l : List α, l.length = n ∧ ∀ i x, l[i]? = some x → p i x := by
  induction n with
  | zero => exact ⟨[], rfl, fun i x e => by simp at e⟩
  | succ n ih =>
    obtain ⟨l, hl, hp⟩ := ih fun i hi => h i (by omega)
    obtain ⟨x, hx⟩ := h n (by omega)
    refine ⟨l ++ [x], by simp [hl], fun i y e => ?_⟩
    by_cases hi : i < n
    · rw [List.getElem?_append_left (by omega)] at e
      exact hp i y e
    · have hlt : i < (l ++ [x]).length := (List.getElem?_eq_some_iff.1 e).1
      simp at hlt
      obtain rfl : i = n := by omega
      rw [List.getElem?_append_right (by omega), hl, Nat.sub_self] at e
      cases e
      exact hx

theorem ndsIs_of {w : World} {g : Nat} : ∀ (l : List Nd) (o : Nat), (∀ i x, l[i]? = some x → ∃ v, At3 w g (o + i * 3) v ∧ NdIs Any w x v) → NdsIs Any w g o l
  | [], _, _ => by simp [NdsIs]
  | n :: l, o, h => by
    unfold NdsIs
    refine ⟨?_, ndsIs_of l (o + 3) fun i x hx => ?_⟩
    · obtain ⟨v, h1, h2⟩ := h 0 n rfl
      rw [Nat.zero_mul, Nat.add_zero] at h1
      exact ⟨v, h1, h2⟩
    · obtain ⟨v, h1, h2⟩ := h (i + 1) x hx
      rw [show o + (i + 1) * 3 = o + 3 + i * 3 by omega] at h1
      exact ⟨v, h1, h2⟩

theorem list3 {α : Type} {cs : List α} (h : cs.length = 3) : ∃ c0 c1 c2, cs = [c0, c1, c2] := by
  match cs, h with
  | [c0, c1, c2], _ => exact ⟨c0, c1, c2, rfl⟩
theorem list13 {α : Type} {cs : List α} (h : cs.length = 13) : ∃ c0 c1 c2 c3 c4 c5 c6 c7 c8 c9 c10 c11 c12, cs = [c0, c1, c2, c3, c4, c5, c6, c7, c8, c9, c10, c11, c12] := by
  match cs, h with
  | [c0, c1, c2, c3, c4, c5, c6, c7, c8, c9, c10, c11, c12], _ => exact ⟨c0, c1, c2, c3, c4, c5, c6, c7, c8, c9, c10, c11, c12, rfl⟩

theorem cellsInt : Tryz.prog.cellsOf 3 = 1 := by kernel_rfl
theorem cellsStr : Tryz.prog.cellsOf 9 = 1 := by kernel_rfl
theorem cellsBool : Tryz.prog.cellsOf 4 = 1 := by kernel_rfl
theorem cellsKids : Tryz.prog.cellsOf 35 = 1 := by kernel_rfl
theorem cellsNode : Tryz.prog.cellsOf 37 = 3 := by kernel_rfl
theorem cellsStmt : Tryz.prog.cellsOf 39 = 13 := by kernel_rfl

theorem add_none (g o j : Nat) : (⟨g, o, none⟩ : Addr).add j = ⟨g, o + j, none⟩ := by
  unfold Addr.add
  split
  · rename_i h; subst h; rfl
  · rfl
theorem add_add (a : Addr) (i j : Nat) : (a.add i).add j = a.add (i + j) := Deep.add_add a i j

/-- An address at which a cell is: its block is there, and it is a plain one. -/
theorem addr_plain {w : World} {a : Addr} {u : Value} (h : w.cell? a = some u) : ∃ g o, a = ⟨g, o, none⟩ ∧ g < w.heap.size := by
  obtain ⟨g, o, s⟩ := a
  have hlt := World.block_lt_of_cell? _ _ h
  unfold World.cell? at h
  split at h
  · cases s with
    | none => exact ⟨g, o, rfl, hlt⟩
    | some s => simp at h
  · cases h

theorem bs_back (s : ByteArray) : s = bs s.data.toList := by
  cases s
  rfl

def bulk {H : Type} (x : DataW H × List MemPlace) : Nat := Rows.uptoBulk x.1

theorem bulk_mem {H : Type} {d : DataW H} {l : List (DataW H)} (h : d ∈ l) : Rows.uptoBulk d ≤ Rows.uptoBulkAll l := by
  induction l with
  | nil => cases h
  | cons x r ih =>
    simp only [Rows.uptoBulkAll]
    rcases List.mem_cons.1 h with rfl | h
    · omega
    · have := ih h; omega

/-- A tree's text. -/
theorem textP_le (k : Int) (s : List UInt8) (l : List Nd) (lvl : Int) : (textP (.mk k s l) lvl).length ≤ 6 + s.length + 7 + (match l with | [a, b] => (textP a (joinS k)).length + (textP b (joinS k + 1)).length | _ => 0) := by
  have hj := joinW_len k
  rw [textP_un]
  split
  · omega
  · split
    · show w_empty.length ≤ _
      have : w_empty.length = 5 := rfl
      omega
    · split
      · simp; omega
      · split
        · simp only [List.length_append]
          split <;> simp <;> omega
        · simp

section
variable {H : Type} {enc : TypeId × Value → H} {W : World}

set_option maxRecDepth 100000 in
/-- What reads as a node is a tree. -/
theorem open_nd (fuel : Nat) : ∀ (cs : List Value) (x : DataW H × List MemPlace), DataW.trod enc Tryz.prog W 0 (fun _ => true) true fuel 37 cs = some x →
    ∃ (n : Nd) (A : NV), cs = [.int .i64 A.k, .string A.s, .slice A.a A.n A.c] ∧ NdIs Any W n A.val ∧ ∀ lvl, (textP n lvl).length + 14 ≤ 14 * Rows.uptoBulk x.1 := by
  induction fuel using Nat.strongRecOn with
  | ind fuel ih =>
    intro cs x h
    obtain ⟨xs, n1, rfl, rfl, hl, hlen, hf⟩ := DataW.trod_struct Tryz.underlying37 h
    rw [cellsNode] at hl
    match xs, hlen with
    | [y0, y1, y2], _ =>
      have f0 : DataW.trod enc Tryz.prog W 0 (fun _ => true) true n1 3 ((cs.drop 0).take (Tryz.prog.cellsOf 3)) = some y0 := hf 0 _ rfl
      rw [cellsInt] at f0
      have f1 : DataW.trod enc Tryz.prog W 0 (fun _ => true) true n1 9 ((cs.drop 1).take (Tryz.prog.cellsOf 9)) = some y1 := hf 1 _ rfl
      rw [cellsStr] at f1
      have f2 : DataW.trod enc Tryz.prog W 0 (fun _ => true) true n1 35 ((cs.drop 2).take (Tryz.prog.cellsOf 35)) = some y2 := hf 2 _ rfl
      rw [cellsKids] at f2
      obtain ⟨c0, c1, c2, rfl⟩ := list3 hl
      · skip
        have g0 : DataW.trod enc Tryz.prog W 0 (fun _ => true) true n1 3 [c0] = some y0 := f0
        have g1 : DataW.trod enc Tryz.prog W 0 (fun _ => true) true n1 9 [c1] = some y1 := f1
        have g2 : DataW.trod enc Tryz.prog W 0 (fun _ => true) true n1 35 [c2] = some y2 := f2
        obtain ⟨k, e0, rfl, _⟩ := DataW.trod_int Tryz.underlying3 g0
        obtain ⟨s, e1, rfl, hs⟩ := DataW.trod_string Tryz.underlying9 g1
        cases e0
        cases e1
        rcases DataW.trod_slice Tryz.underlying35 g2 with ⟨e2, rfl⟩ | ⟨a, len, cap, elems, rest, n2, rfl, e2, rfl, _, hlc, hcm, hel, hat, _, _⟩
        · cases e2
          refine ⟨.mk k s.data.toList [], ⟨k, s, none, 0, 0⟩, rfl, ?_, fun lvl => ?_⟩
          · unfold NdIs NV.val
            exact ⟨none, 0, by rw [← bs_back]; rfl, by simp, .inl rfl⟩
          · have := textP_le k s.data.toList [] lvl
            simp only [List.map_cons, List.map_nil, Rows.uptoBulk, Rows.uptoBulkAll]
            simp only at this
            omega
        · cases e2
          rw [cellsNode] at hat
          obtain ⟨l, hll, hq⟩ := choose_list len (fun i (n : Nd) => ∃ (A : NV) (csi : List Value) (y : DataW H × List MemPlace), W.cells? 0 (a.add (i * 3)) 3 = some csi ∧ elems[i]? = some y ∧ csi = [.int .i64 A.k, .string A.s, .slice A.a A.n A.c] ∧ NdIs Any W n A.val ∧ ∀ lvl, (textP n lvl).length + 14 ≤ 14 * Rows.uptoBulk y.1) (by
            intro i hi
            have h1 := hat i hi
            rw [List.getElem?_eq_getElem (by omega)] at h1
            obtain ⟨csi, h2, h3⟩ := Option.bind_eq_some_iff.1 h1
            obtain ⟨n, A, h4, h5, h6⟩ := ih n2 (by omega) csi _ h3
            exact ⟨n, A, csi, _, h2, List.getElem?_eq_getElem _, h4, h5, h6⟩)
          refine ⟨.mk k s.data.toList l, ⟨k, s, some a, len, cap⟩, rfl, ?_, fun lvl => ?_⟩
          · unfold NdIs NV.val
            refine ⟨some a, cap, by rw [← bs_back, hll], by unfold maxLen at hcm; omega, ?_⟩
            cases l with
            | nil => exact .inl rfl
            | cons x0 l0 =>
              obtain ⟨A0, cs0, y0, h2, _, rfl, _⟩ := hq 0 x0 rfl
              obtain ⟨_, _, h3⟩ := World.cells?_some h2
              have h4 := h3 0 (by decide)
              rw [add_add, Nat.zero_mul, Nat.add_zero] at h4
              have h5 : W.cell? a = some (.int .i64 A0.k) := h4
              obtain ⟨g, o, rfl, hg⟩ := addr_plain h5
              refine .inr ⟨g, o, rfl, trivial, hg, ndsIs_of _ _ fun i n hn => ?_⟩
              obtain ⟨A, csi, y, k1, _, rfl, k2, _⟩ := hq i n hn
              obtain ⟨_, _, k3⟩ := World.cells?_some k1
              refine ⟨A.val, ⟨.int .i64 A.k, .string A.s, .slice A.a A.n A.c, rfl, ?_, ?_, ?_⟩, k2⟩
              · have := k3 0 (by decide); rw [add_add, add_none] at this; exact this
              · have := k3 1 (by decide); rw [add_add, add_none] at this; exact this
              · have := k3 2 (by decide); rw [add_add, add_none] at this; exact this
          · have ht := textP_le k s.data.toList l lvl
            simp only [List.map_cons, List.map_nil, Rows.uptoBulk, Rows.uptoBulkAll]
            match l, hll, hq, ht with
            | [], _, _, ht => simp only at ht; omega
            | [_], _, _, ht => simp only at ht; omega
            | [p, q], hll, hq, ht =>
              obtain ⟨_, _, y0, _, h2, _, _, h3⟩ := hq 0 p rfl
              obtain ⟨_, _, y1, _, h4, _, _, h5⟩ := hq 1 q rfl
              have h6 := h3 (joinS k)
              have h7 := h5 (joinS k + 1)
              simp only at ht
              match elems, hel, h2, h4 with
              | [z0, z1], _, h2, h4 =>
                cases h2
                cases h4
                simp only [List.map_cons, List.map_nil, Rows.uptoBulkAll]
                omega
              | [], hel, _, _ => simp at hel; simp at hll; omega
              | [_], hel, _, _ => simp at hel; simp at hll; omega
              | _ :: _ :: _ :: _, hel, _, _ => simp at hel; simp at hll; omega
            | _ :: _ :: _ :: _, _, _, ht => simp only at ht; omega

/-- A statement's text. -/
theorem lineP_le (x : St) (hr : Rng x.n ∧ Rng x.d ∧ Rng x.k) : (lineP x).length ≤ x.name.length + (textP x.a 0).length + (textP x.b 0).length + 100 := by
  have h1 : (numT x.n).length ≤ 21 := Lib.itoa_length_le _ hr.1.1 hr.1.2
  have h2 : (numT x.d).length ≤ 21 := Lib.itoa_length_le _ hr.2.1.1 hr.2.1.2
  have h3 : (numT x.k).length ≤ 21 := Lib.itoa_length_le _ hr.2.2.1 hr.2.2.2
  have h4 := stWord_len x.kind
  have h5 := ruleW_len x.rule
  unfold lineP
  split
  · simp
  · split
    · simp only [List.length_append, List.length_cons, List.length_nil]; omega
    · split
      · simp only [List.length_append, List.length_cons, List.length_nil]; omega
      · split
        · split
          · simp only [List.length_append, List.length_cons, List.length_nil]; omega
          · simp only [List.length_append, List.length_cons, List.length_nil]
            split <;> simp <;> omega
        · split
          · simp only [List.length_append, List.length_cons, List.length_nil]
            split <;> simp <;> omega
          · simp only [List.length_append, List.length_cons, List.length_nil]
            split <;> simp <;> omega

theorem rng_of_wf {n : Int} (h : (Lit.int .i64 n).wf = true) : Rng n := by
  simp [Lit.wf, IntKind.min, IntKind.max, IntKind.bits, IntKind.signed] at h
  unfold Rng
  omega

set_option maxRecDepth 100000 in
/-- What reads as a statement is one. -/
theorem open_st (fuel : Nat) (cs : List Value) (x : DataW H × List MemPlace) (h : DataW.trod enc Tryz.prog W 0 (fun _ => true) true fuel 39 cs = some x) :
    ∃ (t : St) (A B : NV), cs = stCells t A B ∧ NdIs Any W t.a A.val ∧ NdIs Any W t.b B.val ∧ (Rng t.n ∧ Rng t.d ∧ Rng t.k) ∧ (lineP t).length ≤ 14 * Rows.uptoBulk x.1 + 100 := by
  obtain ⟨xs, n1, rfl, rfl, hl, hlen, hf⟩ := DataW.trod_struct Tryz.underlying39 h
  rw [cellsStmt] at hl
  match xs, hlen with
  | [y0, y1, y2, y3, y4, y5, y6, y7, y8], _ =>
    have f0 : DataW.trod enc Tryz.prog W 0 (fun _ => true) true n1 3 ((cs.drop 0).take (Tryz.prog.cellsOf 3)) = some y0 := hf 0 _ rfl
    rw [cellsInt] at f0
    have f1 : DataW.trod enc Tryz.prog W 0 (fun _ => true) true n1 9 ((cs.drop 1).take (Tryz.prog.cellsOf 9)) = some y1 := hf 1 _ rfl
    rw [cellsStr] at f1
    have f2 : DataW.trod enc Tryz.prog W 0 (fun _ => true) true n1 37 ((cs.drop 2).take (Tryz.prog.cellsOf 37)) = some y2 := hf 2 _ rfl
    rw [cellsNode] at f2
    have f3 : DataW.trod enc Tryz.prog W 0 (fun _ => true) true n1 37 ((cs.drop 5).take (Tryz.prog.cellsOf 37)) = some y3 := hf 3 _ rfl
    rw [cellsNode] at f3
    have f4 : DataW.trod enc Tryz.prog W 0 (fun _ => true) true n1 3 ((cs.drop 8).take (Tryz.prog.cellsOf 3)) = some y4 := hf 4 _ rfl
    rw [cellsInt] at f4
    have f5 : DataW.trod enc Tryz.prog W 0 (fun _ => true) true n1 3 ((cs.drop 9).take (Tryz.prog.cellsOf 3)) = some y5 := hf 5 _ rfl
    rw [cellsInt] at f5
    have f6 : DataW.trod enc Tryz.prog W 0 (fun _ => true) true n1 3 ((cs.drop 10).take (Tryz.prog.cellsOf 3)) = some y6 := hf 6 _ rfl
    rw [cellsInt] at f6
    have f7 : DataW.trod enc Tryz.prog W 0 (fun _ => true) true n1 3 ((cs.drop 11).take (Tryz.prog.cellsOf 3)) = some y7 := hf 7 _ rfl
    rw [cellsInt] at f7
    have f8 : DataW.trod enc Tryz.prog W 0 (fun _ => true) true n1 4 ((cs.drop 12).take (Tryz.prog.cellsOf 4)) = some y8 := hf 8 _ rfl
    rw [cellsBool] at f8
    obtain ⟨c0, c1, c2, c3, c4, c5, c6, c7, c8, c9, c10, c11, c12, rfl⟩ := list13 hl
    · skip
      have g0 : DataW.trod enc Tryz.prog W 0 (fun _ => true) true n1 3 [c0] = some y0 := f0
      have g1 : DataW.trod enc Tryz.prog W 0 (fun _ => true) true n1 9 [c1] = some y1 := f1
      have g2 : DataW.trod enc Tryz.prog W 0 (fun _ => true) true n1 37 [c2, c3, c4] = some y2 := f2
      have g3 : DataW.trod enc Tryz.prog W 0 (fun _ => true) true n1 37 [c5, c6, c7] = some y3 := f3
      have g4 : DataW.trod enc Tryz.prog W 0 (fun _ => true) true n1 3 [c8] = some y4 := f4
      have g5 : DataW.trod enc Tryz.prog W 0 (fun _ => true) true n1 3 [c9] = some y5 := f5
      have g6 : DataW.trod enc Tryz.prog W 0 (fun _ => true) true n1 3 [c10] = some y6 := f6
      have g7 : DataW.trod enc Tryz.prog W 0 (fun _ => true) true n1 3 [c11] = some y7 := f7
      have g8 : DataW.trod enc Tryz.prog W 0 (fun _ => true) true n1 4 [c12] = some y8 := f8
      obtain ⟨kind, e0, rfl, _⟩ := DataW.trod_int Tryz.underlying3 g0
      obtain ⟨s, e1, rfl, _⟩ := DataW.trod_string Tryz.underlying9 g1
      obtain ⟨na, A, e2, ha, ta⟩ := open_nd n1 _ _ g2
      obtain ⟨nb, B, e3, hb, tb⟩ := open_nd n1 _ _ g3
      obtain ⟨rule, e4, rfl, _⟩ := DataW.trod_int Tryz.underlying3 g4
      obtain ⟨n, e5, rfl, w5⟩ := DataW.trod_int Tryz.underlying3 g5
      obtain ⟨d, e6, rfl, w6⟩ := DataW.trod_int Tryz.underlying3 g6
      obtain ⟨k, e7, rfl, w7⟩ := DataW.trod_int Tryz.underlying3 g7
      obtain ⟨snap, e8, rfl⟩ := DataW.trod_bool Tryz.underlying4 g8
      cases e0; cases e1; cases e2; cases e3; cases e4; cases e5; cases e6; cases e7; cases e8
      have hr : Rng n ∧ Rng d ∧ Rng k := ⟨rng_of_wf w5, rng_of_wf w6, rng_of_wf w7⟩
      refine ⟨⟨kind, s.data.toList, na, nb, rule, n, d, k, snap⟩, A, B, by simp only [stCells]; rw [← bs_back], ha, hb, hr, ?_⟩
      have := lineP_le ⟨kind, s.data.toList, na, nb, rule, n, d, k, snap⟩ hr
      have h1 := ta 0
      have h2 := tb 0
      simp only [List.map_cons, List.map_nil, Rows.uptoBulk, Rows.uptoBulkAll]
      simp only at this
      omega

set_option maxRecDepth 100000 in
/-- What reads as a row of statements is one. -/
theorem open_sts {v : Value} {d : DataW H} {p : List MemPlace} {r : Reach} {b0 : Nat} (hv : Value.okWide Tryz.prog W r b0 22 v) (h : DataW.Trod enc Tryz.prog W 0 (fun _ => true) true 22 v d p) :
    ∃ l : List St, StsIs W v l ∧ ∀ x ∈ l, (Rng x.n ∧ Rng x.d ∧ Rng x.k) ∧ (lineP x).length ≤ 14 * Rows.uptoBulk d + 100 := by
  obtain ⟨fuel, hf⟩ := h
  obtain ⟨a0, len0, cap0, rfl⟩ := okWide_slice Tryz.underlying22 hv
  have hone : (Value.slice a0 len0 cap0).cells.toList = [.slice a0 len0 cap0] := rfl
  rw [hone] at hf
  rcases DataW.trod_slice Tryz.underlying22 hf with ⟨e2, _⟩ | ⟨a, len, cap, elems, rest, n2, rfl, e2, e3, _, hlc, hcm, hel, hat, _, _⟩
  · cases e2
    exact ⟨[], ⟨by simp, none, 0, rfl, .inl rfl⟩, fun x hx => by cases hx⟩
  · cases e2
    cases e3
    rw [cellsStmt] at hat
    obtain ⟨l, hll, hq⟩ := choose_list len0 (fun i (t : St) => ∃ (A B : NV) (y : DataW H × List MemPlace), W.cells? 0 (a.add (i * 13)) 13 = some (stCells t A B) ∧ elems[i]? = some y ∧ NdIs Any W t.a A.val ∧ NdIs Any W t.b B.val ∧ (Rng t.n ∧ Rng t.d ∧ Rng t.k) ∧ (lineP t).length ≤ 14 * Rows.uptoBulk y.1 + 100) (by
      intro i hi
      have h1 := hat i hi
      rw [List.getElem?_eq_getElem (by omega)] at h1
      obtain ⟨csi, h2, h3⟩ := Option.bind_eq_some_iff.1 h1
      obtain ⟨t, A, B, rfl, h5, h6, h7, h8⟩ := open_st n2 csi _ h3
      exact ⟨t, A, B, _, h2, List.getElem?_eq_getElem _, h5, h6, h7, h8⟩)
    refine ⟨l, ⟨by unfold maxLen at hcm; omega, some a, cap0, by rw [hll], ?_⟩, fun x hx => ?_⟩
    · cases l with
      | nil => exact .inl rfl
      | cons x0 l0 =>
        obtain ⟨A0, B0, y0, h2, _⟩ := hq 0 x0 rfl
        obtain ⟨_, _, h3⟩ := World.cells?_some h2
        have h4 := h3 0 (by decide)
        rw [add_add, Nat.zero_mul, Nat.add_zero] at h4
        have h5 : W.cell? a = some (.int .i64 x0.kind) := h4
        obtain ⟨g, o, rfl, hg⟩ := addr_plain h5
        refine .inr ⟨g, o, rfl, hg, ?_⟩
        have key : ∀ (l : List St) (o' : Nat), (∀ i t, l[i]? = some t → ∃ A B : NV, W.cells? 0 ⟨g, o' + i * 13, none⟩ 13 = some (stCells t A B) ∧ NdIs Any W t.a A.val ∧ NdIs Any W t.b B.val) → ∃ cs, (∀ j u, cs[j]? = some u → W.cell? ⟨g, o' + j, none⟩ = some u) ∧ StRow Any W l cs := by
          intro l
          induction l with
          | nil => intro o' _; exact ⟨[], fun j u hu => by simp at hu, rfl⟩
          | cons t l ih =>
            intro o' hh
            obtain ⟨A, B, k1, k2, k3⟩ := hh 0 t rfl
            obtain ⟨cs, k4, k5⟩ := ih (o' + 13) (fun i t' ht' => by
              obtain ⟨A', B', q1, q2, q3⟩ := hh (i + 1) t' ht'
              rw [show o' + (i + 1) * 13 = o' + 13 + i * 13 by omega] at q1
              exact ⟨A', B', q1, q2, q3⟩)
            refine ⟨stCells t A B ++ cs, fun j u hu => ?_, A, B, cs, rfl, k2, k3, k5⟩
            by_cases hj : j < 13
            · rw [List.getElem?_append_left (by rw [stCells_length]; exact hj)] at hu
              obtain ⟨_, _, k6⟩ := World.cells?_some k1
              have := k6 j hj
              rw [add_none, Nat.zero_mul, Nat.add_zero] at this
              rw [this, hu]
            · rw [List.getElem?_append_right (by rw [stCells_length]; omega), stCells_length] at hu
              have := k4 _ _ hu
              rw [show o' + 13 + (j - 13) = o' + j by omega] at this
              exact this
        exact key _ o fun i t ht => by
          obtain ⟨A, B, y, q1, _, q2, q3, _⟩ := hq i t ht
          rw [add_none] at q1
          exact ⟨A, B, q1, q2, q3⟩
    · obtain ⟨i, hi⟩ := List.getElem?_of_mem hx
      obtain ⟨A, B, y, _, h2, _, _, h3, h4⟩ := hq i x hi
      refine ⟨h3, ?_⟩
      have h5 := bulk_mem (List.mem_map_of_mem (f := Prod.fst) (List.mem_of_getElem? h2))
      have h6 : Rows.uptoBulk (DataW.slice (elems.map (·.1)) (rest.map (·.1))) = Rows.uptoBulkAll (elems.map (·.1)) + Rows.uptoBulkAll (rest.map (·.1)) + 1 := by rw [Rows.uptoBulk]
      have h7 : Rows.uptoBulk y.1 ≤ Rows.uptoBulkAll (elems.map (·.1)) := h5
      rw [h6]
      omega
end
end Go.Proofs.YtdjklnlkocconaaGreatDoor

namespace Go.Proofs.YtdjklnlkocconaaGreatDoor
open Go Go.RowKit

/-- What Size does at a tree. -/
def SizeC (n : Nd) : Prop := ∀ (most : Int) (v : Value) (w : World), 1 ≤ most → most ≤ 300 → NdIs Any w n v →
  Calls Tryz.prog 18 #[v, .int .i64 most] w fun e w' => (∃ q : Int, e = .returned (.int .i64 q) ∧ 1 ≤ q ∧ q ≤ most) ∧ w.grownBy w' none

def SzAt (w : World) (n : Nat) (most : Int) (k : Nat) (u z : Value) (wr : World) : Prop := ∃ (i : Nat) (q : Int), u = .int .i64 q ∧ z = .int .i64 i ∧ i ≤ n ∧ n < k + i ∧ 1 ≤ q ∧ q ≤ most ∧ w.grownBy wr none

set_option maxHeartbeats 2000000 in
set_option maxRecDepth 100000 in
theorem size_step (k : Int) (s : List UInt8) (l : List Nd) (ih : ∀ x ∈ l, SizeC x) : SizeC (.mk k s l) := by
  intro most v1 w hm1 hm2 h1
  unfold NdIs at h1
  obtain ⟨a1, c1, rfl, hl, h1⟩ := h1
  have H1 := Lib.hid (fun i x (hx : l[i]? = some x) => NdIs.part h1 hx)
  clear h1
  obtain ⟨n, hln⟩ : ∃ n, l.length = n := ⟨_, rfl⟩
  rw [hln] at hl ⊢
  have HLN := Lib.hid hln
  clear hln
  have b1 := Blk3.new w (.int .i64 k) (.string (bs s)) (.slice a1 n c1)
  have B1 := Lib.hid b1
  obtain ⟨x0, x1, x2, _, _, _⟩ := b1.cells
  have HA : Hid (w.grownBy (w.alloc (.cells #[.int .i64 k, .string (bs s), .slice a1 n c1] 37)) none) := grown_alloc _ _ _
  clear b1
  go_enter Tryz.func18, Tryz.ntmps18
  go_wp2_with fail
  clear x0 x1 x2
  generalize (w.alloc (.cells #[.int .i64 k, .string (bs s), .slice a1 n c1] 37)) = w2 at *
  go_loopg [5, 6] (n + 1) (fun k u z wr => Hid (SzAt w2 n most k u z wr))
  case atStart => exact ⟨0, 1, rfl, rfl, Nat.zero_le _, by omega, by omega, by omega, grown_refl _ _⟩
  case round =>
    obtain ⟨i, q, rfl, rfl, hi, hk, hq1, hq2, hg⟩ := hrel.out
    have HG := Lib.hid hg
    clear hrel hg
    obtain ⟨_, _, x2, _, _, _⟩ := (B1.out.grown HG.out (by simp)).cells
    by_cases hlt : i < n
    · have hd1 : decide (i < n) = true := by simp; omega
      have hd2 : decide ((i : Int) < (n : Int)) = true := by simp; omega
      by_cases hqm : q < most
      · obtain ⟨x, hx⟩ : ∃ x, l[i]? = some x := ⟨l[i]'(by rw [HLN.out]; exact hlt), List.getElem?_eq_getElem _⟩
        have HX := Lib.hid (List.mem_of_getElem? hx)
        obtain ⟨g1, o1, rfl, q1⟩ := H1.out i x hx
        obtain ⟨k1, s1, p1, m1, d1, ⟨e0, e1, e2⟩, n1⟩ := q1 wr (grown_trans HA.out HG.out)
        have N1 := Lib.hid n1
        clear n1 q1 hx
        go_wp2_with fail
        refine (ih x HX.out (most - q) _ _ (by omega) (by omega) N1.out).mono ?_
        rintro e w4 ⟨⟨q2, rfl, hq3, hq4⟩, hg4⟩
        have HG4 : Hid (w2.grownBy w4 none) := grown_trans HG.out hg4
        clear hg4 N1 HG e0 e1 e2 x2
        go_wp2
        go_roundg (gk - 1)
        case measure => omega
        case rel => exact ⟨i + 1, q + q2, by go_num, by go_num, by omega, by omega, by omega, by omega, HG4.out⟩
      · go_wp2
        go_ret
        exact ⟨⟨q, rfl, hq1, hq2⟩, grown_trans HA.out HG.out⟩
    · have hd1 : decide (i < n) = false := by simp; omega
      have hd2 : decide ((i : Int) < (n : Int)) = false := by simp; omega
      go_wp2
      go_ret
      exact ⟨⟨q, rfl, hq1, hq2⟩, grown_trans HA.out HG.out⟩

theorem size_all (f : Nat) : ∀ n : Nd, SizeOf.sizeOf n ≤ f → SizeC n := by
  induction f with
  | zero => intro n h; cases n; simp at h
  | succ f ih =>
    intro n h
    cases n with
    | mk k s l =>
      refine size_step k s l fun x hx => ih x ?_
      have := List.sizeOf_lt_of_mem hx
      simp at h
      omega
theorem size_any (n : Nd) : SizeC n := size_all _ n (Nat.le_refl _)

theorem grown_cell {w w' : World} {g j : Nat} (h : w.grownBy w' none) (hl : g < w.heap.size) : w'.cell? ⟨g, j, none⟩ = w.cell? ⟨g, j, none⟩ := World.cell?_of_block (a := ⟨g, j, none⟩) (h.block g hl (by simp))
end Go.Proofs.YtdjklnlkocconaaGreatDoor
