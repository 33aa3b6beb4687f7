/-
  bind.typeOf, the reference's gives: what a statement gives. bind.uses: the names of a statement, each with the type as which it is used.
  bind.uses: the names of a statement, each with the type as which it is used, in their order.
  bind.uses of a statement: a new row of its names.
-/
import Derived.Test.YtdjklnlkocconaaGreatDoorPaDZ
import Derived.Test.YtdjklnlkocconaaGreatDoorSmAZ
import Derived.Test.YtdjklnlkocconaaGreatDoorBnPZ
import Derived.Test.YtdjklnlkocconaaGreatDoorPaFZ
import Derived.Deep.AppendLies
import Derived.Laws.EntriesVeiled
namespace Go.Proofs.YtdjklnlkocconaaGreatDoor
open Go Go.RowKit

set_option maxHeartbeats 1000000 in
set_option maxRecDepth 100000 in
theorem typeOf_any (kind : Int) (name : List UInt8) (rule N d K : Int) (snap : Bool) (A B : NV) (w : World) :
    Calls Tryz.prog 22 #[.agg #[.int .i64 kind, .string (bs name), .int .i64 A.k, .string A.s, .slice A.a A.n A.c, .int .i64 B.k, .string B.s, .slice B.a B.n B.c, .int .i64 rule, .int .i64 N, .int .i64 d, .int .i64 K, .bool snap]] w fun e w' => e = .returned (.int .i64 (giveV kind)) ∧ w.grownBy w' none := by
  by_cases h1 : kind = 1
  · subst h1
    go_enter Tryz.func22, Tryz.ntmps22
    go_wp2
    go_ret
    exact ⟨rfl, grown_alloc _ _ _⟩
  by_cases h2 : kind = 2
  · subst h2
    go_enter Tryz.func22, Tryz.ntmps22
    go_wp2
    go_ret
    exact ⟨rfl, grown_alloc _ _ _⟩
  by_cases h3 : kind = 3
  · subst h3
    go_enter Tryz.func22, Tryz.ntmps22
    go_wp2
    go_ret
    exact ⟨rfl, grown_alloc _ _ _⟩
  by_cases h4 : kind = 4
  · subst h4
    go_enter Tryz.func22, Tryz.ntmps22
    go_wp2
    go_ret
    exact ⟨rfl, grown_alloc _ _ _⟩
  by_cases h5 : kind = 5
  · subst h5
    go_enter Tryz.func22, Tryz.ntmps22
    go_wp2
    go_ret
    exact ⟨rfl, grown_alloc _ _ _⟩
  have e0 : giveV kind = 0 := by simp [giveV, h1, h2, h3, h4, h5]
  have e1 : (kind == 1) = false := by simpa using h1
  have e2 : (kind == 2) = false := by simpa using h2
  have e3 : (kind == 3) = false := by simpa using h3
  have e4 : (kind == 4) = false := by simpa using h4
  have e5 : (kind == 5) = false := by simpa using h5
  rw [e0]
  clear e0 h1 h2 h3 h4 h5
  go_enter Tryz.func22, Tryz.ntmps22
  go_wp2
  go_ret
  exact ⟨rfl, grown_alloc _ _ _⟩

end Go.Proofs.YtdjklnlkocconaaGreatDoor

namespace Go.Proofs.YtdjklnlkocconaaGreatDoor
open Go Go.RowKit

def useCells (l : List Use) : List Value := l.flatMap fun u => [.string (bs u.1), .int .i64 u.2]
theorem useCells_app (l m : List Use) : useCells (l ++ m) = useCells l ++ useCells m := by simp [useCells]
theorem useCells_one (s : ByteArray) (t : Int) : ∀ u ∈ ([.string s, .int .i64 t] : List Value), u.oneCell' = true := by
  intro u hu
  simp at hu
  rcases hu with rfl | rfl <;> rfl

theorem info51 : (Tryz.prog.info? 51).map (fun i => (i.zero, i.size, i.bytes)) = some (some (.agg #[.string ⟨#[]⟩, .int .i64 0]), 2, 24) := by kernel_rfl

def ownU (k : Int) (s : List UInt8) : List Use := if k = 1 then [(s, 1)] else if k = 3 then [(s, 2)] else []
theorem usesN_mk (k : Int) (s : List UInt8) (l : List Nd) : usesN (.mk k s l) = ownU k s ++ usesNs l := by rw [usesN, ownU]
theorem usesNs_app (l m : List Nd) : usesNs (l ++ m) = usesNs l ++ usesNs m := by
  induction l with
  | nil => rw [usesNs]; rfl
  | cons n l ih => rw [List.cons_append, usesNs, usesNs, ih, List.append_assoc]
theorem usesNs_step {l : List Nd} {i : Nat} {x : Nd} (h : l[i]? = some x) : usesNs (l.take (i + 1)) = usesNs (l.take i) ++ usesN x := by
  rw [List.take_add_one, h, usesNs_app]
  congr 1
  show usesNs [x] = usesN x
  rw [usesNs, usesNs, List.append_nil]
theorem usesNs_le (l : List Nd) (i : Nat) : (usesNs (l.take i)).length ≤ (usesNs l).length := by
  have h : usesNs l = usesNs (l.take i) ++ usesNs (l.drop i) := by rw [← usesNs_app, List.take_append_drop]
  rw [h, List.length_append]
  omega

/-- The captured row of uses, and the function in its own variable. -/
structure US (w0 : World) (L : Nat) (w : World) (acc : List Use) : Prop where
  below : Below L w0 w
  row : ∃ a c, Blk1 w L (.slice a acc.length c) 48 ∧ w.ownsRow (L + 1 + 1) 51 2 (.slice a acc.length c) acc.length (useCells acc)
  walk : Blk1 w (L + 1) (.func (.func 38) #[] #[.pointer (some ⟨L, 0, none⟩), .pointer (some ⟨L + 1, 0, none⟩)]) 80

theorem US.lt {w0 w : World} {L : Nat} {acc : List Use} (h : US w0 L w acc) : L + 1 < w.heap.size := h.walk.lt
theorem US.still {w0 w w' : World} {L : Nat} {acc : List Use} (h : US w0 L w acc) (hg : w.grownBy w' none) : US w0 L w' acc := by
  have hl := h.lt
  obtain ⟨a, c, h1, h2⟩ := h.row
  refine ⟨h.below.grown hg (by omega) (fun k e => by cases e), ⟨a, c, h1.grown hg (by simp), h2.kept hg ?_⟩, h.walk.grown hg (by simp)⟩
  cases (Value.slice a acc.length c).ownBlock with
  | none => exact .inl rfl
  | some k => exact .inr (by simp)

theorem US.push {w0 w w2 w7 : World} {L : Nat} {acc : List Use} {a : Option Addr} {c g cap : Nat} {s : List UInt8} {t : Int} (h : US w0 L w acc) (hL : Blk1 w L (.slice a acc.length c) 48)
    (hr : w.ownsRow (L + 1 + 1) 51 2 (.slice a acc.length c) acc.length (useCells acc)) (hg : w.grownBy w2 none) (hgrow : w2.grownBy w7 (Value.slice a acc.length c).ownBlock)
    (hown : w7.ownsRow (L + 1 + 1) 51 2 (.slice (some ⟨g, 0, none⟩) (acc.length + 1) cap) (acc.length + 1) (useCells acc ++ [.string (bs s), .int .i64 t])) :
    US w0 L (w7.setCell ⟨L, 0, none⟩ (.slice (some ⟨g, 0, none⟩) (acc.length + 1) cap)) (acc ++ [(s, t)]) := by
  have hl := h.lt
  have hb : ∀ k, (Value.slice a acc.length c).ownBlock = some k → L + 1 + 1 ≤ k := fun k e => (hr.lt k e).1
  have hg2 : L + 1 + 1 ≤ g := (hown.lt g rfl).1
  have hset := grown_setCell w7 ⟨L, 0, none⟩ (.slice (some ⟨g, 0, none⟩) (acc.length + 1) cap)
  have hs := hg.size
  have hs7 := hgrow.size
  refine ⟨((h.below.grown hg (by omega) (fun k e => by cases e)).grown hgrow (by omega) (fun k e => by have := hb k e; omega)).setCell (p := ⟨L, 0, none⟩) (Nat.le_refl _) _, ⟨some ⟨g, 0, none⟩, cap, ?_, ?_⟩, ?_⟩
  · have e : (acc ++ [(s, t)]).length = acc.length + 1 := by simp
    rw [e]
    exact ((hL.grown hg (by simp)).grown hgrow (fun e => by have := hb L e.symm; omega)).set _
  · have e : (acc ++ [(s, t)]).length = acc.length + 1 := by simp
    rw [e, useCells_app]
    exact owns_setCell hown (fun e => by have := Option.some.inj (show some g = some L from e); omega) _
  · exact ((h.walk.grown hg (by simp)).grown hgrow (fun e => by have := hb (L + 1) e.symm; omega)).grown hset (by simp)

theorem US.rebase {w0 w : World} {L : Nat} {acc : List Use} (h : US w0 L w acc) : US w L w acc := ⟨Below.refl _ _, h.row, h.walk⟩
theorem US.trans {w0 w w' : World} {L : Nat} {acc acc2 : List Use} (h : US w0 L w acc) (h2 : US w L w' acc2) : US w0 L w' acc2 := ⟨h.below.trans h2.below, h2.row, h2.walk⟩

theorem NdsIs.getL {ok : Nat → Prop} {w : World} {g : Nat} : ∀ {l : List Nd} {o : Nat}, NdsIs ok w g o l → ∀ (k : Nat) (n : Nd), l[k]? = some n → ∃ v, At3 w g (o + k * 3) v ∧ NdIs ok w n v
  | [], _, _, k, n, hk => by simp at hk
  | x :: l, o, h, k, n, hk => by
    unfold NdsIs at h
    cases k with
    | zero =>
      obtain rfl : x = n := by simpa using hk
      obtain ⟨v, h1, h2⟩ := h.1
      exact ⟨v, by simpa using h1, h2⟩
    | succ k =>
      obtain ⟨v, h1, h2⟩ := NdsIs.getL h.2 k n (by simpa using hk)
      refine ⟨v, ?_, h2⟩
      rw [show o + (k + 1) * 3 = o + 3 + k * 3 by omega]
      exact h1

theorem NdIs.belowL {w w' : World} {L : Nat} {n : Nd} {v : Value} (h : NdIs (· < L) w n v) (hb : Below L w w') : NdIs (· < L) w' n v :=
  NdIs.kept hb.size (fun g' _ ho => ⟨hb.block g' ho, ho⟩) n v h
theorem NdIs.upto {w : World} {L : Nat} {n : Nd} {v : Value} (h : NdIs Any w n v) (hl : w.heap.size ≤ L) : NdIs (· < L) w n v :=
  NdIs.kept (Nat.le_refl _) (fun _ hg _ => ⟨rfl, Nat.lt_of_lt_of_le hg hl⟩) n v h

/-- A part out of a tree's row, in blocks below L. -/
theorem NdIs.partL {w : World} {L : Nat} {l : List Nd} {a : Option Addr} (h : l = [] ∨ ∃ g o, a = some ⟨g, o, none⟩ ∧ g < L ∧ g < w.heap.size ∧ NdsIs (· < L) w g o l) {i : Nat} {x : Nd} (hx : l[i]? = some x) :
    ∃ g o, a = some ⟨g, o, none⟩ ∧ ∀ w', Below L w w' → ∃ (k : Int) (s : ByteArray) (p : Option Addr) (m c : Nat), (w'.cell? ⟨g, o + i * 3, none⟩ = some (.int .i64 k) ∧ w'.cell? ⟨g, o + i * 3 + 1, none⟩ = some (.string s) ∧ w'.cell? ⟨g, o + i * 3 + 2, none⟩ = some (.slice p m c)) ∧ NdIs (· < L) w' x (.agg #[.int .i64 k, .string s, .slice p m c]) := by
  rcases h with rfl | ⟨g, o, rfl, ho, hl, h⟩
  · simp at hx
  · refine ⟨g, o, rfl, fun w' hb => ?_⟩
    obtain ⟨v, h1, h2⟩ := (NdsIs.kept hb.size (fun g' _ ho => ⟨hb.block g' ho, ho⟩) l g o hl ho h).getL i x hx
    obtain ⟨k, s, p, m, c, rfl⟩ := h2.agg
    exact ⟨k, s, p, m, c, h1.cells3, h2⟩

/-- What the closure does at a tree. -/
def UsesC (n : Nd) : Prop := ∀ (L : Nat) (v : Value) (w : World) (acc : List Use), NdIs (· < L) w n v → US w L w acc → acc.length + (usesN n).length ≤ 4000000 →
  Calls Tryz.prog 38 #[v, .pointer (some ⟨L, 0, none⟩), .pointer (some ⟨L + 1, 0, none⟩)] w fun e w' => e = .returned (.tuple #[]) ∧ US w L w' (acc ++ usesN n)

def UsesAt (w0 : World) (L : Nat) (acc : List Use) (l : List Nd) (n k : Nat) (u : Value) (wr : World) : Prop := ∃ i : Nat, u = .int .i64 i ∧ i ≤ n ∧ n < k + i ∧ US w0 L wr (acc ++ usesNs (l.take i))

set_option maxHeartbeats 4000000 in
set_option maxRecDepth 100000 in
theorem uses1_step (k : Int) (s : List UInt8) (l : List Nd) (ih : ∀ x ∈ l, UsesC x) : UsesC (.mk k s l) := by
  intro L v w acc h1 hU hsz
  rw [usesN_mk] at hsz ⊢
  rw [← List.append_assoc]
  rw [List.length_append, ← Nat.add_assoc] at hsz
  unfold NdIs at h1
  obtain ⟨a1, c1, rfl, hl, h1⟩ := h1
  have H1 := Lib.hid (fun i x (hx : l[i]? = some x) => NdIs.partL h1 hx)
  clear h1
  obtain ⟨n, hln⟩ : ∃ n, l.length = n := ⟨_, rfl⟩
  rw [hln] at hl ⊢
  have HLN := Lib.hid hln
  have U0 := Lib.hid hU
  obtain ⟨a, c, hL, hrow⟩ := hU.row
  have hlt := hU.lt
  have b1 := Blk3.new w (.int .i64 k) (.string (bs s)) (.slice a1 n c1)
  have B1 := Lib.hid b1
  obtain ⟨x0, x1, x2, _, _, _⟩ := b1.cells
  have HL := Lib.hid hL
  have HR := Lib.hid hrow
  clear hln hU b1 hL hrow
  obtain ⟨i0, hi, hz0, hz1, hz2⟩ := info_parts info51
  by_cases hk1 : k = 1
  · subst hk1
    have hO : ownU 1 s = [(s, 1)] := rfl
    rw [hO] at hsz ⊢
    have hsz1 : acc.length + 1 ≤ 4000000 := by simp at hsz; omega
    have HSZ : Hid ((acc ++ [(s, (1 : Int))]).length + (usesNs l).length ≤ 4000000) := by show _ ≤ _; simp at hsz ⊢; omega
    obtain ⟨acc2, hac⟩ : ∃ q, acc ++ [(s, (1 : Int))] = q := ⟨_, rfl⟩
    have HAC := Lib.hid hac
    rw [hac] at HSZ ⊢
    clear hO hsz hac
    have q0 : ∀ o, (w.alloc o).cell? ⟨L, 0, none⟩ = some (.slice a acc.length c) := fun o => (HL.out.grown (grown_alloc w o none) (by simp)).cell
    go_enter Tryz.func38, Tryz.ntmps38
    go_wp2_with (at_builtin; go_must (refine wpList_append_lies _ rfl _ _ 48 rfl (L + 1 + 1) 51 i0 _ 2 24 Tryz.underlying48 hi hz0 hz1 hz2 rfl (by decide) _ _ _ rfl ((HR.out.alloc _).alloc _) ⟨w.heap.size + 1, 0, none⟩ 1 1 [.string (bs s), .int .i64 1] rfl rfl (cell_new _ [.string (bs s), .int .i64 1] _ (by simp)) (useCells_one _ _) (by decide) (by unfold maxLen; omega) (by omega) (by simp; omega) (w.heap.size + 1 + 1) (by simp) ?_))
    intro g cap w7 hown7 hgrow hat hlt7
    have hne : ∀ k, (Value.slice a acc.length c).ownBlock = some k → L + 1 + 1 ≤ k ∧ k < w.heap.size := fun k e => HR.out.lt k e
    have HU : Hid (US w L (w7.setCell ⟨L, 0, none⟩ (.slice (some ⟨g, 0, none⟩) (acc.length + 1) cap)) acc2) := by
      show US _ _ _ _
      rw [← HAC.out]
      exact U0.out.push HL.out HR.out (grown_trans (grown_alloc _ _ _) (grown_alloc _ _ _)) hgrow hown7
    have HB := (((HL.out.grown (grown_alloc _ _ none) (by simp)).grown (grown_alloc _ _ none) (by simp)).grown hgrow (fun e => by have := (hne L e.symm).1; omega))
    have m0 := HB.cell
    have m1 := HB.free
    obtain ⟨y0, y1, y2, _, _, _⟩ := ((B1.out.grown (grown_alloc _ _ none) (by simp)).grown hgrow (fun e => by have := (hne _ e.symm).2; omega)).cells
    have n1 : ¬ L = w.heap.size := by omega
    have n2 : ¬ w.heap.size = L := by omega
    clear hown7 hgrow hat hlt7 hne HB q0 x0 x1 x2
    go_wp2_with fail
    clear m0 m1 y0 y1 y2 n1 n2
    generalize (w7.setCell ⟨L, 0, none⟩ (.slice (some ⟨g, 0, none⟩) (acc.length + 1) cap)) = w2 at *
    go_loopg [27] (n + 1) (fun k u wr => Hid (UsesAt w L acc2 l n k u wr))
    case atStart => exact ⟨0, rfl, Nat.zero_le _, by omega, by rw [List.take_zero, usesNs, List.append_nil]; exact HU.out⟩
    case round =>
      obtain ⟨i, rfl, hi3, hk3, hu⟩ := hrel.out
      have HUR := Lib.hid hu
      clear hrel hu HU
      by_cases hlt3 : i < n
      · obtain ⟨x, hx⟩ : ∃ x, l[i]? = some x := ⟨l[i]'(by rw [HLN.out]; exact hlt3), List.getElem?_eq_getElem _⟩
        have HX := Lib.hid hx
        obtain ⟨g1, o1, rfl, q1⟩ := H1.out i x hx
        have hlr := HUR.out.lt
        obtain ⟨k1, s1, p1, m1, d1, ⟨e0, e1, e2⟩, n1⟩ := q1 wr HUR.out.below
        have ht : ∀ o, (wr.alloc o).cell? ⟨L + 1, 0, none⟩ = some (.func (.func 38) #[] #[.pointer (some ⟨L, 0, none⟩), .pointer (some ⟨L + 1, 0, none⟩)]) := fun o => (HUR.out.walk.grown (grown_alloc wr o none) (by simp)).cell
        have NX := Lib.hid n1
        have hd2 : decide (i < n) = true := by simp; omega
        have hd3 : decide ((i : Int) < (n : Int)) = true := by simp; omega
        have HS3 : Hid ((acc2 ++ usesNs (l.take i)).length + (usesN x).length ≤ 4000000) := by
          have h1 := usesNs_le l (i + 1)
          have h2 := HSZ.out
          rw [usesNs_step hx, List.length_append] at h1
          show _ ≤ _
          rw [List.length_append]
          omega
        clear n1 q1 hx
        go_wp2_with fail
        have HU4 := Lib.hid (HUR.out.still (grown_alloc wr (.cells #[.int .i64 k1, .string s1, .slice p1 m1 d1] 37) none))
        have NX4 := Lib.hid (NX.out.belowL ((Below.refl L wr).alloc (by omega) (.cells #[.int .i64 k1, .string s1, .slice p1 m1 d1] 37)))
        refine (ih x (List.mem_of_getElem? HX.out) L _ _ _ NX4.out HU4.out.rebase HS3.out).mono ?_
        rintro e w4 ⟨rfl, hu4⟩
        have HU5 : Hid (US w L w4 (acc2 ++ usesNs (l.take (i + 1)))) := by
          show US _ _ _ _
          rw [usesNs_step HX.out, ← List.append_assoc]
          exact HU4.out.trans hu4
        clear hu4 HU4 NX NX4 e0 e1 e2 ht HS3 HUR
        go_wp2
        go_roundg (gk - 1)
        case measure => omega
        case rel => exact ⟨i + 1, by go_num, by omega, by omega, HU5.out⟩
      · have hin : i = n := by omega
        have hd2 : decide (i < n) = false := by simp; omega
        have hd3 : decide ((i : Int) < (n : Int)) = false := by simp; omega
        have HU5 : Hid (US w L wr (acc2 ++ usesNs l)) := by
          have h := HUR.out
          rw [hin, List.take_of_length_le (by rw [HLN.out]; exact Nat.le_refl _)] at h
          exact h
        clear HUR hin
        go_wp2
        go_end0
        exact ⟨rfl, HU5.out⟩
  by_cases hk3 : k = 3
  · subst hk3
    have hO : ownU 3 s = [(s, 2)] := rfl
    rw [hO] at hsz ⊢
    have hsz1 : acc.length + 1 ≤ 4000000 := by simp at hsz; omega
    have HSZ : Hid ((acc ++ [(s, (2 : Int))]).length + (usesNs l).length ≤ 4000000) := by show _ ≤ _; simp at hsz ⊢; omega
    obtain ⟨acc2, hac⟩ : ∃ q, acc ++ [(s, (2 : Int))] = q := ⟨_, rfl⟩
    have HAC := Lib.hid hac
    rw [hac] at HSZ ⊢
    clear hO hsz hac
    have q0 : ∀ o, (w.alloc o).cell? ⟨L, 0, none⟩ = some (.slice a acc.length c) := fun o => (HL.out.grown (grown_alloc w o none) (by simp)).cell
    go_enter Tryz.func38, Tryz.ntmps38
    go_wp2_with (at_builtin; go_must (refine wpList_append_lies _ rfl _ _ 48 rfl (L + 1 + 1) 51 i0 _ 2 24 Tryz.underlying48 hi hz0 hz1 hz2 rfl (by decide) _ _ _ rfl ((HR.out.alloc _).alloc _) ⟨w.heap.size + 1, 0, none⟩ 1 1 [.string (bs s), .int .i64 2] rfl rfl (cell_new _ [.string (bs s), .int .i64 2] _ (by simp)) (useCells_one _ _) (by decide) (by unfold maxLen; omega) (by omega) (by simp; omega) (w.heap.size + 1 + 1) (by simp) ?_))
    intro g cap w7 hown7 hgrow hat hlt7
    have hne : ∀ k, (Value.slice a acc.length c).ownBlock = some k → L + 1 + 1 ≤ k ∧ k < w.heap.size := fun k e => HR.out.lt k e
    have HU : Hid (US w L (w7.setCell ⟨L, 0, none⟩ (.slice (some ⟨g, 0, none⟩) (acc.length + 1) cap)) acc2) := by
      show US _ _ _ _
      rw [← HAC.out]
      exact U0.out.push HL.out HR.out (grown_trans (grown_alloc _ _ _) (grown_alloc _ _ _)) hgrow hown7
    have HB := (((HL.out.grown (grown_alloc _ _ none) (by simp)).grown (grown_alloc _ _ none) (by simp)).grown hgrow (fun e => by have := (hne L e.symm).1; omega))
    have m0 := HB.cell
    have m1 := HB.free
    obtain ⟨y0, y1, y2, _, _, _⟩ := ((B1.out.grown (grown_alloc _ _ none) (by simp)).grown hgrow (fun e => by have := (hne _ e.symm).2; omega)).cells
    have n1 : ¬ L = w.heap.size := by omega
    have n2 : ¬ w.heap.size = L := by omega
    clear hown7 hgrow hat hlt7 hne HB q0 x0 x1 x2
    go_wp2_with fail
    clear m0 m1 y0 y1 y2 n1 n2
    generalize (w7.setCell ⟨L, 0, none⟩ (.slice (some ⟨g, 0, none⟩) (acc.length + 1) cap)) = w2 at *
    go_loopg [27] (n + 1) (fun k u wr => Hid (UsesAt w L acc2 l n k u wr))
    case atStart => exact ⟨0, rfl, Nat.zero_le _, by omega, by rw [List.take_zero, usesNs, List.append_nil]; exact HU.out⟩
    case round =>
      obtain ⟨i, rfl, hi3, hk3, hu⟩ := hrel.out
      have HUR := Lib.hid hu
      clear hrel hu HU
      by_cases hlt3 : i < n
      · obtain ⟨x, hx⟩ : ∃ x, l[i]? = some x := ⟨l[i]'(by rw [HLN.out]; exact hlt3), List.getElem?_eq_getElem _⟩
        have HX := Lib.hid hx
        obtain ⟨g1, o1, rfl, q1⟩ := H1.out i x hx
        have hlr := HUR.out.lt
        obtain ⟨k1, s1, p1, m1, d1, ⟨e0, e1, e2⟩, n1⟩ := q1 wr HUR.out.below
        have ht : ∀ o, (wr.alloc o).cell? ⟨L + 1, 0, none⟩ = some (.func (.func 38) #[] #[.pointer (some ⟨L, 0, none⟩), .pointer (some ⟨L + 1, 0, none⟩)]) := fun o => (HUR.out.walk.grown (grown_alloc wr o none) (by simp)).cell
        have NX := Lib.hid n1
        have hd2 : decide (i < n) = true := by simp; omega
        have hd3 : decide ((i : Int) < (n : Int)) = true := by simp; omega
        have HS3 : Hid ((acc2 ++ usesNs (l.take i)).length + (usesN x).length ≤ 4000000) := by
          have h1 := usesNs_le l (i + 1)
          have h2 := HSZ.out
          rw [usesNs_step hx, List.length_append] at h1
          show _ ≤ _
          rw [List.length_append]
          omega
        clear n1 q1 hx
        go_wp2_with fail
        have HU4 := Lib.hid (HUR.out.still (grown_alloc wr (.cells #[.int .i64 k1, .string s1, .slice p1 m1 d1] 37) none))
        have NX4 := Lib.hid (NX.out.belowL ((Below.refl L wr).alloc (by omega) (.cells #[.int .i64 k1, .string s1, .slice p1 m1 d1] 37)))
        refine (ih x (List.mem_of_getElem? HX.out) L _ _ _ NX4.out HU4.out.rebase HS3.out).mono ?_
        rintro e w4 ⟨rfl, hu4⟩
        have HU5 : Hid (US w L w4 (acc2 ++ usesNs (l.take (i + 1)))) := by
          show US _ _ _ _
          rw [usesNs_step HX.out, ← List.append_assoc]
          exact HU4.out.trans hu4
        clear hu4 HU4 NX NX4 e0 e1 e2 ht HS3 HUR
        go_wp2
        go_roundg (gk - 1)
        case measure => omega
        case rel => exact ⟨i + 1, by go_num, by omega, by omega, HU5.out⟩
      · have hin : i = n := by omega
        have hd2 : decide (i < n) = false := by simp; omega
        have hd3 : decide ((i : Int) < (n : Int)) = false := by simp; omega
        have HU5 : Hid (US w L wr (acc2 ++ usesNs l)) := by
          have h := HUR.out
          rw [hin, List.take_of_length_le (by rw [HLN.out]; exact Nat.le_refl _)] at h
          exact h
        clear HUR hin
        go_wp2
        go_end0
        exact ⟨rfl, HU5.out⟩
  have hO : ownU k s = [] := by simp [ownU, hk1, hk3]
  rw [hO] at hsz ⊢
  rw [List.append_nil]
  have HSZ : Hid (acc.length + (usesNs l).length ≤ 4000000) := by show _ ≤ _; simpa using hsz
  have e1 : (k == 1) = false := by simpa using hk1
  have e3 : (k == 3) = false := by simpa using hk3
  have HU : Hid (US w L (w.alloc (.cells #[.int .i64 k, .string (bs s), .slice a1 n c1] 37)) acc) := U0.out.still (grown_alloc _ _ _)
  clear hO hsz hk1 hk3
  go_enter Tryz.func38, Tryz.ntmps38
  go_wp2_with fail
  clear x0 x1 x2 e1 e3
  generalize (w.alloc (.cells #[.int .i64 k, .string (bs s), .slice a1 n c1] 37)) = w2 at *
  obtain ⟨acc2, rfl⟩ : ∃ a, a = acc := ⟨_, rfl⟩
  go_loopg [27] (n + 1) (fun k u wr => Hid (UsesAt w L acc2 l n k u wr))
  case atStart => exact ⟨0, rfl, Nat.zero_le _, by omega, by rw [List.take_zero, usesNs, List.append_nil]; exact HU.out⟩
  case round =>
    obtain ⟨i, rfl, hi3, hk3, hu⟩ := hrel.out
    have HUR := Lib.hid hu
    clear hrel hu HU
    by_cases hlt3 : i < n
    · obtain ⟨x, hx⟩ : ∃ x, l[i]? = some x := ⟨l[i]'(by rw [HLN.out]; exact hlt3), List.getElem?_eq_getElem _⟩
      have HX := Lib.hid hx
      obtain ⟨g1, o1, rfl, q1⟩ := H1.out i x hx
      have hlr := HUR.out.lt
      obtain ⟨k1, s1, p1, m1, d1, ⟨e0, e1, e2⟩, n1⟩ := q1 wr HUR.out.below
      have ht : ∀ o, (wr.alloc o).cell? ⟨L + 1, 0, none⟩ = some (.func (.func 38) #[] #[.pointer (some ⟨L, 0, none⟩), .pointer (some ⟨L + 1, 0, none⟩)]) := fun o => (HUR.out.walk.grown (grown_alloc wr o none) (by simp)).cell
      have NX := Lib.hid n1
      have hd2 : decide (i < n) = true := by simp; omega
      have hd3 : decide ((i : Int) < (n : Int)) = true := by simp; omega
      have HS3 : Hid ((acc2 ++ usesNs (l.take i)).length + (usesN x).length ≤ 4000000) := by
        have h1 := usesNs_le l (i + 1)
        have h2 := HSZ.out
        rw [usesNs_step hx, List.length_append] at h1
        show _ ≤ _
        rw [List.length_append]
        omega
      clear n1 q1 hx
      go_wp2_with fail
      have HU4 := Lib.hid (HUR.out.still (grown_alloc wr (.cells #[.int .i64 k1, .string s1, .slice p1 m1 d1] 37) none))
      have NX4 := Lib.hid (NX.out.belowL ((Below.refl L wr).alloc (by omega) (.cells #[.int .i64 k1, .string s1, .slice p1 m1 d1] 37)))
      refine (ih x (List.mem_of_getElem? HX.out) L _ _ _ NX4.out HU4.out.rebase HS3.out).mono ?_
      rintro e w4 ⟨rfl, hu4⟩
      have HU5 : Hid (US w L w4 (acc2 ++ usesNs (l.take (i + 1)))) := by
        show US _ _ _ _
        rw [usesNs_step HX.out, ← List.append_assoc]
        exact HU4.out.trans hu4
      clear hu4 HU4 NX NX4 e0 e1 e2 ht HS3 HUR
      go_wp2
      go_roundg (gk - 1)
      case measure => omega
      case rel => exact ⟨i + 1, by go_num, by omega, by omega, HU5.out⟩
    · have hin : i = n := by omega
      have hd2 : decide (i < n) = false := by simp; omega
      have hd3 : decide ((i : Int) < (n : Int)) = false := by simp; omega
      have HU5 : Hid (US w L wr (acc2 ++ usesNs l)) := by
        have h := HUR.out
        rw [hin, List.take_of_length_le (by rw [HLN.out]; exact Nat.le_refl _)] at h
        exact h
      clear HUR hin
      go_wp2
      go_end0
      exact ⟨rfl, HU5.out⟩
end Go.Proofs.YtdjklnlkocconaaGreatDoor

namespace Go.Proofs.YtdjklnlkocconaaGreatDoor
open Go Go.RowKit

theorem uses1_all (f : Nat) : ∀ n : Nd, SizeOf.sizeOf n ≤ f → UsesC n := by
  induction f with
  | zero => intro n h; cases n; simp at h
  | succ f ih =>
    intro n h
    cases n with
    | mk k s l =>
      refine uses1_step k s l fun x hx => ih x ?_
      have := List.sizeOf_lt_of_mem hx
      simp at h
      omega
theorem uses1_any (n : Nd) : UsesC n := uses1_all _ n (Nat.le_refl _)

/-- A statement in a block of its own. -/
def Blk13 (w : World) (g : Nat) (x : St) (A B : NV) : Prop := w.heap[g]? = some (.cells (stCells x A B).toArray 39 (0, 0))
theorem Blk13.new (w : World) (x : St) (A B : NV) : Blk13 (w.alloc (.cells (stCells x A B).toArray 39)) w.heap.size x A B := (MapKept.heap_alloc w _).1
theorem Blk13.lt {w : World} {g : Nat} {x : St} {A B : NV} (h : Blk13 w g x A B) : g < w.heap.size := by
  unfold Blk13 at h
  rcases Nat.lt_or_ge g w.heap.size with h' | h'
  · exact h'
  · simp [Array.getElem?_eq_none h'] at h
theorem Blk13.below {w w' : World} {g n : Nat} {x : St} {A B : NV} (h : Blk13 w g x A B) (hb : Below n w w') (hg : g < n) : Blk13 w' g x A B := (hb.block g hg).trans h
theorem Blk13.still {w w' : World} {g : Nat} {x : St} {A B : NV} (h : Blk13 w g x A B) (hg : w.grownBy w' none) : Blk13 w' g x A B := (hg.block g h.lt (by simp)).trans h
theorem Blk13.cell {w : World} {g : Nat} {x : St} {A B : NV} (h : Blk13 w g x A B) (j : Nat) : w.cell? ⟨g, j, none⟩ = (stCells x A B)[j]? := by
  rw [cell_of_row w g j _ _ _ h]
  simp

theorem below_still2 {w w' : World} (hg : w.grownBy w' none) : Below w.heap.size w w' := ⟨hg.os, hg.tape, hg.output, hg.size, fun k hk => hg.block k hk (by simp)⟩

theorem Blk1.new_at (w : World) (v : Value) (T : TypeId) {b : Nat} (hb : b = w.heap.size) : Blk1 (w.alloc (.cells #[v] T)) b v T := by subst hb; exact Blk1.new w v T

theorem US.row0 {w0 w : World} {L : Nat} {acc : List Use} (h : US w0 L w acc) : ∃ a c, w.cell? ⟨L, 0, none⟩ = some (.slice a acc.length c) ∧ w.ownsRow (L + 1 + 1) 51 2 (.slice a acc.length c) acc.length (useCells acc) := by
  obtain ⟨a, c, h1, h2⟩ := h.row
  exact ⟨a, c, h1.cell, h2⟩

set_option maxHeartbeats 2000000 in
set_option maxRecDepth 100000 in
theorem uses_any (kind : Int) (name : List UInt8) (xa xb : Nd) (rule N d K : Int) (snap : Bool) (A B : NV) (w : World) (ha : NdIs Any w xa A.val) (hb : NdIs Any w xb B.val) (hsz : (usesN xa).length + (usesN xb).length ≤ 4000000) :
    Calls Tryz.prog 21 #[.agg #[.int .i64 kind, .string (bs name), .int .i64 A.k, .string A.s, .slice A.a A.n A.c, .int .i64 B.k, .string B.s, .slice B.a B.n B.c, .int .i64 rule, .int .i64 N, .int .i64 d, .int .i64 K, .bool snap]] w fun e w' =>
      ∃ a c, e = .returned (.slice a (usesN xa ++ usesN xb).length c) ∧ w'.ownsRow w.heap.size 51 2 (.slice a (usesN xa ++ usesN xb).length c) (usesN xa ++ usesN xb).length (useCells (usesN xa ++ usesN xb)) ∧ Below w.heap.size w w' := by
  have hmf : ∀ (fn : Fn) (first cap : Array Value) (w : World), (Instr.makeFunc fn first cap).run Tryz.prog w = .ok (.func fn first cap) w := fun _ _ _ _ => rfl
  have HA := Lib.hid ha
  have HB := Lib.hid hb
  clear ha hb
  obtain ⟨us, hus⟩ : ∃ us, usesN xa ++ usesN xb = us := ⟨_, rfl⟩
  have HUS := Lib.hid hus
  rw [hus]
  clear hus
  go_enter Tryz.func21, Tryz.ntmps21
  go_wp2_with fail
  have HG : Hid (w.grownBy (((w.alloc (.cells #[.int .i64 kind, .string (bs name), .int .i64 A.k, .string A.s, .slice A.a A.n A.c, .int .i64 B.k, .string B.s, .slice B.a B.n B.c, .int .i64 rule, .int .i64 N, .int .i64 d, .int .i64 K, .bool snap] 39)).alloc (.cells #[.slice none 0 0] 48)).alloc (.cells #[.func (.func 38) #[] #[.pointer (some ⟨w.heap.size + 1, 0, none⟩), .pointer (some ⟨w.heap.size + 1 + 1, 0, none⟩)]] 80)) none) := grown_trans (grown_trans (grown_alloc _ _ _) (grown_alloc _ _ _)) (grown_alloc _ _ _)
  have HX : Hid (Blk13 (((w.alloc (.cells #[.int .i64 kind, .string (bs name), .int .i64 A.k, .string A.s, .slice A.a A.n A.c, .int .i64 B.k, .string B.s, .slice B.a B.n B.c, .int .i64 rule, .int .i64 N, .int .i64 d, .int .i64 K, .bool snap] 39)).alloc (.cells #[.slice none 0 0] 48)).alloc (.cells #[.func (.func 38) #[] #[.pointer (some ⟨w.heap.size + 1, 0, none⟩), .pointer (some ⟨w.heap.size + 1 + 1, 0, none⟩)]] 80)) w.heap.size ⟨kind, name, xa, xb, rule, N, d, K, snap⟩ A B) := ((Blk13.new w ⟨kind, name, xa, xb, rule, N, d, K, snap⟩ A B).still (grown_alloc _ _ _)).still (grown_alloc _ _ _)
  have HU : Hid (US (((w.alloc (.cells #[.int .i64 kind, .string (bs name), .int .i64 A.k, .string A.s, .slice A.a A.n A.c, .int .i64 B.k, .string B.s, .slice B.a B.n B.c, .int .i64 rule, .int .i64 N, .int .i64 d, .int .i64 K, .bool snap] 39)).alloc (.cells #[.slice none 0 0] 48)).alloc (.cells #[.func (.func 38) #[] #[.pointer (some ⟨w.heap.size + 1, 0, none⟩), .pointer (some ⟨w.heap.size + 1 + 1, 0, none⟩)]] 80)) (w.heap.size + 1) (((w.alloc (.cells #[.int .i64 kind, .string (bs name), .int .i64 A.k, .string A.s, .slice A.a A.n A.c, .int .i64 B.k, .string B.s, .slice B.a B.n B.c, .int .i64 rule, .int .i64 N, .int .i64 d, .int .i64 K, .bool snap] 39)).alloc (.cells #[.slice none 0 0] 48)).alloc (.cells #[.func (.func 38) #[] #[.pointer (some ⟨w.heap.size + 1, 0, none⟩), .pointer (some ⟨w.heap.size + 1 + 1, 0, none⟩)]] 80)) []) :=
    ⟨Below.refl _ _, ⟨none, 0, (Blk1.new_at _ _ _ (by simp)).grown (grown_alloc _ _ none) (by simp), World.ownsRow_nil _ _ _ _⟩, Blk1.new_at _ _ _ (by simp)⟩
  generalize (((w.alloc (.cells #[.int .i64 kind, .string (bs name), .int .i64 A.k, .string A.s, .slice A.a A.n A.c, .int .i64 B.k, .string B.s, .slice B.a B.n B.c, .int .i64 rule, .int .i64 N, .int .i64 d, .int .i64 K, .bool snap] 39)).alloc (.cells #[.slice none 0 0] 48)).alloc (.cells #[.func (.func 38) #[] #[.pointer (some ⟨w.heap.size + 1, 0, none⟩), .pointer (some ⟨w.heap.size + 1 + 1, 0, none⟩)]] 80)) = w3 at *
  have HL : Hid (∀ (n : Nd) (v : Value), NdIs Any w n v → NdIs (· < w.heap.size + 1) w3 n v) := fun n v h => NdIs.kept HG.out.size (fun g hg _ => ⟨HG.out.block g hg (by simp), Nat.lt_succ_of_lt hg⟩) n v h
  clear hmf
  refine (uses1_any xa (w.heap.size + 1) _ _ [] (HL.out _ _ HA.out) HU.out (by simp; omega)).mono ?_
  rintro e w4 ⟨rfl, hu4⟩
  have HU4 : Hid (US w3 (w.heap.size + 1) w4 (usesN xa)) := hu4
  have HX4 := Lib.hid (HX.out.below hu4.below (Nat.lt_succ_self _))
  have y5 := HX4.out.cell 5
  have y6 := HX4.out.cell 6
  have y7 := HX4.out.cell 7
  simp only [stCells, List.getElem?_cons_succ, List.getElem?_cons_zero] at y5 y6 y7
  have f0 := HU4.out.walk.cell
  clear hu4
  go_wp2_with fail
  clear y5 y6 y7 f0
  refine (uses1_any xb (w.heap.size + 1) _ _ (usesN xa) ((HL.out _ _ HB.out).belowL HU4.out.below) HU4.out.rebase (by omega)).mono ?_
  rintro e w5 ⟨rfl, hu5⟩
  rw [HUS.out] at hu5
  have HU5 := Lib.hid (HU4.out.trans hu5)
  obtain ⟨a, c, q0, hown⟩ := HU5.out.row0
  have HO := Lib.hid hown
  clear hown hu5
  go_wp2
  go_ret
  exact ⟨a, c, rfl, Joins.ownsRow_le HO.out (by omega), (below_still2 HG.out).trans (HU5.out.below.mono (by omega))⟩
end Go.Proofs.YtdjklnlkocconaaGreatDoor
