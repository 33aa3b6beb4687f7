/-
  The reference's whole numbers in memory: rows of ints.
  The reference: Of of a number.
  The reference: Made, the sum of two numbers, Of of an int. (Printed by gen_refadd.py.)
  The reference: Of of an int.
  The reference: what a point's third number comes to.
-/
import Derived.Test.YtnojfiokdhcbjaaGC
import Derived.Test.YtnojfiokdhcbjaaGDec
namespace Go.Proofs.Ytnojfiokdhcbjaa
open Go Go.RowKit

/-- Rows of ints stay as they were. -/
def KI (w w' : World) : Prop := ∀ (g : Nat) (cs : Array Value), w.heap[g]? = some (Obj.cells cs 3 (0, 0)) → w'.heap[g]? = some (Obj.cells cs 3 (0, 0))
theorem KI.refl (w : World) : KI w w := fun _ _ h => h
theorem KI.trans {a b c : World} (h : KI a b) (k : KI b c) : KI a c := fun g cs e => k g cs (h g cs e)
theorem ki_grown {w w' : World} (hg : w.grownBy w' none) : KI w w' := fun g cs e => (hg.block g (Array.getElem?_eq_some_iff.1 e).1 (by simp)).trans e
theorem ki_below {w w' : World} (h : Below w.heap.size w w') : KI w w' := ki_grown (grown_of_below h none)
theorem ki_alloc (w : World) (o : Obj) : KI w (w.alloc o) := ki_grown (grown_alloc _ _ none)
theorem ki_set {T : TypeId} {w : World} {g j : Nat} {cs : List Value} (hB : BlkC T w g cs) (hT : T ≠ 3) (v : Value) : KI w (w.setCell ⟨g, j, none⟩ v) := by
  intro b c e
  have hne : b ≠ g := by
    rintro rfl
    unfold BlkC at hB
    rw [hB] at e
    injection e with e
    injection e with _ e2
    exact hT e2
  rw [Below.heap_setCell _ _ _ _ hne]
  exact e
/-- Rows of ints that were there ahead of a call's work. -/
theorem ki_old {B : Nat} {w w' : World} (h : Below B w w') (hB : w.heap.size ≤ B) : KI w w' := fun g _ e => (h.block g (Nat.lt_of_lt_of_le (Array.getElem?_eq_some_iff.1 e).1 hB)).trans e

/-- A row of ints in memory. -/
def RowI (w : World) (a : Option Addr) (l : List Nat) : Prop := l = [] ∨ ∃ (g : Nat) (cs : Array Value), a = some ⟨g, 0, none⟩ ∧ w.heap[g]? = some (Obj.cells cs 3 (0, 0)) ∧ ∀ (j x : Nat), l[j]? = some x → cs[j]? = some (Value.int .i64 (x : Nat))
theorem RowI.keep {w w' : World} {a : Option Addr} {l : List Nat} (h : RowI w a l) (k : KI w w') : RowI w' a l := by
  rcases h with h | ⟨g, cs, rfl, hb, hc⟩
  · exact .inl h
  · exact .inr ⟨g, cs, rfl, k g cs hb, hc⟩
theorem RowI.cells {w : World} {a : Option Addr} {l : List Nat} (h : RowI w a l) (hl : l ≠ []) : ∃ g, a = some ⟨g, 0, none⟩ ∧ g < w.heap.size ∧ ∀ (j x : Nat), l[j]? = some x → w.cell? ⟨g, j, none⟩ = some (Value.int .i64 (x : Nat)) := by
  rcases h with h | ⟨g, cs, rfl, hb, hc⟩
  · exact absurd h hl
  · refine ⟨g, rfl, (Array.getElem?_eq_some_iff.1 hb).1, fun j x hx => ?_⟩
    unfold World.cell?
    simp [hb, hc j x hx]
theorem RowI.take {w : World} {a : Option Addr} {l : List Nat} (h : RowI w a l) (k : Nat) : RowI w a (l.take k) := by
  rcases h with rfl | ⟨g, cs, rfl, hb, hc⟩
  · exact .inl (by simp)
  · refine .inr ⟨g, cs, rfl, hb, fun j x hx => hc j x ?_⟩
    rw [List.getElem?_take] at hx
    split at hx
    · exact hx
    · cases hx
def ints (l : List Nat) : List Value := l.map fun x : Nat => Value.int .i64 x
theorem rowI_owns {w : World} {B : Nat} {v : Value} {l : List Nat} (h : w.ownsRow B 3 1 v l.length (ints l)) : ∃ a c, v = .slice a l.length c ∧ l.length ≤ c ∧ RowI w a l := by
  obtain ⟨_, ⟨rfl, h0⟩ | ⟨g, cap, cur, rfl, _, hh, hc, _, hs, ht⟩⟩ := h
  · exact ⟨none, 0, by rw [h0], by omega, .inl (List.eq_nil_of_length_eq_zero h0)⟩
  · refine ⟨_, cap, rfl, hc, .inr ⟨g, cur, rfl, hh, fun j x hx => ?_⟩⟩
    have e : (ints l)[j]? = some (.int .i64 (x : Nat)) := by unfold ints; rw [List.getElem?_map, hx]; rfl
    rw [← ht, Nat.mul_one, List.getElem?_take] at e
    split at e
    · simpa using e
    · cases e

/-- A number of the reference in memory. -/
def MIs (w : World) (v : Value) (n : Nat) : Prop := ∃ (a : Option Addr) (c : Nat), v = .agg #[.slice a (Dec.limbs n).length c] ∧ (Dec.limbs n).length ≤ c ∧ RowI w a (Dec.limbs n)
theorem MIs.keep {w w' : World} {v : Value} {n : Nat} (h : MIs w v n) (k : KI w w') : MIs w' v n := by
  obtain ⟨a, c, h1, h2, h3⟩ := h
  exact ⟨a, c, h1, h2, h3.keep k⟩
/-- A number with a sign. -/
def JIs (w : World) (v : Value) (z : Int) : Prop := ∃ (a : Option Addr) (c : Nat), v = .agg #[.int .i64 z.sign, .slice a (Dec.limbs z.natAbs).length c] ∧ (Dec.limbs z.natAbs).length ≤ c ∧ RowI w a (Dec.limbs z.natAbs)
theorem JIs.keep {w w' : World} {v : Value} {z : Int} (h : JIs w v z) (k : KI w w') : JIs w' v z := by
  obtain ⟨a, c, h1, h2, h3⟩ := h
  exact ⟨a, c, h1, h2, h3.keep k⟩
theorem mis_limbs {w : World} {a : Option Addr} {c n : Nat} {l : List Nat} (e : Dec.limbs n = l) (hc : l.length ≤ c) (hr : RowI w a l) : MIs w (.agg #[.slice a l.length c]) n := by
  subst e
  exact ⟨a, c, rfl, hc, hr⟩

theorem intInfo : (Try.prog.info? 3).map (fun i => (i.zero, i.size, i.bytes)) = some (some (.int .i64 0), 1, 8) := by kernel_rfl
/-- One int behind a row of the call's own. -/
theorem wpList_appI {ops : Array Oper} {rest : List Oper} {o : Oper} {a : Act} {Q : Exit → Act → World → Prop} (X : World) (hgd : o.guard = none) (s x : Operand) (ho : o.op = .call { callee := .builtin .append, args := #[s, x], argTypes := #[47, 47] })
    {B : Nat} {v : Value} {l : List Nat} (z : Nat) (hs : a.eval s = v) (hx : a.eval x = .slice (some ⟨X.heap.size, 0, none⟩) 1 1) (hown : X.ownsRow B 3 1 v l.length (ints l)) (hl : l.length ≤ 10000000) (hB : B ≤ X.heap.size)
    (h : ∀ v' w', w'.ownsRow B 3 1 v' (l ++ [z]).length (ints (l ++ [z])) → X.grownBy w' v.ownBlock → wpList Try.prog ops Q rest (a.put o.dst v') w') : wpList Try.prog ops Q (o :: rest) a (X.alloc (.cells #[.int .i64 (z : Nat)] 3)) := by
  obtain ⟨ib, hib, hib0, hib1, hib2⟩ := info_parts intInfo
  have hg1 := grown_alloc X (.cells #[.int .i64 (z : Nat)] 3) none
  have hown1 : (X.alloc (.cells #[.int .i64 (z : Nat)] 3)).ownsRow B 3 1 v l.length (ints l) := hown.kept hg1 (by cases v.ownBlock with
    | none => exact .inl rfl
    | some k => exact .inr (by simp))
  refine wpList_append_own (X.alloc (.cells #[.int .i64 (z : Nat)] 3)) hgd s x 47 ho B 3 ib _ 1 8 Try.underlying47 hib hib0 hib1 hib2 rfl (by decide) v l.length (ints l) hs hown1 ⟨X.heap.size, 0, none⟩ 1 1 [.int .i64 (z : Nat)] hx rfl (cell_new X _ _ rfl) (by intro u hu; cases hu with | head => rfl | tail _ h => cases h) (by unfold maxLen; omega) (by omega) (by simp; omega) (fun v' w' h1 h2 _ => h v' w' ?_ ?_)
  · rw [List.length_append]
    unfold ints
    rw [List.map_append]
    exact h1
  · exact grown_trans (grown_alloc X _ _) h2
end Go.Proofs.Ytnojfiokdhcbjaa

namespace Go.Proofs.Ytnojfiokdhcbjaa
open Go Go.RowKit

theorem m_ret {T : TypeId} {R : Ending → World → Prop} {a : Act} {w : World} {g : Nat} {x : Value} {f : Func} {t : Tmp} (h : f.results = #[.cell t 49])
    (hp : a.tmps.getD t undef = .pointer (some ⟨g, 0, none⟩)) (ha : a.defers = []) (hB : BlkC T w g [x]) (hR : R (.returned (.agg #[x])) w) : bodyPost Try.prog f R .ret a w :=
  blk_ret h (by kernel_rfl) (by kernel_rfl) hp ha hB hR
theorem j_ret {T : TypeId} {R : Ending → World → Prop} {a : Act} {w : World} {g : Nat} {x y : Value} {f : Func} {t : Tmp} (h : f.results = #[.cell t 51])
    (hp : a.tmps.getD t undef = .pointer (some ⟨g, 0, none⟩)) (ha : a.defers = []) (hB : BlkC T w g [x, y]) (hR : R (.returned (.agg #[x, y])) w) : bodyPost Try.prog f R .ret a w :=
  blk_ret h (by kernel_rfl) (by kernel_rfl) hp ha hB hR

theorem m_shut {w w0 : World} {T : TypeId} {g n : Nat} {v u : Value} {cs : List Value} (hv : MIs w0 v n) (hB : BlkC T w0 g cs) (hT : T ≠ 3) (hG : Below w.heap.size w w0) (hg : w.heap.size ≤ g) : MIs (w0.setCell ⟨g, 0, none⟩ u) v n ∧ Below w.heap.size w (w0.setCell ⟨g, 0, none⟩ u) :=
  ⟨hv.keep (ki_set hB hT u), hG.setCell hg u⟩
/-- The frame behind an append onto a row of the call's own. -/
theorem app_frame {w wr w2 : World} {B : Nat} {v : Value} {n : Nat} {xs : List Value} (hb : Below w.heap.size w wr) (ho : wr.ownsRow B 3 1 v n xs) (hB : w.heap.size ≤ B) (hg : wr.grownBy w2 v.ownBlock) : Below w.heap.size w w2 :=
  hb.grown hg hb.size (fun k hk => Nat.le_trans hB (ho.lt k hk).1)
theorem app_blk {wr w2 : World} {B g : Nat} {T : TypeId} {cs : List Value} {v : Value} {n : Nat} {xs : List Value} (hc : BlkC T wr g cs) (ho : wr.ownsRow B 3 1 v n xs) (hB : g < B) (hg : wr.grownBy w2 v.ownBlock) : BlkC T w2 g cs :=
  hc.grown hg (fun e => by have := (ho.lt g e.symm).1; omega)
/-- Of at work. -/
structure OfR (w : World) (n k : Nat) (u v : Value) (wr : World) : Prop where
  r : ∃ (cur : Nat) (o : List Nat), u = .int .u64 (cur : Nat) ∧ wr.ownsRow (w.heap.size + 1) 3 1 v o.length (ints o) ∧ o ++ Dec.limbs cur = Dec.limbs n ∧ cur < k
  c : BlkC 49 wr w.heap.size [.slice none 0 0]
  b : Below w.heap.size w wr
  z : w.heap.size + 1 ≤ wr.heap.size

set_option maxHeartbeats 4000000 in
set_option maxRecDepth 100000 in
theorem mOf_any (n : Nat) (w : World) (hn : n < 18446744073709551616) :
    Calls Try.prog 86 #[.int .u64 (n : Nat)] w fun e w' => ∃ v, e = .returned v ∧ MIs w' v n ∧ Below w.heap.size w w' := by
  have HB : Hid (BlkC 49 (w.alloc (.cells #[.slice none 0 0] 49)) w.heap.size [.slice none 0 0]) := BlkC.new _ _ _
  have HR0 : Hid (OfR w n (n + 1) (.int .u64 (n : Nat)) (.slice none 0 0) (w.alloc (.cells #[.slice none 0 0] 49))) := ⟨⟨n, [], rfl, World.ownsRow_nil _ _ _ _, rfl, by omega⟩, HB.out, (own_alloc _ _).b, by simp⟩
  have HN : Hid ((Dec.limbs n).length ≤ 5) := by
    refine (Dec.limbs_len n 5).2 ?_
    rw [show (10000 : Nat) ^ 5 = 100000000000000000000 by decide]
    omega
  go_enter Try.func86, Try.ntmps86
  go_wp2_with fail
  go_loopg [0, 3] (n + 1) (fun k u v wr => Hid (OfR w n k u v wr))
  case atStart => exact HR0.out
  case round =>
    clear HR0 HB
    obtain ⟨⟨cur, o, rfl, hown, ho, hck⟩, hc, hb, hz⟩ := hrel.out
    have HOWN := Lib.hid hown
    have HO := Lib.hid ho
    have HC := Lib.hid hc
    have HBL := Lib.hid hb
    clear hrel hown ho hc hb
    have HCN : Hid (cur < 18446744073709551616 ∧ o.length ≤ 5) := by
      have h1 := congrArg Dec.valL HO.out
      rw [Dec.val_app, Dec.val_limbs, Dec.val_limbs] at h1
      have h2 := congrArg List.length HO.out
      rw [List.length_append] at h2
      have h3 := HN.out
      have h4 : 0 < 10000 ^ o.length := Nat.pow_pos (by omega)
      have h5 : cur ≤ 10000 ^ o.length * cur := Nat.le_mul_of_pos_left _ h4
      exact ⟨by omega, by omega⟩
    have hcn := HCN.out.1
    have hc1 := HC.out.cell 0
    have hf1 := HC.out.free 0
    have hlt := HC.out.lt
    simp only [List.getElem?_cons_zero] at hc1
    by_cases h0 : 0 < cur
    · have h0z : (0 : Int) < (cur : Int) := by omega
      obtain ⟨Z, hZ⟩ : ∃ Z, Z = cur % 10000 := ⟨_, rfl⟩
      obtain ⟨C, hC⟩ : ∃ C, C = cur / 10000 := ⟨_, rfl⟩
      have hz1 : (cur : Int) % 10000 = (Z : Int) := by omega
      have hz2 : (cur : Int) / 10000 = (C : Int) := by omega
      have hZb : Z < 10000 := by omega
      have HLIM : Hid (Dec.limbs cur = Z :: Dec.limbs C) := by rw [hZ, hC]; exact Dec.limbs_pos (by omega)
      have hCk : C < cur := by omega
      clear hZ hC
      go_wp2_with (refine wpList_appI wr rfl (.tmp 6) (.tmp 10) rfl Z rfl rfl HOWN.out (by have := HCN.out; omega) hz ?_; intro v2 w2 hown2 hg2; have HOWN2 := Lib.hid hown2; have HG2 := Lib.hid hg2; clear hown2 hg2)
      go_roundg (gk - 1)
      case measure => omega
      case rel => exact ⟨⟨C, o ++ [Z], by first | rfl | go_num, HOWN2.out, by rw [List.append_assoc, List.singleton_append, ← HLIM.out, HO.out], by omega⟩, app_blk HC.out HOWN.out (Nat.lt_succ_self _) HG2.out, app_frame HBL.out HOWN.out (Nat.le_succ _) HG2.out, Nat.le_trans hz HG2.out.size⟩
    · obtain rfl : cur = 0 := by omega
      obtain ⟨a, c, rfl, hac, hrow⟩ := rowI_owns HOWN.out
      have HM : Hid (MIs wr (.agg #[.slice a o.length c]) n) := mis_limbs (by rw [← HO.out, Dec.limbs_zero, List.append_nil]) hac hrow
      go_wp2_with fail
      exact m_ret rfl rfl rfl (HC.out.set 0 _) ⟨_, rfl, m_shut HM.out HC.out (by decide) HBL.out (Nat.le_refl _)⟩
end Go.Proofs.Ytnojfiokdhcbjaa

namespace Go.Proofs.Ytnojfiokdhcbjaa
open Go Go.RowKit

set_option maxHeartbeats 4000000 in
set_option maxRecDepth 100000 in
theorem jmade_any (s : Int) (n : Nat) (v : Value) (w : World) (hv : MIs w v n) (hs : s = 1 ∨ s = -1 ∨ n = 0) :
    Calls Try.prog 84 #[.int .i64 s, v] w fun e w' => ∃ r, e = .returned r ∧ JIs w' r (s * (n : Int)) ∧ Below w.heap.size w w' := by
  obtain ⟨a, c, rfl, hc, hr⟩ := hv
  have HR := Lib.hid hr
  have HS := Lib.hid hs
  have HC := Lib.hid hc
  obtain ⟨l, hl⟩ : ∃ l, l = Dec.limbs n := ⟨_, rfl⟩
  rw [← hl] at HR HC ⊢
  have HL := Lib.hid hl
  clear hr hs hc hl
  have HB1 : Hid (BlkC 49 ((w.alloc (.cells #[.slice a l.length c] 49)).alloc (.cells #[.int .i64 0, .slice none 0 0] 51)) w.heap.size [.slice a l.length c]) := (BlkC.new _ w [.slice a l.length c]).still (grown_alloc _ _ none)
  have HB2 : Hid (BlkC 51 ((w.alloc (.cells #[.slice a l.length c] 49)).alloc (.cells #[.int .i64 0, .slice none 0 0] 51)) (w.heap.size + 1) [.int .i64 0, .slice none 0 0]) := blk_at (cs := [.int .i64 0, .slice none 0 0]) (by simp)
  have HG : Hid (Below w.heap.size w ((w.alloc (.cells #[.slice a l.length c] 49)).alloc (.cells #[.int .i64 0, .slice none 0 0] 51))) := ((own_alloc _ _).alloc (by simp) _).b
  have x0 := HB1.out.cell 0
  have y0 := HB2.out.cell 0
  have y1 := HB2.out.cell 1
  have f0 := HB2.out.free 0
  have f1 := HB2.out.free 1
  have z1 := HB1.out.lt
  have z2 := HB2.out.lt
  simp only [List.getElem?_cons_zero, List.getElem?_cons_succ] at x0 y0 y1
  go_enter Try.func84, Try.ntmps84
  by_cases h0 : l.length = 0
  · have hl0 : l = [] := List.eq_nil_of_length_eq_zero h0
    have h0z : ((l.length : Int) == 0) = true := by simp [hl0]
    have hn : n = 0 := Dec.limbs_nil.1 (by rw [← HL.out]; exact hl0)
    go_wp2_with fail
    refine j_ret (x := .int .i64 0) (y := .slice none 0 0) rfl rfl rfl (blk_at (cs := [.int .i64 0, .slice none 0 0]) (by simp)) ⟨_, rfl, ⟨none, 0, ?_, ?_, .inl ?_⟩, (((own_alloc _ _).alloc (by simp) _).b)⟩
    · rw [hn]; simp [Dec.limbs_zero]
    · rw [hn]; simp [Dec.limbs_zero]
    · rw [hn]; simp [Dec.limbs_zero]
  · have h0z : ((l.length : Int) == 0) = false := by rw [beq_eq_false_iff_ne]; omega
    have hn : n ≠ 0 := fun e => h0 (by rw [HL.out, e, Dec.limbs_zero]; rfl)
    have hsg : (s * (n : Int)).sign = s ∧ (s * (n : Int)).natAbs = n := by
      rcases HS.out with rfl | rfl | h
      · refine ⟨?_, by omega⟩
        rw [Int.one_mul]; exact Int.sign_eq_one_of_pos (by omega)
      · refine ⟨?_, by omega⟩
        exact Int.sign_eq_neg_one_of_neg (by omega)
      · exact absurd h hn
    have HSG := Lib.hid hsg
    clear hsg
    go_wp2_with fail
    refine j_ret (x := .int .i64 s) (y := .slice a l.length c) rfl rfl rfl (blk_at (cs := [.int .i64 s, .slice a l.length c]) (by simp)) ⟨_, rfl, ⟨a, c, ?_, ?_, ?_⟩, (((own_alloc _ _).alloc (by simp) _).b)⟩
    · rw [HSG.out.1, HSG.out.2, ← HL.out]
    · rw [HSG.out.2, ← HL.out]; exact HC.out
    · rw [HSG.out.2, ← HL.out]
      exact HR.out.keep (ki_below (((own_alloc _ _).alloc (by simp) _).b))

/-- Add at work: i digits are done. -/
structure AddD (x y i : Nat) (o : List Nat) (c : Nat) : Prop where
  len : o.length = i
  limb : Dec.Limb o
  cb : c ≤ 1
  val : Dec.valL o + 10000 ^ i * c = Dec.valL ((Dec.limbs x).take i) + Dec.valL ((Dec.limbs y).take i)
  top : i = 0 ∨ 10000 ^ (i - 1) ≤ x + y
theorem limb_app {o : List Nat} (h : Dec.Limb o) (s : Nat) : Dec.Limb (o ++ [s % 10000]) := Dec.limb_snoc h (Nat.mod_lt _ (by omega))
theorem pow_of_len {x i : Nat} (h : i < (Dec.limbs x).length) : 10000 ^ i ≤ x := by
  rcases Nat.lt_or_ge x (10000 ^ i) with h1 | h1
  · have := (Dec.limbs_len x i).2 h1
    omega
  · exact h1
theorem take_all {l : List Nat} {i : Nat} (h : ¬ i < l.length) : l.take (i + 1) = l.take i := by rw [List.take_of_length_le (by omega), List.take_of_length_le (by omega)]
theorem addD_step {x y i c p q : Nat} {o : List Nat} (h : AddD x y i o c) (hp : p < 10000) (hq : q < 10000) (e1 : Dec.valL ((Dec.limbs x).take (i + 1)) = Dec.valL ((Dec.limbs x).take i) + 10000 ^ i * p) (e2 : Dec.valL ((Dec.limbs y).take (i + 1)) = Dec.valL ((Dec.limbs y).take i) + 10000 ^ i * q) (ht : 10000 ^ i ≤ x + y) : AddD x y (i + 1) (o ++ [(c + p + q) % 10000]) ((c + p + q) / 10000) := by
  refine ⟨by simp [h.len], limb_app h.limb _, by have := h.cb; omega, ?_, .inr (by simpa using ht)⟩
  rw [Dec.val_snoc, h.len, e1, e2, Nat.pow_succ]
  have := Dec.add_step (x := p) (y := q) h.val
  omega
theorem addD_both {x y i c p q : Nat} {o : List Nat} (h : AddD x y i o c) (hp : (Dec.limbs x)[i]? = some p) (hq : (Dec.limbs y)[i]? = some q) (hpb : p < 10000) (hqb : q < 10000) : AddD x y (i + 1) (o ++ [(c + p + q) % 10000]) ((c + p + q) / 10000) :=
  addD_step h hpb hqb (Dec.val_take_succ hp) (Dec.val_take_succ hq) (by have := pow_of_len (List.getElem?_eq_some_iff.1 hp).1; omega)
theorem addD_left {x y i c p : Nat} {o : List Nat} (h : AddD x y i o c) (hp : (Dec.limbs x)[i]? = some p) (hl : ¬ i < (Dec.limbs y).length) (hpb : p < 10000) : AddD x y (i + 1) (o ++ [(c + p) % 10000]) ((c + p) / 10000) := by
  have := addD_step (q := 0) h hpb (by omega) (Dec.val_take_succ hp) (by rw [take_all hl]; simp) (by have := pow_of_len (List.getElem?_eq_some_iff.1 hp).1; omega)
  simpa using this
theorem addD_right {x y i c q : Nat} {o : List Nat} (h : AddD x y i o c) (hl : ¬ i < (Dec.limbs x).length) (hq : (Dec.limbs y)[i]? = some q) (hqb : q < 10000) : AddD x y (i + 1) (o ++ [(c + q) % 10000]) ((c + q) / 10000) := by
  have := addD_step (p := 0) h (by omega) hqb (by rw [take_all hl]; simp) (Dec.val_take_succ hq) (by have := pow_of_len (List.getElem?_eq_some_iff.1 hq).1; omega)
  simpa using this
theorem addD_whole {x y i c : Nat} {o : List Nat} (h : AddD x y i o c) (hl : ¬ i < (Dec.limbs x).length) (hm : ¬ i < (Dec.limbs y).length) : Dec.valL o + 10000 ^ i * c = x + y := by
  have := h.val
  rwa [List.take_of_length_le (by omega), List.take_of_length_le (by omega), Dec.val_limbs, Dec.val_limbs] at this
theorem addD_none {x y i c : Nat} {o : List Nat} (h : AddD x y i o c) (hl : ¬ i < (Dec.limbs x).length) (hm : ¬ i < (Dec.limbs y).length) (hc : 0 < c) : AddD x y (i + 1) (o ++ [c % 10000]) (c / 10000) := by
  have hw := addD_whole h hl hm
  have h1 : 10000 ^ i ≤ 10000 ^ i * c := Nat.le_mul_of_pos_right _ hc
  have := addD_step (p := 0) (q := 0) h (by omega) (by omega) (by rw [take_all hl]; simp) (by rw [take_all hm]; simp) (by omega)
  simpa using this
theorem limbs_of_top {o : List Nat} (h : Dec.Limb o) (ht : o.length = 0 ∨ 10000 ^ (o.length - 1) ≤ Dec.valL o) : Dec.limbs (Dec.valL o) = o := by
  have e := Dec.cut_limbs h o.length (Nat.le_refl _) (fun j hj x hx => by rw [List.getElem?_eq_none hj] at hx; cases hx) ?_
  · rw [List.take_length] at e
    exact e.symm
  · rcases ht with h0 | h0
    · exact .inl h0
    · right
      intro hz
      have hpos : 0 < o.length := by
        have := (List.getElem?_eq_some_iff.1 hz).1
        omega
      have h1 := Dec.val_take_succ hz
      rw [show o.length - 1 + 1 = o.length by omega, List.take_length] at h1
      have h2 := Dec.val_lt (l := o.take (o.length - 1)) (fun x hx => h x (List.mem_of_mem_take hx))
      rw [List.length_take, Nat.min_eq_left (by omega)] at h2
      omega
theorem addD_end {x y i c : Nat} {o : List Nat} (h : AddD x y i o c) (hl : ¬ i < (Dec.limbs x).length) (hm : ¬ i < (Dec.limbs y).length) (hc : ¬ 0 < c) : Dec.limbs (x + y) = o := by
  have hw := addD_whole h hl hm
  obtain rfl : c = 0 := by omega
  rw [Nat.mul_zero, Nat.add_zero] at hw
  have := limbs_of_top h.limb (by rw [h.len, hw]; exact h.top)
  rwa [hw] at this
/-- No more digits than the longer one has, and one. -/
theorem addD_len {x y i c : Nat} {o : List Nat} (h : AddD x y i o c) : i ≤ (Dec.limbs x).length + (Dec.limbs y).length + 1 := by
  rcases h.top with h0 | h0
  · omega
  · have h1 := (Dec.limbs_len x (Dec.limbs x).length).1 (Nat.le_refl _)
    have h2 := (Dec.limbs_len y (Dec.limbs y).length).1 (Nat.le_refl _)
    rcases Nat.lt_or_ge ((Dec.limbs x).length + (Dec.limbs y).length + 1) i with h3 | h3
    · exfalso
      have h4 : 10000 ^ ((Dec.limbs x).length + (Dec.limbs y).length + 1) ≤ 10000 ^ (i - 1) := Nat.pow_le_pow_right (by omega) (by omega)
      rw [Nat.pow_succ, Nat.pow_add] at h4
      have h5 : 10000 ^ (Dec.limbs x).length ≤ 10000 ^ (Dec.limbs x).length * 10000 ^ (Dec.limbs y).length := Nat.le_mul_of_pos_right _ (Nat.pow_pos (by omega))
      have h6 : 10000 ^ (Dec.limbs y).length ≤ 10000 ^ (Dec.limbs x).length * 10000 ^ (Dec.limbs y).length := Nat.le_mul_of_pos_left _ (Nat.pow_pos (by omega))
      omega
    · exact h3
structure MAddR (w : World) (x y : Nat) (u1 u2 : Value) (k : Nat) (v s6 s7 : Value) (wr : World) : Prop where
  r : ∃ (i : Nat) (o : List Nat) (c : Nat), wr.ownsRow (w.heap.size + 3) 3 1 v o.length (ints o) ∧ s6 = .int .i64 (c : Nat) ∧ s7 = .int .i64 (i : Nat) ∧ AddD x y i o c ∧ (Dec.limbs x).length + (Dec.limbs y).length + 1 < k + i
  b1 : BlkC 49 wr w.heap.size [u1]
  b2 : BlkC 49 wr (w.heap.size + 1) [u2]
  b3 : BlkC 49 wr (w.heap.size + 2) [.slice none 0 0]
  b : Below w.heap.size w wr
  z : w.heap.size + 3 ≤ wr.heap.size

set_option maxHeartbeats 4000000 in
set_option maxRecDepth 100000 in
theorem madd_any (x y : Nat) (v u : Value) (w : World) (hv : MIs w v x) (hu : MIs w u y) (hx : (Dec.limbs x).length ≤ 1000000) (hy : (Dec.limbs y).length ≤ 1000000) :
    Calls Try.prog 85 #[v, u] w fun e w' => ∃ r, e = .returned r ∧ MIs w' r (x + y) ∧ Below w.heap.size w w' := by
  obtain ⟨a, c1, rfl, hc1, hr1⟩ := hv
  obtain ⟨a', c2, rfl, hc2, hr2⟩ := hu
  have HR1 := Lib.hid hr1
  have HR2 := Lib.hid hr2
  have HL1 := Lib.hid (Dec.limbs_limb x)
  have HL2 := Lib.hid (Dec.limbs_limb y)
  clear hr1 hr2
  have HB1 : Hid (BlkC 49 (((w.alloc (.cells #[.slice a (Dec.limbs x).length c1] 49)).alloc (.cells #[.slice a' (Dec.limbs y).length c2] 49)).alloc (.cells #[.slice none 0 0] 49)) w.heap.size [.slice a (Dec.limbs x).length c1]) := ((BlkC.new _ w [.slice a (Dec.limbs x).length c1]).still (grown_alloc _ _ none)).still (grown_alloc _ _ none)
  have HB2 : Hid (BlkC 49 (((w.alloc (.cells #[.slice a (Dec.limbs x).length c1] 49)).alloc (.cells #[.slice a' (Dec.limbs y).length c2] 49)).alloc (.cells #[.slice none 0 0] 49)) (w.heap.size + 1) [.slice a' (Dec.limbs y).length c2]) := (blk_at (cs := [.slice a' (Dec.limbs y).length c2]) (by simp)).still (grown_alloc _ _ none)
  have HB3 : Hid (BlkC 49 (((w.alloc (.cells #[.slice a (Dec.limbs x).length c1] 49)).alloc (.cells #[.slice a' (Dec.limbs y).length c2] 49)).alloc (.cells #[.slice none 0 0] 49)) (w.heap.size + 2) [.slice none 0 0]) := blk_at (cs := [.slice none 0 0]) (by simp)
  have HG : Hid (Below w.heap.size w (((w.alloc (.cells #[.slice a (Dec.limbs x).length c1] 49)).alloc (.cells #[.slice a' (Dec.limbs y).length c2] 49)).alloc (.cells #[.slice none 0 0] 49))) := (((own_alloc _ _).alloc (by simp) _).alloc (by simp; omega) _).b
  have HR0 : Hid (MAddR w x y (.slice a (Dec.limbs x).length c1) (.slice a' (Dec.limbs y).length c2) ((Dec.limbs x).length + (Dec.limbs y).length + 2) (.slice none 0 0) (.int .i64 0) (.int .i64 0) (((w.alloc (.cells #[.slice a (Dec.limbs x).length c1] 49)).alloc (.cells #[.slice a' (Dec.limbs y).length c2] 49)).alloc (.cells #[.slice none 0 0] 49))) :=
    ⟨⟨0, [], 0, World.ownsRow_nil _ _ _ _, rfl, rfl, ⟨rfl, (by intro x hx; cases hx), (by omega), rfl, .inl rfl⟩, by omega⟩, HB1.out, HB2.out, HB3.out, HG.out, by simp⟩
  clear HB1 HB2 HB3 HG
  go_enter Try.func85, Try.ntmps85
  go_wp2_with fail
  go_loopg [5, 6, 7] ((Dec.limbs x).length + (Dec.limbs y).length + 2) (fun k s5 s6 s7 wr => Hid (MAddR w x y (.slice a (Dec.limbs x).length c1) (.slice a' (Dec.limbs y).length c2) k s5 s6 s7 wr))
  case atStart => exact HR0.out
  case round =>
    clear HR0
    obtain ⟨⟨i, o, c, hown, rfl, rfl, hd, hik⟩, hb1, hb2, hb3, hb, hz⟩ := hrel.out
    have HOWN := Lib.hid hown
    have HD := Lib.hid hd
    have HB1 := Lib.hid hb1
    have HB2 := Lib.hid hb2
    have HB3 := Lib.hid hb3
    have HBL := Lib.hid hb
    have hcb := hd.cb
    have hil := addD_len hd
    have x0 := hb1.cell 0
    have y0 := hb2.cell 0
    have z0 := hb3.cell 0
    have f0 := hb3.free 0
    have lt1 := hb1.lt
    have lt2 := hb2.lt
    have lt3 := hb3.lt
    simp only [List.getElem?_cons_zero] at x0 y0 z0
    clear hrel hown hd hb1 hb2 hb3 hb
    by_cases hl1 : i < (Dec.limbs x).length
    · have hlz1 : (i : Int) < ((Dec.limbs x).length : Int) := by omega
      by_cases hl2 : i < (Dec.limbs y).length
      · have hlz2 : (i : Int) < ((Dec.limbs y).length : Int) := by omega
        obtain ⟨p, hp⟩ : ∃ p, (Dec.limbs x)[i]? = some p := ⟨(Dec.limbs x)[i]'(by omega), List.getElem?_eq_getElem _⟩
        have hpb := HL1.out p (List.mem_of_getElem? hp)
        obtain ⟨g1, e1, gl1, cl1⟩ := (HR1.out.keep (ki_below HBL.out)).cells (by rintro h; rw [h] at hl1; simp at hl1)
        subst e1
        have cc1 := cl1 _ _ hp
        have HP := Lib.hid hp
        clear cl1
        obtain ⟨q, hq⟩ : ∃ q, (Dec.limbs y)[i]? = some q := ⟨(Dec.limbs y)[i]'(by omega), List.getElem?_eq_getElem _⟩
        have hqb := HL2.out q (List.mem_of_getElem? hq)
        obtain ⟨g2, e2, gl2, cl2⟩ := (HR2.out.keep (ki_below HBL.out)).cells (by rintro h; rw [h] at hl2; simp at hl2)
        subst e2
        have cc2 := cl2 _ _ hq
        have HQ := Lib.hid hq
        clear cl2
        obtain ⟨Z, hZ⟩ : ∃ Z, Z = (c + p + q) % 10000 := ⟨_, rfl⟩
        obtain ⟨C, hC⟩ : ∃ C, C = (c + p + q) / 10000 := ⟨_, rfl⟩
        have hz1 : ((c : Int) + (p : Int) + (q : Int)) % 10000 = (Z : Int) := by omega
        have hz2 : ((c : Int) + (p : Int) + (q : Int)) / 10000 = (C : Int) := by omega
        have HN : Hid (AddD x y (i + 1) (o ++ [Z]) C) := by rw [hZ, hC]; exact addD_both HD.out HP.out HQ.out hpb hqb
        have hCb : C ≤ 1 := HN.out.cb
        clear hZ hC hp hq
        go_wp2_with (refine wpList_appI wr rfl (.tmp 50) (.tmp 53) rfl Z rfl rfl HOWN.out (by rw [HD.out.len]; omega) (Nat.le_trans (by omega) hz) ?_; intro v2 w2 hown2 hg2; have HOWN2 := Lib.hid hown2; have HG2 := Lib.hid hg2; clear hown2 hg2)
        go_roundg (gk - 1)
        case measure => omega
        case rel => exact ⟨⟨i + 1, o ++ [Z], C, HOWN2.out, by first | rfl | go_num, by first | rfl | go_num, HN.out, by omega⟩, app_blk HB1.out HOWN.out (by omega) HG2.out, app_blk HB2.out HOWN.out (by omega) HG2.out, app_blk HB3.out HOWN.out (by omega) HG2.out, app_frame HBL.out HOWN.out (by omega) HG2.out, Nat.le_trans hz HG2.out.size⟩
      · have hlz2 : ¬ (i : Int) < ((Dec.limbs y).length : Int) := by omega
        obtain ⟨p, hp⟩ : ∃ p, (Dec.limbs x)[i]? = some p := ⟨(Dec.limbs x)[i]'(by omega), List.getElem?_eq_getElem _⟩
        have hpb := HL1.out p (List.mem_of_getElem? hp)
        obtain ⟨g1, e1, gl1, cl1⟩ := (HR1.out.keep (ki_below HBL.out)).cells (by rintro h; rw [h] at hl1; simp at hl1)
        subst e1
        have cc1 := cl1 _ _ hp
        have HP := Lib.hid hp
        clear cl1
        obtain ⟨Z, hZ⟩ : ∃ Z, Z = (c + p) % 10000 := ⟨_, rfl⟩
        obtain ⟨C, hC⟩ : ∃ C, C = (c + p) / 10000 := ⟨_, rfl⟩
        have hz1 : ((c : Int) + (p : Int)) % 10000 = (Z : Int) := by omega
        have hz2 : ((c : Int) + (p : Int)) / 10000 = (C : Int) := by omega
        have HN : Hid (AddD x y (i + 1) (o ++ [Z]) C) := by rw [hZ, hC]; exact addD_left HD.out HP.out hl2 hpb
        have hCb : C ≤ 1 := HN.out.cb
        clear hZ hC hp
        go_wp2_with (refine wpList_appI wr rfl (.tmp 50) (.tmp 53) rfl Z rfl rfl HOWN.out (by rw [HD.out.len]; omega) (Nat.le_trans (by omega) hz) ?_; intro v2 w2 hown2 hg2; have HOWN2 := Lib.hid hown2; have HG2 := Lib.hid hg2; clear hown2 hg2)
        go_roundg (gk - 1)
        case measure => omega
        case rel => exact ⟨⟨i + 1, o ++ [Z], C, HOWN2.out, by first | rfl | go_num, by first | rfl | go_num, HN.out, by omega⟩, app_blk HB1.out HOWN.out (by omega) HG2.out, app_blk HB2.out HOWN.out (by omega) HG2.out, app_blk HB3.out HOWN.out (by omega) HG2.out, app_frame HBL.out HOWN.out (by omega) HG2.out, Nat.le_trans hz HG2.out.size⟩
    · have hlz1 : ¬ (i : Int) < ((Dec.limbs x).length : Int) := by omega
      by_cases hl2 : i < (Dec.limbs y).length
      · have hlz2 : (i : Int) < ((Dec.limbs y).length : Int) := by omega
        obtain ⟨q, hq⟩ : ∃ q, (Dec.limbs y)[i]? = some q := ⟨(Dec.limbs y)[i]'(by omega), List.getElem?_eq_getElem _⟩
        have hqb := HL2.out q (List.mem_of_getElem? hq)
        obtain ⟨g2, e2, gl2, cl2⟩ := (HR2.out.keep (ki_below HBL.out)).cells (by rintro h; rw [h] at hl2; simp at hl2)
        subst e2
        have cc2 := cl2 _ _ hq
        have HQ := Lib.hid hq
        clear cl2
        obtain ⟨Z, hZ⟩ : ∃ Z, Z = (c + q) % 10000 := ⟨_, rfl⟩
        obtain ⟨C, hC⟩ : ∃ C, C = (c + q) / 10000 := ⟨_, rfl⟩
        have hz1 : ((c : Int) + (q : Int)) % 10000 = (Z : Int) := by omega
        have hz2 : ((c : Int) + (q : Int)) / 10000 = (C : Int) := by omega
        have HN : Hid (AddD x y (i + 1) (o ++ [Z]) C) := by rw [hZ, hC]; exact addD_right HD.out hl1 HQ.out hqb
        have hCb : C ≤ 1 := HN.out.cb
        clear hZ hC hq
        go_wp2_with (refine wpList_appI wr rfl (.tmp 50) (.tmp 53) rfl Z rfl rfl HOWN.out (by rw [HD.out.len]; omega) (Nat.le_trans (by omega) hz) ?_; intro v2 w2 hown2 hg2; have HOWN2 := Lib.hid hown2; have HG2 := Lib.hid hg2; clear hown2 hg2)
        go_roundg (gk - 1)
        case measure => omega
        case rel => exact ⟨⟨i + 1, o ++ [Z], C, HOWN2.out, by first | rfl | go_num, by first | rfl | go_num, HN.out, by omega⟩, app_blk HB1.out HOWN.out (by omega) HG2.out, app_blk HB2.out HOWN.out (by omega) HG2.out, app_blk HB3.out HOWN.out (by omega) HG2.out, app_frame HBL.out HOWN.out (by omega) HG2.out, Nat.le_trans hz HG2.out.size⟩
      · have hlz2 : ¬ (i : Int) < ((Dec.limbs y).length : Int) := by omega
        by_cases hc0 : 0 < c
        · have hc0z : (0 : Int) < (c : Int) := by omega
          obtain ⟨Z, hZ⟩ : ∃ Z, Z = (c) % 10000 := ⟨_, rfl⟩
          obtain ⟨C, hC⟩ : ∃ C, C = (c) / 10000 := ⟨_, rfl⟩
          have hz1 : ((c : Int)) % 10000 = (Z : Int) := by omega
          have hz2 : ((c : Int)) / 10000 = (C : Int) := by omega
          have HN : Hid (AddD x y (i + 1) (o ++ [Z]) C) := by rw [hZ, hC]; exact addD_none HD.out hl1 hl2 hc0
          have hCb : C ≤ 1 := HN.out.cb
          clear hZ hC
          go_wp2_with (refine wpList_appI wr rfl (.tmp 50) (.tmp 53) rfl Z rfl rfl HOWN.out (by rw [HD.out.len]; omega) (Nat.le_trans (by omega) hz) ?_; intro v2 w2 hown2 hg2; have HOWN2 := Lib.hid hown2; have HG2 := Lib.hid hg2; clear hown2 hg2)
          go_roundg (gk - 1)
          case measure => omega
          case rel => exact ⟨⟨i + 1, o ++ [Z], C, HOWN2.out, by first | rfl | go_num, by first | rfl | go_num, HN.out, by omega⟩, app_blk HB1.out HOWN.out (by omega) HG2.out, app_blk HB2.out HOWN.out (by omega) HG2.out, app_blk HB3.out HOWN.out (by omega) HG2.out, app_frame HBL.out HOWN.out (by omega) HG2.out, Nat.le_trans hz HG2.out.size⟩
        · have hc0z : ¬ (0 : Int) < (c : Int) := by omega
          obtain ⟨ao, co, rfl, hac, hrow⟩ := rowI_owns HOWN.out
          have HM : Hid (MIs wr (.agg #[.slice ao o.length co]) (x + y)) := mis_limbs (addD_end HD.out hl1 hl2 hc0) hac hrow
          go_wp2_with fail
          exact m_ret rfl rfl rfl (HB3.out.set 0 _) ⟨_, rfl, m_shut HM.out HB3.out (by decide) HBL.out (by omega)⟩

end Go.Proofs.Ytnojfiokdhcbjaa

namespace Go.Proofs.Ytnojfiokdhcbjaa
open Go Go.RowKit

theorem lim20 {m : Nat} (h : m < 18446744073709551616) : (Dec.limbs m).length ≤ 1000000 := by
  have : (Dec.limbs m).length ≤ 5 := by
    refine (Dec.limbs_len m 5).2 ?_
    rw [show (10000 : Nat) ^ 5 = 100000000000000000000 by decide]
    omega
  omega
/-- A number stored into a block of the call's own. -/
theorem j_shut {w w0 : World} {T : TypeId} {g c : Nat} {z : Int} {a : Option Addr} {x y : Value} (hB : BlkC T w0 g [x, y]) (hT : T ≠ 3) (hc : (Dec.limbs z.natAbs).length ≤ c) (hr : RowI w0 a (Dec.limbs z.natAbs)) (hG : Below w.heap.size w w0) (hg : w.heap.size ≤ g := by exact Nat.le_refl _) :
    BlkC T ((w0.setCell ⟨g, 0, none⟩ (.int .i64 z.sign)).setCell ⟨g, 1, none⟩ (.slice a (Dec.limbs z.natAbs).length c)) g [.int .i64 z.sign, .slice a (Dec.limbs z.natAbs).length c] ∧
    JIs ((w0.setCell ⟨g, 0, none⟩ (.int .i64 z.sign)).setCell ⟨g, 1, none⟩ (.slice a (Dec.limbs z.natAbs).length c)) (.agg #[.int .i64 z.sign, .slice a (Dec.limbs z.natAbs).length c]) z ∧
    Below w.heap.size w ((w0.setCell ⟨g, 0, none⟩ (.int .i64 z.sign)).setCell ⟨g, 1, none⟩ (.slice a (Dec.limbs z.natAbs).length c)) := by
  have h1 := hB.set 0 (.int .i64 z.sign)
  exact ⟨h1.set 1 _, ⟨a, c, rfl, hc, (hr.keep (ki_set hB hT _)).keep (ki_set h1 hT _)⟩, (hG.setCell hg _).setCell hg _⟩

set_option maxHeartbeats 4000000 in
set_option maxRecDepth 100000 in
theorem jOf_any (n : Int) (w : World) (h0 : -9223372036854775808 ≤ n) (h1 : n ≤ 9223372036854775807) :
    Calls Try.prog 47 #[.int .i64 n] w fun e w' => ∃ r, e = .returned r ∧ JIs w' r n ∧ Below w.heap.size w w' := by
  have HB : Hid (BlkC 51 (w.alloc (.cells #[.int .i64 0, .slice none 0 0] 51)) w.heap.size [.int .i64 0, .slice none 0 0]) := BlkC.new _ w [.int .i64 0, .slice none 0 0]
  have HG : Hid (Below w.heap.size w (w.alloc (.cells #[.int .i64 0, .slice none 0 0] 51))) := (own_alloc _ _).b
  go_enter Try.func47, Try.ntmps47
  by_cases hn : n < 0
  · obtain ⟨m, rfl⟩ : ∃ m : Nat, n = -(m : Int) - 1 := ⟨(-(n + 1)).toNat, by omega⟩
    have HM : Hid (m < 18446744073709551616) := Lib.hid (by omega)
    go_wp2_with fail
    refine (mOf_any m _ HM.out).mono ?_
    rintro e w1 ⟨v1, rfl, hv1, hg1⟩
    have HB1 : Hid (BlkC 51 w1 w.heap.size [.int .i64 0, .slice none 0 0]) := HB.out.still (grown_of_below hg1 none)
    have HG1 : Hid (Below w.heap.size w w1) := HG.out.trans (hg1.mono HG.out.size)
    have HV1 := Lib.hid hv1
    clear hv1 hg1 HB HG
    go_wp2_with fail
    refine (mOf_any 1 _ (by decide)).mono ?_
    rintro e w2 ⟨v2, rfl, hv2, hg2⟩
    have HB2 : Hid (BlkC 51 w2 w.heap.size [.int .i64 0, .slice none 0 0]) := HB1.out.still (grown_of_below hg2 none)
    have HG2 : Hid (Below w.heap.size w w2) := HG1.out.trans (hg2.mono HG1.out.size)
    have HV2 := Lib.hid hv2
    have HV12 := Lib.hid (HV1.out.keep (ki_below hg2))
    clear hv2 hg2 HB1 HG1 HV1
    go_wp2_with fail
    refine (madd_any m 1 _ _ _ HV12.out HV2.out (lim20 HM.out) (lim20 (by decide))).mono ?_
    rintro e w3 ⟨v3, rfl, hv3, hg3⟩
    have HB3 : Hid (BlkC 51 w3 w.heap.size [.int .i64 0, .slice none 0 0]) := HB2.out.still (grown_of_below hg3 none)
    have HG3 : Hid (Below w.heap.size w w3) := HG2.out.trans (hg3.mono HG2.out.size)
    have HV3 := Lib.hid hv3
    clear hv3 hg3 HB2 HG2 HV12 HV2
    go_wp2_with fail
    refine (jmade_any (-1) _ _ _ HV3.out (.inr (.inl rfl))).mono ?_
    rintro e w4 ⟨v4, rfl, hv4, hg4⟩
    have HBn : Hid (BlkC 51 w4 w.heap.size [.int .i64 0, .slice none 0 0]) := HB3.out.still (grown_of_below hg4 none)
    have HGn : Hid (Below w.heap.size w w4) := HG3.out.trans (hg4.mono HG3.out.size)
    have HJ : Hid (JIs w4 v4 (-(m : Int) - 1)) := by
      rw [show -(m : Int) - 1 = -1 * ((m + 1 : Nat) : Int) by omega]
      exact hv4
    clear hv4 hg4 HB3 HG3 HV3
    obtain ⟨a, c, rfl, hc, hr⟩ := HJ.out
    have x0 := HBn.out.cell 0
    have x1 := HBn.out.cell 1
    have f0 := HBn.out.free 0
    have f1 := HBn.out.free 1
    have lt := HBn.out.lt
    simp only [List.getElem?_cons_zero, List.getElem?_cons_succ] at x0 x1
    have HE := Lib.hid (j_shut (T := 51) HBn.out (by decide) hc hr HGn.out)
    clear hc hr
    go_wp2_with fail
    exact j_ret rfl rfl rfl HE.out.1 ⟨_, rfl, HE.out.2⟩
  · obtain ⟨m, rfl⟩ : ∃ m : Nat, n = (m : Int) := ⟨n.toNat, by omega⟩
    have HM : Hid (m < 18446744073709551616) := Lib.hid (by omega)
    go_wp2_with fail
    refine (mOf_any m _ HM.out).mono ?_
    rintro e w3 ⟨v3, rfl, hv3, hg3⟩
    have HB3 : Hid (BlkC 51 w3 w.heap.size [.int .i64 0, .slice none 0 0]) := HB.out.still (grown_of_below hg3 none)
    have HG3 : Hid (Below w.heap.size w w3) := HG.out.trans (hg3.mono HG.out.size)
    have HV3 := Lib.hid hv3
    clear hv3 hg3 HB HG
    go_wp2_with fail
    refine (jmade_any 1 _ _ _ HV3.out (.inl rfl)).mono ?_
    rintro e w4 ⟨v4, rfl, hv4, hg4⟩
    have HBn : Hid (BlkC 51 w4 w.heap.size [.int .i64 0, .slice none 0 0]) := HB3.out.still (grown_of_below hg4 none)
    have HGn : Hid (Below w.heap.size w w4) := HG3.out.trans (hg4.mono HG3.out.size)
    have HJ : Hid (JIs w4 v4 (m : Int)) := by
      rw [show (m : Int) = 1 * (m : Int) by omega]
      exact hv4
    clear hv4 hg4 HB3 HG3 HV3
    obtain ⟨a, c, rfl, hc, hr⟩ := HJ.out
    have x0 := HBn.out.cell 0
    have x1 := HBn.out.cell 1
    have f0 := HBn.out.free 0
    have f1 := HBn.out.free 1
    have lt := HBn.out.lt
    simp only [List.getElem?_cons_zero, List.getElem?_cons_succ] at x0 x1
    have HE := Lib.hid (j_shut (T := 51) HBn.out (by decide) hc hr HGn.out)
    clear hc hr
    go_wp2_with fail
    exact j_ret rfl rfl rfl HE.out.1 ⟨_, rfl, HE.out.2⟩
end Go.Proofs.Ytnojfiokdhcbjaa

namespace Go.Proofs.Ytnojfiokdhcbjaa
open Go Go.RowKit

/-- What a point's third number comes to, from 1 to 60. -/
def und (d : Int) : Nat := 1 + (d % 18446744073709551616 % 60).toNat
theorem und_pos (d : Int) : 0 < und d ∧ und d ≤ 60 := by unfold und; omega

set_option maxHeartbeats 4000000 in
set_option maxRecDepth 100000 in
theorem under_any (x y d : Int) (w : World) :
    Calls Try.prog 46 #[.agg #[.int .i64 x, .int .i64 y, .int .i64 d]] w fun e w' => e = .returned (.int .i64 (und d : Nat)) ∧ Below w.heap.size w w' := by
  have hu : wrap64 (1 + wrap64 ((IntKind.u64.wrap d).tmod 60)) = (und d : Nat) := by
    have h0 : 0 ≤ IntKind.u64.wrap d := by rw [IntKind.wrap_u64]; omega
    rw [Int.tmod_eq_emod_of_nonneg h0, IntKind.wrap_u64]
    unfold wrap64 und
    omega
  go_enter Try.func46, Try.ntmps46
  go_wp2_with fail
  rw [hu]
  go_ret
  exact ⟨rfl, (own_alloc _ _).b⟩
end Go.Proofs.Ytnojfiokdhcbjaa
