/-
  Whole numbers by ten thousands: plain Lean, no program.
-/
import Derived.Test.YtnojfiokdhcbjaaGC
import Derived.Test.YtnojfiokdhcbjaaPtA
import Derived.WideShapes
import Derived.ChangeShapes
import Derived.Deep.Strs
namespace Go.Proofs.Ytnojfiokdhcbjaa.Dec
def limbs (n : Nat) : List Nat := if h : n = 0 then [] else n % 10000 :: limbs (n / 10000)
termination_by n
decreasing_by omega
def valL : List Nat → Nat
 | [] => 0
 | x :: r => x + 10000 * valL r
def Limb (l : List Nat) : Prop := ∀ x ∈ l, x < 10000
theorem limbs_zero : limbs 0 = [] := by rw [limbs]; rfl
theorem limbs_pos {n : Nat} (h : n ≠ 0) : limbs n = n % 10000 :: limbs (n / 10000) := by rw [limbs, dif_neg h]
theorem val_limbs (n : Nat) : valL (limbs n) = n := by
 induction n using Nat.strongRecOn with
 | ind n ih =>
  by_cases h : n = 0
  ·subst h; rw [limbs_zero]; rfl
  ·rw [limbs_pos h, valL, ih _ (by omega)]; omega
theorem limbs_limb (n : Nat) : Limb (limbs n) := by
 induction n using Nat.strongRecOn with
 | ind n ih =>
  by_cases h : n = 0
  ·subst h; rw [limbs_zero]; intro x hx; cases hx
  ·rw [limbs_pos h]
   intro x hx
   rcases List.mem_cons.1 hx with rfl | hx
   ·omega
   ·exact ih _ (by omega) x hx
theorem val_pos {l : List Nat} (h : l ≠ []) (ht : l.getLast h ≠ 0) : 0 < valL l := by
 induction l with
 | nil => exact absurd rfl h
 | cons x r ih =>
  cases r with
  | nil => simp at ht; simp [valL]; omega
  | cons y r =>
   have := ih (by simp) (by rwa [List.getLast_cons (by simp)] at ht)
   rw [valL]; omega
theorem limbs_val {l : List Nat} (hl : Limb l) (ht : ∀ h : l ≠ [], l.getLast h ≠ 0) : limbs (valL l) = l := by
 induction l with
 | nil => exact limbs_zero
 | cons x r ih =>
  have hx := hl x (List.mem_cons_self ..)
  have hp := val_pos (l := x :: r) (by simp) (ht (by simp))
  rw [limbs_pos (by omega)]
  have e1 : valL (x :: r) % 10000 = x := by rw [valL]; omega
  have e2 : valL (x :: r) / 10000 = valL r := by rw [valL]; omega
  rw [e1, e2, ih (fun y hy => hl y (List.mem_cons_of_mem _ hy)) ?_]
  intro h
  have := ht (by simp)
  rwa [List.getLast_cons h] at this
theorem val_app (a b : List Nat) : valL (a ++ b) = valL a + 10000 ^ a.length * valL b := by
 induction a with
 | nil => simp [valL]
 | cons x r ih =>
  rw [List.cons_append, valL, valL, ih, List.length_cons, Nat.pow_succ, Nat.mul_add]
  rw [Nat.mul_comm (10000 ^ r.length) 10000, Nat.mul_assoc]
  omega
theorem val_lt {l : List Nat} (h : Limb l) : valL l < 10000 ^ l.length := by
 induction l with
 | nil => simp [valL]
 | cons x r ih =>
  have := ih (fun y hy => h y (List.mem_cons_of_mem _ hy))
  have := h x (List.mem_cons_self ..)
  rw [valL, List.length_cons, Nat.pow_succ]
  omega
theorem val_zeros (n : Nat) : valL (List.replicate n 0) = 0 := by
 induction n with
 | zero => rfl
 | succ n ih => rw [List.replicate_succ, valL, ih]
theorem cut_limbs {l : List Nat} (hl : Limb l) (k : Nat) (hk : k ≤ l.length) (hz : ∀ j, k ≤ j → ∀ x, l[j]? = some x → x = 0) (ht : k = 0 ∨ l[k - 1]? ≠ some 0) : l.take k = limbs (valL l) := by
 have e : l = l.take k ++ List.replicate (l.length - k) 0 := by
  apply List.ext_getElem?
  intro j
  by_cases h : j < k
  ·rw [List.getElem?_append_left (by simp; omega), List.getElem?_take, if_pos h]
  ·rw [List.getElem?_append_right (by simp; omega), List.length_take, Nat.min_eq_left hk]
   by_cases h2 : j < l.length
   ·rw [List.getElem?_replicate, if_pos (by omega), List.getElem?_eq_getElem h2]
    exact congrArg some (hz j (by omega) _ (List.getElem?_eq_getElem h2))
   ·rw [List.getElem?_replicate, if_neg (by omega), List.getElem?_eq_none (by omega)]
 have ev : valL l = valL (l.take k) := by
  conv => lhs; rw [e]
  rw [val_app, val_zeros]; rfl
 rw [ev, limbs_val]
 ·intro x hx; exact hl x (List.mem_of_mem_take hx)
 ·intro h h0
  rcases ht with rfl | ht
  ·exact h (by simp)
  ·apply ht
   have hkp : 0 < k := by
    rcases Nat.eq_zero_or_pos k with rfl | h'
    ·exact absurd (by simp) h
    ·exact h'
   rw [List.getLast_eq_getElem, List.getElem_take] at h0
   rw [← h0]
   simp only [List.length_take, Nat.min_eq_left hk]
   exact (List.getElem?_eq_getElem _)
theorem limbs_len (n k : Nat) : (limbs n).length ≤ k ↔ n < 10000 ^ k := by
 constructor
 ·intro h
  have := val_lt (limbs_limb n)
  rw [val_limbs] at this
  exact Nat.lt_of_lt_of_le this (Nat.pow_le_pow_right (by decide) h)
 ·intro h
  induction k generalizing n with
  | zero => simp at h; subst h; rw [limbs_zero]; simp
  | succ k ih =>
   by_cases h0 : n = 0
   ·subst h0; rw [limbs_zero]; simp
   ·rw [limbs_pos h0, List.length_cons]
    have := ih (n / 10000) (by rw [Nat.pow_succ] at h; exact Nat.div_lt_of_lt_mul (by rw [Nat.mul_comm]; exact h))
    omega
theorem limbs_nil {n : Nat} : limbs n = [] ↔ n = 0 := by
 constructor
 ·intro h; have := val_limbs n; rw [h] at this; exact this.symm
 ·rintro rfl; exact limbs_zero
theorem limbs_mono {a b : Nat} (h : a ≤ b) : (limbs a).length ≤ (limbs b).length :=
 (limbs_len a _).2 (Nat.lt_of_le_of_lt h ((limbs_len b _).1 (Nat.le_refl _)))
theorem lt_of_len {a b : Nat} (h : (limbs a).length < (limbs b).length) : a < b := by
 apply Nat.lt_of_not_le
 intro h2
 have := limbs_mono h2
 omega
theorem val_cmp {l m : List Nat} (hl : Limb l) (hlen : l.length = m.length) (k : Nat) (hk : l.drop (k + 1) = m.drop (k + 1)) {x y : Nat} (hx : l[k]? = some x) (hy : m[k]? = some y) (h : x < y) : valL l < valL m := by
 have hkl : k < l.length := by
  rcases Nat.lt_or_ge k l.length with h | h
  ·exact h
  ·rw [List.getElem?_eq_none h] at hx; cases hx
 have el : l = l.take k ++ x :: l.drop (k + 1) := by
  have := List.getElem?_eq_some_iff.1 hx
  obtain ⟨h1, rfl⟩ := this
  rw [← List.drop_eq_getElem_cons h1, List.take_append_drop]
 have em : m = m.take k ++ y :: m.drop (k + 1) := by
  have := List.getElem?_eq_some_iff.1 hy
  obtain ⟨h1, rfl⟩ := this
  rw [← List.drop_eq_getElem_cons h1, List.take_append_drop]
 have v1 : valL l = valL (l.take k) + 10000 ^ k * (x + 10000 * valL (l.drop (k + 1))) := by
  conv => lhs; rw [el]
  rw [val_app, valL, List.length_take, Nat.min_eq_left (by omega)]
 have v2 : valL m = valL (m.take k) + 10000 ^ k * (y + 10000 * valL (m.drop (k + 1))) := by
  conv => lhs; rw [em]
  rw [val_app, valL, List.length_take, Nat.min_eq_left (by omega)]
 have b1 : valL (l.take k) < 10000 ^ k := by
  have := val_lt (l := l.take k) (fun z hz => hl z (List.mem_of_mem_take hz))
  rwa [List.length_take, Nat.min_eq_left (by omega)] at this
 rw [v1, v2, hk]
 have : 10000 ^ k * (x + 10000 * valL (m.drop (k + 1))) + 10000 ^ k ≤ 10000 ^ k * (y + 10000 * valL (m.drop (k + 1))) := by
  rw [← Nat.mul_succ]
  exact Nat.mul_le_mul_left _ (by omega)
 omega
theorem val_take_succ {l : List Nat} {i x : Nat} (h : l[i]? = some x) : valL (l.take (i + 1)) = valL (l.take i) + 10000 ^ i * x := by
 obtain ⟨h1, rfl⟩ := List.getElem?_eq_some_iff.1 h
 rw [List.take_succ_eq_append_getElem h1, val_app, List.length_take, Nat.min_eq_left (by omega)]
 simp [valL]
theorem val_drop {l : List Nat} {i x : Nat} (h : l[i]? = some x) : valL (l.drop i) = x + 10000 * valL (l.drop (i + 1)) := by
 obtain ⟨h1, rfl⟩ := List.getElem?_eq_some_iff.1 h
 rw [List.drop_eq_getElem_cons h1, valL]
theorem val_snoc (l : List Nat) (x : Nat) : valL (l ++ [x]) = valL l + 10000 ^ l.length * x := by
 rw [val_app]; simp [valL]
theorem val_set {l : List Nat} {j y : Nat} (z : Nat) (h : l[j]? = some y) : valL (l.set j z) + 10000 ^ j * y = valL l + 10000 ^ j * z := by
 induction l generalizing j with
 | nil => cases h
 | cons x r ih =>
  cases j with
  | zero => simp at h; subst h; simp [valL]; omega
  | succ j =>
   simp only [List.getElem?_cons_succ] at h
   rw [List.set_cons_succ, valL, valL]
   have := ih h
   rw [Nat.pow_succ, Nat.mul_comm (10000 ^ j), Nat.mul_assoc, Nat.mul_assoc]
   omega
theorem limb_snoc {l : List Nat} (h : Limb l) {x : Nat} (hx : x < 10000) : Limb (l ++ [x]) := by
 intro y hy
 rcases List.mem_append.1 hy with h' | h'
 ·exact h y h'
 ·rw [List.mem_singleton.1 h']; exact hx
theorem limb_set {l : List Nat} (h : Limb l) {x : Nat} (j : Nat) (hx : x < 10000) : Limb (l.set j x) := by
 intro y hy
 rcases List.mem_or_eq_of_mem_set hy with h' | h'
 ·exact h y h'
 ·rw [h']; exact hx
theorem limb_zeros (n : Nat) : Limb (List.replicate n 0) := by
 intro y hy
 rw [(List.mem_replicate.1 hy).2]; decide
theorem carry_step (P s : Nat) : P * (s % 10000) + P * 10000 * (s / 10000) = P * s := by
 rw [Nat.mul_assoc, ← Nat.mul_add, Nat.add_comm, Nat.div_add_mod]
theorem add_step {P V A c x y : Nat} (h : V + P * c = A) : V + P * ((c + x + y) % 10000) + P * 10000 * ((c + x + y) / 10000) = A + P * x + P * y := by
 have := carry_step P (c + x + y)
 rw [Nat.mul_add, Nat.mul_add] at this
 omega
theorem times_step {P V A c x d : Nat} (h : V + P * c = A * d) : V + P * ((c + x * d) % 10000) + P * 10000 * ((c + x * d) / 10000) = (A + P * x) * d := by
 have := carry_step P (c + x * d)
 rw [Nat.mul_add] at this
 rw [Nat.add_mul, Nat.mul_assoc P x d]
 omega
theorem less_step {P V A D b x y z b' : Nat} (h : V + D = A + P * b) (hz : z + y + b = x + 10000 * b') : V + P * z + (D + P * y) = A + P * x + P * 10000 * b' := by
 have := congrArg (P * ·) hz
 simp only [Nat.mul_add] at this
 rw [← Nat.mul_assoc] at this
 omega
theorem less_end {n V A D b : Nat} (hV : V < 10000 ^ n) (h : V + D = A + 10000 ^ n * b) (hD : D ≤ A) : V = A - D := by
 cases b with
 | zero => simp at h; omega
 | succ b =>
  have : 10000 ^ n ≤ 10000 ^ n * (b + 1) := Nat.le_mul_of_pos_right _ (by omega)
  omega
theorem by_step {A Q d r x : Nat} (h : A = d * Q + r) : x + 10000 * A = d * ((r * 10000 + x) / d + 10000 * Q) + (r * 10000 + x) % d := by
 have := Nat.div_add_mod (r * 10000 + x) d
 subst h
 rw [Nat.mul_add, Nat.mul_add]
 have e : d * (10000 * Q) = 10000 * (d * Q) := by rw [← Nat.mul_assoc, Nat.mul_comm d, Nat.mul_assoc]
 omega
theorem mul_step {P V c D x y o : Nat} (h : V + P * c = D) : V + P * ((c + (x * y + o)) % 10000) + P * 10000 * ((c + (x * y + o)) / 10000) = D + P * (x * y) + P * o := by
 have := carry_step P (c + (x * y + o))
 rw [Nat.mul_add, Nat.mul_add] at this
 omega
end Go.Proofs.Ytnojfiokdhcbjaa.Dec
namespace Go.Proofs.Ytnojfiokdhcbjaa
open Go Go.RowKit
def KI (w w' : World) : Prop := ∀ (g : Nat) (cs : Array Value), w.heap[g]? = some (Obj.cells cs 3 (0, 0)) → w'.heap[g]? = some (Obj.cells cs 3 (0, 0))
theorem KI.refl (w : World) : KI w w := fun _ _ h => h
theorem KI.trans {a b c : World} (h : KI a b) (k : KI b c) : KI a c := fun g cs e => k g cs (h g cs e)
theorem ki_grown {w w' : World} (hg : w.grownBy w' none) : KI w w' := fun g cs e => (hg.block g (Array.getElem?_eq_some_iff.1 e).1 (by simp)).trans e
theorem ki_below {w w' : World} (h : Below w.heap.size w w') : KI w w' := ki_grown (grown_of_below h none)
theorem ki_set {T : TypeId} {w : World} {g j : Nat} {cs : List Value} (hB : BlkC T w g cs) (hT : T ≠ 3) (v : Value) : KI w (w.setCell ⟨g, j, none⟩ v) := by
 intro b c e
 have hne : b ≠ g := by
  rintro rfl
  unfold BlkC at hB
  rw [hB] at e
  injection e with e
  injection e with _ e2
  exact hT e2
 rw [Below.heap_setCell _ _ _ _ hne]
 exact e
def RowI (w : World) (a : Option Addr) (l : List Nat) : Prop := l = [] ∨ ∃ (g : Nat) (cs : Array Value), a = some ⟨g, 0, none⟩ ∧ w.heap[g]? = some (Obj.cells cs 3 (0, 0)) ∧ ∀ (j x : Nat), l[j]? = some x → cs[j]? = some (Value.int .i64 (x : Nat))
theorem RowI.keep {w w' : World} {a : Option Addr} {l : List Nat} (h : RowI w a l) (k : KI w w') : RowI w' a l := by
 rcases h with h | ⟨g, cs, rfl, hb, hc⟩
 ·exact .inl h
 ·exact .inr ⟨g, cs, rfl, k g cs hb, hc⟩
theorem RowI.cells {w : World} {a : Option Addr} {l : List Nat} (h : RowI w a l) (hl : l ≠ []) : ∃ g, a = some ⟨g, 0, none⟩ ∧ g < w.heap.size ∧ ∀ (j x : Nat), l[j]? = some x → w.cell? ⟨g, j, none⟩ = some (Value.int .i64 (x : Nat)) := by
 rcases h with h | ⟨g, cs, rfl, hb, hc⟩
 ·exact absurd h hl
 ·refine ⟨g, rfl, (Array.getElem?_eq_some_iff.1 hb).1, fun j x hx => ?_⟩
  unfold World.cell?
  simp [hb, hc j x hx]
def ints (l : List Nat) : List Value := l.map fun x : Nat => Value.int .i64 x
theorem rowI_owns {w : World} {B : Nat} {v : Value} {l : List Nat} (h : w.ownsRow B 3 1 v l.length (ints l)) : ∃ a c, v = .slice a l.length c ∧ l.length ≤ c ∧ RowI w a l := by
 obtain ⟨_, ⟨rfl, h0⟩ | ⟨g, cap, cur, rfl, _, hh, hc, _, hs, ht⟩⟩ := h
 ·exact ⟨none, 0, by rw [h0], by omega, .inl (List.eq_nil_of_length_eq_zero h0)⟩
 ·refine ⟨_, cap, rfl, hc, .inr ⟨g, cur, rfl, hh, fun j x hx => ?_⟩⟩
  have e : (ints l)[j]? = some (.int .i64 (x : Nat)) := by unfold ints; rw [List.getElem?_map, hx]; rfl
  rw [← ht, Nat.mul_one, List.getElem?_take] at e
  split at e
  ·simpa using e
  ·cases e
def MIs (w : World) (v : Value) (n : Nat) : Prop := ∃ (a : Option Addr) (c : Nat), v = .agg #[.slice a (Dec.limbs n).length c] ∧ (Dec.limbs n).length ≤ c ∧ RowI w a (Dec.limbs n)
theorem MIs.keep {w w' : World} {v : Value} {n : Nat} (h : MIs w v n) (k : KI w w') : MIs w' v n := by
 obtain ⟨a, c, h1, h2, h3⟩ := h
 exact ⟨a, c, h1, h2, h3.keep k⟩
def JIs (w : World) (v : Value) (z : Int) : Prop := ∃ (a : Option Addr) (c : Nat), v = .agg #[.int .i64 z.sign, .slice a (Dec.limbs z.natAbs).length c] ∧ (Dec.limbs z.natAbs).length ≤ c ∧ RowI w a (Dec.limbs z.natAbs)
theorem JIs.keep {w w' : World} {v : Value} {z : Int} (h : JIs w v z) (k : KI w w') : JIs w' v z := by
 obtain ⟨a, c, h1, h2, h3⟩ := h
 exact ⟨a, c, h1, h2, h3.keep k⟩
theorem mis_limbs {w : World} {a : Option Addr} {c n : Nat} {l : List Nat} (e : Dec.limbs n = l) (hc : l.length ≤ c) (hr : RowI w a l) : MIs w (.agg #[.slice a l.length c]) n := by
 subst e
 exact ⟨a, c, rfl, hc, hr⟩
theorem intInfo : (Try.prog.info? 3).map (fun i => (i.zero, i.size, i.bytes)) = some (some (.int .i64 0), 1, 8) := by kernel_rfl
theorem wpList_appI {ops : Array Oper} {rest : List Oper} {o : Oper} {a : Act} {Q : Exit → Act → World → Prop} (X : World) (hgd : o.guard = none) (s x : Operand) (ho : o.op = .call { callee := .builtin .append, args := #[s, x], argTypes := #[47, 47] })
  {B : Nat} {v : Value} {l : List Nat} (z : Nat) (hs : a.eval s = v) (hx : a.eval x = .slice (some ⟨X.heap.size, 0, none⟩) 1 1) (hown : X.ownsRow B 3 1 v l.length (ints l)) (hl : l.length ≤ 10000000) (hB : B ≤ X.heap.size)
  (h : ∀ v' w', w'.ownsRow B 3 1 v' (l ++ [z]).length (ints (l ++ [z])) → X.grownBy w' v.ownBlock → wpList Try.prog ops Q rest (a.put o.dst v') w') : wpList Try.prog ops Q (o :: rest) a (X.alloc (.cells #[.int .i64 (z : Nat)] 3)) := by
 obtain ⟨ib, hib, hib0, hib1, hib2⟩ := info_parts intInfo
 have hg1 := grown_alloc X (.cells #[.int .i64 (z : Nat)] 3) none
 have hown1 : (X.alloc (.cells #[.int .i64 (z : Nat)] 3)).ownsRow B 3 1 v l.length (ints l) := hown.kept hg1 (by cases v.ownBlock with
  | none => exact .inl rfl
  | some k => exact .inr (by simp))
 refine wpList_append_own (X.alloc (.cells #[.int .i64 (z : Nat)] 3)) hgd s x 47 ho B 3 ib _ 1 8 Try.underlying47 hib hib0 hib1 hib2 rfl (by decide) v l.length (ints l) hs hown1 ⟨X.heap.size, 0, none⟩ 1 1 [.int .i64 (z : Nat)] hx rfl (cell_new X _ _ rfl) (by intro u hu; cases hu with | head => rfl | tail _ h => cases h) (by unfold maxLen; omega) (by omega) (by simp; omega) (fun v' w' h1 h2 _ => h v' w' ?_ ?_)
 ·rw [List.length_append]
  unfold ints
  rw [List.map_append]
  exact h1
 ·exact grown_trans (grown_alloc X _ _) h2
end Go.Proofs.Ytnojfiokdhcbjaa
namespace Go.Proofs.Ytnojfiokdhcbjaa
open Go Go.RowKit
theorem m_ret {T : TypeId} {R : Ending → World → Prop} {a : Act} {w : World} {g : Nat} {x : Value} {f : Func} {t : Tmp} (h : f.results = #[.cell t 49])
  (hp : a.tmps.getD t undef = .pointer (some ⟨g, 0, none⟩)) (ha : a.defers = []) (hB : BlkC T w g [x]) (hR : R (.returned (.agg #[x])) w) : bodyPost Try.prog f R .ret a w :=
 blk_ret h (by kernel_rfl) (by kernel_rfl) hp ha hB hR
theorem j_ret {T : TypeId} {R : Ending → World → Prop} {a : Act} {w : World} {g : Nat} {x y : Value} {f : Func} {t : Tmp} (h : f.results = #[.cell t 51])
  (hp : a.tmps.getD t undef = .pointer (some ⟨g, 0, none⟩)) (ha : a.defers = []) (hB : BlkC T w g [x, y]) (hR : R (.returned (.agg #[x, y])) w) : bodyPost Try.prog f R .ret a w :=
 blk_ret h (by kernel_rfl) (by kernel_rfl) hp ha hB hR
theorem m_shut {w w0 : World} {T : TypeId} {g n : Nat} {v u : Value} {cs : List Value} (hv : MIs w0 v n) (hB : BlkC T w0 g cs) (hT : T ≠ 3) (hG : Below w.heap.size w w0) (hg : w.heap.size ≤ g) : MIs (w0.setCell ⟨g, 0, none⟩ u) v n ∧ Below w.heap.size w (w0.setCell ⟨g, 0, none⟩ u) :=
 ⟨hv.keep (ki_set hB hT u), hG.setCell hg u⟩
theorem app_frame {w wr w2 : World} {B : Nat} {v : Value} {n : Nat} {xs : List Value} (hb : Below w.heap.size w wr) (ho : wr.ownsRow B 3 1 v n xs) (hB : w.heap.size ≤ B) (hg : wr.grownBy w2 v.ownBlock) : Below w.heap.size w w2 :=
 hb.grown hg hb.size (fun k hk => Nat.le_trans hB (ho.lt k hk).1)
theorem app_blk {wr w2 : World} {B g : Nat} {T : TypeId} {cs : List Value} {v : Value} {n : Nat} {xs : List Value} (hc : BlkC T wr g cs) (ho : wr.ownsRow B 3 1 v n xs) (hB : g < B) (hg : wr.grownBy w2 v.ownBlock) : BlkC T w2 g cs :=
 hc.grown hg (fun e => by have := (ho.lt g e.symm).1; omega)
structure OfR (w : World) (n k : Nat) (u v : Value) (wr : World) : Prop where
 r : ∃ (cur : Nat) (o : List Nat), u = .int .u64 (cur : Nat) ∧ wr.ownsRow (w.heap.size + 1) 3 1 v o.length (ints o) ∧ o ++ Dec.limbs cur = Dec.limbs n ∧ cur < k
 c : BlkC 49 wr w.heap.size [.slice none 0 0]
 b : Below w.heap.size w wr
 z : w.heap.size + 1 ≤ wr.heap.size
set_option maxHeartbeats 4000000 in
set_option maxRecDepth 100000 in
theorem mOf_any (n : Nat) (w : World) (hn : n < 18446744073709551616) :
  Calls Try.prog 86 #[.int .u64 (n : Nat)] w fun e w' => ∃ v, e = .returned v ∧ MIs w' v n ∧ Below w.heap.size w w' := by
 have HB : Hid (BlkC 49 (w.alloc (.cells #[.slice none 0 0] 49)) w.heap.size [.slice none 0 0]) := BlkC.new _ _ _
 have HR0 : Hid (OfR w n (n + 1) (.int .u64 (n : Nat)) (.slice none 0 0) (w.alloc (.cells #[.slice none 0 0] 49))) := ⟨⟨n, [], rfl, World.ownsRow_nil _ _ _ _, rfl, by omega⟩, HB.out, (own_alloc _ _).b, by simp⟩
 have HN : Hid ((Dec.limbs n).length ≤ 5) := by
  refine (Dec.limbs_len n 5).2 ?_
  rw [show (10000 : Nat) ^ 5 = 100000000000000000000 by decide]
  omega
 go_enter Try.func86, Try.ntmps86
 go_wp2_with fail
 go_loopg [0, 3] (n + 1) (fun k u v wr => Hid (OfR w n k u v wr))
 case atStart => exact HR0.out
 case round =>
  clear HR0 HB
  obtain ⟨⟨cur, o, rfl, hown, ho, hck⟩, hc, hb, hz⟩ := hrel.out
  have HOWN := Lib.hid hown
  have HO := Lib.hid ho
  have HC := Lib.hid hc
  have HBL := Lib.hid hb
  clear hrel hown ho hc hb
  have HCN : Hid (cur < 18446744073709551616 ∧ o.length ≤ 5) := by
   have h1 := congrArg Dec.valL HO.out
   rw [Dec.val_app, Dec.val_limbs, Dec.val_limbs] at h1
   have h2 := congrArg List.length HO.out
   rw [List.length_append] at h2
   have h3 := HN.out
   have h4 : 0 < 10000 ^ o.length := Nat.pow_pos (by omega)
   have h5 : cur ≤ 10000 ^ o.length * cur := Nat.le_mul_of_pos_left _ h4
   exact ⟨by omega, by omega⟩
  have hcn := HCN.out.1
  have hc1 := HC.out.cell 0
  have hf1 := HC.out.free 0
  have hlt := HC.out.lt
  simp only [List.getElem?_cons_zero] at hc1
  by_cases h0 : 0 < cur
  ·have h0z : (0 : Int) < (cur : Int) := by omega
   obtain ⟨Z, hZ⟩ : ∃ Z, Z = cur % 10000 := ⟨_, rfl⟩
   obtain ⟨C, hC⟩ : ∃ C, C = cur / 10000 := ⟨_, rfl⟩
   have hz1 : (cur : Int) % 10000 = (Z : Int) := by omega
   have hz2 : (cur : Int) / 10000 = (C : Int) := by omega
   have hZb : Z < 10000 := by omega
   have HLIM : Hid (Dec.limbs cur = Z :: Dec.limbs C) := by rw [hZ, hC]; exact Dec.limbs_pos (by omega)
   have hCk : C < cur := by omega
   clear hZ hC
   go_wp2_with (refine wpList_appI wr rfl (.tmp 6) (.tmp 10) rfl Z rfl rfl HOWN.out (by have := HCN.out; omega) hz ?_; intro v2 w2 hown2 hg2; have HOWN2 := Lib.hid hown2; have HG2 := Lib.hid hg2; clear hown2 hg2)
   go_roundg (gk - 1)
   case measure => omega
   case rel => exact ⟨⟨C, o ++ [Z], by first | rfl | go_num, HOWN2.out, by rw [List.append_assoc, List.singleton_append, ← HLIM.out, HO.out], by omega⟩, app_blk HC.out HOWN.out (Nat.lt_succ_self _) HG2.out, app_frame HBL.out HOWN.out (Nat.le_succ _) HG2.out, Nat.le_trans hz HG2.out.size⟩
  ·obtain rfl : cur = 0 := by omega
   obtain ⟨a, c, rfl, hac, hrow⟩ := rowI_owns HOWN.out
   have HM : Hid (MIs wr (.agg #[.slice a o.length c]) n) := mis_limbs (by rw [← HO.out, Dec.limbs_zero, List.append_nil]) hac hrow
   go_wp2_with fail
   exact m_ret rfl rfl rfl (HC.out.set 0 _) ⟨_, rfl, m_shut HM.out HC.out (by decide) HBL.out (Nat.le_refl _)⟩
end Go.Proofs.Ytnojfiokdhcbjaa
namespace Go.Proofs.Ytnojfiokdhcbjaa
open Go Go.RowKit
set_option maxHeartbeats 4000000 in
set_option maxRecDepth 100000 in
theorem jmade_any (s : Int) (n : Nat) (v : Value) (w : World) (hv : MIs w v n) (hs : s = 1 ∨ s = -1 ∨ n = 0) :
  Calls Try.prog 84 #[.int .i64 s, v] w fun e w' => ∃ r, e = .returned r ∧ JIs w' r (s * (n : Int)) ∧ Below w.heap.size w w' := by
 obtain ⟨a, c, rfl, hc, hr⟩ := hv
 have HR := Lib.hid hr
 have HS := Lib.hid hs
 have HC := Lib.hid hc
 obtain ⟨l, hl⟩ : ∃ l, l = Dec.limbs n := ⟨_, rfl⟩
 rw [← hl] at HR HC ⊢
 have HL := Lib.hid hl
 clear hr hs hc hl
 have HB1 : Hid (BlkC 49 ((w.alloc (.cells #[.slice a l.length c] 49)).alloc (.cells #[.int .i64 0, .slice none 0 0] 51)) w.heap.size [.slice a l.length c]) := (BlkC.new _ w [.slice a l.length c]).still (grown_alloc _ _ none)
 have HB2 : Hid (BlkC 51 ((w.alloc (.cells #[.slice a l.length c] 49)).alloc (.cells #[.int .i64 0, .slice none 0 0] 51)) (w.heap.size + 1) [.int .i64 0, .slice none 0 0]) := blk_at (cs := [.int .i64 0, .slice none 0 0]) (by simp)
 have HG : Hid (Below w.heap.size w ((w.alloc (.cells #[.slice a l.length c] 49)).alloc (.cells #[.int .i64 0, .slice none 0 0] 51))) := ((own_alloc _ _).alloc (by simp) _).b
 have x0 := HB1.out.cell 0
 have y0 := HB2.out.cell 0
 have y1 := HB2.out.cell 1
 have f0 := HB2.out.free 0
 have f1 := HB2.out.free 1
 have z1 := HB1.out.lt
 have z2 := HB2.out.lt
 simp only [List.getElem?_cons_zero, List.getElem?_cons_succ] at x0 y0 y1
 go_enter Try.func84, Try.ntmps84
 by_cases h0 : l.length = 0
 ·have hl0 : l = [] := List.eq_nil_of_length_eq_zero h0
  have h0z : ((l.length : Int) == 0) = true := by simp [hl0]
  have hn : n = 0 := Dec.limbs_nil.1 (by rw [← HL.out]; exact hl0)
  go_wp2_with fail
  refine j_ret (x := .int .i64 0) (y := .slice none 0 0) rfl rfl rfl (blk_at (cs := [.int .i64 0, .slice none 0 0]) (by simp)) ⟨_, rfl, ⟨none, 0, ?_, ?_, .inl ?_⟩, (((own_alloc _ _).alloc (by simp) _).b)⟩
  ·rw [hn]; simp [Dec.limbs_zero]
  ·rw [hn]; simp [Dec.limbs_zero]
  ·rw [hn]; simp [Dec.limbs_zero]
 ·have h0z : ((l.length : Int) == 0) = false := by rw [beq_eq_false_iff_ne]; omega
  have hn : n ≠ 0 := fun e => h0 (by rw [HL.out, e, Dec.limbs_zero]; rfl)
  have hsg : (s * (n : Int)).sign = s ∧ (s * (n : Int)).natAbs = n := by
   rcases HS.out with rfl | rfl | h
   ·refine ⟨?_, by omega⟩
    rw [Int.one_mul]; exact Int.sign_eq_one_of_pos (by omega)
   ·refine ⟨?_, by omega⟩
    exact Int.sign_eq_neg_one_of_neg (by omega)
   ·exact absurd h hn
  have HSG := Lib.hid hsg
  clear hsg
  go_wp2_with fail
  refine j_ret (x := .int .i64 s) (y := .slice a l.length c) rfl rfl rfl (blk_at (cs := [.int .i64 s, .slice a l.length c]) (by simp)) ⟨_, rfl, ⟨a, c, ?_, ?_, ?_⟩, (((own_alloc _ _).alloc (by simp) _).b)⟩
  ·rw [HSG.out.1, HSG.out.2, ← HL.out]
  ·rw [HSG.out.2, ← HL.out]; exact HC.out
  ·rw [HSG.out.2, ← HL.out]
   exact HR.out.keep (ki_below (((own_alloc _ _).alloc (by simp) _).b))
structure AddD (x y i : Nat) (o : List Nat) (c : Nat) : Prop where
 len : o.length = i
 limb : Dec.Limb o
 cb : c ≤ 1
 val : Dec.valL o + 10000 ^ i * c = Dec.valL ((Dec.limbs x).take i) + Dec.valL ((Dec.limbs y).take i)
 top : i = 0 ∨ 10000 ^ (i - 1) ≤ x + y
theorem limb_app {o : List Nat} (h : Dec.Limb o) (s : Nat) : Dec.Limb (o ++ [s % 10000]) := Dec.limb_snoc h (Nat.mod_lt _ (by omega))
theorem pow_of_len {x i : Nat} (h : i < (Dec.limbs x).length) : 10000 ^ i ≤ x := by
 rcases Nat.lt_or_ge x (10000 ^ i) with h1 | h1
 ·have := (Dec.limbs_len x i).2 h1
  omega
 ·exact h1
theorem take_all {l : List Nat} {i : Nat} (h : ¬ i < l.length) : l.take (i + 1) = l.take i := by rw [List.take_of_length_le (by omega), List.take_of_length_le (by omega)]
theorem addD_step {x y i c p q : Nat} {o : List Nat} (h : AddD x y i o c) (hp : p < 10000) (hq : q < 10000) (e1 : Dec.valL ((Dec.limbs x).take (i + 1)) = Dec.valL ((Dec.limbs x).take i) + 10000 ^ i * p) (e2 : Dec.valL ((Dec.limbs y).take (i + 1)) = Dec.valL ((Dec.limbs y).take i) + 10000 ^ i * q) (ht : 10000 ^ i ≤ x + y) : AddD x y (i + 1) (o ++ [(c + p + q) % 10000]) ((c + p + q) / 10000) := by
 refine ⟨by simp [h.len], limb_app h.limb _, by have := h.cb; omega, ?_, .inr (by simpa using ht)⟩
 rw [Dec.val_snoc, h.len, e1, e2, Nat.pow_succ]
 have := Dec.add_step (x := p) (y := q) h.val
 omega
theorem addD_both {x y i c p q : Nat} {o : List Nat} (h : AddD x y i o c) (hp : (Dec.limbs x)[i]? = some p) (hq : (Dec.limbs y)[i]? = some q) (hpb : p < 10000) (hqb : q < 10000) : AddD x y (i + 1) (o ++ [(c + p + q) % 10000]) ((c + p + q) / 10000) :=
 addD_step h hpb hqb (Dec.val_take_succ hp) (Dec.val_take_succ hq) (by have := pow_of_len (List.getElem?_eq_some_iff.1 hp).1; omega)
theorem addD_left {x y i c p : Nat} {o : List Nat} (h : AddD x y i o c) (hp : (Dec.limbs x)[i]? = some p) (hl : ¬ i < (Dec.limbs y).length) (hpb : p < 10000) : AddD x y (i + 1) (o ++ [(c + p) % 10000]) ((c + p) / 10000) := by
 have := addD_step (q := 0) h hpb (by omega) (Dec.val_take_succ hp) (by rw [take_all hl]; simp) (by have := pow_of_len (List.getElem?_eq_some_iff.1 hp).1; omega)
 simpa using this
theorem addD_right {x y i c q : Nat} {o : List Nat} (h : AddD x y i o c) (hl : ¬ i < (Dec.limbs x).length) (hq : (Dec.limbs y)[i]? = some q) (hqb : q < 10000) : AddD x y (i + 1) (o ++ [(c + q) % 10000]) ((c + q) / 10000) := by
 have := addD_step (p := 0) h (by omega) hqb (by rw [take_all hl]; simp) (Dec.val_take_succ hq) (by have := pow_of_len (List.getElem?_eq_some_iff.1 hq).1; omega)
 simpa using this
theorem addD_whole {x y i c : Nat} {o : List Nat} (h : AddD x y i o c) (hl : ¬ i < (Dec.limbs x).length) (hm : ¬ i < (Dec.limbs y).length) : Dec.valL o + 10000 ^ i * c = x + y := by
 have := h.val
 rwa [List.take_of_length_le (by omega), List.take_of_length_le (by omega), Dec.val_limbs, Dec.val_limbs] at this
theorem addD_none {x y i c : Nat} {o : List Nat} (h : AddD x y i o c) (hl : ¬ i < (Dec.limbs x).length) (hm : ¬ i < (Dec.limbs y).length) (hc : 0 < c) : AddD x y (i + 1) (o ++ [c % 10000]) (c / 10000) := by
 have hw := addD_whole h hl hm
 have h1 : 10000 ^ i ≤ 10000 ^ i * c := Nat.le_mul_of_pos_right _ hc
 have := addD_step (p := 0) (q := 0) h (by omega) (by omega) (by rw [take_all hl]; simp) (by rw [take_all hm]; simp) (by omega)
 simpa using this
theorem limbs_of_top {o : List Nat} (h : Dec.Limb o) (ht : o.length = 0 ∨ 10000 ^ (o.length - 1) ≤ Dec.valL o) : Dec.limbs (Dec.valL o) = o := by
 have e := Dec.cut_limbs h o.length (Nat.le_refl _) (fun j hj x hx => by rw [List.getElem?_eq_none hj] at hx; cases hx) ?_
 ·rw [List.take_length] at e
  exact e.symm
 ·rcases ht with h0 | h0
  ·exact .inl h0
  ·right
   intro hz
   have hpos : 0 < o.length := by
    have := (List.getElem?_eq_some_iff.1 hz).1
    omega
   have h1 := Dec.val_take_succ hz
   rw [show o.length - 1 + 1 = o.length by omega, List.take_length] at h1
   have h2 := Dec.val_lt (l := o.take (o.length - 1)) (fun x hx => h x (List.mem_of_mem_take hx))
   rw [List.length_take, Nat.min_eq_left (by omega)] at h2
   omega
theorem addD_end {x y i c : Nat} {o : List Nat} (h : AddD x y i o c) (hl : ¬ i < (Dec.limbs x).length) (hm : ¬ i < (Dec.limbs y).length) (hc : ¬ 0 < c) : Dec.limbs (x + y) = o := by
 have hw := addD_whole h hl hm
 obtain rfl : c = 0 := by omega
 rw [Nat.mul_zero, Nat.add_zero] at hw
 have := limbs_of_top h.limb (by rw [h.len, hw]; exact h.top)
 rwa [hw] at this
theorem addD_len {x y i c : Nat} {o : List Nat} (h : AddD x y i o c) : i ≤ (Dec.limbs x).length + (Dec.limbs y).length + 1 := by
 rcases h.top with h0 | h0
 ·omega
 ·have h1 := (Dec.limbs_len x (Dec.limbs x).length).1 (Nat.le_refl _)
  have h2 := (Dec.limbs_len y (Dec.limbs y).length).1 (Nat.le_refl _)
  rcases Nat.lt_or_ge ((Dec.limbs x).length + (Dec.limbs y).length + 1) i with h3 | h3
  ·exfalso
   have h4 : 10000 ^ ((Dec.limbs x).length + (Dec.limbs y).length + 1) ≤ 10000 ^ (i - 1) := Nat.pow_le_pow_right (by omega) (by omega)
   rw [Nat.pow_succ, Nat.pow_add] at h4
   have h5 : 10000 ^ (Dec.limbs x).length ≤ 10000 ^ (Dec.limbs x).length * 10000 ^ (Dec.limbs y).length := Nat.le_mul_of_pos_right _ (Nat.pow_pos (by omega))
   have h6 : 10000 ^ (Dec.limbs y).length ≤ 10000 ^ (Dec.limbs x).length * 10000 ^ (Dec.limbs y).length := Nat.le_mul_of_pos_left _ (Nat.pow_pos (by omega))
   omega
  ·exact h3
structure MAddR (w : World) (x y : Nat) (u1 u2 : Value) (k : Nat) (v s6 s7 : Value) (wr : World) : Prop where
 r : ∃ (i : Nat) (o : List Nat) (c : Nat), wr.ownsRow (w.heap.size + 3) 3 1 v o.length (ints o) ∧ s6 = .int .i64 (c : Nat) ∧ s7 = .int .i64 (i : Nat) ∧ AddD x y i o c ∧ (Dec.limbs x).length + (Dec.limbs y).length + 1 < k + i
 b1 : BlkC 49 wr w.heap.size [u1]
 b2 : BlkC 49 wr (w.heap.size + 1) [u2]
 b3 : BlkC 49 wr (w.heap.size + 2) [.slice none 0 0]
 b : Below w.heap.size w wr
 z : w.heap.size + 3 ≤ wr.heap.size
set_option maxHeartbeats 4000000 in
set_option maxRecDepth 100000 in
theorem madd_any (x y : Nat) (v u : Value) (w : World) (hv : MIs w v x) (hu : MIs w u y) (hx : (Dec.limbs x).length ≤ 1000000) (hy : (Dec.limbs y).length ≤ 1000000) :
  Calls Try.prog 85 #[v, u] w fun e w' => ∃ r, e = .returned r ∧ MIs w' r (x + y) ∧ Below w.heap.size w w' := by
 obtain ⟨a, c1, rfl, hc1, hr1⟩ := hv
 obtain ⟨a', c2, rfl, hc2, hr2⟩ := hu
 have HR1 := Lib.hid hr1
 have HR2 := Lib.hid hr2
 have HL1 := Lib.hid (Dec.limbs_limb x)
 have HL2 := Lib.hid (Dec.limbs_limb y)
 clear hr1 hr2
 have HB1 : Hid (BlkC 49 (((w.alloc (.cells #[.slice a (Dec.limbs x).length c1] 49)).alloc (.cells #[.slice a' (Dec.limbs y).length c2] 49)).alloc (.cells #[.slice none 0 0] 49)) w.heap.size [.slice a (Dec.limbs x).length c1]) := ((BlkC.new _ w [.slice a (Dec.limbs x).length c1]).still (grown_alloc _ _ none)).still (grown_alloc _ _ none)
 have HB2 : Hid (BlkC 49 (((w.alloc (.cells #[.slice a (Dec.limbs x).length c1] 49)).alloc (.cells #[.slice a' (Dec.limbs y).length c2] 49)).alloc (.cells #[.slice none 0 0] 49)) (w.heap.size + 1) [.slice a' (Dec.limbs y).length c2]) := (blk_at (cs := [.slice a' (Dec.limbs y).length c2]) (by simp)).still (grown_alloc _ _ none)
 have HB3 : Hid (BlkC 49 (((w.alloc (.cells #[.slice a (Dec.limbs x).length c1] 49)).alloc (.cells #[.slice a' (Dec.limbs y).length c2] 49)).alloc (.cells #[.slice none 0 0] 49)) (w.heap.size + 2) [.slice none 0 0]) := blk_at (cs := [.slice none 0 0]) (by simp)
 have HG : Hid (Below w.heap.size w (((w.alloc (.cells #[.slice a (Dec.limbs x).length c1] 49)).alloc (.cells #[.slice a' (Dec.limbs y).length c2] 49)).alloc (.cells #[.slice none 0 0] 49))) := (((own_alloc _ _).alloc (by simp) _).alloc (by simp; omega) _).b
 have HR0 : Hid (MAddR w x y (.slice a (Dec.limbs x).length c1) (.slice a' (Dec.limbs y).length c2) ((Dec.limbs x).length + (Dec.limbs y).length + 2) (.slice none 0 0) (.int .i64 0) (.int .i64 0) (((w.alloc (.cells #[.slice a (Dec.limbs x).length c1] 49)).alloc (.cells #[.slice a' (Dec.limbs y).length c2] 49)).alloc (.cells #[.slice none 0 0] 49))) :=
  ⟨⟨0, [], 0, World.ownsRow_nil _ _ _ _, rfl, rfl, ⟨rfl, (by intro x hx; cases hx), (by omega), rfl, .inl rfl⟩, by omega⟩, HB1.out, HB2.out, HB3.out, HG.out, by simp⟩
 clear HB1 HB2 HB3 HG
 go_enter Try.func85, Try.ntmps85
 go_wp2_with fail
 go_loopg [5, 6, 7] ((Dec.limbs x).length + (Dec.limbs y).length + 2) (fun k s5 s6 s7 wr => Hid (MAddR w x y (.slice a (Dec.limbs x).length c1) (.slice a' (Dec.limbs y).length c2) k s5 s6 s7 wr))
 case atStart => exact HR0.out
 case round =>
  clear HR0
  obtain ⟨⟨i, o, c, hown, rfl, rfl, hd, hik⟩, hb1, hb2, hb3, hb, hz⟩ := hrel.out
  have HOWN := Lib.hid hown
  have HD := Lib.hid hd
  have HB1 := Lib.hid hb1
  have HB2 := Lib.hid hb2
  have HB3 := Lib.hid hb3
  have HBL := Lib.hid hb
  have hcb := hd.cb
  have hil := addD_len hd
  have x0 := hb1.cell 0
  have y0 := hb2.cell 0
  have z0 := hb3.cell 0
  have f0 := hb3.free 0
  have lt1 := hb1.lt
  have lt2 := hb2.lt
  have lt3 := hb3.lt
  simp only [List.getElem?_cons_zero] at x0 y0 z0
  clear hrel hown hd hb1 hb2 hb3 hb
  by_cases hl1 : i < (Dec.limbs x).length
  ·have hlz1 : (i : Int) < ((Dec.limbs x).length : Int) := by omega
   by_cases hl2 : i < (Dec.limbs y).length
   ·have hlz2 : (i : Int) < ((Dec.limbs y).length : Int) := by omega
    obtain ⟨p, hp⟩ : ∃ p, (Dec.limbs x)[i]? = some p := ⟨(Dec.limbs x)[i]'(by omega), List.getElem?_eq_getElem _⟩
    have hpb := HL1.out p (List.mem_of_getElem? hp)
    obtain ⟨g1, e1, gl1, cl1⟩ := (HR1.out.keep (ki_below HBL.out)).cells (by rintro h; rw [h] at hl1; simp at hl1)
    subst e1
    have cc1 := cl1 _ _ hp
    have HP := Lib.hid hp
    clear cl1
    obtain ⟨q, hq⟩ : ∃ q, (Dec.limbs y)[i]? = some q := ⟨(Dec.limbs y)[i]'(by omega), List.getElem?_eq_getElem _⟩
    have hqb := HL2.out q (List.mem_of_getElem? hq)
    obtain ⟨g2, e2, gl2, cl2⟩ := (HR2.out.keep (ki_below HBL.out)).cells (by rintro h; rw [h] at hl2; simp at hl2)
    subst e2
    have cc2 := cl2 _ _ hq
    have HQ := Lib.hid hq
    clear cl2
    obtain ⟨Z, hZ⟩ : ∃ Z, Z = (c + p + q) % 10000 := ⟨_, rfl⟩
    obtain ⟨C, hC⟩ : ∃ C, C = (c + p + q) / 10000 := ⟨_, rfl⟩
    have hz1 : ((c : Int) + (p : Int) + (q : Int)) % 10000 = (Z : Int) := by omega
    have hz2 : ((c : Int) + (p : Int) + (q : Int)) / 10000 = (C : Int) := by omega
    have HN : Hid (AddD x y (i + 1) (o ++ [Z]) C) := by rw [hZ, hC]; exact addD_both HD.out HP.out HQ.out hpb hqb
    have hCb : C ≤ 1 := HN.out.cb
    clear hZ hC hp hq
    go_wp2_with (refine wpList_appI wr rfl (.tmp 50) (.tmp 53) rfl Z rfl rfl HOWN.out (by rw [HD.out.len]; omega) (Nat.le_trans (by omega) hz) ?_; intro v2 w2 hown2 hg2; have HOWN2 := Lib.hid hown2; have HG2 := Lib.hid hg2; clear hown2 hg2)
    go_roundg (gk - 1)
    case measure => omega
    case rel => exact ⟨⟨i + 1, o ++ [Z], C, HOWN2.out, by first | rfl | go_num, by first | rfl | go_num, HN.out, by omega⟩, app_blk HB1.out HOWN.out (by omega) HG2.out, app_blk HB2.out HOWN.out (by omega) HG2.out, app_blk HB3.out HOWN.out (by omega) HG2.out, app_frame HBL.out HOWN.out (by omega) HG2.out, Nat.le_trans hz HG2.out.size⟩
   ·have hlz2 : ¬ (i : Int) < ((Dec.limbs y).length : Int) := by omega
    obtain ⟨p, hp⟩ : ∃ p, (Dec.limbs x)[i]? = some p := ⟨(Dec.limbs x)[i]'(by omega), List.getElem?_eq_getElem _⟩
    have hpb := HL1.out p (List.mem_of_getElem? hp)
    obtain ⟨g1, e1, gl1, cl1⟩ := (HR1.out.keep (ki_below HBL.out)).cells (by rintro h; rw [h] at hl1; simp at hl1)
    subst e1
    have cc1 := cl1 _ _ hp
    have HP := Lib.hid hp
    clear cl1
    obtain ⟨Z, hZ⟩ : ∃ Z, Z = (c + p) % 10000 := ⟨_, rfl⟩
    obtain ⟨C, hC⟩ : ∃ C, C = (c + p) / 10000 := ⟨_, rfl⟩
    have hz1 : ((c : Int) + (p : Int)) % 10000 = (Z : Int) := by omega
    have hz2 : ((c : Int) + (p : Int)) / 10000 = (C : Int) := by omega
    have HN : Hid (AddD x y (i + 1) (o ++ [Z]) C) := by rw [hZ, hC]; exact addD_left HD.out HP.out hl2 hpb
    have hCb : C ≤ 1 := HN.out.cb
    clear hZ hC hp
    go_wp2_with (refine wpList_appI wr rfl (.tmp 50) (.tmp 53) rfl Z rfl rfl HOWN.out (by rw [HD.out.len]; omega) (Nat.le_trans (by omega) hz) ?_; intro v2 w2 hown2 hg2; have HOWN2 := Lib.hid hown2; have HG2 := Lib.hid hg2; clear hown2 hg2)
    go_roundg (gk - 1)
    case measure => omega
    case rel => exact ⟨⟨i + 1, o ++ [Z], C, HOWN2.out, by first | rfl | go_num, by first | rfl | go_num, HN.out, by omega⟩, app_blk HB1.out HOWN.out (by omega) HG2.out, app_blk HB2.out HOWN.out (by omega) HG2.out, app_blk HB3.out HOWN.out (by omega) HG2.out, app_frame HBL.out HOWN.out (by omega) HG2.out, Nat.le_trans hz HG2.out.size⟩
  ·have hlz1 : ¬ (i : Int) < ((Dec.limbs x).length : Int) := by omega
   by_cases hl2 : i < (Dec.limbs y).length
   ·have hlz2 : (i : Int) < ((Dec.limbs y).length : Int) := by omega
    obtain ⟨q, hq⟩ : ∃ q, (Dec.limbs y)[i]? = some q := ⟨(Dec.limbs y)[i]'(by omega), List.getElem?_eq_getElem _⟩
    have hqb := HL2.out q (List.mem_of_getElem? hq)
    obtain ⟨g2, e2, gl2, cl2⟩ := (HR2.out.keep (ki_below HBL.out)).cells (by rintro h; rw [h] at hl2; simp at hl2)
    subst e2
    have cc2 := cl2 _ _ hq
    have HQ := Lib.hid hq
    clear cl2
    obtain ⟨Z, hZ⟩ : ∃ Z, Z = (c + q) % 10000 := ⟨_, rfl⟩
    obtain ⟨C, hC⟩ : ∃ C, C = (c + q) / 10000 := ⟨_, rfl⟩
    have hz1 : ((c : Int) + (q : Int)) % 10000 = (Z : Int) := by omega
    have hz2 : ((c : Int) + (q : Int)) / 10000 = (C : Int) := by omega
    have HN : Hid (AddD x y (i + 1) (o ++ [Z]) C) := by rw [hZ, hC]; exact addD_right HD.out hl1 HQ.out hqb
    have hCb : C ≤ 1 := HN.out.cb
    clear hZ hC hq
    go_wp2_with (refine wpList_appI wr rfl (.tmp 50) (.tmp 53) rfl Z rfl rfl HOWN.out (by rw [HD.out.len]; omega) (Nat.le_trans (by omega) hz) ?_; intro v2 w2 hown2 hg2; have HOWN2 := Lib.hid hown2; have HG2 := Lib.hid hg2; clear hown2 hg2)
    go_roundg (gk - 1)
    case measure => omega
    case rel => exact ⟨⟨i + 1, o ++ [Z], C, HOWN2.out, by first | rfl | go_num, by first | rfl | go_num, HN.out, by omega⟩, app_blk HB1.out HOWN.out (by omega) HG2.out, app_blk HB2.out HOWN.out (by omega) HG2.out, app_blk HB3.out HOWN.out (by omega) HG2.out, app_frame HBL.out HOWN.out (by omega) HG2.out, Nat.le_trans hz HG2.out.size⟩
   ·have hlz2 : ¬ (i : Int) < ((Dec.limbs y).length : Int) := by omega
    by_cases hc0 : 0 < c
    ·have hc0z : (0 : Int) < (c : Int) := by omega
     obtain ⟨Z, hZ⟩ : ∃ Z, Z = (c) % 10000 := ⟨_, rfl⟩
     obtain ⟨C, hC⟩ : ∃ C, C = (c) / 10000 := ⟨_, rfl⟩
     have hz1 : ((c : Int)) % 10000 = (Z : Int) := by omega
     have hz2 : ((c : Int)) / 10000 = (C : Int) := by omega
     have HN : Hid (AddD x y (i + 1) (o ++ [Z]) C) := by rw [hZ, hC]; exact addD_none HD.out hl1 hl2 hc0
     have hCb : C ≤ 1 := HN.out.cb
     clear hZ hC
     go_wp2_with (refine wpList_appI wr rfl (.tmp 50) (.tmp 53) rfl Z rfl rfl HOWN.out (by rw [HD.out.len]; omega) (Nat.le_trans (by omega) hz) ?_; intro v2 w2 hown2 hg2; have HOWN2 := Lib.hid hown2; have HG2 := Lib.hid hg2; clear hown2 hg2)
     go_roundg (gk - 1)
     case measure => omega
     case rel => exact ⟨⟨i + 1, o ++ [Z], C, HOWN2.out, by first | rfl | go_num, by first | rfl | go_num, HN.out, by omega⟩, app_blk HB1.out HOWN.out (by omega) HG2.out, app_blk HB2.out HOWN.out (by omega) HG2.out, app_blk HB3.out HOWN.out (by omega) HG2.out, app_frame HBL.out HOWN.out (by omega) HG2.out, Nat.le_trans hz HG2.out.size⟩
    ·have hc0z : ¬ (0 : Int) < (c : Int) := by omega
     obtain ⟨ao, co, rfl, hac, hrow⟩ := rowI_owns HOWN.out
     have HM : Hid (MIs wr (.agg #[.slice ao o.length co]) (x + y)) := mis_limbs (addD_end HD.out hl1 hl2 hc0) hac hrow
     go_wp2_with fail
     exact m_ret rfl rfl rfl (HB3.out.set 0 _) ⟨_, rfl, m_shut HM.out HB3.out (by decide) HBL.out (by omega)⟩
end Go.Proofs.Ytnojfiokdhcbjaa
namespace Go.Proofs.Ytnojfiokdhcbjaa
open Go Go.RowKit
theorem lim20 {m : Nat} (h : m < 18446744073709551616) : (Dec.limbs m).length ≤ 1000000 := by
 have : (Dec.limbs m).length ≤ 5 := by
  refine (Dec.limbs_len m 5).2 ?_
  rw [show (10000 : Nat) ^ 5 = 100000000000000000000 by decide]
  omega
 omega
theorem j_shut {w w0 : World} {T : TypeId} {g c : Nat} {z : Int} {a : Option Addr} {x y : Value} (hB : BlkC T w0 g [x, y]) (hT : T ≠ 3) (hc : (Dec.limbs z.natAbs).length ≤ c) (hr : RowI w0 a (Dec.limbs z.natAbs)) (hG : Below w.heap.size w w0) (hg : w.heap.size ≤ g := by exact Nat.le_refl _) :
  BlkC T ((w0.setCell ⟨g, 0, none⟩ (.int .i64 z.sign)).setCell ⟨g, 1, none⟩ (.slice a (Dec.limbs z.natAbs).length c)) g [.int .i64 z.sign, .slice a (Dec.limbs z.natAbs).length c] ∧
  JIs ((w0.setCell ⟨g, 0, none⟩ (.int .i64 z.sign)).setCell ⟨g, 1, none⟩ (.slice a (Dec.limbs z.natAbs).length c)) (.agg #[.int .i64 z.sign, .slice a (Dec.limbs z.natAbs).length c]) z ∧
  Below w.heap.size w ((w0.setCell ⟨g, 0, none⟩ (.int .i64 z.sign)).setCell ⟨g, 1, none⟩ (.slice a (Dec.limbs z.natAbs).length c)) := by
 have h1 := hB.set 0 (.int .i64 z.sign)
 exact ⟨h1.set 1 _, ⟨a, c, rfl, hc, (hr.keep (ki_set hB hT _)).keep (ki_set h1 hT _)⟩, (hG.setCell hg _).setCell hg _⟩
set_option maxHeartbeats 4000000 in
set_option maxRecDepth 100000 in
theorem jOf_any (n : Int) (w : World) (h0 : -9223372036854775808 ≤ n) (h1 : n ≤ 9223372036854775807) :
  Calls Try.prog 47 #[.int .i64 n] w fun e w' => ∃ r, e = .returned r ∧ JIs w' r n ∧ Below w.heap.size w w' := by
 have HB : Hid (BlkC 51 (w.alloc (.cells #[.int .i64 0, .slice none 0 0] 51)) w.heap.size [.int .i64 0, .slice none 0 0]) := BlkC.new _ w [.int .i64 0, .slice none 0 0]
 have HG : Hid (Below w.heap.size w (w.alloc (.cells #[.int .i64 0, .slice none 0 0] 51))) := (own_alloc _ _).b
 go_enter Try.func47, Try.ntmps47
 by_cases hn : n < 0
 ·obtain ⟨m, rfl⟩ : ∃ m : Nat, n = -(m : Int) - 1 := ⟨(-(n + 1)).toNat, by omega⟩
  have HM : Hid (m < 18446744073709551616) := Lib.hid (by omega)
  go_wp2_with fail
  refine (mOf_any m _ HM.out).mono ?_
  rintro e w1 ⟨v1, rfl, hv1, hg1⟩
  have HB1 : Hid (BlkC 51 w1 w.heap.size [.int .i64 0, .slice none 0 0]) := HB.out.still (grown_of_below hg1 none)
  have HG1 : Hid (Below w.heap.size w w1) := HG.out.trans (hg1.mono HG.out.size)
  have HV1 := Lib.hid hv1
  clear hv1 hg1 HB HG
  go_wp2_with fail
  refine (mOf_any 1 _ (by decide)).mono ?_
  rintro e w2 ⟨v2, rfl, hv2, hg2⟩
  have HB2 : Hid (BlkC 51 w2 w.heap.size [.int .i64 0, .slice none 0 0]) := HB1.out.still (grown_of_below hg2 none)
  have HG2 : Hid (Below w.heap.size w w2) := HG1.out.trans (hg2.mono HG1.out.size)
  have HV2 := Lib.hid hv2
  have HV12 := Lib.hid (HV1.out.keep (ki_below hg2))
  clear hv2 hg2 HB1 HG1 HV1
  go_wp2_with fail
  refine (madd_any m 1 _ _ _ HV12.out HV2.out (lim20 HM.out) (lim20 (by decide))).mono ?_
  rintro e w3 ⟨v3, rfl, hv3, hg3⟩
  have HB3 : Hid (BlkC 51 w3 w.heap.size [.int .i64 0, .slice none 0 0]) := HB2.out.still (grown_of_below hg3 none)
  have HG3 : Hid (Below w.heap.size w w3) := HG2.out.trans (hg3.mono HG2.out.size)
  have HV3 := Lib.hid hv3
  clear hv3 hg3 HB2 HG2 HV12 HV2
  go_wp2_with fail
  refine (jmade_any (-1) _ _ _ HV3.out (.inr (.inl rfl))).mono ?_
  rintro e w4 ⟨v4, rfl, hv4, hg4⟩
  have HBn : Hid (BlkC 51 w4 w.heap.size [.int .i64 0, .slice none 0 0]) := HB3.out.still (grown_of_below hg4 none)
  have HGn : Hid (Below w.heap.size w w4) := HG3.out.trans (hg4.mono HG3.out.size)
  have HJ : Hid (JIs w4 v4 (-(m : Int) - 1)) := by
   rw [show -(m : Int) - 1 = -1 * ((m + 1 : Nat) : Int) by omega]
   exact hv4
  clear hv4 hg4 HB3 HG3 HV3
  obtain ⟨a, c, rfl, hc, hr⟩ := HJ.out
  have x0 := HBn.out.cell 0
  have x1 := HBn.out.cell 1
  have f0 := HBn.out.free 0
  have f1 := HBn.out.free 1
  have lt := HBn.out.lt
  simp only [List.getElem?_cons_zero, List.getElem?_cons_succ] at x0 x1
  have HE := Lib.hid (j_shut (T := 51) HBn.out (by decide) hc hr HGn.out)
  clear hc hr
  go_wp2_with fail
  exact j_ret rfl rfl rfl HE.out.1 ⟨_, rfl, HE.out.2⟩
 ·obtain ⟨m, rfl⟩ : ∃ m : Nat, n = (m : Int) := ⟨n.toNat, by omega⟩
  have HM : Hid (m < 18446744073709551616) := Lib.hid (by omega)
  go_wp2_with fail
  refine (mOf_any m _ HM.out).mono ?_
  rintro e w3 ⟨v3, rfl, hv3, hg3⟩
  have HB3 : Hid (BlkC 51 w3 w.heap.size [.int .i64 0, .slice none 0 0]) := HB.out.still (grown_of_below hg3 none)
  have HG3 : Hid (Below w.heap.size w w3) := HG.out.trans (hg3.mono HG.out.size)
  have HV3 := Lib.hid hv3
  clear hv3 hg3 HB HG
  go_wp2_with fail
  refine (jmade_any 1 _ _ _ HV3.out (.inl rfl)).mono ?_
  rintro e w4 ⟨v4, rfl, hv4, hg4⟩
  have HBn : Hid (BlkC 51 w4 w.heap.size [.int .i64 0, .slice none 0 0]) := HB3.out.still (grown_of_below hg4 none)
  have HGn : Hid (Below w.heap.size w w4) := HG3.out.trans (hg4.mono HG3.out.size)
  have HJ : Hid (JIs w4 v4 (m : Int)) := by
   rw [show (m : Int) = 1 * (m : Int) by omega]
   exact hv4
  clear hv4 hg4 HB3 HG3 HV3
  obtain ⟨a, c, rfl, hc, hr⟩ := HJ.out
  have x0 := HBn.out.cell 0
  have x1 := HBn.out.cell 1
  have f0 := HBn.out.free 0
  have f1 := HBn.out.free 1
  have lt := HBn.out.lt
  simp only [List.getElem?_cons_zero, List.getElem?_cons_succ] at x0 x1
  have HE := Lib.hid (j_shut (T := 51) HBn.out (by decide) hc hr HGn.out)
  clear hc hr
  go_wp2_with fail
  exact j_ret rfl rfl rfl HE.out.1 ⟨_, rfl, HE.out.2⟩
end Go.Proofs.Ytnojfiokdhcbjaa
namespace Go.Proofs.Ytnojfiokdhcbjaa
open Go Go.RowKit
def und (d : Int) : Nat := 1 + (d % 18446744073709551616 % 60).toNat
theorem und_pos (d : Int) : 0 < und d ∧ und d ≤ 60 := by unfold und; omega
set_option maxHeartbeats 4000000 in
set_option maxRecDepth 100000 in
theorem under_any (x y d : Int) (w : World) :
  Calls Try.prog 46 #[.agg #[.int .i64 x, .int .i64 y, .int .i64 d]] w fun e w' => e = .returned (.int .i64 (und d : Nat)) ∧ Below w.heap.size w w' := by
 have hu : wrap64 (1 + wrap64 ((IntKind.u64.wrap d).tmod 60)) = (und d : Nat) := by
  have h0 : 0 ≤ IntKind.u64.wrap d := by rw [IntKind.wrap_u64]; omega
  rw [Int.tmod_eq_emod_of_nonneg h0, IntKind.wrap_u64]
  unfold wrap64 und
  omega
 go_enter Try.func46, Try.ntmps46
 go_wp2_with fail
 rw [hu]
 go_ret
 exact ⟨rfl, (own_alloc _ _).b⟩
end Go.Proofs.Ytnojfiokdhcbjaa
namespace Go.Proofs.Ytnojfiokdhcbjaa
open Go Go.RowKit
def KK (w w' : World) : Prop := Keep w w' ∧ KI w w'
theorem KK.refl (w : World) : KK w w := ⟨Keep.refl w, KI.refl w⟩
theorem KK.trans {a b c : World} (h : KK a b) (k : KK b c) : KK a c := ⟨h.1.trans k.1, h.2.trans k.2⟩
theorem kk_grown {w w' : World} (hg : w.grownBy w' none) : KK w w' := ⟨keep_grown hg, ki_grown hg⟩
theorem kk_below {w w' : World} (h : Below w.heap.size w w') : KK w w' := kk_grown (grown_of_below h none)
theorem kk_alloc (w : World) (o : Obj) : KK w (w.alloc o) := kk_grown (grown_alloc _ _ none)
inductive PtK (K : World → World → Prop) where
 | any
 | is (v : Value)
 | p (S : World → Value → Prop) (h : ∀ w w' v, K w w' → S w v → S w' v)
def PtK.ok {K : World → World → Prop} (w : World) : PtK K → Value → Prop
 | .any, _ => True
 | .is v, u => u = v
 | .p S _, u => S w u
theorem PtK.ok.keep {K : World → World → Prop} {w w' : World} (k : K w w') : ∀ {p : PtK K} {v : Value}, p.ok w v → p.ok w' v
 | .any, _, _ => trivial
 | .is _, _, h => h
 | .p _ hk, _, h => hk _ _ _ k h
theorem kkz {z : Int} (w w' : World) (v : Value) (k : KK w w') (h : ZIs w v z) : ZIs w' v z := h.keep k.1
theorem kkr {q : Rat} (w w' : World) (v : Value) (k : KK w w') (h : RIs w v q) : RIs w' v q := h.keep k.1
theorem kkp {x y : Rat} (w w' : World) (v : Value) (k : KK w w') (h : PIs w v x y) : PIs w' v x y := PIs.keep _ _ _ k.1 h
theorem kkj {z : Int} (w w' : World) (v : Value) (k : KK w w') (h : JIs w v z) : JIs w' v z := h.keep k.2
theorem region_kk {P : Program} {id : Nat} {ops : List Oper} {m : Nat} {a0 : Act} {w0 : World} {Q : Exit → Act → World → Prop} (hx : P.follows .mixedOrders = true) (hp : parB m ops = true) (hm : a0.tmps.size = m)
  (K : World → World → Prop) (s : Nat → PtK K) (J : (Nat → Bool) → Act → World → Prop) (hJ : ∀ f g a w, (∀ j, j < ops.length → f j = g j) → J f a w → J g a w) (h0 : J (fun _ => false) a0 w0.drew)
  (hstep : ∀ i o f a w, ops[i]? = some o → J f a w → f i = false →
   (∀ j p d, ops[j]? = some p → (o.after.any fun e => Region.binds .any e && e.on == j) = true → p.dst = some d → (s j).ok w (a.tmps.getD d undef)) →
   (∀ j, (o.after.any fun e => Region.binds .any e && e.on == j) = true → f j = true) →
   (∀ k p j, ops[k]? = some p → f k = true → (p.after.any fun e => Region.binds .any e && e.on == j) = true → f j = true) →
   (∀ t, (∀ p ∈ ops, p.dst ≠ some t) → a.tmps.getD t undef = a0.tmps.getD t undef) →
   a.tmps.size = a0.tmps.size →
   ParOK P o a w (fun v w' => K w w' ∧ J (upd f i) (a.put o.dst v) w' ∧ (s i).ok w' v))
  (hend : ∀ (vs : Nat → Value) w, J (fun _ => true) (putAll ops vs a0) w → (∀ j p d, ops[j]? = some p → p.dst = some d → (s j).ok w (vs d)) → Q .normal (putAll ops vs a0) w) :
  (Code.region id ops.toArray true).wp P Q a0 w0 := by
 refine region_act hx hp hm J (fun i v w => (s i).ok w v) hJ h0 ?_ hend
 intro i o f a w hi hW hf hdep hS hcl hfr hsz
 have hany : ∀ (p : Oper) j, (∀ e ∈ p.after, Region.binds .any e = true → f e.on = true) → (p.after.any fun e => Region.binds .any e && e.on == j) = true → f j = true := by
  intro p j h hj
  rw [Array.any_eq_true'] at hj
  obtain ⟨e, he, hb⟩ := hj
  simp only [Bool.and_eq_true, beq_iff_eq] at hb
  rw [← hb.2]
  exact h e he hb.1
 intro Q'
 refine Oper.wp_mono ?_ (hstep i o f a w hi hW hf (fun j p d hp hj hd => hS j p d hp (hany o j hdep hj) hd) (fun j hj => hany o j hdep hj) (fun k p j hk hfk hj => hany p j (hcl k p hk hfk) hj) hfr hsz Q')
 rintro a' w' ⟨v, rfl, hk, hj, hv⟩
 exact ⟨v, rfl, fun _ _ h => PtK.ok.keep hk h, hj, hv⟩
structure TgK where
 d : Nat
 ia : Option Nat
 st : Nat
 T : TypeId
 K : Bool → World → List Value → Prop
 kk : ∀ (c : Bool) (w w' : World) (cs : List Value), KK w w' → K c w cs → K c w' cs
def TgK.there (t : TgK) (f : Nat → Bool) : Prop := ∀ i, t.ia = some i → f i = true
structure MK (B : Nat) (w0 wk : World) (bx : List (TypeId × Nat × List Value)) (tg : List TgK) (f : Nat → Bool) (a : Act) (w : World) : Prop where
 b : Below B w0 w
 k : KK wk w
 hs : B ≤ w.heap.size
 kept : ∀ x : TypeId × Nat × List Value, x ∈ bx → BlkC x.1 w x.2.1 x.2.2
 at' : ∀ t : TgK, t ∈ tg → t.there f → ∃ g cs, a.tmps.getD t.d undef = .pointer (some ⟨g, 0, none⟩) ∧ B ≤ g ∧ BlkC t.T w g cs ∧ t.K (f t.st) w cs ∧ ∀ x : TypeId × Nat × List Value, x ∈ bx → x.2.1 ≠ g
 ne : ∀ t u : TgK, t ∈ tg → u ∈ tg → t.d ≠ u.d → t.there f → u.there f → a.tmps.getD t.d undef ≠ a.tmps.getD u.d undef
section
variable {B : Nat} {w0 wk : World} {bx : List (TypeId × Nat × List Value)} {tg : List TgK} {f : Nat → Bool} {a : Act} {w : World}
theorem there_updK {t : TgK} {i : Nat} (h : t.ia ≠ some i) : t.there (upd f i) ↔ t.there f := by
 unfold TgK.there upd
 constructor
 ·intro g j hj
  have := g j hj
  rwa [if_neg (by rintro rfl; exact h hj)] at this
 ·intro g j hj
  rw [if_neg (by rintro rfl; exact h hj)]
  exact g j hj
theorem MK.ext {g : Nat → Bool} {n : Nat} (hn : ∀ t, t ∈ tg → t.st < n ∧ ∀ i, t.ia = some i → i < n) (e : ∀ j, j < n → f j = g j) (h : MK B w0 wk bx tg f a w) : MK B w0 wk bx tg g a w := by
 have ht : ∀ t, t ∈ tg → (t.there g ↔ t.there f) := fun t ht => by
  unfold TgK.there
  constructor
  ·intro k i hi; rw [e i ((hn t ht).2 i hi)]; exact k i hi
  ·intro k i hi; rw [← e i ((hn t ht).2 i hi)]; exact k i hi
 refine ⟨h.b, h.k, h.hs, h.kept, fun t hm hth => ?_, fun t u h1 h2 hd c1 c2 => h.ne t u h1 h2 hd ((ht t h1).1 c1) ((ht u h2).1 c2)⟩
 rw [← e t.st (hn t hm).1]
 exact h.at' t hm ((ht t hm).1 hth)
theorem MK.gr (h : MK B w0 wk bx tg f a w) {w' : World} (hb : Below w.heap.size w w') (i : Nat) (o : Option Nat) (v : Value)
  (hc : ∀ t, t ∈ tg → o ≠ some t.d ∧ t.ia ≠ some i ∧ t.st ≠ i) : MK B w0 wk bx tg (upd f i) (a.put o v) w' := by
 have hg := grown_of_below hb none
 refine ⟨h.b.trans (hb.mono h.hs), h.k.trans (kk_grown hg), Nat.le_trans h.hs hb.size, fun x hx => (h.kept x hx).still hg, fun t hm hth => ?_, fun t u h1 h2 hd c1 c2 => ?_⟩
 ·obtain ⟨c1, c2, c3⟩ := hc t hm
  obtain ⟨g, cs, k1, k2, k3, k4, k5⟩ := h.at' t hm ((there_updK c2).1 hth)
  refine ⟨g, cs, by rw [put_other v c1]; exact k1, k2, k3.still hg, ?_, k5⟩
  have e : upd f i t.st = f t.st := by unfold upd; rw [if_neg c3]
  rw [e]
  exact t.kk _ _ _ _ (kk_grown hg) k4
 ·obtain ⟨d1, d2, d3⟩ := hc t h1
  obtain ⟨e1, e2, e3⟩ := hc u h2
  rw [put_other v d1, put_other v e1]
  exact h.ne t u h1 h2 hd ((there_updK d2).1 c1) ((there_updK e2).1 c2)
theorem MK.same (h : MK B w0 wk bx tg f a w) (i : Nat) (o : Option Nat) (v : Value)
  (hc : ∀ t, t ∈ tg → o ≠ some t.d ∧ t.ia ≠ some i ∧ t.st ≠ i) : MK B w0 wk bx tg (upd f i) (a.put o v) w :=
 h.gr (Below.refl _ _) i o v hc
theorem MK.new (h : MK B w0 wk bx tg f a w) {t0 : TgK} {cs : List Value} (i : Nat) (hm0 : t0 ∈ tg) (hi : t0.ia = some i) (hsz : t0.d < a.tmps.size) (hst : f t0.st = false) (hne : t0.st ≠ i)
  (hc : ∀ t, t ∈ tg → t = t0 ∨ (t0.d ≠ t.d ∧ t.ia ≠ some i ∧ t.st ≠ i)) (hk0 : t0.K false (w.alloc (.cells cs.toArray t0.T)) cs) :
  MK B w0 wk bx tg (upd f i) (a.put (some t0.d) (.pointer (some ⟨w.heap.size, 0, none⟩))) (w.alloc (.cells cs.toArray t0.T)) := by
 have hb : Below w.heap.size w (w.alloc (.cells cs.toArray t0.T)) := (Below.refl _ _).alloc (Nat.le_refl _) _
 have hg := grown_of_below hb none
 have old : ∀ t, t ∈ tg → t ≠ t0 → t.there (upd f i) → ∃ g cs', (a.put (some t0.d) (.pointer (some ⟨w.heap.size, 0, none⟩))).tmps.getD t.d undef = .pointer (some ⟨g, 0, none⟩) ∧ g < w.heap.size ∧ B ≤ g ∧ BlkC t.T (w.alloc (.cells cs.toArray t0.T)) g cs' ∧ t.K (upd f i t.st) (w.alloc (.cells cs.toArray t0.T)) cs' ∧ ∀ x : TypeId × Nat × List Value, x ∈ bx → x.2.1 ≠ g := fun t hm hne' hth => by
  obtain ⟨c1, c2, c3⟩ := (hc t hm).resolve_left hne'
  obtain ⟨g, cs', k1, k2, k3, k4, k5⟩ := h.at' t hm ((there_updK c2).1 hth)
  refine ⟨g, cs', by rw [put_other _ (by simpa using c1)]; exact k1, k3.lt, k2, k3.still hg, ?_, k5⟩
  have e : upd f i t.st = f t.st := by unfold upd; rw [if_neg c3]
  rw [e]
  exact t.kk _ _ _ _ (kk_grown hg) k4
 refine ⟨h.b.trans (hb.mono h.hs), h.k.trans (kk_grown hg), Nat.le_trans h.hs hb.size, fun x hx => (h.kept x hx).still hg, fun t hm hth => ?_, fun t u h1 h2 hd c1 c2 => ?_⟩
 ·rcases Classical.em (t = t0) with rfl | hn
  ·refine ⟨w.heap.size, cs, put_same _ hsz, h.hs, BlkC.new _ _ _, ?_, fun x hx => Nat.ne_of_lt (h.kept x hx).lt⟩
   have e : upd f i t.st = false := by unfold upd; rw [if_neg hne]; exact hst
   rw [e]
   exact hk0
  ·obtain ⟨g, cs', k1, _, k2, k3, k4, k5⟩ := old t hm hn hth
   exact ⟨g, cs', k1, k2, k3, k4, k5⟩
 ·rcases Classical.em (t = t0) with e1 | n1 <;> rcases Classical.em (u = t0) with e2 | n2
  ·exact absurd (e1.trans e2.symm ▸ rfl) hd
  ·subst e1
   obtain ⟨g, cs', k1, k2, _⟩ := old u h2 n2 c2
   rw [put_same _ hsz, k1]
   intro e
   injection e with e
   injection e with e
   injection e with e
   omega
  ·subst e2
   obtain ⟨g, cs', k1, k2, _⟩ := old t h1 n1 c1
   rw [put_same _ hsz, k1]
   intro e
   injection e with e
   injection e with e
   injection e with e
   omega
  ·obtain ⟨d1, d2, d3⟩ := (hc t h1).resolve_left n1
   obtain ⟨e1, e2, e3⟩ := (hc u h2).resolve_left n2
   rw [put_other _ (by simpa using d1), put_other _ (by simpa using e1)]
   exact h.ne t u h1 h2 hd ((there_updK d2).1 c1) ((there_updK e2).1 c2)
theorem MK.ahead (h : MK B w0 wk bx tg f a w) {t0 : TgK} (hm0 : t0 ∈ tg) (hth : t0.there f) (hf : f t0.st = false) : ∃ g cs, a.tmps.getD t0.d undef = .pointer (some ⟨g, 0, none⟩) ∧ BlkC t0.T w g cs ∧ t0.K false w cs := by
 obtain ⟨g, cs, k1, k2, k3, k4, k5⟩ := h.at' t0 hm0 hth
 rw [hf] at k4
 exact ⟨g, cs, k1, k3, k4⟩
theorem MK.put (h : MK B w0 wk bx tg f a w) {t0 : TgK} {w' : World} {g : Nat} {cs : List Value} (i : Nat) (v : Value) (hm0 : t0 ∈ tg) (hth : t0.there f) (hi : t0.st = i) (hp : a.tmps.getD t0.d undef = .pointer (some ⟨g, 0, none⟩))
  (hgr : w.grownBy w' (some g)) (hk : KK w w') (hB : BlkC t0.T w' g cs) (hK1 : t0.K true w' cs)
  (hc : ∀ t, t ∈ tg → t = t0 ∨ (t.d ≠ t0.d ∧ t.st ≠ i)) (hia : ∀ t, t ∈ tg → t.ia ≠ some i) : MK B w0 wk bx tg (upd f i) (a.put none v) w' := by
 obtain ⟨g0, cs0, k1, k2, k3, k4, k5⟩ := h.at' t0 hm0 hth
 have eg : g0 = g := by
  rw [hp] at k1
  injection k1 with e
  injection e with e
  injection e with e
  exact e.symm
 subst eg
 refine ⟨h.b.grown hgr h.hs (fun q hq => by cases hq; exact k2), h.k.trans hk, Nat.le_trans h.hs hgr.size, fun x hx => (h.kept x hx).grown hgr (fun e => k5 x hx (Option.some.inj e)), fun t hm ht => ?_, fun t u h1 h2 hd c1 c2 => h.ne t u h1 h2 hd ((there_updK (hia t h1)).1 c1) ((there_updK (hia u h2)).1 c2)⟩
 rcases Classical.em (t = t0) with rfl | hn
 ·refine ⟨g0, cs, hp, k2, hB, ?_, k5⟩
  have e : upd f i t.st = true := by unfold upd; rw [if_pos hi]
  rw [e]
  exact hK1
 ·obtain ⟨c1, c2⟩ := (hc t hm).resolve_left hn
  have ht' := (there_updK (hia t hm)).1 ht
  obtain ⟨g1, cs1, j1, j2, j3, j4, j5⟩ := h.at' t hm ht'
  have hne := h.ne t t0 hm hm0 c1 ht' hth
  rw [j1, hp] at hne
  refine ⟨g1, cs1, j1, j2, j3.grown hgr (fun e => hne (by cases e; rfl)), ?_, j5⟩
  have e : upd f i t.st = f t.st := by unfold upd; rw [if_neg c2]
  rw [e]
  exact t.kk _ _ _ _ hk j4
end
def KT (n : Nat) (S : World → Value → Prop) : Bool → World → List Value → Prop
 | false, _, cs => cs.length = n
 | true, w, cs => S w (.agg cs.toArray)
abbrev tgK (d : Nat) (ia : Option Nat) (st : Nat) (T : TypeId) (n : Nat) (S : World → Value → Prop) (hS : ∀ w w' v, KK w w' → S w v → S w' v) : TgK := ⟨d, ia, st, T, KT n S, fun c _ _ _ k h => by
 cases c with
 | false => exact h
 | true => exact hS _ _ _ k h⟩
theorem len4 {cs : List Value} (h : cs.length = 4) : ∃ a b c d, cs = [a, b, c, d] := by
 match cs, h with
 | [a, b, c, d], _ => exact ⟨a, b, c, d, rfl⟩
theorem len6 {cs : List Value} (h : cs.length = 6) : ∃ a b c d e f, cs = [a, b, c, d, e, f] := by
 match cs, h with
 | [a, b, c, d, e, f], _ => exact ⟨a, b, c, d, e, f, rfl⟩
structure StK (T : TypeId) (w : World) (g : Nat) (w' : World) (cs : List Value) : Prop where
 gr : w.grownBy w' (some g)
 kk : KK w w'
 bb : BlkC T w' g cs
theorem StK.more {T : TypeId} {w w' : World} {g : Nat} {cs : List Value} (s : StK T w g w' cs) (hT : T ≠ 126 ∧ T ≠ 3) (j : Nat) (c : Value) : StK T w g (w'.setCell ⟨g, j, none⟩ c) (cs.set j c) :=
 ⟨grown_trans s.gr (grown_setCell _ _ _), s.kk.trans ⟨keep_set s.bb hT.1 _, ki_set s.bb hT.2 _⟩, s.bb.set j c⟩
theorem StK.one {T : TypeId} {w : World} {g : Nat} {cs : List Value} (h : BlkC T w g cs) (hT : T ≠ 126 ∧ T ≠ 3) (j : Nat) (c : Value) : StK T w g (w.setCell ⟨g, j, none⟩ c) (cs.set j c) :=
 ⟨grown_setCell _ _ _, ⟨keep_set h hT.1 _, ki_set h hT.2 _⟩, h.set j c⟩
end Go.Proofs.Ytnojfiokdhcbjaa
namespace Go.Proofs.Ytnojfiokdhcbjaa
open Go Go.ChangeShapes Go.WideShapes Go.ChangeAt Go.RowKit
theorem choose_list {α : Type} (n : Nat) (p : Nat → α → Prop) (h : ∀ i, i < n → ∃ x, p i x) : ∃ l : List α, l.length = n ∧ ∀ i x, l[i]? = some x → p i x := by
 induction n with
 | zero => exact ⟨[], rfl, fun i x e => by simp at e⟩
 | succ n ih =>
  obtain ⟨l, hl, hp⟩ := ih fun i hi => h i (by omega)
  obtain ⟨x, hx⟩ := h n (by omega)
  refine ⟨l ++ [x], by simp [hl], fun i y e => ?_⟩
  by_cases hi : i < n
  ·rw [List.getElem?_append_left (by omega)] at e
   exact hp i y e
  ·have hlt : i < (l ++ [x]).length := (List.getElem?_eq_some_iff.1 e).1
   simp at hlt
   obtain rfl : i = n := by omega
   rw [List.getElem?_append_right (by omega), hl, Nat.sub_self] at e
   cases e
   exact hx
theorem add_none (g o j : Nat) : (⟨g, o, none⟩ : Addr).add j = ⟨g, o + j, none⟩ := by
 unfold Addr.add
 split
 ·rename_i h; subst h; rfl
 ·rfl
theorem add_add (a : Addr) (i j : Nat) : (a.add i).add j = a.add (i + j) := Deep.add_add a i j
theorem addr_plain {w : World} {a : Addr} {u : Value} (h : w.cell? a = some u) : ∃ g o, a = ⟨g, o, none⟩ ∧ g < w.heap.size := by
 obtain ⟨g, o, s⟩ := a
 have hlt := World.block_lt_of_cell? _ _ h
 unfold World.cell? at h
 split at h
 ·cases s with
  | none => exact ⟨g, o, rfl, hlt⟩
  | some s => simp at h
 ·cases h
def Rng64 (a : Int) : Prop := -9223372036854775808 ≤ a ∧ a ≤ 9223372036854775807
theorem rng64_wf {n : Int} (h : (Lit.int .i64 n).wf = true) : Rng64 n := by
 unfold Lit.wf at h
 simp [IntKind.min, IntKind.max, IntKind.signed, IntKind.bits] at h
 exact ⟨by omega, by omega⟩
structure PQ where
 ax : Int
 ay : Int
 ad : Int
 cx : Int
 cy : Int
 cd : Int
def PQ.cells (p : PQ) : List Value := [.int .i64 p.ax, .int .i64 p.ay, .int .i64 p.ad, .int .i64 p.cx, .int .i64 p.cy, .int .i64 p.cd]
def PQ.ok (p : PQ) : Prop := Rng64 p.ax ∧ Rng64 p.ay ∧ Rng64 p.ad ∧ Rng64 p.cx ∧ Rng64 p.cy ∧ Rng64 p.cd
def PqIs (w : World) (v : Value) (l : List PQ) : Prop :=
 l.length ≤ 9223372036854775807 ∧ (∀ p ∈ l, p.ok) ∧ ∃ a cap, v = .slice a l.length cap ∧ (l = [] ∨ ∃ g o, a = some ⟨g, o, none⟩ ∧ g < w.heap.size ∧ ∀ i p, l[i]? = some p → ∀ j c, p.cells[j]? = some c → w.cell? ⟨g, o + i * 6 + j, none⟩ = some c)
theorem PqIs.still {w w' : World} {v : Value} {l : List PQ} (h : PqIs w v l) (hg : w.grownBy w' none) : PqIs w' v l := by
 obtain ⟨h1, h2, a, cap, rfl, h3⟩ := h
 refine ⟨h1, h2, a, cap, rfl, ?_⟩
 rcases h3 with h3 | ⟨g, o, rfl, hl, hc⟩
 ·exact .inl h3
 ·refine .inr ⟨g, o, rfl, Nat.lt_of_lt_of_le hl hg.size, fun i p hp j c hj => ?_⟩
  have e := hg.block g hl (by simp)
  exact (World.cell?_of_block (a := ⟨g, _, none⟩) e).trans (hc i p hp j c hj)
theorem cellsInt : Try.prog.cellsOf 3 = 1 := by kernel_rfl
theorem cellsDot : Try.prog.cellsOf 84 = 3 := by kernel_rfl
theorem cellsPair : Try.prog.cellsOf 86 = 6 := by kernel_rfl
section
variable {H : Type} {enc : TypeId × Value → H} {W : World}
set_option maxRecDepth 100000 in
theorem open_dot (fuel : Nat) (c0 c1 c2 : Value) (x : DataW H × List MemPlace) (h : DataW.trod enc Try.prog W 0 (fun _ => true) true fuel 84 [c0, c1, c2] = some x) :
  ∃ a b d : Int, c0 = .int .i64 a ∧ c1 = .int .i64 b ∧ c2 = .int .i64 d ∧ Rng64 a ∧ Rng64 b ∧ Rng64 d := by
 obtain ⟨xs, n1, rfl, rfl, hl, hlen, hf⟩ := DataW.trod_struct Try.underlying84 h
 match xs, hlen with
 | [y0, y1, y2], _ =>
  have f0 : DataW.trod enc Try.prog W 0 (fun _ => true) true n1 3 (([c0, c1, c2].drop 0).take (Try.prog.cellsOf 3)) = some y0 := hf 0 _ rfl
  rw [cellsInt] at f0
  have f1 : DataW.trod enc Try.prog W 0 (fun _ => true) true n1 3 (([c0, c1, c2].drop 1).take (Try.prog.cellsOf 3)) = some y1 := hf 1 _ rfl
  rw [cellsInt] at f1
  have f2 : DataW.trod enc Try.prog W 0 (fun _ => true) true n1 3 (([c0, c1, c2].drop 2).take (Try.prog.cellsOf 3)) = some y2 := hf 2 _ rfl
  rw [cellsInt] at f2
  have g0 : DataW.trod enc Try.prog W 0 (fun _ => true) true n1 3 [c0] = some y0 := f0
  have g1 : DataW.trod enc Try.prog W 0 (fun _ => true) true n1 3 [c1] = some y1 := f1
  have g2 : DataW.trod enc Try.prog W 0 (fun _ => true) true n1 3 [c2] = some y2 := f2
  obtain ⟨a, e0, _, w0⟩ := DataW.trod_int Try.underlying3 g0
  obtain ⟨b, e1, _, w1⟩ := DataW.trod_int Try.underlying3 g1
  obtain ⟨d, e2, _, w2⟩ := DataW.trod_int Try.underlying3 g2
  cases e0; cases e1; cases e2
  exact ⟨a, b, d, rfl, rfl, rfl, rng64_wf w0, rng64_wf w1, rng64_wf w2⟩
theorem list6 {α : Type} {cs : List α} (h : cs.length = 6) : ∃ c0 c1 c2 c3 c4 c5, cs = [c0, c1, c2, c3, c4, c5] := by
 match cs, h with
 | [a, b, c, d, e, f], _ => exact ⟨a, b, c, d, e, f, rfl⟩
set_option maxRecDepth 100000 in
theorem open_pair (fuel : Nat) (cs : List Value) (x : DataW H × List MemPlace) (h : DataW.trod enc Try.prog W 0 (fun _ => true) true fuel 86 cs = some x) : ∃ p : PQ, cs = p.cells ∧ p.ok := by
 obtain ⟨xs, n1, rfl, rfl, hl, hlen, hf⟩ := DataW.trod_struct Try.underlying86 h
 rw [cellsPair] at hl
 match xs, hlen with
 | [y0, y1], _ =>
  have f0 : DataW.trod enc Try.prog W 0 (fun _ => true) true n1 84 ((cs.drop 0).take (Try.prog.cellsOf 84)) = some y0 := hf 0 _ rfl
  rw [cellsDot] at f0
  have f1 : DataW.trod enc Try.prog W 0 (fun _ => true) true n1 84 ((cs.drop 3).take (Try.prog.cellsOf 84)) = some y1 := hf 1 _ rfl
  rw [cellsDot] at f1
  obtain ⟨c0, c1, c2, c3, c4, c5, rfl⟩ := list6 hl
  have g0 : DataW.trod enc Try.prog W 0 (fun _ => true) true n1 84 [c0, c1, c2] = some y0 := f0
  have g1 : DataW.trod enc Try.prog W 0 (fun _ => true) true n1 84 [c3, c4, c5] = some y1 := f1
  obtain ⟨a, b, d, rfl, rfl, rfl, h1, h2, h3⟩ := open_dot n1 _ _ _ _ g0
  obtain ⟨a', b', d', rfl, rfl, rfl, k1, k2, k3⟩ := open_dot n1 _ _ _ _ g1
  exact ⟨⟨a, b, d, a', b', d'⟩, rfl, h1, h2, h3, k1, k2, k3⟩
set_option maxRecDepth 100000 in
theorem open_pairs {v : Value} {d : DataW H} {p : List MemPlace} {r : Reach} {b0 : Nat} (hv : Value.okWide Try.prog W r b0 42 v) (h : DataW.Trod enc Try.prog W 0 (fun _ => true) true 42 v d p) : ∃ l : List PQ, PqIs W v l := by
 obtain ⟨fuel, hf⟩ := h
 obtain ⟨a0, len0, cap0, rfl⟩ := okWide_slice Try.underlying42 hv
 have hone : (Value.slice a0 len0 cap0).cells.toList = [.slice a0 len0 cap0] := rfl
 rw [hone] at hf
 rcases DataW.trod_slice Try.underlying42 hf with ⟨e2, _⟩ | ⟨a, len, cap, elems, rest, n2, rfl, e2, e3, _, hlc, hcm, hel, hat, _, _⟩
 ·cases e2
  exact ⟨[], by simp, (fun x hx => by cases hx), none, 0, rfl, .inl rfl⟩
 ·cases e2
  cases e3
  rw [cellsPair] at hat
  obtain ⟨l, hll, hq⟩ := choose_list len0 (fun i (t : PQ) => W.cells? 0 (a.add (i * 6)) 6 = some t.cells ∧ t.ok) (by
   intro i hi
   have h1 := hat i hi
   rw [List.getElem?_eq_getElem (by omega)] at h1
   obtain ⟨csi, h2, h3⟩ := Option.bind_eq_some_iff.1 h1
   obtain ⟨t, rfl, h5⟩ := open_pair n2 csi _ h3
   exact ⟨t, h2, h5⟩)
  refine ⟨l, by unfold maxLen at hcm; omega, fun x hx => ?_, some a, cap0, by rw [hll], ?_⟩
  ·obtain ⟨i, hi⟩ := List.getElem?_of_mem hx
   exact (hq i x hi).2
  ·cases l with
   | nil => exact .inl rfl
   | cons x0 l0 =>
    obtain ⟨h2, _⟩ := hq 0 x0 rfl
    obtain ⟨_, _, h3⟩ := World.cells?_some h2
    have h4 := h3 0 (by decide)
    rw [add_add, Nat.zero_mul, Nat.add_zero] at h4
    have h5 : W.cell? a = some (.int .i64 x0.ax) := h4
    obtain ⟨g, o, rfl, hg⟩ := addr_plain h5
    refine .inr ⟨g, o, rfl, hg, fun i p hp j c hj => ?_⟩
    obtain ⟨k1, _⟩ := hq i p hp
    rw [add_none] at k1
    obtain ⟨_, _, k6⟩ := World.cells?_some k1
    have hj6 : j < 6 := (List.getElem?_eq_some_iff.1 hj).1
    have := k6 j hj6
    rw [add_none] at this
    rw [this, hj]
end
end Go.Proofs.Ytnojfiokdhcbjaa
namespace Go.Proofs.Ytnojfiokdhcbjaa
open Go Go.RowKit
def QIs (w : World) (v : Value) (x y u : Int) : Prop := ∃ (a1 : Option Addr) (c1 : Nat) (a2 : Option Addr) (c2 : Nat) (a3 : Option Addr) (c3 : Nat),
 v = .agg #[.int .i64 (x).sign, .slice a1 (Dec.limbs (x).natAbs).length c1, .int .i64 (y).sign, .slice a2 (Dec.limbs (y).natAbs).length c2, .int .i64 (u).sign, .slice a3 (Dec.limbs (u).natAbs).length c3] ∧ JIs w (.agg #[.int .i64 (x).sign, .slice a1 (Dec.limbs (x).natAbs).length c1]) x ∧ JIs w (.agg #[.int .i64 (y).sign, .slice a2 (Dec.limbs (y).natAbs).length c2]) y ∧ JIs w (.agg #[.int .i64 (u).sign, .slice a3 (Dec.limbs (u).natAbs).length c3]) u
theorem kkq {x y u : Int} (w w' : World) (v : Value) (k : KK w w') : QIs w v x y u → QIs w' v x y u := by
 rintro ⟨a1, c1, a2, c2, a3, c3, rfl, h1, h2, h3⟩
 exact ⟨a1, c1, a2, c2, a3, c3, rfl, h1.keep k.2, h2.keep k.2, h3.keep k.2⟩
theorem QIs.of {w : World} {v1 v2 v3 : Value} {x y u : Int} (h1 : JIs w v1 x) (h2 : JIs w v2 y) (h3 : JIs w v3 u) : ∃ (a1 : Option Addr) (c1 : Nat) (a2 : Option Addr) (c2 : Nat) (a3 : Option Addr) (c3 : Nat),
  v1 = .agg #[.int .i64 (x).sign, .slice a1 (Dec.limbs (x).natAbs).length c1] ∧ v2 = .agg #[.int .i64 (y).sign, .slice a2 (Dec.limbs (y).natAbs).length c2] ∧ v3 = .agg #[.int .i64 (u).sign, .slice a3 (Dec.limbs (u).natAbs).length c3] ∧ QIs w (.agg #[.int .i64 (x).sign, .slice a1 (Dec.limbs (x).natAbs).length c1, .int .i64 (y).sign, .slice a2 (Dec.limbs (y).natAbs).length c2, .int .i64 (u).sign, .slice a3 (Dec.limbs (u).natAbs).length c3]) x y u := by
 have k1 := h1
 have k2 := h2
 have k3 := h3
 obtain ⟨a1, c1, rfl, _⟩ := h1
 obtain ⟨a2, c2, rfl, _⟩ := h2
 obtain ⟨a3, c3, rfl, _⟩ := h3
 exact ⟨a1, c1, a2, c2, a3, c3, rfl, rfl, rfl, a1, c1, a2, c2, a3, c3, rfl, k1, k2, k3⟩
theorem q_ret {T : TypeId} {R : Ending → World → Prop} {a : Act} {w : World} {g : Nat} {x0 x1 x2 x3 x4 x5 : Value} {f : Func} {t : Tmp} (h : f.results = #[.cell t 53])
  (hp : a.tmps.getD t undef = .pointer (some ⟨g, 0, none⟩)) (ha : a.defers = []) (hB : BlkC T w g [x0, x1, x2, x3, x4, x5]) (hR : R (.returned (.agg #[x0, x1, x2, x3, x4, x5])) w) : bodyPost Try.prog f R .ret a w :=
 blk_ret h (by kernel_rfl) (by kernel_rfl) hp ha hB hR
theorem q_cs {w : World} {cs : List Value} {x y u : Int} (h : QIs w (.agg cs.toArray) x y u) : ∃ (a1 : Option Addr) (c1 : Nat) (a2 : Option Addr) (c2 : Nat) (a3 : Option Addr) (c3 : Nat), cs = [.int .i64 (x).sign, .slice a1 (Dec.limbs (x).natAbs).length c1, .int .i64 (y).sign, .slice a2 (Dec.limbs (y).natAbs).length c2, .int .i64 (u).sign, .slice a3 (Dec.limbs (u).natAbs).length c3] := by
 obtain ⟨a1, c1, a2, c2, a3, c3, e, _⟩ := h
 simp only [Value.agg.injEq] at e
 exact ⟨a1, c1, a2, c2, a3, c3, congrArg Array.toList e⟩
section
variable (w : World) (x y d : Int)
abbrev at2W : World := (w.alloc (.cells #[.int .i64 x, .int .i64 y, .int .i64 d] 84)).alloc (.cells #[.int .i64 0, .slice none 0 0, .int .i64 0, .slice none 0 0, .int .i64 0, .slice none 0 0] 53)
theorem at2W_1 : BlkC 84 (at2W w x y d) w.heap.size [.int .i64 x, .int .i64 y, .int .i64 d] := (BlkC.new _ w [.int .i64 x, .int .i64 y, .int .i64 d]).still (grown_alloc _ _ none)
theorem at2W_2 : BlkC 53 (at2W w x y d) (w.heap.size + 1) [.int .i64 0, .slice none 0 0, .int .i64 0, .slice none 0 0, .int .i64 0, .slice none 0 0] := blk_at (cs := [.int .i64 0, .slice none 0 0, .int .i64 0, .slice none 0 0, .int .i64 0, .slice none 0 0]) (by simp)
theorem at2W_g : Own w.heap.size w (at2W w x y d) := (own_alloc _ _).alloc (by simp) _
abbrev at1W : World := (w.alloc (.cells #[.int .i64 x, .int .i64 y, .int .i64 d] 84)).alloc (.cells #[.slice none 0 0, .bool false, .slice none 0 0, .bool false, .slice none 0 0, .bool false, .slice none 0 0, .bool false] 32)
theorem at1W_1 : BlkC 84 (at1W w x y d) w.heap.size [.int .i64 x, .int .i64 y, .int .i64 d] := (BlkC.new _ w [.int .i64 x, .int .i64 y, .int .i64 d]).still (grown_alloc _ _ none)
theorem at1W_2 : BlkC 32 (at1W w x y d) (w.heap.size + 1) [.slice none 0 0, .bool false, .slice none 0 0, .bool false, .slice none 0 0, .bool false, .slice none 0 0, .bool false] := blk_at (cs := [.slice none 0 0, .bool false, .slice none 0 0, .bool false, .slice none 0 0, .bool false, .slice none 0 0, .bool false]) (by simp)
theorem at1W_g : Own w.heap.size w (at1W w x y d) := (own_alloc _ _).alloc (by simp) _
end
set_option maxHeartbeats 8000000 in
set_option maxRecDepth 100000 in
theorem rAt_any (x y d : Int) (w : World) (hx : Rng64 x) (hy : Rng64 y) :
  Calls Try.prog 27 #[.agg #[.int .i64 x, .int .i64 y, .int .i64 d]] w fun e w' => ∃ r, e = .returned r ∧ QIs w' r x y ((und d : Nat) : Int) ∧ Below w.heap.size w w' := by
 have HX := Lib.hid hx
 have HY := Lib.hid hy
 have hup := und_pos d
 have HU : Hid (Rng64 ((und d : Nat) : Int)) := Lib.hid ⟨by omega, by omega⟩
 have HB1 : Hid (BlkC 84 (at2W w x y d).drew w.heap.size [.int .i64 x, .int .i64 y, .int .i64 d]) := at2W_1 w x y d
 have HB2 : Hid (BlkC 53 (at2W w x y d).drew (w.heap.size + 1) [.int .i64 0, .slice none 0 0, .int .i64 0, .slice none 0 0, .int .i64 0, .slice none 0 0]) := at2W_2 w x y d
 have HG : Hid (Own w.heap.size w (at2W w x y d).drew) := (at2W_g w x y d).drew
 clear hx hy hup
 go_enter Try.func27, Try.ntmps27
 go_wp2_with fail
 refine region_kk (by kernel_rfl) (by kernel_rfl) rfl (KK) (fun | 0 => .is (.pointer (some ⟨w.heap.size, 0, none⟩)) | 1 => .is ((.int .i64 x)) | 2 => .p ((fun W v => JIs W v x)) kkj | 3 => .is (.pointer (some ⟨w.heap.size, 1, none⟩)) | 4 => .is ((.int .i64 y)) | 5 => .p ((fun W v => JIs W v y)) kkj | 6 => .is (.agg #[.int .i64 x, .int .i64 y, .int .i64 d]) | 7 => .is (.int .i64 ((und d : Nat) : Int)) | 8 => .p ((fun W v => JIs W v ((und d : Nat) : Int))) kkj | 9 => .p ((fun W v => QIs W v x y ((und d : Nat) : Int))) kkq | 10 => .any | _ => .any) (MK w.heap.size w w [(84, w.heap.size, [.int .i64 x, .int .i64 y, .int .i64 d])] [tgK 2 none 10 53 6 (fun W v => QIs W v x y ((und d : Nat) : Int)) kkq]) (fun f g a w hn h => MK.ext (n := 11) (by simp) hn h) ?_ ?_ ?_
 ·refine ⟨HG.out.b, kk_below HG.out.b, HG.out.size, (by intro q hq; simp only [List.mem_cons, List.not_mem_nil, or_false] at hq; rcases hq with rfl; exact HB1.out), ?_, (by intro t u h1 h2 hd; simp only [List.mem_singleton] at h1 h2; subst h1; subst h2; exact absurd rfl hd)⟩
  intro t ht h
  simp only [List.mem_singleton] at ht
  subst ht
  exact ⟨w.heap.size + 1, _, rfl, by omega, HB2.out, rfl, by intro q hq; simp only [List.mem_cons, List.not_mem_nil, or_false] at hq; rcases hq with rfl; simp⟩
 ·intro i o f A W hi hJ hf hdep hdn hcl hfr hsz
  rcases i with _ | _ | _ | _ | _ | _ | _ | _ | _ | _ | _ | i
  all_goals (simp at hi)
  all_goals (try subst hi)
  ·have t1 := hfr 1 (by simp)
   refine par_value (v := .pointer (some ⟨w.heap.size, 0, none⟩)) (w' := W) ?_ ⟨KK.refl _, hJ.same _ _ _ (by simp), rfl⟩
   simp [go_sem, Act.eval, t1]
  ·have t3 : A.tmps.getD 3 undef = .pointer (some ⟨w.heap.size, 0, none⟩) := hdep 0 _ 3 rfl (by kernel_rfl) rfl
   have hb0 : BlkC 84 W w.heap.size [.int .i64 x, .int .i64 y, .int .i64 d] := hJ.kept (84, w.heap.size, [.int .i64 x, .int .i64 y, .int .i64 d]) (by simp)
   have x00 : W.cell? ⟨w.heap.size, 0, none⟩ = some (.int .i64 x) := by rw [hb0.cell 0]; rfl
   have x01 : W.cell? ⟨w.heap.size, 1, none⟩ = some (.int .i64 y) := by rw [hb0.cell 1]; rfl
   have x02 : W.cell? ⟨w.heap.size, 2, none⟩ = some (.int .i64 d) := by rw [hb0.cell 2]; rfl
   refine par_value (v := (.int .i64 x)) (w' := W) ?_ ⟨KK.refl _, hJ.same _ _ _ (by simp), rfl⟩
   simp [go_sem, Act.eval, t3, x00]
  ·have t4 : A.tmps.getD 4 undef = (.int .i64 x) := hdep 1 _ 4 rfl (by kernel_rfl) rfl
   refine par_call (w' := W) (f := 47) (xs := #[Value.int IntKind.i64 x]) (by simp [go_sem, Act.eval, t4]) ?_
   refine (jOf_any x _ HX.out.1 HX.out.2).mono ?_
   rintro e w1 ⟨r, rfl, hr, hg1⟩
   exact ⟨r, rfl, kk_below hg1, hJ.gr hg1 _ _ _ (by simp), hr⟩
  ·have t1 := hfr 1 (by simp)
   refine par_value (v := .pointer (some ⟨w.heap.size, 1, none⟩)) (w' := W) ?_ ⟨KK.refl _, hJ.same _ _ _ (by simp), rfl⟩
   simp [go_sem, Act.eval, t1]
  ·have t6 : A.tmps.getD 6 undef = .pointer (some ⟨w.heap.size, 1, none⟩) := hdep 3 _ 6 rfl (by kernel_rfl) rfl
   have hb0 : BlkC 84 W w.heap.size [.int .i64 x, .int .i64 y, .int .i64 d] := hJ.kept (84, w.heap.size, [.int .i64 x, .int .i64 y, .int .i64 d]) (by simp)
   have x00 : W.cell? ⟨w.heap.size, 0, none⟩ = some (.int .i64 x) := by rw [hb0.cell 0]; rfl
   have x01 : W.cell? ⟨w.heap.size, 1, none⟩ = some (.int .i64 y) := by rw [hb0.cell 1]; rfl
   have x02 : W.cell? ⟨w.heap.size, 2, none⟩ = some (.int .i64 d) := by rw [hb0.cell 2]; rfl
   refine par_value (v := (.int .i64 y)) (w' := W) ?_ ⟨KK.refl _, hJ.same _ _ _ (by simp), rfl⟩
   simp [go_sem, Act.eval, t6, x01]
  ·have t7 : A.tmps.getD 7 undef = (.int .i64 y) := hdep 4 _ 7 rfl (by kernel_rfl) rfl
   refine par_call (w' := W) (f := 47) (xs := #[Value.int IntKind.i64 y]) (by simp [go_sem, Act.eval, t7]) ?_
   refine (jOf_any y _ HY.out.1 HY.out.2).mono ?_
   rintro e w1 ⟨r, rfl, hr, hg1⟩
   exact ⟨r, rfl, kk_below hg1, hJ.gr hg1 _ _ _ (by simp), hr⟩
  ·have t1 := hfr 1 (by simp)
   have hb0 : BlkC 84 W w.heap.size [.int .i64 x, .int .i64 y, .int .i64 d] := hJ.kept (84, w.heap.size, [.int .i64 x, .int .i64 y, .int .i64 d]) (by simp)
   have x00 : W.cell? ⟨w.heap.size, 0, none⟩ = some (.int .i64 x) := by rw [hb0.cell 0]; rfl
   have x01 : W.cell? ⟨w.heap.size, 1, none⟩ = some (.int .i64 y) := by rw [hb0.cell 1]; rfl
   have x02 : W.cell? ⟨w.heap.size, 2, none⟩ = some (.int .i64 d) := by rw [hb0.cell 2]; rfl
   refine par_value (v := .agg #[.int .i64 x, .int .i64 y, .int .i64 d]) (w' := W) ?_ ⟨KK.refl _, hJ.same _ _ _ (by simp), rfl⟩
   simp [go_sem, Act.eval, t1, x00, x01, x02]
  ·have t9 : A.tmps.getD 9 undef = .agg #[.int .i64 x, .int .i64 y, .int .i64 d] := hdep 6 _ 9 rfl (by kernel_rfl) rfl
   refine par_call (w' := W) (f := 46) (xs := #[Value.agg #[.int .i64 x, .int .i64 y, .int .i64 d]]) (by simp [go_sem, Act.eval, t9]) ?_
   refine (under_any x y d _).mono ?_
   rintro e w1 ⟨rfl, hg1⟩
   exact ⟨_, rfl, kk_below hg1, hJ.gr hg1 _ _ _ (by simp), rfl⟩
  ·have t10 : A.tmps.getD 10 undef = .int .i64 ((und d : Nat) : Int) := hdep 7 _ 10 rfl (by kernel_rfl) rfl
   refine par_call (w' := W) (f := 47) (xs := #[Value.int IntKind.i64 ((und d : Nat) : Int)]) (by simp [go_sem, Act.eval, t10]) ?_
   refine (jOf_any ((und d : Nat) : Int) _ HU.out.1 HU.out.2).mono ?_
   rintro e w1 ⟨r, rfl, hr, hg1⟩
   exact ⟨r, rfl, kk_below hg1, hJ.gr hg1 _ _ _ (by simp), hr⟩
  ·have t5 : (fun W v => JIs W v x) W (A.tmps.getD 5 undef) := hdep 2 _ 5 rfl (by kernel_rfl) rfl
   have t8 : (fun W v => JIs W v y) W (A.tmps.getD 8 undef) := hdep 5 _ 8 rfl (by kernel_rfl) rfl
   have t11 : (fun W v => JIs W v ((und d : Nat) : Int)) W (A.tmps.getD 11 undef) := hdep 8 _ 11 rfl (by kernel_rfl) rfl
   obtain ⟨a1, c1, a2, c2, a3, c3, e1, e2, e3, hp⟩ := QIs.of t5 t8 t11
   refine par_value (v := .agg #[.int .i64 (x).sign, .slice a1 (Dec.limbs (x).natAbs).length c1, .int .i64 (y).sign, .slice a2 (Dec.limbs (y).natAbs).length c2, .int .i64 ((und d : Nat) : Int).sign, .slice a3 (Dec.limbs ((und d : Nat) : Int).natAbs).length c3]) (w' := W) ?_ ⟨KK.refl _, hJ.same _ _ _ (by simp), hp⟩
   have e1' : A.tmps[5]?.getD undef = _ := (Array.getD_eq_getD_getElem? ..).symm.trans e1
   have e2' : A.tmps[8]?.getD undef = _ := (Array.getD_eq_getD_getElem? ..).symm.trans e2
   have e3' : A.tmps[11]?.getD undef = _ := (Array.getD_eq_getD_getElem? ..).symm.trans e3
   simp [go_sem, Act.eval, e1', e2', e3']
  ·have t12 : (fun W v => QIs W v x y ((und d : Nat) : Int)) W (A.tmps.getD 12 undef) := hdep 9 _ 12 rfl (by kernel_rfl) rfl
   obtain ⟨g9, cs9, hp9, hb9, hk9⟩ := hJ.ahead (t0 := tgK 2 none 10 53 6 (fun W v => QIs W v x y ((und d : Nat) : Int)) kkq) (by simp) (fun j hj => by cases hj) hf
   obtain ⟨y0, y1, y2, y3, y4, y5, rfl⟩ := len6 hk9
   have hv8 := t12
   obtain ⟨a1, c1, a2, c2, a3, c3, e8, _⟩ := t12
   rw [e8] at hv8
   have hst : StK 53 W g9 _ [.int .i64 (x).sign, .slice a1 (Dec.limbs (x).natAbs).length c1, .int .i64 (y).sign, .slice a2 (Dec.limbs (y).natAbs).length c2, .int .i64 ((und d : Nat) : Int).sign, .slice a3 (Dec.limbs ((und d : Nat) : Int).natAbs).length c3] := (((((StK.one (T := 53) hb9 ⟨by decide, by decide⟩ 0 (.int .i64 (x).sign)).more ⟨by decide, by decide⟩ 1 (.slice a1 (Dec.limbs (x).natAbs).length c1)).more ⟨by decide, by decide⟩ 2 (.int .i64 (y).sign)).more ⟨by decide, by decide⟩ 3 (.slice a2 (Dec.limbs (y).natAbs).length c2)).more ⟨by decide, by decide⟩ 4 (.int .i64 ((und d : Nat) : Int).sign)).more ⟨by decide, by decide⟩ 5 (.slice a3 (Dec.limbs ((und d : Nat) : Int).natAbs).length c3)
   have hcell := hb9.cell
   have hfree := hb9.free
   refine par_skip ?_ ⟨hst.kk, hJ.put 10 undef (by simp) (fun j hj => by cases hj) rfl hp9 hst.gr hst.kk hst.bb (kkq _ _ _ hst.kk hv8) (by simp) (by simp), trivial⟩
   simp [go_sem, Act.eval, hp9, e8, hcell, hfree]
 ·intro vs W hJ hs
  obtain ⟨gA, csA, pA, _, bA, kA, _⟩ := hJ.at' (tgK 2 none 10 53 6 (fun W v => QIs W v x y ((und d : Nat) : Int)) kkq) (by simp) (fun j hj => by cases hj)
  have eA : gA = (w.heap.size + 1) := ptr_eq (by simpa [putAll, Act.put] using pA)
  subst eA
  have kA' : QIs W (.agg csA.toArray) x y ((und d : Nat) : Int) := kA
  obtain ⟨a1, c1, a2, c2, a3, c3, rfl⟩ := q_cs kA'
  have HB9 : Hid (BlkC 53 W (w.heap.size + 1) _) := bA
  have HR9 : Hid (QIs W (.agg _) x y ((und d : Nat) : Int)) := kA'
  have HL9 : Hid (Below w.heap.size w W) := hJ.b
  clear pA bA kA kA' hJ hs
  simp only [putAll, List.foldl_cons, List.foldl_nil, Act.put, List.setIfInBounds_toArray, List.set_cons_succ, List.set_cons_zero]
  go_wp2_with fail
  exact q_ret rfl rfl rfl HB9.out ⟨_, rfl, HR9.out, HL9.out⟩
theorem kkt {q : Rat} (w w' : World) (v : Value) (k : KK w w') : (∃ r, v = .tuple #[r, .int .i64 0] ∧ RIs w r q) → ∃ r, v = .tuple #[r, .int .i64 0] ∧ RIs w' r q := by
 rintro ⟨r, rfl, h⟩
 exact ⟨r, rfl, h.keep k.1⟩
theorem r_cs {w : World} {cs : List Value} {q : Rat} (h : RIs w (.agg cs.toArray) q) : ∃ (a : Option Addr) (n : Nat) (b : Bool) (c : Option Addr) (m : Nat) (d : Bool), cs = [.slice a n n, .bool b, .slice c m m, .bool d] := by
 obtain ⟨a, n, b, c, m, d, e⟩ := h.parts
 simp only [Value.agg.injEq] at e
 exact ⟨a, n, b, c, m, d, congrArg Array.toList e⟩
set_option maxHeartbeats 8000000 in
set_option maxRecDepth 100000 in
theorem pAt_any (x y d : Int) (w : World) (hx : Rng64 x) (hy : Rng64 y) :
  Calls Try.prog 26 #[.agg #[.int .i64 x, .int .i64 y, .int .i64 d]] w fun e w' => ∃ r, e = .returned r ∧ PIs w' r (Rat.divInt x ((und d : Nat) : Int)) (Rat.divInt y ((und d : Nat) : Int)) ∧ Below w.heap.size w w' := by
 have HX := Lib.hid hx
 have HY := Lib.hid hy
 have hup := und_pos d
 have HU : Hid (Rng64 ((und d : Nat) : Int)) := Lib.hid ⟨by omega, by omega⟩
 have HUN : Hid (((und d : Nat) : Int) ≠ 0) := Lib.hid (by omega)
 have HB1 : Hid (BlkC 84 (at1W w x y d).drew w.heap.size [.int .i64 x, .int .i64 y, .int .i64 d]) := at1W_1 w x y d
 have HB2 : Hid (BlkC 32 (at1W w x y d).drew (w.heap.size + 1) [.slice none 0 0, .bool false, .slice none 0 0, .bool false, .slice none 0 0, .bool false, .slice none 0 0, .bool false]) := at1W_2 w x y d
 have HG : Hid (Own w.heap.size w (at1W w x y d).drew) := (at1W_g w x y d).drew
 clear hx hy hup
 go_enter Try.func26, Try.ntmps26
 go_wp2_with fail
 refine region_kk (by kernel_rfl) (by kernel_rfl) rfl (KK) (fun | 0 => .is (.pointer (some ⟨w.heap.size, 0, none⟩)) | 1 => .is ((.int .i64 x)) | 2 => .is (.agg #[.int .i64 x, .int .i64 y, .int .i64 d]) | 3 => .is (.int .i64 ((und d : Nat) : Int)) | 4 => .p ((fun W v => ∃ r, v = .tuple #[r, .int .i64 0] ∧ RIs W r (Rat.divInt x ((und d : Nat) : Int)))) kkt | 5 => .p ((fun W v => ∃ r, v = .tuple #[r, .int .i64 0] ∧ RIs W r (Rat.divInt x ((und d : Nat) : Int)))) kkt | 6 => .p ((fun W v => RIs W v (Rat.divInt x ((und d : Nat) : Int)))) kkr | 7 => .is (.int .i64 0) | 8 => .any | 9 => .any | 10 => .is (.int .i64 0) | _ => .any) (MK w.heap.size w w [(84, w.heap.size, [.int .i64 x, .int .i64 y, .int .i64 d]), (32, w.heap.size + 1, [.slice none 0 0, .bool false, .slice none 0 0, .bool false, .slice none 0 0, .bool false, .slice none 0 0, .bool false])] [tgK 3 (some 8) 9 30 4 (fun W v => RIs W v (Rat.divInt x ((und d : Nat) : Int))) kkr]) (fun f g a w hn h => MK.ext (n := 11) (by simp) hn h) ?_ ?_ ?_
 ·refine ⟨HG.out.b, kk_below HG.out.b, HG.out.size, (by intro q hq; simp only [List.mem_cons, List.not_mem_nil, or_false] at hq; rcases hq with rfl | rfl; exact HB1.out; exact HB2.out), ?_, (by intro t u h1 h2 hd; simp only [List.mem_singleton] at h1 h2; subst h1; subst h2; exact absurd rfl hd)⟩
  intro t ht h
  simp only [List.mem_singleton] at ht
  subst ht
  exact absurd (h 8 rfl) (by simp)
 ·intro i o f A W hi hJ hf hdep hdn hcl hfr hsz
  rcases i with _ | _ | _ | _ | _ | _ | _ | _ | _ | _ | _ | i
  all_goals (simp at hi)
  all_goals (try subst hi)
  ·have t1 := hfr 1 (by simp)
   refine par_value (v := .pointer (some ⟨w.heap.size, 0, none⟩)) (w' := W) ?_ ⟨KK.refl _, hJ.same _ _ _ (by simp), rfl⟩
   simp [go_sem, Act.eval, t1]
  ·have t8 : A.tmps.getD 8 undef = .pointer (some ⟨w.heap.size, 0, none⟩) := hdep 0 _ 8 rfl (by kernel_rfl) rfl
   have hb0 : BlkC 84 W w.heap.size [.int .i64 x, .int .i64 y, .int .i64 d] := hJ.kept (84, w.heap.size, [.int .i64 x, .int .i64 y, .int .i64 d]) (by simp)
   have x00 : W.cell? ⟨w.heap.size, 0, none⟩ = some (.int .i64 x) := by rw [hb0.cell 0]; rfl
   have x01 : W.cell? ⟨w.heap.size, 1, none⟩ = some (.int .i64 y) := by rw [hb0.cell 1]; rfl
   have x02 : W.cell? ⟨w.heap.size, 2, none⟩ = some (.int .i64 d) := by rw [hb0.cell 2]; rfl
   refine par_value (v := (.int .i64 x)) (w' := W) ?_ ⟨KK.refl _, hJ.same _ _ _ (by simp), rfl⟩
   simp [go_sem, Act.eval, t8, x00]
  ·have t1 := hfr 1 (by simp)
   have hb0 : BlkC 84 W w.heap.size [.int .i64 x, .int .i64 y, .int .i64 d] := hJ.kept (84, w.heap.size, [.int .i64 x, .int .i64 y, .int .i64 d]) (by simp)
   have x00 : W.cell? ⟨w.heap.size, 0, none⟩ = some (.int .i64 x) := by rw [hb0.cell 0]; rfl
   have x01 : W.cell? ⟨w.heap.size, 1, none⟩ = some (.int .i64 y) := by rw [hb0.cell 1]; rfl
   have x02 : W.cell? ⟨w.heap.size, 2, none⟩ = some (.int .i64 d) := by rw [hb0.cell 2]; rfl
   refine par_value (v := .agg #[.int .i64 x, .int .i64 y, .int .i64 d]) (w' := W) ?_ ⟨KK.refl _, hJ.same _ _ _ (by simp), rfl⟩
   simp [go_sem, Act.eval, t1, x00, x01, x02]
  ·have t10 : A.tmps.getD 10 undef = .agg #[.int .i64 x, .int .i64 y, .int .i64 d] := hdep 2 _ 10 rfl (by kernel_rfl) rfl
   refine par_call (w' := W) (f := 46) (xs := #[Value.agg #[.int .i64 x, .int .i64 y, .int .i64 d]]) (by simp [go_sem, Act.eval, t10]) ?_
   refine (under_any x y d _).mono ?_
   rintro e w1 ⟨rfl, hg1⟩
   exact ⟨_, rfl, kk_below hg1, hJ.gr hg1 _ _ _ (by simp), rfl⟩
  ·have t9 : A.tmps.getD 9 undef = (.int .i64 x) := hdep 1 _ 9 rfl (by kernel_rfl) rfl
   have t11 : A.tmps.getD 11 undef = .int .i64 ((und d : Nat) : Int) := hdep 3 _ 11 rfl (by kernel_rfl) rfl
   refine par_call (w' := W) (f := 45) (xs := #[Value.int IntKind.i64 x, Value.int IntKind.i64 ((und d : Nat) : Int)]) (by simp [go_sem, Act.eval, t9, t11]) ?_
   refine (of_any x ((und d : Nat) : Int) _ HX.out.1 HX.out.2 HU.out.1 HU.out.2 HUN.out).mono ?_
   rintro e w1 ⟨r, rfl, hr, hg1⟩
   exact ⟨_, rfl, kk_below hg1, hJ.gr hg1 _ _ _ (by simp), ⟨r, rfl, hr⟩⟩
  ·have t12 : (fun W v => ∃ r, v = .tuple #[r, .int .i64 0] ∧ RIs W r (Rat.divInt x ((und d : Nat) : Int))) W (A.tmps.getD 12 undef) := hdep 4 _ 12 rfl (by kernel_rfl) rfl
   refine par_value (v := A.tmps.getD 12 undef) (w' := W) ?_ ⟨KK.refl _, hJ.same _ _ _ (by simp), t12⟩
   simp [go_sem, Act.eval]
  ·have t7 : (fun W v => ∃ r, v = .tuple #[r, .int .i64 0] ∧ RIs W r (Rat.divInt x ((und d : Nat) : Int))) W (A.tmps.getD 7 undef) := hdep 5 _ 7 rfl (by kernel_rfl) rfl
   obtain ⟨r0, e0, h0⟩ := t7
   refine par_value (v := r0) (w' := W) ?_ ⟨KK.refl _, hJ.same _ _ _ (by simp), h0⟩
   simp [go_sem, Act.eval, e0]
  ·have t7 : (fun W v => ∃ r, v = .tuple #[r, .int .i64 0] ∧ RIs W r (Rat.divInt x ((und d : Nat) : Int))) W (A.tmps.getD 7 undef) := hdep 5 _ 7 rfl (by kernel_rfl) rfl
   obtain ⟨r0, e0, h0⟩ := t7
   refine par_value (v := .int .i64 0) (w' := W) ?_ ⟨KK.refl _, hJ.same _ _ _ (by simp), rfl⟩
   simp [go_sem, Act.eval, e0]
  ·have hst : f 9 = false := by
    cases h : f 9 with
    | false => rfl
    | true => rw [hcl 9 _ 8 rfl h (by kernel_rfl)] at hf; cases hf
   refine par_value (v := .pointer (some ⟨W.heap.size, 0, none⟩)) (w' := W.alloc (.cells #[.slice none 0 0, .bool false, .slice none 0 0, .bool false] 30)) ?_ ⟨kk_alloc _ _, hJ.new (t0 := tgK 3 (some 8) 9 30 4 (fun W v => RIs W v (Rat.divInt x ((und d : Nat) : Int))) kkr) (cs := [.slice none 0 0, .bool false, .slice none 0 0, .bool false]) 8 (by simp) rfl (by rw [hsz]; simp) hst (by simp) (by simp) rfl, trivial⟩
   simp [go_sem]
  ·have t13 : (fun W v => RIs W v (Rat.divInt x ((und d : Nat) : Int))) W (A.tmps.getD 13 undef) := hdep 6 _ 13 rfl (by kernel_rfl) rfl
   obtain ⟨g9, cs9, hp9, hb9, hk9⟩ := hJ.ahead (t0 := tgK 3 (some 8) 9 30 4 (fun W v => RIs W v (Rat.divInt x ((und d : Nat) : Int))) kkr) (by simp) (fun j hj => by cases hj; exact hdn 8 (by kernel_rfl)) hf
   obtain ⟨y0, y1, y2, y3, rfl⟩ := len4 hk9
   obtain ⟨a8, n8, b8, a7, n7, b7, e8⟩ := t13.parts
   have hv8 := t13
   rw [e8] at hv8
   have hst : StK 30 W g9 _ [.slice a8 n8 n8, .bool b8, .slice a7 n7 n7, .bool b7] := (((StK.one (T := 30) hb9 ⟨by decide, by decide⟩ 0 (.slice a8 n8 n8)).more ⟨by decide, by decide⟩ 1 (.bool b8)).more ⟨by decide, by decide⟩ 2 (.slice a7 n7 n7)).more ⟨by decide, by decide⟩ 3 (.bool b7)
   have hcell := hb9.cell
   have hfree := hb9.free
   refine par_skip ?_ ⟨hst.kk, hJ.put 9 undef (by simp) (fun j hj => by cases hj; exact hdn 8 (by kernel_rfl)) rfl hp9 hst.gr hst.kk hst.bb (kkr _ _ _ hst.kk hv8) (by simp) (by simp), trivial⟩
   simp [go_sem, Act.eval, hp9, e8, hcell, hfree]
  ·have t14 : A.tmps.getD 14 undef = .int .i64 0 := hdep 7 _ 14 rfl (by kernel_rfl) rfl
   refine par_value (v := .int .i64 0) (w' := W) ?_ ⟨KK.refl _, hJ.same _ _ _ (by simp), rfl⟩
   simp [go_sem, Act.eval, t14]
 ·intro vs W hJ hs
  obtain ⟨gX, csA, pA, lA, bA, kA, kn⟩ := hJ.at' (tgK 3 (some 8) 9 30 4 (fun W v => RIs W v (Rat.divInt x ((und d : Nat) : Int))) kkr) (by simp) (fun j hj => by cases hj; rfl)
  have kA' : RIs W (.agg csA.toArray) (Rat.divInt x ((und d : Nat) : Int)) := kA
  obtain ⟨aX, nX, bX, cX, mX, dX, rfl⟩ := r_cs kA'
  have HB3 : Hid (BlkC 84 W.drew w.heap.size [.int .i64 x, .int .i64 y, .int .i64 d]) := hJ.kept (84, w.heap.size, [.int .i64 x, .int .i64 y, .int .i64 d]) (by simp)
  have HB4 : Hid (BlkC 32 W.drew (w.heap.size + 1) [.slice none 0 0, .bool false, .slice none 0 0, .bool false, .slice none 0 0, .bool false, .slice none 0 0, .bool false]) := hJ.kept (32, w.heap.size + 1, [.slice none 0 0, .bool false, .slice none 0 0, .bool false, .slice none 0 0, .bool false, .slice none 0 0, .bool false]) (by simp)
  have HB5 : Hid (BlkC 30 W.drew gX [.slice aX nX nX, .bool bX, .slice cX mX mX, .bool dX]) := bA
  have HRX : Hid (RIs W (.agg #[.slice aX nX nX, .bool bX, .slice cX mX mX, .bool dX]) (Rat.divInt x ((und d : Nat) : Int))) := kA'
  have HG1 : Hid (Below w.heap.size w W) := hJ.b
  have hp3 : vs 3 = .pointer (some ⟨gX, 0, none⟩) := by simpa [putAll, Act.put] using pA
  have hp4 : vs 4 = .int .i64 0 := hs 10 _ _ rfl rfl
  clear pA bA kA kA' hJ hs kn lA
  simp only [putAll, List.foldl_cons, List.foldl_nil, Act.put, List.setIfInBounds_toArray, List.set_cons_succ, List.set_cons_zero]
  rw [hp3]
  generalize hW0 : W = W0 at *
  clear hW0 HB1 HB2 HG
  go_wp2_with fail
  refine region_kk (by kernel_rfl) (by kernel_rfl) rfl (KK) (fun | 0 => .is (.pointer (some ⟨w.heap.size, 1, none⟩)) | 1 => .is ((.int .i64 y)) | 2 => .is (.agg #[.int .i64 x, .int .i64 y, .int .i64 d]) | 3 => .is (.int .i64 ((und d : Nat) : Int)) | 4 => .p ((fun W v => ∃ r, v = .tuple #[r, .int .i64 0] ∧ RIs W r (Rat.divInt y ((und d : Nat) : Int)))) kkt | 5 => .p ((fun W v => ∃ r, v = .tuple #[r, .int .i64 0] ∧ RIs W r (Rat.divInt y ((und d : Nat) : Int)))) kkt | 6 => .p ((fun W v => RIs W v (Rat.divInt y ((und d : Nat) : Int)))) kkr | 7 => .is (.int .i64 0) | 8 => .any | 9 => .any | 10 => .is (.int .i64 0) | _ => .any) (MK w.heap.size w W0 [(84, w.heap.size, [.int .i64 x, .int .i64 y, .int .i64 d]), (32, w.heap.size + 1, [.slice none 0 0, .bool false, .slice none 0 0, .bool false, .slice none 0 0, .bool false, .slice none 0 0, .bool false]), (30, gX, [.slice aX nX nX, .bool bX, .slice cX mX mX, .bool dX])] [tgK 5 (some 8) 9 30 4 (fun W v => RIs W v (Rat.divInt y ((und d : Nat) : Int))) kkr]) (fun f g a w hn h => MK.ext (n := 11) (by simp) hn h) ?_ ?_ ?_
  ·refine ⟨HG1.out.drew, ⟨fun _ _ h => h, fun _ _ h => h⟩, HG1.out.size, (by intro q hq; simp only [List.mem_cons, List.not_mem_nil, or_false] at hq; rcases hq with rfl | rfl | rfl; exact HB3.out; exact HB4.out; exact HB5.out), ?_, (by intro t u h1 h2 hd; simp only [List.mem_singleton] at h1 h2; subst h1; subst h2; exact absurd rfl hd)⟩
   intro t ht h
   simp only [List.mem_singleton] at ht
   subst ht
   exact absurd (h 8 rfl) (by simp)
  ·intro i o f A W hi hJ hf hdep hdn hcl hfr hsz
   rcases i with _ | _ | _ | _ | _ | _ | _ | _ | _ | _ | _ | i
   all_goals (simp at hi)
   all_goals (try subst hi)
   ·have t1 := hfr 1 (by simp)
    refine par_value (v := .pointer (some ⟨w.heap.size, 1, none⟩)) (w' := W) ?_ ⟨KK.refl _, hJ.same _ _ _ (by simp), rfl⟩
    simp [go_sem, Act.eval, t1]
   ·have t16 : A.tmps.getD 16 undef = .pointer (some ⟨w.heap.size, 1, none⟩) := hdep 0 _ 16 rfl (by kernel_rfl) rfl
    have hb0 : BlkC 84 W w.heap.size [.int .i64 x, .int .i64 y, .int .i64 d] := hJ.kept (84, w.heap.size, [.int .i64 x, .int .i64 y, .int .i64 d]) (by simp)
    have x00 : W.cell? ⟨w.heap.size, 0, none⟩ = some (.int .i64 x) := by rw [hb0.cell 0]; rfl
    have x01 : W.cell? ⟨w.heap.size, 1, none⟩ = some (.int .i64 y) := by rw [hb0.cell 1]; rfl
    have x02 : W.cell? ⟨w.heap.size, 2, none⟩ = some (.int .i64 d) := by rw [hb0.cell 2]; rfl
    refine par_value (v := (.int .i64 y)) (w' := W) ?_ ⟨KK.refl _, hJ.same _ _ _ (by simp), rfl⟩
    simp [go_sem, Act.eval, t16, x01]
   ·have t1 := hfr 1 (by simp)
    have hb0 : BlkC 84 W w.heap.size [.int .i64 x, .int .i64 y, .int .i64 d] := hJ.kept (84, w.heap.size, [.int .i64 x, .int .i64 y, .int .i64 d]) (by simp)
    have x00 : W.cell? ⟨w.heap.size, 0, none⟩ = some (.int .i64 x) := by rw [hb0.cell 0]; rfl
    have x01 : W.cell? ⟨w.heap.size, 1, none⟩ = some (.int .i64 y) := by rw [hb0.cell 1]; rfl
    have x02 : W.cell? ⟨w.heap.size, 2, none⟩ = some (.int .i64 d) := by rw [hb0.cell 2]; rfl
    refine par_value (v := .agg #[.int .i64 x, .int .i64 y, .int .i64 d]) (w' := W) ?_ ⟨KK.refl _, hJ.same _ _ _ (by simp), rfl⟩
    simp [go_sem, Act.eval, t1, x00, x01, x02]
   ·have t18 : A.tmps.getD 18 undef = .agg #[.int .i64 x, .int .i64 y, .int .i64 d] := hdep 2 _ 18 rfl (by kernel_rfl) rfl
    refine par_call (w' := W) (f := 46) (xs := #[Value.agg #[.int .i64 x, .int .i64 y, .int .i64 d]]) (by simp [go_sem, Act.eval, t18]) ?_
    refine (under_any x y d _).mono ?_
    rintro e w1 ⟨rfl, hg1⟩
    exact ⟨_, rfl, kk_below hg1, hJ.gr hg1 _ _ _ (by simp), rfl⟩
   ·have t17 : A.tmps.getD 17 undef = (.int .i64 y) := hdep 1 _ 17 rfl (by kernel_rfl) rfl
    have t19 : A.tmps.getD 19 undef = .int .i64 ((und d : Nat) : Int) := hdep 3 _ 19 rfl (by kernel_rfl) rfl
    refine par_call (w' := W) (f := 45) (xs := #[Value.int IntKind.i64 y, Value.int IntKind.i64 ((und d : Nat) : Int)]) (by simp [go_sem, Act.eval, t17, t19]) ?_
    refine (of_any y ((und d : Nat) : Int) _ HY.out.1 HY.out.2 HU.out.1 HU.out.2 HUN.out).mono ?_
    rintro e w1 ⟨r, rfl, hr, hg1⟩
    exact ⟨_, rfl, kk_below hg1, hJ.gr hg1 _ _ _ (by simp), ⟨r, rfl, hr⟩⟩
   ·have t20 : (fun W v => ∃ r, v = .tuple #[r, .int .i64 0] ∧ RIs W r (Rat.divInt y ((und d : Nat) : Int))) W (A.tmps.getD 20 undef) := hdep 4 _ 20 rfl (by kernel_rfl) rfl
    refine par_value (v := A.tmps.getD 20 undef) (w' := W) ?_ ⟨KK.refl _, hJ.same _ _ _ (by simp), t20⟩
    simp [go_sem, Act.eval]
   ·have t15 : (fun W v => ∃ r, v = .tuple #[r, .int .i64 0] ∧ RIs W r (Rat.divInt y ((und d : Nat) : Int))) W (A.tmps.getD 15 undef) := hdep 5 _ 15 rfl (by kernel_rfl) rfl
    obtain ⟨r0, e0, h0⟩ := t15
    refine par_value (v := r0) (w' := W) ?_ ⟨KK.refl _, hJ.same _ _ _ (by simp), h0⟩
    simp [go_sem, Act.eval, e0]
   ·have t15 : (fun W v => ∃ r, v = .tuple #[r, .int .i64 0] ∧ RIs W r (Rat.divInt y ((und d : Nat) : Int))) W (A.tmps.getD 15 undef) := hdep 5 _ 15 rfl (by kernel_rfl) rfl
    obtain ⟨r0, e0, h0⟩ := t15
    refine par_value (v := .int .i64 0) (w' := W) ?_ ⟨KK.refl _, hJ.same _ _ _ (by simp), rfl⟩
    simp [go_sem, Act.eval, e0]
   ·have hst : f 9 = false := by
     cases h : f 9 with
     | false => rfl
     | true => rw [hcl 9 _ 8 rfl h (by kernel_rfl)] at hf; cases hf
    refine par_value (v := .pointer (some ⟨W.heap.size, 0, none⟩)) (w' := W.alloc (.cells #[.slice none 0 0, .bool false, .slice none 0 0, .bool false] 30)) ?_ ⟨kk_alloc _ _, hJ.new (t0 := tgK 5 (some 8) 9 30 4 (fun W v => RIs W v (Rat.divInt y ((und d : Nat) : Int))) kkr) (cs := [.slice none 0 0, .bool false, .slice none 0 0, .bool false]) 8 (by simp) rfl (by rw [hsz]; simp) hst (by simp) (by simp) rfl, trivial⟩
    simp [go_sem]
   ·have t21 : (fun W v => RIs W v (Rat.divInt y ((und d : Nat) : Int))) W (A.tmps.getD 21 undef) := hdep 6 _ 21 rfl (by kernel_rfl) rfl
    obtain ⟨g9, cs9, hp9, hb9, hk9⟩ := hJ.ahead (t0 := tgK 5 (some 8) 9 30 4 (fun W v => RIs W v (Rat.divInt y ((und d : Nat) : Int))) kkr) (by simp) (fun j hj => by cases hj; exact hdn 8 (by kernel_rfl)) hf
    obtain ⟨y0, y1, y2, y3, rfl⟩ := len4 hk9
    obtain ⟨a8, n8, b8, a7, n7, b7, e8⟩ := t21.parts
    have hv8 := t21
    rw [e8] at hv8
    have hst : StK 30 W g9 _ [.slice a8 n8 n8, .bool b8, .slice a7 n7 n7, .bool b7] := (((StK.one (T := 30) hb9 ⟨by decide, by decide⟩ 0 (.slice a8 n8 n8)).more ⟨by decide, by decide⟩ 1 (.bool b8)).more ⟨by decide, by decide⟩ 2 (.slice a7 n7 n7)).more ⟨by decide, by decide⟩ 3 (.bool b7)
    have hcell := hb9.cell
    have hfree := hb9.free
    refine par_skip ?_ ⟨hst.kk, hJ.put 9 undef (by simp) (fun j hj => by cases hj; exact hdn 8 (by kernel_rfl)) rfl hp9 hst.gr hst.kk hst.bb (kkr _ _ _ hst.kk hv8) (by simp) (by simp), trivial⟩
    simp [go_sem, Act.eval, hp9, e8, hcell, hfree]
   ·have t22 : A.tmps.getD 22 undef = .int .i64 0 := hdep 7 _ 22 rfl (by kernel_rfl) rfl
    refine par_value (v := .int .i64 0) (w' := W) ?_ ⟨KK.refl _, hJ.same _ _ _ (by simp), rfl⟩
    simp [go_sem, Act.eval, t22]
  ·intro vs W hJ hs
   obtain ⟨gA, csA, pA, lA, bA, kA, _⟩ := hJ.at' (tgK 5 (some 8) 9 30 4 (fun W v => RIs W v (Rat.divInt y ((und d : Nat) : Int))) kkr) (by simp) (fun j hj => by cases hj; rfl)
   have kA' : RIs W (.agg csA.toArray) (Rat.divInt y ((und d : Nat) : Int)) := kA
   have hb0 : BlkC 84 W w.heap.size [.int .i64 x, .int .i64 y, .int .i64 d] := hJ.kept (84, w.heap.size, [.int .i64 x, .int .i64 y, .int .i64 d]) (by simp)
   have HB7 : Hid (BlkC 32 W (w.heap.size + 1) [.slice none 0 0, .bool false, .slice none 0 0, .bool false, .slice none 0 0, .bool false, .slice none 0 0, .bool false]) := hJ.kept (32, w.heap.size + 1, [.slice none 0 0, .bool false, .slice none 0 0, .bool false, .slice none 0 0, .bool false, .slice none 0 0, .bool false]) (by simp)
   have HB8 : Hid (BlkC 30 W gX [.slice aX nX nX, .bool bX, .slice cX mX mX, .bool dX]) := hJ.kept (30, gX, [.slice aX nX nX, .bool bX, .slice cX mX mX, .bool dX]) (by simp)
   obtain ⟨a8, n8, b8, a7, n7, b7, rfl⟩ := r_cs kA'
   have HB9 : Hid (BlkC 30 W gA [.slice a8 n8 n8, .bool b8, .slice a7 n7 n7, .bool b7]) := bA
   have HR9 : Hid (RIs W (.agg #[.slice a8 n8 n8, .bool b8, .slice a7 n7 n7, .bool b7]) (Rat.divInt y ((und d : Nat) : Int))) := kA'
   have HR8 : Hid (RIs W (.agg #[.slice aX nX nX, .bool bX, .slice cX mX mX, .bool dX]) (Rat.divInt x ((und d : Nat) : Int))) := kkr _ _ _ hJ.k HRX.out
   have HL9 : Hid (Below w.heap.size w W) := hJ.b
   obtain ⟨PV, hPV⟩ : ∃ p, p = vs 5 := ⟨_, rfl⟩
   have hp5 : vs 5 = .pointer (some ⟨gA, 0, none⟩) := by simpa [putAll, Act.put] using pA
   clear pA bA kA kA' hJ hs hb0
   simp only [putAll, List.foldl_cons, List.foldl_nil, Act.put, List.setIfInBounds_toArray, List.set_cons_succ, List.set_cons_zero]
   rw [hp5]
   obtain ⟨c0, c1, c2, c3⟩ := blk4 HB8.out
   obtain ⟨d0, d1, d2, d3⟩ := blk4 HB9.out
   obtain ⟨e0, e1, e2, e3, e4, e5, e6, e7⟩ := blk8 HB7.out
   obtain ⟨f0, f1, f2, f3, f4, f5, f6, f7⟩ := blk8f HB7.out
   have lt7 := HB7.out.lt
   have HS := Lib.hid (set8_all (T := 32) HB7.out (by decide) (.slice aX nX nX) (.bool bX) (.slice cX mX mX) (.bool dX) (.slice a8 n8 n8) (.bool b8) (.slice a7 n7 n7) (.bool b7))
   have HPT : Hid (PIs W (.agg #[.slice aX nX nX, .bool bX, .slice cX mX mX, .bool dX, .slice a8 n8 n8, .bool b8, .slice a7 n7 n7, .bool b7]) (Rat.divInt x ((und d : Nat) : Int)) (Rat.divInt y ((und d : Nat) : Int))) := ⟨aX, nX, bX, cX, mX, dX, a8, n8, b8, a7, n7, b7, rfl, HR8.out, HR9.out⟩
   go_wp2_with fail
   exact p_ret rfl rfl rfl HS.out.2.2 ⟨_, rfl, PIs.keep _ _ _ HS.out.2.1 HPT.out, HL9.out.grown HS.out.1 HL9.out.size (fun k hk => by cases hk; omega)⟩
end Go.Proofs.Ytnojfiokdhcbjaa
