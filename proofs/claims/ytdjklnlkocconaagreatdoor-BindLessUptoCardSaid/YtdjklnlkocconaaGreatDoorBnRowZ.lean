/-
  Rows of statements put together out of an argument's row: a statement left out, one twice.
-/
import Derived.Test.YtdjklnlkocconaaGreatDoorBnVZ
import Derived.Test.YtdjklnlkocconaaGreatDoorOwnZ
import Derived.Deep.RegionHeld3
import Derived.IntWalk
namespace Go.Proofs.YtdjklnlkocconaaGreatDoor
open Go Go.RowKit

theorem StRow.drop {ok : Nat → Prop} {w : World} : ∀ {l : List St} {cs : List Value} (n : Nat), StRow ok w l cs → StRow ok w (l.drop n) (cs.drop (n * 13))
  | [], _, n, h => by rw [show _ = [] from h]; simp [StRow]
  | x :: l, cs, 0, h => by simpa using h
  | x :: l, _, n + 1, ⟨A, B, rest, h1, h2, h3, h4⟩ => by
    rw [h1, show (n + 1) * 13 = (stCells x A B).length + n * 13 by rw [stCells_length]; omega, List.drop_length_add_append]
    exact StRow.drop n h4

/-- The cells of an argument's row. -/
theorem sts_cells {w : World} {a : Option Addr} {n c : Nat} {l : List St} (h : StsIs w (.slice a n c) l) (hl : l.length = n) (hn : 0 < n) : ∃ g o cs, a = some ⟨g, o, none⟩ ∧ g < w.heap.size ∧ cs.length = n * 13 ∧ (∀ u ∈ cs, u.oneCell' = true) ∧ StRow Any w l cs ∧ ∀ j u, cs[j]? = some u → w.cell? ⟨g, o + j, none⟩ = some u := by
  subst hl
  obtain ⟨_, a', c', e, h2⟩ := h
  cases e
  rcases h2 with rfl | ⟨g, o, rfl, hg, cs, hc, hr⟩
  · exact absurd hn (Nat.lt_irrefl 0)
  · exact ⟨g, o, cs, rfl, hg, hr.length, hr.one, hr, hc⟩

/-- 'append(own, xs...)' as one step of a region that draws. -/
theorem step_append_g {P : Program} {w : World} {ops : Array Oper} {o : Oper} {a : Act} {K : Act → World → Prop} {Q : Exit → Act → World → Prop} {E : Prop} (hgd : o.guard = none) (s x : Operand) (t : TypeId)
    (ho : o.op = .call { callee := .builtin .append, args := #[s, x], argTypes := #[t, t] })
    (base : Nat) (e : TypeId) (i : TypeInfo) (z : Value) (size bytes : Nat) (ht : P.underlying t = some (.slice e)) (hi : P.info? e = some i) (hz : i.zero = some z)
    (hsize : i.size = size) (hby : i.bytes = bytes) (hzs : z.cells.size = size) (hsz : 0 < size)
    (v : Value) (n : Nat) (xs : List Value) (hs : a.eval s = v) (hown : w.ownsRow base e size v n xs)
    (ad : Addr) (m c : Nat) (news : List Value) (hx : a.eval x = .slice (some ad) m c) (hc : ∀ j u, news[j]? = some u → w.cell? (ad.add j) = some u) (hl : news.length = m * size) (h1 : ∀ u ∈ news, u.oneCell' = true)
    (h63 : n + m ≤ maxLen) (hbytes : (n + m) * bytes ≤ 140737488355328) (hbase : base ≤ w.heap.size)
    (h : ∀ v' w', w'.ownsRow base e size v' (n + m) (xs ++ news) → w.grownBy w' v.ownBlock → K (a.put o.dst v') w') :
    if Region.wanted o (yielded ops a.tmps) = true then Oper.wp P o a w K Q else E := by
  have hw : Region.wanted o (yielded ops a.tmps) = true := by simp [Region.wanted, hgd]
  rw [if_pos hw]
  exact wp_append_own w s x t ho base e i z size bytes ht hi hz hsize hby hzs hsz v n xs hs hown ad m c news hx hl hc h1 h63 hbytes hbase fun v' w' h2 h3 _ => h v' w' h2 h3

/-- What bind.Check asks of statements: it holds of some of them, too. -/
structure ChkOk (l : List St) : Prop where
  prints : Prints l
  names : ∀ x ∈ l, x.name.length ≤ maxLen ∧ ∀ u ∈ usesSt x, u.1.length ≤ maxLen
  uses : ∀ x ∈ l, (usesSt x).length ≤ 4000000
theorem BindOk.chk {l : List St} {v : Value} (h : BindOk l v) : ChkOk l := ⟨h.prints, h.names, h.uses⟩
theorem ChkOk.sub {l m : List St} (h : ChkOk l) (hs : ∀ x ∈ m, x ∈ l) : ChkOk m := ⟨⟨fun x hx => h.prints.1 x (hs x hx), fun x hx => h.prints.2 x (hs x hx)⟩, fun x hx => h.names x (hs x hx), fun x hx => h.uses x (hs x hx)⟩
theorem ChkOk.check {l : List St} (h : ChkOk l) {v : Value} {w : World} (hs : StsIs w v l) (hg : Good w) {i k : Int} (hc : checkS l = (i, k)) : Calls Tryz.prog 9 #[v] w fun e w' => e = .returned (.tuple #[.int .i64 i, .int .i64 k]) ∧ Below w.heap.size w w' := by
  have := bcheck_any l v w h.prints h.names h.uses hs hg
  rw [hc] at this
  exact this

/-- Does one of the first i lean on k? -/
def leansB (l : List St) (k i : Nat) : Bool := (List.range i).any fun q => (needsS l q).contains k
theorem leansB_step (l : List St) (k i : Nat) : leansB l k (i + 1) = (leansB l k i || (needsS l i).contains k) := by
  rw [leansB, List.range_succ, List.any_append]
  simp [leansB]
theorem leansB_iff (l : List St) (k i : Nat) : leansB l k i = true ↔ ∃ q, q < i ∧ k ∈ needsS l q := by
  rw [leansB, List.any_eq_true]
  simp
theorem without_bool {l : List St} (hf : ∀ x, fitB x = true → 1 ≤ x.kind ∧ x.kind ≤ 5) (h : (checkS l).2 = 0) {k : Nat} (hk : k < l.length) : ((checkS (l.take k ++ l.drop (k + 1))).2 == 0) = !leansB l k l.length := by
  have h1 := without_iff hf h hk
  rw [← leansB_iff] at h1
  cases hb : leansB l k l.length with
  | true =>
    rw [hb] at h1
    have : (checkS (l.take k ++ l.drop (k + 1))).2 ≠ 0 := fun e => (h1.1 e) rfl
    simpa using this
  | false =>
    rw [hb] at h1
    simpa using h1.2 (by simp)

/-- Where l[k+1:] lies. -/
theorem slice_from (g o n c k : Nat) (hk : k < n) (hn : n ≤ c) : ∃ ad, (∀ w' : World, (Instr.slice 22 (.slice (some ⟨g, o, none⟩) n c) (some (.int .i64 ((k : Int) + 1))) none none).run Tryz.prog w' = .ok (.slice (some ad) (n - (k + 1)) (c - (k + 1))) w') ∧ (k + 1 < n → ad = ⟨g, o + (k + 1) * 13, none⟩) := by
  have hun : Tryz.prog.underlying 22 = some (.slice (Tryz.prog.elem 22)) := by kernel_rfl
  have hsz : ∀ w' : World, (sizeOf (Tryz.prog.elem 22)).run Tryz.prog w' = .ok 13 w' := fun _ => by kernel_rfl
  have hnat : ((k : Int) + 1).toNat = k + 1 := by omega
  by_cases hc : c = k + 1
  · refine ⟨⟨g, o, none⟩, fun w' => ?_, fun h => absurd h (by omega)⟩
    rw [run_slice_l (ht := hun) (h0 := by omega) (h1 := by omega), hsz, hnat]
    show Result.ok (sliced _ _ _ _ _) w' = _
    unfold sliced
    rw [if_pos hc]
  · refine ⟨⟨g, o + (k + 1) * 13, none⟩, fun w' => ?_, fun _ => rfl⟩
    rw [run_slice_l (ht := hun) (h0 := by omega) (h1 := by omega), hsz, hnat]
    show Result.ok (sliced _ _ _ _ _) w' = _
    unfold sliced
    rw [if_neg hc]
    show Result.ok (Value.slice (some ((⟨g, o, none⟩ : Addr).add ((k + 1) * 13))) _ _) w' = _
    rw [add_none]
end Go.Proofs.YtdjklnlkocconaaGreatDoor
