/-
  SweepFinds returns true for every input; each argument reads behind the call as it read before. No condition.
-/
import Derived.Test.YtnojfiokdhcbjaaRows
import Derived.Test.YtnojfiokdhcbjaaSyD
import Derived.Test.YtnojfiokdhcbjaaBxD
import Derived.Test.YtnojfiokdhcbjaaPtA
import Derived.Test.YtnojfiokdhcbjaaPrt
import Derived.Test.YtnojfiokdhcbjaaSegA
import Derived.WalkKit
import Derived.ProofKit
namespace Go.Proofs.Ytnojfiokdhcbjaa
open Go Go.ChangeShapes Go.WideShapes Go.ChangeAt Go.RowKit
theorem Try.own : ownKnob Try.prog.godebug = none := by kernel_rfl
theorem Try.laidOutAll : laidOutB Try.prog = true := by kernel_rfl
theorem trodAll_below {P : Program} (hL : laidOutB P = true) {H : Type} {enc : TypeId × Value → H} {W W' : World} (hb : Below W.heap.size W W') : ∀ {ts : List TypeId} {vs : List Value} {ds : List (DataW H)} {ps : List MemPlace},
  (ts.all fun t => P.readableRec t && decide (t < P.types.size)) = true → DataW.TrodAll enc P W 0 (fun _ => true) true ts vs ds ps → (∀ x ∈ ps, x.block < W.heap.size) →
  DataW.TrodAll enc P W' 0 (fun b => decide (b < W.heap.size)) true ts vs ds ps := by
 intro ts
 induction ts with
 | nil =>
  intro vs ds ps _ h _
  cases vs <;> cases ds <;> simp_all [DataW.TrodAll]
 | cons t ts ih =>
  intro vs ds ps hr h hlt
  obtain ⟨v, vs', d, ds', p, q, rfl, rfl, rfl, h1, h2⟩ := trodAll_cons h
  simp only [List.all_cons, Bool.and_eq_true, decide_eq_true_eq] at hr
  exact ⟨p, q, Below.trod hL hr.1.1 hr.1.2 h1 hb (fun x hx => hlt x (List.mem_append.2 (.inl hx))),
   ih (by simpa using hr.2) h2 (fun x hx => hlt x (List.mem_append.2 (.inr hx))), rfl⟩
theorem post_true {H : Type} {enc : TypeId × Value → H} {f : Func} {s : ChangeSpec} {W W' : World} {args : Array Value} {ds : List (DataW H)} {before : List MemPlace}
  (hW : DataW.Whole enc Try.prog f.params.toList s.vars false W args.toList ds [] before) (hb : Below W.heap.size W W') (hvars : s.vars = [])
  (hspec : s.fn H (ds ++ []) = { results := [.lit (.bool true)], args := ds }) (hres : f.resultTypes = #[4])
  (hread : (f.params.toList.all fun t => Try.prog.readableRec t && decide (t < Try.prog.types.size)) = true) :
  s.post enc Try.prog f false true false false W args (.bool true) W' := by
 have hlt := hW.lt
 have hW' := hW
 obtain ⟨p, q, hA, hV, rfl, hfz, hnd⟩ := hW
 rw [hvars] at hV
 have hq : q = [] := hV
 subst hq
 refine ⟨ds, [], _, [], p, [], hW', ?_, ?_, ?_, hb.frame _, fun h => by cases h⟩
 ·rw [hspec, hres]
  exact trodAll_mk1 (shut_bool Try.underlying4 true)
 ·rw [hspec]
  exact trodAll_below Try.laidOutAll hb hread hA (fun x hx => hlt x (by simpa using hx))
 ·rw [hspec, hvars]
  rfl
end Go.Proofs.Ytnojfiokdhcbjaa
namespace Go.Proofs.Ytnojfiokdhcbjaa
open Go Go.RowKit
def sg0 : Sg := ⟨0, 0, 0, 0⟩
def segE (l : List Sg) (s : Nat) : Nat → List Cell := fun i => qsC [((l.getD i sg0).ax, s), ((l.getD i sg0).ay, s), ((l.getD i sg0).cx, s), ((l.getD i sg0).cy, s)]
def pairE (l : List (Nat × Nat)) : Nat → List Cell := fun i => [.v (.int .i64 (((l.getD i (0, 0)).1 : Nat) : Int)), .v (.int .i64 (((l.getD i (0, 0)).2 : Nat) : Int))]
def restC : Code → Code
 | .seq _ c => c
 | c => c
def knownC : Run := pureC fun avs => match avs with
 | [] => some (.s false [.t], [])
 | _ => none
def gW : List (Nat × Run) := [(9, knownC), (13, runC gridS), (14, runC nearS), (16, mulC), (15, cmpC)]
def befP (i k : Nat) (p : Nat × Nat) : Bool := decide (p.1 < i) || (decide (p.1 = i) && decide (p.2 < k))
def cntP (X : List (Nat × Nat)) (i k : Nat) : Nat := (X.filter (befP i k)).length
def slotsF (A B : List Sg) (X : List (Nat × Nat)) (d : Int) : List (Nat × AV) := [(2, .s false [.v (.int .i64 d)]), (7, .s false [.row 16 A.length (segE A 1000)]), (9, .s false [.row 16 B.length (segE B 1000)]), (11, .s false [.row 2 X.length (pairE X)]), (12, .s false [.v (.int .i64 0)])]
def o_inv (A B : List Sg) (X : List (Nat × Nat)) (d : Int) : LInv := ⟨Nat, fun i => i ≤ A.length, fun i => ⟨slotsF A B X d ++ [(13, .s false [.v (.int .i64 (cntP X i 0))]), (14, .s false [.v (.int .i64 i)])], []⟩, fun i => A.length - i, [], [], none⟩
def i_inv (A B : List Sg) (X : List (Nat × Nat)) (d : Int) : LInv := ⟨Nat × Nat, fun p => p.1 < A.length ∧ p.2 ≤ B.length, fun p => ⟨slotsF A B X d ++ [(13, .s false [.v (.int .i64 (cntP X p.1 p.2))]), (14, .s false [.v (.int .i64 p.1)]), (15, .s false [.v (.int .i64 p.2)])], []⟩, fun p => B.length - p.2, [], [], some fun p => p.1⟩
theorem finds_vc (A B : List Sg) (X : List (Nat × Nat)) (d : Int) : vc Try.prog (lk gW) Try.f6.ntmps [(8, o_inv A B X d), (11, i_inv A B X d)] (restC (restC (restC (restC (restC (Try.f6.body.getD .skip)))))) (⟨slotsF A B X d, []⟩) (retVC Try.prog Try.f6.results.toList (.s false [.v (.bool true)])) = (let k5 := fun (zz : Nat × Nat) => (↑(cntP X (Prod.fst zz) (Prod.snd zz)) : Int); let k7 := AV.s false [Cell.row 16 (List.length A) (segE A 1000)]; let k8 := AV.s false [Cell.row 16 (List.length B) (segE B 1000)]; let k9 := AV.s false [Cell.row 2 (List.length X) (pairE X)]; let k10 := AV.s false [Cell.v (Value.int IntKind.i64 d)]; let k13 := fun (zz : Nat × Nat) => (AV.s false [Cell.v (Value.int IntKind.i64 (k5 zz))]); let k16 := AV.s false [Cell.v (Value.bool true)]; let k17 := (↑(List.length X) : Int); let k18 := (0 : Int); let k19 := qsC [((↑d : Rat), 3)]; let k20 := fun (zz : Nat × Nat) => (↑(Prod.snd zz) : Int); let k21 := (↑(List.length A) : Int); let k22 := (↑(List.length B) : Int); let k23 := qsC [((↑d : Rat) * (↑d : Rat), 6)]; let k24 := fun (zz : Nat × Nat) => (AV.s false [Cell.v (Value.int IntKind.i64 (IntKind.wrap IntKind.i64 ((k5 zz) + (1 : Int))))]); let k25 := fun (zz : Nat × Nat) => (↑(Prod.fst zz) : Int); let k26 := AV.s false [Cell.f]; let k27 := fun (zz : Nat) => (AV.s false [Cell.v (Value.int IntKind.i64 (↑(cntP X zz 0) : Int))]); let k28 := k18 == k18; let k29 := fun (zz : Nat) => (AV.s false [Cell.v (Value.int IntKind.i64 (↑zz : Int))]); let k1 := fun (zz : Nat × Nat) => ((↑(Prod.fst (List.getD X (Int.toNat (k5 zz)) (0, 0))) : Int) == (k25 zz) && (↑(Prod.snd (List.getD X (Int.toNat (k5 zz)) (0, 0))) : Int) == (k20 zz)); let k2 := fun (zz : Nat × Nat) => (List.getD A (Int.toNat (k25 zz)) sg0); let k3 := fun (zz : Nat × Nat) => (List.getD B (Int.toNat (k20 zz)) sg0); let k4 := AV.s false [Cell.v (Value.int IntKind.i64 k18)]; let k6 := fun (zz : Nat × Nat) => (AV.s false [Cell.v (Value.int IntKind.i64 (IntKind.wrap IntKind.i64 ((k20 zz) + (1 : Int))))]); let k11 := fun (zz : Nat × Nat) => (AV.s false [Cell.v (Value.int IntKind.i64 (k25 zz))]); let k12 := fun (zz : Nat × Nat) => (qsC [(nearP (Sg.ax (k2 zz)) (Sg.ay (k2 zz)) (Sg.cx (k2 zz)) (Sg.cy (k2 zz)) (Sg.ax (k3 zz)) (Sg.ay (k3 zz)) (Sg.cx (k3 zz)) (Sg.cy (k3 zz)), 24015)]); let k14 := fun (zz : Nat × Nat) => (qsC [(Sg.ax (k2 zz), 1000), (Sg.ay (k2 zz), 1000), (Sg.cx (k2 zz), 1000), (Sg.cy (k2 zz), 1000)]); let k15 := fun (zz : Nat × Nat) => (qsC [(Sg.ax (k3 zz), 1000), (Sg.ay (k3 zz), 1000), (Sg.cx (k3 zz), 1000), (Sg.cy (k3 zz), 1000)]); let k0 := fun (zz : Nat × Nat) => (cmpR (nearP (Sg.ax (k2 zz)) (Sg.ay (k2 zz)) (Sg.cx (k2 zz)) (Sg.cy (k2 zz)) (Sg.ax (k3 zz)) (Sg.ay (k3 zz)) (Sg.cx (k3 zz)) (Sg.cy (k3 zz))) ((↑d : Rat) * (↑d : Rat)) ≤ k18); let k31 := fun (i0 : Nat × Nat) (i_1 : Nat × Nat) (u : AV) => Exists fun (i' : Nat × Nat) => (Prod.fst i' < List.length A ∧ Prod.snd i' ≤ List.length B) ∧ Prod.fst i' = Prod.fst i0 ∧ List.length B - Prod.snd i' < List.length B - Prod.snd i_1 ∧ (SmA k10 ∧ SmA k7 ∧ SmA k8 ∧ SmA k9 ∧ SmA k4 ∧ AVle u (k13 i') ∧ AVle (k11 i_1) (k11 i') ∧ AVle (k6 i_1) (AV.s false [Cell.v (Value.int IntKind.i64 (k20 i'))]) ∧ True) ∧ True; (Exists fun (i : Nat) => i ≤ List.length A ∧ (SmA k10 ∧ SmA k7 ∧ SmA k8 ∧ SmA k9 ∧ SmA k4 ∧ AVle k4 (k27 i) ∧ AVle k4 (k29 i) ∧ True) ∧ True) ∧ ∀ (i : Nat), i ≤ List.length A → (decide ((↑i : Int) < k21) = true → Exists fun (i0 : Nat × Nat) => (Prod.fst i0 < List.length A ∧ Prod.snd i0 ≤ List.length B) ∧ ((SmA k10 ∧ SmA k7 ∧ SmA k8 ∧ SmA k9 ∧ SmA k4 ∧ AVle (k27 i) (k13 i0) ∧ AVle (k29 i) (k11 i0) ∧ AVle k4 (AV.s false [Cell.v (Value.int IntKind.i64 (k20 i0))]) ∧ True) ∧ True) ∧ ∀ (i_1 : Nat × Nat), Prod.fst i_1 < List.length A ∧ Prod.snd i_1 ≤ List.length B → Prod.fst i_1 = Prod.fst i0 → (decide ((k20 i_1) < k22) = true → (decide ((k5 i_1) < k17) = true → decide ((k5 i_1) < k17) = true ∧ (k18 ≤ (k5 i_1) ∧ (k5 i_1) < k17) ∧ ((k1 i_1) = true → (I64s d ∧ I64s k18) ∧ ((!(k1 i_1)) = true → (!(k1 i_1)) = true ∧ (k18 ≤ (k25 i_1) ∧ (k25 i_1) < k21) ∧ (k18 ≤ (k20 i_1) ∧ (k20 i_1) < k22) ∧ SmC (k14 i_1) ∧ SmC (k15 i_1) ∧ (1 ≤ 1000 ∧ 1000 ≤ 1500) ∧ SmC k19 ∧ SmC k19 ∧ (3 ≤ 50000 ∧ 3 ≤ 50000) ∧ SmC (k12 i_1) ∧ SmC k23 ∧ (24015 ≤ 50000 ∧ 6 ≤ 50000) ∧ (decide (k0 i_1) = true → AVle k26 k16) ∧ (decide (k0 i_1) = false → k31 i0 i_1 (k24 i_1))) ∧ ((!(k1 i_1)) = false → (!(k1 i_1)) = false ∧ k31 i0 i_1 (k24 i_1))) ∧ ((k1 i_1) = false → (I64s d ∧ I64s k18) ∧ ((!(k1 i_1)) = true → (!(k1 i_1)) = true ∧ (k18 ≤ (k25 i_1) ∧ (k25 i_1) < k21) ∧ (k18 ≤ (k20 i_1) ∧ (k20 i_1) < k22) ∧ SmC (k14 i_1) ∧ SmC (k15 i_1) ∧ (1 ≤ 1000 ∧ 1000 ≤ 1500) ∧ SmC k19 ∧ SmC k19 ∧ (3 ≤ 50000 ∧ 3 ≤ 50000) ∧ SmC (k12 i_1) ∧ SmC k23 ∧ (24015 ≤ 50000 ∧ 6 ≤ 50000) ∧ (decide (k0 i_1) = true → AVle k26 k16) ∧ (decide (k0 i_1) = false → k31 i0 i_1 (k13 i_1))) ∧ ((!(k1 i_1)) = false → (!(k1 i_1)) = false ∧ k31 i0 i_1 (k13 i_1)))) ∧ (decide ((k5 i_1) < k17) = false → decide ((k5 i_1) < k17) = false ∧ (I64s d ∧ I64s k18) ∧ (k18 ≤ (k25 i_1) ∧ (k25 i_1) < k21) ∧ (k18 ≤ (k20 i_1) ∧ (k20 i_1) < k22) ∧ SmC (k14 i_1) ∧ SmC (k15 i_1) ∧ (1 ≤ 1000 ∧ 1000 ≤ 1500) ∧ SmC k19 ∧ SmC k19 ∧ (3 ≤ 50000 ∧ 3 ≤ 50000) ∧ SmC (k12 i_1) ∧ SmC k23 ∧ (24015 ≤ 50000 ∧ 6 ≤ 50000) ∧ (decide (k0 i_1) = true → AVle k26 k16) ∧ (decide (k0 i_1) = false → k31 i0 i_1 (k13 i_1)))) ∧ (decide ((k20 i_1) < k22) = false → Exists fun (i' : Nat) => i' ≤ List.length A ∧ List.length A - i' < List.length A - i ∧ (SmA k10 ∧ SmA k7 ∧ SmA k8 ∧ SmA k9 ∧ SmA k4 ∧ AVle (k13 i_1) (AV.s false [Cell.v (Value.int IntKind.i64 (↑(cntP X i' 0) : Int))]) ∧ AVle (AV.s false [Cell.v (Value.int IntKind.i64 (IntKind.wrap IntKind.i64 ((k25 i_1) + (1 : Int))))]) (AV.s false [Cell.v (Value.int IntKind.i64 (↑i' : Int))]) ∧ True) ∧ True)) ∧ (decide ((↑i : Int) < k21) = false → (k28 = true → k28 = true ∧ AVle (AV.s false [Cell.v (Value.bool ((↑(cntP X i 0) : Int) == k17))]) k16) ∧ (k28 = false → k28 = false ∧ AVle k26 k16))) := by kernel_rfl
theorem befP_iff {i k : Nat} {p : Nat × Nat} : befP i k p = true ↔ ltP p (i, k) := by
 unfold befP ltP
 simp only [Bool.or_eq_true, Bool.and_eq_true, decide_eq_true_eq]
theorem cnt_hit {i k : Nat} : ∀ {X : List (Nat × Nat)}, X.Pairwise ltP → ((cntP X i k < X.length ∧ X.getD (cntP X i k) (0, 0) = (i, k)) ↔ (i, k) ∈ X)
 | [], _ => by simp [cntP]
 | q :: r, h => by
  rw [List.pairwise_cons] at h
  by_cases hq : befP i k q = true
  ·have e : cntP (q :: r) i k = cntP r i k + 1 := by unfold cntP; rw [List.filter_cons, if_pos hq]; rfl
   have hne : (i, k) ≠ q := fun e => ltP_irrefl q (by have := befP_iff.1 hq; rw [e] at this; exact this)
   rw [e, List.length_cons, List.getD_cons_succ, List.mem_cons, ← cnt_hit h.2]
   constructor
   ·rintro ⟨h1, h2⟩; exact .inr ⟨by omega, h2⟩
   ·rintro (h1 | ⟨h1, h2⟩)
    ·exact absurd h1 hne
    ·exact ⟨by omega, h2⟩
  ·have hz : ∀ e ∈ r, ¬ befP i k e = true := fun e he hb => hq (by
    have h1 := h.1 e he
    have h2 := befP_iff.1 hb
    refine befP_iff.2 ?_
    unfold ltP at *
    omega)
   have e : cntP (q :: r) i k = 0 := by
    unfold cntP
    rw [List.filter_cons, if_neg hq, List.length_eq_zero_iff, List.filter_eq_nil_iff]
    exact hz
   rw [e, List.getD_cons_zero, List.mem_cons]
   constructor
   ·rintro ⟨_, h2⟩; exact .inl h2.symm
   ·rintro (h1 | h1)
    ·exact ⟨by simp, h1.symm⟩
    ·refine ⟨by simp, ?_⟩
     have h2 := h.1 _ h1
     exact absurd (befP_iff.2 h2) hq
theorem cnt_next {i k : Nat} : ∀ {X : List (Nat × Nat)}, X.Pairwise ltP → cntP X i (k + 1) = cntP X i k + if (i, k) ∈ X then 1 else 0
 | [], _ => by simp [cntP]
 | q :: r, h => by
  rw [List.pairwise_cons] at h
  have ih := cnt_next (i := i) (k := k) h.2
  have e : ∀ k, cntP (q :: r) i k = cntP r i k + if befP i k q = true then 1 else 0 := by
   intro k
   unfold cntP
   rw [List.filter_cons]
   split <;> simp
  rw [e, e, ih]
  by_cases hq : q = (i, k)
  ·subst hq
   have h1 : befP i (k + 1) (i, k) = true := befP_iff.2 (by unfold ltP; simp)
   have h2 : ¬ befP i k (i, k) = true := fun h => ltP_irrefl _ (befP_iff.1 h)
   have h3 : (i, k) ∉ r := fun hm => ltP_irrefl _ (h.1 _ hm)
   simp [h1, h2, h3]
  ·have h1 : (befP i (k + 1) q = true) ↔ (befP i k q = true) := by
    rw [befP_iff, befP_iff]
    unfold ltP
    constructor
    ·rintro (h | ⟨h1, h2⟩)
     ·exact .inl h
     ·rcases Nat.lt_or_ge q.2 k with h3 | h3
      ·exact .inr ⟨h1, h3⟩
      ·exact (hq (Prod.ext h1 (show q.2 = k by have : q.2 < k + 1 := h2; omega))).elim
    ·rintro (h | ⟨h1, h2⟩)
     ·exact .inl h
     ·exact .inr ⟨h1, Nat.lt_succ_of_lt h2⟩
   have h2 : ((i, k) ∈ q :: r) ↔ (i, k) ∈ r := by
    rw [List.mem_cons]
    exact ⟨fun h => h.elim (fun h => absurd h.symm hq) id, .inr⟩
   simp only [h1, h2]
   omega
theorem cnt_row {X : List (Nat × Nat)} {i n : Nat} (h : ∀ p ∈ X, p.2 < n) : cntP X i n = cntP X (i + 1) 0 := by
 unfold cntP
 congr 1
 refine List.filter_congr fun p hp => ?_
 rw [Bool.eq_iff_iff, befP_iff, befP_iff]
 have := h p hp
 unfold ltP
 simp only [Nat.not_lt_zero, and_false, or_false]
 omega
theorem cnt_zero (X : List (Nat × Nat)) : cntP X 0 0 = 0 := by
 unfold cntP
 rw [List.length_eq_zero_iff, List.filter_eq_nil_iff]
 intro p _ h
 have := befP_iff.1 h
 unfold ltP at this
 simp at this
theorem cnt_all {X : List (Nat × Nat)} {n : Nat} (h : ∀ p ∈ X, p.1 < n) : cntP X n 0 = X.length := by
 unfold cntP
 rw [List.filter_eq_self.2 fun p hp => befP_iff.2 (.inl (h p hp))]
def nearG (s t : Sg) : Rat := nearP s.ax s.ay s.cx s.cy t.ax t.ay t.cx t.cy
theorem cmpR_le0 (q p : Rat) : cmpR q p ≤ 0 ↔ q ≤ p := by
 have := cmpR_pos q p
 rw [← Rat.not_lt, ← this]
 omega
set_option maxHeartbeats 1000000 in
theorem finds_true (A B : List Sg) (X : List (Nat × Nat)) (d : Int) (hd : 0 ≤ d ∧ d ≤ 1073741824) (hA : A.length ≤ 14) (hB : B.length ≤ 14) (hX : X.length ≤ 196) (hs : X.Pairwise ltP) (hlt : ∀ p ∈ X, p.1 < A.length ∧ p.2 < B.length)
  (hn : ∀ i k, i < A.length → k < B.length → (i, k) ∉ X → (d : Rat) * (d : Rat) < nearG (A.getD i sg0) (B.getD k sg0)) : vc Try.prog (lk gW) Try.f6.ntmps [(8, o_inv A B X d), (11, i_inv A B X d)] (restC (restC (restC (restC (restC (Try.f6.body.getD .skip)))))) (⟨slotsF A B X d, []⟩) (retVC Try.prog Try.f6.results.toList (.s false [.v (.bool true)])) := by
 rw [finds_vc]
 have n1 : I64s d := by unfold I64s; omega
 have n2 : I64s (0 : Int) := by unfold I64s; omega
 have n3 : (1 : Nat) ≤ 1000 := by omega
 have n4 : (1000 : Nat) ≤ 1500 := by omega
 have n5 : (3 : Nat) ≤ 50000 := by omega
 have n6 : (24015 : Nat) ≤ 50000 := by omega
 have n7 : (6 : Nat) ≤ 50000 := by omega
 simp only [SmA, SmC, cs_refl, av_refl, true_and, and_true, n1, n2, n3, n4, n5, n6, n7, Int.toNat_natCast, decide_eq_true_eq, decide_eq_false_iff_not]
 refine ⟨⟨0, Nat.zero_le _, AVle.int (by rw [cnt_zero]; rfl), AVle.refl _⟩, fun i hi => ⟨fun hb => ⟨(i, 0), ⟨by omega, Nat.zero_le _⟩, ⟨AVle.refl _, AVle.refl _, AVle.refl _⟩, ?_⟩, fun hb => ?_⟩⟩
 ·rintro ⟨i', k⟩ ⟨hi', hk⟩ hpe
  simp only at hi' hk hpe
  subst hpe
  simp only
  have hbb : ((((X.getD (cntP X i' k) (0, 0)).1 : Nat) : Int) == (i' : Int) && (((X.getD (cntP X i' k) (0, 0)).2 : Nat) : Int) == (k : Int)) = decide (X.getD (cntP X i' k) (0, 0) = (i', k)) := by
   rw [Bool.eq_iff_iff, Bool.and_eq_true, beq_iff_eq, beq_iff_eq, decide_eq_true_eq, Prod.ext_iff]
   constructor
   ·rintro ⟨h1, h2⟩; exact ⟨by omega, by omega⟩
   ·rintro ⟨h1, h2⟩; exact ⟨by rw [h1], by rw [h2]⟩
  simp only [hbb]
  refine ⟨fun hk2 => ?_, fun hk2 => ⟨i' + 1, by omega, by omega, ?_, AVle.wrap (n := 14) (by omega) (by omega)⟩⟩
  ·have hk' : k < B.length := by omega
   have hw : AVle (.s false [.v (.int .i64 (IntKind.i64.wrap ((k : Int) + 1)))]) (.s false [.v (.int .i64 ((k + 1 : Nat) : Int))]) := AVle.wrap (n := 14) (by omega) (by omega)
   by_cases hm : (i', k) ∈ X
   ·obtain ⟨h1, h2⟩ := (cnt_hit hs).2 hm
    have hc : cntP X i' (k + 1) = cntP X i' k + 1 := by rw [cnt_next hs, if_pos hm]
    have hw2 : AVle (.s false [.v (.int .i64 (IntKind.i64.wrap ((cntP X i' k : Int) + 1)))]) (.s false [.v (.int .i64 ((cntP X i' (k + 1) : Nat) : Int))]) := by rw [hc]; exact AVle.wrap (n := 196) (by omega) (by omega)
    refine ⟨fun _ => ⟨by omega, ⟨by omega, by omega⟩, fun _ => ⟨fun h => ?_, fun h => ⟨h, (i', k + 1), ⟨hi', hk'⟩, rfl, by simp only; omega, hw2, AVle.refl _, hw⟩⟩, fun h => ?_⟩, fun h => absurd (show (cntP X i' k : Int) < (X.length : Int) by omega) h⟩
    ·rw [decide_eq_true h2] at h; cases h
    ·rw [decide_eq_true h2] at h; cases h
   ·have hno : ¬ cmpR (nearP (A.getD i' sg0).ax (A.getD i' sg0).ay (A.getD i' sg0).cx (A.getD i' sg0).cy (B.getD k sg0).ax (B.getD k sg0).ay (B.getD k sg0).cx (B.getD k sg0).cy) ((d : Rat) * (d : Rat)) ≤ 0 := by
     rw [cmpR_le0]
     exact Rat.not_le.2 (hn i' k hi' hk' hm)
    have hc : cntP X i' (k + 1) = cntP X i' k := by rw [cnt_next hs, if_neg hm]; rfl
    have hw2 : AVle (.s false [.v (.int .i64 (cntP X i' k : Int))]) (.s false [.v (.int .i64 ((cntP X i' (k + 1) : Nat) : Int))]) := by rw [hc]; exact AVle.refl _
    have hz : cntP X i' k < X.length → decide (X.getD (cntP X i' k) (0, 0) = (i', k)) = false := fun h => decide_eq_false fun e => hm ((cnt_hit hs).1 ⟨h, e⟩)
    refine ⟨fun h1 => ⟨h1, ⟨by omega, h1⟩, fun h => ?_, fun _ => ⟨fun h => ⟨h, ⟨by omega, by omega⟩, ⟨by omega, by omega⟩, fun h => absurd h hno, fun _ => ⟨(i', k + 1), ⟨hi', hk'⟩, rfl, by simp only; omega, hw2, AVle.refl _, hw⟩⟩, fun h => ?_⟩⟩, fun h1 => ⟨h1, ⟨by omega, by omega⟩, ⟨by omega, by omega⟩, fun h => absurd h hno, fun _ => ⟨(i', k + 1), ⟨hi', hk'⟩, rfl, by simp only; omega, hw2, AVle.refl _, hw⟩⟩⟩
    ·rw [hz (by omega)] at h; cases h
    ·rw [hz (by omega)] at h; cases h
  ·have hk' : k = B.length := by omega
   subst hk'
   rw [cnt_row fun p hp => (hlt p hp).2]
   exact AVle.refl _
 ·have hi' : i = A.length := by omega
  subst hi'
  rw [cnt_all fun p hp => (hlt p hp).1]
  simp only [beq_self_eq_true, true_and, forall_const]
  exact ⟨AVle.refl _, fun h => by cases h⟩
end Go.Proofs.Ytnojfiokdhcbjaa
namespace Go.Proofs.Ytnojfiokdhcbjaa
open Go Go.RowKit
section
variable {T : TypeId} {w : World} {g : Nat} {x0 x1 x2 x3 x4 x5 x6 x7 x8 x9 x10 x11 x12 x13 x14 x15 c0 c1 c2 c3 c4 c5 c6 c7 c8 c9 c10 c11 c12 c13 c14 c15 : Value}
theorem set16_all (h : BlkC T w g [x0, x1, x2, x3, x4, x5, x6, x7, x8, x9, x10, x11, x12, x13, x14, x15]) (hT : T ≠ 126) (c0 c1 c2 c3 c4 c5 c6 c7 c8 c9 c10 c11 c12 c13 c14 c15 : Value) : w.grownBy ((((((((((((((((w.setCell ⟨g, 0, none⟩ c0).setCell ⟨g, 1, none⟩ c1).setCell ⟨g, 2, none⟩ c2).setCell ⟨g, 3, none⟩ c3).setCell ⟨g, 4, none⟩ c4).setCell ⟨g, 5, none⟩ c5).setCell ⟨g, 6, none⟩ c6).setCell ⟨g, 7, none⟩ c7).setCell ⟨g, 8, none⟩ c8).setCell ⟨g, 9, none⟩ c9).setCell ⟨g, 10, none⟩ c10).setCell ⟨g, 11, none⟩ c11).setCell ⟨g, 12, none⟩ c12).setCell ⟨g, 13, none⟩ c13).setCell ⟨g, 14, none⟩ c14).setCell ⟨g, 15, none⟩ c15) (some g) ∧ Keep w ((((((((((((((((w.setCell ⟨g, 0, none⟩ c0).setCell ⟨g, 1, none⟩ c1).setCell ⟨g, 2, none⟩ c2).setCell ⟨g, 3, none⟩ c3).setCell ⟨g, 4, none⟩ c4).setCell ⟨g, 5, none⟩ c5).setCell ⟨g, 6, none⟩ c6).setCell ⟨g, 7, none⟩ c7).setCell ⟨g, 8, none⟩ c8).setCell ⟨g, 9, none⟩ c9).setCell ⟨g, 10, none⟩ c10).setCell ⟨g, 11, none⟩ c11).setCell ⟨g, 12, none⟩ c12).setCell ⟨g, 13, none⟩ c13).setCell ⟨g, 14, none⟩ c14).setCell ⟨g, 15, none⟩ c15) ∧ BlkC T ((((((((((((((((w.setCell ⟨g, 0, none⟩ c0).setCell ⟨g, 1, none⟩ c1).setCell ⟨g, 2, none⟩ c2).setCell ⟨g, 3, none⟩ c3).setCell ⟨g, 4, none⟩ c4).setCell ⟨g, 5, none⟩ c5).setCell ⟨g, 6, none⟩ c6).setCell ⟨g, 7, none⟩ c7).setCell ⟨g, 8, none⟩ c8).setCell ⟨g, 9, none⟩ c9).setCell ⟨g, 10, none⟩ c10).setCell ⟨g, 11, none⟩ c11).setCell ⟨g, 12, none⟩ c12).setCell ⟨g, 13, none⟩ c13).setCell ⟨g, 14, none⟩ c14).setCell ⟨g, 15, none⟩ c15) g [c0, c1, c2, c3, c4, c5, c6, c7, c8, c9, c10, c11, c12, c13, c14, c15] := by
 have h0 := h
 have h1 := h0.set 0 c0
 have h2 := h1.set 1 c1
 have h3 := h2.set 2 c2
 have h4 := h3.set 3 c3
 have h5 := h4.set 4 c4
 have h6 := h5.set 5 c5
 have h7 := h6.set 6 c6
 have h8 := h7.set 7 c7
 have h9 := h8.set 8 c8
 have h10 := h9.set 9 c9
 have h11 := h10.set 10 c10
 have h12 := h11.set 11 c11
 have h13 := h12.set 12 c12
 have h14 := h13.set 13 c13
 have h15 := h14.set 14 c14
 exact ⟨grown_trans (grown_trans (grown_trans (grown_trans (grown_trans (grown_trans (grown_trans (grown_trans (grown_trans (grown_trans (grown_trans (grown_trans (grown_trans (grown_trans (grown_trans (grown_setCell _ _ _) (grown_setCell _ _ _)) (grown_setCell _ _ _)) (grown_setCell _ _ _)) (grown_setCell _ _ _)) (grown_setCell _ _ _)) (grown_setCell _ _ _)) (grown_setCell _ _ _)) (grown_setCell _ _ _)) (grown_setCell _ _ _)) (grown_setCell _ _ _)) (grown_setCell _ _ _)) (grown_setCell _ _ _)) (grown_setCell _ _ _)) (grown_setCell _ _ _)) (grown_setCell _ _ _), (keep_set h0 hT _).trans ((keep_set h1 hT _).trans ((keep_set h2 hT _).trans ((keep_set h3 hT _).trans ((keep_set h4 hT _).trans ((keep_set h5 hT _).trans ((keep_set h6 hT _).trans ((keep_set h7 hT _).trans ((keep_set h8 hT _).trans ((keep_set h9 hT _).trans ((keep_set h10 hT _).trans ((keep_set h11 hT _).trans ((keep_set h12 hT _).trans ((keep_set h13 hT _).trans ((keep_set h14 hT _).trans (keep_set h15 hT _))))))))))))))), h15.set 15 c15⟩
theorem blk16 (h : BlkC T w g [x0, x1, x2, x3, x4, x5, x6, x7, x8, x9, x10, x11, x12, x13, x14, x15]) : w.cell? ⟨g, 0, none⟩ = some x0 ∧ w.cell? ⟨g, 1, none⟩ = some x1 ∧ w.cell? ⟨g, 2, none⟩ = some x2 ∧ w.cell? ⟨g, 3, none⟩ = some x3 ∧ w.cell? ⟨g, 4, none⟩ = some x4 ∧ w.cell? ⟨g, 5, none⟩ = some x5 ∧ w.cell? ⟨g, 6, none⟩ = some x6 ∧ w.cell? ⟨g, 7, none⟩ = some x7 ∧ w.cell? ⟨g, 8, none⟩ = some x8 ∧ w.cell? ⟨g, 9, none⟩ = some x9 ∧ w.cell? ⟨g, 10, none⟩ = some x10 ∧ w.cell? ⟨g, 11, none⟩ = some x11 ∧ w.cell? ⟨g, 12, none⟩ = some x12 ∧ w.cell? ⟨g, 13, none⟩ = some x13 ∧ w.cell? ⟨g, 14, none⟩ = some x14 ∧ w.cell? ⟨g, 15, none⟩ = some x15 :=
 ⟨by rw [h.cell 0]; rfl, by rw [h.cell 1]; rfl, by rw [h.cell 2]; rfl, by rw [h.cell 3]; rfl, by rw [h.cell 4]; rfl, by rw [h.cell 5]; rfl, by rw [h.cell 6]; rfl, by rw [h.cell 7]; rfl, by rw [h.cell 8]; rfl, by rw [h.cell 9]; rfl, by rw [h.cell 10]; rfl, by rw [h.cell 11]; rfl, by rw [h.cell 12]; rfl, by rw [h.cell 13]; rfl, by rw [h.cell 14]; rfl, by rw [h.cell 15]; rfl⟩
theorem blk16f (h : BlkC T w g [x0, x1, x2, x3, x4, x5, x6, x7, x8, x9, x10, x11, x12, x13, x14, x15]) : w.frozen? ⟨g, 0, none⟩ = false ∧ w.frozen? ⟨g, 1, none⟩ = false ∧ w.frozen? ⟨g, 2, none⟩ = false ∧ w.frozen? ⟨g, 3, none⟩ = false ∧ w.frozen? ⟨g, 4, none⟩ = false ∧ w.frozen? ⟨g, 5, none⟩ = false ∧ w.frozen? ⟨g, 6, none⟩ = false ∧ w.frozen? ⟨g, 7, none⟩ = false ∧ w.frozen? ⟨g, 8, none⟩ = false ∧ w.frozen? ⟨g, 9, none⟩ = false ∧ w.frozen? ⟨g, 10, none⟩ = false ∧ w.frozen? ⟨g, 11, none⟩ = false ∧ w.frozen? ⟨g, 12, none⟩ = false ∧ w.frozen? ⟨g, 13, none⟩ = false ∧ w.frozen? ⟨g, 14, none⟩ = false ∧ w.frozen? ⟨g, 15, none⟩ = false :=
 ⟨h.free 0, h.free 1, h.free 2, h.free 3, h.free 4, h.free 5, h.free 6, h.free 7, h.free 8, h.free 9, h.free 10, h.free 11, h.free 12, h.free 13, h.free 14, h.free 15⟩
end
theorem rlen_int (d : Int) (h0 : -9223372036854775808 ≤ d) (h1 : d ≤ 9223372036854775807) : rlen (d : Rat) ≤ 1000 := by
 have h : (limbs d.natAbs).length ≤ 2 := (limbs_len _ 2).2 (by omega)
 have h2 : (limbs (d : Rat).den).length ≤ 1 := by rw [(whole_frac d).2, limbs_len]; decide
 unfold rlen
 rw [(whole_frac d).1]
 omega
theorem PIs.rv {w : World} {v : Value} {x y : Rat} (h : PIs w v x y) (hx : rlen x ≤ 300000) (hy : rlen y ≤ 300000) : ∃ p1 p2 : RV, v = .agg #[.slice p1.a p1.n p1.n, .bool p1.b, .slice p1.c p1.m p1.m, .bool p1.d, .slice p2.a p2.n p2.n, .bool p2.b, .slice p2.c p2.m p2.m, .bool p2.d] ∧ p1.ok w x ∧ p2.ok w y := by
 obtain ⟨a, n, b, c, m, d, a', n', b', c', m', d', rfl, h1, h2⟩ := h
 exact ⟨⟨a, n, b, c, m, d⟩, ⟨a', n', b', c', m', d'⟩, rfl, ⟨h1, hx⟩, ⟨h2, hy⟩⟩
def I64 (a : Int) : Prop := -9223372036854775808 ≤ a ∧ a ≤ 9223372036854775807
theorem I64.r {a : Int} (h : I64 a) : rlen (a : Rat) ≤ 300000 := Nat.le_trans (rlen_int a h.1 h.2) (by omega)
theorem I64.k {a : Int} (h : I64 a) : rlen (a : Rat) ≤ 1000 := rlen_int a h.1 h.2
set_option maxHeartbeats 8000000 in
set_option maxRecDepth 100000 in
theorem lawGrid_any (a b c d : Int) (w : World) (ha : I64 a) (hb : I64 b) (hc : I64 c) (hd : I64 d) :
  Calls Try.prog 7 #[.int .i64 a, .int .i64 b, .int .i64 c, .int .i64 d] w fun e w' => ∃ v : SV, e = .returned (.agg #[.slice v.ax.a v.ax.n v.ax.n, .bool v.ax.b, .slice v.ax.c v.ax.m v.ax.m, .bool v.ax.d, .slice v.ay.a v.ay.n v.ay.n, .bool v.ay.b, .slice v.ay.c v.ay.m v.ay.m, .bool v.ay.d, .slice v.cx.a v.cx.n v.cx.n, .bool v.cx.b, .slice v.cx.c v.cx.m v.cx.m, .bool v.cx.d, .slice v.cy.a v.cy.n v.cy.n, .bool v.cy.b, .slice v.cy.c v.cy.m v.cy.m, .bool v.cy.d]) ∧ v.ok w' ⟨a, b, c, d⟩ ∧ Below w.heap.size w w' := by
 have HA := Lib.hid ha
 have HB := Lib.hid hb
 have HC := Lib.hid hc
 have HD := Lib.hid hd
 have HB1 : Hid (BlkC 34 (w.alloc (.cells #[.slice none 0 0, .bool false, .slice none 0 0, .bool false, .slice none 0 0, .bool false, .slice none 0 0, .bool false, .slice none 0 0, .bool false, .slice none 0 0, .bool false, .slice none 0 0, .bool false, .slice none 0 0, .bool false] 34)) w.heap.size [.slice none 0 0, .bool false, .slice none 0 0, .bool false, .slice none 0 0, .bool false, .slice none 0 0, .bool false, .slice none 0 0, .bool false, .slice none 0 0, .bool false, .slice none 0 0, .bool false, .slice none 0 0, .bool false]) := BlkC.new _ w [.slice none 0 0, .bool false, .slice none 0 0, .bool false, .slice none 0 0, .bool false, .slice none 0 0, .bool false, .slice none 0 0, .bool false, .slice none 0 0, .bool false, .slice none 0 0, .bool false, .slice none 0 0, .bool false]
 have HG1 : Hid (Below w.heap.size w (w.alloc (.cells #[.slice none 0 0, .bool false, .slice none 0 0, .bool false, .slice none 0 0, .bool false, .slice none 0 0, .bool false, .slice none 0 0, .bool false, .slice none 0 0, .bool false, .slice none 0 0, .bool false, .slice none 0 0, .bool false] 34))) := (own_alloc _ _).b
 clear ha hb hc hd
 go_enter Try.func7, Try.ntmps7
 go_wp2_with fail
 refine (planeGrid_any a b _ HA.out.1 HA.out.2 HB.out.1 HB.out.2).mono ?_
 rintro e w1 ⟨r1, rfl, hr1, hg1⟩
 obtain ⟨p1, p2, rfl, k1, k2⟩ := hr1.rv HA.out.r HB.out.r
 have HB2 : Hid (BlkC 34 w1 w.heap.size [.slice none 0 0, .bool false, .slice none 0 0, .bool false, .slice none 0 0, .bool false, .slice none 0 0, .bool false, .slice none 0 0, .bool false, .slice none 0 0, .bool false, .slice none 0 0, .bool false, .slice none 0 0, .bool false]) := HB1.out.still (grown_of_below hg1 none)
 have HG2 : Hid (Below w.heap.size w w1) := HG1.out.trans (hg1.mono (by simp))
 have HP := Lib.hid (And.intro k1 k2)
 clear hr1 hg1 k1 k2 HB1 HG1
 go_wp2_with fail
 refine (planeGrid_any c d _ HC.out.1 HC.out.2 HD.out.1 HD.out.2).mono ?_
 rintro e w2 ⟨r2, rfl, hr2, hg2⟩
 obtain ⟨q1, q2, rfl, k3, k4⟩ := hr2.rv HC.out.r HD.out.r
 have HB3 : Hid (BlkC 34 w2 w.heap.size [.slice none 0 0, .bool false, .slice none 0 0, .bool false, .slice none 0 0, .bool false, .slice none 0 0, .bool false, .slice none 0 0, .bool false, .slice none 0 0, .bool false, .slice none 0 0, .bool false, .slice none 0 0, .bool false]) := HB2.out.still (grown_of_below hg2 none)
 have HG3 : Hid (Below w.heap.size w w2) := HG2.out.trans (hg2.mono HG2.out.size)
 have hk := keep_below hg2
 have HP2 : Hid (p1.ok w2 (a : Rat) ∧ p2.ok w2 (b : Rat) ∧ q1.ok w2 (c : Rat) ∧ q2.ok w2 (d : Rat)) := ⟨HP.out.1.keep hk, HP.out.2.keep hk, k3, k4⟩
 clear hr2 hg2 k3 k4 HB2 HG2 HP hk
 obtain ⟨c0, c1, c2, c3, c4, c5, c6, c7, c8, c9, c10, c11, c12, c13, c14, c15⟩ := blk16 HB3.out
 obtain ⟨f0, f1, f2, f3, f4, f5, f6, f7, f8, f9, f10, f11, f12, f13, f14, f15⟩ := blk16f HB3.out
 have lt2 := HB3.out.lt
 go_wp2_with fail
 obtain ⟨s1, s2, s3⟩ := set16_all HB3.out (by decide) (.slice p1.a p1.n p1.n) (.bool p1.b) (.slice p1.c p1.m p1.m) (.bool p1.d) (.slice p2.a p2.n p2.n) (.bool p2.b) (.slice p2.c p2.m p2.m) (.bool p2.d) (.slice q1.a q1.n q1.n) (.bool q1.b) (.slice q1.c q1.m q1.m) (.bool q1.d) (.slice q2.a q2.n q2.n) (.bool q2.b) (.slice q2.c q2.m q2.m) (.bool q2.d)
 have HP3 := HP2.out
 refine blk_ret rfl (by kernel_rfl) (by kernel_rfl) rfl rfl s3 ⟨⟨p1, p2, q1, q2⟩, rfl, ⟨HP3.1.keep s2, HP3.2.1.keep s2, HP3.2.2.1.keep s2, HP3.2.2.2.keep s2⟩, HG3.out.grown s1 HG3.out.size (fun q hq => by cases hq; exact Nat.le_refl _)⟩
end Go.Proofs.Ytnojfiokdhcbjaa
namespace Go.Proofs.Ytnojfiokdhcbjaa
open Go Go.RowKit
set_option maxHeartbeats 8000000 in
set_option maxRecDepth 100000 in
theorem pairsNeg_any (oa ob : Option Addr) (na nb ca cb : Nat) (d : Int) (w : World) (hd : d < 0) :
  Calls Try.prog 8 #[.slice oa na ca, .slice ob nb cb, .int .i64 d] w fun e w' => e = .returned (.tuple #[.slice none 0 0, .int .i64 1]) ∧ Below w.heap.size w w' := by
 have HG := Lib.hid (Below.refl w.heap.size w)
 go_enter Try.func8, Try.ntmps8
 go_wp2_with fail
 refine bodyPost_ret (results_tmp2 rfl _ _ _) rfl ?_
 exact ⟨rfl, HG.out⟩
@[go_sem] theorem pairEq (w : World) (a b c d : Int) : (Op.equalIn 10000 56 (.agg #[.int .i64 a, .int .i64 b]) (.agg #[.int .i64 c, .int .i64 d])).run Try.prog w = .ok (a == c && b == d) w := by
 have hu : Try.prog.underlying 56 = some (.array 2 3) := by kernel_rfl
 show (Op.equalIn (9999 + 1) 56 _ _).run Try.prog w = _
 have key : ∀ n : Nat, (Op.equalIn (n + 1 + 1) 56 (.agg #[.int .i64 a, .int .i64 b]) (.agg #[.int .i64 c, .int .i64 d])).run Try.prog w = .ok (a == c && b == d) w := by
  intro n
  simp only [Op.equalIn, Sem.run_bind, run_underlying hu, Result.andThen_ok]
  simp [Std.Legacy.Range.forIn_eq_forIn_range', Std.Legacy.Range.size, List.range', go_sem]
  by_cases h1 : a = c <;> by_cases h2 : b = d <;> simp [h1, h2]
 exact key 9998
theorem sizeBox (w : World) : (Go.sizeOf 72).run Try.prog w = .ok 18 w := by
 simp [Go.sizeOf]
 rfl
theorem pairsAll_any (ss ts : List Sg) (u v : Value) (d : Int) (w : World) (ha : SegSlice w u ss) (hb : SegSlice w v ts) (hs : ss.length ≤ 20000) (ht : ts.length ≤ 20000) (hd0 : 0 ≤ d) (hd1 : d ≤ 9223372036854775807) (hsl : ∀ s, s ∈ ss → SgL s) (htl : ∀ s, s ∈ ts → SgL s) :
  Calls Try.prog 8 #[u, v, .int .i64 d] w fun e w' => ∃ r, e = .returned (.tuple #[r, .int .i64 0]) ∧ PairRow w' r (pairsS (boxesL ss (d : Rat) false) (boxesL ts 0 true)) ∧ Below w.heap.size w w' := by
 obtain ⟨oa, ca, rfl, h1⟩ := ha
 obtain ⟨ob, cb, rfl, h2⟩ := hb
 exact pairs_any 18 sizeBox rfl ss ts ss.length ts.length ca cb oa ob d w ⟨oa, ca, rfl, h1⟩ ⟨ob, cb, rfl, h2⟩ rfl rfl hs ht hd0 hd1 hsl htl
theorem flat_pair : ∀ (l : List (Nat × Nat)) (i : Nat) (p : Nat × Nat), l[i]? = some p → (l.flatMap pairEnc)[i * 2]? = some (.int .i64 (p.1 : Int)) ∧ (l.flatMap pairEnc)[i * 2 + 1]? = some (.int .i64 (p.2 : Int))
 | [], i, p, h => by simp at h
 | q :: r, 0, p, h => by cases h; exact ⟨rfl, rfl⟩
 | q :: r, i + 1, p, h => by
  obtain ⟨h1, h2⟩ := flat_pair r i p h
  have e : (q :: r).flatMap pairEnc = .int .i64 (q.1 : Int) :: .int .i64 (q.2 : Int) :: r.flatMap pairEnc := rfl
  rw [e, show (i + 1) * 2 = i * 2 + 1 + 1 by omega]
  exact ⟨h1, h2⟩
theorem PairRow.shape {w : World} {v : Value} {l : List (Nat × Nat)} (h : PairRow w v l) : ∃ (o : Option Addr) (cap : Nat), v = .slice o l.length cap ∧ ∀ i p, l[i]? = some p → ∃ g, o = some ⟨g, 0, none⟩ ∧ l.length ≤ cap ∧ w.cell? ⟨g, i * 2, none⟩ = some (.int .i64 (p.1 : Int)) ∧ w.cell? ⟨g, i * 2 + 1, none⟩ = some (.int .i64 (p.2 : Int)) := by
 rcases h with ⟨rfl, rfl⟩ | ⟨g, cap, cs, rfl, h1, h2, h3, h4⟩
 ·exact ⟨none, 0, rfl, fun i p h => by simp at h⟩
 ·refine ⟨_, cap, rfl, fun i p hp => ⟨g, rfl, h3, ?_⟩⟩
  have hB : BlkC 56 w g cs.toList := h1
  have hi : i < l.length := (List.getElem?_eq_some_iff.1 hp).1
  obtain ⟨k1, k2⟩ := flat_pair l i p hp
  rw [← h4, List.getElem?_take, if_pos (by omega)] at k1 k2
  exact ⟨(hB.cell (i * 2)).trans k1, (hB.cell (i * 2 + 1)).trans k2⟩
end Go.Proofs.Ytnojfiokdhcbjaa
namespace Go.Proofs.Ytnojfiokdhcbjaa
open Go Go.RowKit
theorem segRow_of {w : World} {g : Nat} {vs : List SV} {l : List Sg} (hB : BlkC 34 w g (vs.flatMap SV.cells)) (hl : vs.length = l.length) (hv : ∀ (i : Nat) (v : SV) (s : Sg), vs[i]? = some v → l[i]? = some s → v.ok w s) : SegRow w g l := by
 refine ⟨hB.lt, fun i s hs => ?_⟩
 have hi : i < vs.length := by rw [hl]; exact (List.getElem?_eq_some_iff.1 hs).1
 obtain ⟨v, hv1⟩ : ∃ v, vs[i]? = some v := ⟨_, List.getElem?_eq_getElem hi⟩
 refine ⟨v, fun j c hc => ?_, hv i v s hv1 hs⟩
 rw [hB.cell]
 have key : ∀ (vs : List SV) (i : Nat) (v : SV), vs[i]? = some v → ∀ j c, v.cells[j]? = some c → (vs.flatMap SV.cells)[i * 16 + j]? = some c := by
  intro vs
  induction vs with
  | nil => intro i v h; simp at h
  | cons u r ih =>
   intro i v h j c hc
   have hu : u.cells.length = 16 := rfl
   rw [List.flatMap_cons]
   match i, h with
   | 0, h =>
    cases h
    have hj : j < 16 := by have := (List.getElem?_eq_some_iff.1 hc).1; rwa [hu] at this
    rw [List.getElem?_append_left (by omega), Nat.zero_mul, Nat.zero_add]
    exact hc
   | i + 1, h =>
    rw [List.getElem?_append_right (by omega), hu, show (i + 1) * 16 + j - 16 = i * 16 + j by omega]
    exact ih i v h j c hc
 exact key vs i v hv1 j c hc
theorem sgl_int {a b c d : Int} (ha : I64 a) (hb : I64 b) (hc : I64 c) (hd : I64 d) : SgL ⟨a, b, c, d⟩ := ⟨ha.k, hb.k, hc.k, hd.k⟩
abbrev kA : List Sg := [⟨((0 : Int) : Rat), ((0 : Int) : Rat), ((2 : Int) : Rat), ((2 : Int) : Rat)⟩]
abbrev kB : List Sg := [⟨((3 : Int) : Rat), ((0 : Int) : Rat), ((4 : Int) : Rat), ((0 : Int) : Rat)⟩, ⟨((5 : Int) : Rat), ((5 : Int) : Rat), ((6 : Int) : Rat), ((6 : Int) : Rat)⟩]
theorem k_one : pairsS (boxesL kA ((1 : Int) : Rat) false) (boxesL kB 0 true) = [(0, 0)] := by decide +kernel
theorem k_three : pairsS (boxesL kA ((3 : Int) : Rat) false) (boxesL kB 0 true) = [(0, 0), (0, 1)] := by decide +kernel
theorem k_none : pairsS (boxesL kA ((0 : Int) : Rat) false) (boxesL kB 0 true) = [] := by decide +kernel
theorem kA_l : ∀ s, s ∈ kA → SgL s := by
 intro s hs
 rw [List.mem_singleton] at hs
 subst hs
 exact sgl_int ⟨by decide, by decide⟩ ⟨by decide, by decide⟩ ⟨by decide, by decide⟩ ⟨by decide, by decide⟩
theorem kB_l : ∀ s, s ∈ kB → SgL s := by
 intro s hs
 simp only [List.mem_cons, List.not_mem_nil, or_false] at hs
 rcases hs with rfl | rfl
 ·exact sgl_int ⟨by decide, by decide⟩ ⟨by decide, by decide⟩ ⟨by decide, by decide⟩ ⟨by decide, by decide⟩
 ·exact sgl_int ⟨by decide, by decide⟩ ⟨by decide, by decide⟩ ⟨by decide, by decide⟩ ⟨by decide, by decide⟩
set_option maxHeartbeats 8000000 in
set_option maxRecDepth 100000 in
theorem known20_any (w : World) : Calls Try.prog 9 #[] w fun e w' => e = .returned (.bool true) ∧ Below w.heap.size w w' := by
 go_enter Try.func9, Try.ntmps9
 go_wp2_with fail
 refine (lawGrid_any 0 0 2 2 _ ⟨by decide, by decide⟩ ⟨by decide, by decide⟩ ⟨by decide, by decide⟩ ⟨by decide, by decide⟩).mono ?_
 rintro e w1 ⟨v1, rfl, h1, g1⟩
 have H1 := Lib.hid h1
 have G1 := Lib.hid g1
 clear h1 g1
 have S1 : Hid (SegRow (w1.alloc (.cells #[.slice v1.ax.a v1.ax.n v1.ax.n, .bool v1.ax.b, .slice v1.ax.c v1.ax.m v1.ax.m, .bool v1.ax.d, .slice v1.ay.a v1.ay.n v1.ay.n, .bool v1.ay.b, .slice v1.ay.c v1.ay.m v1.ay.m, .bool v1.ay.d, .slice v1.cx.a v1.cx.n v1.cx.n, .bool v1.cx.b, .slice v1.cx.c v1.cx.m v1.cx.m, .bool v1.cx.d, .slice v1.cy.a v1.cy.n v1.cy.n, .bool v1.cy.b, .slice v1.cy.c v1.cy.m v1.cy.m, .bool v1.cy.d] 34)) w1.heap.size kA) := segRow_of (vs := [v1]) (BlkC.new _ w1 v1.cells) rfl (fun i v s hv hs => by
  match i, hv, hs with
  | 0, hv, hs => cases hv; cases hs; exact H1.out.keep (keep_alloc _ _)
  | i + 1, hv, hs => simp at hv)
 have G2 : Hid (Below w.heap.size w (w1.alloc (.cells #[.slice v1.ax.a v1.ax.n v1.ax.n, .bool v1.ax.b, .slice v1.ax.c v1.ax.m v1.ax.m, .bool v1.ax.d, .slice v1.ay.a v1.ay.n v1.ay.n, .bool v1.ay.b, .slice v1.ay.c v1.ay.m v1.ay.m, .bool v1.ay.d, .slice v1.cx.a v1.cx.n v1.cx.n, .bool v1.cx.b, .slice v1.cx.c v1.cx.m v1.cx.m, .bool v1.cx.d, .slice v1.cy.a v1.cy.n v1.cy.n, .bool v1.cy.b, .slice v1.cy.c v1.cy.m v1.cy.m, .bool v1.cy.d] 34))) := G1.out.alloc G1.out.size _
 clear G1
 go_wp2_with fail
 refine (lawGrid_any 3 0 4 0 _ ⟨by decide, by decide⟩ ⟨by decide, by decide⟩ ⟨by decide, by decide⟩ ⟨by decide, by decide⟩).mono ?_
 rintro e w2 ⟨v2, rfl, h2, g2⟩
 have H2 := Lib.hid h2
 have S2 : Hid (SegRow w2 w1.heap.size kA) := S1.out.still g2
 have G3 : Hid (Below w.heap.size w w2) := G2.out.trans (g2.mono G2.out.size)
 clear h2 g2 S1 G2 H1
 go_wp2_with fail
 refine (lawGrid_any 5 5 6 6 _ ⟨by decide, by decide⟩ ⟨by decide, by decide⟩ ⟨by decide, by decide⟩ ⟨by decide, by decide⟩).mono ?_
 rintro e w3 ⟨v3, rfl, h3, g3⟩
 have H3 := Lib.hid h3
 have H4 : Hid (v2.ok w3 _) := H2.out.keep (keep_below g3)
 have S3 : Hid (SegRow w3 w1.heap.size kA) := S2.out.still g3
 have G4 : Hid (Below w.heap.size w w3) := G3.out.trans (g3.mono G3.out.size)
 clear h3 g3 S2 G3 H2
 have S4 : Hid (SegRow (w3.alloc (.cells #[.slice v2.ax.a v2.ax.n v2.ax.n, .bool v2.ax.b, .slice v2.ax.c v2.ax.m v2.ax.m, .bool v2.ax.d, .slice v2.ay.a v2.ay.n v2.ay.n, .bool v2.ay.b, .slice v2.ay.c v2.ay.m v2.ay.m, .bool v2.ay.d, .slice v2.cx.a v2.cx.n v2.cx.n, .bool v2.cx.b, .slice v2.cx.c v2.cx.m v2.cx.m, .bool v2.cx.d, .slice v2.cy.a v2.cy.n v2.cy.n, .bool v2.cy.b, .slice v2.cy.c v2.cy.m v2.cy.m, .bool v2.cy.d, .slice v3.ax.a v3.ax.n v3.ax.n, .bool v3.ax.b, .slice v3.ax.c v3.ax.m v3.ax.m, .bool v3.ax.d, .slice v3.ay.a v3.ay.n v3.ay.n, .bool v3.ay.b, .slice v3.ay.c v3.ay.m v3.ay.m, .bool v3.ay.d, .slice v3.cx.a v3.cx.n v3.cx.n, .bool v3.cx.b, .slice v3.cx.c v3.cx.m v3.cx.m, .bool v3.cx.d, .slice v3.cy.a v3.cy.n v3.cy.n, .bool v3.cy.b, .slice v3.cy.c v3.cy.m v3.cy.m, .bool v3.cy.d] 34)) w3.heap.size kB) := segRow_of (vs := [v2, v3]) (BlkC.new _ w3 (v2.cells ++ v3.cells)) rfl (fun i v s hv hs => by
  match i, hv, hs with
  | 0, hv, hs => cases hv; cases hs; exact H4.out.keep (keep_alloc _ _)
  | 1, hv, hs => cases hv; cases hs; exact H3.out.keep (keep_alloc _ _)
  | i + 2, hv, hs => simp at hv)
 have S5 : Hid (SegRow (w3.alloc (.cells #[.slice v2.ax.a v2.ax.n v2.ax.n, .bool v2.ax.b, .slice v2.ax.c v2.ax.m v2.ax.m, .bool v2.ax.d, .slice v2.ay.a v2.ay.n v2.ay.n, .bool v2.ay.b, .slice v2.ay.c v2.ay.m v2.ay.m, .bool v2.ay.d, .slice v2.cx.a v2.cx.n v2.cx.n, .bool v2.cx.b, .slice v2.cx.c v2.cx.m v2.cx.m, .bool v2.cx.d, .slice v2.cy.a v2.cy.n v2.cy.n, .bool v2.cy.b, .slice v2.cy.c v2.cy.m v2.cy.m, .bool v2.cy.d, .slice v3.ax.a v3.ax.n v3.ax.n, .bool v3.ax.b, .slice v3.ax.c v3.ax.m v3.ax.m, .bool v3.ax.d, .slice v3.ay.a v3.ay.n v3.ay.n, .bool v3.ay.b, .slice v3.ay.c v3.ay.m v3.ay.m, .bool v3.ay.d, .slice v3.cx.a v3.cx.n v3.cx.n, .bool v3.cx.b, .slice v3.cx.c v3.cx.m v3.cx.m, .bool v3.cx.d, .slice v3.cy.a v3.cy.n v3.cy.n, .bool v3.cy.b, .slice v3.cy.c v3.cy.m v3.cy.m, .bool v3.cy.d] 34)) w1.heap.size kA) := S3.out.still ((Below.refl _ _).alloc (Nat.le_refl _) _)
 have G5 : Hid (Below w.heap.size w (w3.alloc (.cells #[.slice v2.ax.a v2.ax.n v2.ax.n, .bool v2.ax.b, .slice v2.ax.c v2.ax.m v2.ax.m, .bool v2.ax.d, .slice v2.ay.a v2.ay.n v2.ay.n, .bool v2.ay.b, .slice v2.ay.c v2.ay.m v2.ay.m, .bool v2.ay.d, .slice v2.cx.a v2.cx.n v2.cx.n, .bool v2.cx.b, .slice v2.cx.c v2.cx.m v2.cx.m, .bool v2.cx.d, .slice v2.cy.a v2.cy.n v2.cy.n, .bool v2.cy.b, .slice v2.cy.c v2.cy.m v2.cy.m, .bool v2.cy.d, .slice v3.ax.a v3.ax.n v3.ax.n, .bool v3.ax.b, .slice v3.ax.c v3.ax.m v3.ax.m, .bool v3.ax.d, .slice v3.ay.a v3.ay.n v3.ay.n, .bool v3.ay.b, .slice v3.ay.c v3.ay.m v3.ay.m, .bool v3.ay.d, .slice v3.cx.a v3.cx.n v3.cx.n, .bool v3.cx.b, .slice v3.cx.c v3.cx.m v3.cx.m, .bool v3.cx.d, .slice v3.cy.a v3.cy.n v3.cy.n, .bool v3.cy.b, .slice v3.cy.c v3.cy.m v3.cy.m, .bool v3.cy.d] 34))) := G4.out.alloc G4.out.size _
 clear S3 G4 H3 H4
 go_wp2_with fail
 have SA : Hid (SegSlice (w3.alloc (.cells #[.slice v2.ax.a v2.ax.n v2.ax.n, .bool v2.ax.b, .slice v2.ax.c v2.ax.m v2.ax.m, .bool v2.ax.d, .slice v2.ay.a v2.ay.n v2.ay.n, .bool v2.ay.b, .slice v2.ay.c v2.ay.m v2.ay.m, .bool v2.ay.d, .slice v2.cx.a v2.cx.n v2.cx.n, .bool v2.cx.b, .slice v2.cx.c v2.cx.m v2.cx.m, .bool v2.cx.d, .slice v2.cy.a v2.cy.n v2.cy.n, .bool v2.cy.b, .slice v2.cy.c v2.cy.m v2.cy.m, .bool v2.cy.d, .slice v3.ax.a v3.ax.n v3.ax.n, .bool v3.ax.b, .slice v3.ax.c v3.ax.m v3.ax.m, .bool v3.ax.d, .slice v3.ay.a v3.ay.n v3.ay.n, .bool v3.ay.b, .slice v3.ay.c v3.ay.m v3.ay.m, .bool v3.ay.d, .slice v3.cx.a v3.cx.n v3.cx.n, .bool v3.cx.b, .slice v3.cx.c v3.cx.m v3.cx.m, .bool v3.cx.d, .slice v3.cy.a v3.cy.n v3.cy.n, .bool v3.cy.b, .slice v3.cy.c v3.cy.m v3.cy.m, .bool v3.cy.d] 34)) (.slice (some ⟨w1.heap.size, 0, none⟩) (1 : Nat) (1 : Nat)) kA) := ⟨_, _, rfl, .inr ⟨_, rfl, S5.out⟩⟩
 have SB : Hid (SegSlice (w3.alloc (.cells #[.slice v2.ax.a v2.ax.n v2.ax.n, .bool v2.ax.b, .slice v2.ax.c v2.ax.m v2.ax.m, .bool v2.ax.d, .slice v2.ay.a v2.ay.n v2.ay.n, .bool v2.ay.b, .slice v2.ay.c v2.ay.m v2.ay.m, .bool v2.ay.d, .slice v2.cx.a v2.cx.n v2.cx.n, .bool v2.cx.b, .slice v2.cx.c v2.cx.m v2.cx.m, .bool v2.cx.d, .slice v2.cy.a v2.cy.n v2.cy.n, .bool v2.cy.b, .slice v2.cy.c v2.cy.m v2.cy.m, .bool v2.cy.d, .slice v3.ax.a v3.ax.n v3.ax.n, .bool v3.ax.b, .slice v3.ax.c v3.ax.m v3.ax.m, .bool v3.ax.d, .slice v3.ay.a v3.ay.n v3.ay.n, .bool v3.ay.b, .slice v3.ay.c v3.ay.m v3.ay.m, .bool v3.ay.d, .slice v3.cx.a v3.cx.n v3.cx.n, .bool v3.cx.b, .slice v3.cx.c v3.cx.m v3.cx.m, .bool v3.cx.d, .slice v3.cy.a v3.cy.n v3.cy.n, .bool v3.cy.b, .slice v3.cy.c v3.cy.m v3.cy.m, .bool v3.cy.d] 34)) (.slice (some ⟨w3.heap.size, 0, none⟩) (2 : Nat) (2 : Nat)) kB) := ⟨_, _, rfl, .inr ⟨_, rfl, S4.out⟩⟩
 clear S4 S5
 refine (pairsAll_any kA kB _ _ 1 _ SA.out SB.out (by decide) (by decide) (by decide) (by decide) kA_l kB_l).mono ?_
 rintro e w4 ⟨r4, rfl, p4, g4⟩
 rw [k_one] at p4
 obtain ⟨o4, c4, rfl, -⟩ := p4.shape
 have SA4 : Hid (SegSlice w4 _ kA) := SA.out.still g4
 have SB4 : Hid (SegSlice w4 _ kB) := SB.out.still g4
 have G6 : Hid (Below w.heap.size w w4) := G5.out.trans (g4.mono G5.out.size)
 clear p4 g4 SA SB G5
 go_wp2_with fail
 refine (pairsAll_any kA kB _ _ 3 _ SA4.out SB4.out (by decide) (by decide) (by decide) (by decide) kA_l kB_l).mono ?_
 rintro e w5 ⟨r5, rfl, p5, g5⟩
 rw [k_three] at p5
 obtain ⟨o5, c5, rfl, hs5⟩ := p5.shape
 have R5 := Lib.hid p5
 have SA5 : Hid (SegSlice w5 _ kA) := SA4.out.still g5
 have SB5 : Hid (SegSlice w5 _ kB) := SB4.out.still g5
 have G7 : Hid (Below w.heap.size w w5) := G6.out.trans (g5.mono G6.out.size)
 obtain ⟨g, hg, hc5, x0, x1⟩ := hs5 1 (0, 1) rfl
 subst hg
 have hgl : g < w5.heap.size := by
  rcases p5 with ⟨h, _⟩ | ⟨g', cap, cs, h, k, _⟩
  ·cases h
  ·injection h with h
   injection h with h
   injection h with h
   subst h
   exact (Array.getElem?_eq_some_iff.1 k).1
 have X5 : Hid (w5.cell? ⟨g, 2, none⟩ = some (.int .i64 0) ∧ w5.cell? ⟨g, 3, none⟩ = some (.int .i64 1) ∧ g < w5.heap.size ∧ 2 ≤ c5) := ⟨x0, x1, hgl, hc5⟩
 clear p5 g5 SA4 SB4 G6 hs5 x0 x1 R5 hgl hc5
 go_wp2_with fail
 refine (pairsAll_any kA kB _ _ 0 _ SA5.out SB5.out (by decide) (by decide) (by decide) (by decide) kA_l kB_l).mono ?_
 rintro e w6 ⟨r6, rfl, p6, g6⟩
 rw [k_none] at p6
 obtain ⟨o6, c6, rfl, -⟩ := p6.shape
 have G8 : Hid (Below w.heap.size w w6) := G7.out.trans (g6.mono G7.out.size)
 have e0 : w6.cell? ⟨g, 2, none⟩ = some (.int .i64 0) := (World.cell?_of_block (a := ⟨g, _, none⟩) (g6.block g X5.out.2.2.1)).trans X5.out.1
 have e1 : w6.cell? ⟨g, 3, none⟩ = some (.int .i64 1) := (World.cell?_of_block (a := ⟨g, _, none⟩) (g6.block g X5.out.2.2.1)).trans X5.out.2.1
 clear p6 g6 SA5 SB5 G7 X5
 go_wp2_with fail
 go_ret
 exact ⟨rfl, G8.out⟩
end Go.Proofs.Ytnojfiokdhcbjaa
namespace Go.Proofs.Ytnojfiokdhcbjaa
open Go Go.RowKit
theorem boxesL_get {ss : List Sg} {dl : Rat} {b : Bool} {i : Nat} {s : Sg} (h : ss[i]? = some s) : boxS s dl i b ∈ boxesL ss dl b := by
 refine List.mem_of_getElem? (i := i) ?_
 unfold boxesL
 rw [List.getElem?_mapIdx, h]
 rfl
section
variable {w wr : World} {g m i : Nat}
end
end Go.Proofs.Ytnojfiokdhcbjaa
namespace Go.Proofs.Ytnojfiokdhcbjaa
open Go Go.RowKit Go.Lib Go.Sort Go.Shelf
theorem pairsU_any (ss ts : List Sg) (u v : Value) (d : Int) (w : World) (ha : SegSlice w u ss) (hb : SegSlice w v ts) (hs : ss.length ≤ 14) (ht : ts.length ≤ 14) (hd : I64 d) (hsl : ∀ s, s ∈ ss → SgL s) (htl : ∀ s, s ∈ ts → SgL s) :
  Calls Try.prog 8 #[u, v, .int .i64 d] w fun e w' => ∃ (r : Value) (ec : Int), e = .returned (.tuple #[r, .int .i64 ec]) ∧ (0 ≤ d → ec = 0 ∧ PairRow w' r (pairsS (boxesL ss (d : Rat) false) (boxesL ts 0 true))) ∧ (d < 0 → ec = 1 ∧ r = .slice none 0 0) ∧ Below w.heap.size w w' := by
 by_cases hneg : d < 0
 ·obtain ⟨oa, ca, rfl, _⟩ := ha
  obtain ⟨ob, cb, rfl, _⟩ := hb
  refine (pairsNeg_any oa ob ss.length ts.length ca cb d w hneg).mono ?_
  rintro e w3 ⟨rfl, hb3⟩
  exact ⟨_, _, rfl, fun h => by omega, fun _ => ⟨rfl, rfl⟩, hb3⟩
 ·refine (pairsAll_any ss ts u v d w ha hb (by omega) (by omega) (by omega) hd.2 hsl htl).mono ?_
  rintro e w3 ⟨r3, rfl, hp3, hb3⟩
  exact ⟨_, _, rfl, fun _ => ⟨rfl, hp3⟩, fun h => by omega, hb3⟩
end Go.Proofs.Ytnojfiokdhcbjaa
namespace Go.Proofs.Ytnojfiokdhcbjaa
open Go
def nearB (s t : Sg) (d : Rat) : Bool := meets (boxS s d 0 false) (boxS t 0 0 true)
theorem boxesL_iff {ss : List Sg} {dl : Rat} {b : Bool} {x : Bx} : x ∈ boxesL ss dl b ↔ ∃ i s, ss[i]? = some s ∧ x = boxS s dl i b := by
 constructor
 ·intro h
  obtain ⟨i, s, h1, -, h2⟩ := boxesL_at h
  exact ⟨i, s, h1, h2⟩
 ·rintro ⟨i, s, h1, rfl⟩
  exact boxesL_get h1
theorem pairs_iff {ss ts : List Sg} {d : Rat} {p : Nat × Nat} : p ∈ pairsS (boxesL ss d false) (boxesL ts 0 true) ↔ ∃ s t, ss[p.1]? = some s ∧ ts[p.2]? = some t ∧ nearB s t d = true := by
 rw [pairsS_mem]
 constructor
 ·rintro ⟨x, y, hx, hy, hm, rfl⟩
  obtain ⟨i, s, h1, rfl⟩ := boxesL_iff.1 hx
  obtain ⟨j, t, h2, rfl⟩ := boxesL_iff.1 hy
  exact ⟨s, t, h1, h2, hm⟩
 ·rintro ⟨s, t, h1, h2, h3⟩
  exact ⟨_, _, boxesL_iff.2 ⟨p.1, s, h1, rfl⟩, boxesL_iff.2 ⟨p.2, t, h2, rfl⟩, h3, rfl⟩
theorem pairs_lt {ss ts : List Sg} {d : Rat} {p : Nat × Nat} (h : p ∈ pairsS (boxesL ss d false) (boxesL ts 0 true)) : p.1 < ss.length ∧ p.2 < ts.length := by
 obtain ⟨s, t, h1, h2, -⟩ := pairs_iff.1 h
 exact ⟨(List.getElem?_eq_some_iff.1 h1).1, (List.getElem?_eq_some_iff.1 h2).1⟩
end Go.Proofs.Ytnojfiokdhcbjaa
namespace Go.Proofs.Ytnojfiokdhcbjaa
open Go Go.RowKit Go.Lib Go.Sort Go.Shelf
theorem sg14_len (l : List PQ) : (sg14 l).length ≤ 14 := by
 unfold sg14
 rw [List.length_map, List.length_take]
 omega
theorem sg14_l {l : List PQ} (h : ∀ p ∈ l, p.ok) : ∀ s, s ∈ sg14 l → SgL s := by
 intro s hs
 unfold sg14 at hs
 obtain ⟨p, hp, rfl⟩ := List.mem_map.1 hs
 exact sgOf_l (h p (List.mem_of_mem_take hp))
theorem pairs_max (ss ts : List Sg) (d : Rat) (hs : ss.length ≤ 14) (ht : ts.length ≤ 14) : (pairsS (boxesL ss d false) (boxesL ts 0 true)).length ≤ 196 := by
 have h : ∀ (l : List Bx) (f : Bx → List (Nat × Nat)), (∀ x, (f x).length ≤ 14) → (l.flatMap f).length ≤ l.length * 14 := by
  intro l f hf
  induction l with
  | nil => simp
  | cons x r ih =>
   rw [List.flatMap_cons, List.length_append, List.length_cons, Nat.succ_mul]
   have := hf x
   omega
 have hb : ∀ (l : List Sg) (dl : Rat) (b : Bool), (boxesL l dl b).length = l.length := fun l dl b => by unfold boxesL; rw [List.length_mapIdx]
 have h1 := h (boxesL ss d false) (fun x => ((boxesL ts 0 true).filter (meets x)).map fun y => (x.i, y.i)) (fun x => by
  rw [List.length_map]
  have h2 := List.length_filter_le (meets x) (boxesL ts 0 true)
  rw [hb] at h2
  omega)
 rw [hb] at h1
 unfold pairsS
 omega
end Go.Proofs.Ytnojfiokdhcbjaa
namespace Go.Proofs.Ytnojfiokdhcbjaa
open Go Go.RowKit
def betw (a b u : Rat) : Prop := (a ≤ u ∧ u ≤ b) ∨ (b ≤ u ∧ u ≤ a)
theorem betw_left (a b : Rat) : betw a b a := by unfold betw; grind
theorem betw_right (a b : Rat) : betw a b b := by unfold betw; grind
theorem betw_at {a b k : Rat} (h0 : 0 ≤ k) (h1 : k ≤ 1) : betw a b (a + (b - a) * k) := by
 unfold betw
 rcases Rat.le_total (a := a) (b := b) with h | h
 ·have p1 := Rat.mul_nonneg (show 0 ≤ b - a by grind) h0
  have p2 := Rat.mul_nonneg (show 0 ≤ b - a by grind) (show 0 ≤ 1 - k by grind)
  left
  constructor <;> grind
 ·have p1 := Rat.mul_nonneg (show 0 ≤ a - b by grind) h0
  have p2 := Rat.mul_nonneg (show 0 ≤ a - b by grind) (show 0 ≤ 1 - k by grind)
  right
  constructor <;> grind
theorem best2 (a b : Rat) : (bestR ltL [a, b] ≤ a ∧ bestR ltL [a, b] ≤ b) ∧ a ≤ bestR ltM [a, b] ∧ b ≤ bestR ltM [a, b] := by
 simp only [bestR, List.foldl_cons, List.foldl_nil, ltL, ltM, decide_eq_true_eq]
 split <;> split <;> grind
theorem betw_best {a b u : Rat} (h : betw a b u) : bestR ltL [a, b] ≤ u ∧ u ≤ bestR ltM [a, b] := by
 obtain ⟨⟨h1, h2⟩, h3, h4⟩ := best2 a b
 unfold betw at h
 rcases h with h | h <;> constructor <;> grind
theorem near_of {s t : Sg} {d : Rat} (hx : ∃ u v, betw s.ax s.cx u ∧ betw t.ax t.cx v ∧ u - v ≤ d ∧ v - u ≤ d) (hy : ∃ u v, betw s.ay s.cy u ∧ betw t.ay t.cy v ∧ u - v ≤ d ∧ v - u ≤ d) : nearB s t d = true := by
 obtain ⟨u, v, h1, h2, h3, h4⟩ := hx
 obtain ⟨u', v', k1, k2, k3, k4⟩ := hy
 have a1 := betw_best h1
 have a2 := betw_best h2
 have a3 := betw_best k1
 have a4 := betw_best k2
 unfold nearB meets passes hits boxS
 simp only [Bool.and_eq_true, Bool.not_eq_true', decide_eq_false_iff_not]
 refine ⟨⟨?_, ?_⟩, ?_, ?_⟩ <;> grind
theorem sq_le {x d : Rat} (h : x * x ≤ d * d) (hd : 0 ≤ d) : x ≤ d ∧ 0 - x ≤ d := by
 constructor
 ·rcases Rat.le_total (a := x) (b := d) with h1 | h1
  ·exact h1
  ·by_cases e : x = d
   ·rw [e]; exact Rat.le_refl
   ·have p := Rat.mul_pos (show 0 < x - d by grind) (show 0 < x + d by grind)
    grind
 ·rcases Rat.le_total (a := 0 - x) (b := d) with h1 | h1
  ·exact h1
  ·by_cases e : 0 - x = d
   ·rw [e]; exact Rat.le_refl
   ·have p := Rat.mul_pos (show 0 < (0 - x) - d by grind) (show 0 < (0 - x) + d by grind)
    grind
theorem sq_near {x y a b d : Rat} (h : sqP x y a b ≤ d * d) (hd : 0 ≤ d) : (x - a ≤ d ∧ a - x ≤ d) ∧ y - b ≤ d ∧ b - y ≤ d := by
 unfold sqP at h
 have h1 := sq_nn (a - x)
 have h2 := sq_nn (b - y)
 obtain ⟨p1, p2⟩ := sq_le (x := a - x) (by grind) hd
 obtain ⟨p3, p4⟩ := sq_le (x := b - y) (by grind) hd
 refine ⟨⟨?_, ?_⟩, ?_, ?_⟩ <;> grind
theorem inv_nn {S : Rat} (hS : 0 < S) : 0 ≤ S⁻¹ := by
 have h2 : S * S⁻¹ = 1 := Rat.mul_inv_cancel S (by grind)
 rcases Rat.le_total (a := 0) (b := S⁻¹) with h | h
 ·exact h
 ·have p := Rat.mul_nonneg (Rat.le_of_lt hS) (show 0 ≤ 0 - S⁻¹ by grind)
  grind
theorem div_nn {a S : Rat} (hS : 0 < S) (h : 0 ≤ a) : 0 ≤ a / S := by
 rw [Rat.div_def]
 exact Rat.mul_nonneg h (inv_nn hS)
theorem div_le1 {a S : Rat} (hS : 0 < S) (h : a ≤ S) : a / S ≤ 1 := by
 have h1 := div_nn hS (show 0 ≤ S - a by grind)
 have h2 : S * S⁻¹ = 1 := Rat.mul_inv_cancel S (by grind)
 rw [Rat.div_def] at *
 grind
theorem eq_div {z w S : Rat} (hS : S ≠ 0) (h : z * S = w) : z = w / S := by
 rw [Rat.div_def, ← h, Rat.mul_assoc, Rat.mul_inv_cancel S hS, Rat.mul_one]
theorem foot_le {uy c S d : Rat} (hS : 0 < S) (hu : uy * uy ≤ S) (hc : c * c / S ≤ d * d) (hd : 0 ≤ d) : uy * c / S ≤ d ∧ 0 - uy * c / S ≤ d := by
 refine sq_le ?_ hd
 refine Rat.le_trans ?_ hc
 have e1 : uy * c / S * (uy * c / S) = (uy * uy / S) * (c * c / S) := by
  rw [Rat.div_def, Rat.div_def, Rat.div_def]; grind
 have e2 : uy * uy / S ≤ 1 := div_le1 hS hu
 have e3 : 0 ≤ c * c / S := div_nn hS (sq_nn c)
 rw [e1]
 have := Rat.mul_nonneg (show 0 ≤ 1 - uy * uy / S by grind) e3
 grind
theorem to_near {x1 y1 x2 y2 x y d : Rat} (h : toP x1 y1 x2 y2 x y ≤ d * d) (hd : 0 ≤ d) : ∃ qx qy, betw x1 x2 qx ∧ betw y1 y2 qy ∧ (qx - x ≤ d ∧ x - qx ≤ d) ∧ qy - y ≤ d ∧ y - qy ≤ d := by
 unfold toP at h
 split at h
 ·rename_i hh
  obtain ⟨h1, h2⟩ := hh
  have hne := sq_nz h1
  have hx := sq_nn (x2 - x1)
  have hy := sq_nn (y2 - y1)
  have hS : 0 < sqP x1 y1 x2 y2 := by
   have : 0 ≤ sqP x1 y1 x2 y2 := by unfold sqP; grind
   grind
  have hD : dotP x1 y1 x2 y2 x y ≤ sqP x1 y1 x2 y2 := by
   unfold dotP sqP at *
   grind
  have t0 := div_nn hS (Rat.le_of_lt h1)
  have t1 := div_le1 hS hD
  have ht : dotP x1 y1 x2 y2 x y / sqP x1 y1 x2 y2 * sqP x1 y1 x2 y2 = dotP x1 y1 x2 y2 x y := Rat.div_mul_cancel hne
  have fx := foot_le (uy := y2 - y1) hS (by unfold sqP; grind) h hd
  have fy := foot_le (uy := x2 - x1) hS (by unfold sqP; grind) h hd
  generalize dotP x1 y1 x2 y2 x y / sqP x1 y1 x2 y2 = t at *
  have ex : (x1 + (x2 - x1) * t) - x = (y2 - y1) * crossP x1 y1 x2 y2 x y / sqP x1 y1 x2 y2 := by
   refine eq_div hne ?_
   have e : ((x1 + (x2 - x1) * t) - x) * sqP x1 y1 x2 y2 = (x1 - x) * sqP x1 y1 x2 y2 + (x2 - x1) * (t * sqP x1 y1 x2 y2) := by grind
   rw [e, ht]
   unfold sqP dotP crossP
   grind
  have ey : 0 - ((y1 + (y2 - y1) * t) - y) = (x2 - x1) * crossP x1 y1 x2 y2 x y / sqP x1 y1 x2 y2 := by
   refine eq_div hne ?_
   have e : (0 - ((y1 + (y2 - y1) * t) - y)) * sqP x1 y1 x2 y2 = (y - y1) * sqP x1 y1 x2 y2 - (y2 - y1) * (t * sqP x1 y1 x2 y2) := by grind
   rw [e, ht]
   unfold sqP dotP crossP
   grind
  rw [← ex] at fx
  rw [← ey] at fy
  refine ⟨_, _, betw_at t0 t1, betw_at t0 t1, ⟨?_, ?_⟩, ?_, ?_⟩ <;> grind
 ·have hb := bestR_mem ltR [sqP x1 y1 x y, sqP x2 y2 x y] (by simp)
  simp only [List.mem_cons, List.not_mem_nil, or_false] at hb
  rcases hb with e | e
  ·rw [e] at h
   exact ⟨x1, y1, betw_left _ _, betw_left _ _, sq_near h hd⟩
  ·rw [e] at h
   exact ⟨x2, y2, betw_right _ _, betw_right _ _, sq_near h hd⟩
theorem cmpR_lt0 (q p : Rat) : cmpR q p < 0 ↔ q < p := by
 unfold cmpR
 split
 ·rename_i h; simp [h]
 ·rename_i h
  split <;> simp [h]
theorem cmpR_eq0 (q p : Rat) : cmpR q p = 0 ↔ q = p := by
 have h1 := cmpR_lt0 q p
 have h2 := cmpR_pos q p
 constructor
 ·intro h
  have n1 : ¬ q < p := fun k => by have := h1.2 k; omega
  have n2 : ¬ p < q := fun k => by have := h2.2 k; omega
  grind
 ·intro h
  have n1 : ¬ cmpR q p < 0 := fun k => by have := h1.1 k; grind
  have n2 : ¬ 0 < cmpR q p := fun k => by have := h2.1 k; grind
  omega
theorem cmpP2_le {a b c e : Rat} (h : cmpP2 a b c e ≤ 0) : a < c ∨ (a = c ∧ b ≤ e) := by
 unfold cmpP2 at h
 split at h
 ·rename_i k
  have := cmpR_lt0 a c
  exact .inl (this.1 (by omega))
 ·rename_i k
  have := (cmpR_eq0 a c).1 (by omega)
  exact .inr ⟨this, (cmpR_le0 b e).1 h⟩
theorem on_betw {x1 y1 x2 y2 x y : Rat} (h : onB x1 y1 x2 y2 x y = true) : betw x1 x2 x ∧ betw y1 y2 y := by
 unfold onB withinB at h
 simp only [Bool.and_eq_true, decide_eq_true_eq, beq_iff_eq] at h
 obtain ⟨⟨h1, h2⟩, h3⟩ := h
 have h3 := (cmpR_eq0 _ _).1 h3
 have h1 := cmpP2_le h1
 have h2 := cmpP2_le h2
 have bx : betw x1 x2 x ∧ (x1 = x2 → betw y1 y2 y) := by
  unfold risP at h1 h2
  unfold betw
  split at h1 <;> rename_i k <;> simp only [k, if_true, if_false] at h2 <;> grind
 refine ⟨bx.1, ?_⟩
 by_cases e : x1 = x2
 ·exact bx.2 e
 ·have hne : x2 - x1 ≠ 0 := by grind
  have hy : y = y1 + (y2 - y1) * ((x - x1) / (x2 - x1)) := by
   have hk : (x - x1) / (x2 - x1) * (x2 - x1) = x - x1 := Rat.div_mul_cancel hne
   generalize (x - x1) / (x2 - x1) = t at *
   have : (y - (y1 + (y2 - y1) * t)) * (x2 - x1) = 0 := by
    have e : (y - (y1 + (y2 - y1) * t)) * (x2 - x1) = (x2 - x1) * (y - y1) - (y2 - y1) * (t * (x2 - x1)) := by grind
    rw [e, hk]; grind
   rcases Rat.mul_eq_zero.1 this with h | h
   ·grind
   ·exact absurd h hne
  have hx := bx.1
  rw [hy]
  refine betw_at ?_ ?_
  ·rcases hx with ⟨a1, a2⟩ | ⟨a1, a2⟩
   ·exact div_nn (by grind) (by grind)
   ·have : (x - x1) / (x2 - x1) = (x1 - x) / (x1 - x2) := by
     refine eq_div (by grind) ?_
     have hk : (x - x1) / (x2 - x1) * (x2 - x1) = x - x1 := Rat.div_mul_cancel hne
     generalize (x - x1) / (x2 - x1) = t at *
     grind
    rw [this]
    exact div_nn (by grind) (by grind)
  ·rcases hx with ⟨a1, a2⟩ | ⟨a1, a2⟩
   ·exact div_le1 (by grind) (by grind)
   ·have : (x - x1) / (x2 - x1) = (x1 - x) / (x1 - x2) := by
     refine eq_div (by grind) ?_
     have hk : (x - x1) / (x2 - x1) * (x2 - x1) = x - x1 := Rat.div_mul_cancel hne
     generalize (x - x1) / (x2 - x1) = t at *
     grind
    rw [this]
    exact div_le1 (by grind) (by grind)
theorem meet_betw {x1 y1 x2 y2 x3 y3 x4 y4 : Rat} (h : 0 < (meetP x1 y1 x2 y2 x3 y3 x4 y4).length) : ∃ x y, (betw x1 x2 x ∧ betw y1 y2 y) ∧ betw x3 x4 x ∧ betw y3 y4 y := by
 unfold meetP at h
 split at h
 ·rename_i hc
  split at h
  ·simp at h
  ·rename_i hn
   have i0 : 0 ≤ partI x1 y1 x2 y2 x3 y3 x4 y4 := by grind
   have i1 : partI x1 y1 x2 y2 x3 y3 x4 y4 ≤ 1 := by grind
   have k0 : 0 ≤ partK x1 y1 x2 y2 x3 y3 x4 y4 := by grind
   have k1 : partK x1 y1 x2 y2 x3 y3 x4 y4 ≤ 1 := by grind
   have hi : partI x1 y1 x2 y2 x3 y3 x4 y4 * crossM x1 y1 x2 y2 x3 y3 x4 y4 = (x3 - x1) * (y4 - y3) - (y3 - y1) * (x4 - x3) := Rat.div_mul_cancel hc
   have hk : partK x1 y1 x2 y2 x3 y3 x4 y4 * crossM x1 y1 x2 y2 x3 y3 x4 y4 = (x3 - x1) * (y2 - y1) - (y3 - y1) * (x2 - x1) := Rat.div_mul_cancel hc
   clear hn h
   generalize partI x1 y1 x2 y2 x3 y3 x4 y4 = I at *
   generalize partK x1 y1 x2 y2 x3 y3 x4 y4 = K at *
   have ex : x1 + (x2 - x1) * I = x3 + (x4 - x3) * K := by
    have : ((x1 + (x2 - x1) * I) - (x3 + (x4 - x3) * K)) * crossM x1 y1 x2 y2 x3 y3 x4 y4 = 0 := by
     have e : ((x1 + (x2 - x1) * I) - (x3 + (x4 - x3) * K)) * crossM x1 y1 x2 y2 x3 y3 x4 y4 = (x1 - x3) * crossM x1 y1 x2 y2 x3 y3 x4 y4 + (x2 - x1) * (I * crossM x1 y1 x2 y2 x3 y3 x4 y4) - (x4 - x3) * (K * crossM x1 y1 x2 y2 x3 y3 x4 y4) := by grind
     rw [e, hi, hk]
     unfold crossM
     grind
    rcases Rat.mul_eq_zero.1 this with h | h
    ·grind
    ·exact absurd h hc
   have ey : y1 + (y2 - y1) * I = y3 + (y4 - y3) * K := by
    have : ((y1 + (y2 - y1) * I) - (y3 + (y4 - y3) * K)) * crossM x1 y1 x2 y2 x3 y3 x4 y4 = 0 := by
     have e : ((y1 + (y2 - y1) * I) - (y3 + (y4 - y3) * K)) * crossM x1 y1 x2 y2 x3 y3 x4 y4 = (y1 - y3) * crossM x1 y1 x2 y2 x3 y3 x4 y4 + (y2 - y1) * (I * crossM x1 y1 x2 y2 x3 y3 x4 y4) - (y4 - y3) * (K * crossM x1 y1 x2 y2 x3 y3 x4 y4) := by grind
     rw [e, hi, hk]
     unfold crossM
     grind
    rcases Rat.mul_eq_zero.1 this with h | h
    ·grind
    ·exact absurd h hc
   refine ⟨_, _, ⟨betw_at i0 i1, betw_at i0 i1⟩, ?_, ?_⟩
   ·rw [ex]; exact betw_at k0 k1
   ·rw [ey]; exact betw_at k0 k1
 ·match hl : endsM x1 y1 x2 y2 x3 y3 x4 y4 with
  | [] => rw [hl] at h; simp [endM] at h
  | p :: l =>
   have hp : p ∈ endsM x1 y1 x2 y2 x3 y3 x4 y4 := by rw [hl]; simp
   have h2 := (List.mem_filter.1 hp).2
   unfold on2 at h2
   rw [Bool.and_eq_true] at h2
   exact ⟨p.1, p.2, on_betw h2.1, on_betw h2.2⟩
theorem near_found {s t : Sg} {d : Rat} (hd : 0 ≤ d) (h : nearG s t ≤ d * d) : nearB s t d = true := by
 unfold nearG nearP at h
 split at h
 ·rename_i hm
  obtain ⟨x, y, ⟨h1, h2⟩, h3, h4⟩ := meet_betw hm
  exact near_of ⟨x, x, h1, h3, by grind, by grind⟩ ⟨y, y, h2, h4, by grind, by grind⟩
 ·have hb := bestR_mem ltR (toL s.ax s.ay s.cx s.cy t.ax t.ay t.cx t.cy) (by simp [toL])
  generalize bestR ltR (toL s.ax s.ay s.cx s.cy t.ax t.ay t.cx t.cy) = m at *
  simp only [toL, List.mem_cons, List.not_mem_nil, or_false] at hb
  rcases hb with e | e | e | e
  ·rw [e] at h
   obtain ⟨qx, qy, h1, h2, h3, h4⟩ := to_near h hd
   exact near_of ⟨qx, t.ax, h1, betw_left _ _, h3⟩ ⟨qy, t.ay, h2, betw_left _ _, h4⟩
  ·rw [e] at h
   obtain ⟨qx, qy, h1, h2, h3, h4⟩ := to_near h hd
   exact near_of ⟨qx, t.cx, h1, betw_right _ _, h3⟩ ⟨qy, t.cy, h2, betw_right _ _, h4⟩
  ·rw [e] at h
   obtain ⟨qx, qy, h1, h2, h3, h4⟩ := to_near h hd
   exact near_of ⟨s.ax, qx, betw_left _ _, h1, h3.2, h3.1⟩ ⟨s.ay, qy, betw_left _ _, h2, h4.2, h4.1⟩
  ·rw [e] at h
   obtain ⟨qx, qy, h1, h2, h3, h4⟩ := to_near h hd
   exact near_of ⟨s.cx, qx, betw_right _ _, h1, h3.2, h3.1⟩ ⟨s.cy, qy, betw_right _ _, h2, h4.2, h4.1⟩
end Go.Proofs.Ytnojfiokdhcbjaa
namespace Go.Proofs.Ytnojfiokdhcbjaa
open Go Go.RowKit Go.Lib Go.Sort Go.Shelf
theorem knownC_ok (B : Nat) : RunOK Try.prog False B 9 knownC := by
 refine runOK_pure (by kernel_rfl) fun avs spec ps hr hp G F w vs hvs => ?_
 split at hr
 ·cases hr
  match vs, hvs with
  | [], _ =>
   refine (known20_any w).mono ?_
   rintro e w' ⟨rfl, h⟩
   exact ⟨_, rfl, fun F' => one_ok (GOk.of .t), own_below h⟩
  | _ :: _, hvs => cases hvs.1
 ·cases hr
theorem gW_ok : ∀ p ∈ gW, ∀ B, RunOK Try.prog False B p.1 p.2 := by
 intro p hp B
 simp only [gW, List.mem_cons, List.not_mem_nil, or_false] at hp
 rcases hp with rfl | rfl | rfl | rfl | rfl
 ·exact knownC_ok B
 ·exact grid_ok B
 ·exact near_ok B
 ·exact mulC_ok B
 ·exact cmpC_ok False B
section
variable {G : Nat → Value} {w : World}
theorem rv_cells {rv : RV} {x : Rat} (h : rv.ok w x) (hx : rlen x ≤ 1000) (F : Nat → Prop) : CsOk (GOk G F w) (qC x 1000) rv.cells := by
 obtain ⟨cs, e, hc⟩ := q_of (G := G) (F := F) (s := 1000) h.1 (by unfold rl; unfold rlen at hx; omega)
 simp only [Value.agg.injEq] at e
 have f : rv.cells = cs := congrArg Array.toList e
 rw [f]
 exact hc
theorem sv_cells {v : SV} {s : Sg} (h : v.ok w s) (hl : SgL s) (F : Nat → Prop) : CsOk (GOk G F w) (qsC [(s.ax, 1000), (s.ay, 1000), (s.cx, 1000), (s.cy, 1000)]) v.cells :=
 (rv_cells h.ax hl.ax F).append ((rv_cells h.ay hl.ay F).append ((rv_cells h.cx hl.cx F).append (rv_cells h.cy hl.cy F)))
theorem segs_ok {v : Value} {l : List Sg} (h : SegSlice w v l) (hc : ∀ o n c, v = .slice o n c → n ≤ c) (hl : ∀ s ∈ l, SgL s) : AV.ok (GOk G (fun g => g < w.heap.size) w) (.s false [.row 16 l.length (segE l 1000)]) v := by
 obtain ⟨o, c, rfl, rfl | ⟨g, rfl, hg, hr⟩⟩ := h
 ·exact one_ok (GOk.of .row0)
 ·have key : ∀ i, i < l.length → ∃ v : SV, (∀ j c, v.cells[j]? = some c → w.cell? ⟨g, i * 16 + j, none⟩ = some c) ∧ CsOk (GOk G (fun g => g < w.heap.size) w) (segE l 1000 i) v.cells := by
   intro i hi
   obtain ⟨v, h1, h2⟩ := hr i l[i] (List.getElem?_eq_getElem hi)
   refine ⟨v, h1, ?_⟩
   have e : l.getD i sg0 = l[i] := by simp [List.getD, hi]
   unfold segE
   rw [e]
   exact sv_cells h2 (hl _ (List.getElem_mem hi)) _
  refine one_ok (GOk.of (.row (fun i j => (w.cell? ⟨g, i * 16 + j, none⟩).getD undef) hg (hc _ _ _ rfl) (fun i hi => rfl) (fun i j hi hj => ?_) fun i j c hi hj => ?_))
  ·obtain ⟨v, h1, h2⟩ := key i hi
   have hlt : j < v.cells.length := hj
   have := h1 j _ (List.getElem?_eq_getElem hlt)
   rw [Nat.zero_add, this]
   rfl
  ·obtain ⟨v, h1, h2⟩ := key i hi
   have hlt : j < v.cells.length := (List.getElem?_eq_some_iff.1 hj).1
   rw [h1 j _ (List.getElem?_eq_getElem hlt)]
   have hk : GOk G (fun g => g < w.heap.size) w c v.cells[j] := h2.2 j c _ hj (List.getElem?_eq_getElem hlt)
   have hq : ∃ x s k, c = .q x s k := by
    have hm := List.mem_of_getElem? hj
    simp only [segE, qsC, List.mem_cons, List.not_mem_nil, or_false] at hm
    rcases hm with rfl | rfl | rfl | rfl | rfl | rfl | rfl | rfl | rfl | rfl | rfl | rfl | rfl | rfl | rfl | rfl <;> exact ⟨_, _, _, rfl⟩
   obtain ⟨x, s, k, rfl⟩ := hq
   exact hk
theorem pairs_ok {v : Value} {l : List (Nat × Nat)} (h : PairRow w v l) : AV.ok (GOk G (fun g => g < w.heap.size) w) (.s false [.row 2 l.length (pairE l)]) v := by
 obtain ⟨o, c, rfl, h1⟩ := h.shape
 match l, h1 with
 | [], _ => exact one_ok (GOk.of .row0)
 | p :: r, h1 =>
  obtain ⟨g, rfl, hc, h2, _⟩ := h1 0 p rfl
  refine one_ok (GOk.of (.row (fun i j => if j = 0 then .int .i64 ((((p :: r).getD i (0, 0)).1 : Nat) : Int) else .int .i64 ((((p :: r).getD i (0, 0)).2 : Nat) : Int)) (World.block_lt_of_cell? _ _ h2) hc (fun i hi => rfl) (fun i j hi hj => ?_) fun i j c hi hj => ?_))
  ·have e : (p :: r).getD i (0, 0) = (p :: r)[i] := by rw [List.getD, List.getElem?_eq_getElem hi]; rfl
   obtain ⟨g', e1, _, k1, k2⟩ := h1 i _ (List.getElem?_eq_getElem hi)
   cases e1
   rw [e, Nat.zero_add]
   match j, hj with
   | 0, _ => exact k1
   | 1, _ => exact k2
  ·match j, hj with
   | 0, hj => cases hj; exact .v _ rfl
   | 1, hj => cases hj; exact .v _ rfl
end
structure FindsAt (A B : List Sg) (X : List (Nat × Nat)) (d : Int) (w0 : World) (a : Act) (w : World) : Prop where
 df : a.defers = []
 sz : a.tmps.size = 104
 b : Below w0.heap.size w0 w
 s2 : a.tmps.getD 2 undef = .int .i64 d
 s7 : SegSlice w (a.tmps.getD 7 undef) A
 c7 : ∀ o n c, a.tmps.getD 7 undef = .slice o n c → n ≤ c
 s9 : SegSlice w (a.tmps.getD 9 undef) B
 c9 : ∀ o n c, a.tmps.getD 9 undef = .slice o n c → n ≤ c
 s11 : PairRow w (a.tmps.getD 11 undef) X
 s12 : a.tmps.getD 12 undef = .int .i64 0
theorem finds_rep {A B : List Sg} {X : List (Nat × Nat)} {d : Int} {w0 w : World} {a : Act} (h : FindsAt A B X d w0 a w) (hA : ∀ s ∈ A, SgL s) (hB : ∀ s ∈ B, SgL s) (G : Nat → Value) :
  Rep False w0.heap.size 104 (fun g => g < w0.heap.size) w0 (AState.mk (slotsF A B X d) []).fs G (fun g => g < w.heap.size) a w := by
 refine ⟨⟨h.b, fun h => h.elim⟩, h.b.size, fun g hg => Nat.lt_of_lt_of_le hg h.b.size, fun g _ => by omega, fun _ hg => hg, fun k b hb => (by cases hb), fun k k' hk => absurd rfl hk, fun k g hk => absurd rfl hk, fun t av ht => ?_, h.sz, h.df⟩
 have ht : lk (slotsF A B X d) t = some av := ht
 simp only [slotsF, lk] at ht
 split at ht
 ·rename_i e; rw [← beq_eq e]; cases ht; rw [h.s2]; exact int_ok
 split at ht
 ·rename_i e; rw [← beq_eq e]; cases ht; exact segs_ok h.s7 h.c7 hA
 split at ht
 ·rename_i e; rw [← beq_eq e]; cases ht; exact segs_ok h.s9 h.c9 hB
 split at ht
 ·rename_i e; rw [← beq_eq e]; cases ht; exact pairs_ok h.s11
 split at ht
 ·rename_i e; rw [← beq_eq e]; cases ht; rw [h.s12]; exact int_ok
 ·cases ht
theorem true_of {G : Nat → Value} {F : Nat → Prop} {w : World} {av : AV} {v : Value} (h : av.ok (GOk G F w) v) (hle : AVle av (.s false [.v (.bool true)])) : v = .bool true :=
 (v_inv (one_inv (hle.h _ _ _ _ h))).1
theorem finds_post {P : Program} {fn : Func} {R : Ending → World → Prop} {D : Prop} {B m : Nat} {F0 : Nat → Prop} {w0 : World} {e : Exit} {a : Act} {w : World} (h : Seen D B m F0 w0 (retVC P fn.results.toList (.s false [.v (.bool true)])) e a w)
  (hR : ∀ w, Below B w0 w → R (.returned (.bool true)) w) : bodyPost P fn R e a w := by
 have fin : ∀ (x : Xt) (s : AState) (G1 : Nat → Value) (F1 : Nat → Prop), retVC P fn.results.toList (.s false [.v (.bool true)]) x s → Rep D B m F0 w0 s.fs G1 F1 a w → a.defers = [] ∧ ∃ v, (results fn a.tmps).run P w = .ok v w ∧ R (.returned v) w := by
  intro x s G1 F1 hr hrep
  have hr' : ∃ av, resAV P s fn.results.toList = some av ∧ AVle av (.s false [.v (.bool true)]) := by
   unfold retVC at hr
   split at hr
   ·split at hr
    ·rename_i av hav; exact ⟨av, hav, hr⟩
    ·exact hr.elim
   ·split at hr
    ·rename_i av hav; exact ⟨av, hav, hr⟩
    ·exact hr.elim
   ·exact hr.elim
  obtain ⟨av, h1, h2⟩ := hr'
  obtain ⟨v, h3, h4⟩ := resAV_ok hrep h1 G1
  have := true_of h4 h2
  subst this
  exact ⟨hrep.df, _, h3, hR w hrep.own.b⟩
 cases e with
 | normal => obtain ⟨s, G1, F1, h1, h2⟩ := h; exact fin _ s G1 F1 h1 h2
 | ret => obtain ⟨s, G1, F1, h1, h2⟩ := h; exact fin _ s G1 F1 h1 h2
 | exit i => obtain ⟨s, G1, F1, h1, h2⟩ := h; exact h1.elim
 | goto l => obtain ⟨s, G1, F1, h1, h2⟩ := h; exact h1.elim
 | panic ch => exact h.elim
 | outgrown => exact h.elim
theorem finds_tail {l m : List PQ} {d : Int} {w0 w : World} {a : Act} {R : Ending → World → Prop} (h : FindsAt (sg14 l) (sg14 m) (pairsS (boxesL (sg14 l) (d : Rat) false) (boxesL (sg14 m) 0 true)) d w0 a w) (hl : ∀ s ∈ sg14 l, SgL s) (hm : ∀ s ∈ sg14 m, SgL s) (hd : 0 ≤ d ∧ d ≤ 1073741824)
  (hR : ∀ w, Below w0.heap.size w0 w → R (.returned (.bool true)) w) : (restC (restC (restC (restC (restC (Try.f6.body.getD .skip)))))).wp Try.prog (bodyPost Try.prog Try.f6 R) a w := by
 have hd' : (0 : Rat) ≤ (d : Rat) := Rat.intCast_nonneg.2 hd.1
 refine wp_mono (vc_ok (ctx_ok gW_ok w0.heap.size) (by kernel_rfl) _ (finds_true (sg14 l) (sg14 m) _ d hd (sg14_len l) (sg14_len m) (pairs_max _ _ _ (sg14_len l) (sg14_len m)) (pairsS_sorted (boxesL_order _ _ _) (boxesL_order _ _ _)) (fun p hp => pairs_lt hp) fun i k hi hk hn => ?_) (finds_rep h hl hm fun _ => undef)) fun e a w hq => finds_post hq hR
 refine Rat.not_le.1 fun hle => hn ?_
 refine pairs_iff.2 ⟨_, _, ?_, ?_, near_found hd' hle⟩
 ·simp [List.getD, hi]
 ·simp [List.getD, hk]
theorem wp_cut {P : Program} {c0 c1 c2 c3 c5 T : Code} {Q : Exit → Act → World → Prop} {a : Act} {w : World} (M : Act → World → Prop) (h : ∀ T' : Code, Hid (∀ a w, M a w → T'.wp P Q a w) → (c0.seq (c1.seq (c2.seq (c3.seq (c5.seq T'))))).wp P Q a w) (hT : ∀ a w, M a w → T.wp P Q a w) : (c0.seq (c1.seq (c2.seq (c3.seq (c5.seq T))))).wp P Q a w :=
 h T (Lib.hid hT)
set_option maxHeartbeats 8000000 in
set_option maxRecDepth 100000 in
theorem sweepFinds_any (l m : List PQ) (u v : Value) (d : Int) (w : World) (hu : PqIs w u l) (hv : PqIs w v m) (hd : I64 d) :
  Calls Try.prog 6 #[u, v, .int .i64 d] w fun e w' => e = .returned (.bool true) ∧ Below w.heap.size w w' := by
 have HU := Lib.hid hu
 have HV := Lib.hid hv
 have HD := Lib.hid hd
 have HLS : Hid (∀ s, s ∈ sg14 l → SgL s) := Lib.hid (sg14_l hu.2.1)
 have HMS : Hid (∀ s, s ∈ sg14 m → SgL s) := Lib.hid (sg14_l hv.2.1)
 clear hu hv hd
 have mixed : Try.prog.follows .mixedOrders = true := by kernel_rfl
 go_enter Try.func6, Try.ntmps6
 refine wp_cut (fun a w' => (0 ≤ d ∧ d ≤ 1073741824) ∧ FindsAt (sg14 l) (sg14 m) (pairsS (boxesL (sg14 l) (d : Rat) false) (boxesL (sg14 m) 0 true)) d w a w') (fun T HT => ?_) (fun a w' ⟨hr, h⟩ => finds_tail h HLS.out HMS.out hr fun w h => ⟨rfl, h⟩)
 go_wp2_with fail
 refine (segs_anyF l u _ HU.out).mono ?_
 rintro e w1 ⟨a1, b1, rfl, ha1, -, hg1, hc1⟩
 have HA1 := Lib.hid ha1
 have HC1 := Lib.hid hc1
 have HG1 := Lib.hid hg1
 have HV1 := Lib.hid (HV.out.still (grown_of_below hg1 none))
 clear ha1 hg1 hc1 HV HU
 go_wp2_with fail
 refine (segs_anyF m v _ HV1.out).mono ?_
 rintro e w2 ⟨a2, b2, rfl, ha2, -, hg2, hc2⟩
 have HA2 := Lib.hid ha2
 have HC2 := Lib.hid hc2
 have HA12 := Lib.hid (HA1.out.still hg2)
 have HG2 : Hid (Below w.heap.size w w2) := HG1.out.trans (hg2.mono HG1.out.size)
 clear ha2 hg2 hc2 HV1 HA1 HG1
 by_cases hlo : d < 0
 ·go_wp2_with fail
  refine (known20_any _).mono ?_
  rintro e w7 ⟨rfl, hg7⟩
  have HG7 : Hid (Below w.heap.size w w7) := HG2.out.trans (hg7.mono HG2.out.size)
  clear hg7 HG2
  go_wp2_with fail
  go_ret
  exact ⟨rfl, HG7.out⟩
 ·by_cases hhi : d > 1073741824
  ·go_wp2_with fail
   refine (known20_any _).mono ?_
   rintro e w7 ⟨rfl, hg7⟩
   have HG7 : Hid (Below w.heap.size w w7) := HG2.out.trans (hg7.mono HG2.out.size)
   clear hg7 HG2
   go_wp2_with fail
   go_ret
   exact ⟨rfl, HG7.out⟩
  ·have HR : Hid (0 ≤ d ∧ d ≤ 1073741824) := Lib.hid (by omega)
   go_wp2_with fail
   refine (pairsU_any (sg14 l) (sg14 m) _ _ d _ HA12.out HA2.out (sg14_len l) (sg14_len m) HD.out HLS.out HMS.out).mono ?_
   rintro e w3 ⟨r3, c3, rfl, hp3, -, hg3⟩
   obtain ⟨hc3, hpr⟩ := hp3 HR.out.1
   have HP3 := Lib.hid hpr
   clear hpr hp3
   subst hc3
   have HA13 := Lib.hid (HA12.out.still hg3)
   have HA23 := Lib.hid (HA2.out.still hg3)
   have HG3 : Hid (Below w.heap.size w w3) := HG2.out.trans (hg3.mono HG2.out.size)
   clear hg3 HA12 HA2 HG2
   go_wp2_with fail
   exact HT.out _ _ ⟨HR.out, rfl, rfl, HG3.out, rfl, HA13.out, HC1.out, HA23.out, HC2.out, HP3.out, rfl⟩
end Go.Proofs.Ytnojfiokdhcbjaa
namespace Go.Proofs.Ytnojfiokdhcbjaa
open Go Go.ChangeShapes Go.WideShapes Go.ChangeAt Go.RowKit
set_option maxRecDepth 100000 in
theorem sweepFinds_lifted (os : Os) (started : os.Started) (H : Type) (enc : TypeId × Value → H) :
  ReturnsInHanded {} Try.checked os 6 .any (Rows.sweepFindsSpec.pre6 enc Try.prog Try.f6 Rows.sweepFindsRow.domain false) (Rows.sweepFindsSpec.post enc Try.prog Try.f6 false true false false) := by
 refine returnsInHanded_of_change (C := Try.checked) Try.own started (by kernel_rfl) Try.func6
  (ChangeSpec.witness6 (enc := enc) (C := Try.checked) false ⟨#[], #[.slice none 0 0, .slice none 0 0, .int .i64 0], []⟩ 8 (by kernel_rfl) (by kernel_rfl) (by kernel_rfl) (by kernel_rfl)) ?_
 intro W base args ds gs before hval0 hW hcnd _
 have hval : ∀ (j : Nat) t v, Try.f6.params[j]? = some t → args[j]? = some v → Value.okWide Try.prog W .any base t v := hval0
 have hW' := hW
 obtain ⟨p, q, hA0, hV, rfl, hfz, hnd⟩ := hW
 have hA : DataW.TrodAll enc Try.prog W 0 (fun _ => true) true Try.f6.params.toList args.toList ds p := hA0
 rw [Try.params6] at hA hval
 obtain ⟨v0, v1, v2, d0, d1, d2, p0, p1, p2, rfl, rfl, rfl, h0, h1, h2⟩ := trodAll_three hA
 obtain ⟨rfl, rfl⟩ := trodVars_none hV
 obtain ⟨l, hl⟩ := open_pairs (hval 0 42 v0 rfl rfl) h0
 obtain ⟨m, hm⟩ := open_pairs (hval 1 42 v1 rfl rfl) h1
 obtain ⟨a, rfl, rfl, rfl, wa⟩ := open_int Try.underlying3 (hval 2 3 v2 rfl rfl) h2
 clear hA0 hval0
 refine (sweepFinds_any l m v0 v1 a W hl hm (rng64_wf wa)).mono fun e W' ⟨he, hb⟩ => ?_
 subst he
 exact ⟨_, rfl, post_true hW' hb rfl rfl rfl (by kernel_rfl)⟩
theorem sweepFinds_holds : Rows.SweepFindsSaid :=
 OpenClaim.holds_of_wide 6 Try.f6 rfl rfl rfl rfl rfl rfl rfl ⟨rfl, rfl, rfl, rfl, rfl⟩ rfl rfl rfl rfl rfl (by kernel_rfl) Try.func6 (by kernel_rfl)
  (of_decide_eq_true (by kernel_rfl)) (by unfold Func.isWrapper; first | (rw [if_pos (by decide +kernel)]; kernel_rfl) | (rw [if_neg (by decide +kernel)]; exact ⟨rfl, rfl⟩))
  (fun os started H enc _ => sweepFinds_lifted os started H enc)
#print axioms sweepFinds_holds
end Go.Proofs.Ytnojfiokdhcbjaa
