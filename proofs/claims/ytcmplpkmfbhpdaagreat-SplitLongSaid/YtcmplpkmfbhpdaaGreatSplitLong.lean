/-
  SplitLong returns true for every input; each argument reads behind the call as it read before. No condition.
-/
import Derived.Test.YtcmplpkmfbhpdaaGreatRows
import Derived.Test.YtcmplpkmfbhpdaaGreatSpL
import Derived.WalkKit
import Derived.ProofKit
namespace Go.Proofs.YtcmplpkmfbhpdaaGreat
open Go Go.ChangeShapes Go.WideShapes Go.ChangeAt Go.RowKit
theorem Tryz.own : ownKnob Tryz.prog.godebug = none := by kernel_rfl
theorem Tryz.laidOutAll : laidOutB Tryz.prog = true := by kernel_rfl
theorem trodAll_below {P : Program} (hL : laidOutB P = true) {H : Type} {enc : TypeId × Value → H} {W W' : World} (hb : Below W.heap.size W W') : ∀ {ts : List TypeId} {vs : List Value} {ds : List (DataW H)} {ps : List MemPlace},
  (ts.all fun t => P.readableRec t && decide (t < P.types.size)) = true → DataW.TrodAll enc P W 0 (fun _ => true) true ts vs ds ps → (∀ x ∈ ps, x.block < W.heap.size) →
  DataW.TrodAll enc P W' 0 (fun b => decide (b < W.heap.size)) true ts vs ds ps := by
 intro ts
 induction ts with
 | nil =>
  intro vs ds ps _ h _
  cases vs <;> cases ds <;> simp_all [DataW.TrodAll]
 | cons t ts ih =>
  intro vs ds ps hr h hlt
  obtain ⟨v, vs', d, ds', p, q, rfl, rfl, rfl, h1, h2⟩ := trodAll_cons h
  simp only [List.all_cons, Bool.and_eq_true, decide_eq_true_eq] at hr
  exact ⟨p, q, Below.trod hL hr.1.1 hr.1.2 h1 hb (fun x hx => hlt x (List.mem_append.2 (.inl hx))),
   ih (by simpa using hr.2) h2 (fun x hx => hlt x (List.mem_append.2 (.inr hx))), rfl⟩
theorem post_true {H : Type} {enc : TypeId × Value → H} {f : Func} {s : ChangeSpec} {W W' : World} {args : Array Value} {ds : List (DataW H)} {before : List MemPlace}
  (hW : DataW.Whole enc Tryz.prog f.params.toList s.vars false W args.toList ds [] before) (hb : Below W.heap.size W W') (hvars : s.vars = [])
  (hspec : s.fn H (ds ++ []) = { results := [.lit (.bool true)], args := ds }) (hres : f.resultTypes = #[4])
  (hread : (f.params.toList.all fun t => Tryz.prog.readableRec t && decide (t < Tryz.prog.types.size)) = true) :
  s.post enc Tryz.prog f false true false false W args (.bool true) W' := by
 have hlt := hW.lt
 have hW' := hW
 obtain ⟨p, q, hA, hV, rfl, hfz, hnd⟩ := hW
 rw [hvars] at hV
 have hq : q = [] := hV
 subst hq
 refine ⟨ds, [], _, [], p, [], hW', ?_, ?_, ?_, hb.frame _, fun h => by cases h⟩
 ·rw [hspec, hres]
  exact trodAll_mk1 (shut_bool Tryz.underlying4 true)
 ·rw [hspec]
  exact trodAll_below Tryz.laidOutAll hb hread hA (fun x hx => hlt x (by simpa using hx))
 ·rw [hspec, hvars]
  rfl
end Go.Proofs.YtcmplpkmfbhpdaaGreat
namespace Go.Proofs.YtcmplpkmfbhpdaaGreat
open Go Go.RowKit
def zC4 : List Cell := [.v (.slice none 0 0), .f, .v (.slice none 0 0), .f]
def zSg : List Cell := [.v (.slice none 0 0), .f, .v (.slice none 0 0), .f, .v (.slice none 0 0), .f, .v (.slice none 0 0), .f, .v (.slice none 0 0), .f, .v (.slice none 0 0), .f, .v (.slice none 0 0), .f, .v (.slice none 0 0), .f]
theorem limbs_one' : (limbs 1).length = 1 := by rw [limbs_pos (by decide)]; simp [limbs_zero]
theorem rl_zero : rl 0 ≤ 1 := by
 unfold rl
 have h1 : (0 : Rat).num.natAbs = 0 := rfl
 have h2 : (0 : Rat).den = 1 := rfl
 rw [h1, h2, limbs_zero, limbs_one']
 exact Nat.le_refl _
theorem zq_le : CsLe zC4 (qC 0 1) := by
 have h1 : (0 : Rat).num.natAbs = 0 := rfl
 have h2 : (0 : Rat).den = 1 := rfl
 have vv : ∀ {G : Nat → GV} {F : Nat → Prop} {w : World} {x v : Value}, GOk G F w (.v x) v → v = x := fun h => (v_inv h).1
 have ff : ∀ {G : Nat → GV} {F : Nat → Prop} {w : World} {v : Value}, GOk G F w .f v → v = .bool false := fun {G F w v} h => by
  have h' : COk F w .f v := h
  cases h'; rfl
 refine CsLe.cons ⟨fun G F w v hv => ?_⟩ (CsLe.cons ⟨fun G F w v hv => ?_⟩ (CsLe.cons ⟨fun G F w v hv => ?_⟩ (CsLe.cons ⟨fun G F w v hv => ?_⟩ CsLe.nil)))
 ·rw [vv hv]
  exact GOk.of (.q ⟨none, by rw [h1, limbs_zero]; rfl, by rw [h1, limbs_zero]; exact .inl rfl⟩ rl_zero)
 ·rw [ff hv]
  exact GOk.of (.q rfl rl_zero)
 ·rw [vv hv]
  exact GOk.of (.q ⟨none, 0, by rw [limbs_zero]; rfl, by rw [limbs_zero]; exact .inl rfl, .inr ⟨rfl, h2⟩⟩ rl_zero)
 ·rw [ff hv]
  exact GOk.of (.q rfl rl_zero)
theorem CsLe.app {a b c d : List Cell} (h : CsLe a b) (k : CsLe c d) : CsLe (a ++ c) (b ++ d) := by
 refine ⟨by simp [h.len, k.len], fun i x y h1 h2 => ?_⟩
 rcases Nat.lt_or_ge i a.length with hi | hi
 ·rw [List.getElem?_append_left hi] at h1
  rw [List.getElem?_append_left (by rw [← h.len]; exact hi)] at h2
  exact h.h i x y h1 h2
 ·rw [List.getElem?_append_right hi] at h1
  rw [List.getElem?_append_right (by rw [← h.len]; exact hi), ← h.len] at h2
  exact k.h _ x y h1 h2
theorem zsg_le : CsLe zSg (sqC sq0 1) := CsLe.app (a := zC4) (b := qC 0 1) zq_le (CsLe.app (a := zC4) (b := qC 0 1) zq_le (CsLe.app (a := zC4) (b := qC 0 1) zq_le zq_le))
theorem sgsL_zero (n : Nat) : sgsL n (fun _ => zSg) = List.replicate n sq0 := by
 unfold sgsL
 apply List.ext_getElem?
 intro i
 rw [List.getElem?_map, List.getElem?_replicate]
 rcases Nat.lt_or_ge i n with hi | hi
 ·rw [List.getElem?_range hi, if_pos hi]
  rfl
 ·rw [List.getElem?_eq_none (by simpa using hi), if_neg (by omega)]
  rfl
theorem rep_get (n i : Nat) : (List.replicate n sq0).getD i sq0 = sq0 := by
 simp only [List.getD, List.getElem?_replicate]
 split <;> rfl
theorem meet_sq0 : meetQ sq0 sq0 = [(0, 0)] := by decide +kernel
theorem of_zero (n : Nat) : ofP (List.replicate n sq0) = [] := by
 refine ofP_eq ⟨List.Pairwise.nil, fun t => ⟨fun k => (List.not_mem_nil k).elim, ?_⟩⟩
 rintro ⟨_, i, h1, h2, h3, h4, _⟩
 have pt : ∀ p, CutS (List.replicate n sq0) i p → p = (0, 0) := by
  intro p hp
  unfold CutS at hp
  simp only [rep_get, meet_sq0, List.mem_cons, List.not_mem_nil, or_false] at hp
  rcases hp with h | h | ⟨_, _, _, h⟩
  ·exact h
  ·exact h
  ·exact h
 rw [pt _ h2, pt _ h3] at h4
 exact absurd h4 (ltPq_irrefl _)
set_option maxRecDepth 100000 in
theorem spl_true (n : Int) : vc Tryz.prog (lk gSl) Tryz.f3.ntmps [] (Tryz.f3.body.getD .skip) ⟨entryS [.s false [.v (.int .i64 n)]] 0, []⟩ (retVC Tryz.prog Tryz.f3.results.toList (.s false [.v (.bool true)])) := by
 rw [spl_vc]
 have hm : ∃ N : Nat, IntKind.i64.wrap (19990 + IntKind.i64.wrap (Int.tmod (IntKind.u64.wrap n) 20)) = (N : Int) ∧ 19990 ≤ N ∧ N < 20010 := by
  have e : IntKind.u64.wrap n = n % 18446744073709551616 := by simp [IntKind.wrap, IntKind.bits, IntKind.signed]
  rw [e]
  have h0 : 0 ≤ n % 18446744073709551616 := by omega
  have e2 : Int.tmod (n % 18446744073709551616) 20 = n % 18446744073709551616 % 20 := Int.tmod_eq_emod_of_nonneg h0
  rw [e2, IntKind.wrap_i64, IntKind.wrap_i64]
  exact ⟨(19990 + n % 18446744073709551616 % 20).toNat, by omega, by omega, by omega⟩
 obtain ⟨N, hN, h1, h2⟩ := hm
 have z1 : ∀ m, ofP (sgsL m (fun _ => [Cell.v (Value.slice none 0 0), .f, .v (.slice none 0 0), .f, .v (.slice none 0 0), .f, .v (.slice none 0 0), .f, .v (.slice none 0 0), .f, .v (.slice none 0 0), .f, .v (.slice none 0 0), .f, .v (.slice none 0 0), .f])) = [] := fun m => by
  have := sgsL_zero m
  unfold zSg at this
  rw [this, of_zero]
 have z2 : ∀ m, ofP (sgsL m (fun _ => List.map cellV (Array.toList (Value.cells (Value.agg #[Value.slice none 0 0, Value.bool false, Value.slice none 0 0, Value.bool false, Value.slice none 0 0, Value.bool false, Value.slice none 0 0, Value.bool false, Value.slice none 0 0, Value.bool false, Value.slice none 0 0, Value.bool false, Value.slice none 0 0, Value.bool false, Value.slice none 0 0, Value.bool false]))))) = [] := fun m => z1 m
 have z3 : ∀ m i, (sgsL m (fun _ => [Cell.v (Value.slice none 0 0), .f, .v (.slice none 0 0), .f, .v (.slice none 0 0), .f, .v (.slice none 0 0), .f, .v (.slice none 0 0), .f, .v (.slice none 0 0), .f, .v (.slice none 0 0), .f, .v (.slice none 0 0), .f])).getD i sq0 = sq0 := fun m i => by
  have := sgsL_zero m
  unfold zSg at this
  rw [this, rep_get]
 simp only [hN, z1, z2, z3, Int.toNat_natCast]
 refine ⟨by omega, trivial, by omega, by omega, by omega, fun _ _ => rfl, fun _ _ => zsg_le, by omega, fun hl => ?_, fun hl => ?_⟩
 ·have hl' : 20000 < N := by have := of_decide_eq_true hl; omega
  have e : ((if 20000 < N then (2 : Int) else 0) == 2) = true := by rw [if_pos hl']; rfl
  refine ⟨fun _ _ => rfl, fun _ _ => zsg_le, by omega, fun _ => ⟨fun _ => ⟨trivial, e, AVle.bool rfl⟩, fun h => ?_⟩, fun h => by cases h⟩
  rw [e] at h
  cases h
 ·refine ⟨fun _ => ⟨fun _ => ⟨trivial, rfl, AVle.bool rfl⟩, fun h => by cases h⟩, fun h => by cases h⟩
def splS : Spec
 | [.i _] => some (.s false [.v (.bool true)], [])
 | _ => none
set_option maxRecDepth 100000 in
theorem spl_ok (B : Nat) : RunOK Tryz.prog False B 3 (runC splS) := by
 refine fn_specR (c := Tryz.f3.body.getD .skip) (ctx_ok gSl_ok) (by kernel_rfl) Tryz.func3 (by kernel_rfl) (by kernel_rfl) ?_ B
 intro pvs av ps h hp
 unfold splS at h
 split at h
 ·rename_i n
  cases h
  exact ⟨[.s false [.v (.int .i64 n)]], [], AvsLe.refl _, by rw [Tryz.ntmps3]; simp, spl_true n⟩
 ·cases h
theorem call_of {P : Program} {D : Prop} {f : FuncId} {run : Run} (h : RunOK P D 0 f run) {avs : List AV} {b : Bool} {e : Eff} {w : World} {vs : List Value} (hr : run (fun _ => none) avs 0 = some e) (hp : allP e.ps) (hv : e.val = some (.s false [.v (.bool b)]))
  {F : Nat → Prop} {G : Nat → GV} (hF : ∀ g, F g → g < w.heap.size) (hvs : AvsOk (GOk G F w) avs vs) : Calls P f vs.toArray w fun en w' => en = .returned (.bool b) ∧ Below w.heap.size w w' := by
 refine (h.2 (fun _ => none) avs 0 e hr hp G F w vs ⟨Nat.zero_le _, hF, fun k b h => (by cases h), fun k k' h => absurd rfl h, fun k g h => absurd rfl h, fun t av h => (by cases h)⟩ hvs).mono ?_
 rintro en w' ⟨v, rfl, G', F', p⟩
 have h1 := p.v _ hv
 have h2 := (v_inv (one_inv h1)).1
 subst h2
 exact ⟨rfl, p.os, p.tape, p.out, p.sz, fun g hg => p.h g hg fun k _ hk => absurd rfl hk⟩
end Go.Proofs.YtcmplpkmfbhpdaaGreat
namespace Go.Proofs.YtcmplpkmfbhpdaaGreat
open Go Go.ChangeShapes Go.WideShapes Go.ChangeAt Go.RowKit
set_option maxRecDepth 100000 in
theorem splitLong_lifted (os : Os) (started : os.Started) (H : Type) (enc : TypeId × Value → H) :
  ReturnsInHanded {} Tryz.checked os 3 .any (Rows.splitLongSpec.pre6 enc Tryz.prog Tryz.f3 Rows.splitLongRow.domain false) (Rows.splitLongSpec.post enc Tryz.prog Tryz.f3 false true false false) := by
 refine returnsInHanded_of_change (C := Tryz.checked) Tryz.own started (by kernel_rfl) Tryz.func3
  (ChangeSpec.witness6 (enc := enc) (C := Tryz.checked) false ⟨#[], #[.int .i64 0], []⟩ 8 (by kernel_rfl) (by kernel_rfl) (by kernel_rfl) (by kernel_rfl)) ?_
 intro W base args ds gs before hval0 hW hcnd _
 have hval : ∀ (j : Nat) t v, Tryz.f3.params[j]? = some t → args[j]? = some v → Value.okWide Tryz.prog W .any base t v := hval0
 have hW' := hW
 obtain ⟨p, q, hA0, hV, rfl, hfz, hnd⟩ := hW
 have hA : DataW.TrodAll enc Tryz.prog W 0 (fun _ => true) true Tryz.f3.params.toList args.toList ds p := hA0
 rw [Tryz.params3] at hA hval
 obtain ⟨v0, d0, rfl, rfl, h0⟩ := trodAll_one hA
 obtain ⟨rfl, rfl⟩ := trodVars_none hV
 obtain ⟨a, rfl, rfl, rfl, -⟩ := open_int Tryz.underlying3 (hval 0 3 v0 rfl rfl) h0
 clear hA0 hval0
 have hrun : runC splS (fun _ => none) [.s false [.v (.int .i64 a)]] 0 = some { val := some (.s false [.v (.bool true)]), ps := [] } := rfl
 refine (call_of (spl_ok 0) (w := W) (vs := [.int .i64 a]) (F := fun _ => False) (G := fun _ => ⟨undef, fun _ => False⟩) hrun trivial rfl (fun _ h => h.elim) ⟨rfl, fun i av v h1 h2 => ?_⟩).mono fun e W' ⟨he, hb⟩ => ?_
 ·match i, h1, h2 with
  | 0, h1, h2 => cases h1; cases h2; exact one_ok (GOk.of (.v _ rfl))
 ·subst he
  exact ⟨_, rfl, post_true hW' hb rfl rfl rfl (by kernel_rfl)⟩
theorem splitLong_holds : Rows.SplitLongSaid :=
 OpenClaim.holds_of_wide 3 Tryz.f3 rfl rfl rfl rfl rfl rfl rfl ⟨rfl, rfl, rfl, rfl, rfl⟩ rfl rfl rfl rfl rfl (by kernel_rfl) Tryz.func3 (by kernel_rfl)
  (of_decide_eq_true (by kernel_rfl)) (by unfold Func.isWrapper; first | (rw [if_pos (by decide +kernel)]; kernel_rfl) | (rw [if_neg (by decide +kernel)]; exact ⟨rfl, rfl⟩))
  (fun os started H enc _ => splitLong_lifted os started H enc)
#print axioms splitLong_holds
end Go.Proofs.YtcmplpkmfbhpdaaGreat
