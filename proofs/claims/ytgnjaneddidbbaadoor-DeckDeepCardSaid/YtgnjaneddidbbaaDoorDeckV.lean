/-
  The parser's stmt, whatever the tokens.
-/
import Derived.Test.YtgnjaneddidbbaaDoorDeckT1
import Derived.Test.YtgnjaneddidbbaaDoorDeckT2
import Derived.Test.YtgnjaneddidbbaaDoorDeckT4
import Derived.Test.YtgnjaneddidbbaaDoorDeckT5
namespace Go.Proofs.YtgnjaneddidbbaaDoor
open Go Go.RowKit

set_option maxHeartbeats 1000000 in
set_option maxRecDepth 100000 in
theorem stmt_none (b : Nat) (lv : Value) (ts r : List Tok) (fin : Int) (w : World) (h : PW w b lv ts r fin ((0 : Nat) : Int)) (hs : Hid (seesR r [w_input, w_let, w_check, w_small, w_write] = false)) :
    Calls Tryd.prog 31 #[.pointer (some ⟨b, 0, none⟩)] w fun e w' => StOut w b lv ts fin (.error r) e w' := by
  have S0 := Lib.hid (SS.start h)
  clear h
  have pb := S0.out.pcell
  have pb2 := fun o => (S0.out.alloc o).pcell
  go_enter Tryd.func31, Tryd.ntmps31
  go_wp2_with fail
  refine (sees_w b lv ts r fin _ _ [w_input, w_let, w_check, w_small, w_write] false _ hs (S0.out.alloc _).p (txtRow_at _ _ [w_input, w_let, w_check, w_small, w_write] _ _ _ _ rfl rfl (by simp) (by simp))).mono ?_
  rintro e w1 ⟨rfl, hg⟩
  have S1 := Lib.hid ((S0.out.alloc _).still hg)
  clear hg S0 pb pb2
  have pb := S1.out.pcell
  go_wp2_with fail
  refine (fail_at b lv ts r fin _ _ S1.out.p).mono ?_
  rintro e w9 ⟨he, q, rfl⟩
  have HE := Lib.hid he
  clear he
  obtain rfl : e = _ := HE.out
  exact ⟨rfl, out_error rfl rfl (grown_trans S1.out.g (grown_drew _ q _))⟩

theorem kindNo_none {t : Tok} {r : List Tok} (h : seesR (t :: r) [w_input, w_let, w_check, w_small, w_write] = false) : kindNo t = 0 := by
  simp only [seesR, List.contains_cons, List.contains_nil, Bool.or_false] at h
  unfold kindNo isT
  cases hk : (t.kind != 2)
  · rfl
  · rw [hk] at h
    simp only [Bool.true_and, Bool.or_eq_false_iff] at h
    rw [h.1, h.2.1, h.2.2.1, h.2.2.2.1, h.2.2.2.2]; rfl
theorem kindNo_is {t : Tok} {r : List Tok} (h : seesR (t :: r) [w_input, w_let, w_check, w_small, w_write] = true) :
    (t.text = w_input ∧ kindNo t = 1) ∨ (t.text = w_let ∧ kindNo t = 2) ∨ (t.text = w_check ∧ kindNo t = 3) ∨ (t.text = w_small ∧ kindNo t = 4) ∨ (t.text = w_write ∧ kindNo t = 5) := by
  simp only [seesR, List.contains_cons, List.contains_nil, Bool.or_false, Bool.and_eq_true, Bool.or_eq_true, beq_iff_eq] at h
  unfold kindNo isT
  rw [h.1]
  rcases h.2 with e | e | e | e | e <;> rw [e] <;> decide

theorem stmt_at (b : Nat) (lv : Value) (ts r : List Tok) (fin : Int) (w : World) (h : PW w b lv ts r fin ((0 : Nat) : Int)) :
    Calls Tryd.prog 31 #[.pointer (some ⟨b, 0, none⟩)] w fun e w' => StOut w b lv ts fin (pStmt r) e w' := by
  cases hs : seesR r [w_input, w_let, w_check, w_small, w_write]
  · have e : pStmt r = .error r := by
      cases r with
      | nil => rfl
      | cons t r => rw [pStmt, if_pos (kindNo_none hs)]
    rw [e]
    exact stmt_none b lv ts r fin w h hs
  · cases r with
    | nil => cases hs
    | cons t r =>
      have ee : ∀ k, kindNo t = k → k ≠ 0 → pStmt (t :: r) = (pName r).then fun s r2 => (pMust [61] r2).then fun _ r3 => sBody k s r3 := fun k hk h0 => by rw [pStmt, if_neg (by rw [hk]; exact h0), hk]
      have q : ∀ (x y : List UInt8) (β : Bool), (x == y) = β → t.text = x → ((bs t.text).toList == y) = β := fun x y β h1 h2 => by rw [bs_toList, h2]; exact h1
      rcases kindNo_is hs with ⟨ht, hk⟩ | ⟨ht, hk⟩ | ⟨ht, hk⟩ | ⟨ht, hk⟩ | ⟨ht, hk⟩
      · exact stmt_input b lv ts r fin t _ w h hs (q _ _ _ (by decide) ht) (ee 1 hk (by decide))
      · exact stmt_let b lv ts r fin t _ w h hs (q _ _ _ (by decide) ht) (q _ _ _ (by decide) ht) (ee 2 hk (by decide))
      · exact stmt_check b lv ts r fin t _ w h hs (q _ _ _ (by decide) ht) (q _ _ _ (by decide) ht) (q _ _ _ (by decide) ht) (ee 3 hk (by decide))
      · exact stmt_small b lv ts r fin t _ w h hs (q _ _ _ (by decide) ht) (q _ _ _ (by decide) ht) (q _ _ _ (by decide) ht) (q _ _ _ (by decide) ht) (ee 4 hk (by decide))
      · exact stmt_write b lv ts r fin t _ w h hs (q _ _ _ (by decide) ht) (q _ _ _ (by decide) ht) (q _ _ _ (by decide) ht) (q _ _ _ (by decide) ht) (q _ _ _ (by decide) ht) (ee 5 hk (by decide))
end Go.Proofs.YtgnjaneddidbbaaDoor
