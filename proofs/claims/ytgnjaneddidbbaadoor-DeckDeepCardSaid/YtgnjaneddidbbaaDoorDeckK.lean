/-
  The parser's one, whatever the tokens, out of expr at fewer tokens: the walk.
-/
import Derived.Test.YtgnjaneddidbbaaDoorDeckJ
import Derived.Test.YtgnjaneddidbbaaDoorDeckGr
namespace Go.Proofs.YtgnjaneddidbbaaDoor
open Go Go.RowKit

def ExprC (m : Nat) : Prop := ∀ (b : Nat) (lv : Value) (ts r : List Tok) (fin : Int) (d : Nat) (w : World), r.length ≤ m → d ≤ 64 → PW w b lv ts r fin d →
  Calls Tryd.prog 53 #[.pointer (some ⟨b, 0, none⟩)] w fun e w' => ExOut w b lv ts fin d (pEx d r) e w'
def BothC (m : Nat) : Prop := ∀ (b : Nat) (lv : Value) (ts r : List Tok) (fin : Int) (d : Nat) (w : World), r.length ≤ m → d ≤ 64 → PW w b lv ts r fin d →
  Calls Tryd.prog 82 #[.pointer (some ⟨b, 0, none⟩)] w fun e w' => ExOut w b lv ts fin d (pBoth d r) e w'
def OneC (m : Nat) : Prop := ∀ (b : Nat) (lv : Value) (ts r : List Tok) (fin : Int) (d : Nat) (w : World), r.length ≤ m → d ≤ 64 → PW w b lv ts r fin d →
  Calls Tryd.prog 91 #[.pointer (some ⟨b, 0, none⟩)] w fun e w' => ExOut w b lv ts fin d (pOne d r) e w'

set_option maxHeartbeats 1000000 in
set_option maxRecDepth 100000 in
theorem one_paren (m b : Nat) (lv : Value) (ts r : List Tok) (fin : Int) (d : Nat) (t : Tok) (w : World) (he : ExprC m) (hm : r.length ≤ m) (hd : d < 64) (h : PW w b lv ts (t :: r) fin d) (h0 : Hid (pMust [40] (t :: r) = .ok ((), r))) (h1 : Hid (seesR (t :: r) [w_empty] = false)) (h2 : Hid (seesR (t :: r) [w_boxes] = false)) (h3 : Hid (seesR (t :: r) [[40]] = true)) :
    Calls Tryd.prog 91 #[.pointer (some ⟨b, 0, none⟩)] w fun e w' => ExOut w b lv ts fin d ((pEx (d + 1) r).then fun n r1 => (pMust [41] r1).then fun _ r2 => .ok (n, r2)) e w' := by
  have S0 := Lib.hid (OS.start h)
  clear h
  go_enter Tryd.func91, Tryd.ntmps91
  go_wp2_with fail
  refine (sees_w b lv ts (t :: r) fin d _ [w_empty] _ _ h1 (S0.out.alloc _).p (txtRow_one _ _ w_empty _ _ _ rfl (by simp))).mono ?_
  rintro e w1 ⟨rfl, hg1⟩
  have S1 := Lib.hid ((S0.out.alloc _).still hg1)
  clear hg1 S0
  go_wp2_with fail
  refine (sees_w b lv ts (t :: r) fin d _ [w_boxes] _ _ h2 (S1.out.alloc _).p (txtRow_one _ _ w_boxes _ _ _ rfl rfl)).mono ?_
  rintro e w2 ⟨rfl, hg1⟩
  have S2 := Lib.hid ((S1.out.alloc _).still hg1)
  clear hg1 S1
  go_wp2_with fail
  refine (sees_w b lv ts (t :: r) fin d _ [[40]] _ _ h3 (S2.out.alloc _).p (txtRow_one _ _ [40] _ _ _ rfl rfl)).mono ?_
  rintro e w3 ⟨rfl, hg1⟩
  have S3 := Lib.hid ((S2.out.alloc _).still hg1)
  clear hg1 S2
  go_wp2_with fail
  refine (open_at b lv ts (t :: r) fin d _ S3.out.p).mono ?_
  intro e w4 ho
  rcases out_cases ho with ⟨u, r1, v, hp, rfl, hv, hg, hw⟩ | ⟨r1, hp, he, hg⟩
  · have hr : r1 = r := by
      have hp2 := hp.out
      rw [if_neg (by omega), h0.out] at hp2
      cases hp2
      rfl
    have S4 := Lib.hid (S3.out.moved hg hw)
    clear hg hw S3 ho hp hv
    subst hr
    go_wp2_with fail
    refine (he b lv ts r1 fin (d + 1) _ hm (by omega) S4.out.p).mono ?_
    intro e w5 ho
    rcases out_cases ho with ⟨n, r2, v, hp, rfl, hv, hg, hw⟩ | ⟨r2, hp, he, hg⟩
    · obtain ⟨xk, xs, xa, xn, xc, rfl⟩ := hv.agg
      have HN : Hid (NdIs (w.heap.size + 1 ≤ ·) w5 (Ex.nd n) (.agg #[.int .i64 xk, .string xs, .slice xa xn xc])) := hv.from S4.out.size
      have S5 := Lib.hid (S4.out.moved hg hw)
      have HZ : Hid (w4.heap.size ≤ w5.heap.size) := hg.size
      clear hg hw S4 ho hv
      obtain ⟨k0, k1, k2, f0, f1, f2⟩ := (Blk3.new w5 (.int .i64 0) (.string ⟨#[]⟩) (.slice none 0 0)).cells
      go_wp2_with fail
      refine (shut_at b lv ts r2 fin d _ (S5.out.alloc _).p hd).mono ?_
      intro e w6 ho
      have HB5 : Hid (Blk3 (w5.alloc (.cells #[.int .i64 xk, .string xs, .slice xa xn xc] 71)) w5.heap.size (.int .i64 xk) (.string xs) (.slice xa xn xc)) := Blk3.new _ _ _ _
      rcases out_cases ho with ⟨_, r3, v, hp2, rfl, hv, hg, hw⟩ | ⟨r3, hp2, he, hg⟩
      · have S6 := Lib.hid ((S5.out.alloc _).moved hg hw)
        have HB6 : Hid (Blk3 w6 w5.heap.size (.int .i64 xk) (.string xs) (.slice xa xn xc)) := HB5.out.grown hg (by intro e; have := Option.some.inj e; have := S5.out.size; have := S5.out.hb; omega)
        have HN6 : Hid (NdIs (w.heap.size + 1 ≤ ·) w6 (Ex.nd n) (.agg #[.int .i64 xk, .string xs, .slice xa xn xc])) := (HN.out.grown (grown_alloc w5 (.cells #[.int .i64 xk, .string xs, .slice xa xn xc] 71) (some b)) (by have := S5.out.hb; omega)).grown hg (by have := S5.out.hb; omega)
        clear hg hw S5 ho hv HN HB5
        obtain ⟨k0, k1, k2, f0, f1, f2⟩ := S6.out.n.cells
        obtain ⟨l0, l1, l2, _, _, _⟩ := HB6.out.cells
        go_wp2
        exact node_ret rfl rfl rfl (S6.out.n.stored _ _ _) (S6.out.done _ _ _ HN6.out (f := Ex.nd) (a := n) rfl (by rw [hp.out, PR.then_ok, hp2.out]; rfl))
      · have HE := Lib.hid he
        clear he ho
        obtain rfl : e = _ := HE.out
        exact ⟨rfl, out_error (by rw [hp.out, PR.then_ok, hp2.out]; rfl) rfl (grown_trans (S5.out.alloc _).g hg)⟩
    · have HE := Lib.hid he
      clear he ho
      obtain rfl : e = _ := HE.out
      exact ⟨rfl, out_error (by rw [hp.out]; rfl) rfl (grown_trans S4.out.g hg)⟩
  · have hp2 := hp.out
    rw [if_neg (by omega), h0.out] at hp2
    cases hp2

set_option maxHeartbeats 1000000 in
set_option maxRecDepth 100000 in
theorem one_deep (b : Nat) (lv : Value) (ts r : List Tok) (fin : Int) (d : Nat) (t : Tok) (w : World) (hd : 64 ≤ d) (h : PW w b lv ts (t :: r) fin d) (h1 : Hid (seesR (t :: r) [w_empty] = false)) (h2 : Hid (seesR (t :: r) [w_boxes] = false)) (h3 : Hid (seesR (t :: r) [[40]] = true)) :
    Calls Tryd.prog 91 #[.pointer (some ⟨b, 0, none⟩)] w fun e w' => ExOut w b lv ts fin d (.error (t :: r)) e w' := by
  have S0 := Lib.hid (OS.start h)
  clear h
  go_enter Tryd.func91, Tryd.ntmps91
  go_wp2_with fail
  refine (sees_w b lv ts (t :: r) fin d _ [w_empty] _ _ h1 (S0.out.alloc _).p (txtRow_one _ _ w_empty _ _ _ rfl (by simp))).mono ?_
  rintro e w1 ⟨rfl, hg1⟩
  have S1 := Lib.hid ((S0.out.alloc _).still hg1)
  clear hg1 S0
  go_wp2_with fail
  refine (sees_w b lv ts (t :: r) fin d _ [w_boxes] _ _ h2 (S1.out.alloc _).p (txtRow_one _ _ w_boxes _ _ _ rfl rfl)).mono ?_
  rintro e w2 ⟨rfl, hg1⟩
  have S2 := Lib.hid ((S1.out.alloc _).still hg1)
  clear hg1 S1
  go_wp2_with fail
  refine (sees_w b lv ts (t :: r) fin d _ [[40]] _ _ h3 (S2.out.alloc _).p (txtRow_one _ _ [40] _ _ _ rfl rfl)).mono ?_
  rintro e w3 ⟨rfl, hg1⟩
  have S3 := Lib.hid ((S2.out.alloc _).still hg1)
  clear hg1 S2
  go_wp2_with fail
  refine (open_deep b lv ts (t :: r) fin d _ S3.out.p hd).mono ?_
  intro e w4 ⟨he, hg⟩
  have HE := Lib.hid he
  clear he
  obtain rfl : e = _ := HE.out
  exact ⟨rfl, out_error rfl rfl (grown_trans S3.out.g hg)⟩

theorem one_of {m : Nat} (he : ExprC m) : OneC (m + 1) := by
  intro b lv ts r fin d w hm hd h
  cases r with
  | nil =>
    rw [pOne_nil]
    exact one_name b lv ts [] fin d w h rfl rfl rfl
  | cons t r =>
    simp only [List.length_cons] at hm
    rw [pOne_cons]
    have e1 : seesR (t :: r) [w_empty] = isT t w_empty := seesR_one _ _ _
    have e2 : seesR (t :: r) [w_boxes] = isT t w_boxes := seesR_one _ _ _
    have e3 : seesR (t :: r) [[40]] = isT t [40] := seesR_one _ _ _
    cases h1 : isT t w_empty
    · rw [if_neg (by decide)]
      cases h2 : isT t w_boxes
      · rw [if_neg (by decide)]
        cases h3 : isT t [40]
        · rw [if_neg (by decide)]
          exact one_name b lv ts (t :: r) fin d w h (e1.trans h1) (e2.trans h2) (e3.trans h3)
        · rw [if_pos rfl]
          by_cases hd2 : 64 ≤ d
          · rw [if_pos hd2]
            exact one_deep b lv ts r fin d t w hd2 h (e1.trans h1) (e2.trans h2) (e3.trans h3)
          · rw [if_neg hd2]
            exact one_paren m b lv ts r fin d t w he (by omega) (by omega) h (by rw [pMust, h3]; rfl) (e1.trans h1) (e2.trans h2) (e3.trans h3)
      · rw [if_pos rfl]
        exact one_boxes b lv ts r fin d t w h (e1.trans h1) (e2.trans h2)
    · rw [if_pos rfl]
      exact one_empty b lv ts r fin d t w h (e1.trans h1)
theorem oneC_zero : OneC 0 := by
  intro b lv ts r fin d w hm hd h
  cases r with
  | nil =>
    rw [pOne_nil]
    exact one_name b lv ts [] fin d w h rfl rfl rfl
  | cons t r => simp at hm
end Go.Proofs.YtgnjaneddidbbaaDoor
