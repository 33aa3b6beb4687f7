/-
  deck.Parse: the walk.
-/
import Derived.Test.YtgnjaneddidbbaaDoorDeckX0
import Derived.Test.YtgnjaneddidbbaaDoorDeckLen
import Derived.Deep.AppendLies
import Derived.Deep.RegionLaw
import Derived.Deep.LoopGhost
import Derived.Deep.RegionHeld3
namespace Go.Proofs.YtgnjaneddidbbaaDoor
open Go Go.RowKit

def ParseAt (w : World) (b : Nat) (lv : Value) (ts : List Tok) (fin : Int) (k : Nat) (wr : World) : Prop :=
  ∃ (r : List Tok) (acc : List St) (a : Option Addr) (n c : Nat), r.length < k ∧ QS w wr b lv ts r fin acc (.slice a n c) ∧ n = acc.length ∧ acc.length ≤ 1000 ∧ pDeck ts = pDeckF (r.length + 1) r acc

set_option maxHeartbeats 2000000 in
set_option maxRecDepth 100000 in
theorem parse_bad (s : ByteArray) (w : World) (k : Nat) (hs : s.size ≤ maxLen) (hg : Good w) (hR : Hid (lexS s.data.toList = .error k)) :
    Calls Tryd.prog 14 #[.string s] w fun e w' => e = .returned (.tuple #[.slice none 0 0, .int .i64 k, .int .i64 21]) ∧ Below w.heap.size w w' := by
  have hmf : ∀ (fn : Fn) (first cap : Array Value) (w : World), (Instr.makeFunc fn first cap).run Tryd.prog w = .ok (.func fn first cap) w := fun _ _ _ _ => rfl
  have HG : Hid (∀ w', Below w.heap.size w w' → Good w') := fun w' hb => hg.at hb
  have HB0 : Hid (Below w.heap.size w (((w.alloc (.cells #[.slice none 0 0] 38)).alloc (.cells #[.int .i64 0] 3)).alloc (.cells #[.int .i64 0] 23))) := (((Below.refl _ _).alloc (Nat.le_refl _) _).alloc (by simp) _).alloc (by simp; omega) _
  have H0 := Lib.hid (R3.start w)
  clear hg
  go_enter_defers Tryd.func14, Tryd.ntmps14
  go_wp2_with fail
  refine (tokens_every s _ hs (HG.out _ HB0.out)).mono ?_
  rintro e w1 ⟨hE, hb⟩
  have he := lexEnd_error hE hR.out
  clear hE
  subst he
  have hgr := grown_of_below hb none
  have K := Lib.hid (H0.out.still hgr)
  have HB1 := Lib.hid (HB0.out.trans (hb.mono (by simp; omega)))
  clear hgr hb H0 HB0
  obtain ⟨c1, c2, c3, f1, f2, f3⟩ := K.out.cells
  go_wp2
  have K2 := Lib.hid ((K.out.set1 (.int .i64 k)).set2 (.int .i64 21))
  have HB2 : Hid (Below w.heap.size w ((w1.setCell ⟨w.heap.size + 1, 0, none⟩ (.int .i64 k)).setCell ⟨w.heap.size + 1 + 1, 0, none⟩ (.int .i64 21))) := (HB1.out.setCell (p := ⟨w.heap.size + 1, 0, none⟩) (Nat.le_succ _) _).setCell (p := ⟨w.heap.size + 1 + 1, 0, none⟩) (Nat.le_succ_of_le (Nat.le_succ _)) _
  clear c1 c2 c3 f1 f2 f3 K HB1
  generalize ((w1.setCell ⟨w.heap.size + 1, 0, none⟩ (.int .i64 k)).setCell ⟨w.heap.size + 1 + 1, 0, none⟩ (.int .i64 21)) = w2 at *
  obtain ⟨c1, c2, c3, f1, f2, f3⟩ := K2.out.cells
  go_region
  all_goals
    go_wp2
    have K3 := ((K2.out.set0 (.slice none 0 0)).set1 (.int .i64 k)).set2 (.int .i64 21)
    have HB3 := (((HB2.out.setCell (p := ⟨w.heap.size, 0, none⟩) (Nat.le_refl _) (.slice none 0 0)).setCell (p := ⟨w.heap.size + 1, 0, none⟩) (Nat.le_succ _) (.int .i64 k)).setCell (p := ⟨w.heap.size + 1 + 1, 0, none⟩) (Nat.le_succ_of_le (Nat.le_succ _)) (.int .i64 21))
    refine ⟨_, R3.res (w := _) (x := .slice none 0 0) (y := .int .i64 k) (z := .int .i64 21) ?_ rfl rfl rfl, rfl, ?_⟩
    · first | exact K3 | exact ⟨K3.l, K3.a, K3.e⟩
    · first | exact HB3 | exact HB3.drew

theorem tokRow_of_owns {w : World} {B : Nat} {v : Value} {ts : List Tok} (h : w.ownsRow B 31 4 v ts.length (ts.flatMap tokCells)) : TokRow w v ts ∧ Off v w.heap.size := by
  have hlt := h.lt
  refine ⟨⟨?_, ?_⟩, fun a n c e => ?_⟩
  · obtain ⟨_, ⟨_, h0⟩ | ⟨g, cap, cur, _, _, _, hc, hm, _⟩⟩ := h
    · omega
    · unfold maxLen at hm; omega
  · cases ts with
    | nil =>
      obtain ⟨a, cap, rfl⟩ := owns_nil h
      exact ⟨a, cap, rfl, .inl rfl⟩
    | cons t ts =>
      obtain ⟨g, cap, rfl, _, hg, _, hc⟩ := owns_slice h (by simp)
      exact ⟨_, cap, rfl, .inr ⟨g, rfl, hg, hc⟩⟩
  · subst e
    exact (hlt _ rfl).2

theorem PW.begin {w : World} {lv : Value} {ts : List Tok} {b : Nat} (hb : b = w.heap.size) (h : TokRow w lv ts) (ho : Off lv b) (fin : Int) : PW (w.alloc (.cells #[lv, .int .i64 0, .int .i64 fin, .int .i64 0] 68)) b lv ts ts fin ((0 : Nat) : Int) := by
  subst hb
  refine ⟨?_, ?_, ho, by simp⟩
  · have e : ((ts.length - ts.length : Nat) : Int) = 0 := by simp
    rw [e]
    exact (MapKept.heap_alloc w _).1
  · exact h.grown ho (grown_alloc _ _ _)

theorem TokRow.apart {w w' : World} {lv : Value} {ts : List Tok} {c : Nat} (h : TokRow w lv ts) (hg : w.grownBy w' (some c)) (ho : ∀ a n k, lv = .slice (some a) n k → a.block ≠ c) : TokRow w' lv ts := by
  obtain ⟨h1, a, cap, rfl, h2⟩ := h
  refine ⟨h1, a, cap, rfl, ?_⟩
  rcases h2 with h2 | ⟨g, rfl, hl, hc⟩
  · exact .inl h2
  · exact .inr ⟨g, rfl, Nat.lt_of_lt_of_le hl hg.size, fun j u hu => (World.cell?_of_block (a := ⟨g, j, none⟩) (hg.block g hl (by intro e; exact ho ⟨g, 0, none⟩ _ _ rfl (Option.some.inj e)))).trans (hc j u hu)⟩

/-- A reading's panic is caught: the results say where. -/
theorem parse_caught {R : Ending → World → Prop} {tmps : Array Value} {L : Nat} {pos : Int} {x y z : Value} {w : World} {e : Ending} {chain : List PanicEntry} (he : Thrown pos e) (hch : e = .panicked chain) (hc : R3 w L x y z) (h2 : tmps.getD 2 undef = .pointer (some ⟨L, 0, none⟩)) (h3 : tmps.getD 3 undef = .pointer (some ⟨L + 1, 0, none⟩)) (h4 : tmps.getD 4 undef = .pointer (some ⟨L + 1 + 1, 0, none⟩))
    (hR : ∀ w', Below L w w' → R (.returned (.tuple #[.slice none 0 0, .int .i64 pos, .int .i64 21])) w') :
    bodyPostD Tryd.prog Tryd.f14 R (.panic chain) { tmps := tmps, defers := [{ target := Target.fn (Fn.func 29) #[.pointer (some ⟨L, 0, none⟩), .pointer (some ⟨L + 1, 0, none⟩), .pointer (some ⟨L + 1 + 1, 0, none⟩)], args := #[] }] } w := by
  have hch2 : chain = [{ v := .iface 62 (.agg #[.int .i64 pos]), recovered := false }] := by
    have h1 : e = _ := he
    rw [h1] at hch
    cases hch
    rfl
  subst hch2
  refine leaves_cons (f := 29) (args := #[.pointer (some ⟨L, 0, none⟩), .pointer (some ⟨L + 1, 0, none⟩), .pointer (some ⟨L + 1 + 1, 0, none⟩)]) (by simp) (by simp [go_sem]) ?_
  refine (catch_wrong L x y z pos [] w hc.l hc.a hc.e).mono ?_
  rintro e u' w' ⟨rfl, rfl, ⟨c0, c1, c2⟩, hb⟩
  have hres : (results Tryd.f14 tmps).run Tryd.prog w' = .ok (.tuple #[.slice none 0 0, .int .i64 pos, .int .i64 21]) w' := by
    rw [Array.getD_eq_getD_getElem?] at h2 h3 h4
    simp [results, Tryd.results14, h2, h3, h4, go_sem, c0, c1, c2]
  exact ⟨_, hres, hR w' hb⟩

theorem parse_left {R : Ending → World → Prop} {tmps : Array Value} {L : Nat} {x y z : Value} {w : World} (hc : R3 w L x y z) (h2 : tmps.getD 2 undef = .pointer (some ⟨L, 0, none⟩)) (h3 : tmps.getD 3 undef = .pointer (some ⟨L + 1, 0, none⟩)) (h4 : tmps.getD 4 undef = .pointer (some ⟨L + 1 + 1, 0, none⟩))
    (hR : R (.returned (.tuple #[x, y, z])) w) :
    bodyPostD Tryd.prog Tryd.f14 R .ret { tmps := tmps, defers := [{ target := Target.fn (Fn.func 29) #[.pointer (some ⟨L, 0, none⟩), .pointer (some ⟨L + 1, 0, none⟩), .pointer (some ⟨L + 1 + 1, 0, none⟩)], args := #[] }] } w := by
  refine leaves_cons (f := 29) (args := #[.pointer (some ⟨L, 0, none⟩), .pointer (some ⟨L + 1, 0, none⟩), .pointer (some ⟨L + 1 + 1, 0, none⟩)]) (by simp) (by simp [go_sem]) ?_
  refine (catch_idle _ _ _ w).mono ?_
  rintro e u' w' ⟨rfl, rfl, rfl⟩
  exact ⟨_, hc.res h2 h3 h4, hR⟩

set_option maxHeartbeats 4000000 in
set_option maxRecDepth 100000 in
theorem parse_good (s : ByteArray) (w : World) (ts : List Tok) (hs : s.size ≤ 65536) (hg : Good w) (hR : Hid (lexS s.data.toList = .ok ts)) :
    Calls Tryd.prog 14 #[.string s] w fun e w' => ParseEnd w.heap.size (deckR ts s.size) e w' ∧ Below w.heap.size w w' := by
  have hmf : ∀ (fn : Fn) (first cap : Array Value) (w : World), (Instr.makeFunc fn first cap).run Tryd.prog w = .ok (.func fn first cap) w := fun _ _ _ _ => rfl
  have HG : Hid (∀ w', Below w.heap.size w w' → Good w') := fun w' hb => hg.at hb
  have HB0 : Hid (Below w.heap.size w (((w.alloc (.cells #[.slice none 0 0] 38)).alloc (.cells #[.int .i64 0] 3)).alloc (.cells #[.int .i64 0] 23))) := (((Below.refl _ _).alloc (Nat.le_refl _) _).alloc (by simp) _).alloc (by simp; omega) _
  have H0 := Lib.hid (R3.start w)
  clear hg
  have hmax : s.size ≤ maxLen := by unfold maxLen; omega
  have HMAX := Lib.hid hmax
  clear hmax
  go_enter_defers Tryd.func14, Tryd.ntmps14
  go_wp2_with fail
  refine (tokens_every s _ HMAX.out (HG.out _ HB0.out)).mono ?_
  rintro e w1 ⟨hE, hb⟩
  obtain ⟨v, he, hown⟩ := lexEnd_ok hE hR.out
  clear hE
  subst he
  obtain ⟨htr, hoff⟩ := tokRow_of_owns hown
  obtain ⟨hts, ta, tc, rfl, htc⟩ := htr
  have HT : Hid (TokRow w1 (.slice ta ts.length tc) ts ∧ Off (.slice ta ts.length tc) w1.heap.size) := ⟨⟨hts, ta, tc, rfl, htc⟩, hoff⟩
  have HLO : Hid (∀ a n c, Value.slice ta ts.length tc = .slice (some a) n c → w.heap.size + 3 ≤ a.block) := by
    have h1 := hown.lt
    show ∀ a n c, _
    intro a n c e
    cases e
    have h2 := (h1 a.block rfl).1
    simpa using h2
  have hgr := grown_of_below hb none
  have K := Lib.hid (H0.out.still hgr)
  have HB1 := Lib.hid (HB0.out.trans (hb.mono (by simp; omega)))
  have hsz : w.heap.size + 3 ≤ w1.heap.size := by have := hb.size; simpa using this
  clear hgr hb H0 HB0 hown htc hoff
  obtain ⟨c1, c2, c3, f1, f2, f3⟩ := K.out.cells
  go_wp2_with fail
  have HQ : Hid (QS w (((w1.setCell ⟨w.heap.size + 1, 0, none⟩ (.int .i64 0)).setCell ⟨w.heap.size + 1 + 1, 0, none⟩ (.int .i64 0)).alloc (.cells #[.slice ta ts.length tc, .int .i64 0, .int .i64 s.size, .int .i64 0] 68)) w1.heap.size (.slice ta ts.length tc) ts ts s.size [] (.slice none 0 0)) := by
    have g1 : w1.grownBy _ (some (w.heap.size + 1)) := grown_setCell w1 ⟨w.heap.size + 1, 0, none⟩ (.int .i64 0)
    have g2 : World.grownBy _ _ (some (w.heap.size + 1 + 1)) := grown_setCell (w1.setCell ⟨w.heap.size + 1, 0, none⟩ (.int .i64 0)) ⟨w.heap.size + 1 + 1, 0, none⟩ (.int .i64 0)
    have t1 := HT.out.1.apart g1 (fun a n k e => by have := HLO.out a n k e; omega)
    have t2 := t1.apart g2 (fun a n k e => by have := HLO.out a n k e; omega)
    refine ⟨PW.begin (by simp [World.setCell]) t2 HT.out.2 _, hsz, HLO.out, ((K.out.set1 _).set2 _).still (grown_alloc _ _ _), ⟨[], World.ownsRow_nil _ _ _ _, rfl⟩, (fun c e => by cases e), ?_⟩
    exact ((HB1.out.setCell (p := ⟨w.heap.size + 1, 0, none⟩) (Nat.le_succ _) _).setCell (p := ⟨w.heap.size + 1 + 1, 0, none⟩) (Nat.le_succ_of_le (Nat.le_succ _)) _).alloc (by simp [World.setCell]; omega) _
  clear c1 c2 c3 f1 f2 f3 K HB1 HT HLO HG HMAX hmf
  generalize (((w1.setCell ⟨w.heap.size + 1, 0, none⟩ (.int .i64 0)).setCell ⟨w.heap.size + 1 + 1, 0, none⟩ (.int .i64 0)).alloc (.cells #[.slice ta ts.length tc, .int .i64 0, .int .i64 s.size, .int .i64 0] 68)) = w3 at *
  generalize w1.heap.size = b at *
  go_loopg [24] (ts.length + 1) (fun k u wr => Hid (ParseAt w b (.slice ta ts.length tc) ts s.size k wr))
  case atStart => exact ⟨ts, [], none, 0, 0, Nat.lt_succ_self _, HQ.out, rfl, by simp, rfl⟩
  case round =>
    obtain ⟨r2, acc, va, vn, vc, hlt, hq, rfl, hacc, hpd⟩ := hrel.out
    have Q := Lib.hid hq
    have HPD := Lib.hid hpd
    clear hrel hq hpd
    obtain ⟨k, hk⟩ : ∃ k, ts.length - r2.length = k := ⟨_, rfl⟩
    obtain ⟨_, d1, _, _, _, _⟩ := Q.out.p.ps.cells
    rw [hk] at d1
    obtain ⟨c1, c2, c3, f1, f2, f3⟩ := Q.out.c.cells
    cases r2 with
    | nil =>
      have hkn : ts.length ≤ k := by simp at hk; omega
      have hd1 : decide (k < ts.length) = false := by simp; omega
      have hd2 : decide ((k : Int) < (ts.length : Int)) = false := by simp; omega
      clear hk hlt
      have HF : Hid _ := Lib.hid Q.out.finish
      have HR : Hid (deckR ts s.size = .ok acc) := by
        show _ = _
        rw [deckR, HPD.out]; rfl
      go_wp2_with fail
      refine parse_left HF.out.1 rfl rfl rfl ?_
      rw [HR.out]
      exact HF.out.2
    | cons t r3 =>
      have hl := (rest_cons Q.out.p.rest)
      have hkn : k < ts.length := by have := hl.2.1; simp only [List.length_cons] at hk; omega
      by_cases h1000 : acc.length = 1000
      · have he1 : ((acc.length : Int) == 1000) = true := by rw [h1000]; rfl
        have HR : Hid (deckR ts s.size = .error (posOf (t :: r3) s.size)) := by
          show _ = _
          rw [deckR, HPD.out, List.length_cons, pDeckF, if_pos h1000]
        clear hk hlt hl h1000
        go_wp2_with fail
        refine (fail_at b _ ts (t :: r3) s.size _ _ Q.out.p).mono ?_
        rintro e w5 ⟨he, q, rfl⟩
        have HE := Lib.hid he
        clear he
        obtain rfl : e = _ := HE.out
        refine parse_caught (L := w.heap.size) (pos := posOf (t :: r3) s.size) (x := .slice va acc.length vc) (y := .int .i64 0) (z := .int .i64 0) rfl rfl (Q.out.c.still (grown_drew _ q none)) rfl rfl rfl ?_
        intro w' hb
        rw [HR.out]
        exact ⟨rfl, (Q.out.still (grown_drew _ q none)).below.trans hb⟩
      · have he1 : ((acc.length : Int) == 1000) = false := by simp; omega
        have HS : Hid (wr.grownBy wr.drew none) := grown_drew wr 1 none
        have HPD2 : Hid (pDeck ts = match pStmt (t :: r3) with | .error r1 => .error r1 | .ok (x, r1) => pDeckF (r3.length + 1) r1 (acc ++ [x])) := by
          show _ = _
          rw [HPD.out, List.length_cons, pDeckF, if_neg h1000]
          cases pStmt (t :: r3) with
          | error _ => rfl
          | ok p => cases p; rfl
        have hlt2 : r3.length + 1 < gk := by simpa only [List.length_cons] using hlt
        clear hk hlt hl HPD
        cases hps : pStmt (t :: r3) with
        | error r4 =>
          have HO : Hid (∀ w1, wr.grownBy w1 none → Calls Tryd.prog 31 #[.pointer (some ⟨b, 0, none⟩)] w1 fun e w' => Thrown (posOf r4 s.size) e ∧ R3 w' w.heap.size (.slice va acc.length vc) (.int .i64 0) (.int .i64 0) ∧ Below w.heap.size w w') := by
            show ∀ _, _
            intro w1 hg
            have Q1 := Q.out.still hg
            refine (stmt_at b _ ts (t :: r3) s.size w1 Q1.p).mono fun e w' ho => ?_
            rw [hps] at ho
            exact ⟨ho.1, Q1.c.grown ho.2 (fun k e => by cases e; exact hsz), Q1.below.grown ho.2 (by have := Q1.p.lt; omega) (fun k e => by cases e; omega)⟩
          have HR : Hid (deckR ts s.size = .error (posOf r4 s.size)) := by
            show _ = _
            rw [deckR, HPD2.out, hps]
          clear hps HPD2
          go_wp2_with fail
          refine wp_region_any (by kernel_rfl) ?_
          change wpAny _ _ _ _ _ _ _ (World.drew _)
          refine wpAny_ready (rs := [0, 1]) (by kernel_rfl) (by simp) ?_
          refine AllReady.cons rfl (fun K hK => ?_) ?_
          · go_simp
            refine hK _ _ ?_
            clear hK K
            refine wpAny_ready (rs := [1]) (by kernel_rfl) (by simp) ?_
            refine AllReady.cons rfl (fun K hK => ?_) AllReady.nil
            go_simp
            refine hK _ _ ?_
            clear hK K
            refine wpAny_ready (rs := [2]) (by kernel_rfl) (by simp) ?_
            refine AllReady.cons rfl (fun K hK => ?_) AllReady.nil
            go_simp
            go_at_call 31
            ((refine (HO.out _ HS.out).mono ?_); intro e w5 ⟨he, hc, hb⟩; have HE := Lib.hid he; clear he; obtain rfl : e = _ := HE.out; refine parse_caught (L := w.heap.size) (pos := posOf r4 s.size) (x := .slice va acc.length vc) (y := .int .i64 0) (z := .int .i64 0) rfl rfl hc rfl rfl rfl ?_; intro w' hb2; rw [HR.out]; exact ⟨rfl, hb.trans hb2⟩)
          · refine AllReady.cons rfl (fun K hK => ?_) AllReady.nil
            go_simp
            refine hK _ _ ?_
            clear hK K
            refine wpAny_ready (rs := [0, 2]) (by kernel_rfl) (by simp) ?_
            refine AllReady.cons rfl (fun K hK => ?_) ?_
            · go_simp
              refine hK _ _ ?_
              clear hK K
              refine wpAny_ready (rs := [2]) (by kernel_rfl) (by simp) ?_
              refine AllReady.cons rfl (fun K hK => ?_) AllReady.nil
              go_simp
              go_at_call 31
              ((refine (HO.out _ HS.out).mono ?_); intro e w5 ⟨he, hc, hb⟩; have HE := Lib.hid he; clear he; obtain rfl : e = _ := HE.out; refine parse_caught (L := w.heap.size) (pos := posOf r4 s.size) (x := .slice va acc.length vc) (y := .int .i64 0) (z := .int .i64 0) rfl rfl hc rfl rfl rfl ?_; intro w' hb2; rw [HR.out]; exact ⟨rfl, hb.trans hb2⟩)
            · refine AllReady.cons rfl (fun K hK => ?_) AllReady.nil
              go_simp
              go_at_call 31
              ((refine (HO.out _ HS.out).mono ?_); intro e w5 ⟨he, hc, hb⟩; have HE := Lib.hid he; clear he; obtain rfl : e = _ := HE.out; refine parse_caught (L := w.heap.size) (pos := posOf r4 s.size) (x := .slice va acc.length vc) (y := .int .i64 0) (z := .int .i64 0) rfl rfl hc rfl rfl rfl ?_; intro w' hb2; rw [HR.out]; exact ⟨rfl, hb.trans hb2⟩)
        | ok p =>
          obtain ⟨x, r4⟩ := p
          have HO : Hid (∀ w1, wr.grownBy w1 none → Calls Tryd.prog 31 #[.pointer (some ⟨b, 0, none⟩)] w1 fun e w' => ∃ (A B : NV) (cs : List Value), e = .returned (.agg #[.int .i64 x.kind, .string (bs x.name), .int .i64 A.k, .string A.s, .slice A.a A.n A.c, .int .i64 B.k, .string B.s, .slice B.a B.n B.c, .int .i64 x.rule, .int .i64 x.n, .int .i64 x.d, .int .i64 x.k, .bool x.snap]) ∧
              Hid (QS w w' b (.slice ta ts.length tc) ts r4 s.size acc (.slice va acc.length vc) ∧ NdIs (wr.heap.size ≤ ·) w' x.a A.val ∧ NdIs (wr.heap.size ≤ ·) w' x.b B.val ∧ StRow (fun g => w.heap.size + 3 ≤ g ∧ g ≠ b ∧ some g ≠ (Value.slice va acc.length vc).ownBlock) w' acc cs) ∧
              w'.ownsRow (w.heap.size + 3) 73 13 (.slice va acc.length vc) acc.length cs ∧ w.heap.size + 3 ≤ w'.heap.size ∧ w'.cell? ⟨w.heap.size, 0, none⟩ = some (.slice va acc.length vc) ∧ ∀ o : Obj, (w'.alloc o).cell? ⟨w.heap.size, 0, none⟩ = some (.slice va acc.length vc)) := by
            show ∀ _, _
            intro w1 hg
            have Q1 := Q.out.still hg
            refine (stmt_at b _ ts (t :: r3) s.size w1 Q1.p).mono fun e w' ho => ?_
            rw [hps] at ho
            obtain ⟨v, rfl, ⟨A, B, rfl, ha, hb⟩, hg2, hp2⟩ := ho
            have Q2 := Q1.moved hg2 hp2
            obtain ⟨cs, h1, h2⟩ := Q2.own
            exact ⟨A, B, cs, rfl, ⟨Q2, ha.from hg.size, hb.from hg.size, h2⟩, h1, by have := Q2.p.lt; omega, Q2.c.l.cell, fun o => (Q2.c.still (grown_alloc _ o _)).l.cell⟩
          have HPD3 : Hid (pDeck ts = pDeckF (r4.length + 1) r4 (acc ++ [x])) := by
            show _ = _
            rw [HPD2.out, hps]
            exact pDeckF_fuel _ _ _ _ (by have := pStmt_len hps; simpa only [List.length_cons] using this) (Nat.lt_succ_self _)
          have hl4 : r4.length < r3.length + 1 := by have := pStmt_len hps; simpa only [List.length_cons] using this
          have HV : Hid (∀ c, (Value.slice va acc.length vc).ownBlock = some c → c < wr.heap.size) := by
            obtain ⟨cs, h1, _⟩ := Q.out.own
            exact fun c e => (h1.lt c e).2
          have HBW := Lib.hid Q.out.p.lt
          clear hps HPD2
          obtain ⟨i0, hi, hz0, hz1, hz2⟩ := info_parts info73
          go_wp2_with fail
          refine wp_region_noPanic ?_
          go_region_law (first
            | (refine step_append_lies _ (by rfl) _ _ _ (by rfl) (w.heap.size + 3) 73 i0 _ 13 160 Tryd.underlying38 hi hz0 hz1 hz2 rfl (by decide) _ _ _ (by rfl) (hown5.alloc _) ⟨w5.heap.size, 0, none⟩ 1 1 (stCells x A B) (by rfl) (by rfl) (World.news_of_block (MapKept.heap_alloc w5 _).1) (stCells_one _ _ _) (by decide) (by unfold maxLen; omega) (by omega) (by simp; omega) (w5.heap.size + 1) (by simp) ?_; intro g cap w7 hown7 hgrow hat hlt7; have HR7 := Lib.hid ((hq.out.1.c.still (grown_alloc w5 (.cells (stCells x A B).toArray 73) none)).grown hgrow (fun k e => by have := hq.out.1.nb k e; have := hq.out.1.hb; omega)); have m0 := HR7.out.l.cell; have m1 := HR7.out.l.free)
            | (go_simp; go_at_call 31; refine (HO.out _ HS.out).mono ?_; rintro e w5 ⟨A, B, cs, rfl, hq, hown5, hsz5, q0, q1⟩))
          all_goals
            have HA : Hid (ParseAt w b (.slice ta ts.length tc) ts s.size (r4.length + 1) (w7.setCell ⟨w.heap.size, 0, none⟩ (.slice (some ⟨g, 0, none⟩) (acc.length + 1) cap))) :=
              ⟨r4, acc ++ [x], some ⟨g, 0, none⟩, acc.length + 1, cap, Nat.lt_succ_self _, hq.out.1.push hq.out.2.1 hq.out.2.2.1 HBW.out HV.out hq.out.2.2.2 hown7 hgrow hat, by simp, by simp; omega, HPD3.out⟩
            refine NoPanic.normal ?_
            clear hq hown5 hown7 hgrow hat q0 q1 m0 m1
            go_wp2
            go_roundg (r4.length + 1)
            case measure => omega
            case rel => exact HA

/-- deck.Parse, whatever the string. -/
theorem parse_any (s : ByteArray) (w : World) (hs : s.size ≤ maxLen) (hg : Good w) :
    Calls Tryd.prog 14 #[.string s] w fun e w' => ParseEnd w.heap.size (parseS s.data.toList) e w' ∧ Below w.heap.size w w' := by
  cases hR : lexS s.data.toList with
  | error k =>
    have e : parseS s.data.toList = .error (k : Int) := by rw [parseS, hR]
    rw [e]
    exact parse_bad s w k hs hg hR
  | ok ts =>
    have hsz : s.size ≤ 65536 := by
      rcases Nat.lt_or_ge 65536 s.size with h | h
      · rw [lexS, if_pos (by rw [← Lib.size_eq]; exact h)] at hR
        cases hR
      · exact h
    have e : parseS s.data.toList = deckR ts s.size := by
      simp only [parseS, hR, deckR, ← Lib.size_eq]
      cases pDeck ts <;> rfl
    rw [e]
    exact parse_good s w ts hsz hg hR
end Go.Proofs.YtgnjaneddidbbaaDoor
