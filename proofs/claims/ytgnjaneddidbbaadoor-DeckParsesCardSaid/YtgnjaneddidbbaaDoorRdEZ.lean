/-
  The reference's Parse: what it has in memory; tokens have texts. Tokens, whatever the string: the walk.
  The reference's Parse: the walk.
-/
import Derived.Test.YtgnjaneddidbbaaDoorRdDZ
import Derived.Test.YtgnjaneddidbbaaDoorRdLZ
import Derived.Test.YtgnjaneddidbbaaDoorPaFZ
import Derived.Test.YtgnjaneddidbbaaDoorPlainZ
import Derived.Deep.AppendLies
namespace Go.Proofs.YtgnjaneddidbbaaDoor
open Go Go.RowKit

theorem lexF_text (f : Nat) : ∀ (s : List UInt8) (k : Nat) (acc ts : List Tok), (∀ t ∈ acc, t.text ≠ []) → lexF f s k acc = .ok ts → ∀ t ∈ ts, t.text ≠ [] := by
  induction f with
  | zero => intro s k acc ts ha h; cases h; exact ha
  | succ f ih =>
    intro s k acc ts ha h
    cases s with
    | nil => rw [lexF_nil] at h; cases h; exact ha
    | cons c r =>
      rw [lexF] at h
      have hsnoc : ∀ t : Tok, t.text ≠ [] → ∀ u ∈ acc ++ [t], u.text ≠ [] := by
        intro t ht u hu
        rcases List.mem_append.1 hu with hu | hu
        · exact ha u hu
        · rw [List.mem_singleton.1 hu]; exact ht
      split at h
      · exact ih _ _ _ _ ha h
      · split at h
        · exact ih _ _ _ _ ha h
        · split at h
          · rename_i hs
            split at h
            · cases h
            · refine ih _ _ _ _ (hsnoc _ ?_) h
              have := wordRun_pos (r := r) hs
              intro e
              have e' : wordRun (c :: r) = [] := e
              rw [e'] at this
              exact absurd this (by decide)
          · split at h
            · rename_i hs
              split at h
              · cases h
              · refine ih _ _ _ _ (hsnoc _ ?_) h
                have := digitRun_pos (r := r) hs
                intro e
                have e' : digitRun (c :: r) = [] := e
                rw [e'] at this
                exact absurd this (by decide)
            · split at h
              · exact ih _ _ _ _ (hsnoc _ (by intro e; cases e)) h
              · cases h
theorem lexS_text {s : List UInt8} {ts : List Tok} (h : lexS s = .ok ts) : ∀ t ∈ ts, t.text ≠ [] := by
  rw [lexS] at h
  split at h
  · cases h
  · exact lexF_text _ _ _ _ _ (fun _ h => absurd h (by simp)) h

theorem rtoks_long (s : ByteArray) (w : World) (hs : 65536 < s.size) (hs2 : s.size ≤ maxLen) :
    Calls Tryd.prog 12 #[.string s] w fun e w' => e = .returned (.tuple #[.slice none 0 0, .int .i64 0, .int .i64 21]) ∧ w = w' := by
  unfold maxLen at hs2
  go_enter Tryd.func12, Tryd.ntmps12
  go_wp2
  exact ret3 rfl rfl ⟨rfl, rfl⟩
theorem rtoks_every (s : ByteArray) (w : World) (hs : s.size ≤ maxLen) :
    Calls Tryd.prog 12 #[.string s] w fun e w' => LexEndR w.heap.size (lexS s.data.toList) e w' ∧ Below w.heap.size w w' := by
  by_cases h : 65536 < s.size
  · have hR : lexS s.data.toList = .error 0 := by rw [lexS, if_pos (by rw [← Lib.size_eq]; exact h)]
    rw [hR]
    exact (rtoks_long s w h hs).mono fun e w' ⟨he, hw⟩ => ⟨he, by rw [← hw]; exact Below.refl _ _⟩
  · exact rtokens_any s w (by omega)

theorem rtokRow_of_owns {w : World} {B : Nat} {v : Value} {ts : List Tok} (h : w.ownsRow B 32 4 v ts.length (ts.flatMap tokCells)) : TokRow w v ts ∧ Off v w.heap.size := by
  have hlt := h.lt
  refine ⟨⟨?_, ?_⟩, fun a n c e => ?_⟩
  · obtain ⟨_, ⟨_, h0⟩ | ⟨g, cap, cur, _, _, _, hc, hm, _⟩⟩ := h
    · omega
    · unfold maxLen at hm; omega
  · cases ts with
    | nil =>
      obtain ⟨a, cap, rfl⟩ := owns_nil h
      exact ⟨a, cap, rfl, .inl rfl⟩
    | cons t ts =>
      obtain ⟨g, cap, rfl, _, hg, _, hc⟩ := owns_slice h (by simp)
      exact ⟨_, cap, rfl, .inr ⟨g, rfl, hg, hc⟩⟩
  · subst e
    exact (hlt _ rfl).2

theorem RW.begin {w : World} {lv : Value} {ts : List Tok} {b : Nat} (hb : b = w.heap.size) (h : TokRow w lv ts) (ho : Off lv b) (hne : ∀ t ∈ ts, t.text ≠ []) : RW (w.alloc (.cells #[lv, .int .i64 0, .bool false] 77)) b lv ts ts false := by
  subst hb
  refine ⟨?_, ?_, ho, by simp, hne⟩
  · have e : ((ts.length - ts.length : Nat) : Int) = 0 := by simp
    rw [e]
    exact (MapKept.heap_alloc w _).1
  · exact h.grown ho (grown_alloc _ _ _)

/-- The reader behind a change of blocks that are neither its own nor its tokens'. -/
theorem RW.apart {w w' : World} {b : Nat} {lv : Value} {ts r : List Tok} {bad : Bool} {row : Option Nat} (h : RW w b lv ts r bad) (hg : w.grownBy w' row) (hb : ∀ c, row = some c → b < c) : RW w' b lv ts r bad := by
  refine ⟨(grown_row hg h.lt (fun c e => by have := hb c e; omega)).trans h.rs, ?_, h.off, h.rest, h.ne⟩
  obtain ⟨h1, a, cap, rfl, h2⟩ := h.row
  refine ⟨h1, a, cap, rfl, ?_⟩
  rcases h2 with h2 | ⟨g, rfl, hl, hc⟩
  · exact .inl h2
  · refine .inr ⟨g, rfl, Nat.lt_of_lt_of_le hl hg.size, fun j u hu => (World.cell?_of_block (a := ⟨g, j, none⟩) (grown_row hg hl (fun c e => ?_))).trans (hc j u hu)⟩
    have h3 : g < b := h.off ⟨g, 0, none⟩ _ _ rfl
    have h4 := hb c e
    show g ≠ c
    omega

/-- The reference's Parse at work. -/
structure QR (w w' : World) (b : Nat) (lv : Value) (ts r : List Tok) (bad : Bool) (acc : List St) (v : Value) : Prop where
  p : RW w' b lv ts r bad
  hb : w.heap.size ≤ b
  own : ∃ cs, w'.ownsRow w.heap.size 73 13 v acc.length cs ∧ StRow (fun g => w.heap.size ≤ g ∧ g ≠ b ∧ some g ≠ v.ownBlock) w' acc cs
  nb : ∀ c, v.ownBlock = some c → b < c
  below : Below w.heap.size w w'

section
variable {w w' w'' : World} {b : Nat} {lv : Value} {ts r r' : List Tok} {bad bad' : Bool} {acc : List St} {v : Value}
theorem QR.moved (h : QR w w' b lv ts r bad acc v) (hg : w'.grownBy w'' (some b)) (hp : RW w'' b lv ts r' bad') : QR w w'' b lv ts r' bad' acc v := by
  have hb := h.hb
  obtain ⟨cs, h1, h2⟩ := h.own
  refine ⟨hp, hb, ⟨cs, ?_, ?_⟩, h.nb, h.below.grown hg (by have := h.p.lt; omega) (fun k e => by cases e; omega)⟩
  · refine h1.kept hg (Or.inr ?_)
    intro e
    have := h.nb b e
    omega
  · exact h2.kept hg.size (fun g hl ho => ⟨hg.block g hl (by intro e; exact ho.2.1 (Option.some.inj e)), ho⟩)

/-- A statement more. -/
theorem QR.push {w5 w7 : World} {x : St} {A B : NV} {o : Obj} {g' n' cap' B0 : Nat} (h : QR w w5 b lv ts r bad acc v) (ha : NdIs (B0 ≤ ·) w5 x.a A.val) (hb : NdIs (B0 ≤ ·) w5 x.b B.val) (hB0 : b < B0) (hv0 : ∀ c, v.ownBlock = some c → c < B0)
    {cs : List Value} (h2 : StRow (fun g => w.heap.size ≤ g ∧ g ≠ b ∧ some g ≠ v.ownBlock) w5 acc cs) (hown : w7.ownsRow w.heap.size 73 13 (.slice (some ⟨g', 0, none⟩) n' cap') (acc.length + 1) (cs ++ stCells x A B))
    (hgrow : (w5.alloc o).grownBy w7 v.ownBlock) (hat : v.ownBlock = some g' ∨ g' = w5.heap.size + 1) :
    QR w w7 b lv ts r bad (acc ++ [x]) (.slice (some ⟨g', 0, none⟩) n' cap') := by
  have hbb := h.hb
  have hnb := h.nb
  have e6 : (w5.alloc o).heap.size = w5.heap.size + 1 := by simp
  have hb5 := h.p.lt
  have hs7 := hgrow.size
  rw [e6] at hs7
  have p7 : RW w7 b lv ts r bad := (h.p.grown (grown_alloc w5 o none)).apart hgrow hnb
  have hg'b : b < g' := by
    rcases hat with e | e
    · exact hnb _ e
    · omega
  have hk : ∀ g, g < w5.heap.size → some g ≠ v.ownBlock → w7.heap[g]? = w5.heap[g]? := by
    intro g hl hne
    rw [hgrow.block g (by omega) hne]
    exact (grown_alloc w5 o none).block g hl (by simp)
  have hne' : ∀ g, g < w5.heap.size → some g ≠ v.ownBlock → some g ≠ (Value.slice (some ⟨g', 0, none⟩) n' cap').ownBlock := by
    intro g hl hne e
    have e2 : g = g' := by simpa [Value.ownBlock] using e
    rcases hat with e3 | e3
    · exact hne (by rw [e3, e2])
    · omega
  refine ⟨p7, hbb, ⟨cs ++ stCells x A B, ?_, ?_⟩, ?_, ?_⟩
  · have hl : (acc ++ [x]).length = acc.length + 1 := by simp
    rw [hl]
    exact hown
  · have hsz7 : w5.heap.size ≤ w7.heap.size := by omega
    refine StRow.snoc ?_ ?_ (h2.kept hsz7 (fun g hl ho => ⟨hk g hl ho.2.2, ho.1, ho.2.1, hne' g hl ho.2.2⟩))
    · refine NdIs.kept hsz7 (fun g hl ho => ?_) _ _ ha
      have ho' : B0 ≤ g := ho
      have hne : some g ≠ v.ownBlock := by intro e; have := hv0 g e.symm; omega
      exact ⟨hk g hl hne, by omega, by omega, hne' g hl hne⟩
    · refine NdIs.kept hsz7 (fun g hl ho => ?_) _ _ hb
      have ho' : B0 ≤ g := ho
      have hne : some g ≠ v.ownBlock := by intro e; have := hv0 g e.symm; omega
      exact ⟨hk g hl hne, by omega, by omega, hne' g hl hne⟩
  · intro c e
    have e2 : g' = c := by simpa [Value.ownBlock] using e
    omega
  · exact (h.below.alloc (by have := h.p.lt; omega) o).grown hgrow (by omega) (fun k e => by have := hnb k e; omega)

/-- .. that counts for nothing. -/
theorem QR.waste {w5 w7 : World} {o : Obj} (h : QR w w5 b lv ts r bad acc v) (hgrow : (w5.alloc o).grownBy w7 v.ownBlock) : RW w7 b lv ts r bad ∧ Below w.heap.size w w7 := by
  have hbb := h.hb
  have hnb := h.nb
  have hb5 := h.p.lt
  have e6 : (w5.alloc o).heap.size = w5.heap.size + 1 := by simp
  exact ⟨(h.p.grown (grown_alloc w5 o none)).apart hgrow hnb, (h.below.alloc (by omega) o).grown hgrow (by omega) (fun k e => by have := hnb k e; omega)⟩

theorem QR.finish (h : QR w w' b lv ts r bad acc v) : ParseEnd w.heap.size (.ok acc) (.returned (.tuple #[v, .int .i64 0, .int .i64 0])) w' := by
  obtain ⟨cs, h1, h2⟩ := h.own
  exact ⟨v, cs, rfl, h1, h2.kept (Nat.le_refl _) (fun g _ _ => ⟨rfl, trivial⟩)⟩
end
end Go.Proofs.YtgnjaneddidbbaaDoor

namespace Go.Proofs.YtgnjaneddidbbaaDoor
open Go Go.RowKit

theorem below_drew {B : Nat} {w w' : World} (h : Below B w w') (q : Nat) : Below B w (w'.drewN q) := ⟨h.os, h.tape, h.output, h.size, h.block⟩

def RParseAt (w : World) (b : Nat) (lv : Value) (ts : List Tok) (k : Nat) (u : Value) (wr : World) : Prop :=
  ∃ (r : List Tok) (acc : List St) (a : Option Addr) (n c : Nat), r.length < k ∧ u = .slice a n c ∧ QR w wr b lv ts r false acc (.slice a n c) ∧ n = acc.length ∧ acc.length ≤ 1000 ∧ pDeck ts = pDeckF (r.length + 1) r acc

set_option maxHeartbeats 2000000 in
set_option maxRecDepth 100000 in
theorem rparse_bad (s : ByteArray) (w : World) (k : Nat) (hs : s.size ≤ maxLen) (hR : Hid (lexS s.data.toList = .error k)) :
    Calls Tryd.prog 15 #[.string s] w fun e w' => e = .returned (.tuple #[.slice none 0 0, .int .i64 k, .int .i64 21]) ∧ Below w.heap.size w w' := by
  have HS := Lib.hid hs
  clear hs
  go_enter Tryd.func15, Tryd.ntmps15
  go_wp2_with fail
  refine (rtoks_every s _ HS.out).mono ?_
  rintro e w1 ⟨hE, hb⟩
  rw [hR.out] at hE
  have he : e = .returned (.tuple #[.slice none 0 0, .int .i64 k, .int .i64 21]) := hE
  clear hE
  subst he
  have HB := Lib.hid hb
  clear hb
  go_wp2
  exact ret3 rfl rfl ⟨rfl, HB.out⟩

set_option maxHeartbeats 4000000 in
set_option maxRecDepth 100000 in
theorem rparse_good (s : ByteArray) (w : World) (ts : List Tok) (hs : s.size ≤ 65536) (hR : Hid (lexS s.data.toList = .ok ts)) :
    Calls Tryd.prog 15 #[.string s] w fun e w' => ParseEnd w.heap.size (deckR ts s.size) e w' ∧ Below w.heap.size w w' := by
  have hmax : s.size ≤ maxLen := by unfold maxLen; omega
  have HMAX := Lib.hid hmax
  clear hmax
  go_enter Tryd.func15, Tryd.ntmps15
  go_wp2_with fail
  refine (rtoks_every s _ HMAX.out).mono ?_
  rintro e w1 ⟨hE, hb⟩
  rw [hR.out] at hE
  obtain ⟨v, he, hown⟩ := hE
  subst he
  obtain ⟨htr, hoff⟩ := rtokRow_of_owns hown
  obtain ⟨hts, ta, tc, rfl, htc⟩ := htr
  have HQ : Hid (QR w (w1.alloc (.cells #[.slice ta ts.length tc, .int .i64 0, .bool false] 77)) w1.heap.size (.slice ta ts.length tc) ts ts false [] (.slice none 0 0)) :=
    ⟨RW.begin rfl ⟨hts, ta, tc, rfl, htc⟩ hoff (lexS_text hR.out), hb.size, ⟨[], World.ownsRow_nil _ _ _ _, rfl⟩, (fun c e => by cases e), hb.alloc hb.size _⟩
  clear hown htc hoff hb HMAX
  go_wp2_with fail
  generalize (w1.alloc (.cells #[.slice ta ts.length tc, .int .i64 0, .bool false] 77)) = w3 at *
  generalize w1.heap.size = b at *
  go_loopg [9] (ts.length + 1) (fun k u wr => Hid (RParseAt w b (.slice ta ts.length tc) ts k u wr))
  case atStart => exact ⟨ts, [], none, 0, 0, Nat.lt_succ_self _, rfl, HQ.out, rfl, by simp, rfl⟩
  case round =>
    obtain ⟨r2, acc, va, vn, vc, hlt, rfl, hq, rfl, hacc, hpd⟩ := hrel.out
    have Q := Lib.hid hq
    have HPD := Lib.hid hpd
    clear hrel hq hpd HQ
    obtain ⟨k, hk⟩ : ∃ k, ts.length - r2.length = k := ⟨_, rfl⟩
    obtain ⟨d0, d1, d2, f1, f2⟩ := Q.out.p.rs.cells
    rw [hk] at d1
    cases r2 with
    | nil =>
      have hkn : ts.length ≤ k := by simp at hk; omega
      have hd1 : decide (k < ts.length) = false := by simp; omega
      have hd2 : decide ((k : Int) < (ts.length : Int)) = false := by simp; omega
      clear hk hlt
      have HR : Hid (deckR ts s.size = .ok acc) := by
        show _ = _
        rw [deckR, HPD.out]; rfl
      go_wp2
      refine ret3 rfl rfl ⟨?_, Q.out.below⟩
      rw [HR.out]
      exact Q.out.finish
    | cons t r3 =>
      have hl := (rest_cons Q.out.p.rest)
      have hkn : k < ts.length := by have := hl.2.1; simp only [List.length_cons] at hk; omega
      by_cases h1000 : acc.length = 1000
      · have he1 : ((acc.length : Int) == 1000) = true := by rw [h1000]; rfl
        have HR : Hid (deckR ts s.size = .error (posOf (t :: r3) s.size)) := by
          show _ = _
          rw [deckR, HPD.out, List.length_cons, pDeckF, if_pos h1000]
        obtain ⟨_, _, hfl⟩ := Q.out.p.fails
        have Q2 := Lib.hid (Q.out.moved hfl.out.1 hfl.out.2)
        obtain ⟨g, cap, hlv, hg, hgb, hk1, hn, h0, h1, h2, h3⟩ := Q2.out.p.tok
        cases hlv
        rw [hk] at h3
        obtain ⟨y0, y1, y2, _, _⟩ := Q2.out.p.rs.cells
        rw [hk] at y1
        have HQK := Lib.hid hlt
        clear hk hlt hl h1000 hfl h0 h1 h2 hk1
        go_wp2
        go_quiet (fail)
        go_wp2
        refine ret3 rfl rfl ⟨?_, below_drew Q2.out.below _⟩
        rw [HR.out]
        rfl
      · have he1 : ((acc.length : Int) == 1000) = false := by simp; omega
        have HPD2 : Hid (pDeck ts = match pStmt (t :: r3) with | .error r1 => .error r1 | .ok (x, r1) => pDeckF (r3.length + 1) r1 (acc ++ [x])) := by
          show _ = _
          rw [HPD.out, List.length_cons, pDeckF, if_neg h1000]
          cases pStmt (t :: r3) with
          | error _ => rfl
          | ok p => cases p; rfl
        have hlt2 : r3.length + 1 < gk := by simpa only [List.length_cons] using hlt
        clear hk hlt hl HPD
        have HBW := Lib.hid Q.out.p.lt
        have HV : Hid (∀ c, (Value.slice va acc.length vc).ownBlock = some c → c < wr.heap.size) := by
          obtain ⟨cs, h1, _⟩ := Q.out.own
          exact fun c e => (h1.lt c e).2
        obtain ⟨i0, hi, hz0, hz1, hz2⟩ := info_parts info73
        go_wp2_with fail
        refine (rstmt_at b _ ts r3 t _ Q.out.p).mono ?_
        rintro e w5 ⟨x, A, B, rfl, hg5, hp5, htr⟩
        cases hps : pStmt (t :: r3) with
        | error r4 =>
          rw [hps] at hp5
          have Q5 := Lib.hid (Q.out.moved hg5 (show RW w5 b _ ts r4 true from hp5))
          obtain ⟨cs, hown5, _⟩ := Q5.out.own
          have HR : Hid (deckR ts s.size = .error (posOf r4 s.size)) := by
            show _ = _
            rw [deckR, HPD2.out, hps]
          have hsz5 : w.heap.size ≤ w5.heap.size := Q5.out.below.size
          clear hps HPD2 hg5 hp5 htr Q d0 d1 d2 f1 f2 HBW HV
          simp only [stVal, stCells]
          go_wp2_with (at_builtin; go_must (refine wpList_append_lies _ rfl _ _ 38 rfl w.heap.size 73 i0 _ 13 160 Tryd.underlying38 hi hz0 hz1 hz2 rfl (by decide) _ _ _ rfl (hown5.alloc _) ⟨w5.heap.size, 0, none⟩ 1 1 (stCells x A B) rfl rfl (World.news_of_block (MapKept.heap_alloc w5 _).1) (stCells_one _ _ _) (by decide) (by unfold maxLen; omega) (by omega) (by simp; omega) (w5.heap.size + 1) (by simp) ?_))
          intro g cap w7 hown7 hgrow hat hlt7
          have HW := Lib.hid (Q5.out.waste hgrow)
          clear hown7 hgrow hat hlt7 hown5
          cases r4 with
          | nil =>
            obtain ⟨y0, y1, y2, _, _⟩ := HW.out.1.rs.cells
            rw [rest_nil] at y1
            go_wp2
            refine ret3 rfl rfl ⟨?_, HW.out.2⟩
            rw [HR.out]
            rfl
          | cons t4 r4 =>
            obtain ⟨y0, y1, y2, _, _⟩ := HW.out.1.rs.cells
            obtain ⟨gg, gcap, hlv, hgg, hgb, hk1, hn, h0, h1, h2, h3⟩ := HW.out.1.tok
            cases hlv
            generalize ts.length - (t4 :: r4).length = k4 at *
            clear h0 h1 h2
            go_wp2
            go_quiet (fail)
            go_wp2
            refine ret3 rfl rfl ⟨?_, below_drew HW.out.2 _⟩
            rw [HR.out]
            rfl
        | ok pr =>
          obtain ⟨y, r4⟩ := pr
          rw [hps] at hp5
          obtain ⟨rfl, ha, hb⟩ := htr y r4 hps
          have Q5 := Lib.hid (Q.out.moved hg5 (show RW w5 b _ ts r4 false from hp5))
          obtain ⟨cs, hown5, hrow5⟩ := Q5.out.own
          have HROW := Lib.hid hrow5
          have HAB := Lib.hid (And.intro ha hb)
          have hsz5 : w.heap.size ≤ w5.heap.size := Q5.out.below.size
          have HPD3 : Hid (pDeck ts = pDeckF (r4.length + 1) r4 (acc ++ [y])) := by
            show _ = _
            rw [HPD2.out, hps]
            exact pDeckF_fuel _ _ _ _ (by have := pStmt_len hps; simpa only [List.length_cons] using this) (Nat.lt_succ_self _)
          have hl4 : r4.length < r3.length + 1 := by have := pStmt_len hps; simpa only [List.length_cons] using this
          clear hps HPD2 hg5 hp5 htr Q d0 d1 d2 f1 f2 hrow5 ha hb
          simp only [stVal, stCells]
          go_wp2_with (at_builtin; go_must (refine wpList_append_lies _ rfl _ _ 38 rfl w.heap.size 73 i0 _ 13 160 Tryd.underlying38 hi hz0 hz1 hz2 rfl (by decide) _ _ _ rfl (hown5.alloc _) ⟨w5.heap.size, 0, none⟩ 1 1 (stCells y A B) rfl rfl (World.news_of_block (MapKept.heap_alloc w5 _).1) (stCells_one _ _ _) (by decide) (by unfold maxLen; omega) (by omega) (by simp; omega) (w5.heap.size + 1) (by simp) ?_))
          intro g cap w7 hown7 hgrow hat hlt7
          have Q7 := Lib.hid (Q5.out.push HAB.out.1 HAB.out.2 HBW.out HV.out HROW.out hown7 hgrow hat)
          have HA : Hid (RParseAt w b (.slice ta ts.length tc) ts (r4.length + 1) (.slice (some ⟨g, 0, none⟩) (acc.length + 1) cap) w7) :=
            ⟨r4, acc ++ [y], some ⟨g, 0, none⟩, acc.length + 1, cap, Nat.lt_succ_self _, rfl, Q7.out, by simp, by simp; omega, HPD3.out⟩
          obtain ⟨y0, y1, y2, _, _⟩ := Q7.out.p.rs.cells
          clear hown7 hgrow hat hlt7 hown5 Q5 y0 y1
          go_wp2
          go_roundg (r4.length + 1)
          case measure => omega
          case rel => exact HA

/-- The reference's Parse, whatever the string. -/
theorem rparse_any (s : ByteArray) (w : World) (hs : s.size ≤ maxLen) :
    Calls Tryd.prog 15 #[.string s] w fun e w' => ParseEnd w.heap.size (parseS s.data.toList) e w' ∧ Below w.heap.size w w' := by
  cases hR : lexS s.data.toList with
  | error k =>
    have e : parseS s.data.toList = .error (k : Int) := by rw [parseS, hR]
    rw [e]
    exact rparse_bad s w k hs hR
  | ok ts =>
    have hsz : s.size ≤ 65536 := by
      rcases Nat.lt_or_ge 65536 s.size with h | h
      · rw [lexS, if_pos (by rw [← Lib.size_eq]; exact h)] at hR
        cases hR
      · exact h
    have e : parseS s.data.toList = deckR ts s.size := by
      simp only [parseS, hR, deckR, ← Lib.size_eq]
      cases pDeck ts <;> rfl
    rw [e]
    exact rparse_good s w ts hsz hR
end Go.Proofs.YtgnjaneddidbbaaDoor
