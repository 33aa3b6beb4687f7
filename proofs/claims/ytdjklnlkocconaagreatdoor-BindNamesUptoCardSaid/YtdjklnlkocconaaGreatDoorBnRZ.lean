/-
  The reference's names of an expression and of a statement, each with the type as which it is used: two rows.
  bind.Type, the reference's Type: where a name is given first, and what its statement gives.
-/
import Derived.Test.YtdjklnlkocconaaGreatDoorBnQZ
import Derived.Test.YtdjklnlkocconaaGreatDoorSmAZ
import Derived.Test.YtdjklnlkocconaaGreatDoorPaFZ
import Derived.Maps.AppendAt
namespace Go.Proofs.YtdjklnlkocconaaGreatDoor
open Go Go.RowKit

def strU (us : List Use) : List Value := us.map fun u => .string (bs u.1)
def intU (us : List Use) : List Value := us.map fun u => .int .i64 u.2
theorem strU_app (us vs : List Use) : strU (us ++ vs) = strU us ++ strU vs := by simp [strU]
theorem intU_app (us vs : List Use) : intU (us ++ vs) = intU us ++ intU vs := by simp [intU]
theorem strU_one (us : List Use) : ∀ u ∈ strU us, u.oneCell' = true := by
  intro u hu
  obtain ⟨x, _, rfl⟩ := List.mem_map.1 hu
  rfl
theorem intU_one (us : List Use) : ∀ u ∈ intU us, u.oneCell' = true := by
  intro u hu
  obtain ⟨x, _, rfl⟩ := List.mem_map.1 hu
  rfl

theorem info9 : (Tryz.prog.info? 9).map (fun i => (i.zero, i.size, i.bytes)) = some (some (.string ⟨#[]⟩), 1, 16) := by kernel_rfl
theorem info3 : (Tryz.prog.info? 3).map (fun i => (i.zero, i.size, i.bytes)) = some (some (.int .i64 0), 1, 8) := by kernel_rfl

/-- 'append(own, xs...)', xs another row of the call's own, nil or not; and where the new row lies. -/
theorem wpList_append_at {P : Program} (w : World) {ops : Array Oper} {rest : List Oper} {o : Oper} {a : Act} {Q : Exit → Act → World → Prop} (hgd : o.guard = none) (s x : Operand) (t : TypeId)
    (ho : o.op = .call { callee := .builtin .append, args := #[s, x], argTypes := #[t, t] })
    (base : Nat) (e : TypeId) (i : TypeInfo) (z : Value) (size bytes : Nat) (ht : P.underlying t = some (.slice e)) (hi : P.info? e = some i) (hz : i.zero = some z)
    (hsize : i.size = size) (hby : i.bytes = bytes) (hzs : z.cells.size = size) (hsz : 0 < size)
    (v : Value) (n : Nat) (xs : List Value) (hs : a.eval s = v) (hown : w.ownsRow base e size v n xs)
    (xv : Value) (base2 : Nat) (m : Nat) (news : List Value) (hx : a.eval x = xv) (hsrc : w.ownsRow base2 e size xv m news) (h1 : ∀ u ∈ news, u.oneCell' = true)
    (h63 : n + m ≤ maxLen) (hbytes : (n + m) * bytes ≤ 140737488355328) (hbase : base ≤ w.heap.size)
    (h : ∀ v' w', w'.ownsRow base e size v' (n + m) (xs ++ news) → w.grownBy w' v.ownBlock → (v'.ownBlock = v.ownBlock ∨ v'.ownBlock = some w.heap.size) → wpList P ops Q rest (a.put o.dst v') w') : wpList P ops Q (o :: rest) a w := by
  refine wpList_plain hgd fun K hK => ?_
  have hl := hsrc.1
  have hcs := fun g hg => hsrc.cells (g := g) hg
  rcases hsrc.2 with ⟨rfl, rfl⟩ | ⟨g, cap, cur, rfl, _⟩
  · have hn : news = [] := List.eq_nil_of_length_eq_zero (by simpa using hl)
    subst hn
    have hrun := run_append_owned_none (P := P) (w := w) base t o.type e i size ht hi v n xs hown
    unfold Oper.wp
    simp [execOp, ho, resolve, invoke, builtin, hs, hx, hrun, Result.andThen]
    exact hK _ _ (h v w (by simpa using hown) ⟨rfl, rfl, rfl, Nat.le_refl _, fun _ _ _ => rfl⟩ (.inl rfl))
  · obtain ⟨v', w', hr, h2, h3, _, h5⟩ := run_append_own_at (P := P) w base t o.type e i z size bytes ht hi hz hsize hby hzs hsz v n xs hown ⟨g, 0, none⟩ m cap news hl (hcs g rfl) h1 h63 hbytes hbase
    unfold Oper.wp
    simp [execOp, ho, resolve, invoke, builtin, hs, hx, hr, Result.andThen]
    exact hK _ _ (h v' w' h2 h3 h5)

/-- A row that a literal has laid. -/
theorem owns_lit {w : World} {b B : Nat} {t : TypeId} {xs : List Value} (hb : w.heap[b]? = some (.cells xs.toArray t (0, 0))) (hB : B ≤ b) (hn : xs.length ≤ maxLen) : w.ownsRow B t 1 (.slice (some ⟨b, 0, none⟩) xs.length xs.length) xs.length xs :=
  ⟨by simp, .inr ⟨b, xs.length, xs.toArray, rfl, hB, hb, Nat.le_refl _, hn, by simp, by simp⟩⟩

/-- Two rows: names and types. -/
structure NS (w w' : World) (us : List Use) (va vb : Value) : Prop where
  below : Below w.heap.size w w'
  ra : w'.ownsRow w.heap.size 9 1 va us.length (strU us)
  rb : w'.ownsRow w.heap.size 3 1 vb us.length (intU us)
  dj : ∀ g, va.ownBlock = some g → vb.ownBlock ≠ some g

theorem NS.still {w w' w'' : World} {us : List Use} {va vb : Value} (h : NS w w' us va vb) (hg : w'.grownBy w'' none) : NS w w'' us va vb := by
  refine ⟨h.below.grown hg h.below.size (fun _ e => by cases e), h.ra.kept hg ?_, h.rb.kept hg ?_, h.dj⟩
  · cases va.ownBlock with
    | none => exact .inl rfl
    | some k => exact .inr (by simp)
  · cases vb.ownBlock with
    | none => exact .inl rfl
    | some k => exact .inr (by simp)

/-- A row stays while another one is appended to. -/
theorem owns_other {w w' : World} {B : Nat} {e : TypeId} {size : Nat} {v : Value} {n : Nat} {xs : List Value} {row : Option Nat} (h : w.ownsRow B e size v n xs) (hg : w.grownBy w' row) (hn : ∀ g, row = some g → v.ownBlock ≠ some g) : w'.ownsRow B e size v n xs := by
  refine h.kept hg ?_
  cases hv : v.ownBlock with
  | none => exact .inl rfl
  | some k =>
    refine .inr ?_
    intro e
    exact hn k e.symm hv

/-- The first append of two: the names. -/
theorem NS.names {w w' w1 w2 : World} {us vs : List Use} {va vb vm vn va' : Value} (h : NS w w1 us va vb) (k : NS w1 w' vs vm vn) (hg : w'.grownBy w2 va.ownBlock)
    (hat : va'.ownBlock = va.ownBlock ∨ va'.ownBlock = some w'.heap.size) :
    Below w.heap.size w w2 ∧ w2.ownsRow w.heap.size 3 1 vb us.length (intU us) ∧ w2.ownsRow w1.heap.size 3 1 vn vs.length (intU vs) ∧ (∀ g, va'.ownBlock = some g → vb.ownBlock ≠ some g) ∧ (∀ g, va'.ownBlock = some g → vn.ownBlock ≠ some g) ∧ (∀ g, vb.ownBlock = some g → g < w1.heap.size) ∧ (∀ g, va'.ownBlock = some g → g < w1.heap.size ∨ g = w'.heap.size) := by
  have hlt : ∀ g, va.ownBlock = some g → w.heap.size ≤ g ∧ g < w1.heap.size := fun g e => h.ra.lt g e
  have hltb : ∀ g, vb.ownBlock = some g → w.heap.size ≤ g ∧ g < w1.heap.size := fun g e => h.rb.lt g e
  have hltn : ∀ g, vn.ownBlock = some g → w1.heap.size ≤ g ∧ g < w'.heap.size := fun g e => k.rb.lt g e
  have hs := h.below.size
  have hs2 := k.below.size
  have hB : Below w.heap.size w w' := h.below.trans (k.below.mono hs)
  have hb1 : w'.ownsRow w.heap.size 3 1 vb us.length (intU us) := owns_below h.rb k.below
  refine ⟨hB.grown hg hB.size (fun g e => (hlt g e).1), owns_other hb1 hg (fun g e => h.dj g e), owns_other k.rb hg (fun g e e2 => by have := hlt g e; have := hltn g e2; omega), ?_, ?_, fun g e => (hltb g e).2, ?_⟩
  · intro g e e2
    rcases hat with h1 | h1
    · exact h.dj g (h1.symm.trans e) e2
    · have := Option.some.inj (h1.symm.trans e)
      have := hltb g e2
      omega
  · intro g e e2
    have hn := hltn g e2
    rcases hat with h1 | h1
    · have := hlt g (h1.symm.trans e)
      omega
    · have := Option.some.inj (h1.symm.trans e)
      omega
  · intro g e
    rcases hat with h1 | h1
    · exact .inl (hlt g (h1.symm.trans e)).2
    · exact .inr (Option.some.inj (h1.symm.trans e)).symm

/-- Both appends. -/
theorem NS.both {w w2 w3 : World} {us vs : List Use} {va' vb vb' : Value} (hb : Below w.heap.size w w2) (hra : w2.ownsRow w.heap.size 9 1 va' (us.length + vs.length) (strU us ++ strU vs)) (hdj : ∀ g, va'.ownBlock = some g → vb.ownBlock ≠ some g)
    (hbl : ∀ g, vb.ownBlock = some g → w.heap.size ≤ g) (hrow : w3.ownsRow w.heap.size 3 1 vb' (us.length + vs.length) (intU us ++ intU vs)) (hg : w2.grownBy w3 vb.ownBlock) (hat : vb'.ownBlock = vb.ownBlock ∨ vb'.ownBlock = some w2.heap.size) : NS w w3 (us ++ vs) va' vb' := by
  have hlt : ∀ g, va'.ownBlock = some g → w.heap.size ≤ g ∧ g < w2.heap.size := fun g e => hra.lt g e
  refine ⟨hb.grown hg hb.size hbl, ?_, ?_, ?_⟩
  · rw [strU_app, List.length_append]
    exact owns_other hra hg (fun g e e2 => hdj g e2 e)
  · rw [intU_app, List.length_append]
    exact hrow
  · intro g e e2
    rcases hat with h1 | h1
    · exact hdj g e (h1.symm.trans e2)
    · have := Option.some.inj (h1.symm.trans e2)
      have := hlt g e
      omega

/-- What names does at a tree. -/
def NamesC (n : Nd) : Prop := ∀ (v : Value) (w : World), NdIs Any w n v → (usesN n).length ≤ 4000000 →
  Calls Tryz.prog 43 #[v] w fun e w' => ∃ va vb, e = .returned (.tuple #[va, vb]) ∧ NS w w' (usesN n) va vb

def NmAt (w1 : World) (O : List Use) (l : List Nd) (n k : Nat) (u va vb : Value) (wr : World) : Prop := ∃ i : Nat, u = .int .i64 i ∧ i ≤ n ∧ n < k + i ∧ NS w1 wr (O ++ usesNs (l.take i)) va vb

theorem NS.down {w w1 w' : World} {us : List Use} {va vb : Value} (h : NS w1 w' us va vb) (hb : Below w.heap.size w w1) : NS w w' us va vb :=
  ⟨hb.trans (h.below.mono hb.size), Joins.ownsRow_le h.ra hb.size, Joins.ownsRow_le h.rb hb.size, h.dj⟩

theorem NS.lit {w w' : World} {s : List UInt8} {t : Int} {b c : Nat} (hb : Below w.heap.size w w') (h1 : Blk1 w' b (.string (bs s)) 9) (h2 : Blk1 w' c (.int .i64 t) 3) (hb1 : w.heap.size ≤ b) (hc1 : w.heap.size ≤ c) (hbc : b ≠ c) :
    NS w w' [(s, t)] (.slice (some ⟨b, 0, none⟩) 1 1) (.slice (some ⟨c, 0, none⟩) 1 1) :=
  ⟨hb, owns_lit (xs := [.string (bs s)]) h1 hb1 (by show (1 : Nat) ≤ maxLen; decide), owns_lit (xs := [.int .i64 t]) h2 hc1 (by show (1 : Nat) ≤ maxLen; decide), fun g e e2 => hbc ((Option.some.inj (show some b = some g from e)).trans (Option.some.inj (show some c = some g from e2)).symm)⟩

theorem NS.start {w : World} : NS w w [] (.slice none 0 0) (.slice none 0 0) := ⟨Below.refl _ _, World.ownsRow_nil _ _ _ _, World.ownsRow_nil _ _ _ _, fun g e => by cases e⟩

set_option maxHeartbeats 8000000 in
set_option maxRecDepth 100000 in
theorem names_step (k : Int) (s : List UInt8) (l : List Nd) (ih : ∀ x ∈ l, NamesC x) : NamesC (.mk k s l) := by
  intro v w h1 hsz
  rw [usesN_mk] at hsz ⊢
  rw [List.length_append] at hsz
  unfold NdIs at h1
  obtain ⟨a1, c1, rfl, hl, h1⟩ := h1
  have H1 := Lib.hid (fun i x (hx : l[i]? = some x) => NdIs.part h1 hx)
  clear h1
  obtain ⟨n, hln⟩ : ∃ n, l.length = n := ⟨_, rfl⟩
  rw [hln] at hl ⊢
  have HLN := Lib.hid hln
  obtain ⟨O, hO⟩ : ∃ O, ownU k s = O := ⟨_, rfl⟩
  rw [hO] at hsz ⊢
  have HO := Lib.hid hO
  have HSZ := Lib.hid hsz
  have b1 := Blk3.new w (.int .i64 k) (.string (bs s)) (.slice a1 n c1)
  have B1 := Lib.hid b1
  obtain ⟨x0, x1, x2, _, _, _⟩ := b1.cells
  obtain ⟨is, hs, hs0, hs1, hs2⟩ := info_parts info9
  obtain ⟨ii, hi, hi0, hi1, hi2⟩ := info_parts info3
  have HA : Hid (w.grownBy (w.alloc (.cells #[.int .i64 k, .string (bs s), .slice a1 n c1] 37)) none) := grown_alloc _ _ _
  have HWD : Hid (Below w.heap.size w (w.alloc (.cells #[.int .i64 k, .string (bs s), .slice a1 n c1] 37))) := (Below.refl _ _).alloc (Nat.le_refl _) _
  have HZ2 : Hid ((w.alloc (.cells #[.int .i64 k, .string (bs s), .slice a1 n c1] 37)).heap.size = w.heap.size + 1) := by show _ = _; simp
  clear hln b1 hO hsz
  by_cases hk1 : k = 1
  · subst hk1
    go_enter Tryz.func43, Tryz.ntmps43
    go_wp2_with fail
    clear x0 x1 x2
    generalize (w.alloc (.cells #[.int .i64 1, .string (bs s), .slice a1 n c1] 37)) = w2 at *
    have HN : Hid (NS w2 ((w2.alloc (.cells #[.string (bs s)] 9)).alloc (.cells #[.int .i64 1] 3)) O (.slice (some ⟨w.heap.size + 1, 0, none⟩) 1 1) (.slice (some ⟨w.heap.size + 1 + 1, 0, none⟩) 1 1)) := by
      show NS _ _ _ _ _
      rw [← HO.out]
      exact NS.lit (s := s) (t := 1) (((Below.refl _ _).alloc (Nat.le_refl _) _).alloc (by simp) _) ((Blk1.new_at w2 _ _ (by rw [HZ2.out])).grown (grown_alloc _ _ none) (by simp)) (Blk1.new_at _ _ _ (by show w.heap.size + 1 + 1 = _; simp; rw [HZ2.out])) (by rw [HZ2.out]; omega) (by rw [HZ2.out]; omega) (by omega)
    generalize ((w2.alloc (.cells #[.string (bs s)] 9)).alloc (.cells #[.int .i64 1] 3)) = w3 at *
    go_loopg [6, 4, 5] (n + 1) (fun k u va vb wr => Hid (NmAt w2 O l n k u va vb wr))
    case atStart => exact ⟨0, rfl, Nat.zero_le _, by omega, by rw [List.take_zero, usesNs, List.append_nil]; exact HN.out⟩
    case round =>
      obtain ⟨i, rfl, hi3, hk3, hns⟩ := hrel.out
      have HNR := Lib.hid hns
      clear hrel hns HN
      obtain ⟨y0, y1, y2, _, _, _⟩ := (B1.out.grown (grown_of_below HNR.out.below none) (by simp)).cells
      have HGW : Hid (w.grownBy wr none) := grown_trans HA.out (grown_of_below HNR.out.below none)
      by_cases hlt3 : i < n
      · obtain ⟨x, hx⟩ : ∃ x, l[i]? = some x := ⟨l[i]'(by rw [HLN.out]; exact hlt3), List.getElem?_eq_getElem _⟩
        have HX := Lib.hid hx
        obtain ⟨g1, o1, rfl, q1⟩ := H1.out i x hx
        obtain ⟨k1, s1, p1, m1, d1, ⟨e0, e1, e2⟩, n1⟩ := q1 wr HGW.out
        have NX := Lib.hid n1
        have hd2 : decide (i < n) = true := by simp; omega
        have hd3 : decide ((i : Int) < (n : Int)) = true := by simp; omega
        have HS4 : Hid ((O ++ usesNs (l.take i)).length + (usesN x).length ≤ 4000000) := by
          have h1 := usesNs_le l (i + 1)
          have h2 := HSZ.out
          rw [usesNs_step hx, List.length_append] at h1
          show _ ≤ _
          rw [List.length_append]
          omega
        clear n1 q1 hx
        go_wp2_with fail
        refine (ih x (List.mem_of_getElem? HX.out) _ _ NX.out (Nat.le_trans (Nat.le_add_left _ _) HS4.out)).mono ?_
        rintro e w4 ⟨vm, vn, rfl, hm⟩
        have HM := Lib.hid hm
        obtain ⟨us, hus⟩ : ∃ q, O ++ usesNs (l.take i) = q := ⟨_, rfl⟩
        obtain ⟨vs, hvs⟩ : ∃ q, usesN x = q := ⟨_, rfl⟩
        have HUV : Hid (us ++ vs = O ++ usesNs (l.take (i + 1))) := by show _ = _; rw [usesNs_step HX.out, ← List.append_assoc, hus, hvs]
        rw [hus] at HNR HS4
        rw [hvs] at HM HS4
        have hs4 := HS4.out
        have HNM := Lib.hid (owns_below HNR.out.ra HM.out.below)
        have hw4 : w2.heap.size ≤ w4.heap.size := Nat.le_trans HNR.out.below.size HM.out.below.size
        clear hm hus hvs e0 e1 e2 y0 y1 y2 NX HGW
        go_wp2_with (at_builtin; go_must (refine wpList_append_at _ rfl _ _ 41 rfl w2.heap.size 9 is _ 1 16 Tryz.underlying41 hs hs0 hs1 hs2 rfl (by decide) _ _ _ rfl HNM.out _ _ _ _ rfl HM.out.ra (strU_one _) (by unfold maxLen; omega) (by omega) (by omega) ?_))
        intro va1 w5 hr5 hg5 hat5
        obtain ⟨a1, a2, a3, a4, -, -, -⟩ := HNR.out.names HM.out hg5 hat5
        have HA1 := Lib.hid a1
        have HB2 := Lib.hid a2
        have HM2 := Lib.hid a3
        have HDJ := Lib.hid a4
        have HR5 := Lib.hid hr5
        have hw5 : w2.heap.size ≤ w5.heap.size := a1.size
        clear hr5 hg5 hat5 a1 a2 a3 a4 HM
        go_wp2_with (at_builtin; go_must (refine wpList_append_at _ rfl _ _ 31 rfl w2.heap.size 3 ii _ 1 8 Tryz.underlying31 hi hi0 hi1 hi2 rfl (by decide) _ _ _ rfl HB2.out _ _ _ _ rfl HM2.out (intU_one _) (by unfold maxLen; omega) (by omega) (by omega) ?_))
        intro vb1 w6 hr6 hg6 hat6
        have HN6 : Hid (NS w2 w6 (O ++ usesNs (l.take (i + 1))) va1 vb1) := by
          show NS _ _ _ _ _
          rw [← HUV.out]
          exact NS.both HA1.out HR5.out HDJ.out (fun g e => (HB2.out.lt g e).1) hr6 hg6 hat6
        clear hr6 hg6 hat6 HA1 HB2 HM2 HDJ HR5 HNR HNM
        go_wp2
        go_roundg (gk - 1)
        case measure => omega
        case rel => exact ⟨i + 1, by go_num, by omega, by omega, HN6.out⟩
      · have hin : i = n := by omega
        subst hin
        have hd2 : decide (i < i) = false := by simp
        have hd3 : decide ((i : Int) < (i : Int)) = false := by simp
        have HN6 := HNR.out
        rw [List.take_of_length_le (by rw [HLN.out]; exact Nat.le_refl _)] at HN6
        have HN7 := Lib.hid (HN6.down HWD.out)
        clear HNR HN6
        go_wp2
        go_ret2
        exact ⟨_, _, rfl, HN7.out⟩
  by_cases hk3 : k = 3
  · subst hk3
    go_enter Tryz.func43, Tryz.ntmps43
    go_wp2_with fail
    clear x0 x1 x2
    generalize (w.alloc (.cells #[.int .i64 3, .string (bs s), .slice a1 n c1] 37)) = w2 at *
    have HN : Hid (NS w2 (((w2.alloc (.cells #[.string (bs s)] 9)).alloc (.cells #[.int .i64 1] 3)).alloc (.cells #[.int .i64 2] 3)) O (.slice (some ⟨w.heap.size + 1, 0, none⟩) 1 1) (.slice (some ⟨w.heap.size + 1 + 1 + 1, 0, none⟩) 1 1)) := by
      show NS _ _ _ _ _
      rw [← HO.out]
      exact NS.lit (s := s) (t := 2) ((((Below.refl _ _).alloc (Nat.le_refl _) _).alloc (by simp) _).alloc (by simp; omega) _) (((Blk1.new_at w2 _ _ (by rw [HZ2.out])).grown (grown_alloc _ _ none) (by simp)).grown (grown_alloc _ _ none) (by simp)) (Blk1.new_at _ _ _ (by show w.heap.size + 1 + 1 + 1 = _; simp; rw [HZ2.out])) (by rw [HZ2.out]; omega) (by rw [HZ2.out]; omega) (by omega)
    generalize (((w2.alloc (.cells #[.string (bs s)] 9)).alloc (.cells #[.int .i64 1] 3)).alloc (.cells #[.int .i64 2] 3)) = w3 at *
    go_loopg [6, 4, 5] (n + 1) (fun k u va vb wr => Hid (NmAt w2 O l n k u va vb wr))
    case atStart => exact ⟨0, rfl, Nat.zero_le _, by omega, by rw [List.take_zero, usesNs, List.append_nil]; exact HN.out⟩
    case round =>
      obtain ⟨i, rfl, hi3, hk3, hns⟩ := hrel.out
      have HNR := Lib.hid hns
      clear hrel hns HN
      obtain ⟨y0, y1, y2, _, _, _⟩ := (B1.out.grown (grown_of_below HNR.out.below none) (by simp)).cells
      have HGW : Hid (w.grownBy wr none) := grown_trans HA.out (grown_of_below HNR.out.below none)
      by_cases hlt3 : i < n
      · obtain ⟨x, hx⟩ : ∃ x, l[i]? = some x := ⟨l[i]'(by rw [HLN.out]; exact hlt3), List.getElem?_eq_getElem _⟩
        have HX := Lib.hid hx
        obtain ⟨g1, o1, rfl, q1⟩ := H1.out i x hx
        obtain ⟨k1, s1, p1, m1, d1, ⟨e0, e1, e2⟩, n1⟩ := q1 wr HGW.out
        have NX := Lib.hid n1
        have hd2 : decide (i < n) = true := by simp; omega
        have hd3 : decide ((i : Int) < (n : Int)) = true := by simp; omega
        have HS4 : Hid ((O ++ usesNs (l.take i)).length + (usesN x).length ≤ 4000000) := by
          have h1 := usesNs_le l (i + 1)
          have h2 := HSZ.out
          rw [usesNs_step hx, List.length_append] at h1
          show _ ≤ _
          rw [List.length_append]
          omega
        clear n1 q1 hx
        go_wp2_with fail
        refine (ih x (List.mem_of_getElem? HX.out) _ _ NX.out (Nat.le_trans (Nat.le_add_left _ _) HS4.out)).mono ?_
        rintro e w4 ⟨vm, vn, rfl, hm⟩
        have HM := Lib.hid hm
        obtain ⟨us, hus⟩ : ∃ q, O ++ usesNs (l.take i) = q := ⟨_, rfl⟩
        obtain ⟨vs, hvs⟩ : ∃ q, usesN x = q := ⟨_, rfl⟩
        have HUV : Hid (us ++ vs = O ++ usesNs (l.take (i + 1))) := by show _ = _; rw [usesNs_step HX.out, ← List.append_assoc, hus, hvs]
        rw [hus] at HNR HS4
        rw [hvs] at HM HS4
        have hs4 := HS4.out
        have HNM := Lib.hid (owns_below HNR.out.ra HM.out.below)
        have hw4 : w2.heap.size ≤ w4.heap.size := Nat.le_trans HNR.out.below.size HM.out.below.size
        clear hm hus hvs e0 e1 e2 y0 y1 y2 NX HGW
        go_wp2_with (at_builtin; go_must (refine wpList_append_at _ rfl _ _ 41 rfl w2.heap.size 9 is _ 1 16 Tryz.underlying41 hs hs0 hs1 hs2 rfl (by decide) _ _ _ rfl HNM.out _ _ _ _ rfl HM.out.ra (strU_one _) (by unfold maxLen; omega) (by omega) (by omega) ?_))
        intro va1 w5 hr5 hg5 hat5
        obtain ⟨a1, a2, a3, a4, -, -, -⟩ := HNR.out.names HM.out hg5 hat5
        have HA1 := Lib.hid a1
        have HB2 := Lib.hid a2
        have HM2 := Lib.hid a3
        have HDJ := Lib.hid a4
        have HR5 := Lib.hid hr5
        have hw5 : w2.heap.size ≤ w5.heap.size := a1.size
        clear hr5 hg5 hat5 a1 a2 a3 a4 HM
        go_wp2_with (at_builtin; go_must (refine wpList_append_at _ rfl _ _ 31 rfl w2.heap.size 3 ii _ 1 8 Tryz.underlying31 hi hi0 hi1 hi2 rfl (by decide) _ _ _ rfl HB2.out _ _ _ _ rfl HM2.out (intU_one _) (by unfold maxLen; omega) (by omega) (by omega) ?_))
        intro vb1 w6 hr6 hg6 hat6
        have HN6 : Hid (NS w2 w6 (O ++ usesNs (l.take (i + 1))) va1 vb1) := by
          show NS _ _ _ _ _
          rw [← HUV.out]
          exact NS.both HA1.out HR5.out HDJ.out (fun g e => (HB2.out.lt g e).1) hr6 hg6 hat6
        clear hr6 hg6 hat6 HA1 HB2 HM2 HDJ HR5 HNR HNM
        go_wp2
        go_roundg (gk - 1)
        case measure => omega
        case rel => exact ⟨i + 1, by go_num, by omega, by omega, HN6.out⟩
      · have hin : i = n := by omega
        subst hin
        have hd2 : decide (i < i) = false := by simp
        have hd3 : decide ((i : Int) < (i : Int)) = false := by simp
        have HN6 := HNR.out
        rw [List.take_of_length_le (by rw [HLN.out]; exact Nat.le_refl _)] at HN6
        have HN7 := Lib.hid (HN6.down HWD.out)
        clear HNR HN6
        go_wp2
        go_ret2
        exact ⟨_, _, rfl, HN7.out⟩
  have e1 : (k == 1) = false := by simpa using hk1
  have e3 : (k == 3) = false := by simpa using hk3
  have HO2 : Hid (O = []) := by show _ = _; rw [← HO.out, ownU, if_neg hk1, if_neg hk3]
  clear hk1 hk3 HO
  go_enter Tryz.func43, Tryz.ntmps43
  go_wp2_with fail
  clear x0 x1 x2
  generalize (w.alloc (.cells #[.int .i64 k, .string (bs s), .slice a1 n c1] 37)) = w2 at *
  have HN : Hid (NS w2 w2 O (.slice none 0 0) (.slice none 0 0)) := by
    show NS _ _ _ _ _
    rw [HO2.out]
    exact NS.start
  clear HO2 e1 e3
  go_loopg [6, 4, 5] (n + 1) (fun k u va vb wr => Hid (NmAt w2 O l n k u va vb wr))
  case atStart => exact ⟨0, rfl, Nat.zero_le _, by omega, by rw [List.take_zero, usesNs, List.append_nil]; exact HN.out⟩
  case round =>
    obtain ⟨i, rfl, hi3, hk3, hns⟩ := hrel.out
    have HNR := Lib.hid hns
    clear hrel hns HN
    obtain ⟨y0, y1, y2, _, _, _⟩ := (B1.out.grown (grown_of_below HNR.out.below none) (by simp)).cells
    have HGW : Hid (w.grownBy wr none) := grown_trans HA.out (grown_of_below HNR.out.below none)
    by_cases hlt3 : i < n
    · obtain ⟨x, hx⟩ : ∃ x, l[i]? = some x := ⟨l[i]'(by rw [HLN.out]; exact hlt3), List.getElem?_eq_getElem _⟩
      have HX := Lib.hid hx
      obtain ⟨g1, o1, rfl, q1⟩ := H1.out i x hx
      obtain ⟨k1, s1, p1, m1, d1, ⟨e0, e1, e2⟩, n1⟩ := q1 wr HGW.out
      have NX := Lib.hid n1
      have hd2 : decide (i < n) = true := by simp; omega
      have hd3 : decide ((i : Int) < (n : Int)) = true := by simp; omega
      have HS4 : Hid ((O ++ usesNs (l.take i)).length + (usesN x).length ≤ 4000000) := by
        have h1 := usesNs_le l (i + 1)
        have h2 := HSZ.out
        rw [usesNs_step hx, List.length_append] at h1
        show _ ≤ _
        rw [List.length_append]
        omega
      clear n1 q1 hx
      go_wp2_with fail
      refine (ih x (List.mem_of_getElem? HX.out) _ _ NX.out (Nat.le_trans (Nat.le_add_left _ _) HS4.out)).mono ?_
      rintro e w4 ⟨vm, vn, rfl, hm⟩
      have HM := Lib.hid hm
      obtain ⟨us, hus⟩ : ∃ q, O ++ usesNs (l.take i) = q := ⟨_, rfl⟩
      obtain ⟨vs, hvs⟩ : ∃ q, usesN x = q := ⟨_, rfl⟩
      have HUV : Hid (us ++ vs = O ++ usesNs (l.take (i + 1))) := by show _ = _; rw [usesNs_step HX.out, ← List.append_assoc, hus, hvs]
      rw [hus] at HNR HS4
      rw [hvs] at HM HS4
      have hs4 := HS4.out
      have HNM := Lib.hid (owns_below HNR.out.ra HM.out.below)
      have hw4 : w2.heap.size ≤ w4.heap.size := Nat.le_trans HNR.out.below.size HM.out.below.size
      clear hm hus hvs e0 e1 e2 y0 y1 y2 NX HGW
      go_wp2_with (at_builtin; go_must (refine wpList_append_at _ rfl _ _ 41 rfl w2.heap.size 9 is _ 1 16 Tryz.underlying41 hs hs0 hs1 hs2 rfl (by decide) _ _ _ rfl HNM.out _ _ _ _ rfl HM.out.ra (strU_one _) (by unfold maxLen; omega) (by omega) (by omega) ?_))
      intro va1 w5 hr5 hg5 hat5
      obtain ⟨a1, a2, a3, a4, -, -, -⟩ := HNR.out.names HM.out hg5 hat5
      have HA1 := Lib.hid a1
      have HB2 := Lib.hid a2
      have HM2 := Lib.hid a3
      have HDJ := Lib.hid a4
      have HR5 := Lib.hid hr5
      have hw5 : w2.heap.size ≤ w5.heap.size := a1.size
      clear hr5 hg5 hat5 a1 a2 a3 a4 HM
      go_wp2_with (at_builtin; go_must (refine wpList_append_at _ rfl _ _ 31 rfl w2.heap.size 3 ii _ 1 8 Tryz.underlying31 hi hi0 hi1 hi2 rfl (by decide) _ _ _ rfl HB2.out _ _ _ _ rfl HM2.out (intU_one _) (by unfold maxLen; omega) (by omega) (by omega) ?_))
      intro vb1 w6 hr6 hg6 hat6
      have HN6 : Hid (NS w2 w6 (O ++ usesNs (l.take (i + 1))) va1 vb1) := by
        show NS _ _ _ _ _
        rw [← HUV.out]
        exact NS.both HA1.out HR5.out HDJ.out (fun g e => (HB2.out.lt g e).1) hr6 hg6 hat6
      clear hr6 hg6 hat6 HA1 HB2 HM2 HDJ HR5 HNR HNM
      go_wp2
      go_roundg (gk - 1)
      case measure => omega
      case rel => exact ⟨i + 1, by go_num, by omega, by omega, HN6.out⟩
    · have hin : i = n := by omega
      subst hin
      have hd2 : decide (i < i) = false := by simp
      have hd3 : decide ((i : Int) < (i : Int)) = false := by simp
      have HN6 := HNR.out
      rw [List.take_of_length_le (by rw [HLN.out]; exact Nat.le_refl _)] at HN6
      have HN7 := Lib.hid (HN6.down HWD.out)
      clear HNR HN6
      go_wp2
      go_ret2
      exact ⟨_, _, rfl, HN7.out⟩

theorem names_all (f : Nat) : ∀ n : Nd, SizeOf.sizeOf n ≤ f → NamesC n := by
  induction f with
  | zero => intro n h; cases n; simp at h
  | succ f ih =>
    intro n h
    cases n with
    | mk k s l =>
      refine names_step k s l fun x hx => ih x ?_
      have := List.sizeOf_lt_of_mem hx
      simp at h
      omega
theorem names_any (n : Nd) : NamesC n := names_all _ n (Nat.le_refl _)

set_option maxHeartbeats 4000000 in
set_option maxRecDepth 100000 in
theorem of_any (kind : Int) (name : List UInt8) (xa xb : Nd) (rule N d K : Int) (snap : Bool) (A B : NV) (w : World) (ha : NdIs Any w xa A.val) (hb : NdIs Any w xb B.val) (hsz : (usesN xa).length + (usesN xb).length ≤ 4000000) :
    Calls Tryz.prog 24 #[.agg #[.int .i64 kind, .string (bs name), .int .i64 A.k, .string A.s, .slice A.a A.n A.c, .int .i64 B.k, .string B.s, .slice B.a B.n B.c, .int .i64 rule, .int .i64 N, .int .i64 d, .int .i64 K, .bool snap]] w fun e w' =>
      ∃ va vb, e = .returned (.tuple #[va, vb]) ∧ NS w w' (usesN xa ++ usesN xb) va vb := by
  obtain ⟨is, hs, hs0, hs1, hs2⟩ := info_parts info9
  obtain ⟨ii, hi, hi0, hi1, hi2⟩ := info_parts info3
  have HA := Lib.hid ha
  have HB := Lib.hid hb
  have HG : Hid (w.grownBy (w.alloc (.cells #[.int .i64 kind, .string (bs name), .int .i64 A.k, .string A.s, .slice A.a A.n A.c, .int .i64 B.k, .string B.s, .slice B.a B.n B.c, .int .i64 rule, .int .i64 N, .int .i64 d, .int .i64 K, .bool snap] 39)) none) := grown_alloc _ _ _
  have HWD : Hid (Below w.heap.size w (w.alloc (.cells #[.int .i64 kind, .string (bs name), .int .i64 A.k, .string A.s, .slice A.a A.n A.c, .int .i64 B.k, .string B.s, .slice B.a B.n B.c, .int .i64 rule, .int .i64 N, .int .i64 d, .int .i64 K, .bool snap] 39))) := (Below.refl _ _).alloc (Nat.le_refl _) _
  have HX : Hid (Blk13 (w.alloc (.cells #[.int .i64 kind, .string (bs name), .int .i64 A.k, .string A.s, .slice A.a A.n A.c, .int .i64 B.k, .string B.s, .slice B.a B.n B.c, .int .i64 rule, .int .i64 N, .int .i64 d, .int .i64 K, .bool snap] 39)) w.heap.size ⟨kind, name, xa, xb, rule, N, d, K, snap⟩ A B) := Blk13.new w ⟨kind, name, xa, xb, rule, N, d, K, snap⟩ A B
  clear ha hb
  go_enter Tryz.func24, Tryz.ntmps24
  go_wp2_with fail
  generalize (w.alloc (.cells #[.int .i64 kind, .string (bs name), .int .i64 A.k, .string A.s, .slice A.a A.n A.c, .int .i64 B.k, .string B.s, .slice B.a B.n B.c, .int .i64 rule, .int .i64 N, .int .i64 d, .int .i64 K, .bool snap] 39)) = w2 at *
  refine (names_any xa _ _ (HA.out.still HG.out) (by omega)).mono ?_
  rintro e w4 ⟨va, vb, rfl, h4⟩
  have H4 := Lib.hid h4
  have HX4 := Lib.hid (HX.out.still (grown_of_below h4.below none))
  have HB4 := Lib.hid ((HB.out.still HG.out).still (grown_of_below h4.below none))
  have y5 := HX4.out.cell 5
  have y6 := HX4.out.cell 6
  have y7 := HX4.out.cell 7
  simp only [stCells, List.getElem?_cons_succ, List.getElem?_cons_zero] at y5 y6 y7
  clear h4
  go_wp2_with fail
  refine (names_any xb _ _ HB4.out (by omega)).mono ?_
  rintro e w5 ⟨vm, vn, rfl, h5⟩
  have HM := Lib.hid h5
  obtain ⟨us, hus⟩ : ∃ q, usesN xa = q := ⟨_, rfl⟩
  obtain ⟨vs, hvs⟩ : ∃ q, usesN xb = q := ⟨_, rfl⟩
  rw [hus] at H4 hsz
  rw [hvs] at HM hsz
  have HUV : Hid (usesN xa ++ usesN xb = us ++ vs) := by show _ = _; rw [hus, hvs]
  have HNM := Lib.hid (owns_below H4.out.ra HM.out.below)
  have hw4 : w2.heap.size ≤ w5.heap.size := Nat.le_trans H4.out.below.size HM.out.below.size
  clear h5 hus hvs y5 y6 y7 HX HX4 HB4
  go_wp2_with (at_builtin; go_must (refine wpList_append_at _ rfl _ _ 41 rfl w2.heap.size 9 is _ 1 16 Tryz.underlying41 hs hs0 hs1 hs2 rfl (by decide) _ _ _ rfl HNM.out _ _ _ _ rfl HM.out.ra (strU_one _) (by unfold maxLen; omega) (by omega) (by omega) ?_))
  intro va1 w6 hr6 hg6 hat6
  obtain ⟨a1, a2, a3, a4, -, -, -⟩ := H4.out.names HM.out hg6 hat6
  have HA1 := Lib.hid a1
  have HB2 := Lib.hid a2
  have HM2 := Lib.hid a3
  have HDJ := Lib.hid a4
  have HR5 := Lib.hid hr6
  have hw5 : w2.heap.size ≤ w6.heap.size := a1.size
  clear hr6 hg6 hat6 a1 a2 a3 a4 HM
  go_wp2_with (at_builtin; go_must (refine wpList_append_at _ rfl _ _ 31 rfl w2.heap.size 3 ii _ 1 8 Tryz.underlying31 hi hi0 hi1 hi2 rfl (by decide) _ _ _ rfl HB2.out _ _ _ _ rfl HM2.out (intU_one _) (by unfold maxLen; omega) (by omega) (by omega) ?_))
  intro vb1 w7 hr7 hg7 hat7
  have HN7 : Hid (NS w w7 (usesN xa ++ usesN xb) va1 vb1) := by
    show NS _ _ _ _ _
    rw [HUV.out]
    exact (NS.both HA1.out HR5.out HDJ.out (fun g e => (HB2.out.lt g e).1) hr7 hg7 hat7).down HWD.out
  clear hr7 hg7 hat7 HA1 HB2 HM2 HDJ HR5 H4 HNM
  go_wp2
  go_ret2
  exact ⟨_, _, rfl, HN7.out⟩
end Go.Proofs.YtdjklnlkocconaaGreatDoor

namespace Go.Proofs.YtdjklnlkocconaaGreatDoor
open Go Go.RowKit

theorem bytes_eq {s t : List UInt8} {b : Bool} (h : (s == t) = b) : ((bs s).toList == (bs t).toList) = b := by rw [bs_toList, bs_toList]; exact h
theorem beq_name {s t : List UInt8} : (s == t) = decide (s = t) := by
  by_cases h : s = t
  · subst h; simp
  · simp [h]

def PlAt (w : World) (l : List St) (s : List UInt8) (R : Int) (n k : Nat) (u : Value) (wr : World) : Prop := ∃ i : Nat, u = .int .i64 i ∧ i ≤ n ∧ n < k + i ∧ w.grownBy wr none ∧ placeF (l.drop i) s i = R

theorem drop_at {α : Type} {l : List α} {i : Nat} {x : α} (h : l[i]? = some x) : l.drop i = x :: l.drop (i + 1) := by
  obtain ⟨hi, e⟩ := List.getElem?_eq_some_iff.1 h
  rw [List.drop_eq_getElem_cons hi, e]

set_option maxHeartbeats 1000000 in
set_option maxRecDepth 100000 in
theorem named_t (kind : Int) (name : List UInt8) (rule N d K : Int) (snap : Bool) (A B : NV) (g : Nat) (s : List UInt8) (b : Bool) (w : World) (hg : g < w.heap.size) (hc : w.cell? ⟨g, 0, none⟩ = some (.string (bs s))) (hb : Hid ((name == s) = b)) :
    Calls Tryz.prog 31 #[.agg #[.int .i64 kind, .string (bs name), .int .i64 A.k, .string A.s, .slice A.a A.n A.c, .int .i64 B.k, .string B.s, .slice B.a B.n B.c, .int .i64 rule, .int .i64 N, .int .i64 d, .int .i64 K, .bool snap], .pointer (some ⟨g, 0, none⟩)] w fun e w' => e = .returned (.bool b) ∧ w.grownBy w' none := by
  have q0 : ∀ o, (w.alloc o).cell? ⟨g, 0, none⟩ = some (.string (bs s)) := fun o => (Below.cell (p := ⟨g, 0, none⟩) ((Below.refl w.heap.size w).alloc (Nat.le_refl _) o) hg).trans hc
  have he := bytes_eq hb.out
  clear hc hb hg
  go_enter Tryz.func31, Tryz.ntmps31
  go_wp2
  go_ret
  exact ⟨rfl, grown_alloc _ _ _⟩

set_option maxHeartbeats 4000000 in
set_option maxRecDepth 100000 in
theorem index_t (l : List St) (v : Value) (g : Nat) (s : List UInt8) (w : World) (h : StsIs w v l) (hg : g < w.heap.size) (hc : w.cell? ⟨g, 0, none⟩ = some (.string (bs s))) :
    Calls Tryz.prog 27 #[v, .func (.func 31) #[] #[.pointer (some ⟨g, 0, none⟩)]] w fun e w' => e = .returned (.int .i64 (placeS l s)) ∧ w.grownBy w' none := by
  have H := Lib.hid h
  have HGL := Lib.hid hg
  have HC := Lib.hid hc
  obtain ⟨hn, a, c, rfl, _⟩ := h
  obtain ⟨n, hln⟩ : ∃ n, l.length = n := ⟨_, rfl⟩
  rw [hln] at hn H ⊢
  have HLN := Lib.hid hln
  obtain ⟨R, hR⟩ : ∃ R, placeS l s = R := ⟨_, rfl⟩
  rw [hR]
  have HA0 : Hid (PlAt w l s R n (n + 1) (.int .i64 0) w) := ⟨0, rfl, Nat.zero_le _, by omega, grown_refl _ _, hR⟩
  clear hln hR hg hc
  go_enter Tryz.func27, Tryz.ntmps27
  go_wp2_with fail
  go_loopg [8] (n + 1) (fun k u wr => Hid (PlAt w l s R n k u wr))
  case atStart => exact HA0
  case round =>
    obtain ⟨i, rfl, hi, hk, hgr, hr⟩ := hrel.out
    have HG := Lib.hid hgr
    have HR := Lib.hid hr
    clear hrel hgr hr HA0
    by_cases hlt : i < n
    · obtain ⟨x, hx⟩ : ∃ x, l[i]? = some x := ⟨l[i]'(by rw [HLN.out]; exact hlt), List.getElem?_eq_getElem _⟩
      have HD := Lib.hid (drop_at hx)
      obtain ⟨g1, o1, cap1, e1, hl1, A, B, q1, na, nb⟩ := (H.out.still HG.out).get hx
      injection e1 with e1a e1b e1c
      subst e1a e1c
      clear e1b
      obtain ⟨kind, name, xa, xb, rule, N, d, K, snap⟩ := x
      have x0 := q1 0 (by decide)
      have x1 := q1 1 (by decide)
      have x2 := q1 2 (by decide)
      have x3 := q1 3 (by decide)
      have x4 := q1 4 (by decide)
      have x5 := q1 5 (by decide)
      have x6 := q1 6 (by decide)
      have x7 := q1 7 (by decide)
      have x8 := q1 8 (by decide)
      have x9 := q1 9 (by decide)
      have x10 := q1 10 (by decide)
      have x11 := q1 11 (by decide)
      have x12 := q1 12 (by decide)
      simp only [stCells, List.getElem?_cons_succ, List.getElem?_cons_zero, Nat.add_zero] at x0 x1 x2 x3 x4 x5 x6 x7 x8 x9 x10 x11 x12
      obtain ⟨b, hb⟩ : ∃ b, (name == s) = b := ⟨_, rfl⟩
      have HB := Lib.hid hb
      have hd2 : decide (i < n) = true := by simp; omega
      have hd3 : decide ((i : Int) < (n : Int)) = true := by simp; omega
      clear q1 hx hb na nb
      go_wp2_with fail
      refine (named_t kind name rule N d K snap A B g s b wr (Nat.lt_of_lt_of_le HGL.out HG.out.size) ((Go.World.cell?_of_block (a := ⟨g, 0, none⟩) (HG.out.block g HGL.out (by simp))).trans HC.out) HB).mono ?_
      rintro e w3 ⟨rfl, hg3⟩
      have HG3 : Hid (w.grownBy w3 none) := grown_trans HG.out hg3
      clear hg3 HG x0 x1 x2 x3 x4 x5 x6 x7 x8 x9 x10 x11 x12
      cases b with
      | true =>
        obtain rfl : R = (i : Int) := by
          have h := HR.out
          rw [HD.out, placeF, if_pos (by simpa using HB.out)] at h
          exact h.symm
        clear HR
        go_wp2
        go_ret
        exact ⟨rfl, HG3.out⟩
      | false =>
        have HR3 : Hid (placeF (l.drop (i + 1)) s (i + 1) = R) := by
          have h := HR.out
          rw [HD.out, placeF, if_neg (by simpa using HB.out)] at h
          exact h
        clear HR
        go_wp2
        go_roundg (gk - 1)
        case measure => omega
        case rel => exact ⟨i + 1, by go_num, by omega, by omega, HG3.out, HR3.out⟩
    · have hin : i = n := by omega
      subst hin
      obtain rfl : R = -1 := by
        have h := HR.out
        rw [List.drop_eq_nil_of_le (by rw [HLN.out]; omega), placeF] at h
        exact h.symm
      have hd2 : decide (i < i) = false := by simp
      have hd3 : decide ((i : Int) < (i : Int)) = false := by simp
      clear HR
      go_wp2
      go_ret
      exact ⟨rfl, HG.out⟩

set_option maxHeartbeats 1000000 in
set_option maxRecDepth 100000 in
theorem named_n (kind : Int) (name : List UInt8) (rule N d K : Int) (snap : Bool) (A B : NV) (g : Nat) (s : List UInt8) (b : Bool) (w : World) (hg : g < w.heap.size) (hc : w.cell? ⟨g, 0, none⟩ = some (.string (bs s))) (hb : Hid ((name == s) = b)) :
    Calls Tryz.prog 28 #[.agg #[.int .i64 kind, .string (bs name), .int .i64 A.k, .string A.s, .slice A.a A.n A.c, .int .i64 B.k, .string B.s, .slice B.a B.n B.c, .int .i64 rule, .int .i64 N, .int .i64 d, .int .i64 K, .bool snap], .pointer (some ⟨g, 0, none⟩)] w fun e w' => e = .returned (.bool b) ∧ w.grownBy w' none := by
  have q0 : ∀ o, (w.alloc o).cell? ⟨g, 0, none⟩ = some (.string (bs s)) := fun o => (Below.cell (p := ⟨g, 0, none⟩) ((Below.refl w.heap.size w).alloc (Nat.le_refl _) o) hg).trans hc
  have he := bytes_eq hb.out
  clear hc hb hg
  go_enter Tryz.func28, Tryz.ntmps28
  go_wp2
  go_ret
  exact ⟨rfl, grown_alloc _ _ _⟩

set_option maxHeartbeats 4000000 in
set_option maxRecDepth 100000 in
theorem index_n (l : List St) (v : Value) (g : Nat) (s : List UInt8) (w : World) (h : StsIs w v l) (hg : g < w.heap.size) (hc : w.cell? ⟨g, 0, none⟩ = some (.string (bs s))) :
    Calls Tryz.prog 27 #[v, .func (.func 28) #[] #[.pointer (some ⟨g, 0, none⟩)]] w fun e w' => e = .returned (.int .i64 (placeS l s)) ∧ w.grownBy w' none := by
  have H := Lib.hid h
  have HGL := Lib.hid hg
  have HC := Lib.hid hc
  obtain ⟨hn, a, c, rfl, _⟩ := h
  obtain ⟨n, hln⟩ : ∃ n, l.length = n := ⟨_, rfl⟩
  rw [hln] at hn H ⊢
  have HLN := Lib.hid hln
  obtain ⟨R, hR⟩ : ∃ R, placeS l s = R := ⟨_, rfl⟩
  rw [hR]
  have HA0 : Hid (PlAt w l s R n (n + 1) (.int .i64 0) w) := ⟨0, rfl, Nat.zero_le _, by omega, grown_refl _ _, hR⟩
  clear hln hR hg hc
  go_enter Tryz.func27, Tryz.ntmps27
  go_wp2_with fail
  go_loopg [8] (n + 1) (fun k u wr => Hid (PlAt w l s R n k u wr))
  case atStart => exact HA0
  case round =>
    obtain ⟨i, rfl, hi, hk, hgr, hr⟩ := hrel.out
    have HG := Lib.hid hgr
    have HR := Lib.hid hr
    clear hrel hgr hr HA0
    by_cases hlt : i < n
    · obtain ⟨x, hx⟩ : ∃ x, l[i]? = some x := ⟨l[i]'(by rw [HLN.out]; exact hlt), List.getElem?_eq_getElem _⟩
      have HD := Lib.hid (drop_at hx)
      obtain ⟨g1, o1, cap1, e1, hl1, A, B, q1, na, nb⟩ := (H.out.still HG.out).get hx
      injection e1 with e1a e1b e1c
      subst e1a e1c
      clear e1b
      obtain ⟨kind, name, xa, xb, rule, N, d, K, snap⟩ := x
      have x0 := q1 0 (by decide)
      have x1 := q1 1 (by decide)
      have x2 := q1 2 (by decide)
      have x3 := q1 3 (by decide)
      have x4 := q1 4 (by decide)
      have x5 := q1 5 (by decide)
      have x6 := q1 6 (by decide)
      have x7 := q1 7 (by decide)
      have x8 := q1 8 (by decide)
      have x9 := q1 9 (by decide)
      have x10 := q1 10 (by decide)
      have x11 := q1 11 (by decide)
      have x12 := q1 12 (by decide)
      simp only [stCells, List.getElem?_cons_succ, List.getElem?_cons_zero, Nat.add_zero] at x0 x1 x2 x3 x4 x5 x6 x7 x8 x9 x10 x11 x12
      obtain ⟨b, hb⟩ : ∃ b, (name == s) = b := ⟨_, rfl⟩
      have HB := Lib.hid hb
      have hd2 : decide (i < n) = true := by simp; omega
      have hd3 : decide ((i : Int) < (n : Int)) = true := by simp; omega
      clear q1 hx hb na nb
      go_wp2_with fail
      refine (named_n kind name rule N d K snap A B g s b wr (Nat.lt_of_lt_of_le HGL.out HG.out.size) ((Go.World.cell?_of_block (a := ⟨g, 0, none⟩) (HG.out.block g HGL.out (by simp))).trans HC.out) HB).mono ?_
      rintro e w3 ⟨rfl, hg3⟩
      have HG3 : Hid (w.grownBy w3 none) := grown_trans HG.out hg3
      clear hg3 HG x0 x1 x2 x3 x4 x5 x6 x7 x8 x9 x10 x11 x12
      cases b with
      | true =>
        obtain rfl : R = (i : Int) := by
          have h := HR.out
          rw [HD.out, placeF, if_pos (by simpa using HB.out)] at h
          exact h.symm
        clear HR
        go_wp2
        go_ret
        exact ⟨rfl, HG3.out⟩
      | false =>
        have HR3 : Hid (placeF (l.drop (i + 1)) s (i + 1) = R) := by
          have h := HR.out
          rw [HD.out, placeF, if_neg (by simpa using HB.out)] at h
          exact h
        clear HR
        go_wp2
        go_roundg (gk - 1)
        case measure => omega
        case rel => exact ⟨i + 1, by go_num, by omega, by omega, HG3.out, HR3.out⟩
    · have hin : i = n := by omega
      subst hin
      obtain rfl : R = -1 := by
        have h := HR.out
        rw [List.drop_eq_nil_of_le (by rw [HLN.out]; omega), placeF] at h
        exact h.symm
      have hd2 : decide (i < i) = false := by simp
      have hd3 : decide ((i : Int) < (i : Int)) = false := by simp
      clear HR
      go_wp2
      go_ret
      exact ⟨rfl, HG.out⟩

set_option maxHeartbeats 4000000 in
set_option maxRecDepth 100000 in
theorem place_any (l : List St) (v : Value) (s : List UInt8) (w : World) (h : StsIs w v l) :
    Calls Tryz.prog 25 #[v, .string (bs s)] w fun e w' => e = .returned (.int .i64 (placeS l s)) ∧ w.grownBy w' none := by
  have H := Lib.hid h
  obtain ⟨hn, a, c, rfl, _⟩ := h
  obtain ⟨n, hln⟩ : ∃ n, l.length = n := ⟨_, rfl⟩
  rw [hln] at hn H ⊢
  have HLN := Lib.hid hln
  obtain ⟨R, hR⟩ : ∃ R, placeS l s = R := ⟨_, rfl⟩
  rw [hR]
  have HA0 : Hid (PlAt w l s R n (n + 1) (.int .i64 0) w) := ⟨0, rfl, Nat.zero_le _, by omega, grown_refl _ _, hR⟩
  clear hln hR
  go_enter Tryz.func25, Tryz.ntmps25
  go_wp2_with fail
  go_loopg [5] (n + 1) (fun k u wr => Hid (PlAt w l s R n k u wr))
  case atStart => exact HA0
  case round =>
    obtain ⟨i, rfl, hi, hk, hgr, hr⟩ := hrel.out
    have HG := Lib.hid hgr
    have HR := Lib.hid hr
    clear hrel hgr hr HA0
    by_cases hlt : i < n
    · obtain ⟨x, hx⟩ : ∃ x, l[i]? = some x := ⟨l[i]'(by rw [HLN.out]; exact hlt), List.getElem?_eq_getElem _⟩
      have HD := Lib.hid (drop_at hx)
      obtain ⟨g1, o1, cap1, e1, hl1, A, B, q1, na, nb⟩ := (H.out.still HG.out).get hx
      injection e1 with e1a e1b e1c
      subst e1a e1c
      clear e1b
      obtain ⟨kind, name, xa, xb, rule, N, d, K, snap⟩ := x
      have x1 := q1 1 (by decide)
      simp only [stCells, List.getElem?_cons_succ, List.getElem?_cons_zero] at x1
      obtain ⟨b, hb⟩ : ∃ b, (name == s) = b := ⟨_, rfl⟩
      have HB := Lib.hid hb
      have he := bytes_eq hb
      have hd2 : decide (i < n) = true := by simp; omega
      have hd3 : decide ((i : Int) < (n : Int)) = true := by simp; omega
      clear q1 hx hb na nb
      cases b with
      | true =>
        obtain rfl : R = (i : Int) := by
          have h := HR.out
          rw [HD.out, placeF, if_pos (by simpa using HB.out)] at h
          exact h.symm
        clear HR
        go_wp2
        go_ret
        exact ⟨rfl, HG.out⟩
      | false =>
        have HR3 : Hid (placeF (l.drop (i + 1)) s (i + 1) = R) := by
          have h := HR.out
          rw [HD.out, placeF, if_neg (by simpa using HB.out)] at h
          exact h
        clear HR
        go_wp2
        go_roundg (gk - 1)
        case measure => omega
        case rel => exact ⟨i + 1, by go_num, by omega, by omega, HG.out, HR3.out⟩
    · have hin : i = n := by omega
      subst hin
      obtain rfl : R = -1 := by
        have h := HR.out
        rw [List.drop_eq_nil_of_le (by rw [HLN.out]; omega), placeF] at h
        exact h.symm
      have hd2 : decide (i < i) = false := by simp
      have hd3 : decide ((i : Int) < (i : Int)) = false := by simp
      clear HR
      go_wp2
      go_ret
      exact ⟨rfl, HG.out⟩

set_option maxHeartbeats 4000000 in
set_option maxRecDepth 100000 in
theorem type_any (l : List St) (v : Value) (s : List UInt8) (w : World) (h : StsIs w v l) :
    Calls Tryz.prog 14 #[v, .string (bs s)] w fun e w' => e = .returned (.int .i64 (typeIn l s)) ∧ w.grownBy w' none := by
  have H := Lib.hid h
  obtain ⟨hn, a, c, rfl, _⟩ := h
  obtain ⟨n, hln⟩ : ∃ n, l.length = n := ⟨_, rfl⟩
  rw [hln] at hn H ⊢
  have HLN := Lib.hid hln
  obtain ⟨T, hT⟩ : ∃ T, typeIn l s = T := ⟨_, rfl⟩
  have hp := placeF_spec l s 0
  rw [hT] at hp ⊢
  have HP := Lib.hid hp
  have HPS : Hid (placeS l s = placeF l s 0) := rfl
  clear hln hp hT
  have hmf : ∀ (fn : Fn) (first cap : Array Value) (w : World), (Instr.makeFunc fn first cap).run Tryz.prog w = .ok (.func fn first cap) w := fun _ _ _ _ => rfl
  go_enter Tryz.func14, Tryz.ntmps14
  go_wp2_with fail
  refine (index_t l _ _ s _ (H.out.still (grown_alloc _ _ _)) (by simp) (Blk1.new w _ _).cell).mono ?_
  rintro e w1 ⟨rfl, hg1⟩
  have HG : Hid (w.grownBy w1 none) := grown_trans (grown_alloc _ _ _) hg1
  clear hg1
  rw [HPS.out]
  obtain ⟨h1, h2, -⟩ | ⟨j, x, h1, hx, -, h4, -⟩ := HP.out
  · rw [h1]
    subst h2
    clear h1 HP HPS
    go_wp2
    go_ret
    exact ⟨rfl, HG.out⟩
  · rw [h1]
    subst h4
    have hjn : j < n := by
      have := (List.getElem?_eq_some_iff.1 hx).1
      rw [HLN.out] at this
      exact this
    rw [Nat.zero_add]
    have hd0 : decide ((j : Int) < 0) = false := by simp
    have hd2 : decide (j < n) = true := by simp; omega
    have hd3 : decide ((j : Int) < (n : Int)) = true := by simp; omega
    obtain ⟨g1, o1, cap1, e1, hl1, A, B, q1, na, nb⟩ := (H.out.still HG.out).get hx
    injection e1 with e1a e1b e1c
    subst e1a e1c
    clear e1b
    obtain ⟨kind, name, xa, xb, rule, N, d, K, snap⟩ := x
    have x0 := q1 0 (by decide)
    have x1 := q1 1 (by decide)
    have x2 := q1 2 (by decide)
    have x3 := q1 3 (by decide)
    have x4 := q1 4 (by decide)
    have x5 := q1 5 (by decide)
    have x6 := q1 6 (by decide)
    have x7 := q1 7 (by decide)
    have x8 := q1 8 (by decide)
    have x9 := q1 9 (by decide)
    have x10 := q1 10 (by decide)
    have x11 := q1 11 (by decide)
    have x12 := q1 12 (by decide)
    simp only [stCells, List.getElem?_cons_succ, List.getElem?_cons_zero, Nat.add_zero] at x0 x1 x2 x3 x4 x5 x6 x7 x8 x9 x10 x11 x12
    clear q1 hx h1 HP HPS na nb
    go_wp2_with fail
    ((with_reducible refine (typeOf_any kind name rule N d K snap A B _).mono ?_); rintro e w3 ⟨rfl, hg3⟩)
    have HG3 : Hid (w.grownBy w3 none) := grown_trans HG.out hg3
    clear hg3
    go_wp2
    go_ret
    exact ⟨rfl, HG3.out⟩

set_option maxHeartbeats 4000000 in
set_option maxRecDepth 100000 in
theorem rtype_any (l : List St) (v : Value) (s : List UInt8) (w : World) (h : StsIs w v l) :
    Calls Tryz.prog 15 #[v, .string (bs s)] w fun e w' => e = .returned (.int .i64 (typeIn l s)) ∧ w.grownBy w' none := by
  have H := Lib.hid h
  obtain ⟨hn, a, c, rfl, _⟩ := h
  obtain ⟨n, hln⟩ : ∃ n, l.length = n := ⟨_, rfl⟩
  rw [hln] at hn H ⊢
  have HLN := Lib.hid hln
  obtain ⟨T, hT⟩ : ∃ T, typeIn l s = T := ⟨_, rfl⟩
  have hp := placeF_spec l s 0
  rw [hT] at hp ⊢
  have HP := Lib.hid hp
  have HPS : Hid (placeS l s = placeF l s 0) := rfl
  clear hln hp hT
  go_enter Tryz.func15, Tryz.ntmps15
  go_wp2_with fail
  refine (place_any l _ s _ H.out).mono ?_
  rintro e w1 ⟨rfl, hg1⟩
  have HG : Hid (w.grownBy w1 none) := hg1
  clear hg1
  rw [HPS.out]
  obtain ⟨h1, h2, -⟩ | ⟨j, x, h1, hx, -, h4, -⟩ := HP.out
  · rw [h1]
    subst h2
    clear h1 HP HPS
    go_wp2
    go_ret
    exact ⟨rfl, HG.out⟩
  · rw [h1]
    subst h4
    have hjn : j < n := by
      have := (List.getElem?_eq_some_iff.1 hx).1
      rw [HLN.out] at this
      exact this
    rw [Nat.zero_add]
    have hd0 : decide ((j : Int) < 0) = false := by simp
    have hd2 : decide (j < n) = true := by simp; omega
    have hd3 : decide ((j : Int) < (n : Int)) = true := by simp; omega
    obtain ⟨g1, o1, cap1, e1, hl1, A, B, q1, na, nb⟩ := (H.out.still HG.out).get hx
    injection e1 with e1a e1b e1c
    subst e1a e1c
    clear e1b
    obtain ⟨kind, name, xa, xb, rule, N, d, K, snap⟩ := x
    have x0 := q1 0 (by decide)
    have x1 := q1 1 (by decide)
    have x2 := q1 2 (by decide)
    have x3 := q1 3 (by decide)
    have x4 := q1 4 (by decide)
    have x5 := q1 5 (by decide)
    have x6 := q1 6 (by decide)
    have x7 := q1 7 (by decide)
    have x8 := q1 8 (by decide)
    have x9 := q1 9 (by decide)
    have x10 := q1 10 (by decide)
    have x11 := q1 11 (by decide)
    have x12 := q1 12 (by decide)
    simp only [stCells, List.getElem?_cons_succ, List.getElem?_cons_zero, Nat.add_zero] at x0 x1 x2 x3 x4 x5 x6 x7 x8 x9 x10 x11 x12
    clear q1 hx h1 HP HPS na nb
    go_wp2_with fail
    ((with_reducible refine (gives_any kind name rule N d K snap A B _).mono ?_); rintro e w3 ⟨rfl, hg3⟩)
    have HG3 : Hid (w.grownBy w3 none) := grown_trans HG.out hg3
    clear hg3
    go_wp2
    go_ret
    exact ⟨rfl, HG3.out⟩

end Go.Proofs.YtdjklnlkocconaaGreatDoor
