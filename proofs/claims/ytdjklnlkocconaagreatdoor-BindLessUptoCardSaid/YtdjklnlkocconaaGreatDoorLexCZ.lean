/-
  lex.Tokens: the walk.
-/
import Derived.Test.YtdjklnlkocconaaGreatDoorLexABZ
import Derived.Test.YtdjklnlkocconaaGreatDoorGroundZ
namespace Go.Proofs.YtdjklnlkocconaaGreatDoor
open Go Go.RowKit

def tokCells (t : Tok) : List Value := [.int .i64 t.kind, .string (bs t.text), .int .i64 t.num, .int .i64 t.pos]

/-- Where the loop stands: what is still to come of the whole. -/
def LexAt (s : ByteArray) (k : Nat) (acc : List Tok) : Prop := acc.length ≤ k ∧ ∃ f, s.size - k < f ∧ lexS s.data.toList = lexF f (s.data.toList.drop k) k acc

def LexEnd (B : Nat) (R : Except Nat (List Tok)) (e : Ending) (w' : World) : Prop :=
  match R with
  | .error k => e = .returned (.tuple #[.slice none 0 0, .int .i64 k, .int .i64 21])
  | .ok ts => ∃ v, e = .returned (.tuple #[v, .int .i64 0, .int .i64 0]) ∧ w'.ownsRow B 88 4 v ts.length (ts.flatMap tokCells)

theorem drop_of_extract (s : ByteArray) (k : Nat) : (s.extract k s.size).data.toList = s.data.toList.drop k := by
  rw [Lib.extract_data, List.take_of_length_le]
  rw [List.length_drop, ← Lib.size_eq]
  omega

theorem lexAt_step {s : ByteArray} {k k' : Nat} {acc acc' : List Tok} (h : LexAt s k acc) (hk : k < k') (hk' : k' ≤ s.size) (hacc : acc'.length ≤ k')
    (hs : ∀ f, lexF (f + 1) (s.data.toList.drop k) k acc = lexF f (s.data.toList.drop k') k' acc') : LexAt s k' acc' := by
  obtain ⟨_, f, hf, hR⟩ := h
  cases f with
  | zero => omega
  | succ f => exact ⟨hacc, f, by omega, by rw [hR, hs]⟩

theorem info88 : (Tryz.prog.info? 88).map (fun i => (i.zero, i.size, i.bytes)) = some (some (.agg #[.int .i64 0, .string ⟨#[]⟩, .int .i64 0, .int .i64 0]), 4, 40) := by kernel_rfl

theorem bs_size (l : List UInt8) : (bs l).size = l.length := by rw [Lib.size_eq]; rfl
theorem bs_eq {s : ByteArray} {l : List UInt8} (h : s.data.toList = l) : s = bs l := by
  obtain ⟨⟨x⟩⟩ := s
  subst h
  rfl
theorem takeWhile_take {α : Type} (p : α → Bool) (l : List α) : l.take (l.takeWhile p).length = l.takeWhile p := by
  induction l with
  | nil => rfl
  | cons x l ih =>
    cases h : p x
    · simp [h]
    · simp [h, ih]
theorem takeWhile_le {α : Type} (p : α → Bool) (l : List α) : (l.takeWhile p).length ≤ l.length := by
  induction l with
  | nil => simp
  | cons x l ih =>
    cases h : p x
    · simp [h]
    · simp [h]; omega
theorem extract_run (p : Int → Bool) (s : ByteArray) : s.extract 0 (runLen p s) = bs (s.data.toList.takeWhile fun b => p b.toNat) := by
  refine bs_eq ?_
  rw [Lib.extract_data, Nat.sub_zero, List.drop_zero, runLen, takeWhile_take]

theorem tok_grown {B : Nat} {w wr X w1 : World} {v v' : Value} {acc : List Tok} {t : Tok} (hown : wr.ownsRow B 88 4 v acc.length (acc.flatMap tokCells)) (hb : Below B w X) (hB : B ≤ X.heap.size)
    (hown3 : w1.ownsRow B 88 4 v' (acc.length + 1) (acc.flatMap tokCells ++ tokCells t)) (hgrow : X.grownBy w1 v.ownBlock) :
    w1.ownsRow B 88 4 v' (acc ++ [t]).length ((acc ++ [t]).flatMap tokCells) ∧ Below B w w1 := by
  refine ⟨?_, below_grown hown hb hB hgrow⟩
  have e1 : (acc ++ [t]).length = acc.length + 1 := by simp
  have e2 : (acc ++ [t]).flatMap tokCells = acc.flatMap tokCells ++ tokCells t := by simp
  rw [e1, e2]
  exact hown3

theorem tokCells_one (t : Tok) : ∀ u ∈ tokCells t, u.oneCell' = true := by
  intro u hu
  simp only [tokCells, List.mem_cons, List.not_mem_nil, or_false] at hu
  rcases hu with rfl | rfl | rfl | rfl <;> rfl

set_option maxHeartbeats 8000000 in
set_option maxRecDepth 100000 in
theorem tokens_any (s : ByteArray) (w : World) (hs : s.size ≤ 65536) (hg : Good w) :
    Calls Tryz.prog 33 #[.string s] w fun e w' => LexEnd w.heap.size (lexS s.data.toList) e w' ∧ Below w.heap.size w w' := by
  obtain ⟨i0, hi, hz0, hz1, hz2⟩ := info_parts info88
  go_enter Tryz.func33, Tryz.ntmps33
  go_wp2
  go_step3
  go_wp2
  go_step3
  go_wp2
  go_loopw [5, 6] (fun v i wr => ∃ (k : Nat) (acc : List Tok), i = .int .i64 k ∧ k ≤ s.size ∧ wr.ownsRow w.heap.size 88 4 v acc.length (acc.flatMap tokCells) ∧ Below w.heap.size w wr ∧ Hid (LexAt s k acc)) (fun _ i _ => s.size - (intOf i).toNat)
  case atStart =>
    refine ⟨0, [], rfl, by omega, World.ownsRow_nil _ _ _ _, Below.refl _ _, Lib.hid ⟨by simp, s.size + 1, by omega, ?_⟩⟩
    rw [lexS, if_neg (by rw [← Lib.size_eq]; omega), ← Lib.size_eq]
    rfl
  case round =>
    obtain ⟨k, acc, rfl, hk, hown, hb, hat⟩ := hrel
    by_cases hlt : k < s.size
    · obtain ⟨rest, hrest⟩ : ∃ rest, s.extract k s.size = rest := ⟨_, rfl⟩
      have hrs : 0 < rest.size := by rw [← hrest]; simp; omega
      have hrb : rest.size + k = s.size := by rw [← hrest]; simp; omega
      obtain ⟨L, HL⟩ : ∃ L, Hid (s.data.toList.drop k = L ∧ rest.data.toList = L) := ⟨_, rfl, by rw [← hrest]; exact drop_of_extract s k⟩
      have hLs : L.length = rest.size := by rw [Lib.size_eq, HL.out.2]
      obtain ⟨c8, r, hcr⟩ : ∃ c8 r, L = c8 :: r := by
        cases L with
        | nil => simp at hLs; omega
        | cons c8 r => exact ⟨c8, r, rfl⟩
      obtain ⟨c, hc⟩ : ∃ c, rest[0].toNat = c := ⟨_, rfl⟩
      have HC : Hid (c8.toNat = c) := by
        show c8.toNat = c
        rw [← hc]
        obtain ⟨⟨x⟩⟩ := rest
        have h2 := HL.out.2
        rw [hcr] at h2
        have h3 : x = c8 :: r := h2
        subst h3
        rfl
      have hc0 : c < 256 := by rw [← HC.out]; exact c8.toNat_lt
      have hal := hat.out.1
      have hbs := hb.size
      have HLs := Lib.hid hLs
      clear hLs
      have HCR := Lib.hid hcr
      clear hcr
      have hown2 : ∀ o1 o2, ((wr.alloc o1).alloc o2).ownsRow w.heap.size 88 4 _ acc.length (acc.flatMap tokCells) := fun o1 o2 => (hown.alloc o1).alloc o2
      by_cases hbl : c = 32 ∨ c = 9 ∨ c = 10 ∨ c = 13
      · rcases hbl with rfl | rfl | rfl | rfl
        all_goals
          clear hown2
          go_wp2_with fail
          go_roundw
          case rel =>
            refine ⟨k + 1, acc, by go_num, by omega, hown.alloc _, hb.alloc hb.size _, Lib.hid (lexAt_step hat.out (by omega) (by omega) (by omega) ?_)⟩
            intro f
            have h1 := HL.out.1
            rw [HCR.out] at h1
            have h3 : s.data.toList.drop (k + 1) = r := by rw [← List.drop_drop, h1]; rfl
            rw [h1, h3]
            exact lexF_blank (by rw [HC.out]; decide) f
          case measure => simp [intOf]; omega
      · have h32 : ((c : Int) == 32) = false := by simp; omega
        have h9 : ((c : Int) == 9) = false := by simp; omega
        have h10 : ((c : Int) == 10) = false := by simp; omega
        have h13 : ((c : Int) == 13) = false := by simp; omega
        have HB : Hid (blankB c = false) := by
          have : blankB c = false := by simp [blankB]; omega
          exact this
        clear hbl
        by_cases h35 : c = 35
        · subst h35
          obtain ⟨n, HI⟩ : ∃ n, Hid (Lib.indexByte rest.data.toList (10 : Int).toNat.toUInt8 = n) := ⟨_, rfl⟩
          have hcase : (n = -1 ∧ Hid (remark L = L)) ∨ (∃ m : Nat, n = m ∧ Hid ((remark L).length = m) ∧ 1 ≤ m ∧ m < rest.size) := by
            have h1 : Lib.indexByte L 10 = n := by rw [← HI.out, HL.out.2]; rfl
            rcases index_remark L with ⟨h2, h3⟩ | ⟨h2, h3⟩
            · exact .inl ⟨by omega, h3⟩
            · refine .inr ⟨(remark L).length, by omega, rfl, ?_, by rw [← HLs.out]; exact h3⟩
              rw [HCR.out]; exact remark_pos HC.out
          clear hown2
          rcases hcase with ⟨rfl, HM⟩ | ⟨m, rfl, HM, hm1, hm2⟩
          · go_wp2_with (go_at_call 48; refine (index_of _ _ _ _ HI).mono ?_; rintro e w' ⟨rfl, rfl⟩)
            rw [Exit.noGoto_ret]
            refine ret3 rfl rfl ⟨?_, hb.alloc hb.size _⟩
            have hR : lexS s.data.toList = .ok acc := by
              obtain ⟨_, f, hf, hR⟩ := hat.out
              cases f with
              | zero => omega
              | succ f =>
                rw [hR, HL.out.1, HCR.out, lexF_remark HC.out, ← HCR.out, HM.out, List.drop_length, lexF_nil]
            rw [hR]
            exact ⟨_, rfl, hown.alloc _⟩
          · go_wp2_with (go_at_call 48; refine (index_of _ _ _ _ HI).mono ?_; rintro e w' ⟨rfl, rfl⟩)
            go_roundw
            case rel =>
              refine ⟨k + m, acc, by go_num, by omega, hown.alloc _, hb.alloc hb.size _, Lib.hid (lexAt_step hat.out (by omega) (by omega) (by omega) ?_)⟩
              intro f
              have h3 : s.data.toList.drop (k + m) = L.drop m := by rw [← List.drop_drop, HL.out.1]
              rw [h3, HL.out.1, HCR.out, lexF_remark HC.out, ← HCR.out, HM.out]
            case measure => simp [intOf]; omega
        · have h35' : ((c : Int) == 35) = false := by simp; omega
          cases hsm : smallB c
          · cases hdg : digitB c
            · obtain ⟨n, HI⟩ : ∃ n, Hid (Lib.indexByte (⟨#[40, 41, 44, 61, 47, 59]⟩ : ByteArray).data.toList (c : Int).toNat.toUInt8 = n) := ⟨_, rfl⟩
              have hsg : decide (0 ≤ n) = signB c := by
                have h1 : Lib.indexByte [40, 41, 44, 61, 47, 59] c8 = n := by
                  have h2 : (c : Int).toNat.toUInt8 = c8 := by rw [← HC.out]; simp
                  rw [← HI.out, h2]
                rw [← h1, ← HC.out]
                exact index_sign c8
              by_cases hn : 0 ≤ n
              · obtain ⟨tx, htx⟩ : ∃ tx, rest.extract 0 1 = tx := ⟨_, rfl⟩
                have HT : Hid (tx = bs [c8]) := by
                  refine bs_eq ?_
                  rw [← htx, Lib.extract_data, HL.out.2, HCR.out]; rfl
                have hm : tx.size = 1 := by rw [HT.out, bs_size]; rfl
                have HS : Hid (signB c = true) := Lib.hid (by rw [← hsg]; simpa using hn)
                clear hsg
                obtain ⟨m, hmm⟩ : ∃ m : Nat, m = 1 := ⟨1, rfl⟩
                have HMM := Lib.hid hmm
                clear hmm
                go_wp2_with (first
                  | (go_at_call 49; refine (small_any _ _).mono ?_; rintro e w' ⟨rfl, rfl⟩)
                  | (go_at_call 52; refine (digit_any _ _).mono ?_; rintro e w' ⟨rfl, rfl⟩)
                  | (go_at_call 48; refine (index_of _ _ _ _ HI).mono ?_; rintro e w' ⟨rfl, rfl⟩)
                  | (at_builtin; go_must (refine wpList_append_own _ rfl _ _ 66 rfl w.heap.size 88 i0 _ 4 40 Tryz.underlying66 hi hz0 hz1 hz2 rfl (by decide) _ _ _ rfl (hown2 _ _) ⟨wr.heap.size + 1, 0, none⟩ 1 1 (tokCells ⟨3, [c8], 0, k⟩) rfl rfl ?c1 (tokCells_one _) (by unfold maxLen; omega) (by omega) (by simp; omega) ?_)))
                case c1 =>
                  rw [HT.out]
                  exact cell_new _ (tokCells ⟨3, [c8], 0, k⟩) _ (by simp)
                · intro v' w1 hown3 hgrow _
                  obtain ⟨hown4, hb4⟩ := tok_grown hown ((hb.alloc hb.size _).alloc (by simp; omega) _) (by simp; omega) hown3 hgrow
                  clear hown2 hown3 hgrow
                  go_wp2
                  go_roundw
                  case rel =>
                    refine ⟨k + 1, _, by go_num, by omega, hown4, hb4, Lib.hid (lexAt_step hat.out (by omega) (by omega) (by simp; omega) ?_)⟩
                    intro f
                    have h1 := HL.out.1
                    rw [HCR.out] at h1
                    have h3 : s.data.toList.drop (k + 1) = r := by rw [← List.drop_drop, h1]; rfl
                    rw [h1, h3]
                    exact lexF_sign (by rw [HC.out]; exact HS.out) f
                  case measure => simp [intOf]; omega
              · clear hown2
                have HS : Hid (signB c = false) := Lib.hid (by rw [← hsg]; simpa using hn)
                clear hsg
                go_wp2_with (first
                  | (go_at_call 49; refine (small_any _ _).mono ?_; rintro e w' ⟨rfl, rfl⟩)
                  | (go_at_call 52; refine (digit_any _ _).mono ?_; rintro e w' ⟨rfl, rfl⟩)
                  | (go_at_call 48; refine (index_of _ _ _ _ HI).mono ?_; rintro e w' ⟨rfl, rfl⟩))
                rw [Exit.noGoto_ret]
                refine ret3 rfl rfl ⟨?_, hb.alloc hb.size _⟩
                have hR : lexS s.data.toList = .error k := by
                  obtain ⟨_, f, hf, hR⟩ := hat.out
                  cases f with
                  | zero => omega
                  | succ f =>
                    rw [hR, HL.out.1]
                    rw [HCR.out]
                    exact lexF_bad (by rw [HC.out]; exact HB.out) (by rw [HC.out]; exact h35) (by rw [HC.out]; exact hsm) (by rw [HC.out]; exact hdg) (by rw [HC.out]; exact HS.out) f
                rw [hR]
                rfl
            · obtain ⟨tx, htx⟩ : ∃ tx, rest.extract 0 (runLen digitB rest) = tx := ⟨_, rfl⟩
              obtain ⟨m, hm⟩ : ∃ m, tx.size = m := ⟨_, rfl⟩
              obtain ⟨N, HN⟩ : ∃ N, Hid (decVal 0 (digitRun L) = N) := ⟨_, rfl⟩
              have HT : Hid (tx = bs (digitRun L) ∧ m = (digitRun L).length) := by
                have h1 : tx = bs (digitRun L) := by rw [← htx, extract_run, HL.out.2]; rfl
                exact ⟨h1, by rw [← hm, h1, bs_size]⟩
              have hm1 : 1 ≤ m := by rw [HT.out.2, HCR.out]; exact digitRun_pos (by rw [HC.out]; exact hdg)
              have hm2 : m ≤ rest.size := by rw [HT.out.2, ← HLs.out]; exact takeWhile_le _ _
              have hne : tx.size ≠ 0 := by omega
              have HP : Hid (Lib.parseUintM 2147483647 0 tx.data.toList = if N ≤ 2147483647 then .ok N else .range) := by
                have h1 : tx.data.toList = digitRun L := by rw [HT.out.1]; rfl
                have h2 := parse_digits 2147483647 (by omega) (digitRun L) 0 (fun b hb => List.all_eq_true.1 (List.all_takeWhile) b hb) (by omega)
                rw [HN.out] at h2
                rw [h1]
                exact h2
              have HNE := Lib.hid hne
              clear hne
              by_cases hbig : 2147483647 < N
              · clear hown2
                have HP2 : Hid (Lib.parseUintM 2147483647 0 tx.data.toList = .range) := by rw [HP.out, if_neg (by omega)]; rfl
                have hgw : ∀ o, Good (wr.alloc o) := fun o => hg.at (hb.alloc hb.size _)
                go_wp2_with (first
                  | (go_at_call 49; refine (small_any _ _).mono ?_; rintro e w' ⟨rfl, rfl⟩)
                  | (go_at_call 52; refine (digit_any _ _).mono ?_; rintro e w' ⟨rfl, rfl⟩)
                  | (go_at_call 50; refine (runDigit_any _ _ (by unfold maxLen; omega)).mono ?_; rintro e w' ⟨rfl, rfl⟩)
                  | (go_at_call 53; refine (parse_big _ HNE.out (by omega) HP2.out _ (hgw _)).mono ?_; rintro e w' ⟨⟨p, rfl⟩, hb5⟩))
                rw [Exit.noGoto_ret]
                refine ret3 rfl rfl ⟨?_, ((hb.alloc hb.size _).trans (hb5.mono (by simp; omega)))⟩
                have hR : lexS s.data.toList = .error k := by
                  obtain ⟨_, f, hf, hR⟩ := hat.out
                  cases f with
                  | zero => omega
                  | succ f =>
                    rw [hR, HL.out.1]
                    rw [HCR.out, lexF_num (by rw [HC.out]; exact hdg), ← HCR.out, HN.out, if_pos (.inl hbig)]
                rw [hR]
                rfl
              · have HP2 : Hid (Lib.parseUintM 2147483647 0 tx.data.toList = .ok N) := by rw [HP.out, if_pos (by omega)]; rfl
                go_wp2_with (first
                  | (go_at_call 49; refine (small_any _ _).mono ?_; rintro e w' ⟨rfl, rfl⟩)
                  | (go_at_call 52; refine (digit_any _ _).mono ?_; rintro e w' ⟨rfl, rfl⟩)
                  | (go_at_call 50; refine (runDigit_any _ _ (by unfold maxLen; omega)).mono ?_; rintro e w' ⟨rfl, rfl⟩))
                refine (parse_ok _ N HNE.out (by omega) HP2.out _).mono ?_
                rintro e w5 ⟨rfl, hb5⟩
                obtain ⟨hc5, hf5⟩ := below_cells hb5
                have hz5 : wr.heap.size + 1 ≤ w5.heap.size := by have := hb5.size; simpa using this
                have hz6 : wr.heap.size < w5.heap.size := by omega
                have HB5 := Lib.hid hb5
                clear hb5
                by_cases hz : 1 < m ∧ c = 48
                · obtain ⟨hq1, rfl⟩ := hz
                  clear hown2
                  go_wp2_with fail
                  rw [Exit.noGoto_ret]
                  refine ret3 rfl rfl ⟨?_, ((hb.alloc hb.size _).trans (HB5.out.mono (by simp; omega)))⟩
                  have hR : lexS s.data.toList = .error k := by
                    obtain ⟨_, f, hf, hR⟩ := hat.out
                    cases f with
                    | zero => omega
                    | succ f =>
                      rw [hR, HL.out.1]
                      rw [HCR.out, lexF_num (by rw [HC.out]; exact hdg), ← HCR.out, HN.out, ← HT.out.2, if_pos (.inr ⟨hq1, HC.out⟩)]
                  rw [hR]
                  rfl
                · have hown5 := owns_below (hown.alloc (.cells #[.int .i64 2, .string tx, .int .i64 0, .int .i64 k] 88)) HB5.out
                  have hown7 : ∀ o2, ((w5.setCell ⟨wr.heap.size, 2, none⟩ (.int .i64 N)).alloc o2).ownsRow w.heap.size 88 4 _ acc.length (acc.flatMap tokCells) := fun o2 => (owns_setCell hown5 (owns_ne hown (Nat.le_refl _)) _).alloc o2
                  have hbx : Below w.heap.size w (w5.setCell ⟨wr.heap.size, 2, none⟩ (.int .i64 N)) := ((hb.alloc hb.size _).trans (HB5.out.mono (by simp; omega))).setCell hbs _
                  have HOWN5 := Lib.hid hown5
                  clear hown5
                  by_cases hq1 : 1 < m
                  · have hq2 : ((c : Int) == 48) = false := by simp; omega
                    go_wp2_with (at_builtin; go_must (refine wpList_append_own _ rfl _ _ 66 rfl w.heap.size 88 i0 _ 4 40 Tryz.underlying66 hi hz0 hz1 hz2 rfl (by decide) _ _ _ rfl (hown7 _) ⟨w5.heap.size, 0, none⟩ 1 1 (tokCells ⟨2, digitRun L, N, k⟩) rfl rfl ?c1 (tokCells_one _) (by unfold maxLen; omega) (by omega) (by simp; omega) ?_))
                    case c1 =>
                      rw [HT.out.1]
                      first | exact fun _ _ h => h | exact cell_new _ (tokCells ⟨2, digitRun L, N, k⟩) _ (by first | rfl | simp)
                    · intro v' w1 hown3 hgrow _
                      obtain ⟨hown4, hb4⟩ := tok_grown hown (hbx.alloc (by simp; omega) _) (by simp; omega) hown3 hgrow
                      clear hown2 hown3 hgrow hown7 hbx hc5 hf5
                      go_wp2
                      go_roundw
                      case rel =>
                        refine ⟨k + m, _, by go_num, by omega, hown4, hb4, Lib.hid (lexAt_step hat.out (by omega) (by omega) (by simp; omega) ?_)⟩
                        intro f
                        have h3 : s.data.toList.drop (k + m) = L.drop m := by rw [← List.drop_drop, HL.out.1]
                        rw [h3, HL.out.1, HCR.out, lexF_num (by rw [HC.out]; exact hdg), ← HCR.out, HN.out, ← HT.out.2, if_neg (by rw [HC.out]; omega)]
                      case measure => simp [intOf]; omega
                  · go_wp2_with (at_builtin; go_must (refine wpList_append_own _ rfl _ _ 66 rfl w.heap.size 88 i0 _ 4 40 Tryz.underlying66 hi hz0 hz1 hz2 rfl (by decide) _ _ _ rfl (hown7 _) ⟨w5.heap.size, 0, none⟩ 1 1 (tokCells ⟨2, digitRun L, N, k⟩) rfl rfl ?c1 (tokCells_one _) (by unfold maxLen; omega) (by omega) (by simp; omega) ?_))
                    case c1 =>
                      rw [HT.out.1]
                      first | exact fun _ _ h => h | exact cell_new _ (tokCells ⟨2, digitRun L, N, k⟩) _ (by first | rfl | simp)
                    · intro v' w1 hown3 hgrow _
                      obtain ⟨hown4, hb4⟩ := tok_grown hown (hbx.alloc (by simp; omega) _) (by simp; omega) hown3 hgrow
                      clear hown2 hown3 hgrow hown7 hbx hc5 hf5
                      go_wp2
                      go_roundw
                      case rel =>
                        refine ⟨k + m, _, by go_num, by omega, hown4, hb4, Lib.hid (lexAt_step hat.out (by omega) (by omega) (by simp; omega) ?_)⟩
                        intro f
                        have h3 : s.data.toList.drop (k + m) = L.drop m := by rw [← List.drop_drop, HL.out.1]
                        rw [h3, HL.out.1, HCR.out, lexF_num (by rw [HC.out]; exact hdg), ← HCR.out, HN.out, ← HT.out.2, if_neg (by rw [HC.out]; omega)]
                      case measure => simp [intOf]; omega
          · obtain ⟨tx, htx⟩ : ∃ tx, rest.extract 0 (runLen wordB rest) = tx := ⟨_, rfl⟩
            obtain ⟨m, hm⟩ : ∃ m, tx.size = m := ⟨_, rfl⟩
            have HT : Hid (tx = bs (wordRun L) ∧ m = (wordRun L).length) := by
              have h1 : tx = bs (wordRun L) := by rw [← htx, extract_run, HL.out.2]; rfl
              exact ⟨h1, by rw [← hm, h1, bs_size]⟩
            have hm1 : 1 ≤ m := by rw [HT.out.2, HCR.out]; exact wordRun_pos (by rw [HC.out]; exact hsm)
            have hm2 : m ≤ rest.size := by rw [HT.out.2, ← HLs.out]; exact takeWhile_le _ _
            by_cases h32 : 32 < m
            · clear hown2
              go_wp2_with (first
                | (go_at_call 49; refine (small_any _ _).mono ?_; rintro e w' ⟨rfl, rfl⟩)
                | (go_at_call 50; refine (runWord_any _ _ (by unfold maxLen; omega)).mono ?_; rintro e w' ⟨rfl, rfl⟩))
              rw [Exit.noGoto_ret]
              refine ret3 rfl rfl ⟨?_, hb.alloc hb.size _⟩
              have hR : lexS s.data.toList = .error k := by
                obtain ⟨_, f, hf, hR⟩ := hat.out
                cases f with
                | zero => omega
                | succ f =>
                  rw [hR, HL.out.1, HCR.out, lexF_word (by rw [HC.out]; exact hsm), ← HCR.out, ← HT.out.2, if_pos h32]
              rw [hR]
              rfl
            · go_wp2_with (first
                | (go_at_call 49; refine (small_any _ _).mono ?_; rintro e w' ⟨rfl, rfl⟩)
                | (go_at_call 50; refine (runWord_any _ _ (by unfold maxLen; omega)).mono ?_; rintro e w' ⟨rfl, rfl⟩)
                | (at_builtin; go_must (refine wpList_append_own _ rfl _ _ 66 rfl w.heap.size 88 i0 _ 4 40 Tryz.underlying66 hi hz0 hz1 hz2 rfl (by decide) _ _ _ rfl (hown2 _ _) ⟨wr.heap.size + 1, 0, none⟩ 1 1 (tokCells ⟨1, wordRun L, 0, k⟩) rfl rfl ?c1 (tokCells_one _) (by unfold maxLen; omega) (by omega) (by simp; omega) ?_)))
              case c1 =>
                rw [HT.out.1]
                exact cell_new _ (tokCells ⟨1, wordRun L, 0, k⟩) _ (by simp)
              · intro v' w1 hown3 hgrow _
                obtain ⟨hown4, hb4⟩ := tok_grown hown ((hb.alloc hb.size _).alloc (by simp; omega) _) (by simp; omega) hown3 hgrow
                clear hown2 hown3 hgrow
                go_wp2
                go_roundw
                case rel =>
                  refine ⟨k + m, _, by go_num, by omega, hown4, hb4, Lib.hid (lexAt_step hat.out (by omega) (by omega) (by simp; omega) ?_)⟩
                  intro f
                  have h3 : s.data.toList.drop (k + m) = L.drop m := by rw [← List.drop_drop, HL.out.1]
                  rw [h3, HL.out.1, HCR.out, lexF_word (by rw [HC.out]; exact hsm), ← HCR.out, ← HT.out.2, if_neg h32]
                case measure => simp [intOf]; omega
    · go_wp2_with fail
      rw [Exit.noGoto_ret]
      refine ret3 rfl rfl ?_
      have hkk : k = s.size := by omega
      obtain ⟨_, f, hf, hR⟩ := hat.out
      refine ⟨?_, hb⟩
      have h0 : s.data.toList.drop k = [] := List.drop_eq_nil_of_le (by rw [← Lib.size_eq]; omega)
      rw [h0] at hR
      have hR2 : lexS s.data.toList = .ok acc := by rw [hR, lexF_nil]
      rw [hR2]
      exact ⟨_, rfl, hown⟩
end Go.Proofs.YtdjklnlkocconaaGreatDoor
