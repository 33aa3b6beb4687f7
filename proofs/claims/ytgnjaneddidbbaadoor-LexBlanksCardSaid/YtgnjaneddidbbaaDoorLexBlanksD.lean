/-
  LexBlanks: the walk of the law, some gaps, the string cut.
-/
import Derived.Test.YtgnjaneddidbbaaDoorLexBlanksH
namespace Go.Proofs.YtgnjaneddidbbaaDoor
open Go Go.ChangeShapes Go.WideShapes Go.ChangeAt Go.WideMaps Go.WideElems Go.RowKit

set_option maxHeartbeats 8000000 in
set_option maxRecDepth 100000 in
theorem blanksD (s : ByteArray) (s0 : ByteArray) (ab ao len cap : Nat) (ss : List ByteArray) (w : World) (hs : s.size ≤ 2000) (hs0 : 2000 < s0.size) (hs1 : s0.size ≤ 9223372036854775807) (hsc : s0.extract 0 2000 = s) (hlen : 0 < len) (hss : len ≤ ss.length) (hlm : len ≤ 9223372036854775807) (hab : ab < w.heap.size)
    (HCE : Hid (∀ i, i < ss.length → w.cell? ⟨ab, ao + i, none⟩ = some (.string (ss.getD i ByteArray.empty)))) (HSL : Hid (∀ x ∈ ss, x.size ≤ 9223372036854775807)) (hg : Good w) :
    Calls Tryd.prog 4 #[.string s0, .slice (some ⟨ab, ao, none⟩) len cap] w fun e w' => e = .returned (.bool true) ∧ Below w.heap.size w w' := by
  obtain ⟨i0, hi, hz0, hz1, hz2⟩ := info_parts infoInt
  obtain ⟨R, HR⟩ : ∃ R, Hid (lexS s.data.toList = R) := ⟨_, rfl⟩
  go_enter Tryd.func4, Tryd.ntmps4
  go_wp2_with fail
  refine (tokens_any _ _ (by omega) hg).mono ?_
  rintro e w1 ⟨h3, hb1⟩
  have hG1 := hg.at hb1
  rw [HR.out] at h3
  cases R with
  | error k =>
    obtain rfl := lexEnd_error h3 rfl
    clear h3
    go_wp2_with fail
    refine (known22_any _ hG1).mono ?_
    rintro e w2 ⟨rfl, hb2⟩
    have hG2 := hG1.at hb2
    go_wp2_with fail
    refine (known22_any _ hG2).mono ?_
    rintro e w3 ⟨rfl, hb3⟩
    have HB := Lib.hid (hb1.trans ((hb2.mono hb1.size).trans (hb3.mono (Nat.le_trans hb1.size hb2.size))))
    clear hb1 hb2 hb3
    go_wp2
    go_ret
    exact ⟨rfl, HB.out⟩
  | ok ts =>
    obtain ⟨v1, rfl, hown1⟩ := lexEnd_ok h3 rfl
    clear h3
    obtain ⟨HOK, hts⟩ := lexS_toks HR.out
    have hsl : s.data.toList.length = s.size := (Lib.size_eq s).symm
    have HOK2 : Hid (∀ t ∈ ts, TokOk s.data.toList t) := HOK
    have HSLn : Hid (s.data.toList.length = s.size) := hsl
    rw [hsl] at hts
    clear HOK hsl
    by_cases hn : 0 < ts.length
    · obtain ⟨g1, cap1, rfl, hB1, hg1, hc1, hcell1⟩ := owns_slice hown1 hn
      obtain ⟨n, hnn⟩ : ∃ n, ts.length = n := ⟨_, rfl⟩
      rw [hnn] at hc1 hn hts ⊢
      have HN := Lib.hid hnn
      have HC1 : Hid (∀ j u, (ts.flatMap tokCells)[j]? = some u → w1.cell? ⟨g1, j, none⟩ = some u) := hcell1
      clear hnn hown1 hcell1
      go_wp2_with (go_at_call 13; refine (known22_any _ hG1).mono ?_; rintro e w2 ⟨rfl, hb2⟩)
      have hG2 := hG1.at hb2
      have HB12 := Lib.hid (hb1.trans (hb2.mono hb1.size))
      have hg12 : g1 < w2.heap.size := by have := hb2.size; omega
      have hw12 : w.heap.size ≤ w2.heap.size := by have := hb2.size; have := hb1.size; omega
      have HC2 : Hid (∀ j u, (ts.flatMap tokCells)[j]? = some u → w2.cell? ⟨g1, j, none⟩ = some u) := fun j u h => by rw [hb2.cell (by show g1 < _; exact hg1)]; exact HC1.out j u h
      clear hb1 hb2 HC1 hG1
      go_loopw [8, 9, 10] (fun vt va vi wr => ∃ (i : Nat) (T : List UInt8) (ps : List Nat), vi = .int .i64 i ∧ i ≤ n ∧ vt = .string (bs T) ∧ wr.ownsRow w2.heap.size 3 1 va ps.length (ints ps) ∧ Hid (Below w2.heap.size w2 wr) ∧ w2.heap.size ≤ wr.heap.size ∧ Hid (Putting ts i T ps)) (fun _ _ i _ => n - (intOf i).toNat)
      case atStart =>
        exact ⟨0, [], [], rfl, Nat.zero_le _, rfl, World.ownsRow_made w2 #[] 0 (Nat.le_refl _) (Nat.zero_le _) rfl, Lib.hid ((Below.refl _ _).alloc (Nat.le_refl _) _), by simp, Lib.hid (putting_nil ts)⟩
      case round =>
        obtain ⟨i, T, ps, rfl, hin, rfl, hown, HBr, hwr, HP⟩ := hrel
        by_cases hlt : i < n
        · obtain ⟨t, ht⟩ : ∃ t, ts[i]? = some t := ⟨ts[i]'(by have := HN.out; omega), List.getElem?_eq_getElem _⟩
          have HT := Lib.hid ht
          have HTO : Hid (TokOk s.data.toList t) := HOK2.out t (List.mem_of_getElem? ht)
          clear ht
          have hcw : wr.cell? ⟨g1, i * 4 + 1, none⟩ = some (.string (bs t.text)) := by
            rw [HBr.out.cell (by show g1 < _; exact hg12)]
            exact HC2.out _ _ (tok_cell ts i t 1 _ HT.out rfl)
          have hpl : ps.length ≤ n := by have := HP.out.2.1; omega
          obtain ⟨q, hq⟩ : ∃ q : Nat, (i : Int) % (len : Int) = q := ⟨i % len, by omega⟩
          have hq1 : q < len := by
            have h1 : ((i % len : Nat) : Int) = (i : Int) % (len : Int) := by simp
            have h2 := Nat.mod_lt i hlen
            omega
          have hcg : wr.cell? ⟨ab, ao + q, none⟩ = some (.string (ss.getD q ByteArray.empty)) := by
            rw [HBr.out.cell (by show ab < _; omega), HB12.out.cell (by show ab < _; exact hab)]
            exact HCE.out q (by omega)
          have hgz : (ss.getD q ByteArray.empty).size ≤ 9223372036854775807 := by
            have h1 : q < ss.length := by omega
            have h2 : ss.getD q ByteArray.empty = ss[q] := by simp [List.getD, h1]
            rw [h2]
            exact HSL.out _ (List.getElem_mem h1)
          generalize ss.getD q ByteArray.empty = gq at hcg hgz
          go_wp2_with fail
          go_loop [11, 13] (fun vg vk => ∃ (j : Nat) (G : List UInt8), vk = .int .i64 j ∧ j ≤ 20 ∧ j ≤ gq.size ∧ vg = .string (bs G) ∧ G.length ≤ 1 + 8 * j ∧ Hid (Gap G)) (fun _ k => 20 - (intOf k).toNat)
          case atStart => exact ⟨0, [10], rfl, by omega, by omega, rfl, by simp, gap_one (by decide)⟩
          case round =>
            obtain ⟨j, G, rfl, hj1, hj2, rfl, hGl0, HG⟩ := hrel
            by_cases hjq : j < gq.size
            · by_cases hj20 : j < 20
              · obtain ⟨y, hy⟩ : ∃ y : Int, ((gq[j].toNat : Nat) : Int) % 5 = y := ⟨_, rfl⟩
                have hy5 : y = 0 ∨ y = 1 ∨ y = 2 ∨ y = 3 ∨ y = 4 := by omega
                have hpl0 := gapPiece_len y
                have HGM := Lib.hid (gap_more HG.out y)
                have hGz : (bs G).size ≤ 161 := by rw [bs_size]; omega
                clear hcw hcg hown
                rcases hy5 with rfl | rfl | rfl | rfl | rfl
                all_goals
                  go_wp2
                  first
                    | exact ⟨⟨j + 1, G ++ gapPiece _, by go_num, by omega, by omega, by rw [← bs_app]; rfl, by rw [List.length_append]; omega, HGM⟩, by simp [intOf]; omega⟩
                    | (refine ⟨⟨trivial, ?_⟩, by simp [intOf]; omega⟩; (repeat apply Exists.intro); exact ⟨⟨j + 1, G ++ gapPiece _, by go_num, by omega, by omega, by rw [← bs_app]; rfl, by rw [List.length_append]; omega, HGM⟩, rfl⟩)
              · have hGl : G.length ≤ 161 := by omega
                clear hGl0
                obtain ⟨p, hp⟩ : ∃ p, (bs (T ++ G)).size = p := ⟨_, rfl⟩
                have HPP : Hid (p = (T ++ G).length) := by show p = _; rw [← hp, bs_size]
                have hpz : p ≤ 4400161 := by
                  have h1 := HP.out.1
                  have h2 := HPP.out
                  rw [List.length_append] at h2
                  omega
                have hTz : (bs T).size ≤ 4400000 := by rw [bs_size]; have := HP.out.1; omega
                have hGz : (bs G).size ≤ 161 := by rw [bs_size]; omega
                have htz : (bs t.text).size ≤ 2000 := by rw [bs_size]; have := HTO.out.fits; have := HSLn.out; omega
                have htg := bs_app T G
                have htt := bs_app (T ++ G) t.text
                have HGL := Lib.hid hGl
                clear hGl
                have hown2 : ∀ o, (wr.alloc o).ownsRow w2.heap.size 3 1 _ ps.length (ints ps) := fun o => hown.alloc o
                have HNEW : Hid (∀ (j : Nat) (u : Value), [Value.int .i64 (p : Int)][j]? = some u → (wr.alloc (.cells #[.int .i64 (p : Int)] 3)).cell? ((⟨wr.heap.size, 0, none⟩ : Addr).add j) = some u) := cell_new wr [.int .i64 (p : Int)] 3 rfl
                go_wp2_with (at_builtin; go_must (refine wpList_append_own _ rfl _ _ 35 rfl w2.heap.size 3 i0 _ 1 8 Tryd.underlying35 hi hz0 hz1 hz2 rfl (by decide) _ _ _ rfl (hown2 _) ⟨wr.heap.size, 0, none⟩ 1 1 [.int .i64 (p : Int)] rfl rfl HNEW.out (by intro u hu; simp at hu; subst hu; rfl) (by unfold maxLen; omega) (by omega) (by simp; omega) ?_))
                · intro v' w5 hown3 hgrow _
                  have hb5 := below_grown hown ((HBr.out).alloc hwr _) (by simp; omega) hgrow
                  have hcw5 : w5.cell? ⟨g1, i * 4 + 1, none⟩ = some (.string (bs t.text)) := by
                    rw [hb5.cell (by show g1 < _; exact hg12)]
                    exact HC2.out _ _ (tok_cell ts i t 1 _ HT.out rfl)
                  have hwr5 := hb5.size
                  have HB5 := Lib.hid hb5
                  have HO3 := Lib.hid hown3
                  clear hown2 hgrow hb5 hown3 hcw hwr hTz hGz
                  go_wp2
                  go_roundw
                  case rel =>
                    refine ⟨i + 1, T ++ G ++ t.text, ps ++ [(T ++ G).length], by go_num, by omega, by first | rfl | rw [List.append_assoc], ?_, HB5, hwr5, Lib.hid (putting_step HP.out HT.out (by rw [HSLn.out]; exact hs) HTO.out HG.out HGL.out)⟩
                    have e1 : (ps ++ [(T ++ G).length]).length = ps.length + 1 := by simp
                    rw [e1, ints_snoc, ← HPP.out]
                    exact HO3.out
                  case measure => simp [intOf]; omega
            · have hGl : G.length ≤ 161 := by omega
              clear hGl0
              obtain ⟨p, hp⟩ : ∃ p, (bs (T ++ G)).size = p := ⟨_, rfl⟩
              have HPP : Hid (p = (T ++ G).length) := by show p = _; rw [← hp, bs_size]
              have hpz : p ≤ 4400161 := by
                have h1 := HP.out.1
                have h2 := HPP.out
                rw [List.length_append] at h2
                omega
              have hTz : (bs T).size ≤ 4400000 := by rw [bs_size]; have := HP.out.1; omega
              have hGz : (bs G).size ≤ 161 := by rw [bs_size]; omega
              have htz : (bs t.text).size ≤ 2000 := by rw [bs_size]; have := HTO.out.fits; have := HSLn.out; omega
              have htg := bs_app T G
              have htt := bs_app (T ++ G) t.text
              have HGL := Lib.hid hGl
              clear hGl
              have hown2 : ∀ o, (wr.alloc o).ownsRow w2.heap.size 3 1 _ ps.length (ints ps) := fun o => hown.alloc o
              have HNEW : Hid (∀ (j : Nat) (u : Value), [Value.int .i64 (p : Int)][j]? = some u → (wr.alloc (.cells #[.int .i64 (p : Int)] 3)).cell? ((⟨wr.heap.size, 0, none⟩ : Addr).add j) = some u) := cell_new wr [.int .i64 (p : Int)] 3 rfl
              go_wp2_with (at_builtin; go_must (refine wpList_append_own _ rfl _ _ 35 rfl w2.heap.size 3 i0 _ 1 8 Tryd.underlying35 hi hz0 hz1 hz2 rfl (by decide) _ _ _ rfl (hown2 _) ⟨wr.heap.size, 0, none⟩ 1 1 [.int .i64 (p : Int)] rfl rfl HNEW.out (by intro u hu; simp at hu; subst hu; rfl) (by unfold maxLen; omega) (by omega) (by simp; omega) ?_))
              · intro v' w5 hown3 hgrow _
                have hb5 := below_grown hown ((HBr.out).alloc hwr _) (by simp; omega) hgrow
                have hcw5 : w5.cell? ⟨g1, i * 4 + 1, none⟩ = some (.string (bs t.text)) := by
                  rw [hb5.cell (by show g1 < _; exact hg12)]
                  exact HC2.out _ _ (tok_cell ts i t 1 _ HT.out rfl)
                have hwr5 := hb5.size
                have HB5 := Lib.hid hb5
                have HO3 := Lib.hid hown3
                clear hown2 hgrow hb5 hown3 hcw hwr hTz hGz
                go_wp2
                go_roundw
                case rel =>
                  refine ⟨i + 1, T ++ G ++ t.text, ps ++ [(T ++ G).length], by go_num, by omega, by first | rfl | rw [List.append_assoc], ?_, HB5, hwr5, Lib.hid (putting_step HP.out HT.out (by rw [HSLn.out]; exact hs) HTO.out HG.out HGL.out)⟩
                  have e1 : (ps ++ [(T ++ G).length]).length = ps.length + 1 := by simp
                  rw [e1, ints_snoc, ← HPP.out]
                  exact HO3.out
                case measure => simp [intOf]; omega
        · obtain rfl : i = n := by omega
          obtain ⟨hP1, hP2, acc, hBt, hacc, hget⟩ := HP.out
          obtain ⟨m, hm⟩ : ∃ m, (bs T).size = m := ⟨_, rfl⟩
          have HTm : Hid (m = T.length) := by show m = _; rw [← hm, bs_size]
          have hmz : m ≤ 4400000 := by have := HTm.out; omega
          have HBw : Hid (Below w.heap.size w wr) := HB12.out.trans (HBr.out.mono hw12)
          have HBt := Lib.hid hBt
          have HGET := Lib.hid hget
          have HACC := Lib.hid hacc
          have HP2 := Lib.hid hP2
          clear hP1 hP2 hBt hacc hget HP
          by_cases hbig : 60000 < m
          · clear hown
            go_wp2
            go_ret
            exact ⟨rfl, HBw.out⟩
          · have hTl : T.length ≤ 60000 := by have := HTm.out; omega
            have HL : Hid (lexS (bs T ++ ({ data := #[32, 35, 32, 116, 104, 101, 32, 101, 110, 100] } : ByteArray)).data.toList = .ok acc) := by
              have h1 : (bs T ++ ({ data := #[32, 35, 32, 116, 104, 101, 32, 101, 110, 100] } : ByteArray)).data.toList = T ++ [32, 35, 32, 116, 104, 101, 32, 101, 110, 100] := by simp [bs]
              show lexS _ = _
              rw [h1]
              exact built_end HBt.out hTl
            have hGr : Good wr := hG2.at HBr.out
            clear hTl
            go_wp2_with fail
            refine (tokens_any _ _ (by rw [ByteArray.size_append, hm]; show m + 10 ≤ 65536; omega) hGr).mono ?_
            rintro e w5 ⟨h4, hb5⟩
            obtain ⟨v3, rfl, hown3⟩ := lexEnd_ok h4 HL.out
            clear h4
            have hown3' : w5.ownsRow wr.heap.size 31 4 v3 i (acc.flatMap tokCells) := by have h5 := hown3; rw [HACC.out] at h5; exact h5
            obtain ⟨g3, cap3, rfl, hB3, hg3, hc3, hcell3⟩ := owns_slice hown3' hn
            obtain ⟨g2, cap2, rfl, hB2, hg2, hc2, hcell2⟩ := owns_slice hown (by rw [HP2.out]; exact hn)
            have hwr5 := hb5.size
            have HF : Hid (FinAt w5 g1 g2 g3 ts i) := by
              intro j t hj ht
              obtain ⟨p, hp1, hp2⟩ := HGET.out j t hj ht
              refine ⟨p, fun f u hf => ?_, fun f u hf => hcell3 _ _ (tok_cell acc j _ f u hp2 hf), ?_⟩
              · rw [hb5.cell (by show g1 < _; omega), HBr.out.cell (by show g1 < _; exact hg12)]
                exact HC2.out _ _ (tok_cell ts j t f u ht hf)
              · rw [hb5.cell (by show g2 < _; exact hg2)]
                exact hcell2 j _ (ints_get hp1)
            have hcp := HP2.out
            have HB5 : Hid (Below w.heap.size w w5) := HBw.out.trans (hb5.mono HBw.out.size)
            rw [hcp] at hc2 ⊢
            clear hcell2 hcell3 hown hown3 hown3' hb5 hcp
            go_wp2_with fail
            go_loopw [17] (fun vi wq => ∃ j : Nat, vi = .int .i64 j ∧ j ≤ i ∧ Hid (Below w.heap.size w wq) ∧ Hid (FinAt wq g1 g2 g3 ts i)) (fun vi _ => i - (intOf vi).toNat)
            case atStart => exact ⟨0, rfl, Nat.zero_le _, HB5, HF⟩
            case round =>
              obtain ⟨j, rfl, hji, HBq, HFq⟩ := hrel
              by_cases hjn : j < i
              · obtain ⟨t, ht⟩ : ∃ t, ts[j]? = some t := ⟨ts[j]'(by have := HN.out; omega), List.getElem?_eq_getElem _⟩
                obtain ⟨p, hF1, hF3, hF2⟩ := HFq.out j t hjn ht
                have HTO : TokOk s.data.toList t := HOK2.out t (List.mem_of_getElem? ht)
                have a0 := hF1 0 _ rfl
                have a1 := hF1 1 _ rfl
                have a2 := hF1 2 _ rfl
                have a3 := hF1 3 _ rfl
                have b0 := hF3 0 _ rfl
                have b1 := hF3 1 _ rfl
                have b2 := hF3 2 _ rfl
                have b3 := hF3 3 _ rfl
                simp only [Nat.add_zero] at a0 b0
                obtain ⟨tl, htl⟩ : ∃ tl, (bs t.text).size = tl := ⟨_, rfl⟩
                have hfit : t.pos + tl ≤ s.size := by rw [← htl, bs_size, ← HSLn.out]; exact HTO.fits
                have hsx : s.extract t.pos (t.pos + tl) = bs t.text := by
                  refine bs_eq ?_
                  rw [Lib.extract_data, show t.pos + tl - t.pos = tl by omega, ← htl, bs_size]
                  exact HTO.here
                clear hF1 hF3 HTO ht
                go_wp2_with fail
                go_quiet (fail)
                clear a0 a1 a2 a3 b0 b1 b2 b3 hF2 hsx htl
                go_wp2
                go_roundw
                case rel => exact ⟨j + 1, by go_num, by omega, Lib.hid (below_drewN HBq.out _), Lib.hid (fun j t h1 h2 => HFq.out j t h1 h2)⟩
                case measure => simp [intOf]; omega
              · go_wp2
                go_ret
                exact ⟨rfl, HBq.out⟩
    · obtain rfl : ts = [] := List.length_eq_zero_iff.1 (by omega)
      obtain ⟨a1, cap1, rfl⟩ := owns_nil hown1
      clear hown1 hn
      go_wp2_with (go_at_call 13; refine (known22_any _ hG1).mono ?_; rintro e w2 ⟨rfl, hb2⟩)
      have hG2 := hG1.at hb2
      have HB12 := Lib.hid (hb1.trans (hb2.mono hb1.size))
      clear hb1 hb2 hG1
      have hG3 : Good (w2.alloc (.cells #[] 3)) := hG2.at ((Below.refl _ _).alloc (Nat.le_refl _) _)
      refine wp_loop_once ?_
      go_wp2_with (go_at_call 11; refine (tokens_any _ _ (by decide) hG3).mono ?_; rintro e w3 ⟨h4, hb3⟩; obtain ⟨v3, rfl, hown3⟩ := lexEnd_ok (ts := []) h4 (built_end built_nil (by decide)); obtain ⟨a3, cap3, rfl⟩ := owns_nil hown3; clear h4 hown3)
      have HB3 := Lib.hid (HB12.out.trans (((Below.refl _ _).alloc HB12.out.size _).trans (hb3.mono (by simp; exact Nat.le_succ_of_le HB12.out.size))))
      clear hb3
      refine wp_loop_once ?_
      go_wp2
      go_ret
      exact ⟨rfl, HB3.out⟩

end Go.Proofs.YtgnjaneddidbbaaDoor
