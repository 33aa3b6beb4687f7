/-
  What the listed variables give (Good), out of the given rows.
-/
import Derived.Test.YtdjklnlkocconaaGreatDoorGroundZ
namespace Go.Proofs.YtdjklnlkocconaaGreatDoor
open Go Go.ChangeShapes Go.WideShapes Go.ChangeAt Go.WideMaps Go.WideElems Go.RowKit

theorem laidVars_in {P : Program} {w : World} : ∀ {l : List (String × DataW Unit)} {ps : List MemPlace}, DataW.LaidVars P w l ps → ∀ n d, (n, d) ∈ l →
    ∃ g t cs fuel p, P.globalNamed n = some g ∧ (P.globals[g]?).map (·.type) = some t ∧ w.var? P n = some cs ∧ DataW.trod (fun _ => ()) P w 0 (fun _ => true) false fuel t cs.toList = some (d, p)
  | [], _, _, _, _, hm => by cases hm
  | (n0, d0) :: r, _, h, n, d, hm => by
    obtain ⟨g, t, cs, fuel, p, q, h1, h2, h3, h4, h5, _⟩ := h
    rcases List.mem_cons.1 hm with e | hm
    · cases e
      exact ⟨g, t, cs, fuel, p, h1, h2, h3, h4⟩
    · exact laidVars_in h5 n d hm

theorem good_of_rows {W : World} (h : laidMetH Tryz.prog Rows.bindChecksRow.laid W) : Good W := by
  rw [MakeChecks.laidMetH_plain _ _ _ (by kernel_rfl)] at h
  obtain ⟨ps, hv, _, _⟩ := h
  have h5 := laidVars_in hv "math/bits.deBruijn64tab" Rows.laid_math_bits_deBruijn64tab (by simp [Rows.bindChecksRow])
  have hr := laidVars_in hv "strconv.ErrRange" Rows.laid_strconv_ErrRange (by simp [Rows.bindChecksRow])
  have hp := laidVars_in hv "internal/strconv.uint64pow10" Rows.laid_internal_strconv_uint64pow10 (by simp [Rows.bindChecksRow])
  refine ⟨?_, ?_, ?_⟩
  · obtain ⟨g, t, cs, fuel, p, h1, _, h3, _⟩ := h5
    obtain rfl := Option.some.inj ((show Tryz.prog.globalNamed "math/bits.deBruijn64tab" = some 5 by kernel_rfl).symm.trans h1)
    unfold World.var? at h3
    simp only [h1, Option.bind_some] at h3
    rcases Nat.lt_or_ge 5 W.heap.size with hl | hl
    · omega
    · simp [Array.getElem?_eq_none hl] at h3
  · obtain ⟨g, t, cs, fuel, p, h1, h2, h3, h4⟩ := hr
    obtain rfl := Option.some.inj ((show Tryz.prog.globalNamed "strconv.ErrRange" = some 2 by kernel_rfl).symm.trans h1)
    obtain rfl := Option.some.inj ((show (Tryz.prog.globals[2]?).map (·.type) = some 93 by kernel_rfl).symm.trans h2)
    obtain ⟨_, u, v, hcs, _, _⟩ := iface_of_trod Tryz.underlying93 h4
    have hc := World.var?_cell h1 h3 0
    rw [Array.eq_one_of_toList hcs] at hc
    exact ⟨_, by simpa using hc, .inr ⟨u, v, rfl⟩⟩
  · obtain ⟨g, t, cs, fuel, p, h1, h2, h3, h4⟩ := hp
    obtain rfl := Option.some.inj ((show Tryz.prog.globalNamed "internal/strconv.uint64pow10" = some 3 by kernel_rfl).symm.trans h1)
    obtain rfl := Option.some.inj ((show (Tryz.prog.globals[3]?).map (·.type) = some 174 by kernel_rfl).symm.trans h2)
    have e : (Rows.laid_internal_strconv_uint64pow10 : DataW Unit) = Lib.tabData .u64 Lib.pow10Tab := by kernel_rfl
    rw [e] at h4
    show W.var? _ _ = _
    rw [h3, ← Lib.cells_of_tab (k := .u64) (zs := Lib.pow10Tab) (n := 20) (e := 34) Tryz.underlying174 Tryz.underlying34 (by kernel_rfl) (by kernel_rfl) h4]
end Go.Proofs.YtdjklnlkocconaaGreatDoor
