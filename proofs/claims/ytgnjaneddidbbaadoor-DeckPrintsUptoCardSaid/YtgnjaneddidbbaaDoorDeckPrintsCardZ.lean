/-
  The second card of DeckPrints: the law returns true for every input whose values and letters are at most 1048576 together; each argument reads behind the call as it read before. Conditions: that bound; the listed variables as the program's text lays them (tied).
-/
import Derived.Test.YtgnjaneddidbbaaDoorGroundZ
import Derived.Test.YtgnjaneddidbbaaDoorDeckPrintsZ
import Derived.Test.YtgnjaneddidbbaaDoorCards
import Derived.Test.YtgnjaneddidbbaaDoorTie
import Derived.SevenTiedAt
import Derived.Deep.DeepHandedRow
namespace Go.Proofs.YtgnjaneddidbbaaDoor
open Go Go.ChangeShapes Go.WideShapes Go.ChangeAt Go.WideMaps Go.WideElems Go.RowKit

theorem deckPrints_reads (os : Os) {H : Type} (enc : TypeId × Value → H) : ∃ places, DataW.whole enc Tryd.prog ((World.doorLaid Tryd.prog 400 os).forCall (fun _ _ => 0) ⟨#[], #[.slice none 0 0], []⟩).memory Tryd.f9.params.toList Rows.deckPrintsSpec.vars false (#[.slice none 0 0] : Array Value).toList 8 = some ([.nil], [], places) :=
  ⟨[], by kernel_rfl⟩

theorem deckPrints_shaped (os : Os) : ((World.doorLaid Tryd.prog 400 os).forCall (fun _ _ => 0) ⟨#[], #[.slice none 0 0], []⟩).Shaped Tryd.prog := World.shaped_of_RefB (by kernel_rfl) (by kernel_rfl)
theorem deckPrints_okW (os : Os) : Input.okWideB Tryd.checked.prog ((World.doorLaid Tryd.prog 400 os).forCall (fun _ _ => 0) ⟨#[], #[.slice none 0 0], []⟩) 9 ⟨#[], #[.slice none 0 0], []⟩ = true := by kernel_rfl

set_option maxRecDepth 100000 in
theorem deckPrints_lifted (os : Os) (started : os.Started) (H : Type) (enc : TypeId × Value → H) (F : Stop.Interp) :
    ReturnsInHanded {} Tryd.checked os 9 .any ((Rows.OpenSpec.upto Rows.deckPrintsSpec).preRow enc Tryd.prog Tryd.f9 Rows.deckPrintsUptoRow.domain false Rows.deckPrintsUptoRow.laid) (((Rows.OpenSpec.upto Rows.deckPrintsSpec).at F).post enc Tryd.prog Tryd.f9 false true false false) := by
  obtain ⟨places, hx⟩ := deckPrints_reads os enc
  refine returnsInHanded_of_row (C := Tryd.checked) (s := Rows.OpenSpec.upto Rows.deckPrintsSpec) Tryd.own started (by kernel_rfl) Tryd.func9
    ⟨World.doorLaid Tryd.prog 400 os, fun _ _ => 0, ⟨#[], #[.slice none 0 0], []⟩, rfl, deckPrints_shaped os, rfl, (Input.okWide_of_okWideB (deckPrints_okW os)).2,
      OpenSpec.preRow_of_cond 8 hx (by kernel_rfl) (fun k hk => by cases hk; kernel_rfl) (by kernel_rfl) (door_met os _), by
        simp only [Assume.holds]
        exact ⟨by simp, by simp, by simp, by simp, by simp⟩⟩ ?_
  intro W base args ds gs before hval0 hW _ hcond _ hL _ _
  have hval : ∀ (j : Nat) t v, Tryd.f9.params[j]? = some t → args[j]? = some v → Value.okWide Tryd.prog W .any base t v := hval0
  have hW' := hW
  obtain ⟨p, q, hA0, hV0, rfl, hfz, hnd⟩ := hW
  have hA : DataW.TrodAll enc Tryd.prog W 0 (fun _ => true) true Tryd.f9.params.toList args.toList ds p := hA0
  have hV : DataW.TrodVars enc Tryd.prog W (fun _ => true) [] gs q := hV0
  obtain ⟨rfl, rfl⟩ : gs = [] ∧ q = [] := by
    cases gs with
    | nil => exact ⟨rfl, hV⟩
    | cons g r => exact absurd hV (by intro h; cases h)
  have hk0 := hcond _ rfl
  rw [List.append_nil] at hk0
  have hk : Rows.uptoBulkAll ds ≤ 1048576 := of_decide_eq_true hk0
  have hg : Good W := good_of_laid hL
  have hspec := deckPrints_spec (H := H) hA
  refine (deckPrints_calls W base args ds p hg hval hA hk).mono fun e W' ⟨he, hb⟩ => ?_
  subst he
  exact ⟨_, rfl, post_true hW' hb rfl hspec rfl (by kernel_rfl)⟩

theorem deckPrints_holds : Rows.DeckPrintsUptoSaid :=
  OpenClaim.holds_of_cond 9 Tryd.f9 rfl rfl rfl rfl rfl rfl rfl ⟨rfl, rfl, rfl, rfl, rfl⟩ rfl rfl rfl rfl rfl (by kernel_rfl) Tryd.func9 (by kernel_rfl)
    (of_decide_eq_true (by kernel_rfl)) (by unfold Func.isWrapper; first | (rw [if_pos (by decide +kernel)]; kernel_rfl) | (rw [if_neg (by decide +kernel)]; exact ⟨rfl, rfl⟩))
    (fun os started H enc _ F => by rw [OpenClaim.pre_eq_preRow]; exact deckPrints_lifted os started H enc F)

theorem deckPrints_card : Rows.DeckPrintsUptoCardSaid :=
  Claim7.holds_tied_plain_at .later [] Rows.deckPrintsUptoCard.laidKinds true Rows.deckPrintsUptoCard.stood.harness true
    deckPrints_holds (fun _ h => by cases h) (by kernel_rfl) (fun _ h => by cases h) deckPrintsUpto_row_tie rfl ⟨rfl, rfl⟩ (by kernel_rfl) rfl
    (fun f fn hf hfn => by
      obtain rfl : f = 9 := Option.some.inj ((show Tryd.prog.funcNamed Tryd.f9.name = some 9 by kernel_rfl).symm.trans hf) |>.symm
      obtain rfl : fn = Tryd.f9 := (Option.some.inj (Tryd.func9.symm.trans hfn)).symm
      exact ⟨by kernel_rfl, fun j t ht => by
        have hm : t ∈ Tryd.f9.params.toList := by simpa using Array.mem_of_getElem? ht
        have hall : (Tryd.f9.params.toList.all fun u => !Tryd.prog.wantsStandIn u) = true := by kernel_rfl
        exact (show Tryd.prog.wantsStandIn t = false by simpa using List.all_eq_true.1 hall t hm)⟩)
    (by kernel_rfl)
#print axioms deckPrints_card
end Go.Proofs.YtgnjaneddidbbaaDoor
