/- The card of OfficerSamples. -/
import Derived.Test.YtbhlffhfmgnleaaGreatDoorSD4
import Derived.Test.YtbhlffhfmgnleaaGreatDoorSD5
set_option linter.all false
namespace Go.Proofs.YtbhlffhfmgnleaaGreatDoor
open Go Go.Ab Go.ChangeShapes Go.WideShapes Go.ChangeAt Go.RowKit

theorem ownS : ownKnob Tryz.prog.godebug = none := by kernel_rfl
abbrev samplesArgs : Array Value := #[.string ⟨#[]⟩, .slice none 0 0, .int .i64 0]
theorem samples_laid (os : Os) : laidMet Tryz.prog Rows.officerSamplesRow.laid ((laidWorld os).forCall (fun _ _ => 0) ⟨#[], samplesArgs, []⟩).memory :=
  laidMet_of_run' 8 (by kernel_rfl) (by kernel_rfl)
theorem samples_reads (os : Os) {H : Type} (enc : TypeId × Value → H) : ∃ ds places, DataW.whole enc Tryz.prog ((laidWorld os).forCall (fun _ _ => 0) ⟨#[], samplesArgs, []⟩).memory Tryz.f5.params.toList Rows.officerSamplesSpec.vars false samplesArgs.toList 8 = some (ds, [], places) :=
  ⟨[.lit (.string []), .nil, .lit (.int .i64 0)], [], by kernel_rfl⟩

set_option maxRecDepth 100000 in
theorem samples_lifted (os : Os) (started : os.Started) (H : Type) (enc : TypeId × Value → H) (F : Stop.Interp) :
    ReturnsInHanded {} Tryz.checked os 5 .any ((OpenSpec.ofChange Rows.officerSamplesSpec).preRow enc Tryz.prog Tryz.f5 Rows.officerSamplesRow.domain false Rows.officerSamplesRow.laid) (((OpenSpec.ofChange Rows.officerSamplesSpec).at F).post enc Tryz.prog Tryz.f5 false true false false) := by
  obtain ⟨ds, places, hx⟩ := samples_reads os enc
  refine returnsInHanded_of_row (C := Tryz.checked) (s := OpenSpec.ofChange Rows.officerSamplesSpec) ownS started (by kernel_rfl) Tryz.func5
    (witness_row_at (enc := enc) (C := Tryz.checked) false (laidWorld os) samplesArgs rfl (by kernel_rfl) (by kernel_rfl) (by kernel_rfl)
      (OpenSpec.preRow_of_cond 8 hx (by kernel_rfl) (fun k hk => by cases hk) (by kernel_rfl) (samples_laid os))) ?_
  intro W base args ds gs before hval hW _ _ _ hL _ _
  exact samples_contract H enc W base args ds gs before hval hW hL

set_option maxRecDepth 100000 in
theorem samples_said : Rows.OfficerSamplesSaid :=
  OpenClaim.holds_of_cond 5 Tryz.f5 rfl rfl rfl rfl rfl rfl rfl ⟨rfl, rfl, rfl, rfl, rfl⟩ rfl rfl rfl rfl rfl (by kernel_rfl) Tryz.func5 sfclosed
    (of_decide_eq_true (by kernel_rfl)) (by unfold Func.isWrapper; first | (rw [if_pos (by decide +kernel)]; kernel_rfl) | (rw [if_neg (by decide +kernel)]; exact ⟨rfl, rfl⟩))
    (fun os started H enc _ F => by rw [OpenClaim.pre_eq_preRow]; exact samples_lifted os started H enc F)

theorem samples_plain (f : FuncId) (fn : Func) (hf : Tryz.pinned.checked.prog.funcNamed "spile/spilelaw58.OfficerSamples" = some f) (hfn : Tryz.pinned.checked.prog.funcs[f]? = some fn) :
    true = Tryz.pinned.checked.prog.looks [] ∧ ∀ (j : Nat) t, fn.params[j]? = some t → Tryz.pinned.checked.prog.wantsStandIn t = false := by
  obtain rfl : f = 5 := Option.some.inj ((show Tryz.prog.funcNamed "spile/spilelaw58.OfficerSamples" = some 5 by kernel_rfl).symm.trans hf) |>.symm
  obtain rfl : fn = Tryz.f5 := (Option.some.inj (Tryz.func5.symm.trans hfn)).symm
  refine ⟨by kernel_rfl, fun j t ht => ?_⟩
  rw [Tryz.params5] at ht
  have : t = 9 ∨ t = 22 ∨ t = 3 := by simpa using Array.mem_of_getElem? ht
  rcases this with rfl | rfl | rfl
  · exact (show Tryz.prog.wantsStandIn 9 = false by kernel_rfl)
  · exact (show Tryz.prog.wantsStandIn 22 = false by kernel_rfl)
  · exact (show Tryz.prog.wantsStandIn 3 = false by kernel_rfl)

/-- THE CARD. -/
theorem samples_card : Rows.OfficerSamplesCardSaid :=
  Claim7.holds_tied_plain_at .later [] _ _ _ _ samples_said (fun _ h => by cases h) (by kernel_rfl) (fun _ h => by cases h) officerSamples_row_tie rfl ⟨rfl, rfl⟩ (by kernel_rfl) rfl samples_plain (by kernel_rfl)
end Go.Proofs.YtbhlffhfmgnleaaGreatDoor
