/- The card of OfficerDraws. -/
import Derived.Test.YtbhlffhfmgnleaaGreatDoorWE7
import Derived.Test.YtbhlffhfmgnleaaGreatDoorWE8
set_option linter.all false
namespace Go.Proofs.YtbhlffhfmgnleaaGreatDoor
open Go Go.Ab Go.ChangeShapes Go.WideShapes Go.ChangeAt Go.RowKit

theorem ownD : ownKnob Tryz.prog.godebug = none := by kernel_rfl
abbrev drawsArgs : Array Value := #[.int .i64 0, .int .i64 0, .string ⟨#[]⟩, .string ⟨#[]⟩, .slice none 0 0, .int .i64 0]
theorem draws_laid (os : Os) : laidMet Tryz.prog Rows.officerDrawsRow.laid ((laidWorld os).forCall (fun _ _ => 0) ⟨#[], drawsArgs, []⟩).memory :=
  laidMet_of_run' 8 (by kernel_rfl) (by kernel_rfl)
theorem draws_reads (os : Os) {H : Type} (enc : TypeId × Value → H) : ∃ ds places, DataW.whole enc Tryz.prog ((laidWorld os).forCall (fun _ _ => 0) ⟨#[], drawsArgs, []⟩).memory Tryz.f3.params.toList Rows.officerDrawsSpec.vars false drawsArgs.toList 8 = some (ds, [], places) :=
  ⟨[.lit (.int .i64 0), .lit (.int .i64 0), .lit (.string []), .lit (.string []), .nil, .lit (.int .i64 0)], [], by kernel_rfl⟩

set_option maxRecDepth 100000 in
theorem draws_lifted (os : Os) (started : os.Started) (H : Type) (enc : TypeId × Value → H) (F : Stop.Interp) :
    ReturnsInHanded {} Tryz.checked os 3 .any ((OpenSpec.ofChange Rows.officerDrawsSpec).preRow enc Tryz.prog Tryz.f3 Rows.officerDrawsRow.domain false Rows.officerDrawsRow.laid) (((OpenSpec.ofChange Rows.officerDrawsSpec).at F).post enc Tryz.prog Tryz.f3 false true false false) := by
  obtain ⟨ds, places, hx⟩ := draws_reads os enc
  refine returnsInHanded_of_row (C := Tryz.checked) (s := OpenSpec.ofChange Rows.officerDrawsSpec) ownD started (by kernel_rfl) Tryz.func3
    (witness_row_at (enc := enc) (C := Tryz.checked) false (laidWorld os) drawsArgs rfl (by kernel_rfl) (by kernel_rfl) (by kernel_rfl)
      (OpenSpec.preRow_of_cond 8 hx (by kernel_rfl) (fun k hk => by cases hk) (by kernel_rfl) (draws_laid os))) ?_
  intro W base args ds gs before hval hW _ _ _ hL _ _
  exact draws_contract H enc W base args ds gs before hval hW hL

set_option maxRecDepth 100000 in
theorem draws_said : Rows.OfficerDrawsSaid :=
  OpenClaim.holds_of_cond 3 Tryz.f3 rfl rfl rfl rfl rfl rfl rfl ⟨rfl, rfl, rfl, rfl, rfl⟩ rfl rfl rfl rfl rfl (by kernel_rfl) Tryz.func3 dfclosed
    (of_decide_eq_true (by kernel_rfl)) (by unfold Func.isWrapper; first | (rw [if_pos (by decide +kernel)]; kernel_rfl) | (rw [if_neg (by decide +kernel)]; exact ⟨rfl, rfl⟩))
    (fun os started H enc _ F => by rw [OpenClaim.pre_eq_preRow]; exact draws_lifted os started H enc F)

theorem draws_plain (f : FuncId) (fn : Func) (hf : Tryz.pinned.checked.prog.funcNamed "spile/spilelaw58.OfficerDraws" = some f) (hfn : Tryz.pinned.checked.prog.funcs[f]? = some fn) :
    true = Tryz.pinned.checked.prog.looks [] ∧ ∀ (j : Nat) t, fn.params[j]? = some t → Tryz.pinned.checked.prog.wantsStandIn t = false := by
  obtain rfl : f = 3 := Option.some.inj ((show Tryz.prog.funcNamed "spile/spilelaw58.OfficerDraws" = some 3 by kernel_rfl).symm.trans hf) |>.symm
  obtain rfl : fn = Tryz.f3 := (Option.some.inj (Tryz.func3.symm.trans hfn)).symm
  refine ⟨by kernel_rfl, fun j t ht => ?_⟩
  rw [Tryz.params3] at ht
  have : t = 3 ∨ t = 3 ∨ t = 9 ∨ t = 9 ∨ t = 22 ∨ t = 3 := by simpa using Array.mem_of_getElem? ht
  rcases this with rfl | rfl | rfl | rfl | rfl | rfl
  · exact (show Tryz.prog.wantsStandIn 3 = false by kernel_rfl)
  · exact (show Tryz.prog.wantsStandIn 3 = false by kernel_rfl)
  · exact (show Tryz.prog.wantsStandIn 9 = false by kernel_rfl)
  · exact (show Tryz.prog.wantsStandIn 9 = false by kernel_rfl)
  · exact (show Tryz.prog.wantsStandIn 22 = false by kernel_rfl)
  · exact (show Tryz.prog.wantsStandIn 3 = false by kernel_rfl)

/-- THE CARD. -/
theorem draws_card : Rows.OfficerDrawsCardSaid :=
  Claim7.holds_tied_plain_at .later [] _ _ _ _ draws_said (fun _ h => by cases h) (by kernel_rfl) (fun _ h => by cases h) officerDraws_row_tie rfl ⟨rfl, rfl⟩ (by kernel_rfl) rfl draws_plain (by kernel_rfl)
end Go.Proofs.YtbhlffhfmgnleaaGreatDoor
