/- 'spilelaw58.OfficerBound' answers true, whatever its arguments are, in whatever memory, on every schedule; the arguments read as they did. The tables of the library and of book hold what the program's text lays there (the card ties this). -/
import Derived.Test.YtbhlffhfmgnleaaGreatDoorC3
import Derived.Test.YtbhlffhfmgnleaaGreatDoorC4
import Derived.ChangeMaps5
set_option linter.all false
namespace Go.Ab
open Go Go.ChangeShapes Go.WideShapes Go.ChangeAt Go.RowKit

theorem open_pair {H : Type} {enc : TypeId × Value → H} {P : Program} {w : World} {base b0 : Nat} {sp : Nat → Bool} {held : Bool} {r : Reach} {t e : TypeId} {k : IntKind} {v : Value} {d : DataW H} {ps : List MemPlace}
    (ht : P.underlying t = some (.array 2 e)) (he : P.underlying e = some (.int k)) (hce : P.cellsOf e = 1) (hct : P.cellsOf t = 2) (hval : Value.okWide P w r b0 t v) (hd : DataW.Trod enc P w base sp held t v d ps) :
    ∃ a b, v = .agg #[.int k a, .int k b] ∧ d = .agg [.lit (.int k a), .lit (.int k b)] ∧ ps = [] ∧ (Lit.int k a).wf = true ∧ (Lit.int k b).wf = true := by
  unfold Value.okWide at hval
  rw [ht] at hval
  obtain ⟨cs, rfl, hsz, _⟩ := hval
  obtain ⟨fuel, hf⟩ := hd
  obtain ⟨xs, m, rfl, hx, hl, hxl, hget⟩ := DataW.trod_array ht hf
  have h0 := hget 0 (by decide)
  have h1 := hget 1 (by decide)
  rw [hce] at h0 h1
  match xs, hxl, hx, h0, h1 with
  | [x0, x1], _, hx, h0, h1 =>
    obtain ⟨a, hc0, rfl, w0⟩ := DataW.trod_int he h0
    obtain ⟨b, hc1, rfl, w1⟩ := DataW.trod_int he h1
    simp only [Prod.mk.injEq] at hx
    have hcs : (Value.agg cs).cells = cs := rfl
    rw [hcs] at hc0 hc1
    have hs2 : cs.size = 2 := hsz.trans hct
    refine ⟨a, b, ?_, by simpa using hx.1, by simpa using hx.2, w0, w1⟩
    congr 1
    apply Array.ext
    · simpa using hs2
    · intro j h2 h3
      match j, h2 with
      | 0, h2 =>
        have := congrArg (fun l : List Value => l[0]?) hc0
        simpa [h2] using this
      | 1, h2 =>
        have := congrArg (fun l : List Value => l[0]?) hc1
        simpa [h2] using this
      | j + 2, h2 => omega
theorem shut_pair {H : Type} {enc : TypeId × Value → H} {P : Program} {w : World} {base : Nat} {sp : Nat → Bool} {held : Bool} {t e : TypeId} {k : IntKind} {a b : Int}
    (ht : P.underlying t = some (.array 2 e)) (he : P.underlying e = some (.int k)) (hce : P.cellsOf e = 1) (hct : P.cellsOf t = 2) (wa : (Lit.int k a).wf = true) (wb : (Lit.int k b).wf = true) :
    DataW.Trod enc P w base sp held t (.agg #[.int k a, .int k b]) (.agg [.lit (.int k a), .lit (.int k b)]) [] := by
  refine ⟨2, ?_⟩
  simp [DataW.trod, Value.cells, ht, he, hce, hct, wa, wb, List.range, List.range.loop]
end Go.Ab

namespace Go.Proofs.YtbhlffhfmgnleaaGreatDoor
open Go Go.Ab Go.ChangeShapes Go.WideShapes Go.ChangeAt Go.RowKit
open Go.ChangeMaps (open_string shut_string)

theorem own : ownKnob Tryz.prog.godebug = none := by kernel_rfl
theorem cells34 : Tryz.prog.cellsOf 34 = 2 := by kernel_rfl
theorem cells3 : Tryz.prog.cellsOf 3 = 1 := by kernel_rfl

set_option maxRecDepth 100000 in
theorem bound_contract (H : Type) (enc : TypeId × Value → H) (W : World) (base : Nat) (args : Array Value) (ds gs : List (DataW H)) (before : List MemPlace)
    (hval : ∀ (j : Nat) t v, Tryz.f4.params[j]? = some t → args[j]? = some v → Value.okWide Tryz.prog W .any base t v)
    (hW : DataW.Whole enc Tryz.prog Tryz.f4.params.toList Rows.officerBoundSpec.vars false W args.toList ds gs before) (hL : laidMetH Tryz.prog Rows.officerBoundRow.laid W) :
    Calls Tryz.prog 4 args W fun e W' => ∃ v, e = .returned v ∧ Rows.officerBoundSpec.post enc Tryz.prog Tryz.f4 false true false false W args v W' := by
  have hW' := hW
  obtain ⟨p, q, hA0, hV, rfl, hfz, hnd⟩ := hW
  have hA : DataW.TrodAll enc Tryz.prog W 0 (fun _ => true) true Tryz.f4.params.toList args.toList ds p := hA0
  rw [Tryz.params4] at hA hval
  obtain ⟨v0, vs0, d0, ds0, p0, q0, hargs, rfl, rfl, h0, r0⟩ := trodAll_cons hA
  obtain ⟨v1, vs1, d1, ds1, p1, q1, rfl, rfl, rfl, h1, r1⟩ := trodAll_cons r0
  obtain ⟨v2, vs2, d2, ds2, p2, q2, rfl, rfl, rfl, h2, r2⟩ := trodAll_cons r1
  obtain ⟨v3, vs3, d3, ds3, p3, q3, rfl, rfl, rfl, h3, r3⟩ := trodAll_cons r2
  obtain ⟨rfl, rfl, rfl⟩ := trodAll_nil r3
  obtain rfl : args = #[v0, v1, v2, v3] := by cases args; simp_all
  obtain ⟨rfl, rfl⟩ := trodVars_none hV
  obtain ⟨a0, a1, rfl, rfl, rfl, wa0, wa1⟩ := open_pair Tryz.underlying34 Tryz.underlying3 cells3 cells34 (hval 0 34 v0 rfl rfl) h0
  obtain ⟨b0, b1, rfl, rfl, rfl, wb0, wb1⟩ := open_pair Tryz.underlying34 Tryz.underlying3 cells3 cells34 (hval 1 34 v1 rfl rfl) h1
  obtain ⟨s, rfl, rfl, rfl, hs⟩ := open_string Tryz.underlying9 (hval 2 9 v2 rfl rfl) h2
  obtain ⟨t, rfl, rfl, rfl, ht⟩ := open_string Tryz.underlying9 (hval 3 9 v3 rfl rfl) h3
  clear hA0
  simp only [List.append_nil] at hW'
  have walk := sem_calls (tabs_of_laid hL) (f := 4) (by decide) (bound_sem a0 a1 b0 b1 s t) (us := #[.agg #[.int .i64 a0, .int .i64 a1], .agg #[.int .i64 b0, .int .i64 b1], .string s, .string t]) rfl (by
    simp only [DRs, DR]
    refine ⟨⟨_, rfl, rfl, fun j hj => ?_, .int _ _, .int _ _, trivial⟩, ⟨_, rfl, rfl, fun j hj => ?_, .int _ _, .int _ _, trivial⟩, .str _, .str _, trivial⟩
    all_goals
      have hj : j < 2 := hj
      match j, hj with
      | 0, _ => rfl
      | 1, _ => rfl)
  refine walk.mono fun e W' hh => ?_
  obtain ⟨v, rfl, hb, X, _, hd⟩ := hh
  have hv : v = .bool true := by
    simp only [DR] at hd
    cases hd
    rfl
  subst hv
  exact ⟨_, rfl, _, _, _, [], [], [], hW', trodAll_cons_mk (shut_bool Tryz.underlying4 true) trodAll_mk0,
    trodAll_cons_mk (shut_pair Tryz.underlying34 Tryz.underlying3 cells3 cells34 wa0 wa1) (trodAll_cons_mk (shut_pair Tryz.underlying34 Tryz.underlying3 cells3 cells34 wb0 wb1) (trodAll_cons_mk (shut_string Tryz.underlying9 hs) (trodAll_cons_mk (shut_string Tryz.underlying9 ht) trodAll_mk0))),
    rfl, below_kept hb _, fun h => by cases h⟩

abbrev boundArgs : Array Value := #[.agg #[.int .i64 0, .int .i64 0], .agg #[.int .i64 0, .int .i64 0], .string ⟨#[]⟩, .string ⟨#[]⟩]
theorem bound_laid (os : Os) : laidMet Tryz.prog Rows.officerBoundRow.laid ((laidWorld os).forCall (fun _ _ => 0) ⟨#[], boundArgs, []⟩).memory :=
  laidMet_of_run' 8 (by kernel_rfl) (by kernel_rfl)
theorem bound_reads (os : Os) {H : Type} (enc : TypeId × Value → H) : ∃ ds places, DataW.whole enc Tryz.prog ((laidWorld os).forCall (fun _ _ => 0) ⟨#[], boundArgs, []⟩).memory Tryz.f4.params.toList Rows.officerBoundSpec.vars false boundArgs.toList 8 = some (ds, [], places) :=
  ⟨[.agg [.lit (.int .i64 0), .lit (.int .i64 0)], .agg [.lit (.int .i64 0), .lit (.int .i64 0)], .lit (.string []), .lit (.string [])], [], by kernel_rfl⟩

set_option maxRecDepth 100000 in
theorem bound_lifted (os : Os) (started : os.Started) (H : Type) (enc : TypeId × Value → H) (F : Stop.Interp) :
    ReturnsInHanded {} Tryz.checked os 4 .any ((OpenSpec.ofChange Rows.officerBoundSpec).preRow enc Tryz.prog Tryz.f4 Rows.officerBoundRow.domain false Rows.officerBoundRow.laid) (((OpenSpec.ofChange Rows.officerBoundSpec).at F).post enc Tryz.prog Tryz.f4 false true false false) := by
  obtain ⟨ds, places, hx⟩ := bound_reads os enc
  refine returnsInHanded_of_row (C := Tryz.checked) (s := OpenSpec.ofChange Rows.officerBoundSpec) own started (by kernel_rfl) Tryz.func4
    (witness_row_at (enc := enc) (C := Tryz.checked) false (laidWorld os) boundArgs rfl (by kernel_rfl) (by kernel_rfl) (by kernel_rfl)
      (OpenSpec.preRow_of_cond 8 hx (by kernel_rfl) (fun k hk => by cases hk) (by kernel_rfl) (bound_laid os))) ?_
  intro W base args ds gs before hval hW _ _ _ hL _ _
  exact bound_contract H enc W base args ds gs before hval hW hL

set_option maxRecDepth 100000 in
theorem bound_said : Rows.OfficerBoundSaid :=
  OpenClaim.holds_of_cond 4 Tryz.f4 rfl rfl rfl rfl rfl rfl rfl ⟨rfl, rfl, rfl, rfl, rfl⟩ rfl rfl rfl rfl rfl (by kernel_rfl) Tryz.func4 bfclosed
    (of_decide_eq_true (by kernel_rfl)) (by unfold Func.isWrapper; first | (rw [if_pos (by decide +kernel)]; kernel_rfl) | (rw [if_neg (by decide +kernel)]; exact ⟨rfl, rfl⟩))
    (fun os started H enc _ F => by rw [OpenClaim.pre_eq_preRow]; exact bound_lifted os started H enc F)

theorem bound_plain (f : FuncId) (fn : Func) (hf : Tryz.pinned.checked.prog.funcNamed "spile/spilelaw58.OfficerBound" = some f) (hfn : Tryz.pinned.checked.prog.funcs[f]? = some fn) :
    true = Tryz.pinned.checked.prog.looks [] ∧ ∀ (j : Nat) t, fn.params[j]? = some t → Tryz.pinned.checked.prog.wantsStandIn t = false := by
  obtain rfl : f = 4 := Option.some.inj ((show Tryz.prog.funcNamed "spile/spilelaw58.OfficerBound" = some 4 by kernel_rfl).symm.trans hf) |>.symm
  obtain rfl : fn = Tryz.f4 := (Option.some.inj (Tryz.func4.symm.trans hfn)).symm
  refine ⟨by kernel_rfl, fun j t ht => ?_⟩
  rw [Tryz.params4] at ht
  have : t = 34 ∨ t = 9 := by simpa using Array.mem_of_getElem? ht
  rcases this with rfl | rfl
  · exact (show Tryz.prog.wantsStandIn 34 = false by kernel_rfl)
  · exact (show Tryz.prog.wantsStandIn 9 = false by kernel_rfl)

/-- THE CARD. -/
theorem bound_card : Rows.OfficerBoundCardSaid :=
  Claim7.holds_tied_plain_at .later [] _ _ _ _ bound_said (fun _ h => by cases h) (by kernel_rfl) (fun _ h => by cases h) officerBound_row_tie rfl ⟨rfl, rfl⟩ (by kernel_rfl) rfl bound_plain (by kernel_rfl)
end Go.Proofs.YtbhlffhfmgnleaaGreatDoor
