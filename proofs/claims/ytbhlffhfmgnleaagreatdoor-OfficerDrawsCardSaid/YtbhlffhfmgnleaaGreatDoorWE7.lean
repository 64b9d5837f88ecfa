/- A slice of ints as an argument. -/
import Derived.Test.YtbhlffhfmgnleaaGreatDoorWC3
import Derived.Test.YtbhlffhfmgnleaaGreatDoorWD1
import Derived.OpenShut
import Derived.ChangeMaps5
import Derived.ChangeSlices
import Derived.Test.YtbhlffhfmgnleaaGreatDoorWE6
set_option linter.all false
namespace Go.Ab
open Go Go.Proofs
/-- The slice argument. -/
theorem dr_ints {W : World} {b o len cap : Nat} {zs : List Int} (hz : len ≤ zs.length) (hc : len ≤ cap) (h : ∀ i, i < zs.length → W.cell? ⟨b, o + i, none⟩ = some (.int .i64 (zs.getD i 0))) :
    DR (X1 W) (.sl .imm 1 ((zs.take len).map iC)) (.slice (some ⟨b, o, none⟩) len cap) := by
  have hl : ((zs.take len).map iC).length = len := by rw [List.length_map, List.length_take]; omega
  simp only [DR]
  refine ⟨cap, some (at_ b o), b, o, fun i _ => .int .i64 (zs.getD i 0), by rw [hl], fun _ => rfl, fun cs hcs => ?_, by omega, fun i hi j hj => ?_, fun i cs hi j v hj => ?_⟩
  · obtain ⟨z, _, rfl⟩ := List.mem_map.1 hcs
    rfl
  · have hj0 : j = 0 := by omega
    subst hj0
    rw [hl] at hi
    have := h i (by omega)
    rw [Nat.mul_one, Nat.add_zero]
    exact ⟨⟨_, this⟩, this⟩
  · rw [List.getElem?_map, Option.map_eq_some_iff] at hi
    obtain ⟨z, hz', rfl⟩ := hi
    have hil : i < len := by
      have := (List.getElem?_eq_some_iff.1 hz').1
      rw [List.length_take] at this
      omega
    rw [List.getElem?_take_of_lt hil] at hz'
    cases j with
    | zero =>
      simp only [List.getElem?_cons_zero, Option.some.injEq] at hj
      subst hj
      show VR _ _ (V.int .i64 z) (.int .i64 (zs.getD i 0))
      rw [List.getD_eq_getElem?_getD, hz']
      exact .int _ _
    | succ j => simp at hj
end Go.Ab

/- 'spilelaw58.OfficerDraws' answers true, whatever its arguments are. -/
namespace Go.Proofs.YtbhlffhfmgnleaaGreatDoor
open Go Go.Ab Go.ChangeShapes Go.WideShapes Go.ChangeAt Go.RowKit
open Go.ChangeMaps (open_string shut_string)

theorem cells3D : Tryz.prog.cellsOf 3 = 1 := by kernel_rfl
set_option maxRecDepth 100000 in
theorem draws_contract (H : Type) (enc : TypeId × Value → H) (W : World) (base : Nat) (args : Array Value) (ds gs : List (DataW H)) (before : List MemPlace)
    (hval : ∀ (j : Nat) t v, Tryz.f3.params[j]? = some t → args[j]? = some v → Value.okWide Tryz.prog W .any base t v)
    (hW : DataW.Whole enc Tryz.prog Tryz.f3.params.toList Rows.officerDrawsSpec.vars false W args.toList ds gs before) (hL : laidMetH Tryz.prog Rows.officerDrawsRow.laid W) :
    Calls Tryz.prog 3 args W fun e W' => ∃ v, e = .returned v ∧ Rows.officerDrawsSpec.post enc Tryz.prog Tryz.f3 false true false false W args v W' := by
  have hW' := hW
  obtain ⟨p, q, hA0, hV, rfl, hfz, hnd⟩ := hW
  have hA : DataW.TrodAll enc Tryz.prog W 0 (fun _ => true) true Tryz.f3.params.toList args.toList ds p := hA0
  rw [Tryz.params3] at hA hval
  obtain ⟨v0, vs0, d0, ds0, p0, q0, hargs, rfl, rfl, h0, r0⟩ := trodAll_cons hA
  obtain ⟨v1, vs1, d1, ds1, p1, q1, rfl, rfl, rfl, h1, r1⟩ := trodAll_cons r0
  obtain ⟨v2, vs2, d2, ds2, p2, q2, rfl, rfl, rfl, h2, r2⟩ := trodAll_cons r1
  obtain ⟨v3, vs3, d3, ds3, p3, q3, rfl, rfl, rfl, h3, r3⟩ := trodAll_cons r2
  obtain ⟨v4, vs4, d4, ds4, p4, q4, rfl, rfl, rfl, h4, r4⟩ := trodAll_cons r3
  obtain ⟨v5, vs5, d5, ds5, p5, q5, rfl, rfl, rfl, h5, r5⟩ := trodAll_cons r4
  obtain ⟨rfl, rfl, rfl⟩ := trodAll_nil r5
  obtain rfl : args = #[v0, v1, v2, v3, v4, v5] := by cases args; simp_all
  obtain ⟨rfl, rfl⟩ := trodVars_none hV
  obtain ⟨na, rfl, rfl, rfl, hna⟩ := open_int Tryz.underlying3 (hval 0 3 v0 rfl rfl) h0
  obtain ⟨nb, rfl, rfl, rfl, hnb⟩ := open_int Tryz.underlying3 (hval 1 3 v1 rfl rfl) h1
  obtain ⟨sa, rfl, rfl, rfl, hsa⟩ := open_string Tryz.underlying9 (hval 2 9 v2 rfl rfl) h2
  obtain ⟨s, rfl, rfl, rfl, hs⟩ := open_string Tryz.underlying9 (hval 3 9 v3 rfl rfl) h3
  obtain ⟨n, rfl, rfl, rfl, hn⟩ := open_int Tryz.underlying3 (hval 5 3 v5 rfl rfl) h5
  obtain ⟨a0, len, cap, rfl⟩ := okWide_slice Tryz.underlying22 (hval 4 22 v4 rfl rfl)
  clear hA0
  have hb5 : ∀ (D1 : D) (u1 : Value) (hsem : CallSem PO 3 [.v (.int .i64 na), .v (.int .i64 nb), .v (.str sa), .v (.str s), D1, .v (.int .i64 n)] [] (.v (.bool true)) []) (hdr : DR (X1 W) D1 u1), Calls Tryz.prog 3 #[.int .i64 na, .int .i64 nb, .string sa, .string s, u1, .int .i64 n] W fun e W' => e = .returned (.bool true) ∧ Below W.heap.size W W' := by
    intro D1 u1 hsem hdr
    refine (sem_calls1 (tabs_of_laid hL) (f := 3) (by decide) hsem (us := #[.int .i64 na, .int .i64 nb, .string sa, .string s, u1, .int .i64 n]) rfl (by
      simp only [DRs]
      exact ⟨.int _ _, .int _ _, .str _, .str _, hdr, .int _ _, trivial⟩)).mono fun e W' hh => ?_
    obtain ⟨v, rfl, hb, X, _, hd⟩ := hh
    simp only [DR] at hd
    cases hd
    exact ⟨rfl, hb⟩
  obtain ⟨fuel, hf⟩ := h4
  rcases open_ints Tryz.underlying22 Tryz.underlying3 cells3D hf with ⟨hcs, hx⟩ | ⟨a, len', cap', zs, hcs, hbl, hlc, hcm, hzl, hx, hcell, hwf⟩
  · simp [Value.cells] at hcs
    obtain ⟨rfl, rfl, rfl⟩ := hcs
    simp only [Prod.mk.injEq] at hx
    obtain ⟨rfl, rfl⟩ := hx
    simp only [List.append_nil, List.nil_append] at hW'
    refine (hb5 (.v .nils) _ ((call3 na nb sa s .imm [] n).args (.cons (Wk.refl _) (.cons (Wk.refl _) (.cons (Wk.refl _) (.cons (Wk.refl _) (.cons (slOf_wk (n := 1) rfl) (.cons (Wk.refl _) .nil))))))) .nils).mono fun e W' hh => ?_
    obtain ⟨rfl, hb⟩ := hh
    exact ⟨_, rfl, _, _, _, [], [], [], hW', trodAll_cons_mk (shut_bool Tryz.underlying4 true) trodAll_mk0,
      trodAll_cons_mk (shut_int Tryz.underlying3 hna) (trodAll_cons_mk (shut_int Tryz.underlying3 hnb) (trodAll_cons_mk (shut_string Tryz.underlying9 hsa) (trodAll_cons_mk (shut_string Tryz.underlying9 hs) (trodAll_cons_mk (shut_slice_nil Tryz.underlying22) (trodAll_cons_mk (shut_int Tryz.underlying3 hn) trodAll_mk0))))),
      rfl, below_kept hb _, fun h => by cases h⟩
  · simp [Value.cells] at hcs
    obtain ⟨rfl, rfl, rfl⟩ := hcs
    simp only [Prod.mk.injEq] at hx
    obtain ⟨rfl, rfl⟩ := hx
    have hz : zs.length = cap := by simpa using hzl
    obtain ⟨b, o, spot⟩ := a
    have hdr : DR (X1 W) (.sl .imm 1 ((zs.take len).map iC)) (.slice (some ⟨b, o, spot⟩) len cap) := by
      by_cases h0 : zs.length = 0
      · have hn : zs = [] := List.length_eq_zero_iff.1 h0
        subst hn
        have hl0 : len = 0 := by simp at hz; omega
        subst hl0
        simp only [DR]
        exact ⟨cap, _, 0, 0, fun _ _ => undef, rfl, fun h => by simp at h, fun cs h => by simp at h, by simp, fun i h => by simp at h, fun i cs h => by simp at h⟩
      · have hspot : spot = none := by simpa [Addr.add] using World.cell?_spot (hcell 0 (by omega))
        subst hspot
        exact dr_ints (by omega) hlc (fun i hi => by have h := hcell i hi; rw [add_plain] at h; exact h)
    simp only [List.append_nil, List.nil_append] at hW'
    refine (hb5 _ _ (call3 na nb sa s .imm (zs.take len) n) hdr).mono fun e W' hh => ?_
    obtain ⟨rfl, hb⟩ := hh
    refine ⟨_, rfl, _, _, _, [], _, [], hW', trodAll_cons_mk (shut_bool Tryz.underlying4 true) trodAll_mk0,
      trodAll_cons_mk (shut_int Tryz.underlying3 hna) (trodAll_cons_mk (shut_int Tryz.underlying3 hnb) (trodAll_cons_mk (shut_string Tryz.underlying9 hsa) (trodAll_cons_mk (shut_string Tryz.underlying9 hs) (trodAll_cons_mk ⟨2, shut_ints 0 Tryz.underlying22 Tryz.underlying3 cells3D (Nat.zero_le _) hlc hcm ?_ ?_ hwf⟩ (trodAll_cons_mk (shut_int Tryz.underlying3 hn) trodAll_mk0))))),
      rfl, below_kept hb _, fun h => by cases h⟩
    · by_cases hb0 : b < W.heap.size
      · rw [decide_eq_true hb0]; simpa using hz
      · have h0 : zs.length = 0 := by
          rcases Nat.eq_zero_or_pos zs.length with h | h
          · exact h
          · have hc := hcell 0 h
            have hspot : spot = none := by simpa [Addr.add] using World.cell?_spot hc
            subst hspot
            rw [add_plain] at hc
            exact absurd (lt_of_cell hc) hb0
        rw [decide_eq_false hb0]
        simp only [Bool.false_eq_true, if_false]
        omega
    · intro i hi
      have hc := hcell i hi
      have hspot : spot = none := by simpa [Addr.add] using World.cell?_spot (hcell 0 (by omega))
      subst hspot
      rw [add_plain] at hc ⊢
      rw [← hc]
      exact cell_of_blk (hb.block b (lt_of_cell hc)) _
end Go.Proofs.YtbhlffhfmgnleaaGreatDoor
