/- Calls: the callee's own view of the memory, and the way back. -/
import Derived.Test.YtbhlffhfmgnleaaGreatDoorWA4
set_option linter.all false
namespace Go.Ab
open Go
variable [Globs]

/-- A row whose block is lent. -/
def Lent (X : Cx) (lent : List Nat) (b : Nat) : Prop := ∃ r, r ∈ lent ∧ ∃ row, X.τ r = some row ∧ row.owns (X.L r) ∧ (X.L r).block = b

/-- The rows 'live' alone, under the names 0, 1, ..; the cells of the rows 'lent' may be read. -/
def Cx.sel (X : Cx) (live lent : List Nat) : Cx where
  w := X.w
  S := X.S
  T := fun b o => X.T b o ∨ (Lent X lent b ∧ ∃ u, X.w.cell? (at_ b o) = some u)
  L := fun j => X.L (live.getD j 0)
  τ := fun j => (live[j]?).bind fun q => (X.τ q).map (renRow fun q => idxOf q live)

theorem renRow_owns {ρ : Nat → Nat} {row : Row} {l : Loc} : (renRow ρ row).owns l ↔ row.owns l := by cases row <;> exact Iff.rfl

theorem sel_ren (X : Cx) {live : List Nat} (lent : List Nat) : Ren X (X.sel live lent) (· ∈ live) (fun q => idxOf q live) where
  w := rfl
  S := fun _ _ h => h
  L := fun q hq => by
    obtain ⟨h1, h2⟩ := idxOf_get hq
    show X.L (live.getD (idxOf q live) 0) = X.L q
    rw [List.getD_eq_getElem?_getD, h1]
    rfl
  τ := fun q hq => by
    obtain ⟨h1, h2⟩ := idxOf_get hq
    show (live[idxOf q live]?).bind _ = _
    rw [h1]
    rfl

theorem sel_row {X : Cx} {live lent : List Nat} {j : Nat} {row : Row} (h : (X.sel live lent).τ j = some row) :
    ∃ q row0, live[j]? = some q ∧ X.τ q = some row0 ∧ row = renRow (fun q => idxOf q live) row0 ∧ (X.sel live lent).L j = X.L q := by
  simp only [Cx.sel, Option.bind_eq_some_iff, Option.map_eq_some_iff] at h
  obtain ⟨q, h1, row0, h2, h3⟩ := h
  refine ⟨q, row0, h1, h2, h3.symm, ?_⟩
  show X.L (live.getD j 0) = X.L q
  rw [List.getD_eq_getElem?_getD, h1]
  rfl

theorem sel_own {X : Cx} {live lent : List Nat} {b : Nat} (h : Own (X.sel live lent) b) : ∃ q ∈ live, ∃ row, X.τ q = some row ∧ row.owns (X.L q) ∧ (X.L q).block = b := by
  obtain ⟨j, row, h1, h2, h3⟩ := h
  obtain ⟨q, row0, e1, e2, rfl, e4⟩ := sel_row h1
  rw [e4] at h2 h3
  exact ⟨q, List.mem_of_getElem? e1, row0, e2, renRow_owns.1 h2, h3⟩

theorem noBors_mem : ∀ {ds : List D} {d : D}, noBors ds = true → d ∈ ds → noBor d = true
  | [], _, _, h => by simp at h
  | x :: ds, d, h, hm => by
    simp only [noBors, Bool.and_eq_true] at h
    rcases List.mem_cons.1 hm with rfl | hm
    · exact h.1
    · exact noBors_mem h.2 hm

theorem mem_refsDs : ∀ {ds : List D} {d : D} {q : Nat}, d ∈ ds → q ∈ refsD d → q ∈ refsDs ds
  | [], _, _, h, _ => by simp at h
  | x :: ds, d, q, hm, hq => by
    simp only [refsDs, List.mem_append]
    rcases List.mem_cons.1 hm with rfl | hm
    · exact .inl hq
    · exact .inr (mem_refsDs hm hq)

theorem of_mem_refsDs : ∀ {ds : List D} {q : Nat}, q ∈ refsDs ds → ∃ d ∈ ds, q ∈ refsD d
  | [], _, h => by simp [refsDs] at h
  | x :: ds, q, h => by
    simp only [refsDs, List.mem_append] at h
    rcases h with h | h
    · exact ⟨x, List.mem_cons_self, h⟩
    · obtain ⟨d, h1, h2⟩ := of_mem_refsDs h
      exact ⟨d, List.mem_cons_of_mem _ h1, h2⟩

theorem noBorEnts_mem : ∀ {es : List (List V × List D)} {e : List V × List D}, noBorEnts es = true → e ∈ es → noBors e.2 = true
  | [], _, _, h => by simp at h
  | x :: es, e, h, hm => by
    simp only [noBorEnts, Bool.and_eq_true] at h
    rcases List.mem_cons.1 hm with rfl | hm
    · exact h.1
    · exact noBorEnts_mem h.2 hm

theorem refsEnts_mem : ∀ {es : List (List V × List D)} {e : List V × List D} {p : Nat}, e ∈ es → p ∈ refsDs e.2 → p ∈ refsEnts es
  | [], _, _, h, _ => by simp at h
  | x :: es, e, p, hm, hp => by
    simp only [refsEnts, List.mem_append]
    rcases List.mem_cons.1 hm with rfl | hm
    · exact .inl hp
    · exact .inr (refsEnts_mem hm hp)

theorem mem_refsEnts : ∀ {es : List (List V × List D)} {p : Nat}, p ∈ refsEnts es → ∃ (i : Nat) (e : List V × List D), es[i]? = some e ∧ p ∈ refsDs e.2
  | [], _, h => by simp [refsEnts] at h
  | x :: es, p, h => by
    simp only [refsEnts, List.mem_append] at h
    rcases h with h | h
    · exact ⟨0, x, rfl, h⟩
    · obtain ⟨i, e, h1, h2⟩ := mem_refsEnts h
      exact ⟨i + 1, e, by simpa using h1, h2⟩

theorem PkR.ren {X Y : Cx} {A : Nat → Prop} {ρ : Nat → Nat} (hr : Ren X Y A ρ) {ag : Bool} {cs : List D} {u : Value} (h : PkR X ag cs u) (hT : (∀ b o, X.T b o → Y.T b o) ∨ noBors cs = true) (hA : ∀ q ∈ refsDs cs, A q) : PkR Y ag (renDs ρ cs) u := by
  obtain ⟨d, h1, h2⟩ := h
  cases ag with
  | true =>
    simp only [packD, cond_true, Option.some.injEq] at h1
    subst h1
    exact ⟨.agg (renDs ρ cs), rfl, by simpa only [renD] using DR.ren hr (d := .agg cs) (by simpa only [noBor] using hT) h2 (by simpa only [refsD] using hA)⟩
  | false =>
    simp only [packD, cond_false] at h1
    split at h1
    · rename_i c
      simp only [Option.some.injEq] at h1
      subst h1
      exact ⟨renD ρ c, by simp [packD, renDs], DR.ren hr (by simpa [noBors] using hT) h2 (by simpa [refsDs] using hA)⟩
    · cases h1

theorem MapR.ren {X Y : Cx} {A : Nat → Prop} {ρ : Nat → Nat} (hr : Ren X Y A ρ) {q : Nat} {ka va : Bool} {es : List (List V × List D)} (hT : (∀ b o, X.T b o → Y.T b o) ∨ noBorEnts es = true) (hq : A q) (h : MapR X q ka va es) (hA : ∀ p ∈ refsEnts es, A p) :
    MapR Y (ρ q) ka va (es.map fun e => (e.1, renDs ρ e.2)) := by
  obtain ⟨ents, h1, h2, h3⟩ := h
  refine ⟨ents, by rw [hr.L q hq, hr.w, List.length_map]; exact h1, by rw [List.length_map]; exact h2, fun i e hi => ?_⟩
  rw [List.getElem?_map, Option.map_eq_some_iff] at hi
  obtain ⟨e0, hi, rfl⟩ := hi
  obtain ⟨m, m1, mb, m2, m3⟩ := h3 i e0 hi
  exact ⟨m, m1, mb, by rw [hr.w]; exact m2.mono hr.S fun _ _ _ => rfl, m3.ren hr (hT.imp id fun h => noBorEnts_mem h (List.mem_of_getElem? hi)) fun p hp => hA p (refsEnts_mem (List.mem_of_getElem? hi) hp)⟩
theorem ofV_plain (v : V) : refsD (ofV v) = [] ∧ noBor (ofV v) = true ∧ ∀ ρ, renD ρ (ofV v) = ofV v := by cases v <;> exact ⟨rfl, rfl, fun _ => rfl⟩
theorem ofVs_plain : ∀ vs : List V, refsDs (vs.map ofV) = [] ∧ noBors (vs.map ofV) = true ∧ ∀ ρ, renDs ρ (vs.map ofV) = vs.map ofV
  | [] => ⟨rfl, rfl, fun _ => rfl⟩
  | v :: vs => by
    obtain ⟨h1, h2, h3⟩ := ofVs_plain vs
    obtain ⟨k1, k2, k3⟩ := ofV_plain v
    exact ⟨by simp only [List.map_cons, refsDs, h1, k1, List.append_nil], by simp only [List.map_cons, noBors, h2, k2, Bool.and_self], fun ρ => by simp only [List.map_cons, renDs, h3, k3]⟩
theorem refs_pm : ∀ es : List (List V × List V), refsEnts (es.map fun e => (e.1, e.2.map ofV)) = []
  | [] => rfl
  | e :: es => by simp only [List.map_cons, refsEnts, (ofVs_plain e.2).1, refs_pm es, List.append_nil]
theorem noBor_pm : ∀ es : List (List V × List V), noBorEnts (es.map fun e => (e.1, e.2.map ofV)) = true
  | [] => rfl
  | e :: es => by simp only [List.map_cons, noBorEnts, (ofVs_plain e.2).2.1, noBor_pm es, Bool.and_self]
theorem ren_pm {ρ : Nat → Nat} (es : List (List V × List V)) : ((es.map fun e => (e.1, e.2.map ofV)).map fun e => (e.1, renDs ρ e.2)) = es.map fun e => (e.1, e.2.map ofV) := by
  rw [List.map_map]
  exact List.map_congr_left fun e _ => by simp only [Function.comp_apply, (ofVs_plain e.2).2.2]

theorem RowR.ren {X Y : Cx} {A : Nat → Prop} {ρ : Nat → Nat} (hr : Ren X Y A ρ) {q : Nat} {row : Row} (hT : (∀ b o, X.T b o → Y.T b o) ∨ noBorRows [row] = true) (hq : A q) (h : RowR X q row) (hA : ∀ p ∈ refsRow row, A p) : RowR Y (ρ q) (renRow ρ row) := by
  cases row with
  | box t cs =>
    obtain ⟨c, h1, h2, h3, h4⟩ := h
    refine ⟨c, by rw [hr.L q hq, hr.w]; exact h1, by rw [renDs_length]; exact h2, h3, DRs.ren hr (hT.imp id fun h => by simpa [noBorRows] using h) h4 hA⟩
  | arr n g xs =>
    obtain ⟨h0, h1, h2, h3⟩ := h
    refine ⟨h0, h1, by rw [hr.L q hq]; exact h2, fun hc => ?_⟩
    rw [hr.L q hq] at hc ⊢
    obtain ⟨c, e, h4, h5, h6⟩ := h3 hc
    exact ⟨c, e, by rw [hr.w]; exact h4, h5, fun i cs hi j v hj => by rw [hr.w]; exact (h6 i cs hi j v hj).mono hr.S fun _ _ _ => rfl⟩
  | frz n g xs =>
    obtain ⟨h0, h1, h2, us, h3, h4⟩ := h
    refine ⟨h0, h1, by rw [hr.L q hq]; exact h2, us, fun i hi j hj => ?_, fun i cs hi j v hj => by rw [hr.w]; exact (h4 i cs hi j v hj).mono hr.S fun _ _ _ => rfl⟩
    rw [hr.L q hq, hr.w]
    exact ⟨hr.S _ _ (h3 i hi j hj).1, (h3 i hi j hj).2⟩
  | map ka va es =>
    exact MapR.ren hr (hT.imp id fun h => by simpa [noBorRows] using h) hq h hA
  | pm ka va es =>
    have := MapR.ren hr (.inr (noBor_pm es)) hq h (by rw [refs_pm]; simp)
    rwa [ren_pm] at this
  | iter m n s =>
    obtain ⟨h1, row, h2, h3⟩ := h
    have hm := hA m (by simp [refsRow])
    exact ⟨by rw [hr.L q hq, hr.L m hm, hr.w]; exact h1, _, by rw [hr.τ m hm, h2]; rfl, by cases row <;> exact h3⟩
  | lp bz hk ps as b E =>
    obtain ⟨rec, n, h1, h2, h4, h5, h6, h7, h8, h9, h10, h11⟩ := h
    refine ⟨rec, n, by rw [hr.L q hq, hr.w]; exact h1, h2, h4, h5, h6, h7, h8, h9, h10, fun p hp => ?_⟩
    obtain ⟨p0, hp0, rfl⟩ := List.mem_map.1 hp
    refine DR.ren hr (hT.imp id fun h => ?_) (h11 p0 hp0) fun x hx => hA x ?_
    · exact noBors_mem (by simpa [noBorRows] using h) (List.mem_map.2 ⟨p0, hp0, rfl⟩)
    · exact mem_refsDs (List.mem_map.2 ⟨p0, hp0, rfl⟩) hx
  | dead => trivial

section sel
variable {X : Cx} (hX : StoR X) {live lent : List Nat} (hn : live.Nodup) (hc : ∀ q ∈ live, ∃ row, X.τ q = some row ∧ ∀ p ∈ refsRow row, p ∈ live) (hl : ∀ q ∈ lent, q ∉ live)
include hX hn hc hl

theorem sel_sto : StoR (X.sel live lent) where
  rows := fun j row h => by
    obtain ⟨q, row0, e1, e2, rfl, _⟩ := sel_row h
    have hq := List.mem_of_getElem? e1
    obtain ⟨row', e3, e4⟩ := hc q hq
    rw [e2] at e3
    cases e3
    have := RowR.ren (sel_ren X lent) (.inl fun _ _ h => .inl h) hq (hX.rows q row0 e2) e4
    rwa [idxOf_at hn e1] at this
  inj := fun i j r s hi hj ho ho' hb => by
    obtain ⟨q, row, e1, e2, rfl, e4⟩ := sel_row hi
    obtain ⟨p, row', f1, f2, rfl, f4⟩ := sel_row hj
    rw [e4] at ho hb
    rw [f4] at ho' hb
    have := hX.inj q p row row' e2 f2 (renRow_owns.1 ho) (renRow_owns.1 ho') hb
    subst this
    rw [← idxOf_at hn e1, ← idxOf_at hn f1]
  sep := fun b o' hb ho => by
    obtain ⟨q, hq, row, h1, h2, h3⟩ := sel_own ho
    rcases hb with hb | ⟨⟨r, hr, row', h4, h5, h6⟩, _⟩
    · exact hX.sep b o' hb ⟨q, row, h1, h2, h3⟩
    · have := hX.inj q r row row' h1 h4 h2 h5 (h3.trans h6.symm)
      subst this
      exact hl q hr hq
  sub := fun b o' h => .inl (hX.sub b o' h)
  glob := hX.glob
  live := fun b o' h => by
    rcases h with h | h
    · exact hX.live b o' h
    · exact h.2
end sel

/-! ### The way back -/
def fwd (live : List Nat) (n0 m : Nat) (q : Nat) : Option Nat :=
  if q ∈ live then some (idxOf q live) else if n0 ≤ q ∧ q < n0 + (m - live.length) then some (live.length + (q - n0)) else none

abbrev bak (live : List Nat) (n0 : Nat) (j : Nat) : Nat := (live[j]?).getD (n0 + (j - live.length))

theorem bak_live {live : List Nat} {n0 j q : Nat} (h : live[j]? = some q) : bak live n0 j = q := by simp [bak, h]
theorem bak_new {live : List Nat} {n0 j : Nat} (h : live.length ≤ j) : bak live n0 j = n0 + (j - live.length) := by simp [bak, List.getElem?_eq_none h]

theorem fwd_bak {live : List Nat} {n0 m j : Nat} (hn : live.Nodup) (hlt : ∀ q ∈ live, q < n0) (hj : j < m) : fwd live n0 m (bak live n0 j) = some j := by
  rcases Nat.lt_or_ge j live.length with h | h
  · have e := List.getElem?_eq_getElem h
    rw [bak_live e, fwd, if_pos (List.getElem_mem h), idxOf_at hn e]
  · rw [bak_new h, fwd, if_neg (fun hq => by have := hlt _ hq; omega), if_pos (by omega)]
    congr 1
    omega

theorem fwd_some {live : List Nat} {n0 m q j : Nat} (hm : live.length ≤ m) (h : fwd live n0 m q = some j) : bak live n0 j = q ∧ j < m := by
  unfold fwd at h
  split at h
  · rename_i hq
    simp only [Option.some.injEq] at h
    subst h
    obtain ⟨h1, h2⟩ := idxOf_get hq
    exact ⟨bak_live h1, by omega⟩
  · split at h
    · simp only [Option.some.injEq] at h
      subst h
      rw [bak_new (by omega)]
      omega
    · cases h

def Cx.back (X Y' : Cx) (live : List Nat) (n0 m : Nat) (lent : List Nat) : Cx where
  w := Y'.w
  S := Y'.S
  T := fun b o => X.T b o ∨ Y'.S b o ∨ (lent = [] ∧ Y'.T b o)
  L := fun q => match fwd live n0 m q with | some j => Y'.L j | none => X.L q
  τ := fun q => match fwd live n0 m q with | some j => (Y'.τ j).map (renRow (bak live n0)) | none => X.τ q

theorem back_ren (X : Cx) {Y' : Cx} {live : List Nat} {n0 m : Nat} (lent : List Nat) (hn : live.Nodup) (hlt : ∀ q ∈ live, q < n0) : Ren Y' (X.back Y' live n0 m lent) (· < m) (bak live n0) where
  w := rfl
  S := fun _ _ h => h
  L := fun j hj => by
    show (match fwd live n0 m (bak live n0 j) with | some j => Y'.L j | none => X.L _) = _
    rw [fwd_bak hn hlt hj]
  τ := fun j hj => by
    show (match fwd live n0 m (bak live n0 j) with | some j => (Y'.τ j).map (renRow (bak live n0)) | none => X.τ _) = _
    rw [fwd_bak hn hlt hj]

theorem RowStep.ren {ρ ρ' : Nat → Nat} {row row' : Row} {l l' : Loc} (h : RowStep (renRow ρ row) row' l l') : RowStep row (renRow ρ' row') l l' := by
  cases row with
  | box t cs =>
    simp only [renRow] at h
    cases h
    exact .box _ _ _ _
  | arr n g xs =>
    simp only [renRow] at h
    cases h with
    | same _ _ _ xs' _ h => exact .same _ _ _ _ _ h
    | grow _ _ g' _ xs' _ _ h => exact .grow _ _ _ _ _ _ _ h
    | frz _ _ _ xs' _ h => exact .frz _ _ _ _ _ h
    | growfrz _ _ g' _ xs' _ _ h => exact .growfrz _ _ _ _ _ _ _ h
  | frz n g xs =>
    simp only [renRow] at h
    cases h
    exact .ff _ _ _ _
  | map ka va es =>
    simp only [renRow] at h
    cases h with
    | map => exact .map _ _ _ _ _
    | mpm => exact .mpm _ _ _ _ _
  | pm ka va es =>
    simp only [renRow] at h
    cases h
    exact .pm _ _ _ _
  | iter m n s =>
    simp only [renRow] at h
    cases h
    exact .iter _ _ _ _ _ _
  | lp bz hk ps as b E =>
    simp only [renRow] at h
    cases h
    exact .lp _ _ _ _ _ _ _ _ _
  | dead =>
    simp only [renRow] at h
    cases h
    exact .dead _ _

section back
variable {X Y' : Cx} (hX : StoR X) {live lent : List Nat} {n0 m : Nat} (hn : live.Nodup) (hlt : ∀ q ∈ live, q < n0) (hc : ∀ q ∈ live, ∃ row, X.τ q = some row ∧ ∀ p ∈ refsRow row, p ∈ live)
  (hl : ∀ q ∈ lent, q ∉ live) (hm : live.length ≤ m) (hq : ∀ q, n0 ≤ q → q < n0 + (m - live.length) → X.τ q = none)
  (he : Ext (X.sel live lent) Y') (hY : StoR Y') (hτ : ∀ j, (∃ row, Y'.τ j = some row) ↔ j < m)

theorem sel_sub_own {b : Nat} (h : Own (X.sel live lent) b) : Own X b := by
  obtain ⟨q, _, row, h1, h2, h3⟩ := sel_own h
  exact ⟨q, row, h1, h2, h3⟩

theorem back_own {b : Nat} (h : Own (X.back Y' live n0 m lent) b) : (Own Y' b) ∨ (∃ q row, fwd live n0 m q = none ∧ X.τ q = some row ∧ row.owns (X.L q) ∧ (X.L q).block = b) := by
  obtain ⟨q, row, h1, h2, h3⟩ := h
  simp only [Cx.back] at h1 h2 h3
  split at h1
  · rename_i j hf
    rw [hf] at h2 h3
    simp only [Option.map_eq_some_iff] at h1
    obtain ⟨row0, e1, rfl⟩ := h1
    exact .inl ⟨j, row0, e1, renRow_owns.1 h2, h3⟩
  · rename_i hf
    rw [hf] at h2 h3
    exact .inr ⟨q, row, hf, h1, h2, h3⟩

include hX he in
/-- What a row outside owns, the callee neither owns nor sees as its own. -/
theorem out_own {q : Nat} {row : Row} (hf : fwd live n0 m q = none) (h1 : X.τ q = some row) (h2 : row.owns (X.L q)) : ¬ Own (X.sel live lent) (X.L q).block ∧ ¬ Own Y' (X.L q).block ∧ (X.L q).block < X.w.heap.size := by
  have hlt := Own.lt hX ⟨q, row, h1, h2, rfl⟩
  have hq : q ∉ live := fun hq => by simp [fwd, hq] at hf
  have h3 : ¬ Own (X.sel live lent) (X.L q).block := fun ho => by
    obtain ⟨p, hp, row', e1, e2, e3⟩ := sel_own ho
    have := hX.inj p q row' row e1 h1 e2 h2 e3
    exact hq (this ▸ hp)
  refine ⟨h3, fun ho => ?_, hlt⟩
  rcases he.own _ ho with h | h
  · exact h3 h
  · have : (X.sel live lent).w.heap.size = X.w.heap.size := rfl
    omega

include hX hq he in
theorem back_ext : Ext X (X.back Y' live n0 m lent) where
  drawn := he.drawn
  os := he.os
  tape := he.tape
  output := he.output
  size := he.size
  blk := fun b hb hno => he.blk b hb fun ho => hno (sel_sub_own ho)
  own := fun b hb => by
    rcases back_own hb with h | ⟨q, row, _, h1, h2, h3⟩
    · exact (he.own b h).imp sel_sub_own id
    · exact .inl ⟨q, row, h1, h2, h3⟩
  S := fun b o h => he.S b o h
  T := fun b o h => .inl h
  nS := fun b o h => by
    rcases he.nS b o h with h | h | h
    · exact .inl h
    · exact .inr (.inl (sel_sub_own h))
    · exact .inr (.inr h)
  nT := fun b o h => by
    rcases h with h | h | ⟨hl0, h⟩
    · exact .inl h
    · rcases he.nS b o h with h | h | h
      · exact .inl (hX.sub _ _ h)
      · exact .inr (.inl (sel_sub_own h))
      · exact .inr (.inr h)
    · rcases he.nT b o h with h | h | h
      · rcases h with h | ⟨⟨r, hr, _⟩, _⟩
        · exact .inl h
        · rw [hl0] at hr
          cases hr
      · exact .inr (.inl (sel_sub_own h))
      · exact .inr (.inr h)
  refs := fun q row h => by
    by_cases hqm : q ∈ live
    · obtain ⟨h1, h2⟩ := idxOf_get hqm
      have hsel : (X.sel live lent).τ (idxOf q live) = some (renRow (fun q => idxOf q live) row) := by
        rw [(sel_ren X lent).τ q hqm, h]; rfl
      obtain ⟨row', e1, e2⟩ := he.refs _ _ hsel
      have hf : fwd live n0 m q = some (idxOf q live) := by simp [fwd, hqm]
      refine ⟨renRow (bak live n0) row', ?_, ?_⟩
      · simp only [Cx.back, hf, e1, Option.map_some]
      · simp only [Cx.back, hf]
        rw [(sel_ren X lent).L q hqm] at e2
        exact e2.ren
    · have hf : fwd live n0 m q = none := by
        unfold fwd
        rw [if_neg hqm, if_neg]
        rintro ⟨h1, h2⟩
        rw [hq q h1 h2] at h
        cases h
      exact ⟨row, by simp only [Cx.back, hf]; exact h, by simp only [Cx.back, hf]; exact RowStep.refl _ _⟩

include hX hn hlt hm hq he hY hτ in
theorem back_sto (hT : lent = [] ∨ ∀ j row, Y'.τ j = some row → noBorRows [row] = true) : StoR (X.back Y' live n0 m lent) where
  rows := fun q row h => by
    have hext := back_ext hX hq he
    have h0 := h
    simp only [Cx.back] at h
    split at h
    · rename_i j hf
      simp only [Option.map_eq_some_iff] at h
      obtain ⟨row0, e1, rfl⟩ := h
      obtain ⟨hb, hjm⟩ := fwd_some hm hf
      have := RowR.ren (back_ren X lent hn hlt (m := m)) (row := row0) (by
        rcases hT with hT | hT
        · exact .inl fun _ _ h => .inr (.inr ⟨hT, h⟩)
        · exact .inr (hT j row0 e1)) hjm (hY.rows j row0 e1) fun p hp => by
          refine (hτ p).1 ?_
          cases row0 with
          | box t cs =>
            obtain ⟨c, _, _, _, h4⟩ := hY.rows j _ e1
            exact DRs.refs h4 p hp
          | map ka va es =>
            obtain ⟨ents, _, _, h4⟩ := hY.rows j _ e1
            obtain ⟨i, e, h5, h6⟩ := mem_refsEnts hp
            obtain ⟨m, _, _, _, h7⟩ := h4 i e h5
            exact h7.refs p h6
          | iter m n s =>
            obtain ⟨_, row, h2, _⟩ := hY.rows j _ e1
            have : p = m := by simpa [refsRow] using hp
            exact ⟨_, this ▸ h2⟩
          | lp bz hk ps as b E =>
            obtain ⟨rec, n, _, _, _, _, _, _, _, _, _, h11⟩ := hY.rows j _ e1
            obtain ⟨d, h1, h2⟩ := of_mem_refsDs hp
            obtain ⟨p0, hp0, rfl⟩ := List.mem_map.1 h1
            exact (h11 p0 hp0).refs p h2
          | _ => simp [refsRow] at hp
      rwa [hb] at this
    · rename_i hf
      refine (hX.rows q row h).keep hX hext (by simp only [Cx.back, hf]) fun ho => ?_
      obtain ⟨h1, h2, h3⟩ := out_own (lent := lent) hX he hf h ho
      exact he.blk _ h3 h1
  inj := fun p q row row' h h' ho ho' hb => by
    simp only [Cx.back] at h h' ho ho' hb
    split at h
    · rename_i i hf
      simp only [hf] at ho hb
      simp only [Option.map_eq_some_iff] at h
      obtain ⟨r0, e1, rfl⟩ := h
      split at h'
      · rename_i j hf'
        simp only [hf'] at ho' hb
        simp only [Option.map_eq_some_iff] at h'
        obtain ⟨r1, e2, rfl⟩ := h'
        have := hY.inj i j r0 r1 e1 e2 (renRow_owns.1 ho) (renRow_owns.1 ho') hb
        rw [← (fwd_some hm hf).1, ← (fwd_some hm hf').1, this]
      · rename_i hf'
        simp only [hf'] at ho' hb
        obtain ⟨_, h2, _⟩ := out_own (lent := lent) hX he hf' h' ho'
        exact absurd ⟨i, r0, e1, renRow_owns.1 ho, hb⟩ h2
    · rename_i hf
      simp only [hf] at ho hb
      split at h'
      · rename_i j hf'
        simp only [hf'] at ho' hb
        simp only [Option.map_eq_some_iff] at h'
        obtain ⟨r1, e2, rfl⟩ := h'
        obtain ⟨_, h2, _⟩ := out_own (lent := lent) hX he hf h ho
        exact absurd ⟨j, r1, e2, renRow_owns.1 ho', hb.symm⟩ h2
      · rename_i hf'
        simp only [hf'] at ho' hb
        exact hX.inj p q row row' h h' ho ho' hb
  sep := fun b o hb ho => by
    rcases back_own ho with h | ⟨q, row, hf, h1, h2, h3⟩
    · rcases hb with hb | hb | ⟨_, hb⟩
      · exact hY.sep b o (he.T b o (.inl hb)) h
      · exact hY.sep b o (hY.sub b o hb) h
      · exact hY.sep b o hb h
    · obtain ⟨k1, k2, k3⟩ := out_own (lent := lent) hX he hf h1 h2
      rw [h3] at k1 k2 k3
      have hXown : Own X b := ⟨q, row, h1, h2, h3⟩
      have hsz : (X.sel live lent).w.heap.size = X.w.heap.size := rfl
      rcases hb with hb | hb | ⟨hl0, hb⟩
      · exact hX.sep b o hb hXown
      · rcases he.nS b o hb with h | h | h
        · exact hX.sep b o (hX.sub _ _ h) hXown
        · exact k1 h
        · omega
      · rcases he.nT b o hb with h | h | h
        · rcases h with h | ⟨⟨r, hr, _⟩, _⟩
          · exact hX.sep b o h hXown
          · rw [hl0] at hr
            cases hr
        · exact k1 h
        · omega
  sub := fun b o h => .inr (.inl h)
  glob := hY.glob
  live := fun b o h => by
    rcases h with h | h | ⟨_, h⟩
    · exact hY.live b o (he.T b o (.inl h))
    · exact hY.live b o (hY.sub b o h)
    · exact hY.live b o h
end back

end Go.Ab

/- Calls: what is lent; a call. -/
namespace Go.Ab
open Go
variable [Globs]

def Cx.lend (X : Cx) (lent : List Nat) : Cx := { X with T := fun b o => X.T b o ∨ (Lent X lent b ∧ ∃ u, X.w.cell? (at_ b o) = some u) }

theorem lend_ext (X : Cx) (lent : List Nat) : Ext X (X.lend lent) where
  drawn := fun _ => Nat.le_refl _
  os := rfl
  tape := rfl
  output := rfl
  size := Nat.le_refl _
  blk := fun _ _ _ => rfl
  own := fun _ h => .inl h
  S := fun _ _ h => h
  T := fun _ _ h => .inl h
  nS := fun _ _ h => .inl h
  nT := fun _ _ h => h.imp id fun ⟨⟨r, _, row, h1, h2, h3⟩, _⟩ => .inl ⟨r, row, h1, h2, h3⟩
  refs := fun _ row h => ⟨row, h, RowStep.refl _ _⟩

theorem borrow1_ok {X : Cx} (hX : StoR X) {σ : Sto} {d d' : D} {ls lent : List Nat} {u : Value} (hd : DR X d u) (hτ : ∀ q ∈ refsD d, X.τ q = σ[q]?) (h : borrow1 σ d = some (d', ls)) (hs : ∀ r ∈ ls, r ∈ lent) :
    DR (X.lend lent) d' u ∧ (∀ q ∈ refsD d', q ∈ refsD d) ∧ ∀ q ∈ ls, q ∈ refsD d := by
  unfold borrow1 at h
  split at h
  · rename_i r g m off len
    simp only [Option.bind_eq_some_iff, Option.some.injEq, Prod.mk.injEq] at h
    obtain ⟨xs, h1, rfl, rfl⟩ := h
    refine ⟨?_, by simp [refsD], by simp [refsD]⟩
    have hr := hτ r (by simp [refsD])
    simp only [DR] at hd ⊢
    obtain ⟨a, c, h2, h3, h4, h5⟩ := hd
    obtain ⟨n, hσ⟩ := rowAt_ok h1
    rw [← hr] at hσ
    obtain ⟨rfl, k1, k2, k3⟩ := h5.now hσ
    have hwl : (window xs off len).length = len := window_length k1
    have hlent : r ∈ lent := hs r (by simp)
    refine ⟨c, ?_⟩
    rcases hσ with hσ | hσ
    · obtain ⟨g0, g1, g2, g3⟩ := hX.rows r _ hσ
      rcases Nat.eq_zero_or_pos len with hl0 | hl0
      · refine ⟨a, 0, 0, fun _ _ => undef, by rw [hwl]; exact h2, fun h => absurd h (by omega), fun cs hcs => g1 cs (window_mem hcs), by omega, fun i hi => absurd hi (by omega), fun i cs hi => ?_⟩
        have := (List.getElem?_eq_some_iff.1 hi).1
        omega
      · have hcap : 0 < (X.L r).cap := by omega
        obtain ⟨cc, e, e1, e2, e3⟩ := g3 hcap
        refine ⟨a, (X.L r).block, (X.L r).off + off * n, fun i j => cc.getD ((X.L r).off + off * n + i * n + j) undef, by rw [hwl]; exact h2, fun _ => k3 (by omega), fun cs hcs => g1 cs (window_mem hcs), by omega, fun i hi j hj => ?_, fun i cs hi j v hj => ?_⟩
        · rw [hwl] at hi
          have hlt : (off + i) * n + j < (X.L r).cap * n := index_lt (by omega) hj
          rw [Nat.add_mul] at hlt
          have hcell : X.w.cell? (at_ (X.L r).block ((X.L r).off + off * n + i * n + j)) = some (cc.getD ((X.L r).off + off * n + i * n + j) undef) := by
            rw [cell_of_row _ _ _ _ _ _ e1, Array.getElem?_eq_getElem (by omega), Array.getD_eq_getD_getElem?, Array.getElem?_eq_getElem (by omega)]
            rfl
          exact ⟨.inr ⟨⟨r, hlent, _, hσ, hcap, rfl⟩, _, hcell⟩, hcell⟩
        · obtain ⟨hi', hx⟩ := window_get hi
          have := e3 (off + i) cs hx j v hj
          rw [Nat.add_mul, ← Nat.add_assoc] at this
          exact this
    · have := frz_SlR hX (a := a) hσ k1 h3 k3
      obtain ⟨a', b', o', us, f1, f2, f3, f4, f5, f6⟩ := this
      exact ⟨a', b', o', us, by rw [h2, ← hwl]; rw [← hwl] at f1; exact f1, f2, f3, f4, fun i hi j hj => ⟨.inl (hX.sub _ _ (f5 i hi j hj).1), (f5 i hi j hj).2⟩, f6⟩
  · simp only [Option.some.injEq, Prod.mk.injEq] at h
    obtain ⟨rfl, rfl⟩ := h
    exact ⟨hd.ext hX (lend_ext X lent), fun _ h => h, by simp⟩

theorem borrows1_ok {X : Cx} (hX : StoR X) {σ : Sto} {lent : List Nat} : ∀ {ds ds' : List D} {ls : List Nat} {us : Nat → Value}, DRs X ds us → (∀ q ∈ refsDs ds, X.τ q = σ[q]?) → borrows1 σ ds = some (ds', ls) → (∀ r ∈ ls, r ∈ lent) →
    DRs (X.lend lent) ds' us ∧ ds'.length = ds.length ∧ (∀ q ∈ refsDs ds', q ∈ refsDs ds) ∧ ∀ q ∈ ls, q ∈ refsDs ds
  | [], ds', ls, us, _, _, h, _ => by
    simp only [borrows1, Option.some.injEq, Prod.mk.injEq] at h
    obtain ⟨rfl, rfl⟩ := h
    simp [DRs, refsDs]
  | d :: ds, ds', ls, us, hd, hτ, h, hs => by
    simp only [borrows1, Option.bind_eq_some_iff, Option.some.injEq, Prod.mk.injEq] at h
    obtain ⟨⟨d1, l1⟩, h1, ⟨ds1, l2⟩, h2, rfl, rfl⟩ := h
    simp only [DRs] at hd
    simp only [refsDs, List.mem_append] at hτ
    obtain ⟨a1, a2, a3⟩ := borrow1_ok hX hd.1 (fun q hq => hτ q (.inl hq)) h1 fun r hr => hs r (by simp [hr])
    obtain ⟨b1, b2, b3, b4⟩ := borrows1_ok hX hd.2 (fun q hq => hτ q (.inr hq)) h2 fun r hr => hs r (by simp [hr])
    refine ⟨by simp only [DRs]; exact ⟨a1, b1⟩, by simp [b2], fun q hq => ?_, fun q hq => ?_⟩
    · simp only [refsDs, List.mem_append] at hq ⊢
      exact hq.imp (a2 q) (b3 q)
    · simp only [refsDs, List.mem_append] at hq ⊢
      exact hq.imp (a3 q) (b4 q)

theorem borrow_ok {X : Cx} (hX : StoR X) {σ : Sto} {d d' : D} {ls lent : List Nat} {u : Value} (hd : DR X d u) (hτ : ∀ q ∈ refsD d, X.τ q = σ[q]?) (h : borrow σ d = some (d', ls)) (hs : ∀ r ∈ ls, r ∈ lent) :
    DR (X.lend lent) d' u ∧ (∀ q ∈ refsD d', q ∈ refsD d) ∧ ∀ q ∈ ls, q ∈ refsD d := by
  unfold borrow at h
  split at h
  · rename_i cs
    simp only [Option.bind_eq_some_iff, Option.some.injEq, Prod.mk.injEq] at h
    obtain ⟨⟨cs', l⟩, h1, rfl, rfl⟩ := h
    simp only [DR] at hd ⊢
    obtain ⟨xs, e1, e2, e3, e4⟩ := hd
    obtain ⟨b1, b2, b3, b4⟩ := borrows1_ok hX e4 (by simpa [refsD] using hτ) h1 hs
    exact ⟨⟨xs, e1, by rw [b2]; exact e2, e3, b1⟩, by simpa [refsD] using b3, by simpa [refsD] using b4⟩
  · rename_i n cs
    simp only [Option.bind_eq_some_iff, Option.some.injEq, Prod.mk.injEq] at h
    obtain ⟨⟨cs', l⟩, h1, rfl, rfl⟩ := h
    simp only [DR] at hd ⊢
    obtain ⟨k, b, o, us, e1, e2, e3, e4, e5, e6⟩ := hd
    obtain ⟨b1, b2, b3, b4⟩ := borrows1_ok hX e6 (by simpa [refsD] using hτ) h1 hs
    exact ⟨⟨k, b, o, us, e1, e2, by rw [b2]; exact e3, fun j hj => ⟨.inl (e4 j (by rw [← b2]; exact hj)).1, (e4 j (by rw [← b2]; exact hj)).2⟩, by rw [b2]; exact e5, b1⟩, by simpa [refsD] using b3, by simpa [refsD] using b4⟩
  · exact borrow1_ok hX hd hτ h hs

theorem borrows_ok {X : Cx} (hX : StoR X) {σ : Sto} {lent : List Nat} : ∀ {ds ds' : List D} {ls : List Nat} {us : Nat → Value}, DRs X ds us → (∀ q ∈ refsDs ds, X.τ q = σ[q]?) → borrows σ ds = some (ds', ls) → (∀ r ∈ ls, r ∈ lent) →
    DRs (X.lend lent) ds' us ∧ ds'.length = ds.length ∧ (∀ q ∈ refsDs ds', q ∈ refsDs ds) ∧ ∀ q ∈ ls, q ∈ refsDs ds
  | [], ds', ls, us, _, _, h, _ => by
    simp only [borrows, Option.some.injEq, Prod.mk.injEq] at h
    obtain ⟨rfl, rfl⟩ := h
    simp [DRs, refsDs]
  | d :: ds, ds', ls, us, hd, hτ, h, hs => by
    simp only [borrows, Option.bind_eq_some_iff, Option.some.injEq, Prod.mk.injEq] at h
    obtain ⟨⟨d1, l1⟩, h1, ⟨ds1, l2⟩, h2, rfl, rfl⟩ := h
    simp only [DRs] at hd
    simp only [refsDs, List.mem_append] at hτ
    obtain ⟨a1, a2, a3⟩ := borrow_ok hX hd.1 (fun q hq => hτ q (.inl hq)) h1 fun r hr => hs r (by simp [hr])
    obtain ⟨b1, b2, b3, b4⟩ := borrows_ok hX hd.2 (fun q hq => hτ q (.inr hq)) h2 fun r hr => hs r (by simp [hr])
    refine ⟨by simp only [DRs]; exact ⟨a1, b1⟩, by simp [b2], fun q hq => ?_, fun q hq => ?_⟩
    · simp only [refsDs, List.mem_append] at hq ⊢
      exact hq.imp (a2 q) (b3 q)
    · simp only [refsDs, List.mem_append] at hq ⊢
      exact hq.imp (a3 q) (b4 q)

/-- Putting rows back. -/
theorem setRows_ok : ∀ {live : List Nat} {σ : Sto} {rows : List Row}, live.Nodup → (∀ q ∈ live, q < σ.length) → live.length ≤ rows.length →
    (evCall.setRows σ live rows).length = σ.length + (rows.length - live.length) ∧ (∀ (j q : Nat), live[j]? = some q → (evCall.setRows σ live rows)[q]? = rows[j]?) ∧
      (∀ q, q ∉ live → q < σ.length → (evCall.setRows σ live rows)[q]? = σ[q]?) ∧ ∀ i, (evCall.setRows σ live rows)[σ.length + i]? = rows[live.length + i]?
  | [], σ, rows, _, _, _ => by
    have : evCall.setRows σ [] rows = σ ++ rows := by cases rows <;> rfl
    rw [this]
    refine ⟨by simp, fun j q h => by simp at h, fun q _ hl => List.getElem?_append_left hl, fun i => ?_⟩
    rw [List.getElem?_append_right (by omega)]
    simp
  | q :: qs, σ, [], _, _, hm => by simp at hm
  | q :: qs, σ, r :: rs, hn, hlt, hm => by
    simp only [evCall.setRows]
    rw [List.nodup_cons] at hn
    obtain ⟨h1, h2, h3, h4⟩ := setRows_ok (σ := σ.set q r) (rows := rs) hn.2 (fun p hp => by rw [List.length_set]; exact hlt p (by simp [hp])) (by simpa using hm)
    have hq : q < σ.length := hlt q (by simp)
    rw [List.length_set] at h1 h3 h4
    refine ⟨by simp only [List.length_cons]; omega, fun j p hj => ?_, fun p hp hl => ?_, fun i => ?_⟩
    · cases j with
      | zero =>
        simp at hj
        subst hj
        rw [h3 q hn.1 hq, List.getElem?_set_self hq]
        rfl
      | succ j => exact h2 j p (by simpa using hj)
    · simp only [List.mem_cons, not_or] at hp
      rw [h3 p hp.2 hl, List.getElem?_set_ne (Ne.symm hp.1)]
    · rw [h4 i, List.length_cons, show qs.length + 1 + i = (qs.length + i) + 1 by omega, List.getElem?_cons_succ]

/-- A call of f enters its body. -/
def Enters (P : Program) (f : FuncId) : Prop := ∃ fn, P.funcs[f]? = some fn ∧ (fn.name == "runtime.NumGoroutine") = false ∧ fn.body.isNone = false

/-- A round of a range over a function is carried out. -/
def YieldG (P : Program) (us : Array Value) (w : World) (R : Ending → World → Prop) : Prop :=
  ∀ ro : Option Nat, ∃ l fn tmps assign body, us[0]? = some (.func (.yield l) #[] #[]) ∧ (Instr.yield l (us.extract 1 us.size)).run P w = .ok (.round l fn tmps assign body) w ∧ RoundIn (Fx ro) 0 P l fn tmps assign body w R

/-- A call; at 'yid': a round. -/
def RunG (P : Program) (f : FuncId) (us : Array Value) (w : World) (R : Ending → World → Prop) : Prop := if f = yid then YieldG P us w R else Calls P f us w R

theorem RunG.mono {P : Program} {f : FuncId} {us : Array Value} {w : World} {R R' : Ending → World → Prop} (h : RunG P f us w R) (hr : ∀ e w', R e w' → R' e w') : RunG P f us w R' := by
  unfold RunG at h ⊢
  split
  · rename_i hf
    rw [if_pos hf] at h
    intro ro
    obtain ⟨l, fn, tmps, as, b, h1, h2, h3⟩ := h ro
    exact ⟨l, fn, tmps, as, b, h1, h2, h3.mono hr⟩
  · rename_i hf
    rw [if_neg hf] at h
    exact Calls.mono h hr

/-- What is known of a caller: what it computes is what the call comes to. -/
def CallerOk (P : Program) (c : Caller) : Prop :=
  ∀ (f : FuncId) (args : List D) (σ : Sto) (d : D) (σ' : Sto), c f args σ = some (d, σ') → (f ≠ yid → Enters P f) ∧ ∀ (X : Cx) (us : Array Value), StoR X → (∀ q, X.τ q = σ[q]?) → us.size = args.length →
    DRs X args (fun j => us.getD j undef) →
    RunG P f us X.w fun e w' => ∃ v, e = .returned v ∧ ∃ X', X'.w = w' ∧ Ext X X' ∧ StoR X' ∧ (∀ q, X'.τ q = σ'[q]?) ∧ DR X' d v

theorem setRows_pure : ∀ {live : List Nat} {σ : Sto} {rows : List Row}, Pure σ (evCall.setRows σ live rows) live
  | [], σ, rows => by
    have : evCall.setRows σ [] rows = σ ++ rows := by cases rows <;> rfl
    rw [this]
    exact .append _ _ _
  | q :: qs, σ, [] => by
    simp only [evCall.setRows]
    exact (PureE.refl _ _).pure
  | q :: qs, σ, r :: rs => by
    simp only [evCall.setRows]
    obtain ⟨h1, h2⟩ := setRows_pure (live := qs) (σ := σ.set q r) (rows := rs)
    rw [List.length_set] at h1 h2
    refine ⟨h1, fun p hp hl => ?_⟩
    simp only [List.mem_cons, not_or] at hp
    rw [h2 p hp.2 hl, List.getElem?_set_ne (Ne.symm hp.1)]

theorem lentOk_ok {lent live : List Nat} {d : D} {σ : Sto} (h : lentOk lent live d σ = true) : (∀ q ∈ lent, q ∉ live) ∧ (lent = [] ∨ (noBor d = true ∧ noBorRows σ = true)) := by
  cases lent with
  | nil => exact ⟨by simp, .inl rfl⟩
  | cons x xs =>
    simp only [lentOk, Bool.and_eq_true, List.all_eq_true] at h
    obtain ⟨⟨h1, h2⟩, h3⟩ := h
    exact ⟨fun q hq => by simpa using h1 q hq, .inr ⟨h2, h3⟩⟩

theorem noBorRows_get : ∀ {σ : List Row} {j : Nat} {row : Row}, noBorRows σ = true → σ[j]? = some row → noBorRows [row] = true
  | [], j, row, _, h => by simp at h
  | r :: rs, j, row, h, hj => by
    have h1 : noBorRows [r] = true ∧ noBorRows rs = true := by
      cases r <;> simp [noBorRows] at h ⊢ <;> exact h
    cases j with
    | zero => simp at hj; subst hj; exact h1.1
    | succ j => exact noBorRows_get h1.2 (by simpa using hj)

theorem evCall_pure {c : Caller} {byRef : FuncId → Bool} {f : FuncId} {args : List D} {σ σ' : Sto} {d : D} {live : List Nat} (h : evCall c byRef f args σ = some (d, σ', live)) : Pure σ σ' live := by
  simp only [evCall, Option.bind_eq_some_iff] at h
  obtain ⟨ab, _, live', _, rows, _, out, _, h⟩ := h
  obtain ⟨_, h⟩ := bif_some' h
  simp only [Option.some.injEq, Prod.mk.injEq] at h
  obtain ⟨_, rfl, rfl⟩ := h
  exact setRows_pure

theorem evCall_enters {P : Program} {c : Caller} (hc : CallerOk P c) {byRef : FuncId → Bool} {f : FuncId} {args : List D} {σ σ' : Sto} {d : D} {live : List Nat} (h : evCall c byRef f args σ = some (d, σ', live)) (hf : f ≠ yid) : Enters P f := by
  simp only [evCall, Option.bind_eq_some_iff] at h
  obtain ⟨ab, _, live', _, rows, _, ⟨d0, σ0⟩, h4, _⟩ := h
  exact (hc f _ _ d0 σ0 h4).1 hf

theorem evCall_ok {P : Program} {c : Caller} (hc : CallerOk P c) {byRef : FuncId → Bool} {f : FuncId} {args : List D} {σ σ' : Sto} {d : D} {live : List Nat} (h : evCall c byRef f args σ = some (d, σ', live))
    {X : Cx} (hX : StoR X) {us : Array Value} (hsz : us.size = args.length) (hd : DRs X args (fun j => us.getD j undef)) (hτ : ∀ q ∈ refsDs args ++ live, X.τ q = σ[q]?) (hq : ∀ q, σ.length ≤ q → q < σ'.length → X.τ q = none) :
    RunG P f us X.w fun e w' => ∃ v, e = .returned v ∧ ∃ X', X'.w = w' ∧ Ext X X' ∧ StoR X' ∧ DR X' d v ∧ X'.τ = fun q => if q ∈ live ∨ (σ.length ≤ q ∧ q < σ'.length) then σ'[q]? else X.τ q := by
  simp only [evCall, Option.bind_eq_some_iff] at h
  obtain ⟨⟨args', lent⟩, h1, live', h2, rows, h3, ⟨d0, σ0⟩, h4, h⟩ := h
  obtain ⟨hlo, h⟩ := bif_some' h
  simp only [Option.some.injEq, Prod.mk.injEq] at h
  obtain ⟨rfl, rfl, rfl⟩ := h
  simp only [Bool.not_eq_false'] at hlo
  obtain ⟨hl1, hl2⟩ := lentOk_ok hlo
  -- what is lent
  have hbor : DRs (X.lend lent) args' (fun j => us.getD j undef) ∧ args'.length = args.length := by
    cases hb : byRef f with
    | true =>
      simp only [hb, cond_true, Option.some.injEq, Prod.mk.injEq] at h1
      obtain ⟨rfl, rfl⟩ := h1
      exact ⟨DRs.ext hX (lend_ext X _) hd, rfl⟩
    | false =>
      simp only [hb, cond_false] at h1
      obtain ⟨b1, b2, _, _⟩ := borrows_ok hX (lent := lent) hd (fun q hq => hτ q (by simp [hq])) h1 fun _ h => h
      exact ⟨b1, b2⟩
  obtain ⟨hb1, hb2⟩ := hbor
  obtain ⟨hnd, _, htodo, hclo⟩ := reach_ok 1000 _ _ _ h2 List.nodup_nil (by simp)
  obtain ⟨hr1, hr2⟩ := rowsAt_ok h3
  have hlt : ∀ q ∈ live', q < σ.length := fun q hq => by
    obtain ⟨row, e, _⟩ := hclo q hq
    exact (List.getElem?_eq_some_iff.1 e).1
  have hcl : ∀ q ∈ live', ∃ row, X.τ q = some row ∧ ∀ p ∈ refsRow row, p ∈ live' := fun q hq => by
    obtain ⟨row, e1, e2⟩ := hclo q hq
    exact ⟨row, by rw [hτ q (by simp [hq])]; exact e1, e2⟩
  have hY := sel_sto (lent := lent) hX hnd hcl hl1
  have hren : Ren (X.lend lent) (X.sel live' lent) (· ∈ live') (fun q => idxOf q live') :=
    ⟨rfl, fun _ _ h => h, (sel_ren X lent).L, (sel_ren X lent).τ⟩
  have hargs := DRs.ren hren (.inl fun _ _ h => h) hb1 htodo
  have hYτ : ∀ j, (X.sel live' lent).τ j = (rows.map (renRow fun q => idxOf q live'))[j]? := fun j => by
    show (live'[j]?).bind _ = _
    rw [List.getElem?_map]
    cases e : live'[j]? with
    | none =>
      have : rows[j]? = none := List.getElem?_eq_none (by rw [hr1]; exact List.getElem?_eq_none_iff.1 e)
      rw [this]
      rfl
    | some q =>
      rw [hr2 j q e, ← hτ q (by simp [List.mem_of_getElem? e])]
      rfl
  have hcall := (hc f _ _ d0 σ0 h4).2 (X.sel live' lent) us hY hYτ (by rw [renDs_length, hb2]; exact hsz) hargs
  refine RunG.mono hcall fun e w' hh => ?_
  obtain ⟨v, rfl, Y', rfl, he, hY', hτ', hd'⟩ := hh
  have hm : live'.length ≤ σ0.length := by
    rcases Nat.lt_or_ge σ0.length live'.length with hlt' | hge
    · exfalso
      have e := List.getElem?_eq_getElem hlt'
      have hmem := List.mem_of_getElem? e
      obtain ⟨row, k1, _⟩ := hcl _ hmem
      have hs : (X.sel live' lent).τ σ0.length = some (renRow (fun q => idxOf q live') row) := by
        show (live'[σ0.length]?).bind _ = _
        rw [e]
        show (X.τ _).map _ = _
        rw [k1]
        rfl
      obtain ⟨row', k2, _⟩ := he.refs _ _ hs
      rw [hτ' σ0.length] at k2
      simp at k2
    · exact hge
  have hτm : ∀ j, (∃ row, Y'.τ j = some row) ↔ j < σ0.length := fun j => by
    rw [hτ' j]
    constructor
    · rintro ⟨row, h⟩
      exact (List.getElem?_eq_some_iff.1 h).1
    · intro h
      exact ⟨_, List.getElem?_eq_getElem h⟩
  obtain ⟨s1, s2, s3, s4⟩ := setRows_ok (rows := σ0.map (renRow (bak live' σ.length))) hnd hlt (by rw [List.length_map]; exact hm)
  rw [List.length_map] at s1
  have hqn : ∀ q, σ.length ≤ q → q < σ.length + (σ0.length - live'.length) → X.τ q = none := fun q h1 h2 => hq q h1 (by
    show q < (evCall.setRows σ live' (σ0.map (renRow (bak live' σ.length)))).length
    rw [s1]; exact h2)
  have hext := back_ext (m := σ0.length) hX hqn he
  have hsto := back_sto (m := σ0.length) hX hnd hlt hm hqn he hY' hτm (hl2.imp id fun h j row hj => noBorRows_get h.2 (by rw [← hτ' j]; exact hj))
  refine ⟨v, rfl, X.back Y' live' σ.length σ0.length lent, rfl, hext, hsto, ?_, ?_⟩
  · refine DR.ren (back_ren X lent hnd hlt (m := σ0.length)) ?_ hd' fun q hq => ?_
    · exact hl2.imp (fun h b o hb => .inr (.inr ⟨h, hb⟩)) fun h => h.1
    · obtain ⟨row, hrow⟩ := hd'.refs q hq
      exact (hτm q).1 ⟨row, hrow⟩
  · funext q
    show (match fwd live' σ.length σ0.length q with | some j => (Y'.τ j).map (renRow (bak live' σ.length)) | none => X.τ q) = if q ∈ live' ∨ (σ.length ≤ q ∧ q < (evCall.setRows σ live' (σ0.map (renRow (bak live' σ.length)))).length) then (evCall.setRows σ live' (σ0.map (renRow (bak live' σ.length))))[q]? else X.τ q
    rw [s1]
    by_cases hql : q ∈ live'
    · obtain ⟨i1, i2⟩ := idxOf_get hql
      have hf : fwd live' σ.length σ0.length q = some (idxOf q live') := by simp [fwd, hql]
      rw [hf, if_pos (.inl hql), s2 _ q i1, List.getElem?_map, ← hτ']
    · by_cases hnew : σ.length ≤ q ∧ q < σ.length + (σ0.length - live'.length)
      · have hf : fwd live' σ.length σ0.length q = some (live'.length + (q - σ.length)) := by
          unfold fwd
          rw [if_neg hql, if_pos hnew]
        rw [hf, if_pos (.inr hnew)]
        have := s4 (q - σ.length)
        rw [show σ.length + (q - σ.length) = q by omega] at this
        rw [this, List.getElem?_map, ← hτ']
      · have hf : fwd live' σ.length σ0.length q = none := by
          unfold fwd
          rw [if_neg hql, if_neg hnew]
        rw [hf, if_neg (by rintro (h | h); exact hql h; exact hnew h)]
/-- What a call comes to. -/
def CallSem (P : Program) (f : FuncId) (args : List D) (σ : Sto) (d : D) (σ' : Sto) : Prop :=
  (f ≠ yid → Enters P f) ∧ ∀ (X : Cx) (us : Array Value), StoR X → (∀ q, X.τ q = σ[q]?) → us.size = args.length →
    DRs X args (fun j => us.getD j undef) →
    RunG P f us X.w fun e w' => ∃ v, e = .returned v ∧ ∃ X', X'.w = w' ∧ Ext X X' ∧ StoR X' ∧ (∀ q, X'.τ q = σ'[q]?) ∧ DR X' d v

def CallerKOk (P : Program) (c : CallerK) : Prop :=
  ∀ (f : FuncId) (args : List D) (σ : Sto) (R : Type) (K : D → Sto → Option R) (r : R), c f args σ K = some r → ∃ d σ', K d σ' = some r ∧ CallSem P f args σ d σ'

theorem evCallK_ok {R : Type} {M : Mode} {c : CallerK} (hc : CallerKOk M.P c) {f : FuncId} {args : List D} {σ : Sto} {K : D → Sto → Foot → Option R} {r : R} (h : evCallK M c f args σ K = some r) :
    ∃ c1 : Caller, CallerOk M.P c1 ∧ ∃ d σ' live, evCall c1 M.byRef f args σ = some (d, σ', live) ∧ K d σ' (rd (refsDs args) ++ wr live) = some r := by
  classical
  have hb : ∀ q : List D → List Nat → Option R, (bif M.byRef f then fun (q : List D → List Nat → Option R) => q args [] else fun q => borrowsK σ args q) q = (bif M.byRef f then some (args, []) else borrows σ args).bind fun p => q p.1 p.2 := fun q => by
    cases M.byRef f with
    | true => rfl
    | false => exact borrowsK_eq σ args q
  simp only [evCallK, hb, Option.bind_eq_some_iff] at h
  obtain ⟨ab, h1, live, h2, rows, h3, h⟩ := h
  obtain ⟨d0, σ0, h4, hs⟩ := hc _ _ _ _ _ _ h
  obtain ⟨hlo, h5⟩ := bif_some' h4
  refine ⟨fun f' args' σ' => if f' = f ∧ args' = renDs (fun q => idxOf q live) ab.1 ∧ σ' = rows.map (renRow fun q => idxOf q live) then some (d0, σ0) else none, fun f' args' σ' d σ1 hr => ?_, _, _, live, ?_, h5⟩
  · simp only at hr
    split at hr
    · rename_i hh
      obtain ⟨rfl, rfl, rfl⟩ := hh
      cases hr
      exact hs
    · cases hr
  · simp only [evCall, h1, h2, h3, Option.bind_some, and_self, if_true, hlo, cond_false]
end Go.Ab

/- One operation: what the evaluator says is what comes. -/
namespace Go.Ab
open Go
variable [Globs]

/-- What an operation's evaluation promises: the value d, the rows σ' in place of σ, the footprint f. -/
structure OpSem (P : Program) (o : Oper) (env : Env) (σ : Sto) (d : D) (σ' : Sto) (f : Foot) : Prop where
  keep : ∀ q, (q, true) ∉ f → q < σ.length → σ'[q]? = σ[q]?
  len : σ.length ≤ σ'.length
  sim : ∀ (X : Cx) (a : Act), StoR X → (∀ x ∈ o.op.operands, OpdR X env a x) → (∀ p ∈ f, X.τ p.1 = σ[p.1]?) → (∀ q, σ.length ≤ q → q < σ'.length → X.τ q = none) →
    Sim P o X a (fun X' u => DR X' d u ∧ X'.τ = fun q => if (q, true) ∈ f ∨ (σ.length ≤ q ∧ q < σ'.length) then σ'[q]? else X.τ q)

theorem OpSem.rd {P : Program} {o : Oper} {env : Env} {σ : Sto} {d : D} {l : List Nat}
    (h : ∀ (X : Cx) (a : Act), StoR X → (∀ x ∈ o.op.operands, OpdR X env a x) → (∀ q ∈ l, X.τ q = σ[q]?) → Sim P o X a (fun X' u => DR X' d u ∧ X'.τ = X.τ)) : OpSem P o env σ d σ (Ab.rd l) where
  keep := fun _ _ _ => rfl
  len := Nat.le_refl _
  sim := fun X a hX ho hf _ => (h X a hX ho fun q hq => hf (q, false) (List.mem_map.2 ⟨q, hq, rfl⟩)).mono fun X' u hp => ⟨hp.1, by
    rw [hp.2]
    funext q
    rw [if_neg]
    rintro (h | h)
    · simp [Ab.rd] at h
    · omega⟩

theorem OpSem.same {P : Program} {o : Oper} {env : Env} {σ : Sto} {d : D}
    (h : ∀ (X : Cx) (a : Act), StoR X → (∀ x ∈ o.op.operands, OpdR X env a x) → Sim P o X a (fun X' u => DR X' d u ∧ X'.τ = X.τ)) : OpSem P o env σ d σ [] :=
  OpSem.rd (l := []) fun X a hX ho _ => h X a hX ho

theorem mem_wr {l : List Nat} {q : Nat} : (q, true) ∈ wr l ↔ q ∈ l := by simp [wr]

theorem OpSem.wr {P : Program} {o : Oper} {env : Env} {σ σ' : Sto} {d : D} {l : List Nat} (hp : Pure σ σ' l)
    (h : ∀ (X : Cx) (a : Act), StoR X → (∀ x ∈ o.op.operands, OpdR X env a x) → (∀ q ∈ l, X.τ q = σ[q]?) → (∀ q, σ.length ≤ q → q < σ'.length → X.τ q = none) →
      Sim P o X a (fun X' u => DR X' d u ∧ X'.τ = fun q => if q ∈ l ∨ (σ.length ≤ q ∧ q < σ'.length) then σ'[q]? else X.τ q)) : OpSem P o env σ d σ' (Ab.wr l) where
  keep := fun q hq hl => hp.2 q (fun h => hq (mem_wr.2 h)) hl
  len := hp.1
  sim := fun X a hX ho hf hn => (h X a hX ho (fun q hq => hf (q, true) (mem_wr.2 hq)) hn).mono fun X' u hp => ⟨hp.1, by
    rw [hp.2]
    funext q
    simp only [mem_wr]⟩

theorem mem_wr_rd {l l2 : List Nat} {q : Nat} : (q, true) ∈ Ab.wr l ++ Ab.rd l2 ↔ q ∈ l := by simp [Ab.wr, Ab.rd]
theorem OpSem.wr_rd {P : Program} {o : Oper} {env : Env} {σ σ' : Sto} {d : D} {l l2 : List Nat} (hp : Pure σ σ' l)
    (h : ∀ (X : Cx) (a : Act), StoR X → (∀ x ∈ o.op.operands, OpdR X env a x) → (∀ q ∈ l ++ l2, X.τ q = σ[q]?) → (∀ q, σ.length ≤ q → q < σ'.length → X.τ q = none) →
      Sim P o X a (fun X' u => DR X' d u ∧ X'.τ = fun q => if q ∈ l ++ l2 ∨ (σ.length ≤ q ∧ q < σ'.length) then σ'[q]? else X.τ q)) : OpSem P o env σ d σ' (Ab.wr l ++ Ab.rd l2) where
  keep := fun q hq hl => hp.2 q (fun h => hq (mem_wr_rd.2 h)) hl
  len := hp.1
  sim := fun X a hX ho hf hn => by
    have h2 : ∀ q ∈ l2, X.τ q = σ[q]? := fun q hq => hf (q, false) (List.mem_append_right _ (List.mem_map.2 ⟨q, hq, rfl⟩))
    refine (h X a hX ho (fun q hq => ?_) hn).mono fun X' u hq => ⟨hq.1, ?_⟩
    · rcases List.mem_append.1 hq with hq | hq
      · exact hf (q, true) (List.mem_append_left _ (mem_wr.2 hq))
      · exact h2 q hq
    · rw [hq.2]
      funext q
      simp only [mem_wr_rd]
      simp only [List.mem_append]
      by_cases c1 : q ∈ l
      · simp [c1]
      · by_cases c2 : σ.length ≤ q ∧ q < σ'.length
        · simp [c2]
        · by_cases c3 : q ∈ l2
          · rw [if_pos (.inl (.inr c3)), if_neg (by simp only [c1, c2, or_self, not_false_eq_true]), h2 q c3]
            by_cases c4 : q < σ.length
            · exact hp.2 q c1 c4
            · have c5 : ¬ q < σ'.length := fun c5 => c2 ⟨by omega, c5⟩
              rw [List.getElem?_eq_none (by omega), List.getElem?_eq_none (by omega)]
          · rw [if_neg (by simp only [c1, c2, c3, or_self, not_false_eq_true]), if_neg (by simp only [c1, c2, or_self, not_false_eq_true])]

theorem OpSem.wrE {P : Program} {o : Oper} {env : Env} {σ σ' : Sto} {d : D} {l : List Nat} (hp : PureE σ σ' l)
    (h : ∀ (X : Cx) (a : Act), StoR X → (∀ x ∈ o.op.operands, OpdR X env a x) → (∀ q ∈ l, X.τ q = σ[q]?) →
      Sim P o X a (fun X' u => DR X' d u ∧ X'.τ = fun q => if q ∈ l then σ'[q]? else X.τ q)) : OpSem P o env σ d σ' (Ab.wr l) :=
  .wr hp.pure fun X a hX ho hf _ => (h X a hX ho hf).mono fun X' u hq => ⟨hq.1, by
    rw [hq.2]
    funext q
    have : ¬ (σ.length ≤ q ∧ q < σ'.length) := by rw [hp.1]; omega
    simp [this]⟩

theorem OpSem.new {P : Program} {o : Oper} {env : Env} {σ : Sto} {d : D} {row : Row}
    (h : ∀ (X : Cx) (a : Act), StoR X → (∀ x ∈ o.op.operands, OpdR X env a x) → X.τ σ.length = none → Sim P o X a (fun X' u => DR X' d u ∧ X'.τ = upd1 X.τ σ.length (some row))) : OpSem P o env σ d (σ ++ [row]) [] where
  keep := fun q _ hl => List.getElem?_append_left hl
  len := by simp
  sim := fun X a hX ho _ hn => (h X a hX ho (hn _ (Nat.le_refl _) (by simp))).mono fun X' u hp => ⟨hp.1, by
    rw [hp.2]
    funext q
    by_cases e : q = σ.length
    · subst e
      rw [upd1_same, if_pos (.inr ⟨Nat.le_refl _, by simp⟩)]
      simp
    · rw [upd1_ne _ _ e, if_neg]
      rintro (h | h)
      · simp at h
      · simp at h; omega⟩

theorem operands_ok {X : Cx} {env : Env} {a : Act} : ∀ {l : List Operand} {ds : List D}, operands env l = some ds → (∀ x ∈ l, OpdR X env a x) → ds.length = l.length ∧ DRs X ds (fun j => (l.map a.eval).getD j undef)
  | [], ds, h, _ => by
    simp only [operands, Option.some.injEq] at h
    subst h
    simp [DRs]
  | x :: l, ds, h, hx => by
    simp only [operands, Option.bind_eq_some_iff, Option.some.injEq] at h
    obtain ⟨d, h1, ds', h2, rfl⟩ := h
    obtain ⟨h3, h4⟩ := operands_ok h2 fun y hy => hx y (by simp [hy])
    refine ⟨by simp [h3], ?_⟩
    simp only [DRs, List.map_cons, List.getD_cons_zero, List.getD_cons_succ]
    exact ⟨hx x (by simp) d h1, h4⟩

theorem parts_ok {X : Cx} {env : Env} {a : Act} : ∀ {l : List (Nat × Operand)} {ps : List (Nat × D)}, parts env l = some ps → (∀ p ∈ l, OpdR X env a p.2) → PartsR X a ps l
  | [], ps, h, _ => by
    simp only [parts, Option.some.injEq] at h
    subst h
    exact ⟨rfl, fun j p q hp => by simp at hp⟩
  | (i, x) :: l, ps, h, hx => by
    simp only [parts, Option.bind_eq_some_iff, Option.some.injEq] at h
    obtain ⟨d, h1, ps', h2, rfl⟩ := h
    obtain ⟨h3, h4⟩ := parts_ok h2 fun y hy => hx y (by simp [hy])
    refine ⟨by simp [h3], fun j p q hp hq => ?_⟩
    cases j with
    | zero =>
      simp at hp hq
      subst hp hq
      exact ⟨rfl, hx (i, x) (by simp) d h1⟩
    | succ j => exact h4 j p q (by simpa using hp) (by simpa using hq)

def OptR (X : Cx) (a : Act) (d : Option D) (x : Option Operand) : Prop := match d, x.map a.eval with | none, none => True | some d, some u => DR X d u | _, _ => False

theorem optOperand_ok {X : Cx} {env : Env} {a : Act} {x : Option Operand} {d : Option D} (h : optOperand env x = some d) (hx : ∀ y, x = some y → OpdR X env a y) : OptR X a d x := by
  cases x with
  | none =>
    simp only [optOperand, Option.some.injEq] at h
    subst h
    simp [OptR]
  | some y =>
    simp only [optOperand, Option.bind_eq_some_iff, Option.some.injEq] at h
    obtain ⟨d', h1, rfl⟩ := h
    simp only [OptR, Option.map_some]
    exact hx y rfl d' h1

theorem optOperand_none {env : Env} {x : Option Operand} (h : optOperand env x = some none) : x = none := by
  cases x with
  | none => rfl
  | some y =>
    simp only [optOperand, Option.bind_eq_some_iff, Option.some.injEq, reduceCtorEq] at h
    obtain ⟨_, _, h⟩ := h
    cases h

theorem optOperand_some {env : Env} {x : Option Operand} {d : D} (h : optOperand env x = some (some d)) : ∃ y, x = some y ∧ operand env y = some d := by
  cases x with
  | none => simp [optOperand] at h
  | some y =>
    simp only [optOperand, Option.bind_eq_some_iff, Option.some.injEq] at h
    obtain ⟨d', h1, rfl⟩ := h
    exact ⟨y, rfl, h1⟩

theorem run_callFunc {P : Program} {f : FuncId} (h : Enters P f) (args : Array Value) (w : World) : (callFunc f args).run P w = .ok (.enter f args) w := by
  obtain ⟨fn, h1, h2, h3⟩ := h
  simp only [callFunc, Sem.run_bind, run_program, Result.andThen_ok, h1, h2, h3, Bool.false_eq_true, if_false, Sem.run_pure]

section
variable {M : Mode} {c : Caller} (hc : CallerOk M.P c)
include hc

theorem sim_call {o : Oper} {k : Call} (ho : o.op = .call k) {f : Operand} (hk : k.callee = .value f) {X : Cx} {a : Act} (hX : StoR X) {g : FuncId} {first caps : Array Value} (hf : a.eval f = .func (.func g) first caps) (hgy : g ≠ yid)
    {args : List D} {σ σ' : Sto} {d : D} {live : List Nat} (h : evCall c M.byRef g args σ = some (d, σ', live)) (hsz : (first ++ k.args.map a.eval ++ caps).size = args.length)
    (hd : DRs X args (fun j => (first ++ k.args.map a.eval ++ caps).getD j undef)) (hτ : ∀ q ∈ refsDs args ++ live, X.τ q = σ[q]?) (hq : ∀ q, σ.length ≤ q → q < σ'.length → X.τ q = none) :
    Sim M.P o X a (fun X' u => DR X' d u ∧ X'.τ = fun q => if q ∈ live ∨ (σ.length ≤ q ∧ q < σ'.length) then σ'[q]? else X.τ q) := by
  intro ro next Q hn
  have hcall := evCall_ok hc h hX hsz hd hτ hq
  unfold RunG at hcall
  rw [if_neg hgy] at hcall
  have hrun : (execOp a.eval o).run M.P X.w = .ok (.enter g (first ++ k.args.map a.eval ++ caps)) X.w := by
    simp [execOp, ho, resolve, hk, hf, Deferred.ofValue, invoke, run_callFunc (evCall_enters hc h hgy)]
  refine ⟨fun _ _ => trivial, ?_⟩
  rw [semAt_run hrun (fun d hd => by cases hd), Oper.uponIn_enter]
  refine ⟨fun h => by simp [Fence.wide] at h, callsIn_wide.2 (Calls.mono hcall fun e w' hh => ?_)⟩
  obtain ⟨v, rfl, X', rfl, he, hs, h1, h2⟩ := hh
  exact hn X' v he hs ⟨h1, h2⟩

theorem sim_yield {o : Oper} {k : Call} (ho : o.op = .call k) {f : Operand} (hk : k.callee = .value f) {X : Cx} {a : Act} (hX : StoR X) {l : Nat} (hf : a.eval f = .func (.yield l) #[] #[])
    {args : List D} {σ σ' : Sto} {d : D} {live : List Nat} (h : evCall c M.byRef yid args σ = some (d, σ', live)) (hsz : (#[a.eval f] ++ k.args.map a.eval).size = args.length)
    (hd : DRs X args (fun j => (#[a.eval f] ++ k.args.map a.eval).getD j undef)) (hτ : ∀ q ∈ refsDs args ++ live, X.τ q = σ[q]?) (hq : ∀ q, σ.length ≤ q → q < σ'.length → X.τ q = none) :
    Sim M.P o X a (fun X' u => DR X' d u ∧ X'.τ = fun q => if q ∈ live ∨ (σ.length ≤ q ∧ q < σ'.length) then σ'[q]? else X.τ q) := by
  intro ro next Q hn
  have hcall := evCall_ok hc h hX hsz hd hτ hq
  unfold RunG at hcall
  rw [if_pos rfl] at hcall
  obtain ⟨l', fn, tmps, as, b, h1, h2, h3⟩ := hcall ro
  have h0 : (#[a.eval f] ++ k.args.map a.eval)[0]? = some (a.eval f) := by
    rw [Array.getElem?_append_left (by simp)]
    rfl
  have hl : l' = l := by
    rw [h0, hf] at h1
    cases h1
    rfl
  subst hl
  have hex : (#[a.eval f] ++ k.args.map a.eval).extract 1 (#[a.eval f] ++ k.args.map a.eval).size = k.args.map a.eval := by
    apply Array.ext
    · simp
    · intro i h1 h2
      rw [Array.getElem_extract, Array.getElem_append_right (by simp)]
      congr 1
      simp
  rw [hex] at h2
  have hrun : (execOp a.eval o).run M.P X.w = .ok (.round l' fn tmps as b) X.w := by
    simp [execOp, ho, resolve, hk, hf, Deferred.ofValue, invoke, h2]
  refine ⟨fun _ _ => trivial, ?_⟩
  rw [semAt_run hrun (fun d hd => by cases hd), Oper.uponIn_round]
  refine ⟨fun h => by simp [Fence.wide] at h, RoundIn.mono h3 fun e w' hh => ?_⟩
  obtain ⟨v, rfl, X', rfl, he, hs, h1, h2⟩ := hh
  exact hn X' v he hs ⟨h1, h2⟩

theorem OpSem.call {o : Oper} {k : Call} (ho : o.op = .call k) {f : Operand} (hk : k.callee = .value f) {env : Env} {g : FuncId} {args : List D} {σ σ' : Sto} {d : D} {live : List Nat}
    (h : evCall c M.byRef g args σ = some (d, σ', live)) (hgy : g ≠ yid)
    (hd : ∀ (X : Cx) (a : Act), StoR X → (∀ x ∈ o.op.operands, OpdR X env a x) → ∃ first caps, a.eval f = .func (.func g) first caps ∧ (first ++ k.args.map a.eval ++ caps).size = args.length ∧
      DRs X args (fun j => (first ++ k.args.map a.eval ++ caps).getD j undef)) : OpSem M.P o env σ d σ' (Ab.rd (refsDs args) ++ Ab.wr live) := by
  have hp := evCall_pure h
  refine ⟨fun q hq hl => hp.2 q (fun h => hq (List.mem_append_right _ (mem_wr.2 h))) hl, hp.1, fun X a hX ho' hf hn => ?_⟩
  obtain ⟨first, caps, e1, e2, e3⟩ := hd X a hX ho'
  refine (sim_call hc ho hk hX e1 hgy h e2 e3 (fun q hq => ?_) hn).mono fun X' u hp' => ⟨hp'.1, ?_⟩
  · rcases List.mem_append.1 hq with hq | hq
    · exact hf (q, false) (List.mem_append_left _ (List.mem_map.2 ⟨q, hq, rfl⟩))
    · exact hf (q, true) (List.mem_append_right _ (mem_wr.2 hq))
  · rw [hp'.2]
    funext q
    have : ((q, true) ∈ Ab.rd (refsDs args) ++ Ab.wr live) = (q ∈ live) := by
      simp [Ab.rd, Ab.wr]
    simp only [this]

theorem OpSem.invoke {o : Oper} {k : Call} (ho : o.op = .call k) {r : Operand} {name : String} (hk : k.callee = .invoke r name) {env : Env} {g : FuncId} {dd : D} {t : TypeId} {args : List D} {σ σ' : Sto} {d : D} {live : List Nat}
    (h : evCall c M.byRef g (dd :: args) σ = some (d, σ', live)) (hgy : g ≠ yid) (hm : methOf M.P t name = some g) (hr : operand env r = some (.ifc t dd)) (ha : operands env k.args.toList = some args) :
    OpSem M.P o env σ d σ' (Ab.rd (refsDs (dd :: args)) ++ Ab.wr live) := by
  have hp := evCall_pure h
  have hops : o.op.operands = #[r] ++ k.args := by simp [ho, Op.operands, Call.operands, hk]
  refine ⟨fun q hq hl => hp.2 q (fun h => hq (List.mem_append_right _ (mem_wr.2 h))) hl, hp.1, fun X a hX ho' hf hn => ?_⟩
  have hdr := ho' r (by rw [hops]; simp) _ hr
  simp only [DR] at hdr
  obtain ⟨v, hv, hdv⟩ := hdr
  obtain ⟨hsz, hds⟩ := operands_ok (X := X) (a := a) ha fun x hx => ho' x (by rw [hops]; simp; right; simpa using hx)
  have hcall := evCall_ok hc h hX (us := #[v] ++ k.args.map a.eval) (by simp [hsz]; omega) (by
      simp only [DRs]
      refine ⟨by rw [Array.getD_eq_getD_getElem?, Array.getElem?_append_left (by simp)]; exact hdv, ?_⟩
      have e : ∀ j, (#[v] ++ k.args.map a.eval).getD (j + 1) undef = (k.args.toList.map a.eval).getD j undef := fun j => by
        rw [← getD_toList]
        simp
      simp only [e]
      exact hds) (fun q hq => ?_) hn
  · intro ro next Q hnx
    unfold RunG at hcall
    rw [if_neg hgy] at hcall
    have hmeth : (method (M.P.types.size + Made.depth) t v name).run M.P X.w = .ok (g, v) X.w := by
      simp only [methOf, Option.bind_eq_some_iff] at hm
      obtain ⟨i, hi, m, hfind, hm⟩ := hm
      obtain ⟨hpath, hm⟩ := bif_some hm
      have hpath : m.path.toList = [] := by cases hpp : m.path.toList with | nil => rfl | cons => rw [hpp] at hpath; simp [isNil] at hpath
      split at hm
      · rename_i f hfn
        simp only [Option.bind_eq_some_iff] at hm
        obtain ⟨td, htd, hm⟩ := hm
        split at hm
        · cases hm
          have hfuel : M.P.types.size + Made.depth = (M.P.types.size + Made.depth - 1) + 1 := by
            have : 0 < Made.depth := by decide
            omega
          rw [hfuel]
          simp [method, typeInfo, hi, hfind, hpath, follow, hfn, receiverAt, run_under X.w htd, Place.get]
        · cases hm
      · cases hm
    have hrun : (execOp a.eval o).run M.P X.w = .ok (.enter g (#[v] ++ k.args.map a.eval)) X.w := by
      have e0 : (#[a.eval r] ++ k.args.map a.eval)[0]? = some (.iface t v) := by rw [Array.getElem?_append_left (by simp), ← hv]; rfl
      have e1 : (#[a.eval r] ++ k.args.map a.eval).extract 1 (#[a.eval r] ++ k.args.map a.eval).size = k.args.map a.eval := by
        apply Array.ext
        · simp
        · intro i h1 h2
          rw [Array.getElem_extract, Array.getElem_append_right (by simp)]
          congr 1
          simp
      simp only [execOp, ho, resolve, hk, Sem.run_bind, Sem.run_pure, Result.andThen_ok, Go.invoke, e0, e1, callMethod, run_program, hmeth, run_callFunc (evCall_enters hc h hgy)]
    refine ⟨fun _ _ => trivial, ?_⟩
    rw [semAt_run hrun (fun d hd => by cases hd), Oper.uponIn_enter]
    refine ⟨fun h => by simp [Fence.wide] at h, callsIn_wide.2 (Calls.mono hcall fun e w' hh => ?_)⟩
    obtain ⟨v', rfl, X', rfl, he, hs, h1, h2⟩ := hh
    refine hnx X' v' he hs ⟨h1, ?_⟩
    rw [h2]
    funext q
    have : ((q, true) ∈ Ab.rd (refsDs (dd :: args)) ++ Ab.wr live) = (q ∈ live) := by
      simp [Ab.rd, Ab.wr]
    simp only [this]
  · rcases List.mem_append.1 hq with hq | hq
    · exact hf (q, false) (List.mem_append_left _ (List.mem_map.2 ⟨q, hq, rfl⟩))
    · exact hf (q, true) (List.mem_append_right _ (mem_wr.2 hq))

omit hc in
theorem getD_append3 (x y z : Array Value) (j : Nat) : (x ++ y ++ z).getD j undef = (x.toList ++ y.toList ++ z.toList).getD j undef := by
  rw [← getD_toList]
  simp

omit hc in
theorem DRs_append {X : Cx} : ∀ {as bs : List D} {us vs : List Value}, us.length = as.length → DRs X as (fun j => us.getD j undef) → DRs X bs (fun j => vs.getD j undef) → DRs X (as ++ bs) (fun j => (us ++ vs).getD j undef)
  | [], bs, [], vs, _, _, h => by simpa using h
  | [], bs, _ :: _, vs, hl, _, _ => by simp at hl
  | _ :: _, bs, [], vs, hl, _, _ => by simp at hl
  | a :: as, bs, u :: us, vs, hl, h1, h2 => by
    simp only [DRs, List.getD_cons_zero, List.getD_cons_succ] at h1
    simp only [List.cons_append, DRs, List.getD_cons_zero, List.getD_cons_succ]
    exact ⟨h1.1, DRs_append (by simpa using hl) h1.2 h2⟩

omit hc in
theorem evVal_ok {R : Type} {c : CallerK} (hc : CallerKOk M.P c) {o : Oper} {k : Call} (ho : o.op = .call k) {f : Operand} (hk : k.callee = .value f) {env : Env} {df : D} (hf : operand env f = some df) {args : List D} (ha : operands env k.args.toList = some args)
    {σ : Sto} {K : D → Sto → Foot → Option R} {r : R} (h : evVal M c df args σ K = some r) : ∃ d σ' ft, K d σ' ft = some r ∧ OpSem M.P o env σ d σ' ft := by
  have hmem : f ∈ o.op.operands := by simp [ho, Op.operands, Call.operands, hk]
  have hargs : ∀ {X : Cx} {a : Act}, (∀ x ∈ o.op.operands, OpdR X env a x) → args.length = k.args.size ∧ DRs X args (fun j => (k.args.map a.eval).toList.getD j undef) := fun {X a} hx => by
    obtain ⟨h1, h2⟩ := operands_ok ha fun x hxm => hx x (by simp [ho, Op.operands, Call.operands]; right; simpa using hxm)
    exact ⟨by simpa using h1, by simpa using h2⟩
  unfold evVal at h
  split at h
  · rename_i g
    obtain ⟨hgy, h⟩ := bif_some' h
    have hgy : g ≠ yid := by simpa using hgy
    obtain ⟨c1, hc1, d, σ', live, h1, h2⟩ := evCallK_ok hc h
    refine ⟨d, σ', _, h2, OpSem.call hc1 ho hk h1 hgy fun X a hX hx => ?_⟩
    obtain ⟨e1, e2⟩ := hargs hx
    have hfv := hx f hmem _ hf
    simp only [DR] at hfv
    generalize hu : a.eval f = uf at hfv
    cases hfv
    refine ⟨#[], #[], rfl, by simp [e1], ?_⟩
    have e : ∀ j, (#[] ++ k.args.map a.eval ++ #[] : Array Value).getD j undef = (k.args.map a.eval).toList.getD j undef := fun j => by rw [getD_append3]; simp
    rw [show (fun j => (#[] ++ k.args.map a.eval ++ #[] : Array Value).getD j undef) = fun j => (k.args.map a.eval).toList.getD j undef from funext e]
    exact e2
  · rename_i g as bs
    obtain ⟨hgy, h⟩ := bif_some' h
    have hgy : g ≠ yid := by simpa using hgy
    obtain ⟨c1, hc1, d, σ', live, h1, h2⟩ := evCallK_ok hc h
    refine ⟨d, σ', _, h2, OpSem.call hc1 ho hk h1 hgy fun X a hX hx => ?_⟩
    obtain ⟨e1, e2⟩ := hargs hx
    have hfv := hx f hmem _ hf
    simp only [DR] at hfv
    obtain ⟨xs, ys, k1, k2, k3, k4, k5⟩ := hfv
    refine ⟨xs, ys, k1, by simp [e1, k2, k3], ?_⟩
    rw [show (fun j => (xs ++ k.args.map a.eval ++ ys : Array Value).getD j undef) = fun j => (xs.toList ++ (k.args.map a.eval).toList ++ ys.toList).getD j undef from funext fun j => getD_append3 _ _ _ _]
    refine DRs_append (by simp [e1, k2]) (DRs_append (by simpa using k2) ?_ e2) ?_
    · simpa only [getD_toList] using k4
    · simpa only [getD_toList] using k5
  · rename_i q
    obtain ⟨c1, hc1, d, σ', live, h1, h2⟩ := evCallK_ok hc h
    have hp := evCall_pure h1
    refine ⟨d, σ', _, h2, fun q hq hl => hp.2 q (fun h => hq (List.mem_append_right _ (mem_wr.2 h))) hl, hp.1, fun X a hX hx hft hn => ?_⟩
    obtain ⟨e1, e2⟩ := hargs hx
    have hfv := hx f hmem _ hf
    have hfv' := hfv
    simp only [DR] at hfv
    obtain ⟨k1, _⟩ := hfv
    have hd : DRs X (.yl q :: args) (fun j => (#[a.eval f] ++ k.args.map a.eval).getD j undef) := by
      simp only [DRs]
      have h0 : (#[a.eval f] ++ k.args.map a.eval).getD 0 undef = a.eval f := by
        rw [Array.getD_eq_getD_getElem?, Array.getElem?_append_left (by simp)]
        rfl
      refine ⟨by rw [h0]; exact hfv', ?_⟩
      have : (fun j => (#[a.eval f] ++ k.args.map a.eval).getD (j + 1) undef) = fun j => (k.args.map a.eval).toList.getD j undef := by
        funext j
        rw [← getD_toList]
        simp
      rw [this]
      exact e2
    refine (sim_yield hc1 ho hk hX k1 h1 (by simp [e1]; omega) hd (fun q' hq' => ?_) hn).mono fun X' u hp' => ⟨hp'.1, ?_⟩
    · rcases List.mem_append.1 hq' with hq' | hq'
      · exact hft (q', false) (List.mem_append_left _ (List.mem_map.2 ⟨q', hq', rfl⟩))
      · exact hft (q', true) (List.mem_append_right _ (mem_wr.2 hq'))
    · rw [hp'.2]
      funext q'
      have : ((q', true) ∈ Ab.rd (refsDs (.yl q :: args)) ++ Ab.wr live) = (q' ∈ live) := by
        simp [Ab.rd, Ab.wr]
      simp only [this]
  · cases h
end

theorem elem?_ok {P : Program} {t e : TypeId} (h : elem? P t = some e) : P.underlying t = some (.slice e) := by
  simp only [elem?, Option.bind_eq_some_iff] at h
  obtain ⟨d, h1, h2⟩ := h
  split at h2
  · simp only [Option.some.injEq] at h2
    subst h2
    exact h1
  · cases h2

theorem list1 {α : Type} {xs : Array α} {x : α} (h : xs.toList = [x]) : xs = #[x] := by rw [← Array.toArray_toList (xs := xs), h]
theorem list2 {α : Type} {xs : Array α} {x y : α} (h : xs.toList = [x, y]) : xs = #[x, y] := by rw [← Array.toArray_toList (xs := xs), h]

theorem operands1 {env : Env} {l : List Operand} {d : D} (h : operands env l = some [d]) : ∃ x, l = [x] ∧ operand env x = some d := by
  match l with
  | [] => simp [operands] at h
  | [x] =>
    simp only [operands, Option.bind_some, Option.bind_eq_some_iff, Option.some.injEq, List.cons.injEq] at h
    obtain ⟨y, h1, h2, _⟩ := h
    exact ⟨x, rfl, h2 ▸ h1⟩
  | x :: y :: l =>
    simp only [operands, Option.bind_eq_some_iff, Option.some.injEq] at h
    obtain ⟨a, _, b, ⟨c, _, e, _, h1⟩, h2⟩ := h
    subst h1
    simp at h2

theorem operands2 {env : Env} {l : List Operand} {d e : D} (h : operands env l = some [d, e]) : ∃ x y, l = [x, y] ∧ operand env x = some d ∧ operand env y = some e := by
  match l with
  | [] => simp [operands] at h
  | x :: l =>
    simp only [operands, Option.bind_eq_some_iff, Option.some.injEq] at h
    obtain ⟨a, h1, b, h2, h3⟩ := h
    simp only [List.cons.injEq] at h3
    obtain ⟨rfl, rfl⟩ := h3
    obtain ⟨y, rfl, h4⟩ := operands1 h2
    exact ⟨x, y, rfl, h1, h4⟩

theorem evBuiltin_ok {R : Type} {M : Mode} {o : Oper} {k : Call} (ho : o.op = .call k) {b : Builtin} (hk : k.callee = .builtin b) {env : Env} {args : List D} (ha : operands env k.args.toList = some args)
    {σ : Sto} {K : D → Sto → Foot → Option R} {r : R} (h : evBuiltin M b k.argTypes.toList args σ K = some r) : ∃ d σ' ft, K d σ' ft = some r ∧ OpSem M.P o env σ d σ' ft := by
  have hops : o.op.operands = k.args := by simp [ho, Op.operands, Call.operands, hk]
  unfold evBuiltin at h
  simp only [apK_eq, apZK_eq] at h
  split at h
  · -- len
    rename_i t x hts
    obtain ⟨ax, e1, e2⟩ := operands1 ha
    have e1 := list1 e1
    have hts := list1 hts
    have hkk : k = { callee := .builtin .len, args := #[ax], argTypes := #[t] } := by cases k; simp_all
    have hx : ∀ {X : Cx} {a : Act}, (∀ x ∈ o.op.operands, OpdR X env a x) → DR X x (a.eval ax) := fun h => h ax (by rw [hops, e1]; simp) _ e2
    simp only [Option.bind_eq_some_iff] at h
    obtain ⟨d, ht, h⟩ := h
    split at h
    · rename_i n e
      exact ⟨_, _, _, h, .same fun X a hX hop => sim_lenOf hX ho hkk (by simp [Builtin.len_, run_under X.w ht])⟩
    · simp only [Option.bind_eq_some_iff] at h
      obtain ⟨d, h1, h⟩ := h
      exact ⟨_, _, _, h, .same fun X a hX hop => sim_lenSl hX ho hkk (hx hop) ht h1⟩
    · simp only [Option.bind_eq_some_iff] at h
      obtain ⟨d, h1, h⟩ := h
      exact ⟨_, _, _, h, .same fun X a hX hop => sim_lenStr hX ho hkk (hx hop) ht h1⟩
    · simp only [Option.bind_eq_some_iff] at h
      obtain ⟨d, h1, h⟩ := h
      exact ⟨_, _, _, h, .rd fun X a hX hop hf => sim_lenMap hX ho hkk (hx hop) ht hf h1⟩
    · cases h
  · -- cap
    rename_i t x hts
    obtain ⟨ax, e1, e2⟩ := operands1 ha
    have e1 := list1 e1
    have hts := list1 hts
    have hkk : k = { callee := .builtin .cap, args := #[ax], argTypes := #[t] } := by cases k; simp_all
    have hx : ∀ {X : Cx} {a : Act}, (∀ x ∈ o.op.operands, OpdR X env a x) → DR X x (a.eval ax) := fun h => h ax (by rw [hops, e1]; simp) _ e2
    simp only [Option.bind_eq_some_iff] at h
    obtain ⟨d, ht, h⟩ := h
    split at h
    · simp only [Option.bind_eq_some_iff] at h
      obtain ⟨d, h1, h⟩ := h
      exact ⟨_, _, _, h, .same fun X a hX hop => sim_capSl hX ho hkk (hx hop) ht h1⟩
    · cases h
  · -- append
    rename_i t t2 s x hts
    obtain ⟨ax, ay, e1, e2, e3⟩ := operands2 ha
    have e1 := list2 e1
    have hts := list2 hts
    have hkk : k = { callee := .builtin .append, args := #[ax, ay], argTypes := #[t, t2] } := by cases k; simp_all
    have hx : ∀ {X : Cx} {a : Act}, (∀ x ∈ o.op.operands, OpdR X env a x) → DR X s (a.eval ax) := fun h => h ax (by rw [hops, e1]; simp) _ e2
    have hy : ∀ {X : Cx} {a : Act}, (∀ x ∈ o.op.operands, OpdR X env a x) → DR X x (a.eval ay) := fun h => h ay (by rw [hops, e1]; simp) _ e3
    simp only [Option.bind_eq_some_iff] at h
    obtain ⟨e, ht, m, hm, bb, hb, z, hz, h⟩ := h
    have ht := elem?_ok ht
    obtain ⟨hzm, h⟩ := bif_some' h
    have hzm : z.length = m := by simpa using hzm
    simp only [Option.bind_eq_some_iff] at h
    obtain ⟨d2, ht2, h⟩ := h
    split at h
    · simp only [Option.bind_eq_some_iff] at h
      obtain ⟨⟨d, σ'⟩, h1, h⟩ := h
      exact ⟨_, _, _, h, .wr (apZ_pure h1) fun X a hX hop hf hn => (sim_appendZ hX ho hkk (hx hop) (hy hop) ht hm hb hz hzm ht2 hf hn h1).1⟩
    · rename_i hd2
      simp only [Option.bind_eq_some_iff] at h
      obtain ⟨⟨d, σ'⟩, h1, h⟩ := h
      refine ⟨_, _, _, h, ?_⟩
      unfold apFoot
      split
      · have hp : Pure σ σ' (refsD s) := by
          simp only [ap, elemsW, Option.bind_eq_some_iff, Option.some.injEq] at h1
          obtain ⟨⟨ys, σ1⟩, ⟨xs, _, e4⟩, h1⟩ := h1
          simp only [Prod.mk.injEq] at e4
          obtain ⟨_, rfl⟩ := e4
          exact appendTo_pure h1
        exact .wr_rd hp fun X a hX hop hf hn => (sim_append hX ho hkk (hx hop) (hy hop) ht hm hb hz hzm ht2 hd2 hf hn h1).1
      · exact .wr (ap_pure h1) fun X a hX hop hf hn => (sim_append hX ho hkk (hx hop) (hy hop) ht hm hb hz hzm ht2 hd2 hf hn h1).1
  · -- clear
    rename_i t x hts
    obtain ⟨ax, e1, e2⟩ := operands1 ha
    have e1 := list1 e1
    have hts := list1 hts
    have hkk : k = { callee := .builtin .clear, args := #[ax], argTypes := #[t] } := by cases k; simp_all
    have hx : ∀ {X : Cx} {a : Act}, (∀ x ∈ o.op.operands, OpdR X env a x) → DR X x (a.eval ax) := fun h => h ax (by rw [hops, e1]; simp) _ e2
    simp only [clearK_eq, Option.bind_eq_some_iff] at h
    obtain ⟨e, ht, m, hm, z, hz, ⟨d, σ'⟩, h1, h⟩ := h
    exact ⟨_, _, _, h, .wrE (clear_pure h1) fun X a hX hop hf => (sim_clear hX ho hkk (hx hop) (elem?_ok ht) hz hf h1).1⟩
  · -- min
    rename_i d l
    simp only [Option.bind_eq_some_iff] at h
    obtain ⟨d', h1, h⟩ := h
    refine ⟨_, _, _, h, .same fun X a hX hop => ?_⟩
    obtain ⟨o1, o2⟩ := operands_ok (X := X) (a := a) ha fun x hx => hop x (by rw [hops]; simpa using hx)
    refine sim_minmax (mx := false) (ds := l) hX ho (args := k.args) (ts := k.argTypes) (by cases k; simp_all) (by simpa using o1.symm) ?_ h1
    have : (fun j => (k.args.map a.eval).getD j undef) = fun j => (k.args.toList.map a.eval).getD j undef := by funext j; rw [← getD_toList]; simp
    rw [this]
    exact o2
  · -- max
    rename_i d l
    simp only [Option.bind_eq_some_iff] at h
    obtain ⟨d', h1, h⟩ := h
    refine ⟨_, _, _, h, .same fun X a hX hop => ?_⟩
    obtain ⟨o1, o2⟩ := operands_ok (X := X) (a := a) ha fun x hx => hop x (by rw [hops]; simpa using hx)
    refine sim_minmax (mx := true) (ds := l) hX ho (args := k.args) (ts := k.argTypes) (by cases k; simp_all) (by simpa using o1.symm) ?_ h1
    have : (fun j => (k.args.map a.eval).getD j undef) = fun j => (k.args.toList.map a.eval).getD j undef := by funext j; rw [← getD_toList]; simp
    rw [this]
    exact o2
  · cases h

end Go.Ab

/- One operation, of every kind. -/
namespace Go.Ab
open Go
variable [Globs]

theorem ms_pure {n b : Nat} {z : List V} {l c d : D} {σ σ' : Sto} (h : ms n b z l c σ = some (d, σ')) : ∃ row, σ' = σ ++ [row] := by
  simp only [ms, Option.bind_eq_some_iff] at h
  obtain ⟨l', _, c', _, h⟩ := h
  replace h := (bif_some h).2
  simp only [Option.some.injEq, Prod.mk.injEq] at h
  exact ⟨_, h.2.symm⟩

theorem rgOp_pure {m d : D} {σ σ' : Sto} (h : rgOp m σ = some (d, σ')) : Pure σ σ' (rowsOf m) := by
  unfold rgOp at h
  split at h
  · split at h
    · simp only [Option.some.injEq, Prod.mk.injEq] at h
      obtain ⟨rfl, rfl⟩ := h
      exact ⟨by simp, fun q _ hl => List.getElem?_append_left hl⟩
    · cases h
  · cases h

def FuncR (X : Cx) (f : FuncId) (as bs : List D) (u : Value) : Prop := match as, bs with | [], [] => DR X (.v (.fn f)) u | _, _ => DR X (.clo f as bs) u

theorem evOp_ok {R : Type} {M : Mode} {c : CallerK} (hc : CallerKOk M.P c) {o : Oper} {env : Env} {σ : Sto} {K : D → Sto → Foot → Option R} {r : R} (h : evOp M c o env σ K = some r) :
    ∃ d σ' ft, K d σ' ft = some r ∧ OpSem M.P o env σ d σ' ft := by
  unfold evOp at h
  simp only [lkK_eq, muK_eq, entAtK_eq, meK_eq, esK_eq, boK_eq, slice3K_eq, sliceStrK_eq, sliceSlK_eq, iaK_eq, iaAK_eq, ixStrK_eq, msK_eq, stK_eq] at h
  split at h
  case h_1 x ho =>
    simp only [Option.bind_eq_some_iff] at h
    obtain ⟨dx, hx, h⟩ := h
    exact ⟨_, _, _, h, .same fun X a hX hop => sim_move hX (.inl ho) (hop x (by simp [ho, Op.operands]) _ hx)⟩
  case h_2 x ho =>
    simp only [Option.bind_eq_some_iff] at h
    obtain ⟨dx, hx, h⟩ := h
    exact ⟨_, _, _, h, .same fun X a hX hop => sim_move hX (.inr ho) (hop x (by simp [ho, Op.operands]) _ hx)⟩
  case h_3 x y z ho =>
    simp only [Option.bind_eq_some_iff] at h
    obtain ⟨dx, hx, dy, hy, dz, hz, d, h1, h⟩ := h
    exact ⟨_, _, _, h, .same fun X a hX hop => sim_pick hX ho (hop x (by simp [ho, Op.operands]) _ hx) (hop y (by simp [ho, Op.operands]) _ hy) (hop z (by simp [ho, Op.operands]) _ hz) h1⟩
  case h_4 t ho =>
    simp only [Option.bind_eq_some_iff] at h
    obtain ⟨z, hz, h⟩ := h
    exact ⟨_, _, _, h, .new fun X a hX hop hq => sim_alloc hX ho hq hz⟩
  case h_5 t x ho =>
    simp only [Option.bind_eq_some_iff] at h
    obtain ⟨dx, hx, cs, h1, h⟩ := h
    exact ⟨_, _, _, h, .new fun X a hX hop hq => sim_box hX ho hq (hop x (by simp [ho, Op.operands]) _ hx) h1⟩
  case h_6 t ps ho =>
    simp only [Option.bind_eq_some_iff] at h
    obtain ⟨dps, hps, z, hz, dd, ht, h⟩ := h
    have hP : ∀ {X : Cx} {a : Act}, (∀ x ∈ o.op.operands, OpdR X env a x) → PartsR X a dps ps.toList := fun hop => parts_ok hps fun p hp => hop p.2 (by simp [ho, Op.operands]; exact ⟨_, by simpa using hp⟩)
    split at h
    · simp only [Option.bind_eq_some_iff] at h
      obtain ⟨pl, h1, d, h2, h⟩ := h
      exact ⟨_, _, _, h, .same fun X a hX hop => sim_build hX ho (hP hop) hz (.inl ⟨_, pl, ht, h1, h2⟩)⟩
    · simp only [Option.bind_eq_some_iff] at h
      obtain ⟨n, h1, d, h2, h⟩ := h
      exact ⟨_, _, _, h, .same fun X a hX hop => sim_build hX ho (hP hop) hz (.inr ⟨_, _, n, ht, h1, h2⟩)⟩
    · cases h
  case h_7 t n ps ho =>
    simp only [Option.bind_eq_some_iff] at h
    obtain ⟨dps, hps, e, he, s, hs, z, hz, d, h1, h⟩ := h
    exact ⟨_, _, _, h, .same fun X a hX hop => sim_buildSlice hX ho (parts_ok hps fun p hp => hop p.2 (by simp [ho, Op.operands]; exact ⟨_, by simpa using hp⟩)) (elem?_ok he) hs hz h1⟩
  case h_8 t x ho =>
    simp only [Option.bind_eq_some_iff] at h
    obtain ⟨dx, hx, n, hn, ag, hag, h⟩ := h
    obtain ⟨d0, d, k1, k2, h⟩ := ldK_ok (fun xs k r => M.canOk t xs R k r) h
    exact ⟨_, _, _, h, .rd fun X a hX hop hf => (sim_load hX ho (hop x (by simp [ho, Op.operands]) _ hx) hn hag hf k1).mono fun X' u hp => ⟨k2 _ _ hp.1, hp.2⟩⟩
  case h_9 t x y ho =>
    simp only [Option.bind_eq_some_iff] at h
    obtain ⟨dx, hx, dy, hy, n, hn, σ', h1, h⟩ := h
    refine ⟨_, _, _, h, .wrE (st_pure h1) fun X a hX hop hf => ?_⟩
    exact (sim_store hX ho (hop x (by simp [ho, Op.operands]) _ hx) (hop y (by simp [ho, Op.operands]) _ hy) hn hf h1).1.mono fun X' u hp => ⟨by simp [DR], hp⟩
  case h_10 x ho =>
    simp only [Option.bind_eq_some_iff] at h
    obtain ⟨dx, hx, d, h1, h⟩ := h
    exact ⟨_, _, _, h, .same fun X a hX hop => sim_nilCheck hX ho (hop x (by simp [ho, Op.operands]) _ hx) h1⟩
  case h_11 op t x y ty ho =>
    simp only [Option.bind_eq_some_iff] at h
    obtain ⟨dx, hx, dy, hy, h⟩ := h
    split at h
    · simp only [Option.bind_eq_some_iff] at h
      obtain ⟨td, ht, h⟩ := h
      split at h
      · simp only [Option.bind_eq_some_iff] at h
        obtain ⟨b, h1, d, h2, h⟩ := h
        exact ⟨_, _, _, h, .same fun X a hX hop => sim_nilCmp hX ho (hop x (by simp [ho, Op.operands]) _ hx) (hop y (by simp [ho, Op.operands]) _ hy) ht h1 h2⟩
      · cases h
    · simp only [Option.bind_eq_some_iff] at h
      obtain ⟨td, ht, h⟩ := h
      split at h
      · simp only [Option.bind_eq_some_iff] at h
        obtain ⟨ed, he, h⟩ := h
        split at h
        · obtain ⟨hc, h3⟩ := bif_some h
          clear h
          simp only [Option.bind_eq_some_iff] at h3
          obtain ⟨b, h1, d, h2, h4⟩ := h3
          simp only [Bool.and_eq_true, beq_iff_eq] at hc
          obtain ⟨hn, hs⟩ := hc
          have hn' := Nat.eq_of_beq_eq_true hn
          subst hn'
          exact ⟨_, _, _, h4, .same fun X a hX hop => sim_arr2 hX ho (hop x (by simp [ho, Op.operands]) _ hx) (hop y (by simp [ho, Op.operands]) _ hy) ht he hs h1 h2⟩
        · cases h
      · simp only [Option.bind_eq_some_iff] at h
        obtain ⟨d, h1, h⟩ := h
        exact ⟨_, _, _, h, .same fun X a hX hop => sim_binOp hX ho (hop x (by simp [ho, Op.operands]) _ hx) (hop y (by simp [ho, Op.operands]) _ hy) h1⟩
    · simp only [Option.bind_eq_some_iff] at h
      obtain ⟨d, h1, h⟩ := h
      exact ⟨_, _, _, h, .same fun X a hX hop => sim_binOp hX ho (hop x (by simp [ho, Op.operands]) _ hx) (hop y (by simp [ho, Op.operands]) _ hy) h1⟩
  case h_12 op t x ho =>
    simp only [Option.bind_eq_some_iff] at h
    obtain ⟨dx, hx, d, h1, h⟩ := h
    exact ⟨_, _, _, h, .same fun X a hX hop => sim_unOp hX ho (hop x (by simp [ho, Op.operands]) _ hx) h1⟩
  case h_13 s t x ho =>
    simp only [Option.bind_eq_some_iff] at h
    obtain ⟨dx, hx, ds, hs, dt, ht, h⟩ := h
    split at h
    · simp only [Option.bind_eq_some_iff] at h
      obtain ⟨ed, he, h⟩ := h
      split at h
      · simp only [Option.bind_eq_some_iff] at h
        obtain ⟨d, h1, h⟩ := h
        exact ⟨_, _, _, h, .rd fun X a hX hop hf => sim_cvS hX ho (hop x (by simp [ho, Op.operands]) _ hx) hf hs he ht h1⟩
      · cases h
    · simp only [Option.bind_eq_some_iff] at h
      obtain ⟨ed, he, h⟩ := h
      split at h
      · simp only [Option.bind_eq_some_iff] at h
        obtain ⟨d, h1, h⟩ := h
        exact ⟨_, _, _, h, .same fun X a hX hop => sim_cvB hX ho (hop x (by simp [ho, Op.operands]) _ hx) hs ht he h1⟩
      · cases h
    · simp only [Option.bind_eq_some_iff] at h
      obtain ⟨d, h1, h⟩ := h
      exact ⟨_, _, _, h, .same fun X a hX hop => sim_convert hX ho (hop x (by simp [ho, Op.operands]) _ hx) hs ht h1⟩
  case h_14 f xs ys ho =>
    simp only [Option.bind_eq_some_iff] at h
    obtain ⟨as, ha, bs, hb, h⟩ := h
    have key : ∀ (X : Cx) (a : Act), StoR X → (∀ x ∈ o.op.operands, OpdR X env a x) → Sim M.P o X a (fun X' u => FuncR X' f as bs u ∧ X'.τ = X.τ) := fun X a hX hop => by
      obtain ⟨a1, a2⟩ := operands_ok (X := X) (a := a) ha fun x hx => hop x (by simp [ho, Op.operands]; left; simpa using hx)
      obtain ⟨b1, b2⟩ := operands_ok (X := X) (a := a) hb fun x hx => hop x (by simp [ho, Op.operands]; right; simpa using hx)
      refine (sim_makeFunc hX ho (as := as) (bs := bs) (by simpa using a1) (by simpa using b1) (fun j d hj => ?_) fun j d hj => ?_).mono fun X' u hp => ⟨by unfold FuncR; exact hp.1, hp.2⟩
      · have := DRs_iff.1 a2 j d hj
        rw [← getD_toList]
        simpa using this
      · have := DRs_iff.1 b2 j d hj
        rw [← getD_toList]
        simpa using this
    split at h
    · exact ⟨_, _, _, h, .same key⟩
    · rename_i hne
      refine ⟨_, _, _, h, .same fun X a hX hop => (key X a hX hop).mono fun X' u hp => ⟨?_, hp.2⟩⟩
      have := hp.1
      unfold FuncR at this
      split at this
      · exact (hne rfl rfl).elim
      · exact this
  case h_15 t r ho =>
    simp only [Option.bind_eq_some_iff] at h
    obtain ⟨dd, ht, h⟩ := h
    split at h
    · simp only [Option.bind_eq_some_iff] at h
      obtain ⟨ka, hka, va, hva, h⟩ := h
      exact ⟨_, _, _, h, .new fun X a hX hop hq => sim_makeMap hX ho hq ka va⟩
    · cases h
  case h_16 t m k x ho =>
    simp only [Option.bind_eq_some_iff] at h
    obtain ⟨dm, hm, dk, hk, dx, hx, dd, ht, h⟩ := h
    split at h
    · simp only [Option.bind_eq_some_iff] at h
      obtain ⟨ks, hks, kag, hka, σ', h1, h⟩ := h
      exact ⟨_, _, _, h, .wrE (mu_pure h1) fun X a hX hop hf => (sim_mapUpdate hX (.inr ho) (hop m (by simp [ho, Op.operands]) _ hm) (hop k (by simp [ho, Op.operands]) _ hk) (hop x (by simp [ho, Op.operands]) _ hx) ht hks hka hf h1).1.mono fun X' u hp => ⟨by simp [DR], hp⟩⟩
    · cases h
  case h_17 t m k x ho =>
    simp only [Option.bind_eq_some_iff] at h
    obtain ⟨dm, hm, dk, hk, dx, hx, dd, ht, h⟩ := h
    split at h
    · simp only [Option.bind_eq_some_iff] at h
      obtain ⟨ks, hks, kag, hka, σ', h1, h⟩ := h
      exact ⟨_, _, _, h, .wrE (mu_pure h1) fun X a hX hop hf => (sim_mapUpdate hX (.inl ho) (hop m (by simp [ho, Op.operands]) _ hm) (hop k (by simp [ho, Op.operands]) _ hk) (hop x (by simp [ho, Op.operands]) _ hx) ht hks hka hf h1).1.mono fun X' u hp => ⟨by simp [DR], hp⟩⟩
    · cases h
  case h_18 t x y ho =>
    simp only [Option.bind_eq_some_iff] at h
    obtain ⟨dx, hx, dy, hy, e, he, m, hm, b, hb, z, hz, ⟨d, σ'⟩, h1, h⟩ := h
    obtain ⟨row, rfl⟩ := ms_pure h1
    refine ⟨_, _, _, h, .new fun X a hX hop hq => ?_⟩
    obtain ⟨row', e1, e2⟩ := sim_makeSlice hX ho (hop x (by simp [ho, Op.operands]) _ hx) (hop y (by simp [ho, Op.operands]) _ hy) (elem?_ok he) hm hb hz hq h1
    have : row' = row := by simpa using e1.symm
    subst this
    exact e2
  case h_19 t x lo hi mx ho =>
    simp only [Option.bind_eq_some_iff] at h
    obtain ⟨dx, hx, dlo, hlo, dhi, hhi, dmx, hmx, dd, ht, h⟩ := h
    have hxx : ∀ {X : Cx} {a : Act}, (∀ x ∈ o.op.operands, OpdR X env a x) → DR X dx (a.eval x) := fun hop => hop x (by simp [ho, Op.operands]) _ hx
    have hl : ∀ {X : Cx} {a : Act}, (∀ x ∈ o.op.operands, OpdR X env a x) → OptR X a dlo lo := fun hop => optOperand_ok hlo fun y hy => hop y (by simp [ho, Op.operands, hy])
    have hh : ∀ {X : Cx} {a : Act}, (∀ x ∈ o.op.operands, OpdR X env a x) → OptR X a dhi hi := fun hop => optOperand_ok hhi fun y hy => hop y (by simp [ho, Op.operands, hy])
    split at h
    · have := optOperand_none hmx
      subst this
      simp only [Option.bind_eq_some_iff] at h
      obtain ⟨d, h1, h⟩ := h
      exact ⟨_, _, _, h, .same fun X a hX hop => sim_sliceStr hX ho (hxx hop) (hl hop) (hh hop) ht h1⟩
    · have := optOperand_none hmx
      subst this
      simp only [Option.bind_eq_some_iff] at h
      obtain ⟨s, hs, d, h1, h⟩ := h
      exact ⟨_, _, _, h, .rd fun X a hX hop hf => sim_sliceSl hX ho (hxx hop) (hl hop) (hh hop) ht hs hf h1⟩
    · obtain ⟨yh, rfl, hyh⟩ := optOperand_some hhi
      obtain ⟨ym, rfl, hym⟩ := optOperand_some hmx
      simp only [Option.bind_eq_some_iff] at h
      obtain ⟨s, hs, d, h1, h⟩ := h
      exact ⟨_, _, _, h, .same fun X a hX hop => sim_slice3 hX ho (hxx hop) (hl hop) (hop yh (by simp [ho, Op.operands]) _ hyh) (hop ym (by simp [ho, Op.operands]) _ hym) ht hs h1⟩
    · cases h
  case h_20 t x f ho =>
    simp only [Option.bind_eq_some_iff] at h
    obtain ⟨dx, hx, fl, hf, n, hn, h⟩ := h
    obtain ⟨hz, h⟩ := bif_some' h
    simp only [Option.bind_eq_some_iff] at h
    obtain ⟨d, h1, h⟩ := h
    exact ⟨_, _, _, h, .same fun X a hX hop => sim_fieldAddr hX ho (hop x (by simp [ho, Op.operands]) _ hx) hf hn (by simpa using hz) h1⟩
  case h_21 t x f ho =>
    simp only [Option.bind_eq_some_iff] at h
    obtain ⟨dx, hx, fl, hf, n, hn, ag, hag, d, h1, h⟩ := h
    exact ⟨_, _, _, h, .same fun X a hX hop => sim_field hX ho (hop x (by simp [ho, Op.operands]) _ hx) hf hn hag h1⟩
  case h_22 t x i ho =>
    simp only [Option.bind_eq_some_iff] at h
    obtain ⟨dx, hx, di, hi, dd, ht, h⟩ := h
    split at h
    · simp only [Option.bind_eq_some_iff] at h
      obtain ⟨s, hs, d, h1, h⟩ := h
      exact ⟨_, _, _, h, .same fun X a hX hop => sim_indexArr hX ho (hop x (by simp [ho, Op.operands]) _ hx) (hop i (by simp [ho, Op.operands]) _ hi) ht hs h1⟩
    · simp only [Option.bind_eq_some_iff] at h
      obtain ⟨s, hs, d, h1, h⟩ := h
      exact ⟨_, _, _, h, .same fun X a hX hop => sim_indexSl hX ho (hop x (by simp [ho, Op.operands]) _ hx) (hop i (by simp [ho, Op.operands]) _ hi) ht hs h1⟩
    · cases h
  case h_23 t x i ho =>
    simp only [Option.bind_eq_some_iff] at h
    obtain ⟨dx, hx, di, hi, dd, ht, h⟩ := h
    split at h
    · simp only [Option.bind_eq_some_iff] at h
      obtain ⟨d, h1, h⟩ := h
      exact ⟨_, _, _, h, .same fun X a hX hop => sim_indexStr hX ho (hop x (by simp [ho, Op.operands]) _ hx) (hop i (by simp [ho, Op.operands]) _ hi) ht h1⟩
    · simp only [Option.bind_eq_some_iff] at h
      obtain ⟨s, hs, ag, hag, d, h1, h⟩ := h
      exact ⟨_, _, _, h, .same fun X a hX hop => sim_indexVal hX ho (hop x (by simp [ho, Op.operands]) _ hx) (hop i (by simp [ho, Op.operands]) _ hi) ht hs hag h1⟩
    · cases h
  case h_24 t m k ok ho =>
    simp only [Option.bind_eq_some_iff] at h
    obtain ⟨dm, hm, dk, hk, dd, ht, h⟩ := h
    split at h
    · simp only [Option.bind_eq_some_iff] at h
      obtain ⟨ks, hks, kag, hka, z, hz, ag, hag, d, h1, h⟩ := h
      exact ⟨_, _, _, h, .rd fun X a hX hop hf => sim_lookup hX ho (hop m (by simp [ho, Op.operands]) _ hm) (hop k (by simp [ho, Op.operands]) _ hk) ht hks hka hz hag hf h1⟩
    · cases h
  case h_25 t x ho =>
    simp only [Option.bind_eq_some_iff] at h
    obtain ⟨dx, hx, dd, ht, h⟩ := h
    split at h
    · simp only [Option.bind_eq_some_iff] at h
      obtain ⟨⟨d, σ'⟩, h1, h⟩ := h
      refine ⟨_, _, _, h, .wr (rgOp_pure h1) fun X a hX hop hf hn => (sim_range hX ho (hop x (by simp [ho, Op.operands]) _ hx) ht hf hn h1)⟩
    · cases h
  case h_26 x ho =>
    simp only [Option.bind_eq_some_iff] at h
    obtain ⟨dx, hx, ⟨d, σ', r', m'⟩, h1, h⟩ := h
    exact ⟨_, _, _, h, .wrE (nx_pure h1) fun X a hX hop hf => sim_nx hX ho (hop x (by simp [ho, Op.operands]) _ hx) hf h1⟩
  case h_27 t m k ho =>
    simp only [Option.bind_eq_some_iff] at h
    obtain ⟨dm, hm, dk, hk, dd, ht, h⟩ := h
    split at h
    · simp only [Option.bind_eq_some_iff] at h
      obtain ⟨ks, hks, kag, hka, z, hz, ag, hag, ⟨d, σ'⟩, h1, h⟩ := h
      exact ⟨_, _, _, h, .wrE (me_pure h1) fun X a hX hop hf => sim_mapEntry hX ho (hop m (by simp [ho, Op.operands]) _ hm) (hop k (by simp [ho, Op.operands]) _ hk) ht hks hka hz hag hf h1⟩
    · cases h
  case h_28 t m k x ho =>
    simp only [Option.bind_eq_some_iff] at h
    obtain ⟨dm, hm, dk, hk, dx, hx, σ', h1, h⟩ := h
    exact ⟨_, _, _, h, .wrE (es_pure h1) fun X a hX hop hf => (sim_entryStore hX ho (hop m (by simp [ho, Op.operands]) _ hm) (hop k (by simp [ho, Op.operands]) _ hk) (hop x (by simp [ho, Op.operands]) _ hx) hf h1).mono fun X' u hq => ⟨by simp only [DR], hq⟩⟩
  case h_29 x ho =>
    simp only [Option.bind_eq_some_iff] at h
    obtain ⟨dx, hx, ⟨dk, dv, r', m'⟩, h1, h⟩ := h
    exact ⟨_, _, _, h, .rd fun X a hX hop hf => sim_entry hX ho (hop x (by simp [ho, Op.operands]) _ hx) hf h1⟩
  case h_30 x i ho =>
    simp only [Option.bind_eq_some_iff] at h
    obtain ⟨dx, hx, d, h1, h⟩ := h
    exact ⟨_, _, _, h, .same fun X a hX hop => sim_extract hX ho (hop x (by simp [ho, Op.operands]) _ hx) h1⟩
  case h_31 k ho =>
    split at h
    · rename_i b hk
      simp only [Option.bind_eq_some_iff] at h
      obtain ⟨args, ha, h⟩ := h
      exact evBuiltin_ok ho hk ha h
    · rename_i f hk
      simp only [Option.bind_eq_some_iff] at h
      obtain ⟨df, hf, args, ha, h⟩ := h
      exact evVal_ok hc ho hk hf ha h
    · rename_i r name hk
      simp only [Option.bind_eq_some_iff] at h
      obtain ⟨dr, hr, args, ha, h⟩ := h
      split at h
      · rename_i t dd
        simp only [Option.bind_eq_some_iff] at h
        obtain ⟨f, hm, h⟩ := h
        obtain ⟨hy, h⟩ := bif_some' h
        obtain ⟨c1, hc1, d, σ', live, h1, h⟩ := evCallK_ok hc h
        exact ⟨_, _, _, h, .invoke hc1 ho hk h1 (by simpa using hy) hm hr ha⟩
      · cases h
  case h_32 t x ho =>
    simp only [Option.bind_eq_some_iff] at h
    obtain ⟨dx, hx, dd, ht, h⟩ := h
    split at h
    · cases h
    · rename_i hne
      exact ⟨_, _, _, h, .same fun X a hX hop => sim_makeInterface hX ho (hop x (by simp [ho, Op.operands]) _ hx) ht fun m e => hne m e⟩
  case h_33 => cases h

end Go.Ab

/- Regions. -/
namespace Go.Ab
open Go
variable [Globs]

theorem get_cons (t : Nat) (d : D) (env : Env) (u : Nat) : Env.get ((t, d) :: env) u = if t = u then d else env.get u := by
  simp only [Env.get]
  by_cases h : t = u
  · simp [h]
  · have : (t == u) = false := by simpa using h
    simp [this, h]

theorem get_put (dst : Option Nat) (d : D) (env : Env) (u : Nat) : (Env.put env dst d).get u = if dst = some u then d else env.get u := by
  cases dst with
  | none => simp [Env.put]
  | some t => simp [Env.put, get_cons]

def EnvR (X : Cx) (E : Env) (a : Act) : Prop := ∀ t, DR X (E.get t) (a.eval (.tmp t))

theorem OpdR.of_get {X : Cx} (hX : StoR X) {E : Env} {a : Act} {x : Operand} (h : ∀ t, x = .tmp t → DR X (E.get t) (a.eval (.tmp t))) : OpdR X E a x := by
  cases x with
  | tmp t =>
    intro d hd
    simp only [operand, Option.some.injEq] at hd
    subst hd
    exact h t rfl
  | const v => exact .const X E a v
  | func f => exact .func X E a f
  | global g =>
    intro d hd
    simp only [operand] at hd
    split at hd
    · rename_i cs hg
      simp only [Option.some.injEq] at hd
      subst hd
      simp only [DR]
      exact (hX.glob g cs hg).1
    · cases hd

theorem operand_congr {E E' : Env} (h : ∀ t, E'.get t = E.get t) (x : Operand) : operand E' x = operand E x := by
  cases x <;> simp [operand, h]

theorem OpSem.congr {P : Program} {o : Oper} {E E' : Env} {σ σ' : Sto} {d : D} {f : Foot} (h : ∀ t, E'.get t = E.get t) (hs : OpSem P o E' σ d σ' f) : OpSem P o E σ d σ' f :=
  ⟨hs.keep, hs.len, fun X a hX hop hf hn => hs.sim X a hX (fun x hx d hd => hop x hx d (by rw [← operand_congr h]; exact hd)) hf hn⟩

/-- One step of a region, as the evaluator takes it. -/
structure StepR (P : Program) (ops : Array Oper) (o : Oper) (E : Env) (σ : Sto) (d : D) (E' : Env) (σ' : Sto) (F : Foot) : Prop where
  get : ∀ t, E'.get t = if o.dst = some t then d else E.get t
  run : (∃ f, F = f ++ made σ σ' ∧ OpSem P o E σ d σ' f ∧ ∀ j b, o.guard = some (j, b) → ∃ g, guardTmp ops j = some g ∧ E.get g = .v (.bool b)) ∨
    (F = [] ∧ σ' = σ ∧ d = .tup [] ∧ ∃ j b g, o.guard = some (j, b) ∧ guardTmp ops j = some g ∧ (E.get g = .v (.bool (!b)) ∨ E.get g = .tup []))

theorem evOps_ok {R : Type} {M : Mode} {c : CallerK} (hc : CallerKOk M.P c) {ops : Array Oper} {K : Env → Sto → List Foot → Option R} {r : R} : ∀ (l : List Oper) (E : Env) (σ : Sto) (fs : List Foot),
    evOps M c ops l E σ fs K = some r → ∃ (Es : Nat → Env) (Ss : Nat → Sto) (Ds : Nat → D) (Fs : Nat → Foot), Es 0 = E ∧ Ss 0 = σ ∧
      (∀ i o, l[i]? = some o → StepR M.P ops o (Es i) (Ss i) (Ds i) (Es (i + 1)) (Ss (i + 1)) (Fs i)) ∧ K (Es l.length) (Ss l.length) (fs ++ (List.range l.length).map Fs) = some r
  | [], E, σ, fs, h => ⟨fun _ => E, fun _ => σ, fun _ => .undef, fun _ => [], rfl, rfl, fun i o hi => by simp at hi, by simpa [evOps] using h⟩
  | o :: l, E, σ, fs, h => by
    -- one step, and the rest
    suffices hh : ∃ d E' σ' F, StepR M.P ops o E σ d E' σ' F ∧ evOps M c ops l E' σ' (fs ++ [F]) K = some r by
      obtain ⟨d, E', σ', F, hs, hr⟩ := hh
      obtain ⟨Es, Ss, Ds, Fs, e1, e2, e3, e4⟩ := evOps_ok hc l E' σ' (fs ++ [F]) hr
      refine ⟨fun i => Nat.casesOn i E Es, fun i => Nat.casesOn i σ Ss, fun i => Nat.casesOn i d Ds, fun i => Nat.casesOn i F Fs, rfl, rfl, fun i o' hi => ?_, ?_⟩
      · cases i with
        | zero =>
          simp at hi
          subst hi
          show StepR M.P ops o E σ d (Es 0) (Ss 0) F
          rw [e1, e2]
          exact hs
        | succ i => exact e3 i o' (by simpa using hi)
      · rw [← e4]
        simp only [List.length_cons]
        congr 1
        rw [List.range_succ_eq_map]
        simp [Function.comp_def]
        rfl
    simp only [evOps, fd_eq, hs_eq, hf_eq, fPut_eq] at h
    have done : ∀ (E0 : Env), (∀ t, E0.get t = E.get t) → (∀ j b, o.guard = some (j, b) → ∃ g, guardTmp ops j = some g ∧ E.get g = .v (.bool b)) →
        evOp M c o E0 σ (fun d σ' f => evOps M c ops l (E0.put o.dst d) σ' (fs ++ [f ++ made σ σ']) K) = some r →
        ∃ d E' σ' F, StepR M.P ops o E σ d E' σ' F ∧ evOps M c ops l E' σ' (fs ++ [F]) K = some r := by
      intro E0 hE hg h
      obtain ⟨d, σ', f, h1, h2⟩ := evOp_ok hc h
      exact ⟨d, _, σ', _, ⟨fun t => by rw [get_put, hE], .inl ⟨f, rfl, h2.congr hE, hg⟩⟩, h1⟩
    have skip : ∀ (E0 : Env) (j : Nat) (b : Bool) (g : Nat), (∀ t, E0.get t = E.get t) → o.guard = some (j, b) → guardTmp ops j = some g → (E.get g = .v (.bool (!b)) ∨ E.get g = .tup []) →
        evOps M c ops l (E0.put o.dst (.tup [])) σ (fs ++ [[]]) K = some r →
        ∃ d E' σ' F, StepR M.P ops o E σ d E' σ' F ∧ evOps M c ops l E' σ' (fs ++ [F]) K = some r := by
      intro E0 j b g hE h1 h2 h3 h
      exact ⟨_, _, σ, [], ⟨fun t => by rw [get_put, hE], .inr ⟨rfl, rfl, rfl, j, b, g, h1, h2, h3⟩⟩, h⟩
    split at h
    · rename_i hg
      exact done E (fun _ => rfl) (fun j b h => by rw [hg] at h; cases h) h
    · rename_i j b hg
      simp only [Option.bind_eq_some_iff] at h
      obtain ⟨g, h1, h⟩ := h
      have hE : ∀ t, E.get g = .v (.bool t) → ∀ u, Env.get ((g, .v (.bool t)) :: E) u = E.get u := fun t ht u => by
        rw [get_cons]
        by_cases e : g = u
        · subst e; rw [if_pos rfl, ht]
        · rw [if_neg e]
      unfold onGuard at h
      split at h
      · rename_i t ht
        have hgt : ∀ b', b' = t → ∀ j' b'', o.guard = some (j', b'') → b'' = b' → ∃ g, guardTmp ops j' = some g ∧ E.get g = .v (.bool b'') := fun b' e j' b'' hg' e' => by
          rw [hg] at hg'
          simp only [Option.some.injEq, Prod.mk.injEq] at hg'
          obtain ⟨rfl, rfl⟩ := hg'
          exact ⟨g, h1, by rw [e', e]; exact ht⟩
        cases t <;> cases b <;> simp only [cond_true, cond_false] at h
        · exact done _ (hE _ ht) (fun j' b'' hg' => by rw [hg] at hg'; cases hg'; exact ⟨g, h1, ht⟩) h
        · exact skip _ j true g (hE _ ht) hg h1 (.inl ht) h
        · exact skip _ j false g (hE _ ht) hg h1 (.inl ht) h
        · exact done _ (hE _ ht) (fun j' b'' hg' => by rw [hg] at hg'; cases hg'; exact ⟨g, h1, ht⟩) h
      · rename_i ht
        exact skip E j b g (fun _ => rfl) hg h1 (.inr ht) h
      · cases h

theorem mem_made {σ σ' : Sto} {q : Nat} : (q, true) ∈ made σ σ' ↔ σ.length ≤ q ∧ q < σ'.length := by
  simp only [made, mem_wr, List.mem_range'_1]
  omega

/-- Putting a value into a temporary. -/
theorem eval_put_self {a : Act} {d : Tmp} {u : Value} (h : d < a.tmps.size) : (a.put (some d) u).eval (.tmp d) = u := by
  simp [Act.eval, Act.put, h]

theorem eval_put_ne {a : Act} {dst : Option Tmp} {u : Value} {t : Tmp} (h : dst ≠ some t) : (a.put dst u).eval (.tmp t) = a.eval (.tmp t) :=
  Act.eval_put fun d hd e => h (by rw [hd]; cases e; rfl)

theorem put_size (a : Act) (dst : Option Tmp) (u : Value) : (a.put dst u).tmps.size = a.tmps.size := by cases dst <;> simp [Act.put]
theorem put_defers (a : Act) (dst : Option Tmp) (u : Value) : (a.put dst u).defers = a.defers := by cases dst <;> rfl

theorem yielded_of {ops : Array Oper} {a : Act} {j : Nat} {g : Tmp} (h : guardTmp ops j = some g) : yielded ops a.tmps j = (match a.eval (.tmp g) with | .bool b => some b | _ => none) := by
  have h' : (ops[j]?).bind (·.dst) = some g := h
  simp only [yielded, h', Option.bind_some, Act.eval]
  rw [Array.getD_eq_getD_getElem?]
  cases a.tmps[g]? with
  | none => rfl
  | some v => cases v <;> rfl

/-- One operation of a region, in any order. -/
theorem step_ok {P : Program} {ops : Array Oper} {i : Nat} {o : Oper} (hi : ops[i]? = some o) {E E' : Env} {σ σ' : Sto} {d : D} {F : Foot} (hs : StepR P ops o E σ d E' σ' F) {X : Cx} {a : Act} (hX : StoR X)
    (hop : ∀ x ∈ o.op.operands, OpdR X E a x) (hg : ∀ j b g, o.guard = some (j, b) → guardTmp ops j = some g → DR X (E.get g) (a.eval (.tmp g)))
    (hf : ∀ p ∈ F, X.τ p.1 = σ[p.1]?) {K : Act → World → Prop} {Q : Exit → Act → World → Prop} {ro : Option Nat}
    (hK : ∀ X' u, Ext X X' → StoR X' → DR X' d u → (X'.τ = fun q => if (q, true) ∈ F then σ'[q]? else X.τ q) → K (a.put o.dst u) X'.w) : wpOpIn (Fx ro) 0 P ops Q i K a X.w := by
  simp only [wpOpIn, hi]
  rcases hs.run with ⟨f, hF, hsem, hgd⟩ | ⟨hF, hσ, hd, j, b, g, hgu, hgt, hv⟩
  · have hw : Region.wanted o (yielded ops a.tmps) = true := by
      unfold Region.wanted
      cases hgu : o.guard with
      | none => rfl
      | some jb =>
        obtain ⟨j, b⟩ := jb
        obtain ⟨g, h1, h2⟩ := hgd j b hgu
        have h3 := hg j b g hgu h1
        rw [h2] at h3
        simp only [DR] at h3
        simp only [yielded_of h1]
        generalize a.eval (.tmp g) = v at h3
        cases h3
        simp
    rw [if_pos hw]
    refine hsem.sim X a hX hop (fun p hp => hf p (by rw [hF]; exact List.mem_append_left _ hp)) (fun q h1 h2 => ?_) ro _ _ fun X' u he hs' hp => ?_
    · have := hf (q, true) (by rw [hF]; exact List.mem_append_right _ (mem_made.2 ⟨h1, h2⟩))
      rw [this]
      exact List.getElem?_eq_none h1
    · refine hK X' u he hs' hp.1 ?_
      rw [hp.2]
      funext q
      have e : ((q, true) ∈ F) = ((q, true) ∈ f ∨ (σ.length ≤ q ∧ q < σ'.length)) := by
        rw [hF, List.mem_append, mem_made]
      simp only [e]
  · have h3 := hg j b g hgu hgt
    have hw : Region.wanted o (yielded ops a.tmps) = false := by
      unfold Region.wanted
      rw [hgu]
      simp only [yielded_of hgt]
      rcases hv with hv | hv
      · rw [hv] at h3
        simp only [DR] at h3
        generalize a.eval (.tmp g) = v at h3
        cases h3
        cases b <;> rfl
      · rw [hv] at h3
        simp only [DR] at h3
        obtain ⟨xs, h4, _⟩ := h3
        rw [h4]
        rfl
    rw [hw]
    simp only [Bool.false_eq_true, if_false]
    refine ⟨fun _ _ => trivial, hK X undef (Ext.refl X) hX ?_ ?_⟩
    · rw [hd]
      simp only [DR]
      exact ⟨#[], rfl, rfl, by simp [DRs]⟩
    · rw [hF]
      funext q
      simp

/-- What is known behind a region. -/
def RegionPost (X : Cx) (a : Act) (E : Env) (σ : Sto) (Q : Exit → Act → World → Prop) : Prop :=
  ∀ X' a', Ext X X' → StoR X' → (∀ q, X'.τ q = σ[q]?) → EnvR X' E a' → a'.tmps.size = a.tmps.size → a'.defers = a.defers → Q .normal a' X'.w

section region
variable {P : Program} {n : Nat} {ops : Array Oper} {Es : Nat → Env} {Ss : Nat → Sto} {Ds : Nat → D} {Fs : Nat → Foot}
  (hst : ∀ i o, ops[i]? = some o → StepR P ops o (Es i) (Ss i) (Ds i) (Es (i + 1)) (Ss (i + 1)) (Fs i))
include hst

theorem foot_len {i : Nat} {o : Oper} (hi : ops[i]? = some o) : (Ss i).length ≤ (Ss (i + 1)).length := by
  rcases (hst i o hi).run with ⟨f, _, h, _⟩ | ⟨_, h, _⟩
  · exact h.len
  · rw [h]; exact Nat.le_refl _

theorem foot_keep {i : Nat} {o : Oper} (hi : ops[i]? = some o) {q : Nat} (hq : (q, true) ∉ Fs i) : (Ss (i + 1))[q]? = (Ss i)[q]? := by
  rcases (hst i o hi).run with ⟨f, hF, h, _⟩ | ⟨_, h, _⟩
  · rw [hF, List.mem_append, not_or, mem_made] at hq
    rcases Nat.lt_or_ge q (Ss i).length with hl | hl
    · exact h.keep q hq.1 hl
    · have : ¬ q < (Ss (i + 1)).length := fun h => hq.2 ⟨hl, h⟩
      rw [List.getElem?_eq_none hl, List.getElem?_eq_none (by omega)]
  · rw [h]

/-- A region in the order of the text. -/
theorem region_text (hsz : ∀ (i : Nat) (o : Oper), ops[i]? = some o → ∀ d, o.dst = some d → d < n) {Q : Exit → Act → World → Prop} {ro : Option Nat} :
    ∀ (m i : Nat), i + m = ops.size → ∀ (X : Cx) (a : Act), StoR X → (∀ q, X.τ q = (Ss i)[q]?) → EnvR X (Es i) a → n ≤ a.tmps.size → RegionPost X a (Es ops.size) (Ss ops.size) Q →
      wpOpsIn (Fx ro) 0 P ops Q (List.range' i m) a X.w
  | 0, i, hm, X, a, hX, hτ, hE, _, hQ => by
    have : i = ops.size := by omega
    subst this
    simp only [List.range'_zero, wpOpsIn]
    exact hQ X a (Ext.refl X) hX hτ hE rfl rfl
  | m + 1, i, hm, X, a, hX, hτ, hE, hn, hQ => by
    rw [List.range'_succ, wpOpsIn_cons]
    have hi : ops[i]? = some (ops[i]'(by omega)) := Array.getElem?_eq_getElem (by omega)
    have hs := hst i _ hi
    refine step_ok hi hs hX (fun x _ => OpdR.of_get hX fun t _ => hE t) (fun j b g _ _ => hE g) (fun p _ => hτ p.1) fun X' u he hs' hd hτ' => ?_
    refine region_text hsz m (i + 1) (by omega) X' _ hs' (fun q => ?_) (fun t => ?_) (by rw [put_size]; exact hn) fun X'' a'' he' hs'' h1 h2 h3 h4 => hQ X'' a'' (he.trans he') hs'' h1 h2 (by rw [h3, put_size]) (by rw [h4, put_defers])
    · rw [hτ']
      show (if (q, true) ∈ Fs i then _ else _) = _
      by_cases hq : (q, true) ∈ Fs i
      · rw [if_pos hq]
      · rw [if_neg hq, foot_keep hst hi hq, hτ q]
    · rw [hs.get t]
      by_cases e : (ops[i]'(by omega)).dst = some t
      · rw [if_pos e, e, eval_put_self (Nat.lt_of_lt_of_le (hsz i _ hi t e) hn)]
        exact hd
      · rw [if_neg e, eval_put_ne e]
        exact (hE t).ext hX he
end region

end Go.Ab
